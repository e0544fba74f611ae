import Derived.Test.YtcegihniiokijaaGreatProg
import Derived.Test.YtcegihniiokijaaGreatGEncCToULDefs
import Derived.Test.YtcegihniiokijaaGreatCLWalk
import Derived.Test.YtcegihniiokijaaGreatULWalkP0
namespace Go.Proofs.YtcegihniiokijaaGreat
open Go Go.Abs RC
attribute [local irreducible] Go.Abs.Cc
set_option maxRecDepth 100000
set_option maxHeartbeats 4000000

theorem YS:GC Tryz.prog 134=true:=by kernel_rfl
theorem W3:GC Tryz.prog 30=true:=by kernel_rfl
theorem aE:GC Tryz.prog 55=true:=by kernel_rfl
theorem ZR:GC Tryz.prog 57=true:=by kernel_rfl
theorem cn:GC Tryz.prog 71=true:=by kernel_rfl
theorem aW:GC Tryz.prog 98=true:=by kernel_rfl
theorem Yv:HH Tryz.prog 134=some [(0,1)]:=by kernel_rfl
theorem WX:HH Tryz.prog 30=some [(0,1),(1,1)]:=by kernel_rfl
theorem aB:HH Tryz.prog 55=some [(0,1),(1,1)]:=by kernel_rfl
theorem Y2:HH Tryz.prog 57=some [(0,1),(1,1),(2,1),(3,2)]:=by kernel_rfl
theorem cj:HH Tryz.prog 71=some [(0,1),(1,1),(2,1),(3,1),(4,1)]:=by kernel_rfl
theorem aJ:HH Tryz.prog 98=some [(0,1),(1,1),(2,1)]:=by kernel_rfl
theorem Mn:CF Tryz.prog 74=some ⟨37,1,24,[.sl []]⟩:=by kernel_rfl
theorem YD:Aq Tryz.prog 104=true:=by kernel_rfl
theorem bH:Aq Tryz.prog 112=true:=by kernel_rfl
theorem bz:Aq Tryz.prog 114=true:=by kernel_rfl
theorem bN:Aq Tryz.prog 157=true:=by kernel_rfl
theorem bJ:Aq Tryz.prog 159=true:=by kernel_rfl
theorem cE:Aq Tryz.prog 165=true:=by kernel_rfl
theorem X9:Aq Tryz.prog 166=true:=by kernel_rfl
theorem YV:Aq Tryz.prog 170=true:=by kernel_rfl
theorem bk:Aq Tryz.prog 171=true:=by kernel_rfl
theorem aw:Aq Tryz.prog 173=true:=by kernel_rfl
theorem cx:Aq Tryz.prog 28=true:=by kernel_rfl
theorem dX:Aq Tryz.prog 49=true:=by kernel_rfl
theorem dB:Aq Tryz.prog 55=true:=by kernel_rfl
theorem aK:Aq Tryz.prog 66=true:=by kernel_rfl
theorem di:Aq Tryz.prog 67=true:=by kernel_rfl
theorem cq:Aq Tryz.prog 68=true:=by kernel_rfl
theorem dM:Aq Tryz.prog 99=true:=by kernel_rfl

noncomputable abbrev BL (p2:Step):Go.Abs.Row:=⟨0,71,5,[[(i64 p2.op),(i64 p2.num),(i64 p2.Ax),(ls eI p2.args),(ls A2 p2.kids)]]⟩
noncomputable abbrev BM (p0:Aj):Go.Abs.Row:=⟨0,30,2,[[(ls AG p0.decls),(ls AT p0.AD)]]⟩
noncomputable abbrev By:Go.Abs.Row:=⟨0,98,3,[[(i64 0),(i64 0),.zc]]⟩
noncomputable abbrev Xm (c74:Int) (p1:(List Int)):List (Nat×Go.Abs.AV):=[(1,(ls eI p1)),(5,(.ptr 0 0 0 0)),(7,(.ptr 1 0 0 0)),(152,(.ptr 2 0 0 0)),(154,(ls eI p1)),(157,(.BF (eI c74) 0))]
noncomputable abbrev XO (p1:(List Int)) (p2:Step):List (Nat×Go.Abs.AV):=[(1,(ls eI p1)),(5,(.ptr 0 0 0 0)),(7,(.ptr 1 0 0 0)),(152,(.ptr 2 0 0 0)),(154,(ls eI p1)),(156,(ls eI p2.args))]
noncomputable abbrev Xj (p1:(List Int)):List (Nat×Go.Abs.AV):=[(1,(ls eI p1)),(5,(.ptr 0 0 0 0)),(7,(.ptr 1 0 0 0)),(152,(.ptr 2 0 0 0)),(154,(ls eI p1)),(155,(.ptr 0 0 0 3))]
noncomputable abbrev Xg (c74:Int) (p1:(List Int)):List (Nat×Go.Abs.AV):=[(1,(ls eI p1)),(5,(.ptr 0 0 0 0)),(7,(.ptr 1 0 0 0)),(152,(.ptr 2 0 0 0)),(154,(ls eI p1)),(158,(i64 c74))]
noncomputable abbrev Xh (c75:Int) (p1:(List Int)):List (Nat×Go.Abs.AV):=[(1,(ls eI p1)),(5,(.ptr 0 0 0 0)),(7,(.ptr 1 0 0 0)),(152,(.ptr 2 0 0 0)),(159,(.BF (eI c75) 0))]
noncomputable abbrev ZK (c74:Int) (p0:Aj) (p1:(List Int)):List (Nat×Go.Abs.AV):=[(1,(ls eI p1)),(5,(.ptr 0 0 0 0)),(7,(.ptr 1 0 0 0)),(153,(ls AG p0.decls)),(154,(ls eI p1)),(157,(.BF (eI c74) 0))]
noncomputable abbrev Y4 (p0:Aj) (p1:(List Int)) (p2:Step):List (Nat×Go.Abs.AV):=[(1,(ls eI p1)),(5,(.ptr 0 0 0 0)),(7,(.ptr 1 0 0 0)),(153,(ls AG p0.decls)),(154,(ls eI p1)),(156,(ls eI p2.args))]
noncomputable abbrev Uw (p0:Aj) (p1:(List Int)):List (Nat×Go.Abs.AV):=[(1,(ls eI p1)),(5,(.ptr 0 0 0 0)),(7,(.ptr 1 0 0 0)),(153,(ls AG p0.decls)),(154,(ls eI p1)),(155,(.ptr 0 0 0 3))]
noncomputable abbrev Ug (c74:Int) (p0:Aj) (p1:(List Int)):List (Nat×Go.Abs.AV):=[(1,(ls eI p1)),(5,(.ptr 0 0 0 0)),(7,(.ptr 1 0 0 0)),(153,(ls AG p0.decls)),(154,(ls eI p1)),(158,(i64 c74))]
noncomputable abbrev TI (c75:Int) (p1:(List Int)):List (Nat×Go.Abs.AV):=[(1,(ls eI p1)),(5,(.ptr 0 0 0 0)),(7,(.ptr 1 0 0 0)),(152,(.ptr 2 0 0 0)),(160,(i64 c75))]
noncomputable abbrev U2 (c75:Int) (p0:Aj) (p1:(List Int)):List (Nat×Go.Abs.AV):=[(1,(ls eI p1)),(5,(.ptr 0 0 0 0)),(7,(.ptr 1 0 0 0)),(153,(ls AG p0.decls)),(159,(.BF (eI c75) 0))]
noncomputable abbrev Ud (c75:Int) (p0:Aj) (p1:(List Int)):List (Nat×Go.Abs.AV):=[(1,(ls eI p1)),(5,(.ptr 0 0 0 0)),(7,(.ptr 1 0 0 0)),(153,(ls AG p0.decls)),(160,(i64 c75))]
noncomputable abbrev VE (p1:(List Int)):List (Nat×Go.Abs.AV):=[(1,(ls eI p1)),(5,(.ptr 0 0 0 0)),(7,(.ptr 1 0 0 0)),(152,(.ptr 2 0 0 0)),(154,(ls eI p1))]
noncomputable abbrev W1 (c74:Int) (p0:Aj) (p1:(List Int)):List (Nat×Go.Abs.AV):=[(1,(ls eI p1)),(5,(.ptr 0 0 0 0)),(153,(ls AG p0.decls)),(154,(ls eI p1)),(157,(.BF (eI c74) 0))]
noncomputable abbrev Wm (p0:Aj) (p1:(List Int)) (p2:Step):List (Nat×Go.Abs.AV):=[(1,(ls eI p1)),(5,(.ptr 0 0 0 0)),(153,(ls AG p0.decls)),(154,(ls eI p1)),(156,(ls eI p2.args))]
noncomputable abbrev Wq (p0:Aj) (p1:(List Int)):List (Nat×Go.Abs.AV):=[(1,(ls eI p1)),(5,(.ptr 0 0 0 0)),(153,(ls AG p0.decls)),(154,(ls eI p1)),(155,(.ptr 0 0 0 3))]
noncomputable abbrev Wv (p0:Aj) (p1:(List Int)):List (Nat×Go.Abs.AV):=[(1,(ls eI p1)),(5,(.ptr 0 0 0 0)),(7,(.ptr 1 0 0 0)),(153,(ls AG p0.decls)),(154,(ls eI p1))]
noncomputable abbrev We (c74:Int) (p1:(List Int)):List (Nat×Go.Abs.AV):=[(1,(ls eI p1)),(5,(.ptr 0 0 0 0)),(152,(.ptr 1 0 0 0)),(154,(ls eI p1)),(157,(.BF (eI c74) 0))]
noncomputable abbrev W0 (c74:Int) (p0:Aj) (p1:(List Int)):List (Nat×Go.Abs.AV):=[(1,(ls eI p1)),(5,(.ptr 0 0 0 0)),(153,(ls AG p0.decls)),(154,(ls eI p1)),(158,(i64 c74))]
noncomputable abbrev WU (p1:(List Int)) (p2:Step):List (Nat×Go.Abs.AV):=[(1,(ls eI p1)),(5,(.ptr 0 0 0 0)),(152,(.ptr 1 0 0 0)),(154,(ls eI p1)),(156,(ls eI p2.args))]
noncomputable abbrev W7 (p1:(List Int)):List (Nat×Go.Abs.AV):=[(1,(ls eI p1)),(5,(.ptr 0 0 0 0)),(152,(.ptr 1 0 0 0)),(154,(ls eI p1)),(155,(.ptr 0 0 0 3))]
noncomputable abbrev Wr (c74:Int) (p1:(List Int)):List (Nat×Go.Abs.AV):=[(1,(ls eI p1)),(5,(.ptr 0 0 0 0)),(152,(.ptr 1 0 0 0)),(154,(ls eI p1)),(158,(i64 c74))]
noncomputable abbrev Yr (p1:(List Int)) (p2:Step):List (Nat×Go.Abs.AV):=[(1,(ls eI p1)),(3,(.ptr 0 0 0 0)),(5,(.ptr 1 0 0 0)),(40,(i64 p2.op)),(52,(.bool true))]
noncomputable abbrev WW (c75:Int) (p0:Aj) (p1:(List Int)):List (Nat×Go.Abs.AV):=[(1,(ls eI p1)),(5,(.ptr 0 0 0 0)),(153,(ls AG p0.decls)),(159,(.BF (eI c75) 0))]
noncomputable abbrev Wg (c75:Int) (p1:(List Int)):List (Nat×Go.Abs.AV):=[(1,(ls eI p1)),(5,(.ptr 0 0 0 0)),(152,(.ptr 1 0 0 0)),(159,(.BF (eI c75) 0))]
noncomputable abbrev W5 (c75:Int) (p0:Aj) (p1:(List Int)):List (Nat×Go.Abs.AV):=[(1,(ls eI p1)),(5,(.ptr 0 0 0 0)),(153,(ls AG p0.decls)),(160,(i64 c75))]
noncomputable abbrev Y8 (c74:Int) (p1:(List Int)):List (Nat×Go.Abs.AV):=[(1,(ls eI p1)),(3,(.ptr 0 0 0 0)),(5,(.ptr 1 0 0 0)),(7,(.ptr 2 0 0 0)),(154,(ls eI p1)),(157,(.BF (eI c74) 0))]
noncomputable abbrev X8 (p1:(List Int)) (p2:Step):List (Nat×Go.Abs.AV):=[(1,(ls eI p1)),(3,(.ptr 0 0 0 0)),(5,(.ptr 1 0 0 0)),(7,(.ptr 2 0 0 0)),(154,(ls eI p1)),(156,(ls eI p2.args))]
noncomputable abbrev YB (p1:(List Int)):List (Nat×Go.Abs.AV):=[(1,(ls eI p1)),(3,(.ptr 0 0 0 0)),(5,(.ptr 1 0 0 0)),(7,(.ptr 2 0 0 0)),(154,(ls eI p1)),(155,(.ptr 1 0 0 3))]
noncomputable abbrev YH (p1:(List Int)):List (Nat×Go.Abs.AV):=[(1,(ls eI p1)),(3,(.ptr 0 0 0 0)),(5,(.ptr 1 0 0 0)),(174,(.bool true))]
noncomputable abbrev W4 (c75:Int) (p1:(List Int)):List (Nat×Go.Abs.AV):=[(1,(ls eI p1)),(5,(.ptr 0 0 0 0)),(152,(.ptr 1 0 0 0)),(160,(i64 c75))]
noncomputable abbrev YE (c74:Int) (p1:(List Int)):List (Nat×Go.Abs.AV):=[(1,(ls eI p1)),(3,(.ptr 0 0 0 0)),(5,(.ptr 1 0 0 0)),(7,(.ptr 2 0 0 0)),(154,(ls eI p1)),(158,(i64 c74))]
noncomputable abbrev ZF (c75:Int) (p1:(List Int)):List (Nat×Go.Abs.AV):=[(1,(ls eI p1)),(3,(.ptr 0 0 0 0)),(5,(.ptr 1 0 0 0)),(7,(.ptr 2 0 0 0)),(159,(.BF (eI c75) 0))]
theorem O5 {N:Nat} {rec_spec_blockType:Aj→(List Int)→Block→Option (Int)} (hrec_spec_blockType :∀{p0:Aj} {p1:(List Int)} {p2:Block} {r:Int},rec_spec_blockType p0 p1 p2=some r→Ae Tryz.prog 100 [(.agg [(ls AG p0.decls),(ls AT p0.AD)]),(ls eI p1),(.agg [(ls Al p2.steps),(i64 p2.result)])] [] (fun v st=>v=(i64 r)∧st=[])) {p0:Aj} {p1:(List Int)} {p2:Step} {r:Int} (h0:Dz N rec_spec_blockType p0 p1 p2=some r):Ae Tryz.prog 114 [(.agg [(ls AG p0.decls),(ls AT p0.AD)]),(ls eI p1),(.agg [(i64 p2.op),(i64 p2.num),(i64 p2.Ax),(ls eI p2.args),(ls A2 p2.kids)])] [] (fun v st=>v=(i64 r)∧st=[]):=by
 unfold Dz at h0
 refine ai Tryz.func114 U U U U (sr U fun K1 hK1=>BI (m:=0) (st':=[(BM p0)]) Ah U U U U U (BI (m:=1) (st':=[(BM p0),(BL p2)]) Ah U U U U U (zq tb U (dn hK1 U (AE fun K2 hK2=>AE fun K3 hK3=>bs h0 fun o5 h1 h0=>?_)))))
 have M5 :∀(t4:Bool),o5=t4→∀s,Wk 0 s ⟨183,Ad [(1,(ls eI p1)),(3,(.ptr 0 0 0 0)),(5,(.ptr 1 0 0 0)),(38,(.bool t4))],[(BM p0),(BL p2)]⟩→K3 s:=by
  intro t4 hq s hw
  subst o5
  try dsimp only at h0
  refine hK3 _ (AS hw ?_)
  refine ci h0 U ?_ ?_ <;> clear h0
  ·intro b6 h0
   refine zr tb U U ?_
   replace h0:=Sh.AA h0
   subst r
   exact AK (xr (Ai [(6,(i64 (-1)))] U))
  ·intro b6 h0
   refine AI (hK2 _ (AE fun K8 hK8=>?_))
   obtain⟨o9,h1,h0⟩:=Sh.A8 h0
   have M9 :∀(_:Unit),o9=Sum.inr ()→∀s,Wk 0 s ⟨183,Ad [],[]⟩→K8 s:=by
    intro _ hq s hw
    subst o9
    try dsimp only at h0
    refine hK8 _ (AS hw (zr tb U U ?_))
    replace h0:=Sh.AA h0
    subst r
    exact AK (xr (AF (L:=[(6,(i64 (-1)))]) ⟨.rfl,trivial⟩))
   refine zr tb U U (Aa (zr tb U U ?_))
   refine ci h1 U ?_ ?_ <;> clear h1
   ·intro b13 h1
    refine AE fun K14 hK14=>bs h1 fun o16 h2 h1=>?_
    have M16 :∀(t15:Bool),o16=t15→∀s,Wk 0 s ⟨183,Ad [(51,(.bool t15))],[]⟩→K14 s:=by
     intro t15 hq s hw
     subst o16
     try dsimp only at h1
     refine hK14 _ (AS hw ?_)
     refine ci h1 U ?_ ?_ <;> clear h1
     ·intro b17 h1
      refine zr tb U U ?_
      replace h1:=Sh.AA h1
      subst o9
      try dsimp only[id] at h0
      replace h0:=Sh.AA h0
      subst r
      exact AK (xr (AF (L:=[(6,(i64 0))]) ⟨.rfl,trivial⟩))
     ·intro b17 h1
      exact AI (M9 () (Sh.AA h1).symm _ (AN U))
    refine AJ U (zm tb 2 U (zl tb U U (zm tb 2 U ?_)))
    rcases Sh.As h2 with ⟨b19,h2⟩ | ⟨b19,h2⟩
    ·exact zg tb b19 U (zg tb b19 U (bs h2 fun q20 gq20 h2=>zd b19 Gs (BX gq20) rfl U U U (zt b19 U (AB (M16 q20 (Sh.AA h2).symm _ (Ai _ U))))))
    ·exact zs b19 U (zs b19 U (zs b19 U (zf b19 U (AB (M16 false (Sh.AA h2).symm _ (Ai _ U))))))
   ·intro b13 h1
    refine AE fun K21 hK21=>bs h1 fun o23 h2 h1=>?_
    have M23 :∀(t22:Bool),o23=t22→∀s,Wk 0 s ⟨183,Ad [(1,(ls eI p1)),(3,(.ptr 0 0 0 0)),(5,(.ptr 1 0 0 0)),(40,(i64 p2.op)),(52,(.bool t22))],[(BM p0),(BL p2)]⟩→K21 s:=by
     intro t22 hq s hw
     subst o23
     try dsimp only at h1
     refine hK21 _ (AS hw ?_)
     refine ci h1 U ?_ ?_ <;> clear h1
     ·intro b24 h1
      refine sr U fun K25 hK25=>zm tb 3 U ?_
      refine DV (m:=2) (st':=[(BM p0),(BL p2),(ro 0 3 1 eI [(0:Int),0])]) (l:=[(0:Int),0]) (enc:=eI) Ah BN (by decide) rfl U U U U U ?_
      refine Az (Wk.E5 (L:=[(57,(ls eI p1)),(59,(ls eI p2.args)),(60,(ls eI [(0:Int),0]))]) (st':=[(BM p0),(BL p2),⟨1,3,1,[]⟩]) (id:=2) rfl (show 0≤2 by decide) (Ak fun _=>U) ⟨.rfl,.rfl,(.E5 U),trivial⟩ U) (bs h1 fun q26 gq26 h1=>zc ND (Em gq26) rfl U U (dn hK25 U ?_))
      refine ci h1 U ?_ ?_ <;> clear h1
      ·intro b27 h1
       refine zr tb U U ?_
       replace h1:=Sh.AA h1
       subst o9
       try dsimp only[id] at h0
       replace h0:=Sh.AA h0
       subst r
       exact AK (xr (Ai [(6,(i64 0))] U))
      ·intro b27 h1
       exact AI (M9 () (Sh.AA h1).symm _ (Ai _ U))
     ·intro b24 h1
      refine zr tb U U ?_
      refine ci h1 U ?_ ?_ <;> clear h1
      ·intro b30 h1
       refine sr U fun K31 hK31=>zm tb 3 U ?_
       refine DV (m:=2) (st':=[(BM p0),(BL p2),(ro 0 3 1 eI [(0:Int)])]) (l:=[(0:Int)]) (enc:=eI) Ah BN (by decide) rfl U U U U U ?_
       refine Az (Wk.E5 (L:=[(64,(ls eI p1)),(66,(ls eI p2.args)),(67,(ls eI [(0:Int)]))]) (st':=[(BM p0),(BL p2),⟨1,3,1,[]⟩]) (id:=2) rfl (show 0≤2 by decide) (Ak fun _=>U) ⟨.rfl,.rfl,(.E5 U),trivial⟩ U) (bs h1 fun q32 gq32 h1=>zc ND (Em gq32) rfl U U (dn hK31 U ?_))
       refine ci h1 U ?_ ?_ <;> clear h1
       ·intro b33 h1
        refine zr tb U U ?_
        replace h1:=Sh.AA h1
        subst o9
        try dsimp only[id] at h0
        replace h0:=Sh.AA h0
        subst r
        exact AK (xr (Ai [(6,(i64 0))] U))
       ·intro b33 h1
        exact AI (M9 () (Sh.AA h1).symm _ (Ai _ U))
      ·intro b30 h1
       refine zr tb U U ?_
       refine ci h1 U ?_ ?_ <;> clear h1
       ·intro b36 h1
        refine AE fun K37 hK37=>bs h1 fun o39 h2 h1=>?_
        have M39 :∀(t38:Bool),o39=t38→∀s,Wk 0 s ⟨183,Ad [(3,(.ptr 0 0 0 0)),(5,(.ptr 1 0 0 0)),(87,(.bool t38))],[(BM p0),(BL p2)]⟩→K37 s:=by
         intro t38 hq s hw
         subst o39
         try dsimp only at h1
         refine hK37 _ (AS hw ?_)
         refine ci h1 U ?_ ?_ <;> clear h1
         ·intro b40 h1
          refine sr U fun K41 hK41=>zm tb 4 U (bs h1 fun q42 gq42 h1=>zc Vc (I1 gq42) rfl U U (zq tb U (dn hK41 U ?_)))
          replace h1:=Sh.AA h1
          subst o9
          try dsimp only[id] at h0
          replace h0:=Sh.AA h0
          subst r
          exact AK (xr (Ai [(6,(i64 q42))] U))
         ·intro b40 h1
          exact AI (M9 () (Sh.AA h1).symm _ (Ai _ U))
        refine CJ 16 (by kernel_rfl) (by kernel_rfl) (by rfl) ?_
        iterate 4 refine yq tb rfl ?_
        refine bs h2 fun q43 gq43 h2=>CR (v:=(i64 q43)) Ah Vc (I1 gq43) rfl U U ?_
        iterate 2 refine yq tb rfl ?_
        rcases Sh.As h2 with ⟨b44,h2⟩ | ⟨b44,h2⟩
        ·refine yg tb b44 U ?_
         iterate 6 refine yg tb b44 rfl ?_
         exact bs h2 fun q45 gq45 h2=>CR (v:=(ls eI q45)) (Bb U U b44) ZG (Jy gq45) rfl U U (bs h2 fun q46 gq46 h2=>CR (v:=(.bool q46)) (Bb U U b44) ND (Em gq46) rfl U U (BS (zt b44 U (AB (M39 q46 (Sh.AA h2).symm _ (AN U))))))
        ·refine ys b44 U ?_
         iterate 8 refine ys b44 rfl ?_
         exact BS (zf b44 U (AB (M39 false (Sh.AA h2).symm _ (AN U))))
       ·intro b36 h1
        refine zr tb U U ?_
        refine ci h1 U ?_ ?_ <;> clear h1
        ·intro b48 h1
         refine sr U fun K49 hK49=>zm tb 3 U ?_
         refine DV (m:=2) (st':=[(BM p0),(BL p2),(ro 0 3 1 eI [(0:Int)])]) (l:=[(0:Int)]) (enc:=eI) Ah BN (by decide) rfl U U U U U ?_
         refine Az (Wk.E5 (L:=[(1,(ls eI p1)),(3,(.ptr 0 0 0 0)),(5,(.ptr 1 0 0 0)),(95,(ls eI p1)),(97,(ls eI p2.args)),(98,(ls eI [(0:Int)]))]) (st':=[(BM p0),(BL p2),⟨1,3,1,[]⟩]) (id:=2) rfl (show 0≤2 by decide) (Ak fun _=>U) ⟨.rfl,.rfl,.rfl,.rfl,.rfl,(.E5 U),trivial⟩ U) (bs h1 fun q50 gq50 h1=>zc ND (Em gq50) rfl U U (dn hK49 U ?_))
         refine ci h1 U ?_ ?_ <;> clear h1
         ·intro b51 h1
          refine sr U fun K52 hK52=>zm tb 3 U (bs h1 fun q53 gq53 h1=>zc YV (KU hrec_spec_blockType gq53) rfl U U (zq tb U (dn hK52 U ?_)))
          replace h1:=Sh.AA h1
          subst o9
          try dsimp only[id] at h0
          replace h0:=Sh.AA h0
          subst r
          exact AK (xr (Ai [(6,(i64 q53))] U))
         ·intro b51 h1
          exact AI (M9 () (Sh.AA h1).symm _ (Ai _ U))
        ·intro b48 h1
         refine zr tb U U ?_
         refine ci h1 U ?_ ?_ <;> clear h1
         ·intro b55 h1
          refine sr U fun K56 hK56=>zm tb 5 U ?_
          refine DV (m:=2) (st':=[(BM p0),(BL p2),(ro 0 3 1 eI [p2.num])]) (l:=[p2.num]) (enc:=eI) Ah BN (by decide) rfl U U U U U ?_
          refine Az (Wk.E5 (L:=[(1,(ls eI p1)),(3,(.ptr 0 0 0 0)),(5,(.ptr 1 0 0 0)),(106,(ls eI p1)),(108,(ls eI p2.args)),(111,(ls eI [p2.num]))]) (st':=[(BM p0),(BL p2),⟨1,3,1,[]⟩]) (id:=2) rfl (show 0≤2 by decide) (Ak fun _=>U) ⟨.rfl,.rfl,.rfl,.rfl,.rfl,(.E5 U),trivial⟩ U) (bs h1 fun q57 gq57 h1=>zc ND (Em gq57) rfl U U (dn hK56 U ?_))
          refine ci h1 U ?_ ?_ <;> clear h1
          ·intro b58 h1
           refine sr U fun K59 hK59=>zm tb 3 U (bs h1 fun q60 gq60 h1=>zc YV (KU hrec_spec_blockType gq60) rfl U U (zq tb U (dn hK59 U ?_)))
           replace h1:=Sh.AA h1
           subst o9
           try dsimp only[id] at h0
           replace h0:=Sh.AA h0
           subst r
           exact AK (xr (Ai [(6,(i64 q60))] U))
          ·intro b58 h1
           exact AI (M9 () (Sh.AA h1).symm _ (Ai _ U))
         ·intro b55 h1
          refine AE fun K61 hK61=>bs h1 fun o63 h2 h1=>?_
          have M63 :∀(t62:Bool),o63=t62→∀s,Wk 0 s ⟨183,Ad [(1,(ls eI p1)),(3,(.ptr 0 0 0 0)),(5,(.ptr 1 0 0 0)),(40,(i64 p2.op)),(117,(.bool t62))],[(BM p0),(BL p2)]⟩→K61 s:=by
           intro t62 hq s hw
           subst o63
           try dsimp only at h1
           refine hK61 _ (AS hw ?_)
           refine ci h1 U ?_ ?_ <;> clear h1
           ·intro b64 h1
            refine sr U fun K65 hK65=>zm tb 3 U (bs h1 fun q66 gq66 h1=>zc bk (MT gq66) rfl U U (zq tb U (dn hK65 U ?_)))
            replace h1:=Sh.AA h1
            subst o9
            try dsimp only[id] at h0
            replace h0:=Sh.AA h0
            subst r
            exact AK (xr (Ai [(6,(i64 q66))] U))
           ·intro b64 h1
            refine zr tb U U ?_
            refine ci h1 U ?_ ?_ <;> clear h1
            ·intro b68 h1
             refine AE fun K69 hK69=>bs h1 fun o71 h2 h1=>?_
             have M71 :∀(t70:Bool),o71=t70→∀s,Wk 0 s ⟨183,Ad [(1,(ls eI p1)),(3,(.ptr 0 0 0 0)),(5,(.ptr 1 0 0 0)),(151,(.bool t70))],[(BM p0),(BL p2)]⟩→K69 s:=by
              intro t70 hq s hw
              subst o71
              try dsimp only at h1
              refine hK69 _ (AS hw ?_)
              refine ci h1 U ?_ ?_ <;> clear h1
              ·intro b72 h1
               refine AE fun K73 hK73=>?_
               refine KP (by kernel_rfl) ?_
               refine bs h1 fun c74 gc74 h1=>bs h1 fun c75 gc75 h1=>bs h1 fun c76 gc76 h1=>NT fun A77 hA77=>?_
               have A77_0123456789abcd:A77 0 #[true,true,true,true,true,true,true,true,true,true,true,true,true,true] ⟨183,Ad [(1,(ls eI p1)),(5,(.ptr 0 0 0 0)),(7,(.ptr 1 0 0 0))],[(BL p2),⟨0,98,3,[(AG c76)]⟩]⟩:=(hA77 _ _ _).2 (by
                refine LW U (by kernel_rfl) ?_
                refine hK73 _ (AE fun K78 hK78=>?_)
                refine CJ 7 (by kernel_rfl) (by kernel_rfl) (by rfl) ?_
                iterate 3 refine yq tb rfl ?_
                refine bs h1 fun l79 gl79 h1=>Yg (i:=1) (j:=Sh.len p2.args) Ah BN U U U (fun _=>U) gl79 ?_
                iterate 2 refine yq tb rfl ?_
                refine VB (l:=[c76.from_]) (enc:=eI) Ah BN (by decide) rfl U U U U (Ak fun _=>U) ?_
                refine BS (bs h1 fun q80 gq80 h1=>zc ND (Em gq80) rfl U U (dn hK78 U ?_))
                refine ci h1 U ?_ ?_ <;> clear h1
                ·intro b81 h1
                 refine zr tb U U ?_
                 replace h1:=Sh.AA h1
                 subst o9
                 try dsimp only[id] at h0
                 replace h0:=Sh.AA h0
                 subst r
                 exact AK (xr (Ai [(6,(i64 c76.to))] U))
                ·intro b81 h1
                 exact AI (M9 () (Sh.AA h1).symm _ (by refine Wk.trans (AP (L:=[]) (st':=[]) (st1:=[]) [] U .nil (by decide) rfl U .nil trivial) ?_;exact AF (L:=[]) trivial)))
               have A77_0123456789abc:A77 1 #[true,true,true,true,true,true,true,true,true,true,true,true,true,false] ⟨183,Ad [(1,(ls eI p1)),(5,(.ptr 0 0 0 0)),(7,(.ptr 1 0 0 0)),(163,(.agg (AG c76)))],[(BL p2),By]⟩:=(hA77 _ _ _).2 (by
                refine An [13] U (by kernel_rfl) (by decide) ⟨?_,trivial⟩
                ·refine A5.of (i:=13) rfl U (by rfl) ?_
                 refine A3 (st':=[(BL p2),⟨0,98,3,[(AG c76)]⟩]) Ah Hm U U U U U U (show 0+3≤3 by decide) rfl (AB ⟨U,?_⟩)
                 exact AH (AF (L:=[(1,(ls eI p1)),(5,(.ptr 0 0 0 0)),(7,(.ptr 1 0 0 0))]) ⟨.rfl,.rfl,.rfl,trivial⟩) (AR (by kernel_rfl) ((hA77 _ _ _).1 A77_0123456789abcd)) rfl)
               have A77_0123456789ab:A77 2 #[true,true,true,true,true,true,true,true,true,true,true,true,false,false] ⟨183,Ad [(1,(ls eI p1)),(5,(.ptr 0 0 0 0)),(163,(.agg (AG c76)))],[(BL p2)]⟩:=(hA77 _ _ _).2 (by
                refine An [12] U (by kernel_rfl) (by decide) ⟨?_,trivial⟩
                ·refine A5.of (i:=12) rfl U (by rfl) ?_
                 refine Ap (m:=1) (st':=[(BL p2),By]) Ah B2 U U (AB ⟨U,?_⟩)
                 exact AH (AF (L:=[(1,(ls eI p1)),(5,(.ptr 0 0 0 0)),(7,(.ptr 1 0 0 0)),(163,(.agg (AG c76)))]) ⟨.rfl,.rfl,.rfl,.rfl,trivial⟩) (AR (by kernel_rfl) ((hA77 _ _ _).1 A77_0123456789abc)) rfl)
               have A77_0123456789ac:A77 2 #[true,true,true,true,true,true,true,true,true,true,true,false,true,false] ⟨183,Ad [(1,(ls eI p1)),(5,(.ptr 0 0 0 0)),(7,(.ptr 1 0 0 0)),(162,(.BF (AG c76) 0))],[(BL p2),By]⟩:=(hA77 _ _ _).2 (by
                refine An [11] U (by kernel_rfl) (by decide) ⟨?_,trivial⟩
                ·refine A5.of (i:=11) rfl U (by rfl) ?_
                 refine zq tb U (AB ⟨U,?_⟩)
                 exact AH (AF (L:=[(1,(ls eI p1)),(5,(.ptr 0 0 0 0)),(7,(.ptr 1 0 0 0)),(163,(.agg (AG c76)))]) ⟨.rfl,.rfl,.rfl,.rfl,trivial⟩) (AR (by kernel_rfl) ((hA77 _ _ _).1 A77_0123456789abc)) rfl)
               have A77_0123456789a:A77 3 #[true,true,true,true,true,true,true,true,true,true,true,false,false,false] ⟨183,Ad [(1,(ls eI p1)),(5,(.ptr 0 0 0 0)),(162,(.BF (AG c76) 0))],[(BL p2)]⟩:=(hA77 _ _ _).2 (by
                refine An [11,12] U (by kernel_rfl) (by decide) ⟨?_,?_,trivial⟩
                ·refine A5.of (i:=11) rfl U (by rfl) ?_
                 refine zq tb U (AB ⟨U,?_⟩)
                 exact AH (AF (L:=[(1,(ls eI p1)),(5,(.ptr 0 0 0 0)),(163,(.agg (AG c76)))]) ⟨.rfl,.rfl,.rfl,trivial⟩) (AR (by kernel_rfl) ((hA77 _ _ _).1 A77_0123456789ab)) rfl
                ·refine A5.of (i:=12) rfl U (by rfl) ?_
                 refine Ap (m:=1) (st':=[(BL p2),By]) Ah B2 U U (AB ⟨U,?_⟩)
                 exact AH (AF (L:=[(1,(ls eI p1)),(5,(.ptr 0 0 0 0)),(7,(.ptr 1 0 0 0)),(162,(.BF (AG c76) 0))]) ⟨.rfl,.rfl,.rfl,.rfl,trivial⟩) (AR (by kernel_rfl) ((hA77 _ _ _).1 A77_0123456789ac)) rfl)
               have A77_0123456789c:A77 3 #[true,true,true,true,true,true,true,true,true,true,false,false,true,false] ⟨183,Ad [(1,(ls eI p1)),(5,(.ptr 0 0 0 0)),(7,(.ptr 1 0 0 0)),(153,(ls AG p0.decls)),(161,(i64 (Sh.w (c75 - 1))))],[(BL p2),By]⟩:=(hA77 _ _ _).2 (by
                refine An [10] U (by kernel_rfl) (by decide) ⟨?_,trivial⟩
                ·refine A5.of (i:=10) rfl U (by rfl) ?_
                 refine zx DA gc76 U U U (AB ⟨U,?_⟩)
                 exact AH (AF (L:=[(1,(ls eI p1)),(5,(.ptr 0 0 0 0)),(7,(.ptr 1 0 0 0)),(162,(.BF (AG c76) 0))]) ⟨.rfl,.rfl,.rfl,.rfl,trivial⟩) (AR (by kernel_rfl) ((hA77 _ _ _).1 A77_0123456789ac)) rfl)
               have A77_0123456789:A77 4 #[true,true,true,true,true,true,true,true,true,true,false,false,false,false] ⟨183,Ad [(1,(ls eI p1)),(5,(.ptr 0 0 0 0)),(153,(ls AG p0.decls)),(161,(i64 (Sh.w (c75 - 1))))],[(BL p2)]⟩:=(hA77 _ _ _).2 (by
                refine An [10,12] U (by kernel_rfl) (by decide) ⟨?_,?_,trivial⟩
                ·refine A5.of (i:=10) rfl U (by rfl) ?_
                 refine zx DA gc76 U U U (AB ⟨U,?_⟩)
                 exact AH (AF (L:=[(1,(ls eI p1)),(5,(.ptr 0 0 0 0)),(162,(.BF (AG c76) 0))]) ⟨.rfl,.rfl,.rfl,trivial⟩) (AR (by kernel_rfl) ((hA77 _ _ _).1 A77_0123456789a)) rfl
                ·refine A5.of (i:=12) rfl U (by rfl) ?_
                 refine Ap (m:=1) (st':=[(BL p2),By]) Ah B2 U U (AB ⟨U,?_⟩)
                 exact AH (AF (L:=[(1,(ls eI p1)),(5,(.ptr 0 0 0 0)),(7,(.ptr 1 0 0 0)),(153,(ls AG p0.decls)),(161,(i64 (Sh.w (c75 - 1))))]) ⟨.rfl,.rfl,.rfl,.rfl,.rfl,trivial⟩) (AR (by kernel_rfl) ((hA77 _ _ _).1 A77_0123456789c)) rfl)
               have A77_012345678c:A77 4 #[true,true,true,true,true,true,true,true,true,false,false,false,true,false] ⟨183,Ad (Ud c75 p0 p1),[(BL p2),By]⟩:=(hA77 _ _ _).2 (by
                refine An [9] U (by kernel_rfl) (by decide) ⟨?_,trivial⟩
                ·refine A5.of (i:=9) rfl U (by rfl) ?_
                 refine zq tb U (AB ⟨U,?_⟩)
                 exact AH (AF (L:=[(1,(ls eI p1)),(5,(.ptr 0 0 0 0)),(7,(.ptr 1 0 0 0)),(153,(ls AG p0.decls)),(161,(i64 (Sh.w (c75 - 1))))]) ⟨.rfl,.rfl,.rfl,.rfl,.rfl,trivial⟩) (AR (by kernel_rfl) ((hA77 _ _ _).1 A77_0123456789c)) rfl)
               have A77_012345678:A77 5 #[true,true,true,true,true,true,true,true,true,false,false,false,false,false] ⟨183,Ad (W5 c75 p0 p1),[(BL p2)]⟩:=(hA77 _ _ _).2 (by
                refine An [9,12] U (by kernel_rfl) (by decide) ⟨?_,?_,trivial⟩
                ·refine A5.of (i:=9) rfl U (by rfl) ?_
                 refine zq tb U (AB ⟨U,?_⟩)
                 exact AH (AF (L:=[(1,(ls eI p1)),(5,(.ptr 0 0 0 0)),(153,(ls AG p0.decls)),(161,(i64 (Sh.w (c75 - 1))))]) ⟨.rfl,.rfl,.rfl,.rfl,trivial⟩) (AR (by kernel_rfl) ((hA77 _ _ _).1 A77_0123456789)) rfl
                ·refine A5.of (i:=12) rfl U (by rfl) ?_
                 refine Ap (m:=1) (st':=[(BL p2),By]) Ah B2 U U (AB ⟨U,?_⟩)
                 exact AH (AF (L:=(Ud c75 p0 p1)) ⟨.rfl,.rfl,.rfl,.rfl,.rfl,trivial⟩) (AR (by kernel_rfl) ((hA77 _ _ _).1 A77_012345678c)) rfl)
               have A77_01234567c:A77 5 #[true,true,true,true,true,true,true,true,false,false,false,false,true,false] ⟨183,Ad (U2 c75 p0 p1),[(BL p2),By]⟩:=(hA77 _ _ _).2 (by
                refine An [8] U (by kernel_rfl) (by decide) ⟨?_,trivial⟩
                ·refine A5.of (i:=8) rfl U (by rfl) ?_
                 refine zq tb U (AB ⟨U,?_⟩)
                 exact AH (AF (L:=(Ud c75 p0 p1)) ⟨.rfl,.rfl,.rfl,.rfl,.rfl,trivial⟩) (AR (by kernel_rfl) ((hA77 _ _ _).1 A77_012345678c)) rfl)
               have A77_01234567:A77 6 #[true,true,true,true,true,true,true,true,false,false,false,false,false,false] ⟨183,Ad (WW c75 p0 p1),[(BL p2)]⟩:=(hA77 _ _ _).2 (by
                refine An [8,12] U (by kernel_rfl) (by decide) ⟨?_,?_,trivial⟩
                ·refine A5.of (i:=8) rfl U (by rfl) ?_
                 refine zq tb U (AB ⟨U,?_⟩)
                 exact AH (AF (L:=(W5 c75 p0 p1)) ⟨.rfl,.rfl,.rfl,.rfl,trivial⟩) (AR (by kernel_rfl) ((hA77 _ _ _).1 A77_012345678)) rfl
                ·refine A5.of (i:=12) rfl U (by rfl) ?_
                 refine Ap (m:=1) (st':=[(BL p2),By]) Ah B2 U U (AB ⟨U,?_⟩)
                 exact AH (AF (L:=(U2 c75 p0 p1)) ⟨.rfl,.rfl,.rfl,.rfl,.rfl,trivial⟩) (AR (by kernel_rfl) ((hA77 _ _ _).1 A77_01234567c)) rfl)
               have A77_0123456c:A77 6 #[true,true,true,true,true,true,true,false,false,false,false,false,true,false] ⟨183,Ad (Ug c74 p0 p1),[(BL p2),By]⟩:=(hA77 _ _ _).2 (by
                refine An [7] U (by kernel_rfl) (by decide) ⟨?_,trivial⟩
                ·refine A5.of (i:=7) rfl U (by rfl) ?_
                 refine zx BN gc75 U U U (AB ⟨U,?_⟩)
                 exact AH (AF (L:=(U2 c75 p0 p1)) ⟨.rfl,.rfl,.rfl,.rfl,.rfl,trivial⟩) (AR (by kernel_rfl) ((hA77 _ _ _).1 A77_01234567c)) rfl)
               have A77_0123456:A77 7 #[true,true,true,true,true,true,true,false,false,false,false,false,false,false] ⟨183,Ad (W0 c74 p0 p1),[(BL p2)]⟩:=(hA77 _ _ _).2 (by
                refine An [7,12] U (by kernel_rfl) (by decide) ⟨?_,?_,trivial⟩
                ·refine A5.of (i:=7) rfl U (by rfl) ?_
                 refine zx BN gc75 U U U (AB ⟨U,?_⟩)
                 exact AH (AF (L:=(WW c75 p0 p1)) ⟨.rfl,.rfl,.rfl,.rfl,trivial⟩) (AR (by kernel_rfl) ((hA77 _ _ _).1 A77_01234567)) rfl
                ·refine A5.of (i:=12) rfl U (by rfl) ?_
                 refine Ap (m:=1) (st':=[(BL p2),By]) Ah B2 U U (AB ⟨U,?_⟩)
                 exact AH (AF (L:=(Ug c74 p0 p1)) ⟨.rfl,.rfl,.rfl,.rfl,.rfl,.rfl,trivial⟩) (AR (by kernel_rfl) ((hA77 _ _ _).1 A77_0123456c)) rfl)
               have A77_012345c:A77 7 #[true,true,true,true,true,true,false,false,false,false,false,false,true,false] ⟨183,Ad (ZK c74 p0 p1),[(BL p2),By]⟩:=(hA77 _ _ _).2 (by
                refine An [6] U (by kernel_rfl) (by decide) ⟨?_,trivial⟩
                ·refine A5.of (i:=6) rfl U (by rfl) ?_
                 refine zq tb U (AB ⟨U,?_⟩)
                 exact AH (AF (L:=(Ug c74 p0 p1)) ⟨.rfl,.rfl,.rfl,.rfl,.rfl,.rfl,trivial⟩) (AR (by kernel_rfl) ((hA77 _ _ _).1 A77_0123456c)) rfl)
               have A77_012345:A77 8 #[true,true,true,true,true,true,false,false,false,false,false,false,false,false] ⟨183,Ad (W1 c74 p0 p1),[(BL p2)]⟩:=(hA77 _ _ _).2 (by
                refine An [6,12] U (by kernel_rfl) (by decide) ⟨?_,?_,trivial⟩
                ·refine A5.of (i:=6) rfl U (by rfl) ?_
                 refine zq tb U (AB ⟨U,?_⟩)
                 exact AH (AF (L:=(W0 c74 p0 p1)) ⟨.rfl,.rfl,.rfl,.rfl,.rfl,trivial⟩) (AR (by kernel_rfl) ((hA77 _ _ _).1 A77_0123456)) rfl
                ·refine A5.of (i:=12) rfl U (by rfl) ?_
                 refine Ap (m:=1) (st':=[(BL p2),By]) Ah B2 U U (AB ⟨U,?_⟩)
                 exact AH (AF (L:=(ZK c74 p0 p1)) ⟨.rfl,.rfl,.rfl,.rfl,.rfl,.rfl,trivial⟩) (AR (by kernel_rfl) ((hA77 _ _ _).1 A77_012345c)) rfl)
               have A77_01234c:A77 8 #[true,true,true,true,true,false,false,false,false,false,false,false,true,false] ⟨183,Ad (Y4 p0 p1 p2),[(BL p2),By]⟩:=(hA77 _ _ _).2 (by
                refine An [5] U (by kernel_rfl) (by decide) ⟨?_,trivial⟩
                ·refine A5.of (i:=5) rfl U (by rfl) ?_
                 refine zx BN gc74 U U U (AB ⟨U,?_⟩)
                 exact AH (AF (L:=(ZK c74 p0 p1)) ⟨.rfl,.rfl,.rfl,.rfl,.rfl,.rfl,trivial⟩) (AR (by kernel_rfl) ((hA77 _ _ _).1 A77_012345c)) rfl)
               have A77_01234:A77 9 #[true,true,true,true,true,false,false,false,false,false,false,false,false,false] ⟨183,Ad (Wm p0 p1 p2),[(BL p2)]⟩:=(hA77 _ _ _).2 (by
                refine An [5,12] U (by kernel_rfl) (by decide) ⟨?_,?_,trivial⟩
                ·refine A5.of (i:=5) rfl U (by rfl) ?_
                 refine zx BN gc74 U U U (AB ⟨U,?_⟩)
                 exact AH (AF (L:=(W1 c74 p0 p1)) ⟨.rfl,.rfl,.rfl,.rfl,.rfl,trivial⟩) (AR (by kernel_rfl) ((hA77 _ _ _).1 A77_012345)) rfl
                ·refine A5.of (i:=12) rfl U (by rfl) ?_
                 refine Ap (m:=1) (st':=[(BL p2),By]) Ah B2 U U (AB ⟨U,?_⟩)
                 exact AH (AF (L:=(Y4 p0 p1 p2)) ⟨.rfl,.rfl,.rfl,.rfl,.rfl,.rfl,trivial⟩) (AR (by kernel_rfl) ((hA77 _ _ _).1 A77_01234c)) rfl)
               have A77_0123c:A77 9 #[true,true,true,true,false,false,false,false,false,false,false,false,true,false] ⟨183,Ad (Uw p0 p1),[(BL p2),By]⟩:=(hA77 _ _ _).2 (by
                refine An [4] U (by kernel_rfl) (by decide) ⟨?_,trivial⟩
                ·refine A5.of (i:=4) rfl U (by rfl) ?_
                 refine zq tb U (AB ⟨U,?_⟩)
                 exact AH (AF (L:=(Y4 p0 p1 p2)) ⟨.rfl,.rfl,.rfl,.rfl,.rfl,.rfl,trivial⟩) (AR (by kernel_rfl) ((hA77 _ _ _).1 A77_01234c)) rfl)
               have A77_0123:A77 10 #[true,true,true,true,false,false,false,false,false,false,false,false,false,false] ⟨183,Ad (Wq p0 p1),[(BL p2)]⟩:=(hA77 _ _ _).2 (by
                refine An [4,12] U (by kernel_rfl) (by decide) ⟨?_,?_,trivial⟩
                ·refine A5.of (i:=4) rfl U (by rfl) ?_
                 refine zq tb U (AB ⟨U,?_⟩)
                 exact AH (AF (L:=(Wm p0 p1 p2)) ⟨.rfl,.rfl,.rfl,.rfl,.rfl,trivial⟩) (AR (by kernel_rfl) ((hA77 _ _ _).1 A77_01234)) rfl
                ·refine A5.of (i:=12) rfl U (by rfl) ?_
                 refine Ap (m:=1) (st':=[(BL p2),By]) Ah B2 U U (AB ⟨U,?_⟩)
                 exact AH (AF (L:=(Uw p0 p1)) ⟨.rfl,.rfl,.rfl,.rfl,.rfl,.rfl,trivial⟩) (AR (by kernel_rfl) ((hA77 _ _ _).1 A77_0123c)) rfl)
               have A77_012c:A77 10 #[true,true,true,false,false,false,false,false,false,false,false,false,true,false] ⟨183,Ad (Wv p0 p1),[(BL p2),By]⟩:=(hA77 _ _ _).2 (by
                refine An [3] U (by kernel_rfl) (by decide) ⟨?_,trivial⟩
                ·refine A5.of (i:=3) rfl U (by rfl) ?_
                 refine zq tb U (AB ⟨U,?_⟩)
                 exact AH (AF (L:=(Uw p0 p1)) ⟨.rfl,.rfl,.rfl,.rfl,.rfl,.rfl,trivial⟩) (AR (by kernel_rfl) ((hA77 _ _ _).1 A77_0123c)) rfl)
               have A77_012:A77 11 #[true,true,true,false,false,false,false,false,false,false,false,false,false,false] ⟨183,Ad [(1,(ls eI p1)),(5,(.ptr 0 0 0 0)),(153,(ls AG p0.decls)),(154,(ls eI p1))],[(BL p2)]⟩:=(hA77 _ _ _).2 (by
                refine An [3,12] U (by kernel_rfl) (by decide) ⟨?_,?_,trivial⟩
                ·refine A5.of (i:=3) rfl U (by rfl) ?_
                 refine zq tb U (AB ⟨U,?_⟩)
                 exact AH (AF (L:=(Wq p0 p1)) ⟨.rfl,.rfl,.rfl,.rfl,.rfl,trivial⟩) (AR (by kernel_rfl) ((hA77 _ _ _).1 A77_0123)) rfl
                ·refine A5.of (i:=12) rfl U (by rfl) ?_
                 refine Ap (m:=1) (st':=[(BL p2),By]) Ah B2 U U (AB ⟨U,?_⟩)
                 exact AH (AF (L:=(Wv p0 p1)) ⟨.rfl,.rfl,.rfl,.rfl,.rfl,trivial⟩) (AR (by kernel_rfl) ((hA77 _ _ _).1 A77_012c)) rfl)
               have A77_023456789c:A77 4 #[true,false,true,true,true,true,true,true,true,true,false,false,true,false] ⟨183,Ad [(1,(ls eI p1)),(5,(.ptr 0 0 0 0)),(7,(.ptr 1 0 0 0)),(152,(.ptr 2 0 0 0)),(161,(i64 (Sh.w (c75 - 1))))],[(BL p2),By,(BM p0)]⟩:=(hA77 _ _ _).2 (by
                refine An [1] U (by kernel_rfl) (by decide) ⟨?_,trivial⟩
                ·refine A5.of (i:=1) rfl U (by rfl) ?_
                 refine zq tb U (AB ⟨U,?_⟩)
                 exact AH (by refine Wk.trans (AP (L:=[(1,(ls eI p1)),(5,(.ptr 0 0 0 0)),(7,(.ptr 1 0 0 0)),(153,(ls AG p0.decls)),(161,(i64 (Sh.w (c75 - 1))))]) (st':=[(BL p2),By]) (st1:=[(BL p2),By]) [0,1] U .nil (by decide) rfl U (.raw U U (.raw U U .nil)) ⟨.rfl,.rfl,.rfl,.rfl,.rfl,trivial⟩) ?_;exact AF (L:=[(1,(ls eI p1)),(5,(.ptr 0 0 0 0)),(7,(.ptr 1 0 0 0)),(153,(ls AG p0.decls)),(161,(i64 (Sh.w (c75 - 1))))]) ⟨.rfl,.rfl,.rfl,.rfl,.rfl,trivial⟩) (AR (by kernel_rfl) ((hA77 _ _ _).1 A77_0123456789c)) rfl)
               have A77_023456789:A77 5 #[true,false,true,true,true,true,true,true,true,true,false,false,false,false] ⟨183,Ad [(1,(ls eI p1)),(5,(.ptr 0 0 0 0)),(152,(.ptr 1 0 0 0)),(161,(i64 (Sh.w (c75 - 1))))],[(BL p2),(BM p0)]⟩:=(hA77 _ _ _).2 (by
                refine An [1,12] U (by kernel_rfl) (by decide) ⟨?_,?_,trivial⟩
                ·refine A5.of (i:=1) rfl U (by rfl) ?_
                 refine zq tb U (AB ⟨U,?_⟩)
                 exact AH (by refine Wk.trans (AP (L:=[(1,(ls eI p1)),(5,(.ptr 0 0 0 0)),(153,(ls AG p0.decls)),(161,(i64 (Sh.w (c75 - 1))))]) (st':=[(BL p2)]) (st1:=[(BL p2)]) [0] U .nil (by decide) rfl U (.raw U U .nil) ⟨.rfl,.rfl,.rfl,.rfl,trivial⟩) ?_;exact AF (L:=[(1,(ls eI p1)),(5,(.ptr 0 0 0 0)),(153,(ls AG p0.decls)),(161,(i64 (Sh.w (c75 - 1))))]) ⟨.rfl,.rfl,.rfl,.rfl,trivial⟩) (AR (by kernel_rfl) ((hA77 _ _ _).1 A77_0123456789)) rfl
                ·refine A5.of (i:=12) rfl U (by rfl) ?_
                 refine Ap (m:=2) (st':=[(BL p2),(BM p0),By]) Ah B2 U U (AB ⟨U,?_⟩)
                 exact AH (by refine Wk.trans (AP (L:=[(1,(ls eI p1)),(5,(.ptr 0 0 0 0)),(7,(.ptr 1 0 0 0)),(152,(.ptr 2 0 0 0)),(161,(i64 (Sh.w (c75 - 1))))]) (st':=[(BL p2),By,(BM p0)]) (st1:=[(BL p2),By,(BM p0)]) [0,2,1] U .nil (by decide) rfl U (.raw U U (.raw U U (.raw U U .nil))) ⟨.rfl,.rfl,.rfl,.rfl,.rfl,trivial⟩) ?_;exact AF (L:=[(1,(ls eI p1)),(5,(.ptr 0 0 0 0)),(7,(.ptr 1 0 0 0)),(152,(.ptr 2 0 0 0)),(161,(i64 (Sh.w (c75 - 1))))]) ⟨.rfl,.rfl,.rfl,.rfl,.rfl,trivial⟩) (AR (by kernel_rfl) ((hA77 _ _ _).1 A77_023456789c)) rfl)
               have A77_02345678c:A77 5 #[true,false,true,true,true,true,true,true,true,false,false,false,true,false] ⟨183,Ad (TI c75 p1),[(BL p2),By,(BM p0)]⟩:=(hA77 _ _ _).2 (by
                refine An [1,9] U (by kernel_rfl) (by decide) ⟨?_,?_,trivial⟩
                ·refine A5.of (i:=1) rfl U (by rfl) ?_
                 refine zq tb U (AB ⟨U,?_⟩)
                 exact AH (by refine Wk.trans (AP (L:=(Ud c75 p0 p1)) (st':=[(BL p2),By]) (st1:=[(BL p2),By]) [0,1] U .nil (by decide) rfl U (.raw U U (.raw U U .nil)) ⟨.rfl,.rfl,.rfl,.rfl,.rfl,trivial⟩) ?_;exact AF (L:=(Ud c75 p0 p1)) ⟨.rfl,.rfl,.rfl,.rfl,.rfl,trivial⟩) (AR (by kernel_rfl) ((hA77 _ _ _).1 A77_012345678c)) rfl
                ·refine A5.of (i:=9) rfl U (by rfl) ?_
                 refine zq tb U (AB ⟨U,?_⟩)
                 exact AH (AF (L:=[(1,(ls eI p1)),(5,(.ptr 0 0 0 0)),(7,(.ptr 1 0 0 0)),(152,(.ptr 2 0 0 0)),(161,(i64 (Sh.w (c75 - 1))))]) ⟨.rfl,.rfl,.rfl,.rfl,.rfl,trivial⟩) (AR (by kernel_rfl) ((hA77 _ _ _).1 A77_023456789c)) rfl)
               have A77_02345678:A77 6 #[true,false,true,true,true,true,true,true,true,false,false,false,false,false] ⟨183,Ad (W4 c75 p1),[(BL p2),(BM p0)]⟩:=(hA77 _ _ _).2 (by
                refine An [1,9,12] U (by kernel_rfl) (by decide) ⟨?_,?_,?_,trivial⟩
                ·refine A5.of (i:=1) rfl U (by rfl) ?_
                 refine zq tb U (AB ⟨U,?_⟩)
                 exact AH (by refine Wk.trans (AP (L:=(W5 c75 p0 p1)) (st':=[(BL p2)]) (st1:=[(BL p2)]) [0] U .nil (by decide) rfl U (.raw U U .nil) ⟨.rfl,.rfl,.rfl,.rfl,trivial⟩) ?_;exact AF (L:=(W5 c75 p0 p1)) ⟨.rfl,.rfl,.rfl,.rfl,trivial⟩) (AR (by kernel_rfl) ((hA77 _ _ _).1 A77_012345678)) rfl
                ·refine A5.of (i:=9) rfl U (by rfl) ?_
                 refine zq tb U (AB ⟨U,?_⟩)
                 exact AH (AF (L:=[(1,(ls eI p1)),(5,(.ptr 0 0 0 0)),(152,(.ptr 1 0 0 0)),(161,(i64 (Sh.w (c75 - 1))))]) ⟨.rfl,.rfl,.rfl,.rfl,trivial⟩) (AR (by kernel_rfl) ((hA77 _ _ _).1 A77_023456789)) rfl
                ·refine A5.of (i:=12) rfl U (by rfl) ?_
                 refine Ap (m:=2) (st':=[(BL p2),(BM p0),By]) Ah B2 U U (AB ⟨U,?_⟩)
                 exact AH (by refine Wk.trans (AP (L:=(TI c75 p1)) (st':=[(BL p2),By,(BM p0)]) (st1:=[(BL p2),By,(BM p0)]) [0,2,1] U .nil (by decide) rfl U (.raw U U (.raw U U (.raw U U .nil))) ⟨.rfl,.rfl,.rfl,.rfl,.rfl,trivial⟩) ?_;exact AF (L:=(TI c75 p1)) ⟨.rfl,.rfl,.rfl,.rfl,.rfl,trivial⟩) (AR (by kernel_rfl) ((hA77 _ _ _).1 A77_02345678c)) rfl)
               have A77_0234567c:A77 6 #[true,false,true,true,true,true,true,true,false,false,false,false,true,false] ⟨183,Ad (Xh c75 p1),[(BL p2),By,(BM p0)]⟩:=(hA77 _ _ _).2 (by
                refine An [1,8] U (by kernel_rfl) (by decide) ⟨?_,?_,trivial⟩
                ·refine A5.of (i:=1) rfl U (by rfl) ?_
                 refine zq tb U (AB ⟨U,?_⟩)
                 exact AH (by refine Wk.trans (AP (L:=(U2 c75 p0 p1)) (st':=[(BL p2),By]) (st1:=[(BL p2),By]) [0,1] U .nil (by decide) rfl U (.raw U U (.raw U U .nil)) ⟨.rfl,.rfl,.rfl,.rfl,.rfl,trivial⟩) ?_;exact AF (L:=(U2 c75 p0 p1)) ⟨.rfl,.rfl,.rfl,.rfl,.rfl,trivial⟩) (AR (by kernel_rfl) ((hA77 _ _ _).1 A77_01234567c)) rfl
                ·refine A5.of (i:=8) rfl U (by rfl) ?_
                 refine zq tb U (AB ⟨U,?_⟩)
                 exact AH (AF (L:=(TI c75 p1)) ⟨.rfl,.rfl,.rfl,.rfl,.rfl,trivial⟩) (AR (by kernel_rfl) ((hA77 _ _ _).1 A77_02345678c)) rfl)
               have A77_0234567:A77 7 #[true,false,true,true,true,true,true,true,false,false,false,false,false,false] ⟨183,Ad (Wg c75 p1),[(BL p2),(BM p0)]⟩:=(hA77 _ _ _).2 (by
                refine An [1,8,12] U (by kernel_rfl) (by decide) ⟨?_,?_,?_,trivial⟩
                ·refine A5.of (i:=1) rfl U (by rfl) ?_
                 refine zq tb U (AB ⟨U,?_⟩)
                 exact AH (by refine Wk.trans (AP (L:=(WW c75 p0 p1)) (st':=[(BL p2)]) (st1:=[(BL p2)]) [0] U .nil (by decide) rfl U (.raw U U .nil) ⟨.rfl,.rfl,.rfl,.rfl,trivial⟩) ?_;exact AF (L:=(WW c75 p0 p1)) ⟨.rfl,.rfl,.rfl,.rfl,trivial⟩) (AR (by kernel_rfl) ((hA77 _ _ _).1 A77_01234567)) rfl
                ·refine A5.of (i:=8) rfl U (by rfl) ?_
                 refine zq tb U (AB ⟨U,?_⟩)
                 exact AH (AF (L:=(W4 c75 p1)) ⟨.rfl,.rfl,.rfl,.rfl,trivial⟩) (AR (by kernel_rfl) ((hA77 _ _ _).1 A77_02345678)) rfl
                ·refine A5.of (i:=12) rfl U (by rfl) ?_
                 refine Ap (m:=2) (st':=[(BL p2),(BM p0),By]) Ah B2 U U (AB ⟨U,?_⟩)
                 exact AH (by refine Wk.trans (AP (L:=(Xh c75 p1)) (st':=[(BL p2),By,(BM p0)]) (st1:=[(BL p2),By,(BM p0)]) [0,2,1] U .nil (by decide) rfl U (.raw U U (.raw U U (.raw U U .nil))) ⟨.rfl,.rfl,.rfl,.rfl,.rfl,trivial⟩) ?_;exact AF (L:=(Xh c75 p1)) ⟨.rfl,.rfl,.rfl,.rfl,.rfl,trivial⟩) (AR (by kernel_rfl) ((hA77 _ _ _).1 A77_0234567c)) rfl)
               have A77_023456c:A77 7 #[true,false,true,true,true,true,true,false,false,false,false,false,true,false] ⟨183,Ad (Xg c74 p1),[(BL p2),By,(BM p0)]⟩:=(hA77 _ _ _).2 (by
                refine An [1,7] U (by kernel_rfl) (by decide) ⟨?_,?_,trivial⟩
                ·refine A5.of (i:=1) rfl U (by rfl) ?_
                 refine zq tb U (AB ⟨U,?_⟩)
                 exact AH (by refine Wk.trans (AP (L:=(Ug c74 p0 p1)) (st':=[(BL p2),By]) (st1:=[(BL p2),By]) [0,1] U .nil (by decide) rfl U (.raw U U (.raw U U .nil)) ⟨.rfl,.rfl,.rfl,.rfl,.rfl,.rfl,trivial⟩) ?_;exact AF (L:=(Ug c74 p0 p1)) ⟨.rfl,.rfl,.rfl,.rfl,.rfl,.rfl,trivial⟩) (AR (by kernel_rfl) ((hA77 _ _ _).1 A77_0123456c)) rfl
                ·refine A5.of (i:=7) rfl U (by rfl) ?_
                 refine zx BN gc75 U U U (AB ⟨U,?_⟩)
                 exact AH (AF (L:=(Xh c75 p1)) ⟨.rfl,.rfl,.rfl,.rfl,.rfl,trivial⟩) (AR (by kernel_rfl) ((hA77 _ _ _).1 A77_0234567c)) rfl)
               have A77_023456:A77 8 #[true,false,true,true,true,true,true,false,false,false,false,false,false,false] ⟨183,Ad (Wr c74 p1),[(BL p2),(BM p0)]⟩:=(hA77 _ _ _).2 (by
                refine An [1,7,12] U (by kernel_rfl) (by decide) ⟨?_,?_,?_,trivial⟩
                ·refine A5.of (i:=1) rfl U (by rfl) ?_
                 refine zq tb U (AB ⟨U,?_⟩)
                 exact AH (by refine Wk.trans (AP (L:=(W0 c74 p0 p1)) (st':=[(BL p2)]) (st1:=[(BL p2)]) [0] U .nil (by decide) rfl U (.raw U U .nil) ⟨.rfl,.rfl,.rfl,.rfl,.rfl,trivial⟩) ?_;exact AF (L:=(W0 c74 p0 p1)) ⟨.rfl,.rfl,.rfl,.rfl,.rfl,trivial⟩) (AR (by kernel_rfl) ((hA77 _ _ _).1 A77_0123456)) rfl
                ·refine A5.of (i:=7) rfl U (by rfl) ?_
                 refine zx BN gc75 U U U (AB ⟨U,?_⟩)
                 exact AH (AF (L:=(Wg c75 p1)) ⟨.rfl,.rfl,.rfl,.rfl,trivial⟩) (AR (by kernel_rfl) ((hA77 _ _ _).1 A77_0234567)) rfl
                ·refine A5.of (i:=12) rfl U (by rfl) ?_
                 refine Ap (m:=2) (st':=[(BL p2),(BM p0),By]) Ah B2 U U (AB ⟨U,?_⟩)
                 exact AH (by refine Wk.trans (AP (L:=(Xg c74 p1)) (st':=[(BL p2),By,(BM p0)]) (st1:=[(BL p2),By,(BM p0)]) [0,2,1] U .nil (by decide) rfl U (.raw U U (.raw U U (.raw U U .nil))) ⟨.rfl,.rfl,.rfl,.rfl,.rfl,.rfl,trivial⟩) ?_;exact AF (L:=(Xg c74 p1)) ⟨.rfl,.rfl,.rfl,.rfl,.rfl,.rfl,trivial⟩) (AR (by kernel_rfl) ((hA77 _ _ _).1 A77_023456c)) rfl)
               have A77_02345c:A77 8 #[true,false,true,true,true,true,false,false,false,false,false,false,true,false] ⟨183,Ad (Xm c74 p1),[(BL p2),By,(BM p0)]⟩:=(hA77 _ _ _).2 (by
                refine An [1,6] U (by kernel_rfl) (by decide) ⟨?_,?_,trivial⟩
                ·refine A5.of (i:=1) rfl U (by rfl) ?_
                 refine zq tb U (AB ⟨U,?_⟩)
                 exact AH (by refine Wk.trans (AP (L:=(ZK c74 p0 p1)) (st':=[(BL p2),By]) (st1:=[(BL p2),By]) [0,1] U .nil (by decide) rfl U (.raw U U (.raw U U .nil)) ⟨.rfl,.rfl,.rfl,.rfl,.rfl,.rfl,trivial⟩) ?_;exact AF (L:=(ZK c74 p0 p1)) ⟨.rfl,.rfl,.rfl,.rfl,.rfl,.rfl,trivial⟩) (AR (by kernel_rfl) ((hA77 _ _ _).1 A77_012345c)) rfl
                ·refine A5.of (i:=6) rfl U (by rfl) ?_
                 refine zq tb U (AB ⟨U,?_⟩)
                 exact AH (AF (L:=(Xg c74 p1)) ⟨.rfl,.rfl,.rfl,.rfl,.rfl,.rfl,trivial⟩) (AR (by kernel_rfl) ((hA77 _ _ _).1 A77_023456c)) rfl)
               have A77_02345:A77 9 #[true,false,true,true,true,true,false,false,false,false,false,false,false,false] ⟨183,Ad (We c74 p1),[(BL p2),(BM p0)]⟩:=(hA77 _ _ _).2 (by
                refine An [1,6,12] U (by kernel_rfl) (by decide) ⟨?_,?_,?_,trivial⟩
                ·refine A5.of (i:=1) rfl U (by rfl) ?_
                 refine zq tb U (AB ⟨U,?_⟩)
                 exact AH (by refine Wk.trans (AP (L:=(W1 c74 p0 p1)) (st':=[(BL p2)]) (st1:=[(BL p2)]) [0] U .nil (by decide) rfl U (.raw U U .nil) ⟨.rfl,.rfl,.rfl,.rfl,.rfl,trivial⟩) ?_;exact AF (L:=(W1 c74 p0 p1)) ⟨.rfl,.rfl,.rfl,.rfl,.rfl,trivial⟩) (AR (by kernel_rfl) ((hA77 _ _ _).1 A77_012345)) rfl
                ·refine A5.of (i:=6) rfl U (by rfl) ?_
                 refine zq tb U (AB ⟨U,?_⟩)
                 exact AH (AF (L:=(Wr c74 p1)) ⟨.rfl,.rfl,.rfl,.rfl,.rfl,trivial⟩) (AR (by kernel_rfl) ((hA77 _ _ _).1 A77_023456)) rfl
                ·refine A5.of (i:=12) rfl U (by rfl) ?_
                 refine Ap (m:=2) (st':=[(BL p2),(BM p0),By]) Ah B2 U U (AB ⟨U,?_⟩)
                 exact AH (by refine Wk.trans (AP (L:=(Xm c74 p1)) (st':=[(BL p2),By,(BM p0)]) (st1:=[(BL p2),By,(BM p0)]) [0,2,1] U .nil (by decide) rfl U (.raw U U (.raw U U (.raw U U .nil))) ⟨.rfl,.rfl,.rfl,.rfl,.rfl,.rfl,trivial⟩) ?_;exact AF (L:=(Xm c74 p1)) ⟨.rfl,.rfl,.rfl,.rfl,.rfl,.rfl,trivial⟩) (AR (by kernel_rfl) ((hA77 _ _ _).1 A77_02345c)) rfl)
               have A77_0234c:A77 9 #[true,false,true,true,true,false,false,false,false,false,false,false,true,false] ⟨183,Ad (XO p1 p2),[(BL p2),By,(BM p0)]⟩:=(hA77 _ _ _).2 (by
                refine An [1,5] U (by kernel_rfl) (by decide) ⟨?_,?_,trivial⟩
                ·refine A5.of (i:=1) rfl U (by rfl) ?_
                 refine zq tb U (AB ⟨U,?_⟩)
                 exact AH (by refine Wk.trans (AP (L:=(Y4 p0 p1 p2)) (st':=[(BL p2),By]) (st1:=[(BL p2),By]) [0,1] U .nil (by decide) rfl U (.raw U U (.raw U U .nil)) ⟨.rfl,.rfl,.rfl,.rfl,.rfl,.rfl,trivial⟩) ?_;exact AF (L:=(Y4 p0 p1 p2)) ⟨.rfl,.rfl,.rfl,.rfl,.rfl,.rfl,trivial⟩) (AR (by kernel_rfl) ((hA77 _ _ _).1 A77_01234c)) rfl
                ·refine A5.of (i:=5) rfl U (by rfl) ?_
                 refine zx BN gc74 U U U (AB ⟨U,?_⟩)
                 exact AH (AF (L:=(Xm c74 p1)) ⟨.rfl,.rfl,.rfl,.rfl,.rfl,.rfl,trivial⟩) (AR (by kernel_rfl) ((hA77 _ _ _).1 A77_02345c)) rfl)
               have A77_0234:A77 10 #[true,false,true,true,true,false,false,false,false,false,false,false,false,false] ⟨183,Ad (WU p1 p2),[(BL p2),(BM p0)]⟩:=(hA77 _ _ _).2 (by
                refine An [1,5,12] U (by kernel_rfl) (by decide) ⟨?_,?_,?_,trivial⟩
                ·refine A5.of (i:=1) rfl U (by rfl) ?_
                 refine zq tb U (AB ⟨U,?_⟩)
                 exact AH (by refine Wk.trans (AP (L:=(Wm p0 p1 p2)) (st':=[(BL p2)]) (st1:=[(BL p2)]) [0] U .nil (by decide) rfl U (.raw U U .nil) ⟨.rfl,.rfl,.rfl,.rfl,.rfl,trivial⟩) ?_;exact AF (L:=(Wm p0 p1 p2)) ⟨.rfl,.rfl,.rfl,.rfl,.rfl,trivial⟩) (AR (by kernel_rfl) ((hA77 _ _ _).1 A77_01234)) rfl
                ·refine A5.of (i:=5) rfl U (by rfl) ?_
                 refine zx BN gc74 U U U (AB ⟨U,?_⟩)
                 exact AH (AF (L:=(We c74 p1)) ⟨.rfl,.rfl,.rfl,.rfl,.rfl,trivial⟩) (AR (by kernel_rfl) ((hA77 _ _ _).1 A77_02345)) rfl
                ·refine A5.of (i:=12) rfl U (by rfl) ?_
                 refine Ap (m:=2) (st':=[(BL p2),(BM p0),By]) Ah B2 U U (AB ⟨U,?_⟩)
                 exact AH (by refine Wk.trans (AP (L:=(XO p1 p2)) (st':=[(BL p2),By,(BM p0)]) (st1:=[(BL p2),By,(BM p0)]) [0,2,1] U .nil (by decide) rfl U (.raw U U (.raw U U (.raw U U .nil))) ⟨.rfl,.rfl,.rfl,.rfl,.rfl,.rfl,trivial⟩) ?_;exact AF (L:=(XO p1 p2)) ⟨.rfl,.rfl,.rfl,.rfl,.rfl,.rfl,trivial⟩) (AR (by kernel_rfl) ((hA77 _ _ _).1 A77_0234c)) rfl)
               have A77_023c:A77 10 #[true,false,true,true,false,false,false,false,false,false,false,false,true,false] ⟨183,Ad (Xj p1),[(BL p2),By,(BM p0)]⟩:=(hA77 _ _ _).2 (by
                refine An [1,4] U (by kernel_rfl) (by decide) ⟨?_,?_,trivial⟩
                ·refine A5.of (i:=1) rfl U (by rfl) ?_
                 refine zq tb U (AB ⟨U,?_⟩)
                 exact AH (by refine Wk.trans (AP (L:=(Uw p0 p1)) (st':=[(BL p2),By]) (st1:=[(BL p2),By]) [0,1] U .nil (by decide) rfl U (.raw U U (.raw U U .nil)) ⟨.rfl,.rfl,.rfl,.rfl,.rfl,.rfl,trivial⟩) ?_;exact AF (L:=(Uw p0 p1)) ⟨.rfl,.rfl,.rfl,.rfl,.rfl,.rfl,trivial⟩) (AR (by kernel_rfl) ((hA77 _ _ _).1 A77_0123c)) rfl
                ·refine A5.of (i:=4) rfl U (by rfl) ?_
                 refine zq tb U (AB ⟨U,?_⟩)
                 exact AH (AF (L:=(XO p1 p2)) ⟨.rfl,.rfl,.rfl,.rfl,.rfl,.rfl,trivial⟩) (AR (by kernel_rfl) ((hA77 _ _ _).1 A77_0234c)) rfl)
               have A77_023:A77 11 #[true,false,true,true,false,false,false,false,false,false,false,false,false,false] ⟨183,Ad (W7 p1),[(BL p2),(BM p0)]⟩:=(hA77 _ _ _).2 (by
                refine An [1,4,12] U (by kernel_rfl) (by decide) ⟨?_,?_,?_,trivial⟩
                ·refine A5.of (i:=1) rfl U (by rfl) ?_
                 refine zq tb U (AB ⟨U,?_⟩)
                 exact AH (by refine Wk.trans (AP (L:=(Wq p0 p1)) (st':=[(BL p2)]) (st1:=[(BL p2)]) [0] U .nil (by decide) rfl U (.raw U U .nil) ⟨.rfl,.rfl,.rfl,.rfl,.rfl,trivial⟩) ?_;exact AF (L:=(Wq p0 p1)) ⟨.rfl,.rfl,.rfl,.rfl,.rfl,trivial⟩) (AR (by kernel_rfl) ((hA77 _ _ _).1 A77_0123)) rfl
                ·refine A5.of (i:=4) rfl U (by rfl) ?_
                 refine zq tb U (AB ⟨U,?_⟩)
                 exact AH (AF (L:=(WU p1 p2)) ⟨.rfl,.rfl,.rfl,.rfl,.rfl,trivial⟩) (AR (by kernel_rfl) ((hA77 _ _ _).1 A77_0234)) rfl
                ·refine A5.of (i:=12) rfl U (by rfl) ?_
                 refine Ap (m:=2) (st':=[(BL p2),(BM p0),By]) Ah B2 U U (AB ⟨U,?_⟩)
                 exact AH (by refine Wk.trans (AP (L:=(Xj p1)) (st':=[(BL p2),By,(BM p0)]) (st1:=[(BL p2),By,(BM p0)]) [0,2,1] U .nil (by decide) rfl U (.raw U U (.raw U U (.raw U U .nil))) ⟨.rfl,.rfl,.rfl,.rfl,.rfl,.rfl,trivial⟩) ?_;exact AF (L:=(Xj p1)) ⟨.rfl,.rfl,.rfl,.rfl,.rfl,.rfl,trivial⟩) (AR (by kernel_rfl) ((hA77 _ _ _).1 A77_023c)) rfl)
               have A77_02c:A77 11 #[true,false,true,false,false,false,false,false,false,false,false,false,true,false] ⟨183,Ad (VE p1),[(BL p2),By,(BM p0)]⟩:=(hA77 _ _ _).2 (by
                refine An [1,3] U (by kernel_rfl) (by decide) ⟨?_,?_,trivial⟩
                ·refine A5.of (i:=1) rfl U (by rfl) ?_
                 refine zq tb U (AB ⟨U,?_⟩)
                 exact AH (by refine Wk.trans (AP (L:=(Wv p0 p1)) (st':=[(BL p2),By]) (st1:=[(BL p2),By]) [0,1] U .nil (by decide) rfl U (.raw U U (.raw U U .nil)) ⟨.rfl,.rfl,.rfl,.rfl,.rfl,trivial⟩) ?_;exact AF (L:=(Wv p0 p1)) ⟨.rfl,.rfl,.rfl,.rfl,.rfl,trivial⟩) (AR (by kernel_rfl) ((hA77 _ _ _).1 A77_012c)) rfl
                ·refine A5.of (i:=3) rfl U (by rfl) ?_
                 refine zq tb U (AB ⟨U,?_⟩)
                 exact AH (AF (L:=(Xj p1)) ⟨.rfl,.rfl,.rfl,.rfl,.rfl,.rfl,trivial⟩) (AR (by kernel_rfl) ((hA77 _ _ _).1 A77_023c)) rfl)
               have A77_02:A77 12 #[true,false,true,false,false,false,false,false,false,false,false,false,false,false] ⟨183,Ad [(1,(ls eI p1)),(5,(.ptr 0 0 0 0)),(152,(.ptr 1 0 0 0)),(154,(ls eI p1))],[(BL p2),(BM p0)]⟩:=(hA77 _ _ _).2 (by
                refine An [1,3,12] U (by kernel_rfl) (by decide) ⟨?_,?_,?_,trivial⟩
                ·refine A5.of (i:=1) rfl U (by rfl) ?_
                 refine zq tb U (AB ⟨U,?_⟩)
                 exact AH (by refine Wk.trans (AP (L:=[(1,(ls eI p1)),(5,(.ptr 0 0 0 0)),(153,(ls AG p0.decls)),(154,(ls eI p1))]) (st':=[(BL p2)]) (st1:=[(BL p2)]) [0] U .nil (by decide) rfl U (.raw U U .nil) ⟨.rfl,.rfl,.rfl,.rfl,trivial⟩) ?_;exact AF (L:=[(1,(ls eI p1)),(5,(.ptr 0 0 0 0)),(153,(ls AG p0.decls)),(154,(ls eI p1))]) ⟨.rfl,.rfl,.rfl,.rfl,trivial⟩) (AR (by kernel_rfl) ((hA77 _ _ _).1 A77_012)) rfl
                ·refine A5.of (i:=3) rfl U (by rfl) ?_
                 refine zq tb U (AB ⟨U,?_⟩)
                 exact AH (AF (L:=(W7 p1)) ⟨.rfl,.rfl,.rfl,.rfl,.rfl,trivial⟩) (AR (by kernel_rfl) ((hA77 _ _ _).1 A77_023)) rfl
                ·refine A5.of (i:=12) rfl U (by rfl) ?_
                 refine Ap (m:=2) (st':=[(BL p2),(BM p0),By]) Ah B2 U U (AB ⟨U,?_⟩)
                 exact AH (by refine Wk.trans (AP (L:=(VE p1)) (st':=[(BL p2),By,(BM p0)]) (st1:=[(BL p2),By,(BM p0)]) [0,2,1] U .nil (by decide) rfl U (.raw U U (.raw U U (.raw U U .nil))) ⟨.rfl,.rfl,.rfl,.rfl,.rfl,trivial⟩) ?_;exact AF (L:=(VE p1)) ⟨.rfl,.rfl,.rfl,.rfl,.rfl,trivial⟩) (AR (by kernel_rfl) ((hA77 _ _ _).1 A77_02c)) rfl)
               have A77_23456789c:A77 5 #[false,false,true,true,true,true,true,true,true,true,false,false,true,false] ⟨183,Ad [(1,(ls eI p1)),(3,(.ptr 0 0 0 0)),(5,(.ptr 1 0 0 0)),(7,(.ptr 2 0 0 0)),(161,(i64 (Sh.w (c75 - 1))))],[(BM p0),(BL p2),By]⟩:=(hA77 _ _ _).2 (by
                refine An [0] U (by kernel_rfl) (by decide) ⟨?_,trivial⟩
                ·refine A5.of (i:=0) rfl U (by rfl) ?_
                 refine zq tb U (AB ⟨U,?_⟩)
                 exact AH (by refine Wk.trans (AP (L:=[(1,(ls eI p1)),(5,(.ptr 0 0 0 0)),(7,(.ptr 1 0 0 0)),(152,(.ptr 2 0 0 0)),(161,(i64 (Sh.w (c75 - 1))))]) (st':=[(BL p2),By,(BM p0)]) (st1:=[(BL p2),By,(BM p0)]) [1,2,0] U .nil (by decide) rfl U (.raw U U (.raw U U (.raw U U .nil))) ⟨.rfl,.rfl,.rfl,.rfl,.rfl,trivial⟩) ?_;exact AF (L:=[(1,(ls eI p1)),(5,(.ptr 0 0 0 0)),(7,(.ptr 1 0 0 0)),(152,(.ptr 2 0 0 0)),(161,(i64 (Sh.w (c75 - 1))))]) ⟨.rfl,.rfl,.rfl,.rfl,.rfl,trivial⟩) (AR (by kernel_rfl) ((hA77 _ _ _).1 A77_023456789c)) rfl)
               have A77_23456789:A77 6 #[false,false,true,true,true,true,true,true,true,true,false,false,false,false] ⟨183,Ad [(1,(ls eI p1)),(3,(.ptr 0 0 0 0)),(5,(.ptr 1 0 0 0)),(161,(i64 (Sh.w (c75 - 1))))],[(BM p0),(BL p2)]⟩:=(hA77 _ _ _).2 (by
                refine An [0,12] U (by kernel_rfl) (by decide) ⟨?_,?_,trivial⟩
                ·refine A5.of (i:=0) rfl U (by rfl) ?_
                 refine zq tb U (AB ⟨U,?_⟩)
                 exact AH (by refine Wk.trans (AP (L:=[(1,(ls eI p1)),(5,(.ptr 0 0 0 0)),(152,(.ptr 1 0 0 0)),(161,(i64 (Sh.w (c75 - 1))))]) (st':=[(BL p2),(BM p0)]) (st1:=[(BL p2),(BM p0)]) [1,0] U .nil (by decide) rfl U (.raw U U (.raw U U .nil)) ⟨.rfl,.rfl,.rfl,.rfl,trivial⟩) ?_;exact AF (L:=[(1,(ls eI p1)),(5,(.ptr 0 0 0 0)),(152,(.ptr 1 0 0 0)),(161,(i64 (Sh.w (c75 - 1))))]) ⟨.rfl,.rfl,.rfl,.rfl,trivial⟩) (AR (by kernel_rfl) ((hA77 _ _ _).1 A77_023456789)) rfl
                ·refine A5.of (i:=12) rfl U (by rfl) ?_
                 refine Ap (m:=2) (st':=[(BM p0),(BL p2),By]) Ah B2 U U (AB ⟨U,?_⟩)
                 exact AH (AF (L:=[(1,(ls eI p1)),(3,(.ptr 0 0 0 0)),(5,(.ptr 1 0 0 0)),(7,(.ptr 2 0 0 0)),(161,(i64 (Sh.w (c75 - 1))))]) ⟨.rfl,.rfl,.rfl,.rfl,.rfl,trivial⟩) (AR (by kernel_rfl) ((hA77 _ _ _).1 A77_23456789c)) rfl)
               have A77_2345678c:A77 6 #[false,false,true,true,true,true,true,true,true,false,false,false,true,false] ⟨183,Ad [(1,(ls eI p1)),(3,(.ptr 0 0 0 0)),(5,(.ptr 1 0 0 0)),(7,(.ptr 2 0 0 0)),(160,(i64 c75))],[(BM p0),(BL p2),By]⟩:=(hA77 _ _ _).2 (by
                refine An [0,9] U (by kernel_rfl) (by decide) ⟨?_,?_,trivial⟩
                ·refine A5.of (i:=0) rfl U (by rfl) ?_
                 refine zq tb U (AB ⟨U,?_⟩)
                 exact AH (by refine Wk.trans (AP (L:=(TI c75 p1)) (st':=[(BL p2),By,(BM p0)]) (st1:=[(BL p2),By,(BM p0)]) [1,2,0] U .nil (by decide) rfl U (.raw U U (.raw U U (.raw U U .nil))) ⟨.rfl,.rfl,.rfl,.rfl,.rfl,trivial⟩) ?_;exact AF (L:=(TI c75 p1)) ⟨.rfl,.rfl,.rfl,.rfl,.rfl,trivial⟩) (AR (by kernel_rfl) ((hA77 _ _ _).1 A77_02345678c)) rfl
                ·refine A5.of (i:=9) rfl U (by rfl) ?_
                 refine zq tb U (AB ⟨U,?_⟩)
                 exact AH (AF (L:=[(1,(ls eI p1)),(3,(.ptr 0 0 0 0)),(5,(.ptr 1 0 0 0)),(7,(.ptr 2 0 0 0)),(161,(i64 (Sh.w (c75 - 1))))]) ⟨.rfl,.rfl,.rfl,.rfl,.rfl,trivial⟩) (AR (by kernel_rfl) ((hA77 _ _ _).1 A77_23456789c)) rfl)
               have A77_2345678:A77 7 #[false,false,true,true,true,true,true,true,true,false,false,false,false,false] ⟨183,Ad [(1,(ls eI p1)),(3,(.ptr 0 0 0 0)),(5,(.ptr 1 0 0 0)),(160,(i64 c75))],[(BM p0),(BL p2)]⟩:=(hA77 _ _ _).2 (by
                refine An [0,9,12] U (by kernel_rfl) (by decide) ⟨?_,?_,?_,trivial⟩
                ·refine A5.of (i:=0) rfl U (by rfl) ?_
                 refine zq tb U (AB ⟨U,?_⟩)
                 exact AH (by refine Wk.trans (AP (L:=(W4 c75 p1)) (st':=[(BL p2),(BM p0)]) (st1:=[(BL p2),(BM p0)]) [1,0] U .nil (by decide) rfl U (.raw U U (.raw U U .nil)) ⟨.rfl,.rfl,.rfl,.rfl,trivial⟩) ?_;exact AF (L:=(W4 c75 p1)) ⟨.rfl,.rfl,.rfl,.rfl,trivial⟩) (AR (by kernel_rfl) ((hA77 _ _ _).1 A77_02345678)) rfl
                ·refine A5.of (i:=9) rfl U (by rfl) ?_
                 refine zq tb U (AB ⟨U,?_⟩)
                 exact AH (AF (L:=[(1,(ls eI p1)),(3,(.ptr 0 0 0 0)),(5,(.ptr 1 0 0 0)),(161,(i64 (Sh.w (c75 - 1))))]) ⟨.rfl,.rfl,.rfl,.rfl,trivial⟩) (AR (by kernel_rfl) ((hA77 _ _ _).1 A77_23456789)) rfl
                ·refine A5.of (i:=12) rfl U (by rfl) ?_
                 refine Ap (m:=2) (st':=[(BM p0),(BL p2),By]) Ah B2 U U (AB ⟨U,?_⟩)
                 exact AH (AF (L:=[(1,(ls eI p1)),(3,(.ptr 0 0 0 0)),(5,(.ptr 1 0 0 0)),(7,(.ptr 2 0 0 0)),(160,(i64 c75))]) ⟨.rfl,.rfl,.rfl,.rfl,.rfl,trivial⟩) (AR (by kernel_rfl) ((hA77 _ _ _).1 A77_2345678c)) rfl)
               have A77_234567c:A77 7 #[false,false,true,true,true,true,true,true,false,false,false,false,true,false] ⟨183,Ad (ZF c75 p1),[(BM p0),(BL p2),By]⟩:=(hA77 _ _ _).2 (by
                refine An [0,8] U (by kernel_rfl) (by decide) ⟨?_,?_,trivial⟩
                ·refine A5.of (i:=0) rfl U (by rfl) ?_
                 refine zq tb U (AB ⟨U,?_⟩)
                 exact AH (by refine Wk.trans (AP (L:=(Xh c75 p1)) (st':=[(BL p2),By,(BM p0)]) (st1:=[(BL p2),By,(BM p0)]) [1,2,0] U .nil (by decide) rfl U (.raw U U (.raw U U (.raw U U .nil))) ⟨.rfl,.rfl,.rfl,.rfl,.rfl,trivial⟩) ?_;exact AF (L:=(Xh c75 p1)) ⟨.rfl,.rfl,.rfl,.rfl,.rfl,trivial⟩) (AR (by kernel_rfl) ((hA77 _ _ _).1 A77_0234567c)) rfl
                ·refine A5.of (i:=8) rfl U (by rfl) ?_
                 refine zq tb U (AB ⟨U,?_⟩)
                 exact AH (AF (L:=[(1,(ls eI p1)),(3,(.ptr 0 0 0 0)),(5,(.ptr 1 0 0 0)),(7,(.ptr 2 0 0 0)),(160,(i64 c75))]) ⟨.rfl,.rfl,.rfl,.rfl,.rfl,trivial⟩) (AR (by kernel_rfl) ((hA77 _ _ _).1 A77_2345678c)) rfl)
               have A77_234567:A77 8 #[false,false,true,true,true,true,true,true,false,false,false,false,false,false] ⟨183,Ad [(1,(ls eI p1)),(3,(.ptr 0 0 0 0)),(5,(.ptr 1 0 0 0)),(159,(.BF (eI c75) 0))],[(BM p0),(BL p2)]⟩:=(hA77 _ _ _).2 (by
                refine An [0,8,12] U (by kernel_rfl) (by decide) ⟨?_,?_,?_,trivial⟩
                ·refine A5.of (i:=0) rfl U (by rfl) ?_
                 refine zq tb U (AB ⟨U,?_⟩)
                 exact AH (by refine Wk.trans (AP (L:=(Wg c75 p1)) (st':=[(BL p2),(BM p0)]) (st1:=[(BL p2),(BM p0)]) [1,0] U .nil (by decide) rfl U (.raw U U (.raw U U .nil)) ⟨.rfl,.rfl,.rfl,.rfl,trivial⟩) ?_;exact AF (L:=(Wg c75 p1)) ⟨.rfl,.rfl,.rfl,.rfl,trivial⟩) (AR (by kernel_rfl) ((hA77 _ _ _).1 A77_0234567)) rfl
                ·refine A5.of (i:=8) rfl U (by rfl) ?_
                 refine zq tb U (AB ⟨U,?_⟩)
                 exact AH (AF (L:=[(1,(ls eI p1)),(3,(.ptr 0 0 0 0)),(5,(.ptr 1 0 0 0)),(160,(i64 c75))]) ⟨.rfl,.rfl,.rfl,.rfl,trivial⟩) (AR (by kernel_rfl) ((hA77 _ _ _).1 A77_2345678)) rfl
                ·refine A5.of (i:=12) rfl U (by rfl) ?_
                 refine Ap (m:=2) (st':=[(BM p0),(BL p2),By]) Ah B2 U U (AB ⟨U,?_⟩)
                 exact AH (AF (L:=(ZF c75 p1)) ⟨.rfl,.rfl,.rfl,.rfl,.rfl,trivial⟩) (AR (by kernel_rfl) ((hA77 _ _ _).1 A77_234567c)) rfl)
               have A77_23456c:A77 8 #[false,false,true,true,true,true,true,false,false,false,false,false,true,false] ⟨183,Ad (YE c74 p1),[(BM p0),(BL p2),By]⟩:=(hA77 _ _ _).2 (by
                refine An [0,7] U (by kernel_rfl) (by decide) ⟨?_,?_,trivial⟩
                ·refine A5.of (i:=0) rfl U (by rfl) ?_
                 refine zq tb U (AB ⟨U,?_⟩)
                 exact AH (by refine Wk.trans (AP (L:=(Xg c74 p1)) (st':=[(BL p2),By,(BM p0)]) (st1:=[(BL p2),By,(BM p0)]) [1,2,0] U .nil (by decide) rfl U (.raw U U (.raw U U (.raw U U .nil))) ⟨.rfl,.rfl,.rfl,.rfl,.rfl,.rfl,trivial⟩) ?_;exact AF (L:=(Xg c74 p1)) ⟨.rfl,.rfl,.rfl,.rfl,.rfl,.rfl,trivial⟩) (AR (by kernel_rfl) ((hA77 _ _ _).1 A77_023456c)) rfl
                ·refine A5.of (i:=7) rfl U (by rfl) ?_
                 refine zx BN gc75 U U U (AB ⟨U,?_⟩)
                 exact AH (AF (L:=(ZF c75 p1)) ⟨.rfl,.rfl,.rfl,.rfl,.rfl,trivial⟩) (AR (by kernel_rfl) ((hA77 _ _ _).1 A77_234567c)) rfl)
               have A77_23456:A77 9 #[false,false,true,true,true,true,true,false,false,false,false,false,false,false] ⟨183,Ad [(1,(ls eI p1)),(3,(.ptr 0 0 0 0)),(5,(.ptr 1 0 0 0)),(154,(ls eI p1)),(158,(i64 c74))],[(BM p0),(BL p2)]⟩:=(hA77 _ _ _).2 (by
                refine An [0,7,12] U (by kernel_rfl) (by decide) ⟨?_,?_,?_,trivial⟩
                ·refine A5.of (i:=0) rfl U (by rfl) ?_
                 refine zq tb U (AB ⟨U,?_⟩)
                 exact AH (by refine Wk.trans (AP (L:=(Wr c74 p1)) (st':=[(BL p2),(BM p0)]) (st1:=[(BL p2),(BM p0)]) [1,0] U .nil (by decide) rfl U (.raw U U (.raw U U .nil)) ⟨.rfl,.rfl,.rfl,.rfl,.rfl,trivial⟩) ?_;exact AF (L:=(Wr c74 p1)) ⟨.rfl,.rfl,.rfl,.rfl,.rfl,trivial⟩) (AR (by kernel_rfl) ((hA77 _ _ _).1 A77_023456)) rfl
                ·refine A5.of (i:=7) rfl U (by rfl) ?_
                 refine zx BN gc75 U U U (AB ⟨U,?_⟩)
                 exact AH (AF (L:=[(1,(ls eI p1)),(3,(.ptr 0 0 0 0)),(5,(.ptr 1 0 0 0)),(159,(.BF (eI c75) 0))]) ⟨.rfl,.rfl,.rfl,.rfl,trivial⟩) (AR (by kernel_rfl) ((hA77 _ _ _).1 A77_234567)) rfl
                ·refine A5.of (i:=12) rfl U (by rfl) ?_
                 refine Ap (m:=2) (st':=[(BM p0),(BL p2),By]) Ah B2 U U (AB ⟨U,?_⟩)
                 exact AH (AF (L:=(YE c74 p1)) ⟨.rfl,.rfl,.rfl,.rfl,.rfl,.rfl,trivial⟩) (AR (by kernel_rfl) ((hA77 _ _ _).1 A77_23456c)) rfl)
               have A77_2345c:A77 9 #[false,false,true,true,true,true,false,false,false,false,false,false,true,false] ⟨183,Ad (Y8 c74 p1),[(BM p0),(BL p2),By]⟩:=(hA77 _ _ _).2 (by
                refine An [0,6] U (by kernel_rfl) (by decide) ⟨?_,?_,trivial⟩
                ·refine A5.of (i:=0) rfl U (by rfl) ?_
                 refine zq tb U (AB ⟨U,?_⟩)
                 exact AH (by refine Wk.trans (AP (L:=(Xm c74 p1)) (st':=[(BL p2),By,(BM p0)]) (st1:=[(BL p2),By,(BM p0)]) [1,2,0] U .nil (by decide) rfl U (.raw U U (.raw U U (.raw U U .nil))) ⟨.rfl,.rfl,.rfl,.rfl,.rfl,.rfl,trivial⟩) ?_;exact AF (L:=(Xm c74 p1)) ⟨.rfl,.rfl,.rfl,.rfl,.rfl,.rfl,trivial⟩) (AR (by kernel_rfl) ((hA77 _ _ _).1 A77_02345c)) rfl
                ·refine A5.of (i:=6) rfl U (by rfl) ?_
                 refine zq tb U (AB ⟨U,?_⟩)
                 exact AH (AF (L:=(YE c74 p1)) ⟨.rfl,.rfl,.rfl,.rfl,.rfl,.rfl,trivial⟩) (AR (by kernel_rfl) ((hA77 _ _ _).1 A77_23456c)) rfl)
               have A77_2345:A77 10 #[false,false,true,true,true,true,false,false,false,false,false,false,false,false] ⟨183,Ad [(1,(ls eI p1)),(3,(.ptr 0 0 0 0)),(5,(.ptr 1 0 0 0)),(154,(ls eI p1)),(157,(.BF (eI c74) 0))],[(BM p0),(BL p2)]⟩:=(hA77 _ _ _).2 (by
                refine An [0,6,12] U (by kernel_rfl) (by decide) ⟨?_,?_,?_,trivial⟩
                ·refine A5.of (i:=0) rfl U (by rfl) ?_
                 refine zq tb U (AB ⟨U,?_⟩)
                 exact AH (by refine Wk.trans (AP (L:=(We c74 p1)) (st':=[(BL p2),(BM p0)]) (st1:=[(BL p2),(BM p0)]) [1,0] U .nil (by decide) rfl U (.raw U U (.raw U U .nil)) ⟨.rfl,.rfl,.rfl,.rfl,.rfl,trivial⟩) ?_;exact AF (L:=(We c74 p1)) ⟨.rfl,.rfl,.rfl,.rfl,.rfl,trivial⟩) (AR (by kernel_rfl) ((hA77 _ _ _).1 A77_02345)) rfl
                ·refine A5.of (i:=6) rfl U (by rfl) ?_
                 refine zq tb U (AB ⟨U,?_⟩)
                 exact AH (AF (L:=[(1,(ls eI p1)),(3,(.ptr 0 0 0 0)),(5,(.ptr 1 0 0 0)),(154,(ls eI p1)),(158,(i64 c74))]) ⟨.rfl,.rfl,.rfl,.rfl,.rfl,trivial⟩) (AR (by kernel_rfl) ((hA77 _ _ _).1 A77_23456)) rfl
                ·refine A5.of (i:=12) rfl U (by rfl) ?_
                 refine Ap (m:=2) (st':=[(BM p0),(BL p2),By]) Ah B2 U U (AB ⟨U,?_⟩)
                 exact AH (AF (L:=(Y8 c74 p1)) ⟨.rfl,.rfl,.rfl,.rfl,.rfl,.rfl,trivial⟩) (AR (by kernel_rfl) ((hA77 _ _ _).1 A77_2345c)) rfl)
               have A77_234c:A77 10 #[false,false,true,true,true,false,false,false,false,false,false,false,true,false] ⟨183,Ad (X8 p1 p2),[(BM p0),(BL p2),By]⟩:=(hA77 _ _ _).2 (by
                refine An [0,5] U (by kernel_rfl) (by decide) ⟨?_,?_,trivial⟩
                ·refine A5.of (i:=0) rfl U (by rfl) ?_
                 refine zq tb U (AB ⟨U,?_⟩)
                 exact AH (by refine Wk.trans (AP (L:=(XO p1 p2)) (st':=[(BL p2),By,(BM p0)]) (st1:=[(BL p2),By,(BM p0)]) [1,2,0] U .nil (by decide) rfl U (.raw U U (.raw U U (.raw U U .nil))) ⟨.rfl,.rfl,.rfl,.rfl,.rfl,.rfl,trivial⟩) ?_;exact AF (L:=(XO p1 p2)) ⟨.rfl,.rfl,.rfl,.rfl,.rfl,.rfl,trivial⟩) (AR (by kernel_rfl) ((hA77 _ _ _).1 A77_0234c)) rfl
                ·refine A5.of (i:=5) rfl U (by rfl) ?_
                 refine zx BN gc74 U U U (AB ⟨U,?_⟩)
                 exact AH (AF (L:=(Y8 c74 p1)) ⟨.rfl,.rfl,.rfl,.rfl,.rfl,.rfl,trivial⟩) (AR (by kernel_rfl) ((hA77 _ _ _).1 A77_2345c)) rfl)
               have A77_234:A77 11 #[false,false,true,true,true,false,false,false,false,false,false,false,false,false] ⟨183,Ad [(1,(ls eI p1)),(3,(.ptr 0 0 0 0)),(5,(.ptr 1 0 0 0)),(154,(ls eI p1)),(156,(ls eI p2.args))],[(BM p0),(BL p2)]⟩:=(hA77 _ _ _).2 (by
                refine An [0,5,12] U (by kernel_rfl) (by decide) ⟨?_,?_,?_,trivial⟩
                ·refine A5.of (i:=0) rfl U (by rfl) ?_
                 refine zq tb U (AB ⟨U,?_⟩)
                 exact AH (by refine Wk.trans (AP (L:=(WU p1 p2)) (st':=[(BL p2),(BM p0)]) (st1:=[(BL p2),(BM p0)]) [1,0] U .nil (by decide) rfl U (.raw U U (.raw U U .nil)) ⟨.rfl,.rfl,.rfl,.rfl,.rfl,trivial⟩) ?_;exact AF (L:=(WU p1 p2)) ⟨.rfl,.rfl,.rfl,.rfl,.rfl,trivial⟩) (AR (by kernel_rfl) ((hA77 _ _ _).1 A77_0234)) rfl
                ·refine A5.of (i:=5) rfl U (by rfl) ?_
                 refine zx BN gc74 U U U (AB ⟨U,?_⟩)
                 exact AH (AF (L:=[(1,(ls eI p1)),(3,(.ptr 0 0 0 0)),(5,(.ptr 1 0 0 0)),(154,(ls eI p1)),(157,(.BF (eI c74) 0))]) ⟨.rfl,.rfl,.rfl,.rfl,.rfl,trivial⟩) (AR (by kernel_rfl) ((hA77 _ _ _).1 A77_2345)) rfl
                ·refine A5.of (i:=12) rfl U (by rfl) ?_
                 refine Ap (m:=2) (st':=[(BM p0),(BL p2),By]) Ah B2 U U (AB ⟨U,?_⟩)
                 exact AH (AF (L:=(X8 p1 p2)) ⟨.rfl,.rfl,.rfl,.rfl,.rfl,.rfl,trivial⟩) (AR (by kernel_rfl) ((hA77 _ _ _).1 A77_234c)) rfl)
               have A77_23c:A77 11 #[false,false,true,true,false,false,false,false,false,false,false,false,true,false] ⟨183,Ad (YB p1),[(BM p0),(BL p2),By]⟩:=(hA77 _ _ _).2 (by
                refine An [0,4] U (by kernel_rfl) (by decide) ⟨?_,?_,trivial⟩
                ·refine A5.of (i:=0) rfl U (by rfl) ?_
                 refine zq tb U (AB ⟨U,?_⟩)
                 exact AH (by refine Wk.trans (AP (L:=(Xj p1)) (st':=[(BL p2),By,(BM p0)]) (st1:=[(BL p2),By,(BM p0)]) [1,2,0] U .nil (by decide) rfl U (.raw U U (.raw U U (.raw U U .nil))) ⟨.rfl,.rfl,.rfl,.rfl,.rfl,.rfl,trivial⟩) ?_;exact AF (L:=(Xj p1)) ⟨.rfl,.rfl,.rfl,.rfl,.rfl,.rfl,trivial⟩) (AR (by kernel_rfl) ((hA77 _ _ _).1 A77_023c)) rfl
                ·refine A5.of (i:=4) rfl U (by rfl) ?_
                 refine zq tb U (AB ⟨U,?_⟩)
                 exact AH (AF (L:=(X8 p1 p2)) ⟨.rfl,.rfl,.rfl,.rfl,.rfl,.rfl,trivial⟩) (AR (by kernel_rfl) ((hA77 _ _ _).1 A77_234c)) rfl)
               have A77_23:A77 12 #[false,false,true,true,false,false,false,false,false,false,false,false,false,false] ⟨183,Ad [(1,(ls eI p1)),(3,(.ptr 0 0 0 0)),(5,(.ptr 1 0 0 0)),(154,(ls eI p1)),(155,(.ptr 1 0 0 3))],[(BM p0),(BL p2)]⟩:=(hA77 _ _ _).2 (by
                refine An [0,4,12] U (by kernel_rfl) (by decide) ⟨?_,?_,?_,trivial⟩
                ·refine A5.of (i:=0) rfl U (by rfl) ?_
                 refine zq tb U (AB ⟨U,?_⟩)
                 exact AH (by refine Wk.trans (AP (L:=(W7 p1)) (st':=[(BL p2),(BM p0)]) (st1:=[(BL p2),(BM p0)]) [1,0] U .nil (by decide) rfl U (.raw U U (.raw U U .nil)) ⟨.rfl,.rfl,.rfl,.rfl,.rfl,trivial⟩) ?_;exact AF (L:=(W7 p1)) ⟨.rfl,.rfl,.rfl,.rfl,.rfl,trivial⟩) (AR (by kernel_rfl) ((hA77 _ _ _).1 A77_023)) rfl
                ·refine A5.of (i:=4) rfl U (by rfl) ?_
                 refine zq tb U (AB ⟨U,?_⟩)
                 exact AH (AF (L:=[(1,(ls eI p1)),(3,(.ptr 0 0 0 0)),(5,(.ptr 1 0 0 0)),(154,(ls eI p1)),(156,(ls eI p2.args))]) ⟨.rfl,.rfl,.rfl,.rfl,.rfl,trivial⟩) (AR (by kernel_rfl) ((hA77 _ _ _).1 A77_234)) rfl
                ·refine A5.of (i:=12) rfl U (by rfl) ?_
                 refine Ap (m:=2) (st':=[(BM p0),(BL p2),By]) Ah B2 U U (AB ⟨U,?_⟩)
                 exact AH (AF (L:=(YB p1)) ⟨.rfl,.rfl,.rfl,.rfl,.rfl,.rfl,trivial⟩) (AR (by kernel_rfl) ((hA77 _ _ _).1 A77_23c)) rfl)
               have A77_2c:A77 12 #[false,false,true,false,false,false,false,false,false,false,false,false,true,false] ⟨183,Ad [(1,(ls eI p1)),(3,(.ptr 0 0 0 0)),(5,(.ptr 1 0 0 0)),(7,(.ptr 2 0 0 0)),(154,(ls eI p1))],[(BM p0),(BL p2),By]⟩:=(hA77 _ _ _).2 (by
                refine An [0,3] U (by kernel_rfl) (by decide) ⟨?_,?_,trivial⟩
                ·refine A5.of (i:=0) rfl U (by rfl) ?_
                 refine zq tb U (AB ⟨U,?_⟩)
                 exact AH (by refine Wk.trans (AP (L:=(VE p1)) (st':=[(BL p2),By,(BM p0)]) (st1:=[(BL p2),By,(BM p0)]) [1,2,0] U .nil (by decide) rfl U (.raw U U (.raw U U (.raw U U .nil))) ⟨.rfl,.rfl,.rfl,.rfl,.rfl,trivial⟩) ?_;exact AF (L:=(VE p1)) ⟨.rfl,.rfl,.rfl,.rfl,.rfl,trivial⟩) (AR (by kernel_rfl) ((hA77 _ _ _).1 A77_02c)) rfl
                ·refine A5.of (i:=3) rfl U (by rfl) ?_
                 refine zq tb U (AB ⟨U,?_⟩)
                 exact AH (AF (L:=(YB p1)) ⟨.rfl,.rfl,.rfl,.rfl,.rfl,.rfl,trivial⟩) (AR (by kernel_rfl) ((hA77 _ _ _).1 A77_23c)) rfl)
               have A77_2:A77 13 #[false,false,true,false,false,false,false,false,false,false,false,false,false,false] ⟨183,Ad [(1,(ls eI p1)),(3,(.ptr 0 0 0 0)),(5,(.ptr 1 0 0 0)),(154,(ls eI p1))],[(BM p0),(BL p2)]⟩:=(hA77 _ _ _).2 (by
                refine An [0,3,12] U (by kernel_rfl) (by decide) ⟨?_,?_,?_,trivial⟩
                ·refine A5.of (i:=0) rfl U (by rfl) ?_
                 refine zq tb U (AB ⟨U,?_⟩)
                 exact AH (by refine Wk.trans (AP (L:=[(1,(ls eI p1)),(5,(.ptr 0 0 0 0)),(152,(.ptr 1 0 0 0)),(154,(ls eI p1))]) (st':=[(BL p2),(BM p0)]) (st1:=[(BL p2),(BM p0)]) [1,0] U .nil (by decide) rfl U (.raw U U (.raw U U .nil)) ⟨.rfl,.rfl,.rfl,.rfl,trivial⟩) ?_;exact AF (L:=[(1,(ls eI p1)),(5,(.ptr 0 0 0 0)),(152,(.ptr 1 0 0 0)),(154,(ls eI p1))]) ⟨.rfl,.rfl,.rfl,.rfl,trivial⟩) (AR (by kernel_rfl) ((hA77 _ _ _).1 A77_02)) rfl
                ·refine A5.of (i:=3) rfl U (by rfl) ?_
                 refine zq tb U (AB ⟨U,?_⟩)
                 exact AH (AF (L:=[(1,(ls eI p1)),(3,(.ptr 0 0 0 0)),(5,(.ptr 1 0 0 0)),(154,(ls eI p1)),(155,(.ptr 1 0 0 3))]) ⟨.rfl,.rfl,.rfl,.rfl,.rfl,trivial⟩) (AR (by kernel_rfl) ((hA77 _ _ _).1 A77_23)) rfl
                ·refine A5.of (i:=12) rfl U (by rfl) ?_
                 refine Ap (m:=2) (st':=[(BM p0),(BL p2),By]) Ah B2 U U (AB ⟨U,?_⟩)
                 exact AH (AF (L:=[(1,(ls eI p1)),(3,(.ptr 0 0 0 0)),(5,(.ptr 1 0 0 0)),(7,(.ptr 2 0 0 0)),(154,(ls eI p1))]) ⟨.rfl,.rfl,.rfl,.rfl,.rfl,trivial⟩) (AR (by kernel_rfl) ((hA77 _ _ _).1 A77_2c)) rfl)
               have A77_e:A77 14 #[false,false,false,false,false,false,false,false,false,false,false,false,false,false] ⟨183,Ad [(1,(ls eI p1)),(3,(.ptr 0 0 0 0)),(5,(.ptr 1 0 0 0))],[(BM p0),(BL p2)]⟩:=(hA77 _ _ _).2 (by
                refine ET 2 (v:=(ls eI p1)) rfl U (by kernel_rfl) (by kernel_rfl) (by kernel_rfl) rfl (F8 U) ?_
                exact AH (AF (L:=[(1,(ls eI p1)),(3,(.ptr 0 0 0 0)),(5,(.ptr 1 0 0 0)),(154,(ls eI p1))]) ⟨.rfl,.rfl,.rfl,.rfl,trivial⟩) (AR (by kernel_rfl) ((hA77 _ _ _).1 A77_2)) rfl)
               refine (hA77 _ _ _).2 ?_
               exact AH (AF (L:=[(1,(ls eI p1)),(3,(.ptr 0 0 0 0)),(5,(.ptr 1 0 0 0))]) ⟨.rfl,.rfl,.rfl,trivial⟩) (AR (by kernel_rfl) ((hA77 _ _ _).1 A77_e)) rfl
              ·intro b72 h1
               exact AI (M9 () (Sh.AA h1).symm _ (Ai _ U))
             refine Bz (by kernel_rfl) (by kernel_rfl) (by rfl) ?_
             iterate 2 refine yq tb rfl ?_
             refine yl tb U U ?_
             iterate 2 refine yq tb rfl ?_
             rcases Sh.As h2 with ⟨b78,h2⟩ | ⟨b78,h2⟩
             ·refine yg tb b78 U (yg tb b78 U (bs h2 fun c79 gc79 h2=>H3 (v:=(.BF (eI c79) 0)) (Bb U U b78) rfl (CL BN U U gc79 U) ?_))
              iterate 2 refine yg tb b78 rfl ?_
              refine H3 (v:=(i64 (Sh.len p1))) (Bb U U b78) rfl (Bo Ga U) (yg tb b78 U (bs h2 fun q80 gq80 h2=>CR (v:=(.bool q80)) (Bb U U b78) Gs (BX gq80) rfl U U (yt b78 U (yq tb U ?_))))
              rcases Sh.As h2 with ⟨b81,h2⟩ | ⟨b81,h2⟩
              ·refine yg tb b81 U ?_
               iterate 4 refine yg tb b81 rfl ?_
               exact H3 (v:=(.BF (eI c79) 0)) (Bb U U b81) rfl (CL BN U U gc79 U) (yg tb b81 U (bs h2 fun c82 gc82 h2=>H3 (v:=(.BF (eI c82) 0)) (Bb U U b81) rfl (CL BN U U gc82 U) (yg tb b81 U (bs h2 fun q83 gq83 h2=>CR (v:=(.bool q83)) (Bb U U b81) X4 (LF gq83) rfl U U (yt b81 U (BS (M71 q83 (Sh.AA h2).symm _ (AN U))))))))
              ·refine ys b81 U ?_
               iterate 9 refine ys b81 rfl ?_
               exact yf b81 U (BS (M71 false (Sh.AA h2).symm _ (AN U)))
             ·refine ys b78 U ?_
              iterate 7 refine ys b78 rfl ?_
              refine yf b78 U (yq tb U ?_)
              iterate 10 refine ys rfl rfl ?_
              exact yf U U (BS (M71 false (Sh.AA h2).symm _ (AN U)))
            ·intro b68 h1
             refine AE fun K84 hK84=>bs h1 fun o86 h2 h1=>?_
             have M86 :∀(t85:Bool),o86=t85→∀s,Wk 0 s ⟨183,Ad [(1,(ls eI p1)),(3,(.ptr 0 0 0 0)),(5,(.ptr 1 0 0 0)),(174,(.bool t85))],[(BM p0),(BL p2)]⟩→K84 s:=by
              intro t85 hq s hw
              subst o86
              try dsimp only at h1
              refine hK84 _ (AS hw ?_)
              refine ci h1 U ?_ ?_ <;> clear h1
              ·intro b87 h1
               refine sr U fun K88 hK88=>zm tb 3 U (bs h1 fun q89 gq89 h1=>zc aw (MG gq89) rfl U U (zq tb U (dn hK88 U ?_)))
               replace h1:=Sh.AA h1
               subst o9
               try dsimp only[id] at h0
               replace h0:=Sh.AA h0
               subst r
               exact AK (xr (Ai [(6,(i64 q89))] U))
              ·intro b87 h1
               exact AI (M9 () (Sh.AA h1).symm _ (Ai _ U))
             refine zr tb U U ?_
             refine ci h2 U ?_ ?_ <;> clear h2
             ·intro b91 h2
              exact AI (M86 true (Sh.AA h2).symm _ (AF (L:=(YH p1)) ⟨.rfl,.rfl,.rfl,(.of (congrArg AV.bool b91)),trivial⟩))
             ·intro b91 h2
              refine zr tb U U ?_
              refine ci h2 U ?_ ?_ <;> clear h2
              ·intro b93 h2
               exact AI (M86 true (Sh.AA h2).symm _ (AF (L:=(YH p1)) ⟨.rfl,.rfl,.rfl,(.of (congrArg AV.bool b93)),trivial⟩))
              ·intro b93 h2
               refine zr tb U U ?_
               refine ci h2 U ?_ ?_ <;> clear h2
               ·intro b95 h2
                exact AI (M86 true (Sh.AA h2).symm _ (AF (L:=(YH p1)) ⟨.rfl,.rfl,.rfl,(.of (congrArg AV.bool b95)),trivial⟩))
               ·intro b95 h2
                exact AJ U (zm tb 2 U (AB (M86 (decide (p2.op=17)) (Sh.AA h2).symm _ (AN U))))
          refine zr tb U U ?_
          refine ci h2 U ?_ ?_ <;> clear h2
          ·intro b97 h2
           exact AI (M63 true (Sh.AA h2).symm _ (AF (L:=[(1,(ls eI p1)),(3,(.ptr 0 0 0 0)),(5,(.ptr 1 0 0 0)),(40,(i64 p2.op)),(117,(.bool true))]) ⟨.rfl,.rfl,.rfl,.rfl,(.of (congrArg AV.bool b97)),trivial⟩))
          ·intro b97 h2
           exact AJ U (zm tb 2 U (AB (M63 (decide (p2.op=10)) (Sh.AA h2).symm _ (AN U))))
    refine zr tb U U ?_
    refine ci h2 U ?_ ?_ <;> clear h2
    ·intro b99 h2
     exact AI (M23 true (Sh.AA h2).symm _ (AF (L:=(Yr p1 p2)) ⟨.rfl,.rfl,.rfl,.rfl,(.of (congrArg AV.bool b99)),trivial⟩))
    ·intro b99 h2
     refine zr tb U U ?_
     refine ci h2 U ?_ ?_ <;> clear h2
     ·intro b101 h2
      exact AI (M23 true (Sh.AA h2).symm _ (AF (L:=(Yr p1 p2)) ⟨.rfl,.rfl,.rfl,.rfl,(.of (congrArg AV.bool b101)),trivial⟩))
     ·intro b101 h2
      refine zr tb U U ?_
      refine ci h2 U ?_ ?_ <;> clear h2
      ·intro b103 h2
       exact AI (M23 true (Sh.AA h2).symm _ (AF (L:=(Yr p1 p2)) ⟨.rfl,.rfl,.rfl,.rfl,(.of (congrArg AV.bool b103)),trivial⟩))
      ·intro b103 h2
       exact AJ U (zm tb 2 U (AB (M23 (decide (p2.op=4)) (Sh.AA h2).symm _ (AN U))))
 refine AJ U (zm tb 4 U ?_)
 rcases Sh.As h1 with ⟨b104,h1⟩ | ⟨b104,h1⟩
 ·refine zg tb b104 U (zg tb b104 U (bs h1 fun q105 gq105 h1=>zd b104 cE (Q2 gq105) rfl U U U (zg tb b104 U (zt b104 U (zq tb U ?_)))))
  rcases Sh.As h1 with ⟨b106,h1⟩ | ⟨b106,h1⟩
  ·refine zs b106 U ?_
   iterate 3 refine zs b106 rfl ?_
   refine zt b106 U (zq tb U ?_)
   iterate 5 refine zs rfl rfl ?_
   iterate 3 refine zn rfl ?_
   refine zs U U (zs U U ?_)
   iterate 3 refine zn rfl ?_
   exact zs U U (zt U U (AB (M5 true (Sh.AA h1).symm _ (AN U))))
  ·refine zg tb b106 U (zg tb b106 U (bs h1 fun q107 gq107 h1=>zd b106 X9 (J8 gq107) rfl U U U (zg tb b106 U (zf b106 U (zq tb U ?_)))))
   rcases Sh.As h1 with ⟨b108,h1⟩ | ⟨b108,h1⟩
   ·refine zs b108 U ?_
    iterate 4 refine zs b108 rfl ?_
    iterate 3 refine zn rfl ?_
    refine zs b108 U (zs b108 U ?_)
    iterate 3 refine zn rfl ?_
    exact zs b108 U (zt b108 U (AB (M5 true (Sh.AA h1).symm _ (AN U))))
   ·refine zg tb b108 U (zg tb b108 U (A7 (v:=(i64 (Sh.len p2.kids))) (Bb U U b108) rfl (Bo Rz U) (zg tb b108 U (zg tb b108 U ?_))))
    rcases Sh.As h1 with ⟨b109,h1⟩ | ⟨b109,h1⟩
    ·refine zg tb b109 U (zg tb b109 U (zg tb b109 U (A7 (v:=(.bool (!decide (p2.op=7)))) (Bb U U b108) rfl (EK U b109 U) (zg tb b108 U ?_))))
     rcases Sh.As h1 with ⟨b110,h1⟩ | ⟨b110,h1⟩
     ·exact zg tb b110 U (zg tb b110 U (zg tb b110 U (A7 (v:=(.bool (!decide (p2.op=8)))) (Bb U U b108) rfl (EK U b110 U) (zf b108 U (AB (M5 (!decide (p2.op=8)) (Sh.AA h1).symm _ (AN U)))))))
     ·exact zs b110 U (zs b110 U (zs b110 U (A7 (v:=(.bool false)) (Bb U U b108) rfl (EI U b110 U) (zf b108 U (AB (M5 false (Sh.AA h1).symm _ (AN U)))))))
    ·refine zs b109 U (zs b109 U (zs b109 U (A7 (v:=(.bool false)) (Bb U U b108) rfl (EI U b109 U) (zg tb b108 U ?_))))
     iterate 3 refine zs rfl rfl ?_
     exact A7 (v:=(.bool false)) (Bb U U b108) rfl (EI U U U) (zf b108 U (AB (M5 false (Sh.AA h1).symm _ (AN U))))
 ·refine zs b104 U ?_
  iterate 3 refine zs b104 rfl ?_
  refine zf b104 U (zq tb U (zg tb U U (zg tb U U (bs h1 fun q111 gq111 h1=>zd U X9 (J8 gq111) rfl U U U (zg tb U U (zf U U (zq tb U ?_)))))))
  rcases Sh.As h1 with ⟨b112,h1⟩ | ⟨b112,h1⟩
  ·refine zs b112 U ?_
   iterate 4 refine zs b112 rfl ?_
   iterate 3 refine zn rfl ?_
   refine zs b112 U (zs b112 U ?_)
   iterate 3 refine zn rfl ?_
   exact zs b112 U (zt b112 U (AB (M5 true (Sh.AA h1).symm _ (AN U))))
  ·refine zg tb b112 U (zg tb b112 U (A7 (v:=(i64 (Sh.len p2.kids))) (Bb U U b112) rfl (Bo Rz U) (zg tb b112 U (zg tb b112 U ?_))))
   rcases Sh.As h1 with ⟨b113,h1⟩ | ⟨b113,h1⟩
   ·refine zg tb b113 U (zg tb b113 U (zg tb b113 U (A7 (v:=(.bool (!decide (p2.op=7)))) (Bb U U b112) rfl (EK U b113 U) (zg tb b112 U ?_))))
    rcases Sh.As h1 with ⟨b114,h1⟩ | ⟨b114,h1⟩
    ·exact zg tb b114 U (zg tb b114 U (zg tb b114 U (A7 (v:=(.bool (!decide (p2.op=8)))) (Bb U U b112) rfl (EK U b114 U) (zf b112 U (AB (M5 (!decide (p2.op=8)) (Sh.AA h1).symm _ (AN U)))))))
    ·exact zs b114 U (zs b114 U (zs b114 U (A7 (v:=(.bool false)) (Bb U U b112) rfl (EI U b114 U) (zf b112 U (AB (M5 false (Sh.AA h1).symm _ (AN U)))))))
   ·refine zs b113 U (zs b113 U (zs b113 U (A7 (v:=(.bool false)) (Bb U U b112) rfl (EI U b113 U) (zg tb b112 U ?_))))
    iterate 3 refine zs rfl rfl ?_
    exact A7 (v:=(.bool false)) (Bb U U b112) rfl (EI U U U) (zf b112 U (AB (M5 false (Sh.AA h1).symm _ (AN U))))
theorem P6 {p0:Int} {r:Bool} (h0:Gm p0=some r):Ae Tryz.prog 157 [(i64 p0)] [] (fun v st=>v=(.bool r)∧st=[]):=by
 unfold Gm at h0
 refine ai Tryz.func157 U U U U (zr tb U U (sr U fun K2 hK2=>zq tb U (bs h0 fun q3 gq3 h0=>zc Gs (BX gq3) rfl U U (zq tb U (dn hK2 U ?_)))))
 replace h0:=Sh.AA h0
 subst r
 exact AK (xr (AF (L:=[(2,(.bool q3))]) ⟨.rfl,trivial⟩))
noncomputable abbrev Lv (p2:Block):Go.Abs.Row:=⟨0,55,2,[[(ls Al p2.steps),(i64 p2.result)]]⟩
theorem NB {N:Nat} {rec_spec_blockType:Aj→(List Int)→Block→Option (Int)} (hrec_spec_blockType :∀{p0:Aj} {p1:(List Int)} {p2:Block} {r:Int},rec_spec_blockType p0 p1 p2=some r→Ae Tryz.prog 100 [(.agg [(ls AG p0.decls),(ls AT p0.AD)]),(ls eI p1),(.agg [(ls Al p2.steps),(i64 p2.result)])] [] (fun v st=>v=(i64 r)∧st=[])) {p0:Aj} {p1:(List Int)} {p2:Block} {r:Int} (h0:E1 N rec_spec_blockType p0 p1 p2=some r):Ae Tryz.prog 100 [(.agg [(ls AG p0.decls),(ls AT p0.AD)]),(ls eI p1),(.agg [(ls Al p2.steps),(i64 p2.result)])] [] (fun v st=>v=(i64 r)∧st=[]):=by
 unfold E1 at h0
 refine ai Tryz.func100 U U U U (sr U fun K1 hK1=>BI (m:=0) (st':=[(BM p0)]) Ah U U U U U (BI (m:=1) (st':=[(BM p0),(Lv p2)]) Ah U U U U U (zq tb U (dn hK1 U (sr U fun K2 hK2=>zq tb U (bs h0 fun q3 gq3 h0=>BW (v':=(ow 2 0 q3)) (st':=[(BM p0),(Lv p2),(ro 0 3 1 eI q3)]) Ah PZ (Ez gq3) rfl U ⟨(Bf fun _=>U),trivial⟩ U U (zq tb U (dn hK2 U ?_))))))))
 refine AE fun K4 hK4=>zr tb U U ?_
 obtain⟨o9,h1,h0⟩:=Sh.A8 h0
 have M9 :∀(l8:(List Int)),o9=Sum.inr l8→∀s,Wk 0 s ⟨52,Ad [(5,(.ptr 0 0 0 0)),(7,(ow 1 0 l8))],[(Lv p2),(ro 0 3 1 eI l8)]⟩→K4 s:=by
  intro l8 hq s hw
  subst o9
  try dsimp only at h0
  refine hK4 _ (AS hw (AE fun K10 hK10=>sr U fun K11 hK11=>zm tb 3 U (zz (i64 (Sh.len l8)) (Ek Ga U U U) rfl (zq tb U (bs h0 fun q12 gq12 h0=>zc Gs (BX gq12) rfl U U (zq tb U (dn hK11 U ?_)))))))
  refine ci h0 U ?_ ?_ <;> clear h0
  ·intro b13 h0
   have b14:q12=false:=by simpa using b13
   refine zr tb U U ?_
   replace h0:=Sh.AA h0
   subst r
   exact AK (xr (Ai [(6,(i64 (-1)))] U))
  ·intro b13 h0
   have b16:q12=true:=by simpa using b13
   refine AI (hK10 _ (sr U fun K17 hK17=>zm tb 3 U (bs h0 fun c18 gc18 h0=>zz (.ptr 1 0 (Int.toNat p2.result) 0) (B8 BN U U U U gc18) rfl (zz (i64 c18) (Cf HN U U (ER gc18) rfl) rfl (zq tb U (dn hK17 U ?_))))))
   replace h0:=Sh.AA h0
   subst r
   exact AK (xr (Ai [(6,(i64 c18))] U))
 refine Aa (Au (σ:=Int×(List Int)) (fun n v=>Bh N p0 p2 rec_spec_blockType n v.1 v.2=some o9) (fun (i6,l7)=>⟨52,Ad [(3,(.ptr 0 0 0 0)),(5,(.ptr 1 0 0 0)),(7,(ow 2 0 l7)),(8,(i64 i6))],[(BM p0),(Lv p2),(ro 0 3 1 eI l7)]⟩) N (0,q3) h1 (AN U) (fun _ hv=>by rw[Bh] at hv;cases hv) ?_)
 rintro n ⟨i6,l7⟩ h1
 try dsimp only at h1 ⊢
 rw[Bh] at h1
 refine AE fun K19 hK19=>sr U fun K20 hK20=>zm tb 3 U (zl tb U U (zq tb U (dn hK20 U ?_)))
 refine ci h1 U ?_ ?_ <;> clear h1
 ·intro b21 h1
  refine AI (hK19 _ (AE fun K22 hK22=>?_))
  obtain⟨o24,h2,h1⟩:=Sh.A8 h1
  have M24 :∀(l23:(List Int)),o24=Sum.inr l23→∀s,Wk 0 s ⟨52,Ad [(3,(.ptr 0 0 0 0)),(5,(.ptr 1 0 0 0)),(7,(ow 2 0 l23)),(8,(i64 i6))],[(BM p0),(Lv p2),(ro 0 3 1 eI l23)]⟩→K22 s:=by
   intro l23 hq s hw
   subst o24
   try dsimp only at h1
   exact hK22 _ (AS hw (AJ U (zm tb 3 U (AB (xi (Sh.w (i6+1),l23) h1 (AN U))))))
  refine Aa (AE fun K25 hK25=>?_)
  refine Bz (by kernel_rfl) (by kernel_rfl) (by rfl) ?_
  iterate 5 refine yq tb rfl ?_
  refine bs h2 fun c26 gc26 h2=>yz (.BF [(i64 c26.op),(i64 c26.num),(i64 c26.Ax),(ls eI c26.args),(ls A2 c26.kids)] 0) (Di FD U U gc26 (Bw _) rfl) rfl (yq tb U (bs h2 fun q27 gq27 h2=>SH (v':=(i64 q27)) Ah bz (O5 hrec_spec_blockType gq27) rfl (.val U (.own U U (fun _=>U) (.val U .nil))) rfl U (yq tb U (BS (hK25 _ (AE fun K28 hK28=>zr tb U U ?_))))))
  refine ci h2 U ?_ ?_ <;> clear h2
  ·intro b30 h2
   refine zr tb U U ?_
   replace h2:=Sh.AA h2
   subst o24
   try dsimp only[id] at h1
   replace h1:=Sh.AA h1
   subst o9
   try dsimp only[id] at h0
   replace h0:=Sh.AA h0
   subst r
   exact AK (xr (Ai [(6,(i64 (-1)))] U))
  ·intro b30 h2
   refine AI (hK28 _ (sr U fun K32 hK32=>zm tb 3 U (zz (.BF [(i64 c26.op),(i64 c26.num),(i64 c26.Ax),(ls eI c26.args),(ls A2 c26.kids)] 0) (Di FD U U gc26 (Bw _) rfl) rfl (zm tb 2 U (bs h2 fun q33 gq33 h2=>zc bN (P6 gq33) rfl U U (dn hK32 U ?_))))))
   refine ci h2 U ?_ ?_ <;> clear h2
   ·intro b34 h2
    refine AJ U (zm tb 2 U ?_)
    refine DV (m:=3) (st':=[(BM p0),(Lv p2),(ro 0 3 1 eI l7),(ro 0 3 1 eI [q27])]) (l:=[q27]) (enc:=eI) Ah BN (by decide) rfl U U U U U ?_
    refine bs h2 fun l35 gl35 h2=>Eg (st':=[(BM p0),(Lv p2),(ro 1 3 1 eI l35),(ro 0 3 1 eI [q27])]) (l2:=[q27]) Ah BN U U U U (N0 U U) (fun _=>U) gl35 U (zq tb U ?_)
    exact AB (M24 l35 (Sh.AA h2).symm _ (by refine Wk.trans (Cz (L:=[(3,(.ptr 0 0 0 0)),(5,(.ptr 1 0 0 0)),(7,(ow 2 0 l35)),(8,(i64 i6))]) (st':=[(BM p0),(Lv p2),(ro 0 3 1 eI l35),(ro 0 3 1 eI [q27])]) (.raw U U (.raw U U (.pure (Ak fun _=>U) (.pure (Ak fun _=>U) .nil)))) ⟨.rfl,.rfl,.rfl,.rfl,trivial⟩) ?_;exact AP (L:=[(3,(.ptr 0 0 0 0)),(5,(.ptr 1 0 0 0)),(7,(ow 2 0 l35)),(8,(i64 i6))]) (st':=[(BM p0),(Lv p2),(ro 0 3 1 eI l35)]) (st1:=[(BM p0),(Lv p2),(ro 0 3 1 eI l35)]) [0,1,2] U .nil (by decide) rfl U (.raw U U (.raw U U (.pure (Ak fun _=>U) .nil))) ⟨.rfl,.rfl,.rfl,.rfl,trivial⟩))
   ·intro b34 h2
    exact AI (M24 l7 (Sh.AA h2).symm _ (AN U))
 ·intro b21 h1
  exact Ay (M9 l7 (Sh.AA h1).symm _ (AP (L:=[(5,(.ptr 0 0 0 0)),(7,(ow 1 0 l7))]) (st':=[(Lv p2),(ro 0 3 1 eI l7)]) (st1:=[(Lv p2),(ro 0 3 1 eI l7)]) [1,2] U .nil (by decide) rfl U (.raw U U (.pure (Ak fun _=>U) .nil)) ⟨.rfl,.rfl,trivial⟩))

theorem NI {N:Nat} :∀(n:Nat),∀{p0:Aj} {p1:(List Int)} {p2:Block} {r:Int},Ce N n p0 p1 p2=some r→Ae Tryz.prog 100 [(.agg [(ls AG p0.decls),(ls AT p0.AD)]),(ls eI p1),(.agg [(ls Al p2.steps),(i64 p2.result)])] [] (fun v st=>v=(i64 r)∧st=[]):=by
 intro n
 induction n with
 | zero=>intro p0 p1 p2 r h0;cases h0
 | succ n ih=>
  intro p0 p1 p2 r h0
  rw[Ce] at h0
  exact NB (fun h=>ih h) h0
theorem OO {N:Nat} :∀{p0:Aj} {p1:(List Int)} {p2:Block} {r:Int},Jd N p0 p1 p2=some r→Ae Tryz.prog 100 [(.agg [(ls AG p0.decls),(ls AT p0.AD)]),(ls eI p1),(.agg [(ls Al p2.steps),(i64 p2.result)])] [] (fun v st=>v=(i64 r)∧st=[]):=by
 intro p0 p1 p2 r h0
 exact NI N h0
theorem Mh {N:Nat} {p0:Aj} {r:Bool} (h0:E0 N p0=some r):Ae Tryz.prog 49 [(.agg [(ls AG p0.decls),(ls AT p0.AD)])] [] (fun v st=>v=(.bool r)∧st=[]):=by
 unfold E0 at h0
 refine ai Tryz.func49 U U U U (sr U fun K1 hK1=>BI (m:=0) (st':=[(BM p0)]) Ah U U U U U (zq tb U (dn hK1 U (AE fun K2 hK2=>sr U fun K3 hK3=>zq tb U (bs h0 fun q4 gq4 h0=>zc dM (Ke gq4) rfl U U (zq tb U (dn hK3 U ?_)))))))
 refine ci h0 U ?_ ?_ <;> clear h0
 ·intro b5 h0
  have b6:q4=false:=by simpa using b5
  refine zr tb U U ?_
  replace h0:=Sh.AA h0
  subst r
  exact AK (xr (Ai [(2,(.bool false))] U))
 ·intro b5 h0
  have b8:q4=true:=by simpa using b5
  refine AI (hK2 _ (AE fun K9 hK9=>zr tb U U ?_))
  obtain⟨o12,h1,h0⟩:=Sh.A8 h0
  have M12 :∀(_:Unit),o12=Sum.inr ()→∀s,Wk 0 s ⟨35,Ad [],[]⟩→K9 s:=by
   intro _ hq s hw
   subst o12
   try dsimp only at h0
   refine hK9 _ (AS hw (zr tb U U ?_))
   replace h0:=Sh.AA h0
   subst r
   exact AK (xr (AF (L:=[(2,(.bool true))]) ⟨.rfl,trivial⟩))
  refine Aa (Au (σ:=Int) (fun n v=>Cj N p0 n v=some o12) (fun i11=>⟨35,Ad [(1,(.ptr 0 0 0 0)),(3,(i64 i11))],[(BM p0)]⟩) N 0 h1 (AN U) (fun _ hv=>by rw[Cj] at hv;cases hv) ?_)
  rintro n i11 h1
  try dsimp only at h1 ⊢
  rw[Cj] at h1
  refine AE fun K14 hK14=>sr U fun K15 hK15=>zm tb 3 U (zl tb U U (zq tb U (dn hK15 U ?_)))
  refine ci h1 U ?_ ?_ <;> clear h1
  ·intro b16 h1
   refine AI (hK14 _ (AE fun K17 hK17=>Aa (sr U fun K18 hK18=>zm tb 3 U (bs h1 fun c19 gc19 h1=>zx E7 gc19 U U U (zq tb U (Ap (m:=1) (st':=[(BM p0),⟨0,57,5,[[.zc,.zc,(i64 0),.zc,(i64 0)]]⟩]) Ah Lt U U (A3 (st':=[(BM p0),⟨0,57,5,[[(ls eI c19.params),(ls eI c19.At),(i64 c19.result),(ls Al c19.body.steps),(i64 c19.body.result)]]⟩]) Ah NJ U U U U U U (show 0+5≤5 by decide) rfl (dn hK18 U (AE fun K20 hK20=>?_)))))))))
   refine bs h1 fun o22 h2 h1=>?_
   have M22 :∀(t21:Bool),o22=t21→∀s,Wk 0 s ⟨35,Ad [(1,(.ptr 0 0 0 0)),(3,(i64 i11)),(34,(.bool t21))],[(BM p0)]⟩→K20 s:=by
    intro t21 hq s hw
    subst o22
    try dsimp only at h1
    refine hK20 _ (AS hw ?_)
    refine ci h1 U ?_ ?_ <;> clear h1
    ·intro b23 h1
     refine zr tb U U ?_
     replace h1:=Sh.AA h1
     subst o12
     try dsimp only[id] at h0
     replace h0:=Sh.AA h0
     subst r
     exact AK (xr (Ai [(2,(.bool false))] U))
    ·intro b23 h1
     exact AI (hK17 _ (AJ U (zm tb 3 U (AB (xi (Sh.w (i11+1)) h1 (AN U))))))
   refine Bz (by kernel_rfl) (by kernel_rfl) (by rfl) ?_
   iterate 2 refine yq tb rfl ?_
   refine bs h2 fun q25 gq25 h2=>CR (v:=(i64 q25)) Ah di (QC gq25) rfl U U ?_
   iterate 2 refine yq tb rfl ?_
   rcases Sh.As h2 with ⟨b26,h2⟩ | ⟨b26,h2⟩
   ·refine ys b26 U ?_
    iterate 8 refine ys b26 rfl ?_
    refine yt b26 U ?_
    exact BS (M22 true (Sh.AA h2).symm _ (AP (L:=[(1,(.ptr 0 0 0 0)),(3,(i64 i11)),(34,(.bool true))]) (st':=[(BM p0)]) (st1:=[(BM p0)]) [0] U .nil (by decide) rfl U (.raw U U .nil) ⟨.rfl,.rfl,.rfl,trivial⟩))
   ·refine yg tb b26 U ?_
    iterate 4 refine yg tb b26 rfl ?_
    refine bs h2 fun q27 gq27 h2=>CR (v:=(i64 q27)) (Bb U U b26) Y3 (OO gq27) rfl U U ?_
    iterate 3 refine yg tb b26 rfl ?_
    refine yf b26 U ?_
    exact BS (M22 (!decide (q27=c19.result)) (Sh.AA h2).symm _ (AP (L:=[(1,(.ptr 0 0 0 0)),(3,(i64 i11)),(34,(.bool (!decide (q27=c19.result))))]) (st':=[(BM p0)]) (st1:=[(BM p0)]) [0] U .nil (by decide) rfl U (.raw U U .nil) ⟨.rfl,.rfl,.rfl,trivial⟩))
  ·intro b16 h1
   exact Ay (M12 () (Sh.AA h1).symm _ (Ai _ U))
theorem NU {p0:Int} {r:Bool} (h0:GA p0=some r):Ae Tryz.prog 112 [(i64 p0)] [] (fun v st=>v=(.bool r)∧st=[]):=by
 unfold GA at h0
 refine ai Tryz.func112 U U U U (zr tb U U (sr U fun K2 hK2=>zq tb U (bs h0 fun q3 gq3 h0=>zc Gs (BX gq3) rfl U U (zq tb U (dn hK2 U ?_)))))
 replace h0:=Sh.AA h0
 subst r
 exact AK (xr (AF (L:=[(2,(.bool q3))]) ⟨.rfl,trivial⟩))
noncomputable abbrev LL (p0:Block):Go.Abs.Row:=⟨0,55,2,[[(ls Al p0.steps),(i64 p0.result)]]⟩
theorem L4 {N:Nat} {rec_spec_plainSteps:Block→Option (Bool)} (hrec_spec_plainSteps :∀{p0:Block} {r:Bool},rec_spec_plainSteps p0=some r→Ae Tryz.prog 66 [(.agg [(ls Al p0.steps),(i64 p0.result)])] [] (fun v st=>v=(.bool r)∧st=[])) {p0:Block} {r:Bool} (h0:GX N rec_spec_plainSteps p0=some r):Ae Tryz.prog 66 [(.agg [(ls Al p0.steps),(i64 p0.result)])] [] (fun v st=>v=(.bool r)∧st=[]):=by
 unfold GX at h0
 refine ai Tryz.func66 U U U U (sr U fun K1 hK1=>BI (m:=0) (st':=[(LL p0)]) Ah U U U U U (zq tb U (dn hK1 U (AE fun K2 hK2=>zr tb U U ?_))))
 obtain⟨o5,h1,h0⟩:=Sh.A8 h0
 have M5 :∀(_:Unit),o5=Sum.inr ()→∀s,Wk 0 s ⟨50,Ad [],[]⟩→K2 s:=by
  intro _ hq s hw
  subst o5
  try dsimp only at h0
  refine hK2 _ (AS hw (zr tb U U ?_))
  replace h0:=Sh.AA h0
  subst r
  exact AK (xr (AF (L:=[(2,(.bool true))]) ⟨.rfl,trivial⟩))
 refine Aa (Au (σ:=Int) (fun n v=>CV N p0 rec_spec_plainSteps n v=some o5) (fun i4=>⟨50,Ad [(1,(.ptr 0 0 0 0)),(3,(i64 i4))],[(LL p0)]⟩) N 0 h1 (AN U) (fun _ hv=>by rw[CV] at hv;cases hv) ?_)
 rintro n i4 h1
 try dsimp only at h1 ⊢
 rw[CV] at h1
 refine AE fun K7 hK7=>sr U fun K8 hK8=>zm tb 3 U (zl tb U U (zq tb U (dn hK8 U ?_)))
 refine ci h1 U ?_ ?_ <;> clear h1
 ·intro b9 h1
  refine AI (hK7 _ (AE fun K10 hK10=>Aa (AE fun K11 hK11=>AE fun K12 hK12=>bs h1 fun o14 h2 h1=>?_)))
  have M14 :∀(t13:Bool),o14=t13→∀s,Wk 0 s ⟨50,Ad [(1,(.ptr 0 0 0 0)),(3,(i64 i4)),(27,(.bool t13))],[(LL p0)]⟩→K12 s:=by
   intro t13 hq s hw
   subst o14
   try dsimp only at h1
   refine hK12 _ (AS hw ?_)
   refine ci h1 U ?_ ?_ <;> clear h1
   ·intro b15 h1
    refine zr tb U U ?_
    replace h1:=Sh.AA h1
    subst o5
    try dsimp only[id] at h0
    replace h0:=Sh.AA h0
    subst r
    exact AK (xr (Ai [(2,(.bool false))] U))
   ·intro b15 h1
    refine AI (hK11 _ (zr tb U U ?_))
    obtain⟨o19,h2,h1⟩:=Sh.A8 h1
    have M19 :∀(_:Unit),o19=Sum.inr ()→∀s,Wk 0 s ⟨50,Ad [(1,(.ptr 0 0 0 0)),(3,(i64 i4))],[(LL p0)]⟩→K10 s:=by
     intro _ hq s hw
     subst o19
     try dsimp only at h1
     exact hK10 _ (AS hw (AJ U (zm tb 3 U (AB (xi (Sh.w (i4+1)) h1 (AN U))))))
    refine Aa (Au (σ:=Int) (fun n v=>B4 i4 p0 rec_spec_plainSteps n v=some o19) (fun k18=>⟨50,Ad [(1,(.ptr 0 0 0 0)),(3,(i64 i4)),(4,(i64 k18))],[(LL p0)]⟩) N 0 h2 (AN U) (fun _ hv=>by rw[B4] at hv;cases hv) ?_)
    rintro n k18 h2
    try dsimp only at h2 ⊢
    rw[B4] at h2
    refine AE fun K20 hK20=>sr U fun K21 hK21=>zm tb 4 U (bs h2 fun c22 gc22 h2=>zz (.BF [(i64 c22.op),(i64 c22.num),(i64 c22.Ax),(ls eI c22.args),(ls A2 c22.kids)] 0) (Di FD U U gc22 (Bw _) rfl) rfl (zm tb 2 U (zl tb U U (zq tb U (dn hK21 U ?_)))))
    refine ci h2 U ?_ ?_ <;> clear h2
    ·intro b23 h2
     refine AI (hK20 _ (AE fun K24 hK24=>Aa (sr U fun K25 hK25=>zm tb 3 U (zz (.BF [(i64 c22.op),(i64 c22.num),(i64 c22.Ax),(ls eI c22.args),(ls A2 c22.kids)] 0) (Di FD U U gc22 (Bw _) rfl) rfl (zm tb 3 U (bs h2 fun c26 gc26 h2=>zx Hi gc26 U U U (zq tb U (bs h2 fun q27 gq27 h2=>zc aK (hrec_spec_plainSteps gq27) rfl U U ?_))))))))
     refine zq tb U (dn hK25 U ?_)
     refine ci h2 U ?_ ?_ <;> clear h2
     ·intro b28 h2
      have b29:q27=false:=by simpa using b28
      refine zr tb U U ?_
      replace h2:=Sh.AA h2
      subst o19
      try dsimp only[id] at h1
      replace h1:=Sh.AA h1
      subst o5
      try dsimp only[id] at h0
      replace h0:=Sh.AA h0
      subst r
      exact AK (xr (Ai [(2,(.bool false))] U))
     ·intro b28 h2
      have b31:q27=true:=by simpa using b28
      exact AI (hK24 _ (AJ U (zm tb 3 U (AB (xi (Sh.w (k18+1)) h2 (AN U))))))
    ·intro b23 h2
     exact Ay (M19 () (Sh.AA h2).symm _ (AN U))
  refine AJ U (zm tb 3 U (bs h2 fun c32 gc32 h2=>zz (.BF [(i64 c32.op),(i64 c32.num),(i64 c32.Ax),(ls eI c32.args),(ls A2 c32.kids)] 0) (Di FD U U gc32 (Bw _) rfl) rfl (zm tb 2 U (bs h2 fun q33 gq33 h2=>zc bH (NU gq33) rfl U U (zq tb U ?_)))))
  rcases Sh.As h2 with ⟨b34,h2⟩ | ⟨b34,h2⟩
  ·refine zs b34 U ?_
   iterate 6 refine zs b34 rfl ?_
   exact zt b34 U (AB (M14 true (Sh.AA h2).symm _ (AN U)))
  ·refine zg tb b34 U (zg tb b34 U (zg tb b34 U (A7 (v:=(.BF [(i64 c32.op),(i64 c32.num),(i64 c32.Ax),(ls eI c32.args),(ls A2 c32.kids)] 0)) (Bb U U b34) rfl (Di FD U U gc32 (Bw _) rfl) ?_)))
   iterate 3 refine zg tb b34 rfl ?_
   exact zf b34 U (AB (M14 (!decide (c32.Ax=0)) (Sh.AA h2).symm _ (AN U)))
 ·intro b9 h1
  exact Ay (M5 () (Sh.AA h1).symm _ (Ai _ U))

theorem MF {N:Nat} :∀(n:Nat),∀{p0:Block} {r:Bool},D8 N n p0=some r→Ae Tryz.prog 66 [(.agg [(ls Al p0.steps),(i64 p0.result)])] [] (fun v st=>v=(.bool r)∧st=[]):=by
 intro n
 induction n with
 | zero=>intro p0 r h0;cases h0
 | succ n ih=>
  intro p0 r h0
  rw[D8] at h0
  exact L4 (fun h=>ih h) h0
theorem Ni {N:Nat} :∀{p0:Block} {r:Bool},HU N p0=some r→Ae Tryz.prog 66 [(.agg [(ls Al p0.steps),(i64 p0.result)])] [] (fun v st=>v=(.bool r)∧st=[]):=by
 intro p0 r h0
 exact MF N h0
theorem Pm {N:Nat} {p0:Aj} {r:Bool} (h0:Fq N p0=some r):Ae Tryz.prog 28 [(.agg [(ls AG p0.decls),(ls AT p0.AD)])] [] (fun v st=>v=(.bool r)∧st=[]):=by
 unfold Fq at h0
 refine ai Tryz.func28 U U U U (sr U fun K1 hK1=>BI (m:=0) (st':=[(BM p0)]) Ah U U U U U (zq tb U (dn hK1 U (AE fun K2 hK2=>sr U fun K3 hK3=>zq tb U (bs h0 fun q4 gq4 h0=>zc dX (Mh gq4) rfl U U (zq tb U (dn hK3 U ?_)))))))
 refine ci h0 U ?_ ?_ <;> clear h0
 ·intro b5 h0
  have b6:q4=false:=by simpa using b5
  refine zr tb U U ?_
  replace h0:=Sh.AA h0
  subst r
  exact AK (xr (Ai [(2,(.bool false))] U))
 ·intro b5 h0
  have b8:q4=true:=by simpa using b5
  refine AI (hK2 _ (AE fun K9 hK9=>zr tb U U ?_))
  obtain⟨o12,h1,h0⟩:=Sh.A8 h0
  have M12 :∀(_:Unit),o12=Sum.inr ()→∀s,Wk 0 s ⟨22,Ad [],[]⟩→K9 s:=by
   intro _ hq s hw
   subst o12
   try dsimp only at h0
   refine hK9 _ (AS hw (zr tb U U ?_))
   replace h0:=Sh.AA h0
   subst r
   exact AK (xr (AF (L:=[(2,(.bool true))]) ⟨.rfl,trivial⟩))
  refine Aa (Au (σ:=Int) (fun n v=>EB N p0 n v=some o12) (fun i11=>⟨22,Ad [(1,(.ptr 0 0 0 0)),(3,(i64 i11))],[(BM p0)]⟩) N 0 h1 (AN U) (fun _ hv=>by rw[EB] at hv;cases hv) ?_)
  rintro n i11 h1
  try dsimp only at h1 ⊢
  rw[EB] at h1
  refine AE fun K14 hK14=>sr U fun K15 hK15=>zm tb 3 U (zl tb U U (zq tb U (dn hK15 U ?_)))
  refine ci h1 U ?_ ?_ <;> clear h1
  ·intro b16 h1
   refine AI (hK14 _ (AE fun K17 hK17=>Aa (sr U fun K18 hK18=>zm tb 3 U (bs h1 fun c19 gc19 h1=>zx E7 gc19 U U U (zm tb 2 U (bs h1 fun q20 gq20 h1=>zc aK (Ni gq20) rfl U U (zq tb U (dn hK18 U ?_))))))))
   refine ci h1 U ?_ ?_ <;> clear h1
   ·intro b21 h1
    have b22:q20=false:=by simpa using b21
    refine zr tb U U ?_
    replace h1:=Sh.AA h1
    subst o12
    try dsimp only[id] at h0
    replace h0:=Sh.AA h0
    subst r
    exact AK (xr (Ai [(2,(.bool false))] U))
   ·intro b21 h1
    have b24:q20=true:=by simpa using b21
    exact AI (hK17 _ (AJ U (zm tb 3 U (AB (xi (Sh.w (i11+1)) h1 (AN U))))))
  ·intro b16 h1
   exact Ay (M12 () (Sh.AA h1).symm _ (Ai _ U))
theorem ON {N:Nat} {p0:(List Ag)} {r:(List Ag)} (h0:GY N p0=some r):Ae Tryz.prog 68 [(ls AG p0)] [] (fun v st=>v=(ow 0 0 r)∧st=[(ro 0 98 3 AG r)]):=by
 unfold GY at h0
 refine ai Tryz.func68 U U U U (zr tb U U (sr U fun K2 hK2=>?_))
 refine DV (m:=0) (st':=[(ro 0 98 3 AG ([]:List Ag))]) (l:=([]:List Ag)) (enc:=AG) Ah DA (by decide) rfl U U U U U ?_
 refine zq tb U (dn hK2 U (AE fun K3 hK3=>zr tb U U (bs h0 fun o8 h1 h0=>?_)))
 have M8 :∀(l7:(List Ag)),o8=l7→∀s,Wk 0 s ⟨55,Ad [(3,(ow 0 0 l7))],[(ro 0 98 3 AG l7)]⟩→K3 s:=by
  intro l7 hq s hw
  subst o8
  try dsimp only at h0
  refine hK3 _ (AS hw (zr tb U U ?_))
  replace h0:=Sh.AA h0
  subst r
  exact AK (xr (AF (L:=[(2,(ow 0 0 l7))]) ⟨.rfl,trivial⟩))
 refine Aa (Au (σ:=Int×(List Ag)) (fun n v=>DR N p0 n v.1 v.2=some o8) (fun (i5,l6)=>⟨55,Ad [(0,(ls AG p0)),(3,(ow 0 0 l6)),(4,(i64 i5))],[(ro 0 98 3 AG l6)]⟩) N (0,[]) h1 (AN U) (fun _ hv=>by rw[DR] at hv;cases hv) ?_)
 rintro n ⟨i5,l6⟩ h1
 try dsimp only at h1 ⊢
 rw[DR] at h1
 refine AE fun K10 hK10=>sr U fun K11 hK11=>zm tb 2 U (zl tb U U (zq tb U (dn hK11 U ?_)))
 refine ci h1 U ?_ ?_ <;> clear h1
 ·intro b12 h1
  refine AI (hK10 _ (AE fun K13 hK13=>Aa (sr U fun K14 hK14=>?_)))
  refine DV (m:=1) (st':=[(ro 0 98 3 AG l6),(ro 0 134 1 Ar ([]:List BO))]) (l:=([]:List BO)) (enc:=Ar) Ah IC (by decide) rfl U U U U U ?_
  refine zq tb U (dn hK14 U (AE fun K15 hK15=>zr tb U U (bs h1 fun o20 h2 h1=>?_)))
  have M20 :∀(l19:(List BO)),o20=l19→∀s,Wk 0 s ⟨55,Ad [(0,(ls AG p0)),(3,(ow 0 0 l6)),(4,(i64 i5)),(5,(ow 1 0 l19))],[(ro 0 98 3 AG l6),(ro 0 134 1 Ar l19)]⟩→K15 s:=by
   intro l19 hq s hw
   subst o20
   try dsimp only at h1
   refine hK15 _ (AS hw (AS (Wk.E5 (L:=[(0,(ls AG p0)),(3,(ow 0 0 l6)),(4,(i64 i5)),(5,(ls Ar l19))]) (st':=[(ro 0 98 3 AG l6),⟨1,134,1,[]⟩]) (id:=1) rfl (show 0≤1 by decide) (Ak fun _=>U) ⟨.rfl,.rfl,.rfl,(.E5 U),trivial⟩ U) ?_))
   refine CJ 14 (by kernel_rfl) (by kernel_rfl) (by rfl) ?_
   iterate 3 refine yq tb rfl ?_
   refine bs h1 fun c21 gc21 h1=>yx DA gc21 U U U ?_
   iterate 4 refine yq tb rfl ?_
   refine yx DA gc21 U U U ?_
   iterate 3 refine yq tb rfl ?_
   refine yz (.agg [(i64 c21.from_),(i64 c21.to),(ls Ar l19)]) (GV aW aJ B2 U U) rfl ?_
   refine VB (l:=[(Ag.mk c21.from_ c21.to l19)]) (enc:=AG) Ah DA (by decide) rfl U U U U (Ak fun _=>U) ?_
   refine BS (bs h1 fun l22 gl22 h1=>Eg (st':=[(ro 1 98 3 AG l22),⟨1,134,1,[]⟩]) (l2:=[(Ag.mk c21.from_ c21.to l19)]) Ah DA U U U U Me (fun _=>U) gl22 U (zq tb U (dn hK13 U (AJ U (zm tb 3 U ?_)))))
   exact AB (xi (Sh.w (i5+1),l22) h1 (by refine Wk.trans (Cz (L:=[(0,(ls AG p0)),(3,(ow 0 0 l22)),(4,(i64 (Sh.w (i5+1))))]) (st':=[(ro 0 98 3 AG l22),⟨0,134,1,[]⟩]) (.pure (Ak fun _=>U) (.pure (by intro x hx;cases hx) .nil)) ⟨.rfl,.rfl,.rfl,trivial⟩) ?_;exact AP (L:=[(0,(ls AG p0)),(3,(ow 0 0 l22)),(4,(i64 (Sh.w (i5+1))))]) (st':=[(ro 0 98 3 AG l22)]) (st1:=[(ro 0 98 3 AG l22)]) [0] U .nil (by decide) rfl U (.pure (Ak fun _=>U) .nil) ⟨.rfl,.rfl,.rfl,trivial⟩))
  refine Aa (Au (σ:=Int×(List BO)) (fun n v=>Cv i5 p0 n v.1 v.2=some o20) (fun (k17,l18)=>⟨55,Ad [(0,(ls AG p0)),(3,(ow 0 0 l6)),(4,(i64 i5)),(5,(ow 1 0 l18)),(6,(i64 k17))],[(ro 0 98 3 AG l6),(ro 0 134 1 Ar l18)]⟩) N (0,[]) h2 (AN U) (fun _ hv=>by rw[Cv] at hv;cases hv) ?_)
  rintro n ⟨k17,l18⟩ h2
  try dsimp only at h2 ⊢
  rw[Cv] at h2
  refine AE fun K23 hK23=>sr U fun K24 hK24=>zm tb 3 U (bs h2 fun c25 gc25 h2=>zx DA gc25 U U U (zm tb 2 U (zl tb U U (zq tb U (dn hK24 U ?_)))))
  refine ci h2 U ?_ ?_ <;> clear h2
  ·intro b26 h2
   refine AI (hK23 _ (AE fun K27 hK27=>Aa (AJ U (zm tb 3 U (zx DA gc25 U U U (zm tb 3 U (bs h2 fun c28 gc28 h2=>zx IC gc28 U U U (zm tb 2 U (bs h2 fun q29 gq29 h2=>BW (v':=(ow 2 0 q29)) (st':=[(ro 0 98 3 AG l6),(ro 0 134 1 Ar l18),(ro 0 3 1 eI q29)]) Ah PZ (Ez gq29) rfl U ⟨(Bf fun _=>U),trivial⟩ U U ?_)))))))))
   refine zz (.agg [(ow 2 0 q29)]) (GV YS Yv Kd U U) rfl (Az (Wk.E5 (L:=[(0,(ls AG p0)),(3,(ow 0 0 l6)),(4,(i64 i5)),(6,(i64 k17)),(25,(ow 1 0 l18)),(36,(.agg [(ls eI q29)]))]) (st':=[(ro 0 98 3 AG l6),(ro 0 134 1 Ar l18),⟨1,3,1,[]⟩]) (id:=2) rfl (show 0≤2 by decide) (Ak fun _=>U) ⟨.rfl,.rfl,.rfl,.rfl,.rfl,(.agg ⟨(.IA U),trivial⟩),trivial⟩ U) ?_)
   refine DV (m:=3) (st':=[(ro 0 98 3 AG l6),(ro 0 134 1 Ar l18),⟨1,3,1,[]⟩,(ro 0 134 1 Ar [(BO.mk q29)])]) (l:=[(BO.mk q29)]) (enc:=Ar) Ah IC (by decide) rfl U U U U U ?_
   refine bs h2 fun l30 gl30 h2=>Eg (st':=[(ro 0 98 3 AG l6),(ro 1 134 1 Ar l30),⟨1,3,1,[]⟩,(ro 0 134 1 Ar [(BO.mk q29)])]) (l2:=[(BO.mk q29)]) Ah IC U U U U (N0 U U) (fun _=>U) gl30 U (zq tb U (dn hK27 U (AJ U (zm tb 3 U ?_))))
   exact AB (xi (Sh.w (k17+1),l30) h2 (by refine Wk.trans (Cz (L:=[(0,(ls AG p0)),(3,(ow 0 0 l6)),(4,(i64 i5)),(5,(ow 1 0 l30)),(6,(i64 (Sh.w (k17+1))))]) (st':=[(ro 0 98 3 AG l6),(ro 0 134 1 Ar l30),⟨0,3,1,[]⟩,(ro 0 134 1 Ar [(BO.mk q29)])]) (.pure (Ak fun _=>U) (.pure (Ak fun _=>U) (.pure (by intro x hx;cases hx) (.pure (Ak fun _=>U) .nil)))) ⟨.rfl,.rfl,.rfl,.rfl,.rfl,trivial⟩) ?_;exact AP (L:=[(0,(ls AG p0)),(3,(ow 0 0 l6)),(4,(i64 i5)),(5,(ow 1 0 l30)),(6,(i64 (Sh.w (k17+1))))]) (st':=[(ro 0 98 3 AG l6),(ro 0 134 1 Ar l30)]) (st1:=[(ro 0 98 3 AG l6),(ro 0 134 1 Ar l30)]) [0,1] U .nil (by decide) rfl U (.pure (Ak fun _=>U) (.pure (Ak fun _=>U) .nil)) ⟨.rfl,.rfl,.rfl,.rfl,.rfl,trivial⟩))
  ·intro b26 h2
   exact Ay (M20 l18 (Sh.AA h2).symm _ (AN U))
 ·intro b12 h1
  exact Ay (M8 l6 (Sh.AA h1).symm _ (AN U))
noncomputable abbrev Ly (p0:Step):Go.Abs.Row:=⟨0,71,5,[[(i64 p0.op),(i64 p0.num),(i64 p0.Ax),(ls eI p0.args),(ls A2 p0.kids)]]⟩
noncomputable abbrev Nz:Go.Abs.Row:=⟨0,71,5,[[(i64 0),(i64 0),(i64 0),.zc,.zc]]⟩
theorem PG {N:Nat} {rec_spec_copyBlock:Block→Option (Block)} (hrec_spec_copyBlock :∀{p0:Block} {r:Block},rec_spec_copyBlock p0=some r→Ae Tryz.prog 104 [(.agg [(ls Al p0.steps),(i64 p0.result)])] [] (fun v st=>v=(.agg [(ls Al r.steps),(i64 r.result)])∧st=[])) {p0:Step} {r:Step} (h0:HB N rec_spec_copyBlock p0=some r):Ae Tryz.prog 159 [(.agg [(i64 p0.op),(i64 p0.num),(i64 p0.Ax),(ls eI p0.args),(ls A2 p0.kids)])] [] (fun v st=>v=(.agg [(i64 r.op),(i64 r.num),(i64 r.Ax),(ls eI r.args),(ls A2 r.kids)])∧st=[]):=by
 unfold HB at h0
 refine El U (ai Tryz.func159 U U U U (sr U fun K1 hK1=>BI (m:=0) (st':=[(Ly p0)]) Ah U U U U U (Ap (m:=1) (st':=[(Ly p0),Nz]) Ah Np U U (dn hK1 U (sr U fun K2 hK2=>?_)))))
 refine DV (m:=2) (st':=[(Ly p0),Nz,(ro 0 55 2 A2 ([]:List Block))]) (l:=([]:List Block)) (enc:=A2) Ah Hi (by decide) rfl U U U U U ?_
 refine zq tb U (dn hK2 U (AE fun K3 hK3=>zr tb U U (bs h0 fun o8 h1 h0=>?_)))
 have M8 :∀(l7:(List Block)),o8=l7→∀s,Wk 0 s ⟨33,Ad [(1,(.ptr 0 0 0 0)),(2,(.ptr 1 0 0 0)),(3,(ow 2 0 l7))],[(Ly p0),Nz,(ro 0 55 2 A2 l7)]⟩→K3 s:=by
  intro l7 hq s hw
  subst o8
  try dsimp only at h0
  refine hK3 _ (AS hw (AE fun K9 hK9=>?_))
  refine CJ 11 (by kernel_rfl) (by kernel_rfl) (by rfl) ?_
  iterate 8 refine yq tb rfl ?_
  refine bs h0 fun q10 gq10 h0=>?_
  refine CR (v:=(ls eI q10)) Ah PZ (Ae.wk (Ez gq10) (by refine Wk.trans (Wk.E5 (L:=[(0,(ls eI q10))]) (st':=[⟨1,3,1,[]⟩]) (id:=0) rfl (show 0≤0 by decide) (Ak fun _=>U) ⟨(.E5 U),trivial⟩ U) ?_;refine Wk.trans (AP (L:=[(0,(ls eI q10))]) (st':=[]) (st1:=[]) [] U .nil (by decide) rfl U .nil ⟨.rfl,trivial⟩) ?_;exact AF (L:=[(0,(ls eI q10))]) ⟨.rfl,trivial⟩)) rfl U U ?_
  refine yq tb U (yz (.agg [(i64 p0.op),(i64 p0.num),(i64 p0.Ax),(ls eI q10),(ow 2 0 l7)]) (GV cn cj Np U U) rfl (BS (Az (Wk.E5 (L:=[(2,(.ptr 1 0 0 0)),(32,(.agg [(i64 p0.op),(i64 p0.num),(i64 p0.Ax),(ls eI q10),(ls A2 l7)]))]) (st':=[(Ly p0),Nz,⟨1,55,2,[]⟩]) (id:=2) rfl (show 0≤2 by decide) (Ak fun _=>U) ⟨.rfl,(.agg ⟨.rfl,.rfl,.rfl,.rfl,(.IA U),trivial⟩),trivial⟩ U) (A3 (st':=[(Ly p0),⟨0,71,5,[[(i64 p0.op),(i64 p0.num),(i64 p0.Ax),(ls eI q10),(ls A2 l7)]]⟩,⟨1,55,2,[]⟩]) Ah KZ U U U U U U (show 0+5≤5 by decide) rfl (dn hK9 U ?_)))))
  replace h0:=Sh.AA h0
  subst r
  exact AK (Exists.intro _ (And.intro (Jx _ _) (Cb (x:=.tmp 2) (off:=0) (cs:=[(i64 p0.op),(i64 p0.num),(i64 p0.Ax),(ls eI q10),(ls A2 l7)]) (vs:=[(i64 p0.op),(i64 p0.num),(i64 p0.Ax),(ls eI q10),(ls A2 l7)]) KZ U U U (show 0+5≤5 by decide) rfl _ U)))
 refine Aa (Au (σ:=Int×(List Block)) (fun n v=>Dx p0 rec_spec_copyBlock n v.1 v.2=some o8) (fun (i5,l6)=>⟨33,Ad [(1,(.ptr 0 0 0 0)),(2,(.ptr 1 0 0 0)),(3,(ow 2 0 l6)),(4,(i64 i5))],[(Ly p0),Nz,(ro 0 55 2 A2 l6)]⟩) N (0,[]) h1 (AN U) (fun _ hv=>by rw[Dx] at hv;cases hv) ?_)
 rintro n ⟨i5,l6⟩ h1
 try dsimp only at h1 ⊢
 rw[Dx] at h1
 refine AE fun K11 hK11=>sr U fun K12 hK12=>zm tb 3 U (zl tb U U (zq tb U (dn hK12 U ?_)))
 refine ci h1 U ?_ ?_ <;> clear h1
 ·intro b13 h1
  refine AI (hK11 _ (AE fun K14 hK14=>Aa (AJ U (zm tb 4 U (bs h1 fun c15 gc15 h1=>zx Hi gc15 U U U (zq tb U (bs h1 fun q16 gq16 h1=>zc (v':=(.agg [(ls Al q16.steps),(i64 q16.result)])) YD (hrec_spec_copyBlock gq16) rfl U U ?_)))))))
  refine DV (m:=3) (st':=[(Ly p0),Nz,(ro 0 55 2 A2 l6),(ro 0 55 2 A2 [q16])]) (l:=[q16]) (enc:=A2) Ah Hi (by decide) rfl U U U U U ?_
  refine bs h1 fun l17 gl17 h1=>Eg (st':=[(Ly p0),Nz,(ro 1 55 2 A2 l17),(ro 0 55 2 A2 [q16])]) (l2:=[q16]) Ah Hi U U U U (N0 U U) (fun _=>U) gl17 U (zq tb U (dn hK14 U (AJ U (zm tb 3 U ?_))))
  exact AB (xi (Sh.w (i5+1),l17) h1 (by refine Wk.trans (Cz (L:=[(1,(.ptr 0 0 0 0)),(2,(.ptr 1 0 0 0)),(3,(ow 2 0 l17)),(4,(i64 (Sh.w (i5+1))))]) (st':=[(Ly p0),Nz,(ro 0 55 2 A2 l17),(ro 0 55 2 A2 [q16])]) (.raw U U (.raw U U (.pure (Ak fun _=>U) (.pure (Ak fun _=>U) .nil)))) ⟨.rfl,.rfl,.rfl,.rfl,trivial⟩) ?_;exact AP (L:=[(1,(.ptr 0 0 0 0)),(2,(.ptr 1 0 0 0)),(3,(ow 2 0 l17)),(4,(i64 (Sh.w (i5+1))))]) (st':=[(Ly p0),Nz,(ro 0 55 2 A2 l17)]) (st1:=[(Ly p0),Nz,(ro 0 55 2 A2 l17)]) [0,1,2] U .nil (by decide) rfl U (.raw U U (.raw U U (.pure (Ak fun _=>U) .nil))) ⟨.rfl,.rfl,.rfl,.rfl,trivial⟩))
 ·intro b13 h1
  exact Ay (M8 l6 (Sh.AA h1).symm _ (AN U))
theorem MX {N:Nat} {rec_spec_copyBlock:Block→Option (Block)} (hrec_spec_copyBlock :∀{p0:Block} {r:Block},rec_spec_copyBlock p0=some r→Ae Tryz.prog 104 [(.agg [(ls Al p0.steps),(i64 p0.result)])] [] (fun v st=>v=(.agg [(ls Al r.steps),(i64 r.result)])∧st=[])) {p0:Block} {r:Block} (h0:Gw N rec_spec_copyBlock p0=some r):Ae Tryz.prog 104 [(.agg [(ls Al p0.steps),(i64 p0.result)])] [] (fun v st=>v=(.agg [(ls Al r.steps),(i64 r.result)])∧st=[]):=by
 unfold Gw at h0
 refine El U (ai Tryz.func104 U U U U (sr U fun K1 hK1=>BI (m:=0) (st':=[(LL p0)]) Ah U U U U U (Ap (m:=1) (st':=[(LL p0),⟨0,55,2,[[.zc,(i64 0)]]⟩]) Ah Kv U U (dn hK1 U (sr U fun K2 hK2=>?_)))))
 refine DV (m:=2) (st':=[⟨0,55,2,[[(.sl (List.map Al p0.steps)),(i64 p0.result)]]⟩,⟨0,55,2,[[.zc,(i64 0)]]⟩,⟨0,71,5,List.map Al ([]:List Step)⟩]) (l:=([]:List Step)) (enc:=Al) Ah FD (by decide) rfl U (by simp only[List.map,Bw];rfl) rfl U U ?_
 refine zm tb 2 U (zz (.agg [(.own 2 0 (List.length ([]:List Step))),(i64 p0.result)]) (GV aE aB Kv U U) rfl (Ap (m:=3) (st':=[(LL p0),⟨0,55,2,[[.zc,(i64 0)]]⟩,(ro 0 71 5 Al ([]:List Step)),⟨0,55,2,[[.zc,(i64 0)]]⟩]) Ah Kv U U (A3 (st':=[(LL p0),⟨0,55,2,[[.zc,(i64 0)]]⟩,(ro 0 71 5 Al ([]:List Step)),⟨0,55,2,[[(.own 2 0 (List.length ([]:List Step))),(i64 p0.result)]]⟩]) Ah JV U U U U U U (show 0+2≤2 by decide) rfl (dn hK2 U (AE fun K3 hK3=>zr tb U U (bs h0 fun o8 h1 h0=>?_))))))
 have M8 :∀(l7:(List Step)),o8=l7→∀s,Wk 0 s ⟨28,Ad [(2,(.ptr 0 0 0 0)),(3,(.ptr 2 0 0 0))],[⟨0,55,2,[[.zc,(i64 0)]]⟩,(ro 0 71 5 Al l7),⟨0,55,2,[[(ow 1 0 l7),(i64 p0.result)]]⟩]⟩→K3 s:=by
  intro l7 hq s hw
  subst o8
  try dsimp only at h0
  refine hK3 _ (AS hw (sr U fun K9 hK9=>zq tb U (Az (Wk.E5 (L:=[(2,(.ptr 0 0 0 0)),(27,(.agg [(ls Al l7),(i64 p0.result)]))]) (st':=[⟨0,55,2,[[.zc,(i64 0)]]⟩,⟨1,71,5,[]⟩,⟨0,55,2,[[(ow 1 0 l7),(i64 p0.result)]]⟩]) (id:=1) rfl (show 0≤1 by decide) (Ak KJ) ⟨.rfl,(.agg ⟨(.IA U),.rfl,trivial⟩),trivial⟩ U) (A3 (st':=[⟨0,55,2,[[(ls Al l7),(i64 p0.result)]]⟩,⟨1,71,5,[]⟩,⟨0,55,2,[[(ow 1 0 l7),(i64 p0.result)]]⟩]) Ah JV U U U U U U (show 0+2≤2 by decide) rfl (dn hK9 U ?_)))))
  replace h0:=Sh.AA h0
  subst r
  exact AK (Exists.intro _ (And.intro (Jx _ _) (Cb (x:=.tmp 2) (off:=0) (cs:=[(ls Al l7),(i64 p0.result)]) (vs:=[(ls Al l7),(i64 p0.result)]) JV U U U (show 0+2≤2 by decide) rfl _ U)))
 refine Aa (Au (σ:=Int×(List Step)) (fun n v=>Cg N p0 rec_spec_copyBlock n v.1 v.2=some o8) (fun (i5,l6)=>⟨28,Ad [(1,(.ptr 0 0 0 0)),(2,(.ptr 1 0 0 0)),(3,(.ptr 3 0 0 0)),(4,(i64 i5))],[(LL p0),⟨0,55,2,[[.zc,(i64 0)]]⟩,(ro 0 71 5 Al l6),⟨0,55,2,[[(ow 2 0 l6),(i64 p0.result)]]⟩]⟩) N (0,[]) h1 (AN U) (fun _ hv=>by rw[Cg] at hv;cases hv) ?_)
 rintro n ⟨i5,l6⟩ h1
 try dsimp only at h1 ⊢
 rw[Cg] at h1
 refine AE fun K10 hK10=>sr U fun K11 hK11=>zm tb 3 U (zl tb U U (zq tb U (dn hK11 U ?_)))
 refine ci h1 U ?_ ?_ <;> clear h1
 ·intro b12 h1
  refine AI (hK10 _ (AE fun K13 hK13=>Aa ?_))
  refine CJ 9 (by kernel_rfl) (by kernel_rfl) (by rfl) ?_
  iterate 5 refine yq tb rfl ?_
  refine bs h1 fun c14 gc14 h1=>yz (.BF [(i64 c14.op),(i64 c14.num),(i64 c14.Ax),(ls eI c14.args),(ls A2 c14.kids)] 0) (Di FD U U gc14 (Bw _) rfl) rfl (yq tb U (bs h1 fun q15 gq15 h1=>CR (v:=(.agg [(i64 q15.op),(i64 q15.num),(i64 q15.Ax),(ls eI q15.args),(ls A2 q15.kids)])) Ah bJ (PG hrec_spec_copyBlock gq15) rfl U U ?_))
  refine VB (l:=[q15]) (enc:=Al) Ah FD (by decide) rfl U U (by simp only[List.map,Bw];rfl) rfl (Ak KJ) ?_
  exact BS (bs h1 fun l16 gl16 h1=>Eg (st':=[(LL p0),⟨0,55,2,[[.zc,(i64 0)]]⟩,(ro 1 71 5 Al l16),⟨0,55,2,[[(ow 2 0 l6),(i64 p0.result)]]⟩]) (l2:=[q15]) Ah FD U U U U Me Vx gl16 U (zq tb U (A3 (st':=[(LL p0),⟨0,55,2,[[.zc,(i64 0)]]⟩,(ro 1 71 5 Al l16),⟨0,55,2,[[(ow 2 1 l16),(i64 p0.result)]]⟩]) Ah Ub U U U U U U (show 0+1≤2 by decide) rfl (dn hK13 U (AJ U (zm tb 3 U (AB (xi (Sh.w (i5+1),l16) h1 (Cz (L:=[(1,(.ptr 0 0 0 0)),(2,(.ptr 1 0 0 0)),(3,(.ptr 3 0 0 0)),(4,(i64 (Sh.w (i5+1))))]) (st':=[(LL p0),⟨0,55,2,[[.zc,(i64 0)]]⟩,(ro 0 71 5 Al l16),⟨0,55,2,[[(ow 2 0 l16),(i64 p0.result)]]⟩]) (.raw U U (.raw U U (.pure (Ak KJ) (.raw U U .nil)))) ⟨.rfl,.rfl,.rfl,.rfl,trivial⟩)))))))))
 ·intro b12 h1
  exact Ay (M8 l6 (Sh.AA h1).symm _ (AP (L:=[(2,(.ptr 0 0 0 0)),(3,(.ptr 2 0 0 0))]) (st':=[⟨0,55,2,[[.zc,(i64 0)]]⟩,(ro 0 71 5 Al l6),⟨0,55,2,[[(ow 1 0 l6),(i64 p0.result)]]⟩]) (st1:=[⟨0,55,2,[[.zc,(i64 0)]]⟩,(ro 0 71 5 Al l6),⟨0,55,2,[[(ow 2 0 l6),(i64 p0.result)]]⟩]) [1,2,3] U .nil (by decide) rfl U (.raw U U (.pure (Ak KJ) (.raw U U .nil))) ⟨.rfl,.rfl,trivial⟩))

theorem NG {N:Nat} :∀(n:Nat),∀{p0:Block} {r:Block},EM N n p0=some r→Ae Tryz.prog 104 [(.agg [(ls Al p0.steps),(i64 p0.result)])] [] (fun v st=>v=(.agg [(ls Al r.steps),(i64 r.result)])∧st=[]):=by
 intro n
 induction n with
 | zero=>intro p0 r h0;cases h0
 | succ n ih=>
  intro p0 r h0
  rw[EM] at h0
  exact MX (fun h=>ih h) h0
theorem OH {N:Nat} :∀{p0:Block} {r:Block},Ht N p0=some r→Ae Tryz.prog 104 [(.agg [(ls Al p0.steps),(i64 p0.result)])] [] (fun v st=>v=(.agg [(ls Al r.steps),(i64 r.result)])∧st=[]):=by
 intro p0 r h0
 exact NG N h0
theorem Om {N:Nat} {p0:Aj} {p1:(List (List Int))} {r:Aj} (h0:IW N p0 p1=some r):Ae Tryz.prog 55 [(.agg [(ls AG p0.decls),(ls AT p0.AD)]),(ls (eS eI) p1)] [] (fun v st=>v=(.agg [(ls AG r.decls),(ls AT r.AD)])∧st=[]):=by
 unfold IW at h0
 refine El U (ai Tryz.func55 U U U U (sr U fun K1 hK1=>BI (m:=0) (st':=[(BM p0)]) Ah U U U U U (Ap (m:=1) (st':=[(BM p0),⟨0,30,2,[[.zc,.zc]]⟩]) Ah JQ U U (dn hK1 U (sr U fun K2 hK2=>zm tb 2 U (bs h0 fun q3 gq3 h0=>BW (v':=(ow 2 0 q3)) (st':=[(BM p0),⟨0,30,2,[[.zc,.zc]]⟩,(ro 0 98 3 AG q3)]) Ah cq (ON gq3) rfl U ⟨(Bf fun _=>U),trivial⟩ U U ?_))))))
 refine DV (m:=3) (st':=[(BM p0),⟨0,30,2,[[.zc,.zc]]⟩,(ro 0 98 3 AG q3),(ro 0 57 5 AT ([]:List Ac))]) (l:=([]:List Ac)) (enc:=AT) Ah E7 (by decide) rfl U U U U U ?_
 refine zz (.agg [(ow 2 0 q3),(.own 3 0 (List.length ([]:List Ac)))]) (GV W3 WX JQ U U) rfl (Ap (m:=4) (st':=[(BM p0),⟨0,30,2,[[.zc,.zc]]⟩,(ro 0 98 3 AG q3),(ro 0 57 5 AT ([]:List Ac)),⟨0,30,2,[[.zc,.zc]]⟩]) Ah JQ U U (Az (Wk.E5 (L:=[(1,(ls (eS eI) p1)),(2,(.ptr 0 0 0 0)),(4,(.ptr 1 0 0 0)),(5,(.ptr 4 0 0 0)),(12,(.agg [(ls AG q3),(.own 3 0 (List.length ([]:List Ac)))]))]) (st':=[(BM p0),⟨0,30,2,[[.zc,.zc]]⟩,⟨1,98,3,[]⟩,(ro 0 57 5 AT ([]:List Ac)),⟨0,30,2,[[.zc,.zc]]⟩]) (id:=2) rfl (show 0≤2 by decide) (Ak fun _=>U) ⟨.rfl,.rfl,.rfl,.rfl,(.agg ⟨(.IA U),.rfl,trivial⟩),trivial⟩ U) (A3 (st':=[(BM p0),⟨0,30,2,[[.zc,.zc]]⟩,⟨1,98,3,[]⟩,(ro 0 57 5 AT ([]:List Ac)),⟨0,30,2,[[(ls AG q3),(.own 3 0 (List.length ([]:List Ac)))]]⟩]) Ah Hl U U U U U U (show 0+2≤2 by decide) rfl (dn hK2 U (AE fun K4 hK4=>zr tb U U (bs h0 fun o9 h1 h0=>?_))))))
 have M9 :∀(l8:(List Ac)),o9=l8→∀s,Wk 0 s ⟨45,Ad [(4,(.ptr 0 0 0 0)),(5,(.ptr 2 0 0 0))],[⟨0,30,2,[[.zc,.zc]]⟩,(ro 0 57 5 AT l8),⟨0,30,2,[[(ls AG q3),(ow 1 0 l8)]]⟩]⟩→K4 s:=by
  intro l8 hq s hw
  subst o9
  try dsimp only at h0
  refine hK4 _ (AS hw (sr U fun K10 hK10=>zq tb U (Az (Wk.E5 (L:=[(4,(.ptr 0 0 0 0)),(44,(.agg [(ls AG q3),(ls AT l8)]))]) (st':=[⟨0,30,2,[[.zc,.zc]]⟩,⟨1,57,5,[]⟩,⟨0,30,2,[[(ls AG q3),(ow 1 0 l8)]]⟩]) (id:=1) rfl (show 0≤1 by decide) (Ak fun _=>U) ⟨.rfl,(.agg ⟨.rfl,(.IA U),trivial⟩),trivial⟩ U) (A3 (st':=[⟨0,30,2,[[(ls AG q3),(ls AT l8)]]⟩,⟨1,57,5,[]⟩,⟨0,30,2,[[(ls AG q3),(ow 1 0 l8)]]⟩]) Ah Hl U U U U U U (show 0+2≤2 by decide) rfl (dn hK10 U ?_)))))
  replace h0:=Sh.AA h0
  subst r
  exact AK (Exists.intro _ (And.intro (Jx _ _) (Cb (x:=.tmp 4) (off:=0) (cs:=[(ls AG q3),(ls AT l8)]) (vs:=[(ls AG q3),(ls AT l8)]) Hl U U U (show 0+2≤2 by decide) rfl _ U)))
 refine Aa (Au (σ:=Int×(List Ac)) (fun n v=>Dq N p0 p1 n v.1 v.2=some o9) (fun (i6,l7)=>⟨45,Ad [(1,(ls (eS eI) p1)),(2,(.ptr 0 0 0 0)),(4,(.ptr 1 0 0 0)),(5,(.ptr 3 0 0 0)),(6,(i64 i6))],[(BM p0),⟨0,30,2,[[.zc,.zc]]⟩,(ro 0 57 5 AT l7),⟨0,30,2,[[(ls AG q3),(ow 2 0 l7)]]⟩]⟩) N (0,[]) h1 (AP (L:=[(1,(ls (eS eI) p1)),(2,(.ptr 0 0 0 0)),(4,(.ptr 1 0 0 0)),(5,(.ptr 3 0 0 0)),(6,(i64 0))]) (st':=[(BM p0),⟨0,30,2,[[.zc,.zc]]⟩,(ro 0 57 5 AT ([]:List Ac)),⟨0,30,2,[[(ls AG q3),(.own 2 0 (List.length ([]:List Ac)))]]⟩]) (st1:=[(BM p0),⟨0,30,2,[[.zc,.zc]]⟩,(ro 0 57 5 AT ([]:List Ac)),⟨0,30,2,[[(ls AG q3),(.own 3 0 (List.length ([]:List Ac)))]]⟩]) [0,1,3,4] U .nil (by decide) rfl U (.raw U U (.raw U U (.pure (Ak fun _=>U) (.raw U U .nil)))) ⟨.rfl,.rfl,.rfl,.rfl,.rfl,trivial⟩) (fun _ hv=>by rw[Dq] at hv;cases hv) ?_)
 rintro n ⟨i6,l7⟩ h1
 try dsimp only at h1 ⊢
 rw[Dq] at h1
 refine AE fun K11 hK11=>sr U fun K12 hK12=>zm tb 3 U (zl tb U U (zq tb U (dn hK12 U ?_)))
 refine ci h1 U ?_ ?_ <;> clear h1
 ·intro b13 h1
  refine AI (hK11 _ (AE fun K14 hK14=>Aa (sr U fun K15 hK15=>zm tb 3 U (bs h1 fun c16 gc16 h1=>zx E7 gc16 U U U (zq tb U (Ap (m:=4) (st':=[(BM p0),⟨0,30,2,[[.zc,.zc]]⟩,(ro 0 57 5 AT l7),⟨0,30,2,[[(ls AG q3),(ow 2 0 l7)]]⟩,⟨0,57,5,[[.zc,.zc,(i64 0),.zc,(i64 0)]]⟩]) Ah Lt U U (A3 (st':=[(BM p0),⟨0,30,2,[[.zc,.zc]]⟩,(ro 0 57 5 AT l7),⟨0,30,2,[[(ls AG q3),(ow 2 0 l7)]]⟩,⟨0,57,5,[[(ls eI c16.params),(ls eI c16.At),(i64 c16.result),(ls Al c16.body.steps),(i64 c16.body.result)]]⟩]) Ah NJ U U U U U U (show 0+5≤5 by decide) rfl (dn hK15 U ?_))))))))
  refine CJ 17 (by kernel_rfl) (by kernel_rfl) (by rfl) ?_
  iterate 4 refine yq tb rfl ?_
  refine bs h1 fun q17 gq17 h1=>?_
  refine CR (v:=(ls eI q17)) Ah PZ (Ae.wk (Ez gq17) (by refine Wk.trans (Wk.E5 (L:=[(0,(ls eI q17))]) (st':=[⟨1,3,1,[]⟩]) (id:=0) rfl (show 0≤0 by decide) (Ak fun _=>U) ⟨(.E5 U),trivial⟩ U) ?_;refine Wk.trans (AP (L:=[(0,(ls eI q17))]) (st':=[]) (st1:=[]) [] U .nil (by decide) rfl U .nil ⟨.rfl,trivial⟩) ?_;exact AF (L:=[(0,(ls eI q17))]) ⟨.rfl,trivial⟩)) rfl U U ?_
  iterate 2 refine yq tb rfl ?_
  refine bs h1 fun c18 gc18 h1=>yx Mn gc18 U U U (yq tb U (bs h1 fun q19 gq19 h1=>?_))
  refine CR (v:=(ls eI q19)) Ah PZ (Ae.wk (Ez gq19) (by refine Wk.trans (Wk.E5 (L:=[(0,(ls eI q19))]) (st':=[⟨1,3,1,[]⟩]) (id:=0) rfl (show 0≤0 by decide) (Ak fun _=>U) ⟨(.E5 U),trivial⟩ U) ?_;refine Wk.trans (AP (L:=[(0,(ls eI q19))]) (st':=[]) (st1:=[]) [] U .nil (by decide) rfl U .nil ⟨.rfl,trivial⟩) ?_;exact AF (L:=[(0,(ls eI q19))]) ⟨.rfl,trivial⟩)) rfl U U ?_
  iterate 4 refine yq tb rfl ?_
  refine bs h1 fun q20 gq20 h1=>CR (v:=(.agg [(ls Al q20.steps),(i64 q20.result)])) Ah YD (OH gq20) rfl U U (yz (.agg [(ls eI q17),(ls eI q19),(i64 c16.result),(ls Al q20.steps),(i64 q20.result)]) (GV ZR Y2 Lt U U) rfl ?_)
  refine VB (l:=[(Ac.mk q17 q19 c16.result q20)]) (enc:=AT) Ah E7 (by decide) rfl U U U U (Ak fun _=>U) ?_
  refine BS (bs h1 fun l21 gl21 h1=>Eg (st':=[(BM p0),⟨0,30,2,[[.zc,.zc]]⟩,(ro 1 57 5 AT l21),⟨0,30,2,[[(ls AG q3),(ow 2 0 l7)]]⟩,⟨0,57,5,[[(ls eI c16.params),(ls eI c16.At),(i64 c16.result),(ls Al c16.body.steps),(i64 c16.body.result)]]⟩]) (l2:=[(Ac.mk q17 q19 c16.result q20)]) Ah E7 U U U U Me (fun _=>U) gl21 U (zq tb U (A3 (st':=[(BM p0),⟨0,30,2,[[.zc,.zc]]⟩,(ro 1 57 5 AT l21),⟨0,30,2,[[(ls AG q3),(ow 2 1 l21)]]⟩,⟨0,57,5,[[(ls eI c16.params),(ls eI c16.At),(i64 c16.result),(ls Al c16.body.steps),(i64 c16.body.result)]]⟩]) Ah Y5 U U U U U U (show 1+1≤2 by decide) rfl (dn hK14 U (AJ U (zm tb 3 U ?_))))))
  exact AB (xi (Sh.w (i6+1),l21) h1 (by refine Wk.trans (Cz (L:=[(1,(ls (eS eI) p1)),(2,(.ptr 0 0 0 0)),(4,(.ptr 1 0 0 0)),(5,(.ptr 3 0 0 0)),(6,(i64 (Sh.w (i6+1))))]) (st':=[(BM p0),⟨0,30,2,[[.zc,.zc]]⟩,(ro 0 57 5 AT l21),⟨0,30,2,[[(ls AG q3),(ow 2 0 l21)]]⟩,⟨0,57,5,[[(ls eI c16.params),(ls eI c16.At),(i64 c16.result),(ls Al c16.body.steps),(i64 c16.body.result)]]⟩]) (.raw U U (.raw U U (.pure (Ak fun _=>U) (.raw U U (.raw U U .nil))))) ⟨.rfl,.rfl,.rfl,.rfl,.rfl,trivial⟩) ?_;exact AP (L:=[(1,(ls (eS eI) p1)),(2,(.ptr 0 0 0 0)),(4,(.ptr 1 0 0 0)),(5,(.ptr 3 0 0 0)),(6,(i64 (Sh.w (i6+1))))]) (st':=[(BM p0),⟨0,30,2,[[.zc,.zc]]⟩,(ro 0 57 5 AT l21),⟨0,30,2,[[(ls AG q3),(ow 2 0 l21)]]⟩]) (st1:=[(BM p0),⟨0,30,2,[[.zc,.zc]]⟩,(ro 0 57 5 AT l21),⟨0,30,2,[[(ls AG q3),(ow 2 0 l21)]]⟩]) [0,1,2,3] U .nil (by decide) rfl U (.raw U U (.raw U U (.pure (Ak fun _=>U) (.raw U U .nil)))) ⟨.rfl,.rfl,.rfl,.rfl,.rfl,trivial⟩))
 ·intro b13 h1
  exact Ay (M9 l7 (Sh.AA h1).symm _ (AP (L:=[(4,(.ptr 0 0 0 0)),(5,(.ptr 2 0 0 0))]) (st':=[⟨0,30,2,[[.zc,.zc]]⟩,(ro 0 57 5 AT l7),⟨0,30,2,[[(ls AG q3),(ow 1 0 l7)]]⟩]) (st1:=[⟨0,30,2,[[.zc,.zc]]⟩,(ro 0 57 5 AT l7),⟨0,30,2,[[(ls AG q3),(ow 2 0 l7)]]⟩]) [1,2,3] U .nil (by decide) rfl U (.raw U U (.pure (Ak fun _=>U) (.raw U U .nil))) ⟨.rfl,.rfl,trivial⟩))
theorem Qd {N:Nat} {p0:Aj} {r:Aj×Bool} (h0:II N p0=some r):Ae Tryz.prog 22 [(.agg [(ls AG p0.decls),(ls AT p0.AD)])] [] (fun v st=>v=(.BZ [(.agg [(ls AG r.1.decls),(ls AT r.1.AD)]),(.bool r.2)])∧st=[]):=by
 unfold II at h0
 refine El U (ai Tryz.func22 U U U U (sr U fun K1 hK1=>BI (m:=0) (st':=[(BM p0)]) Ah U U U U U (Ap (m:=1) (st':=[(BM p0),⟨0,30,2,[[.zc,.zc]]⟩]) Ah JQ U U (zq tb U (dn hK1 U (AE fun K2 hK2=>sr U fun K3 hK3=>zq tb U (bs h0 fun q4 gq4 h0=>zc cx (Pm gq4) rfl U U ?_)))))))
 refine zq tb U (dn hK3 U ?_)
 refine ci h0 U ?_ ?_ <;> clear h0
 ·intro b5 h0
  have b6:q4=false:=by simpa using b5
  refine sr U fun K7 hK7=>zz (.agg [.zc,.zc]) (GV W3 WX JQ U U) rfl (A3 (st':=[(BM p0),⟨0,30,2,[[.zc,.zc]]⟩]) Ah Hl U U U U U U (show 0+2≤2 by decide) rfl (zq tb U (dn hK7 U ?_)))
  replace h0:=Sh.AA h0
  subst r
  exact AK (Exists.intro _ (And.intro ((((HE (id:=1) (cs:=[.zc,.zc]) (cs':=[(.sl (List.map AG [])),.zc]) (st':=[(BM p0),⟨0,30,2,[[(.sl (List.map AG [])),.zc]]⟩]) rfl ⟨le.zc,le.rfl,trivial⟩ U U).trans (HE (id:=1) (cs:=[(.sl (List.map AG [])),.zc]) (cs':=[(.sl (List.map AG [])),(.sl (List.map AT []))]) (st':=[(BM p0),⟨0,30,2,[[(.sl (List.map AG [])),(.sl (List.map AT []))]]⟩]) rfl ⟨le.rfl,le.zc,trivial⟩ U U)).trans (AP (L:=[(2,(.ptr 0 0 0 0)),(3,(.bool false))]) (st':=[⟨0,30,2,[[(.sl (List.map AG [])),(.sl (List.map AT []))]]⟩]) (st1:=[⟨0,30,2,[[(.sl (List.map AG [])),(.sl (List.map AT []))]]⟩]) [1] U .nil (by decide) rfl U (.raw U U .nil) ⟨.rfl,.rfl,trivial⟩)).trans (AF (L:=[(2,(.ptr 0 0 0 0)),(3,(.bool false))]) ⟨.rfl,.rfl,trivial⟩)) (Cb (x:=.tmp 2) (off:=0) (cs:=[(.sl (List.map AG [])),(.sl (List.map AT []))]) (vs:=[(.sl (List.map AG [])),(.sl (List.map AT []))]) Hl U U U (show 0+2≤2 by decide) rfl _ U)))
 ·intro b5 h0
  have b8:q4=true:=by simpa using b5
  refine AI (hK2 _ (sr U fun K9 hK9=>?_))
  refine DV (m:=2) (st':=[(BM p0),⟨0,30,2,[[.zc,.zc]]⟩,(ro 0 37 1 (eS eI) ([]:List (List Int)))]) (l:=([]:List (List Int))) (enc:=(eS eI)) Ah Mn (by decide) rfl U U U U U ?_
  refine zq tb U (dn hK9 U (AE fun K10 hK10=>zr tb U U (bs h0 fun o15 h1 h0=>?_)))
  have M15 :∀(l14:(List (List Int))),o15=l14→∀s,Wk 0 s ⟨25,Ad [(1,(.ptr 0 0 0 0)),(2,(.ptr 1 0 0 0)),(4,(ow 2 0 l14))],[(BM p0),⟨0,30,2,[[.zc,.zc]]⟩,(ro 0 37 1 (eS eI) l14)]⟩→K10 s:=by
   intro l14 hq s hw
   subst o15
   try dsimp only at h0
   refine hK10 _ (AS hw (sr U fun K16 hK16=>zm tb 2 U (Az (Wk.E5 (L:=[(2,(.ptr 1 0 0 0)),(22,(.agg [(ls AG p0.decls),(ls AT p0.AD)])),(23,(ls (eS eI) l14))]) (st':=[(BM p0),⟨0,30,2,[[.zc,.zc]]⟩,⟨1,37,1,[]⟩]) (id:=2) rfl (show 0≤2 by decide) (Ak fun _=>U) ⟨.rfl,.rfl,(.E5 U),trivial⟩ U) (bs h0 fun q17 gq17 h0=>zc (v':=(.agg [(ls AG q17.decls),(ls AT q17.AD)])) dB (Om gq17) rfl U U (A3 (st':=[(BM p0),⟨0,30,2,[[(ls AG q17.decls),(ls AT q17.AD)]]⟩,⟨1,37,1,[]⟩]) Ah Hl U U U U U U (show 0+2≤2 by decide) rfl (zq tb U (dn hK16 U ?_)))))))
   replace h0:=Sh.AA h0
   subst r
   exact AK (Exists.intro _ (And.intro ((AP (L:=[(2,(.ptr 0 0 0 0)),(3,(.bool true))]) (st':=[⟨0,30,2,[[(ls AG q17.decls),(ls AT q17.AD)]]⟩]) (st1:=[⟨0,30,2,[[(ls AG q17.decls),(ls AT q17.AD)]]⟩]) [1] U .nil (by decide) rfl U (.raw U U .nil) ⟨.rfl,.rfl,trivial⟩).trans (AF (L:=[(2,(.ptr 0 0 0 0)),(3,(.bool true))]) ⟨.rfl,.rfl,trivial⟩)) (Cb (x:=.tmp 2) (off:=0) (cs:=[(ls AG q17.decls),(ls AT q17.AD)]) (vs:=[(ls AG q17.decls),(ls AT q17.AD)]) Hl U U U (show 0+2≤2 by decide) rfl _ U)))
  refine Aa (Au (σ:=Int×(List (List Int))) (fun n v=>EY p0 n v.1 v.2=some o15) (fun (i12,l13)=>⟨25,Ad [(1,(.ptr 0 0 0 0)),(2,(.ptr 1 0 0 0)),(4,(ow 2 0 l13)),(5,(i64 i12))],[(BM p0),⟨0,30,2,[[.zc,.zc]]⟩,(ro 0 37 1 (eS eI) l13)]⟩) N (0,[]) h1 (AN U) (fun _ hv=>by rw[EY] at hv;cases hv) ?_)
  rintro n ⟨i12,l13⟩ h1
  try dsimp only at h1 ⊢
  rw[EY] at h1
  refine AE fun K18 hK18=>sr U fun K19 hK19=>zm tb 3 U (zl tb U U (zq tb U (dn hK19 U ?_)))
  refine ci h1 U ?_ ?_ <;> clear h1
  ·intro b20 h1
   refine AI (hK18 _ (AE fun K21 hK21=>Aa (AJ U (zq tb U ?_))))
   refine DV (m:=3) (st':=[(BM p0),⟨0,30,2,[[.zc,.zc]]⟩,(ro 0 37 1 (eS eI) l13),(ro 0 3 1 eI ([]:List Int))]) (l:=([]:List Int)) (enc:=eI) Ah BN (by decide) rfl U U U U U ?_
   refine Az (Wk.E5 (L:=[(1,(.ptr 0 0 0 0)),(2,(.ptr 1 0 0 0)),(5,(i64 i12)),(18,(ow 2 0 l13)),(19,(.sl (List.map eI [])))]) (st':=[(BM p0),⟨0,30,2,[[.zc,.zc]]⟩,(ro 0 37 1 (eS eI) l13),⟨1,3,1,[]⟩]) (id:=3) rfl (show 0≤3 by decide) (Ak fun _=>U) ⟨.rfl,.rfl,.rfl,.rfl,(.E5 U),trivial⟩ U) ?_
   refine DV (m:=4) (st':=[(BM p0),⟨0,30,2,[[.zc,.zc]]⟩,(ro 0 37 1 (eS eI) l13),⟨1,3,1,[]⟩,(ro 0 37 1 (eS eI) ([[]]))]) (l:=([[]])) (enc:=(eS eI)) Ah Mn (by decide) rfl U U U U U ?_
   refine bs h1 fun l22 gl22 h1=>Eg (st':=[(BM p0),⟨0,30,2,[[.zc,.zc]]⟩,(ro 1 37 1 (eS eI) l22),⟨1,3,1,[]⟩,(ro 0 37 1 (eS eI) ([[]]))]) (l2:=([[]])) Ah Mn U U U U (N0 U U) (fun _=>U) gl22 U (zq tb U (dn hK21 U (AJ U (zm tb 3 U ?_))))
   exact AB (xi (Sh.w (i12+1),l22) h1 (by refine Wk.trans (Cz (L:=[(1,(.ptr 0 0 0 0)),(2,(.ptr 1 0 0 0)),(4,(ow 2 0 l22)),(5,(i64 (Sh.w (i12+1))))]) (st':=[(BM p0),⟨0,30,2,[[.zc,.zc]]⟩,(ro 0 37 1 (eS eI) l22),⟨0,3,1,[]⟩,(ro 0 37 1 (eS eI) ([[]]))]) (.raw U U (.raw U U (.pure (Ak fun _=>U) (.pure (by intro x hx;cases hx) (.pure (Ak fun _=>U) .nil))))) ⟨.rfl,.rfl,.rfl,.rfl,trivial⟩) ?_;exact AP (L:=[(1,(.ptr 0 0 0 0)),(2,(.ptr 1 0 0 0)),(4,(ow 2 0 l22)),(5,(i64 (Sh.w (i12+1))))]) (st':=[(BM p0),⟨0,30,2,[[.zc,.zc]]⟩,(ro 0 37 1 (eS eI) l22)]) (st1:=[(BM p0),⟨0,30,2,[[.zc,.zc]]⟩,(ro 0 37 1 (eS eI) l22)]) [0,1,2] U .nil (by decide) rfl U (.raw U U (.raw U U (.pure (Ak fun _=>U) .nil))) ⟨.rfl,.rfl,.rfl,.rfl,trivial⟩))
  ·intro b20 h1
   exact Ay (M15 l13 (Sh.AA h1).symm _ (AN U))
end Go.Proofs.YtcegihniiokijaaGreat

