import Derived.Test.YtobjlimoekffaaaGreatProg
import Derived.Test.YtobjlimoekffaaaGreatGEncCToGCDefs
import Derived.Test.YtobjlimoekffaaaGreatGCWalkP1
namespace Go.Proofs.YtobjlimoekffaaaGreat
open Go Go.Abs RC
attribute [local irreducible] Go.Abs.DB
set_option maxRecDepth 100000
set_option maxHeartbeats 4000000

theorem cK:JS Tryz.prog 155=true:=by kernel_rfl
theorem bH:KD Tryz.prog 155=some [(0,1)]:=by kernel_rfl
theorem MK:Cn Tryz.prog 147=some ⟨92,1,24,[.sl []]⟩:=by kernel_rfl
theorem cP:AZ Tryz.prog 100=true:=by kernel_rfl
theorem cR:AZ Tryz.prog 101=true:=by kernel_rfl
theorem YS:AZ Tryz.prog 102=true:=by kernel_rfl
theorem Yh:AZ Tryz.prog 103=true:=by kernel_rfl
theorem ZG:AZ Tryz.prog 105=true:=by kernel_rfl
theorem Rf:AZ Tryz.prog 106=true:=by kernel_rfl
theorem bb:AZ Tryz.prog 125=true:=by kernel_rfl
theorem br:AZ Tryz.prog 126=true:=by kernel_rfl
theorem bw:AZ Tryz.prog 127=true:=by kernel_rfl
theorem bd:AZ Tryz.prog 141=true:=by kernel_rfl
theorem cY:AZ Tryz.prog 142=true:=by kernel_rfl
theorem cf:AZ Tryz.prog 143=true:=by kernel_rfl
theorem bE:AZ Tryz.prog 145=true:=by kernel_rfl
theorem eL:AZ Tryz.prog 65=true:=by kernel_rfl
theorem fC:AZ Tryz.prog 66=true:=by kernel_rfl
theorem eU:AZ Tryz.prog 93=true:=by kernel_rfl
theorem dm:AZ Tryz.prog 94=true:=by kernel_rfl
theorem XK:AZ Tryz.prog 95=true:=by kernel_rfl
theorem az:AZ Tryz.prog 96=true:=by kernel_rfl
theorem YH:AZ Tryz.prog 97=true:=by kernel_rfl
theorem eF:AZ Tryz.prog 98=true:=by kernel_rfl
theorem fO:AZ Tryz.prog 99=true:=by kernel_rfl
theorem ab:Df Tryz.prog 35=true:=by kernel_rfl
theorem bj:CY Tryz.prog 127=some (false,1):=by kernel_rfl
theorem RK:CY Tryz.prog 92=some (false,1):=by kernel_rfl
theorem cG:GR Tryz.prog 127=some [.MG]:=by kernel_rfl

theorem Jf {N:Nat} {s0_0:Int} {s1_0:(List Int)} {s1_1:(List Int)} {s1_2:Int} {s1_3:Int} {s1_4:(List Ag)} {p0:CR} {p1:Ag} {r:Bool} (h0:Aq N s0_0 s1_0 s1_1 s1_2 s1_3 s1_4 p0 p1=some r):AY Tryz.prog 125 [(.agg (BI p0)),(.agg (AU p1)),(.fn 123 [(.ptr 0 0 0 0),(.ptr 1 0 0 0)])] [⟨0,3,1,[[(i64 s0_0)]]⟩,⟨0,99,5,[[(ls eI s1_0),(ls eI s1_1),(i64 s1_2),(i64 s1_3),(ls AU s1_4)]]⟩] (fun v st=>v=(.bool r)∧st=[⟨0,3,1,[[(i64 s0_0)]]⟩,⟨0,99,5,[[(ls eI s1_0),(ls eI s1_1),(i64 s1_2),(i64 s1_3),(ls AU s1_4)]]⟩]):=by
 unfold Aq at h0
 refine ai Tryz.func125 U U U U (sr U fun K1 hK1=>A8 (m:=2) Aa U U U U U (A8 (m:=3) Aa U U U U U (zq tb U (dn hK1 U (AB fun K2 hK2=>zr tb U U (AJ (zr tb U U ?_)))))))
 refine ci h0 U ?_ ?_ <;> clear h0
 ·intro b5 h0
  refine AB fun K6 hK6=>bs h0 fun o8 h1 h0=>?_
  have M8 :∀(t7:Bool),o8=t7→∀s,Wk 2 s ⟨109,AS [(6,(.bool t7))],[⟨0,3,1,[[(i64 s0_0)]]⟩,⟨0,99,5,[[(ls eI s1_0),(ls eI s1_1),(i64 s1_2),(i64 s1_3),(ls AU s1_4)]]⟩]⟩→K6 s:=by
   intro t7 hq s hw
   subst o8
   try dsimp only at h0
   refine hK6 _ (AI hw ?_)
   replace h0:=Sh.AA h0
   subst r
   exact AH (xr (AM (L:=[(6,(.bool t7))]) ⟨.rfl,trivial⟩))
  refine AF U (zm tb 4 U ?_)
  rcases Sh.AP h1 with ⟨b9,h1⟩ | ⟨b9,h1⟩
  ·refine zg tb b9 U (zg tb b9 U (zg tb b9 U (zt b9 U (zq tb U ?_))))
   exact AD (M8 (decide (p1.num≤999)) (Sh.AA h1).symm _ (AN (L:=[(6,(.bool (decide (p1.num≤999))))]) (st':=[⟨0,3,1,[[(i64 s0_0)]]⟩,⟨0,99,5,[[(ls eI s1_0),(ls eI s1_1),(i64 s1_2),(i64 s1_3),(ls AU s1_4)]]⟩]) (st1:=[⟨0,3,1,[[(i64 s0_0)]]⟩,⟨0,99,5,[[(ls eI s1_0),(ls eI s1_1),(i64 s1_2),(i64 s1_3),(ls AU s1_4)]]⟩]) [0,1] U (.raw U U (.raw U U .nil)) (by decide) rfl U (.raw U U (.raw U U .nil)) ⟨.rfl,trivial⟩))
  ·refine zs b9 U (zs b9 U (zs b9 U (zf b9 U (zq tb U ?_))))
   exact AD (M8 false (Sh.AA h1).symm _ (AN (L:=[(6,(.bool false))]) (st':=[⟨0,3,1,[[(i64 s0_0)]]⟩,⟨0,99,5,[[(ls eI s1_0),(ls eI s1_1),(i64 s1_2),(i64 s1_3),(ls AU s1_4)]]⟩]) (st1:=[⟨0,3,1,[[(i64 s0_0)]]⟩,⟨0,99,5,[[(ls eI s1_0),(ls eI s1_1),(i64 s1_2),(i64 s1_3),(ls AU s1_4)]]⟩]) [0,1] U (.raw U U (.raw U U .nil)) (by decide) rfl U (.raw U U (.raw U U .nil)) ⟨.rfl,trivial⟩))
 ·intro b5 h0
  refine zr tb U U ?_
  refine ci h0 U ?_ ?_ <;> clear h0
  ·intro b11 h0
   refine AB fun K12 hK12=>bs h0 fun o14 h1 h0=>?_
   have M14 :∀(t13:Bool),o14=t13→∀s,Wk 2 s ⟨109,AS [(6,(.bool t13))],[⟨0,3,1,[[(i64 s0_0)]]⟩,⟨0,99,5,[[(ls eI s1_0),(ls eI s1_1),(i64 s1_2),(i64 s1_3),(ls AU s1_4)]]⟩]⟩→K12 s:=by
    intro t13 hq s hw
    subst o14
    try dsimp only at h0
    refine hK12 _ (AI hw ?_)
    replace h0:=Sh.AA h0
    subst r
    exact AH (xr (AM (L:=[(6,(.bool t13))]) ⟨.rfl,trivial⟩))
   refine B1 (by kernel_rfl) (by kernel_rfl) (by rfl) ?_
   iterate 4 refine yq tb rfl ?_
   rcases Sh.AP h1 with ⟨b15,h1⟩ | ⟨b15,h1⟩
   ·refine yg tb b15 U ?_
    iterate 3 refine yg tb b15 rfl ?_
    refine bs h1 fun q16 gq16 h1=>E0 (v:=(i64 q16)) (A9 U U b15) Za (KZ gq16) rfl U U (yg tb b15 U (yt b15 U (yq tb U ?_)))
    exact BP (M14 (decide (p1.num < q16)) (Sh.AA h1).symm _ (AN (L:=[(6,(.bool (decide (p1.num < q16))))]) (st':=[⟨0,3,1,[[(i64 s0_0)]]⟩,⟨0,99,5,[[(ls eI s1_0),(ls eI s1_1),(i64 s1_2),(i64 s1_3),(ls AU s1_4)]]⟩]) (st1:=[⟨0,3,1,[[(i64 s0_0)]]⟩,⟨0,99,5,[[(ls eI s1_0),(ls eI s1_1),(i64 s1_2),(i64 s1_3),(ls AU s1_4)]]⟩]) [0,1] U (.raw U U (.raw U U .nil)) (by decide) rfl U (.raw U U (.raw U U .nil)) ⟨.rfl,trivial⟩))
   ·refine ys b15 U ?_
    iterate 5 refine ys b15 rfl ?_
    refine yf b15 U (yq tb U ?_)
    exact BP (M14 false (Sh.AA h1).symm _ (AN (L:=[(6,(.bool false))]) (st':=[⟨0,3,1,[[(i64 s0_0)]]⟩,⟨0,99,5,[[(ls eI s1_0),(ls eI s1_1),(i64 s1_2),(i64 s1_3),(ls AU s1_4)]]⟩]) (st1:=[⟨0,3,1,[[(i64 s0_0)]]⟩,⟨0,99,5,[[(ls eI s1_0),(ls eI s1_1),(i64 s1_2),(i64 s1_3),(ls AU s1_4)]]⟩]) [0,1] U (.raw U U (.raw U U .nil)) (by decide) rfl U (.raw U U (.raw U U .nil)) ⟨.rfl,trivial⟩))
  ·intro b11 h0
   refine AB fun K17 hK17=>bs h0 fun o19 h1 h0=>?_
   have M19 :∀(t18:Bool),o19=t18→∀s,Wk 2 s ⟨109,AS [(2,(.fn 123 [(.ptr 0 0 0 0),(.ptr 1 0 0 0)])),(3,(.ptr 2 0 0 0)),(4,(.ptr 3 0 0 0)),(9,(i64 p1.op)),(33,(.bool t18))],[⟨0,3,1,[[(i64 s0_0)]]⟩,⟨0,99,5,[[(ls eI s1_0),(ls eI s1_1),(i64 s1_2),(i64 s1_3),(ls AU s1_4)]]⟩,⟨0,138,2,[(BI p0)]⟩,⟨0,132,6,[(AU p1)]⟩]⟩→K17 s:=by
    intro t18 hq s hw
    subst o19
    try dsimp only at h0
    refine hK17 _ (AI hw ?_)
    refine ci h0 U ?_ ?_ <;> clear h0
    ·intro b20 h0
     refine AB fun K21 hK21=>bs h0 fun o23 h1 h0=>?_
     have M23 :∀(t22:Bool),o23=t22→∀s,Wk 2 s ⟨109,AS [(6,(.bool t22))],[⟨0,3,1,[[(i64 s0_0)]]⟩,⟨0,99,5,[[(ls eI s1_0),(ls eI s1_1),(i64 s1_2),(i64 s1_3),(ls AU s1_4)]]⟩]⟩→K21 s:=by
      intro t22 hq s hw
      subst o23
      try dsimp only at h0
      refine hK21 _ (AI hw ?_)
      replace h0:=Sh.AA h0
      subst r
      exact AH (xr (AM (L:=[(6,(.bool t22))]) ⟨.rfl,trivial⟩))
     refine AF U (zm tb 4 U ?_)
     rcases Sh.AP h1 with ⟨b24,h1⟩ | ⟨b24,h1⟩
     ·refine zg tb b24 U ?_
      iterate 3 refine zg tb b24 rfl ?_
      refine A5 (v:=(i64 (Sh.len p0.funcs))) (A9 U U b24) rfl (BL Tj U) (zg tb b24 U (zt b24 U (zq tb U ?_)))
      exact AD (M23 (decide (p1.num < (Sh.len p0.funcs))) (Sh.AA h1).symm _ (AN (L:=[(6,(.bool (decide (p1.num < (Sh.len p0.funcs)))))]) (st':=[⟨0,3,1,[[(i64 s0_0)]]⟩,⟨0,99,5,[[(ls eI s1_0),(ls eI s1_1),(i64 s1_2),(i64 s1_3),(ls AU s1_4)]]⟩]) (st1:=[⟨0,3,1,[[(i64 s0_0)]]⟩,⟨0,99,5,[[(ls eI s1_0),(ls eI s1_1),(i64 s1_2),(i64 s1_3),(ls AU s1_4)]]⟩]) [0,1] U (.raw U U (.raw U U .nil)) (by decide) rfl U (.raw U U (.raw U U .nil)) ⟨.rfl,trivial⟩))
     ·refine zs b24 U ?_
      iterate 5 refine zs b24 rfl ?_
      refine zf b24 U (zq tb U ?_)
      exact AD (M23 false (Sh.AA h1).symm _ (AN (L:=[(6,(.bool false))]) (st':=[⟨0,3,1,[[(i64 s0_0)]]⟩,⟨0,99,5,[[(ls eI s1_0),(ls eI s1_1),(i64 s1_2),(i64 s1_3),(ls AU s1_4)]]⟩]) (st1:=[⟨0,3,1,[[(i64 s0_0)]]⟩,⟨0,99,5,[[(ls eI s1_0),(ls eI s1_1),(i64 s1_2),(i64 s1_3),(ls AU s1_4)]]⟩]) [0,1] U (.raw U U (.raw U U .nil)) (by decide) rfl U (.raw U U (.raw U U .nil)) ⟨.rfl,trivial⟩))
    ·intro b20 h0
     refine zr tb U U ?_
     refine ci h0 U ?_ ?_ <;> clear h0
     ·intro b26 h0
      refine AB fun K27 hK27=>bs h0 fun o29 h1 h0=>?_
      have M29 :∀(t28:Bool),o29=t28→∀s,Wk 2 s ⟨109,AS [(6,(.bool t28))],[⟨0,3,1,[[(i64 s0_0)]]⟩,⟨0,99,5,[[(ls eI s1_0),(ls eI s1_1),(i64 s1_2),(i64 s1_3),(ls AU s1_4)]]⟩]⟩→K27 s:=by
       intro t28 hq s hw
       subst o29
       try dsimp only at h0
       refine hK27 _ (AI hw ?_)
       replace h0:=Sh.AA h0
       subst r
       exact AH (xr (AM (L:=[(6,(.bool t28))]) ⟨.rfl,trivial⟩))
      refine AF U (zm tb 4 U ?_)
      rcases Sh.AP h1 with ⟨b30,h1⟩ | ⟨b30,h1⟩
      ·refine zg tb b30 U ?_
       iterate 3 refine zg tb b30 rfl ?_
       refine A5 (v:=(i64 (Sh.len p0.funcs))) (A9 U U b30) rfl (BL Tj U) (zg tb b30 U (zt b30 U (zq tb U ?_)))
       rcases Sh.AP h1 with ⟨b31,h1⟩ | ⟨b31,h1⟩
       ·refine zg tb b31 U ?_
        iterate 3 refine zg tb b31 rfl ?_
        refine bs h1 fun c32 gc32 h1=>A5 (v:=(.Bi (BO c32) 0)) (A9 U U b31) rfl (Bh ML U U gc32 U) (zg tb b31 U (zg tb b31 U (A5 (v:=(i64 (Sh.len c32.BH))) (A9 U U b31) rfl (BL EE U) (zg tb b31 U (zt b31 U (zq tb U ?_))))))
        exact AD (M29 (decide ((Sh.len c32.BH)=0)) (Sh.AA h1).symm _ (AN (L:=[(6,(.bool (decide ((Sh.len c32.BH)=0))))]) (st':=[⟨0,3,1,[[(i64 s0_0)]]⟩,⟨0,99,5,[[(ls eI s1_0),(ls eI s1_1),(i64 s1_2),(i64 s1_3),(ls AU s1_4)]]⟩]) (st1:=[⟨0,3,1,[[(i64 s0_0)]]⟩,⟨0,99,5,[[(ls eI s1_0),(ls eI s1_1),(i64 s1_2),(i64 s1_3),(ls AU s1_4)]]⟩]) [0,1] U (.raw U U (.raw U U .nil)) (by decide) rfl U (.raw U U (.raw U U .nil)) ⟨.rfl,trivial⟩))
       ·refine zs b31 U ?_
        iterate 8 refine zs b31 rfl ?_
        refine zf b31 U (zq tb U ?_)
        exact AD (M29 false (Sh.AA h1).symm _ (AN (L:=[(6,(.bool false))]) (st':=[⟨0,3,1,[[(i64 s0_0)]]⟩,⟨0,99,5,[[(ls eI s1_0),(ls eI s1_1),(i64 s1_2),(i64 s1_3),(ls AU s1_4)]]⟩]) (st1:=[⟨0,3,1,[[(i64 s0_0)]]⟩,⟨0,99,5,[[(ls eI s1_0),(ls eI s1_1),(i64 s1_2),(i64 s1_3),(ls AU s1_4)]]⟩]) [0,1] U (.raw U U (.raw U U .nil)) (by decide) rfl U (.raw U U (.raw U U .nil)) ⟨.rfl,trivial⟩))
      ·refine zs b30 U ?_
       iterate 5 refine zs b30 rfl ?_
       refine zf b30 U (zq tb U ?_)
       iterate 9 refine zs rfl rfl ?_
       refine zf U U (zq tb U ?_)
       exact AD (M29 false (Sh.AA h1).symm _ (AN (L:=[(6,(.bool false))]) (st':=[⟨0,3,1,[[(i64 s0_0)]]⟩,⟨0,99,5,[[(ls eI s1_0),(ls eI s1_1),(i64 s1_2),(i64 s1_3),(ls AU s1_4)]]⟩]) (st1:=[⟨0,3,1,[[(i64 s0_0)]]⟩,⟨0,99,5,[[(ls eI s1_0),(ls eI s1_1),(i64 s1_2),(i64 s1_3),(ls AU s1_4)]]⟩]) [0,1] U (.raw U U (.raw U U .nil)) (by decide) rfl U (.raw U U (.raw U U .nil)) ⟨.rfl,trivial⟩))
     ·intro b26 h0
      refine zr tb U U ?_
      refine ci h0 U ?_ ?_ <;> clear h0
      ·intro b34 h0
       refine AB fun K35 hK35=>bs h0 fun o37 h1 h0=>?_
       have M37 :∀(t36:Bool),o37=t36→∀s,Wk 2 s ⟨109,AS [(6,(.bool t36))],[⟨0,3,1,[[(i64 s0_0)]]⟩,⟨0,99,5,[[(ls eI s1_0),(ls eI s1_1),(i64 s1_2),(i64 s1_3),(ls AU s1_4)]]⟩]⟩→K35 s:=by
        intro t36 hq s hw
        subst o37
        try dsimp only at h0
        refine hK35 _ (AI hw ?_)
        replace h0:=Sh.AA h0
        subst r
        exact AH (xr (AM (L:=[(6,(.bool t36))]) ⟨.rfl,trivial⟩))
       refine AF U (zm tb 4 U ?_)
       rcases Sh.AP h1 with ⟨b38,h1⟩ | ⟨b38,h1⟩
       ·refine zg tb b38 U (zg tb b38 U (zg tb b38 U (zt b38 U (zq tb U ?_))))
        exact AD (M37 (decide (p1.num < 3)) (Sh.AA h1).symm _ (AN (L:=[(6,(.bool (decide (p1.num < 3))))]) (st':=[⟨0,3,1,[[(i64 s0_0)]]⟩,⟨0,99,5,[[(ls eI s1_0),(ls eI s1_1),(i64 s1_2),(i64 s1_3),(ls AU s1_4)]]⟩]) (st1:=[⟨0,3,1,[[(i64 s0_0)]]⟩,⟨0,99,5,[[(ls eI s1_0),(ls eI s1_1),(i64 s1_2),(i64 s1_3),(ls AU s1_4)]]⟩]) [0,1] U (.raw U U (.raw U U .nil)) (by decide) rfl U (.raw U U (.raw U U .nil)) ⟨.rfl,trivial⟩))
       ·refine zs b38 U (zs b38 U (zs b38 U (zf b38 U (zq tb U ?_))))
        exact AD (M37 false (Sh.AA h1).symm _ (AN (L:=[(6,(.bool false))]) (st':=[⟨0,3,1,[[(i64 s0_0)]]⟩,⟨0,99,5,[[(ls eI s1_0),(ls eI s1_1),(i64 s1_2),(i64 s1_3),(ls AU s1_4)]]⟩]) (st1:=[⟨0,3,1,[[(i64 s0_0)]]⟩,⟨0,99,5,[[(ls eI s1_0),(ls eI s1_1),(i64 s1_2),(i64 s1_3),(ls AU s1_4)]]⟩]) [0,1] U (.raw U U (.raw U U .nil)) (by decide) rfl U (.raw U U (.raw U U .nil)) ⟨.rfl,trivial⟩))
      ·intro b34 h0
       refine AB fun K39 hK39=>bs h0 fun o41 h1 h0=>?_
       have M41 :∀(t40:Bool),o41=t40→∀s,Wk 2 s ⟨109,AS [(2,(.fn 123 [(.ptr 0 0 0 0),(.ptr 1 0 0 0)])),(3,(.ptr 2 0 0 0)),(4,(.ptr 3 0 0 0)),(9,(i64 p1.op)),(81,(.bool t40))],[⟨0,3,1,[[(i64 s0_0)]]⟩,⟨0,99,5,[[(ls eI s1_0),(ls eI s1_1),(i64 s1_2),(i64 s1_3),(ls AU s1_4)]]⟩,⟨0,138,2,[(BI p0)]⟩,⟨0,132,6,[(AU p1)]⟩]⟩→K39 s:=by
        intro t40 hq s hw
        subst o41
        try dsimp only at h0
        refine hK39 _ (AI hw ?_)
        refine ci h0 U ?_ ?_ <;> clear h0
        ·intro b42 h0
         refine sr U fun K43 hK43=>zm tb 3 U (bs h0 fun q44 gq44 h0=>?_)
         refine OH (rowsP:=[⟨0,3,1,[[(i64 s0_0)]]⟩,⟨0,99,5,[[(ls eI s1_0),(ls eI s1_1),(i64 s1_2),(i64 s1_3),(ls AU s1_4)]]⟩]) (rows0:=[⟨0,3,1,[[(i64 s0_0)]]⟩,⟨0,99,5,[[(ls eI s1_0),(ls eI s1_1),(i64 s1_2),(i64 s1_3),(ls AU s1_4)]]⟩]) (rows1:=[⟨0,3,1,[[(i64 s0_0)]]⟩,⟨0,99,5,[[(ls eI s1_0),(ls eI s1_1),(i64 s1_2),(i64 s1_3),(ls AU s1_4)]]⟩]) (rows2:=[]) (rows1':=[⟨0,3,1,[[(i64 s0_0)]]⟩,⟨0,99,5,[[(ls eI s1_0),(ls eI s1_1),(i64 s1_2),(i64 s1_3),(ls AU s1_4)]]⟩]) (rows2':=[]) (st':=[⟨0,3,1,[[(i64 s0_0)]]⟩,⟨0,99,5,[[(ls eI s1_0),(ls eI s1_1),(i64 s1_2),(i64 s1_3),(ls AU s1_4)]]⟩,⟨0,138,2,[(BI p0)]⟩,⟨0,132,6,[(AU p1)]⟩]) (v':=(.bool q44)) [0,1] Aa U Ze (Ff gq44) rfl (by decide) rfl U (.raw U U (.raw U U .nil)) rfl U (.raw U U (.raw U U .nil)) .nil U U ?_
         refine zq tb U (dn hK43 U ?_)
         replace h0:=Sh.AA h0
         subst r
         exact AH (xr (AN (L:=[(6,(.bool q44))]) (st':=[⟨0,3,1,[[(i64 s0_0)]]⟩,⟨0,99,5,[[(ls eI s1_0),(ls eI s1_1),(i64 s1_2),(i64 s1_3),(ls AU s1_4)]]⟩]) (st1:=[⟨0,3,1,[[(i64 s0_0)]]⟩,⟨0,99,5,[[(ls eI s1_0),(ls eI s1_1),(i64 s1_2),(i64 s1_3),(ls AU s1_4)]]⟩]) [0,1] U (.raw U U (.raw U U .nil)) (by decide) rfl U (.raw U U (.raw U U .nil)) ⟨.rfl,trivial⟩))
        ·intro b42 h0
         refine zr tb U U ?_
         refine ci h0 U ?_ ?_ <;> clear h0
         ·intro b46 h0
          refine sr U fun K47 hK47=>zm tb 4 U (bs h0 fun q48 gq48 h0=>BN (v':=(ow 4 0 q48)) Aa bd (Qe gq48) rfl U ⟨(BB fun _=>U),trivial⟩ U U (zq tb U (dn hK47 U (AB fun K49 hK49=>bs h0 fun o51 h1 h0=>?_))))
          have M51 :∀(t50:Bool),o51=t50→∀s,Wk 2 s ⟨109,AS [(6,(.bool t50))],[⟨0,3,1,[[(i64 s0_0)]]⟩,⟨0,99,5,[[(ls eI s1_0),(ls eI s1_1),(i64 s1_2),(i64 s1_3),(ls AU s1_4)]]⟩]⟩→K49 s:=by
           intro t50 hq s hw
           subst o51
           try dsimp only at h0
           refine hK49 _ (AI hw ?_)
           replace h0:=Sh.AA h0
           subst r
           exact AH (xr (AM (L:=[(6,(.bool t50))]) ⟨.rfl,trivial⟩))
          refine AF U (zq tb U (zz (i64 (Sh.len q48)) (Dj EE U U U) rfl (zm tb 2 U ?_)))
          rcases Sh.AP h1 with ⟨b52,h1⟩ | ⟨b52,h1⟩
          ·refine zg tb b52 U (zg tb b52 U (A5 (v:=(i64 (Sh.len p1.jumps))) (A9 U U b52) rfl (BL EE U) (zg tb b52 U (A5 (v:=(i64 (Sh.len q48))) (A9 U U b52) rfl (Dj EE U U U) (zg tb b52 U (zt b52 U (zq tb U ?_)))))))
           exact AD (M51 (decide ((Sh.len p1.jumps)=(Sh.len q48))) (Sh.AA h1).symm _ (AN (L:=[(6,(.bool (decide ((Sh.len p1.jumps)=(Sh.len q48)))))]) (st':=[⟨0,3,1,[[(i64 s0_0)]]⟩,⟨0,99,5,[[(ls eI s1_0),(ls eI s1_1),(i64 s1_2),(i64 s1_3),(ls AU s1_4)]]⟩]) (st1:=[⟨0,3,1,[[(i64 s0_0)]]⟩,⟨0,99,5,[[(ls eI s1_0),(ls eI s1_1),(i64 s1_2),(i64 s1_3),(ls AU s1_4)]]⟩]) [0,1] U (.raw U U (.raw U U .nil)) (by decide) rfl U (.raw U U (.raw U U .nil)) ⟨.rfl,trivial⟩))
          ·refine zs b52 U ?_
           iterate 5 refine zs b52 rfl ?_
           refine zf b52 U (zq tb U ?_)
           exact AD (M51 false (Sh.AA h1).symm _ (AN (L:=[(6,(.bool false))]) (st':=[⟨0,3,1,[[(i64 s0_0)]]⟩,⟨0,99,5,[[(ls eI s1_0),(ls eI s1_1),(i64 s1_2),(i64 s1_3),(ls AU s1_4)]]⟩]) (st1:=[⟨0,3,1,[[(i64 s0_0)]]⟩,⟨0,99,5,[[(ls eI s1_0),(ls eI s1_1),(i64 s1_2),(i64 s1_3),(ls AU s1_4)]]⟩]) [0,1] U (.raw U U (.raw U U .nil)) (by decide) rfl U (.raw U U (.raw U U .nil)) ⟨.rfl,trivial⟩))
         ·intro b46 h0
          refine AG (hK2 _ (zr tb U U ?_))
          replace h0:=Sh.AA h0
          subst r
          exact AH (xr (AN (L:=[(6,(.bool (decide (p1.num=0))))]) (st':=[⟨0,3,1,[[(i64 s0_0)]]⟩,⟨0,99,5,[[(ls eI s1_0),(ls eI s1_1),(i64 s1_2),(i64 s1_3),(ls AU s1_4)]]⟩]) (st1:=[⟨0,3,1,[[(i64 s0_0)]]⟩,⟨0,99,5,[[(ls eI s1_0),(ls eI s1_1),(i64 s1_2),(i64 s1_3),(ls AU s1_4)]]⟩]) [0,1] U (.raw U U (.raw U U .nil)) (by decide) rfl U (.raw U U (.raw U U .nil)) ⟨.rfl,trivial⟩))
       refine zr tb U U ?_
       refine ci h1 U ?_ ?_ <;> clear h1
       ·intro b55 h1
        exact AG (M41 true (Sh.AA h1).symm _ (AM (L:=[(2,(.fn 123 [(.ptr 0 0 0 0),(.ptr 1 0 0 0)])),(3,(.ptr 2 0 0 0)),(4,(.ptr 3 0 0 0)),(9,(i64 p1.op)),(81,(.bool true))]) ⟨.rfl,.rfl,.rfl,.rfl,(.of (congrArg AV.bool b55)),trivial⟩))
       ·intro b55 h1
        exact AF U (zm tb 2 U (AD (M41 (decide (p1.op=22)) (Sh.AA h1).symm _ (AE U))))
   refine zr tb U U ?_
   refine ci h1 U ?_ ?_ <;> clear h1
   ·intro b57 h1
    exact AG (M19 true (Sh.AA h1).symm _ (AM (L:=[(2,(.fn 123 [(.ptr 0 0 0 0),(.ptr 1 0 0 0)])),(3,(.ptr 2 0 0 0)),(4,(.ptr 3 0 0 0)),(9,(i64 p1.op)),(33,(.bool true))]) ⟨.rfl,.rfl,.rfl,.rfl,(.of (congrArg AV.bool b57)),trivial⟩))
   ·intro b57 h1
    exact AF U (zm tb 2 U (AD (M19 (decide (p1.op=24)) (Sh.AA h1).symm _ (AE U))))
theorem RA {N:Nat} {p0:(List An)} {p1:Int} {r:Int×By} (h0:JT N p0 p1=some r):AY Tryz.prog 145 [(ls Ad p0),(i64 p1)] [] (fun v st=>v=(.DX [(i64 r.1),(.agg (D5 r.2))])∧st=[]):=by
 unfold JT at h0
 refine J1 U (ai Tryz.func145 U U U U (sr U fun K1 hK1=>zq tb U (BF (m:=0) Aa P5 U U (dn hK1 U (AB fun K2 hK2=>sr U fun K3 hK3=>zq tb U (zl tb U U (zq tb U (dn hK3 U ?_))))))))
 obtain⟨o6,h1,h0⟩:=Sh.A1 h0
 have M6 :∀(_:Unit),o6=Sum.inr ()→∀s,Wk 0 s ⟨38,AS [(5,(.ptr 0 0 0 0))],[⟨0,155,1,[[.zc]]⟩]⟩→K2 s:=by
  intro _ hq s hw
  subst o6
  try dsimp only at h0
  refine hK2 _ (AI hw (sr U fun K7 hK7=>zz (.agg [.zc]) (PM cK bH P5 U U) rfl (zq tb U (A7 Aa Lf U U U U U U (show 0+1≤1 by decide) rfl (dn hK7 U ?_)))))
  replace h0:=Sh.AA h0
  subst r
  exact AH (Exists.intro _ (And.intro ((LX (id:=0) (cs:=[.zc]) (cs':=[(.sl (List.map eI []))]) (st':=[⟨0,155,1,[[(.sl (List.map eI []))]]⟩]) rfl ⟨le.zc,trivial⟩ U U).trans (AM (L:=[(4,(i64 (-1))),(5,(.ptr 0 0 0 0))]) ⟨.rfl,.rfl,trivial⟩)) (Fc (x:=.tmp 5) (off:=0) (cs:=[(.sl (List.map eI []))]) (vs:=[(.sl (List.map eI []))]) Lf U U U (show 0+1≤1 by decide) rfl _ U)))
 refine AJ (AX (σ:=Int×Int) (fun n v=>FT p0 n v.1 v.2=some o6) (fun (c4,t5)=>⟨38,AS [(1,(i64 c4)),(5,(.ptr 0 0 0 0)),(8,(ls Ad p0)),(9,(i64 (Sh.len p0))),(10,(i64 t5))],[⟨0,155,1,[[.zc]]⟩]⟩) N (p1,0) h1 (AE U) (fun _ hv=>by rw[FT] at hv;cases hv) ?_)
 rintro n ⟨c4,t5⟩ h1
 try dsimp only at h1 ⊢
 rw[FT] at h1
 refine zr tb U U (AB fun K9 hK9=>?_)
 refine ci h1 U ?_ ?_ <;> clear h1
 ·intro b10 h1
  refine AG (hK9 _ (AB fun K11 hK11=>AJ (sr U fun K12 hK12=>zq tb U (bs h1 fun c13 gc13 h1=>zx HX gc13 U U U (zq tb U (BF (m:=1) Aa Nu U U (zq tb U (A7 Aa MS U U U U U U (show 0+3≤3 by decide) rfl (dn hK12 U ?_)))))))))
  refine AB fun K14 hK14=>AB fun K15 hK15=>bs h1 fun o17 h2 h1=>?_
  have M17 :∀(t16:Bool),o17=t16→∀s,Wk 0 s ⟨38,AS [(1,(i64 c4)),(5,(.ptr 0 0 0 0)),(6,(i64 t5)),(7,(.ptr 1 0 0 0)),(8,(ls Ad p0)),(9,(i64 (Sh.len p0))),(10,(i64 t5)),(23,(.bool t16))],[⟨0,155,1,[[.zc]]⟩,⟨0,104,3,[(Ad c13)]⟩]⟩→K15 s:=by
   intro t16 hq s hw
   subst o17
   try dsimp only at h1
   refine hK15 _ (AI hw ?_)
   refine ci h1 U ?_ ?_ <;> clear h1
   ·intro b18 h1
    refine AB fun K19 hK19=>?_
    refine Cw 8 (by kernel_rfl) (by kernel_rfl) (by rfl) ?_
    iterate 5 refine yq tb rfl ?_
    refine bs h1 fun c20 gc20 h1=>yx Ke gc20 U U U ?_
    iterate 2 refine yq tb rfl ?_
    refine BP (A7 Aa Lf U U U U U U (show 0+1≤1 by decide) rfl (dn hK19 U ?_))
    replace h1:=Sh.AA h1
    subst o6
    try dsimp only[id] at h0
    replace h0:=Sh.AA h0
    subst r
    exact AH (Exists.intro _ (And.intro ((AN (L:=[(4,(i64 (Sh.w (t5+1)))),(5,(.ptr 0 0 0 0))]) (st':=[⟨0,155,1,[(D5 c20)]⟩]) (st1:=[⟨0,155,1,[(D5 c20)]⟩]) [0] U .nil (by decide) rfl U (.raw U U .nil) ⟨.rfl,.rfl,trivial⟩).trans (AM (L:=[(4,(i64 (Sh.w (t5+1)))),(5,(.ptr 0 0 0 0))]) ⟨.rfl,.rfl,trivial⟩)) (Fc (x:=.tmp 5) (off:=0) (cs:=(D5 c20)) (vs:=(D5 c20)) Lf U U U (show 0+1≤1 by decide) rfl _ U)))
   ·intro b18 h1
    refine AG (hK14 _ (AF U (zm tb 3 U (zl tb U U (zm tb 2 U (dn hK11 U (AF U (zm tb 2 U ?_))))))))
    exact AD (xi (Sh.w (c4 - (Sh.len c13.cons)),Sh.w (t5+1)) h1 (AN (L:=[(1,(i64 (Sh.w (c4 - (Sh.len c13.cons))))),(5,(.ptr 0 0 0 0)),(8,(ls Ad p0)),(9,(i64 (Sh.len p0))),(10,(i64 (Sh.w (t5+1))))]) (st':=[⟨0,155,1,[[.zc]]⟩]) (st1:=[⟨0,155,1,[[.zc]]⟩]) [0] U .nil (by decide) rfl U (.raw U U .nil) ⟨.rfl,.rfl,.rfl,.rfl,.rfl,trivial⟩))
  refine AF U (zm tb 3 U ?_)
  rcases Sh.AP h2 with ⟨b21,h2⟩ | ⟨b21,h2⟩
  ·exact zg tb b21 U (zg tb b21 U (zg tb b21 U (A5 (v:=(i64 (Sh.len c13.cons))) (A9 U U b21) rfl (BL SQ U) (zg tb b21 U (zt b21 U (AD (M17 (decide (c4 < (Sh.len c13.cons))) (Sh.AA h2).symm _ (AE U))))))))
  ·refine zs b21 U ?_
   iterate 4 refine zs b21 rfl ?_
   exact zf b21 U (AD (M17 false (Sh.AA h2).symm _ (AE U)))
 ·intro b10 h1
  exact Ac (M6 () (Sh.AA h1).symm _ (AE U))
theorem O2 {N:Nat} {p0:(List An)} {p1:Int} {r:(List Int)} (h0:HB N p0 p1=some r):AY Tryz.prog 142 [(ls Ad p0),(i64 p1)] [] (fun v st=>v=(ls eI r)∧st=[]):=by
 unfold HB at h0
 refine ai Tryz.func142 U U U U (zr tb U U (sr U fun K2 hK2=>zm tb 2 U (bs h0 fun q3 gq3 h0=>zc (v':=(.DX [(i64 q3.1),(.agg (D5 q3.2))])) bE (RA gq3) rfl U U (zm tb 3 U (BF (m:=0) Aa P5 U U (zq tb U (A7 Aa Lf U U U U U U (show 0+1≤1 by decide) rfl (dn hK2 U (zr tb U U ?_)))))))))
 replace h0:=Sh.AA h0
 subst r
 exact AH (xr (AR [(4,(ls eI q3.2.fields))] U))
theorem KB {N:Nat} {p0:CR} {p1:Ag} {r:Int×Int} (h0:Ay N p0 p1=some r):AY Tryz.prog 126 [(.agg (BI p0)),(.agg (AU p1))] [] (fun v st=>v=(.DX [(i64 r.1),(i64 r.2)])∧st=[]):=by
 unfold Ay at h0
 refine ai Tryz.func126 U U U U (sr U fun K1 hK1=>A8 (m:=0) Aa U U U U U (A8 (m:=1) Aa U U U U U (zm tb 2 U (dn hK1 U (zr tb U U (AB fun K3 hK3=>?_))))))
 obtain⟨o5,h1,h0⟩:=Sh.A1 h0
 have M5 :∀(n4:Int),o5=Sum.inr n4→∀s,Wk 0 s ⟨53,AS [(6,(i64 n4))],[]⟩→K3 s:=by
  intro n4 hq s hw
  subst o5
  try dsimp only at h0
  refine hK3 _ (AI hw (zr tb U U ?_))
  replace h0:=Sh.AA h0
  subst r
  exact AH (xr (AM (L:=[(4,(i64 n4)),(5,(i64 n4))]) ⟨.rfl,.rfl,trivial⟩))
 refine zr tb U U (AJ (AB fun K8 hK8=>bs h1 fun o10 h2 h1=>?_))
 have M10 :∀(t9:Bool),o10=t9→∀s,Wk 0 s ⟨53,AS [(2,(.ptr 0 0 0 0)),(3,(.ptr 1 0 0 0)),(6,(i64 1)),(8,(i64 p1.op)),(9,(.bool t9))],[⟨0,138,2,[(BI p0)]⟩,⟨0,132,6,[(AU p1)]⟩]⟩→K8 s:=by
  intro t9 hq s hw
  subst o10
  try dsimp only at h1
  refine hK8 _ (AI hw ?_)
  refine ci h1 U ?_ ?_ <;> clear h1
  ·intro b11 h1
   exact AF U (zq tb U (AD (M5 0 (Sh.AA h1).symm _ (AR _ U))))
  ·intro b11 h1
   refine AB fun K12 hK12=>bs h1 fun o14 h2 h1=>?_
   have M14 :∀(t13:Bool),o14=t13→∀s,Wk 0 s ⟨53,AS [(2,(.ptr 0 0 0 0)),(3,(.ptr 1 0 0 0)),(6,(i64 1)),(8,(i64 p1.op)),(12,(.bool t13))],[⟨0,138,2,[(BI p0)]⟩,⟨0,132,6,[(AU p1)]⟩]⟩→K12 s:=by
    intro t13 hq s hw
    subst o14
    try dsimp only at h1
    refine hK12 _ (AI hw ?_)
    refine ci h1 U ?_ ?_ <;> clear h1
    ·intro b15 h1
     exact AF U (zq tb U (AD (M5 2 (Sh.AA h1).symm _ (AR _ U))))
    ·intro b15 h1
     refine zr tb U U ?_
     refine ci h1 U ?_ ?_ <;> clear h1
     ·intro b17 h1
      exact AF U (zm tb 4 U (bs h1 fun q18 gq18 h1=>zc cY (O2 gq18) rfl U U (zl tb U U (zq tb U (AD (M5 (Sh.len q18) (Sh.AA h1).symm _ (AR _ U)))))))
     ·intro b17 h1
      refine AB fun K19 hK19=>bs h1 fun o21 h2 h1=>?_
      have M21 :∀(t20:Bool),o21=t20→∀s,Wk 0 s ⟨53,AS [(2,(.ptr 0 0 0 0)),(3,(.ptr 1 0 0 0)),(6,(i64 1)),(8,(i64 p1.op)),(26,(.bool t20))],[⟨0,138,2,[(BI p0)]⟩,⟨0,132,6,[(AU p1)]⟩]⟩→K19 s:=by
       intro t20 hq s hw
       subst o21
       try dsimp only at h1
       refine hK19 _ (AI hw ?_)
       refine ci h1 U ?_ ?_ <;> clear h1
       ·intro b22 h1
        exact AF U (zm tb 4 U (bs h1 fun c23 gc23 h1=>zx ML gc23 U U U (zm tb 2 U (zl tb U U (zq tb U (AD (M5 (Sh.len c23.params) (Sh.AA h1).symm _ (AR _ U))))))))
       ·intro b22 h1
        refine zr tb U U ?_
        refine ci h1 U ?_ ?_ <;> clear h1
        ·intro b25 h1
         exact AF U (zm tb 4 U (bs h1 fun c26 gc26 h1=>zx ML gc26 U U U (zm tb 2 U (zl tb U U (zm tb 2 U (AD (M5 (Sh.w ((Sh.len c26.params) - 1)) (Sh.AA h1).symm _ (AR _ U))))))))
        ·intro b25 h1
         refine AB fun K27 hK27=>bs h1 fun o29 h2 h1=>?_
         have M29 :∀(t28:Bool),o29=t28→∀s,Wk 0 s ⟨53,AS [(6,(i64 1)),(48,(.bool t28))],[]⟩→K27 s:=by
          intro t28 hq s hw
          subst o29
          try dsimp only at h1
          refine hK27 _ (AI hw ?_)
          refine ci h1 U ?_ ?_ <;> clear h1
          ·intro b30 h1
           refine zr tb U U ?_
           replace h1:=Sh.AA h1
           subst o5
           try dsimp only[id] at h0
           replace h0:=Sh.AA h0
           subst r
           exact AH (xr (AM (L:=[(4,(i64 1)),(5,(i64 4))]) ⟨.rfl,.rfl,trivial⟩))
          ·intro b30 h1
           exact AG (M5 1 (Sh.AA h1).symm _ (AE U))
         refine zr tb U U ?_
         refine ci h2 U ?_ ?_ <;> clear h2
         ·intro b33 h2
          exact AG (M29 true (Sh.AA h2).symm _ (by refine Wk.trans (AN (L:=[(6,(i64 1)),(48,(.bool (decide (p1.op=16))))]) (st':=[]) (st1:=[]) [] U .nil (by decide) rfl U .nil ⟨.rfl,.rfl,trivial⟩) ?_;exact AM (L:=[(6,(i64 1)),(48,(.bool true))]) ⟨.rfl,(.of (congrArg AV.bool b33)),trivial⟩))
         ·intro b33 h2
          exact AF U (zm tb 2 U (AD (M29 (decide (p1.op=17)) (Sh.AA h2).symm _ (AR _ U))))
      refine zr tb U U ?_
      refine ci h2 U ?_ ?_ <;> clear h2
      ·intro b35 h2
       exact AG (M21 true (Sh.AA h2).symm _ (AM (L:=[(2,(.ptr 0 0 0 0)),(3,(.ptr 1 0 0 0)),(6,(i64 1)),(8,(i64 p1.op)),(26,(.bool true))]) ⟨.rfl,.rfl,.rfl,.rfl,(.of (congrArg AV.bool b35)),trivial⟩))
      ·intro b35 h2
       exact AF U (zm tb 2 U (AD (M21 (decide (p1.op=24)) (Sh.AA h2).symm _ (AE U))))
   refine zr tb U U ?_
   refine ci h2 U ?_ ?_ <;> clear h2
   ·intro b37 h2
    exact AG (M14 true (Sh.AA h2).symm _ (AM (L:=[(2,(.ptr 0 0 0 0)),(3,(.ptr 1 0 0 0)),(6,(i64 1)),(8,(i64 p1.op)),(12,(.bool true))]) ⟨.rfl,.rfl,.rfl,.rfl,(.of (congrArg AV.bool b37)),trivial⟩))
   ·intro b37 h2
    refine zr tb U U ?_
    refine ci h2 U ?_ ?_ <;> clear h2
    ·intro b39 h2
     exact AG (M14 true (Sh.AA h2).symm _ (AM (L:=[(2,(.ptr 0 0 0 0)),(3,(.ptr 1 0 0 0)),(6,(i64 1)),(8,(i64 p1.op)),(12,(.bool true))]) ⟨.rfl,.rfl,.rfl,.rfl,(.of (congrArg AV.bool b39)),trivial⟩))
    ·intro b39 h2
     refine zr tb U U ?_
     refine ci h2 U ?_ ?_ <;> clear h2
     ·intro b41 h2
      exact AG (M14 true (Sh.AA h2).symm _ (AM (L:=[(2,(.ptr 0 0 0 0)),(3,(.ptr 1 0 0 0)),(6,(i64 1)),(8,(i64 p1.op)),(12,(.bool true))]) ⟨.rfl,.rfl,.rfl,.rfl,(.of (congrArg AV.bool b41)),trivial⟩))
     ·intro b41 h2
      refine zr tb U U ?_
      refine ci h2 U ?_ ?_ <;> clear h2
      ·intro b43 h2
       exact AG (M14 true (Sh.AA h2).symm _ (AM (L:=[(2,(.ptr 0 0 0 0)),(3,(.ptr 1 0 0 0)),(6,(i64 1)),(8,(i64 p1.op)),(12,(.bool true))]) ⟨.rfl,.rfl,.rfl,.rfl,(.of (congrArg AV.bool b43)),trivial⟩))
      ·intro b43 h2
       exact AF U (zm tb 2 U (AD (M14 (decide (p1.op=11)) (Sh.AA h2).symm _ (AE U))))
 refine zr tb U U ?_
 refine ci h2 U ?_ ?_ <;> clear h2
 ·intro b45 h2
  exact AG (M10 true (Sh.AA h2).symm _ (AM (L:=[(2,(.ptr 0 0 0 0)),(3,(.ptr 1 0 0 0)),(6,(i64 1)),(8,(i64 p1.op)),(9,(.bool true))]) ⟨.rfl,.rfl,.rfl,.rfl,(.of (congrArg AV.bool b45)),trivial⟩))
 ·intro b45 h2
  exact AF U (zm tb 2 U (AD (M10 (decide (p1.op=22)) (Sh.AA h2).symm _ (AE U))))
theorem I7 {N:Nat} {p0:CR} {p1:A0} {p2:Int} {p3:Ag} {r:Bool} (h0:CM N p0 p1 p2 p3=some r):AY Tryz.prog 94 [(.agg (BI p0)),(.agg (Az p1)),(i64 p2),(.agg (AU p3))] [] (fun v st=>v=(.bool r)∧st=[]):=by
 unfold CM at h0
 refine ai Tryz.func94 U U U U (sr U fun K1 hK1=>A8 (m:=0) Aa U U U U U (A8 (m:=1) Aa U U U U U (A8 (m:=2) Aa U U U U U (A8 (m:=3) Aa U U U U U (zq tb U (dn hK1 U (AB fun K2 hK2=>AB fun K3 hK3=>bs h0 fun o5 h1 h0=>?_)))))))
 have M5 :∀(t4:Bool),o5=t4→∀s,Wk 0 s ⟨140,AS [(4,(.ptr 0 0 0 0)),(5,(.ptr 1 0 0 0)),(6,(.ptr 2 0 0 0)),(7,(.ptr 3 0 0 0)),(41,(.bool t4))],[⟨0,138,2,[(BI p0)]⟩,⟨0,99,5,[(Az p1)]⟩,⟨0,3,1,[[(i64 p2)]]⟩,⟨0,132,6,[(AU p3)]⟩]⟩→K3 s:=by
  intro t4 hq s hw
  subst o5
  try dsimp only at h0
  refine hK3 _ (AI hw ?_)
  refine ci h0 U ?_ ?_ <;> clear h0
  ·intro b6 h0
   refine zr tb U U ?_
   replace h0:=Sh.AA h0
   subst r
   exact AH (xr (AR [(8,(.bool false))] U))
  ·intro b6 h0
   refine AG (hK2 _ (AB fun K8 hK8=>AB fun K9 hK9=>bs h0 fun o11 h1 h0=>?_))
   have M11 :∀(t10:Bool),o11=t10→∀s,Wk 0 s ⟨140,AS [(4,(.ptr 0 0 0 0)),(5,(.ptr 1 0 0 0)),(6,(.ptr 2 0 0 0)),(7,(.ptr 3 0 0 0)),(84,(.bool t10))],[⟨0,138,2,[(BI p0)]⟩,⟨0,99,5,[(Az p1)]⟩,⟨0,3,1,[[(i64 p2)]]⟩,⟨0,132,6,[(AU p3)]⟩]⟩→K9 s:=by
    intro t10 hq s hw
    subst o11
    try dsimp only at h0
    refine hK9 _ (AI hw ?_)
    refine ci h0 U ?_ ?_ <;> clear h0
    ·intro b12 h0
     refine zr tb U U ?_
     replace h0:=Sh.AA h0
     subst r
     exact AH (xr (AR [(8,(.bool false))] U))
    ·intro b12 h0
     refine AG (hK8 _ (AB fun K14 hK14=>sr U fun K15 hK15=>zm tb 2 U (zl tb U U (zq tb U (dn hK15 U ?_)))))
     obtain⟨o17,h1,h0⟩:=Sh.A1 h0
     have M17 :∀(_:Unit),o17=Sum.inr ()→∀s,Wk 0 s ⟨140,AS [(4,(.ptr 0 0 0 0)),(5,(.ptr 1 0 0 0)),(6,(.ptr 2 0 0 0)),(7,(.ptr 3 0 0 0))],[⟨0,138,2,[(BI p0)]⟩,⟨0,99,5,[(Az p1)]⟩,⟨0,3,1,[[(i64 p2)]]⟩,⟨0,132,6,[(AU p3)]⟩]⟩→K14 s:=by
      intro _ hq s hw
      subst o17
      try dsimp only at h0
      refine hK14 _ (AI hw (sr U fun K18 hK18=>zz (.fn 123 [(.ptr 2 0 0 0),(.ptr 1 0 0 0)]) (W4 U) rfl (BF (m:=4) Aa cG U U (A7 Aa bj U U U U U U (show 0+1≤1 by decide) rfl (dn hK18 U (AB fun K19 hK19=>AB fun K20 hK20=>bs h0 fun o22 h1 h0=>?_))))))
      have M22 :∀(t21:Bool),o22=t21→∀s,Wk 0 s ⟨140,AS [(4,(.ptr 0 0 0 0)),(7,(.ptr 3 0 0 0)),(11,(.ptr 4 0 0 0)),(116,(.bool t21))],[⟨0,138,2,[(BI p0)]⟩,⟨0,99,5,[(Az p1)]⟩,⟨0,3,1,[[(i64 p2)]]⟩,⟨0,132,6,[(AU p3)]⟩,⟨0,127,1,[[(.fn 123 [(.ptr 2 0 0 0),(.ptr 1 0 0 0)])]]⟩]⟩→K20 s:=by
       intro t21 hq s hw
       subst o22
       try dsimp only at h0
       refine hK20 _ (AI hw ?_)
       refine ci h0 U ?_ ?_ <;> clear h0
       ·intro b23 h0
        refine zr tb U U ?_
        replace h0:=Sh.AA h0
        subst r
        exact AH (xr (AR [(8,(.bool false))] U))
       ·intro b23 h0
        refine AG (hK19 _ (AB fun K25 hK25=>sr U fun K26 hK26=>zm tb 3 U (bs h0 fun q27 gq27 h0=>?_)))
        refine Mo (rowsP:=[⟨0,3,1,[[(i64 p2)]]⟩,⟨0,99,5,[(Az p1)]⟩]) (rows0:=[⟨0,3,1,[[(i64 p2)]]⟩,⟨0,99,5,[(Az p1)]⟩]) (rows1:=[⟨0,3,1,[[(i64 p2)]]⟩,⟨0,99,5,[(Az p1)]⟩]) (rows2:=[]) (rows1':=[⟨0,3,1,[[(i64 p2)]]⟩,⟨0,99,5,[(Az p1)]⟩]) (rows2':=[]) (st':=[⟨0,138,2,[(BI p0)]⟩,⟨0,99,5,[(Az p1)]⟩,⟨0,3,1,[[(i64 p2)]]⟩,⟨0,132,6,[(AU p3)]⟩,⟨0,127,1,[[(.fn 123 [(.ptr 2 0 0 0),(.ptr 1 0 0 0)])]]⟩]) (v':=(.bool q27)) [2,1] Aa bb (Jf gq27) rfl (by decide) rfl U (.raw U U (.raw U U .nil)) rfl U (.raw U U (.raw U U .nil)) .nil U U ?_
        refine zq tb U (dn hK26 U ?_)
        refine ci h0 U ?_ ?_ <;> clear h0
        ·intro b28 h0
         have b29:q27=false:=by simpa using b28
         refine zr tb U U ?_
         replace h0:=Sh.AA h0
         subst r
         exact AH (xr (AR [(8,(.bool false))] U))
        ·intro b28 h0
         have b31:q27=true:=by simpa using b28
         refine AG (hK25 _ (sr U fun K32 hK32=>zm tb 2 U (bs h0 fun q33 gq33 h0=>zc (v':=(.DX [(i64 q33.1),(i64 q33.2)])) br (KB gq33) rfl U U (zm tb 5 U (dn hK32 U (AB fun K34 hK34=>bs h0 fun o36 h1 h0=>?_))))))
         have M36 :∀(t35:Bool),o36=t35→∀s,Wk 0 s ⟨140,AS [(8,(.bool t35))],[]⟩→K34 s:=by
          intro t35 hq s hw
          subst o36
          try dsimp only at h0
          refine hK34 _ (AI hw ?_)
          replace h0:=Sh.AA h0
          subst r
          exact AH (xr (AM (L:=[(8,(.bool t35))]) ⟨.rfl,trivial⟩))
         refine AF U (zm tb 2 U (zl tb U U (zm tb 3 U ?_)))
         rcases Sh.AP h1 with ⟨b37,h1⟩ | ⟨b37,h1⟩
         ·exact zg tb b37 U (zg tb b37 U (A5 (v:=(i64 (Sh.len p3.args))) (A9 U U b37) rfl (BL EE U) (zg tb b37 U (zg tb b37 U (zt b37 U (zq tb U (AD (M36 (decide ((Sh.len p3.args)≤q33.2)) (Sh.AA h1).symm _ (AR _ U)))))))))
         ·refine zs b37 U ?_
          iterate 4 refine zs b37 rfl ?_
          exact zf b37 U (zq tb U (AD (M36 false (Sh.AA h1).symm _ (AR _ U))))
      refine AF U (zm tb 2 U (zl tb U U (zm tb 2 U ?_)))
      rcases Sh.AP h1 with ⟨b38,h1⟩ | ⟨b38,h1⟩
      ·refine zg tb b38 U (zg tb b38 U (zg tb b38 U (zt b38 U (zq tb U ?_))))
       rcases Sh.AP h1 with ⟨b39,h1⟩ | ⟨b39,h1⟩
       ·refine zs b39 U ?_
        iterate 3 refine zs b39 rfl ?_
        exact zt b39 U (AD (M22 true (Sh.AA h1).symm _ (AE U)))
       ·refine zg tb b39 U (zg tb b39 U (A5 (v:=(.fn 124 [(.ptr 4 0 0 0)])) (A9 U U b39) rfl (W4 U) (bs h1 fun q40 gq40 h1=>?_)))
        refine Mo (rowsP:=[⟨0,127,1,[[(.fn 123 [(.ptr 2 0 0 0),(.ptr 1 0 0 0)])]]⟩,⟨0,3,1,[[(i64 p2)]]⟩,⟨0,99,5,[(Az p1)]⟩]) (rows0:=[⟨0,127,1,[[(.fn 123 [(.ptr 1 0 0 0),(.ptr 2 0 0 0)])]]⟩,⟨0,3,1,[[(i64 p2)]]⟩,⟨0,99,5,[(Az p1)]⟩]) (rows1:=[⟨0,127,1,[[(.fn 123 [(.ptr 1 0 0 0),(.ptr 2 0 0 0)])]]⟩,⟨0,3,1,[[(i64 p2)]]⟩,⟨0,99,5,[(Az p1)]⟩]) (rows2:=[]) (rows1':=[⟨0,127,1,[[(.fn 123 [(.ptr 2 0 0 0),(.ptr 1 0 0 0)])]]⟩,⟨0,3,1,[[(i64 p2)]]⟩,⟨0,99,5,[(Az p1)]⟩]) (rows2':=[]) (st':=[⟨0,138,2,[(BI p0)]⟩,⟨0,99,5,[(Az p1)]⟩,⟨0,3,1,[[(i64 p2)]]⟩,⟨0,132,6,[(AU p3)]⟩,⟨0,127,1,[[(.fn 123 [(.ptr 2 0 0 0),(.ptr 1 0 0 0)])]]⟩]) (v':=(.bool q40)) [4,2,1] (A9 U U b39) YH (Fv gq40) rfl (by decide) rfl U (.raw U U (.raw U U (.raw U U .nil))) rfl U (.raw U U (.raw U U (.raw U U .nil))) .nil U U ?_
        exact zf b39 U (AD (M22 q40 (Sh.AA h1).symm _ (AE U)))
      ·refine zs b38 U (zs b38 U (zs b38 U (zf b38 U (zq tb U (zg tb U U (zg tb U U (A5 (v:=(.fn 124 [(.ptr 4 0 0 0)])) (A9 U U U) rfl (W4 U) (bs h1 fun q41 gq41 h1=>?_))))))))
       refine Mo (rowsP:=[⟨0,127,1,[[(.fn 123 [(.ptr 2 0 0 0),(.ptr 1 0 0 0)])]]⟩,⟨0,3,1,[[(i64 p2)]]⟩,⟨0,99,5,[(Az p1)]⟩]) (rows0:=[⟨0,127,1,[[(.fn 123 [(.ptr 1 0 0 0),(.ptr 2 0 0 0)])]]⟩,⟨0,3,1,[[(i64 p2)]]⟩,⟨0,99,5,[(Az p1)]⟩]) (rows1:=[⟨0,127,1,[[(.fn 123 [(.ptr 1 0 0 0),(.ptr 2 0 0 0)])]]⟩,⟨0,3,1,[[(i64 p2)]]⟩,⟨0,99,5,[(Az p1)]⟩]) (rows2:=[]) (rows1':=[⟨0,127,1,[[(.fn 123 [(.ptr 2 0 0 0),(.ptr 1 0 0 0)])]]⟩,⟨0,3,1,[[(i64 p2)]]⟩,⟨0,99,5,[(Az p1)]⟩]) (rows2':=[]) (st':=[⟨0,138,2,[(BI p0)]⟩,⟨0,99,5,[(Az p1)]⟩,⟨0,3,1,[[(i64 p2)]]⟩,⟨0,132,6,[(AU p3)]⟩,⟨0,127,1,[[(.fn 123 [(.ptr 2 0 0 0),(.ptr 1 0 0 0)])]]⟩]) (v':=(.bool q41)) [4,2,1] (A9 U U U) YH (Fv gq41) rfl (by decide) rfl U (.raw U U (.raw U U (.raw U U .nil))) rfl U (.raw U U (.raw U U (.raw U U .nil))) .nil U U ?_
       exact zf U U (AD (M22 q41 (Sh.AA h1).symm _ (AE U)))
     refine AJ (AX (σ:=Int) (fun n v=>BU p1 p3 n v=some o17) (fun t16=>⟨140,AS [(4,(.ptr 0 0 0 0)),(5,(.ptr 1 0 0 0)),(6,(.ptr 2 0 0 0)),(7,(.ptr 3 0 0 0)),(86,(ls eI p3.args)),(87,(i64 (Sh.len p3.args))),(88,(i64 t16))],[⟨0,138,2,[(BI p0)]⟩,⟨0,99,5,[(Az p1)]⟩,⟨0,3,1,[[(i64 p2)]]⟩,⟨0,132,6,[(AU p3)]⟩]⟩) N 0 h1 (AE U) (fun _ hv=>by rw[BU] at hv;cases hv) ?_)
     rintro n t16 h1
     try dsimp only at h1 ⊢
     rw[BU] at h1
     refine zr tb U U (AB fun K43 hK43=>?_)
     refine ci h1 U ?_ ?_ <;> clear h1
     ·intro b44 h1
      refine AG (hK43 _ (AB fun K45 hK45=>AJ (sr U fun K46 hK46=>bs h1 fun c47 gc47 h1=>zx A2 gc47 U U U (zm tb 2 U (dn hK46 U (AB fun K48 hK48=>bs h1 fun o50 h2 h1=>?_))))))
      have M50 :∀(t49:Bool),o50=t49→∀s,Wk 0 s ⟨140,AS [(4,(.ptr 0 0 0 0)),(5,(.ptr 1 0 0 0)),(6,(.ptr 2 0 0 0)),(7,(.ptr 3 0 0 0)),(86,(ls eI p3.args)),(87,(i64 (Sh.len p3.args))),(88,(i64 t16)),(99,(.bool t49))],[⟨0,138,2,[(BI p0)]⟩,⟨0,99,5,[(Az p1)]⟩,⟨0,3,1,[[(i64 p2)]]⟩,⟨0,132,6,[(AU p3)]⟩]⟩→K48 s:=by
       intro t49 hq s hw
       subst o50
       try dsimp only at h1
       refine hK48 _ (AI hw ?_)
       refine ci h1 U ?_ ?_ <;> clear h1
       ·intro b51 h1
        refine zr tb U U ?_
        replace h1:=Sh.AA h1
        subst o17
        try dsimp only[id] at h0
        replace h0:=Sh.AA h0
        subst r
        exact AH (xr (AR [(8,(.bool false))] U))
       ·intro b51 h1
        exact AG (hK45 _ (AF U (zm tb 2 U (AD (xi (Sh.w (t16+1)) h1 (AE U))))))
      refine AF U (zm tb 3 U ?_)
      rcases Sh.AP h2 with ⟨b53,h2⟩ | ⟨b53,h2⟩
      ·refine zs b53 U ?_
       iterate 3 refine zs b53 rfl ?_
       exact zt b53 U (AD (M50 true (Sh.AA h2).symm _ (AE U)))
      ·refine zg tb b53 U ?_
       iterate 3 refine zg tb b53 rfl ?_
       exact zf b53 U (AD (M50 (decide (p1.Ab≤c47)) (Sh.AA h2).symm _ (AE U)))
     ·intro b44 h1
      exact Ac (M17 () (Sh.AA h1).symm _ (AE U))
   refine AF U (zm tb 4 U ?_)
   rcases Sh.AP h1 with ⟨b54,h1⟩ | ⟨b54,h1⟩
   ·refine zs b54 U ?_
    iterate 4 refine zs b54 rfl ?_
    refine zt b54 U (zq tb U ?_)
    iterate 4 refine zs rfl rfl ?_
    iterate 4 refine zn rfl ?_
    refine zs U U (zt U U (zq tb U ?_))
    iterate 3 refine zs rfl rfl ?_
    refine zt U U (zq tb U ?_)
    iterate 5 refine zs rfl rfl ?_
    refine zt U U (zq tb U ?_)
    iterate 4 refine zs rfl rfl ?_
    iterate 3 refine zn rfl ?_
    exact zs U U (zt U U (AD (M11 true (Sh.AA h1).symm _ (AE U))))
   ·refine zg tb b54 U ?_
    iterate 4 refine zg tb b54 rfl ?_
    refine zf b54 U (zq tb U ?_)
    rcases Sh.AP h1 with ⟨b55,h1⟩ | ⟨b55,h1⟩
    ·refine zs b55 U ?_
     iterate 3 refine zs b55 rfl ?_
     iterate 4 refine zn rfl ?_
     refine zs b55 U (zt b55 U (zq tb U ?_))
     iterate 3 refine zs rfl rfl ?_
     refine zt U U (zq tb U ?_)
     iterate 5 refine zs rfl rfl ?_
     refine zt U U (zq tb U ?_)
     iterate 4 refine zs rfl rfl ?_
     iterate 3 refine zn rfl ?_
     exact zs U U (zt U U (AD (M11 true (Sh.AA h1).symm _ (AE U))))
    ·refine zg tb b55 U ?_
     iterate 3 refine zg tb b55 rfl ?_
     rcases Sh.AP h1 with ⟨b56,h1⟩ | ⟨b56,h1⟩
     ·refine zg tb b56 U (zg tb b56 U (bs h1 fun q57 gq57 h1=>zd b56 YS (Ix gq57) rfl U U U (zg tb b56 U (A5 (v:=(.bool (!q57))) (A9 U U b55) rfl (Br U b56 U) (zf b55 U (zq tb U ?_))))))
      rcases Sh.AP h1 with ⟨b58,h1⟩ | ⟨b58,h1⟩
      ·refine zs b58 U (zs b58 U (zs b58 U (zt b58 U (zq tb U ?_))))
       iterate 5 refine zs rfl rfl ?_
       refine zt U U (zq tb U ?_)
       iterate 4 refine zs rfl rfl ?_
       iterate 3 refine zn rfl ?_
       exact zs U U (zt U U (AD (M11 true (Sh.AA h1).symm _ (AE U))))
      ·refine zg tb b58 U (zg tb b58 U (zg tb b58 U (zf b58 U (zq tb U ?_))))
       rcases Sh.AP h1 with ⟨b59,h1⟩ | ⟨b59,h1⟩
       ·refine zs b59 U ?_
        iterate 4 refine zs b59 rfl ?_
        refine zt b59 U (zq tb U ?_)
        iterate 4 refine zs rfl rfl ?_
        iterate 3 refine zn rfl ?_
        exact zs U U (zt U U (AD (M11 true (Sh.AA h1).symm _ (AE U))))
       ·refine zg tb b59 U ?_
        iterate 4 refine zg tb b59 rfl ?_
        refine zf b59 U (zq tb U ?_)
        rcases Sh.AP h1 with ⟨b60,h1⟩ | ⟨b60,h1⟩
        ·refine zs b60 U ?_
         iterate 3 refine zs b60 rfl ?_
         iterate 3 refine zn rfl ?_
         exact zs b60 U (zt b60 U (AD (M11 true (Sh.AA h1).symm _ (AE U))))
        ·refine zg tb b60 U ?_
         iterate 3 refine zg tb b60 rfl ?_
         rcases Sh.AP h1 with ⟨b61,h1⟩ | ⟨b61,h1⟩
         ·exact zg tb b61 U (zg tb b61 U (zg tb b61 U (A5 (v:=(.bool (!decide (p3.op=6)))) (A9 U U b60) rfl (Br U b61 U) (zf b60 U (AD (M11 (!decide (p3.op=6)) (Sh.AA h1).symm _ (AE U)))))))
         ·exact zs b61 U (zs b61 U (zs b61 U (A5 (v:=(.bool false)) (A9 U U b60) rfl (CE U b61 U) (zf b60 U (AD (M11 false (Sh.AA h1).symm _ (AE U)))))))
     ·refine zs b56 U ?_
      iterate 3 refine zs b56 rfl ?_
      refine A5 (v:=(.bool false)) (A9 U U b55) rfl (CE U b56 U) (zf b55 U (zq tb U ?_))
      iterate 3 refine zg tb rfl rfl ?_
      refine zf U U (zq tb U ?_)
      rcases Sh.AP h1 with ⟨b62,h1⟩ | ⟨b62,h1⟩
      ·refine zs b62 U ?_
       iterate 4 refine zs b62 rfl ?_
       refine zt b62 U (zq tb U ?_)
       iterate 4 refine zs rfl rfl ?_
       iterate 3 refine zn rfl ?_
       exact zs U U (zt U U (AD (M11 true (Sh.AA h1).symm _ (AE U))))
      ·refine zg tb b62 U ?_
       iterate 4 refine zg tb b62 rfl ?_
       refine zf b62 U (zq tb U ?_)
       rcases Sh.AP h1 with ⟨b63,h1⟩ | ⟨b63,h1⟩
       ·refine zs b63 U ?_
        iterate 3 refine zs b63 rfl ?_
        iterate 3 refine zn rfl ?_
        exact zs b63 U (zt b63 U (AD (M11 true (Sh.AA h1).symm _ (AE U))))
       ·refine zg tb b63 U ?_
        iterate 3 refine zg tb b63 rfl ?_
        rcases Sh.AP h1 with ⟨b64,h1⟩ | ⟨b64,h1⟩
        ·exact zg tb b64 U (zg tb b64 U (zg tb b64 U (A5 (v:=(.bool (!decide (p3.op=6)))) (A9 U U b63) rfl (Br U b64 U) (zf b63 U (AD (M11 (!decide (p3.op=6)) (Sh.AA h1).symm _ (AE U)))))))
        ·exact zs b64 U (zs b64 U (zs b64 U (A5 (v:=(.bool false)) (A9 U U b63) rfl (CE U b64 U) (zf b63 U (AD (M11 false (Sh.AA h1).symm _ (AE U)))))))
 refine AF U (zm tb 4 U ?_)
 rcases Sh.AP h1 with ⟨b65,h1⟩ | ⟨b65,h1⟩
 ·refine zs b65 U (zs b65 U (zs b65 U (zt b65 U (zq tb U ?_))))
  iterate 3 refine zs rfl rfl ?_
  refine zt U U (zq tb U ?_)
  iterate 3 refine zs rfl rfl ?_
  refine zt U U (zq tb U ?_)
  iterate 3 refine zs rfl rfl ?_
  refine zt U U (zq tb U ?_)
  iterate 3 refine zs rfl rfl ?_
  exact zt U U (AD (M5 true (Sh.AA h1).symm _ (AE U)))
 ·refine zg tb b65 U (zg tb b65 U (zg tb b65 U (zf b65 U (zq tb U ?_))))
  rcases Sh.AP h1 with ⟨b66,h1⟩ | ⟨b66,h1⟩
  ·refine zs b66 U (zs b66 U (zs b66 U (zt b66 U (zq tb U ?_))))
   iterate 3 refine zs rfl rfl ?_
   refine zt U U (zq tb U ?_)
   iterate 3 refine zs rfl rfl ?_
   refine zt U U (zq tb U ?_)
   iterate 3 refine zs rfl rfl ?_
   exact zt U U (AD (M5 true (Sh.AA h1).symm _ (AE U)))
  ·refine zg tb b66 U (zg tb b66 U (zg tb b66 U (zf b66 U (zq tb U ?_))))
   rcases Sh.AP h1 with ⟨b67,h1⟩ | ⟨b67,h1⟩
   ·refine zs b67 U (zs b67 U (zs b67 U (zt b67 U (zq tb U ?_))))
    iterate 3 refine zs rfl rfl ?_
    refine zt U U (zq tb U ?_)
    iterate 3 refine zs rfl rfl ?_
    exact zt U U (AD (M5 true (Sh.AA h1).symm _ (AE U)))
   ·refine zg tb b67 U (zg tb b67 U (zg tb b67 U (zf b67 U (zq tb U ?_))))
    rcases Sh.AP h1 with ⟨b68,h1⟩ | ⟨b68,h1⟩
    ·refine zs b68 U (zs b68 U (zs b68 U (zt b68 U (zq tb U ?_))))
     iterate 3 refine zs rfl rfl ?_
     exact zt U U (AD (M5 true (Sh.AA h1).symm _ (AE U)))
    ·refine zg tb b68 U (zg tb b68 U (zg tb b68 U (zf b68 U (zq tb U ?_))))
     rcases Sh.AP h1 with ⟨b69,h1⟩ | ⟨b69,h1⟩
     ·exact zs b69 U (zs b69 U (zs b69 U (zt b69 U (AD (M5 true (Sh.AA h1).symm _ (AE U))))))
     ·exact zg tb b69 U (zg tb b69 U (zg tb b69 U (zf b69 U (AD (M5 (decide (p3.op=13)) (Sh.AA h1).symm _ (AE U))))))
theorem My {N:Nat} {p0:Au} {r:Bool} (h0:F5 N p0=some r):AY Tryz.prog 65 [(.agg (Ao p0))] [] (fun v st=>v=(.bool r)∧st=[]):=by
 unfold F5 at h0
 refine ai Tryz.func65 U U U U (sr U fun K1 hK1=>A8 (m:=0) Aa U U U U U (zq tb U (dn hK1 U (sr U fun K2 hK2=>zq tb U (bs h0 fun q3 gq3 h0=>zc (v':=(.DX [(.agg (BI q3.1)),(.bool q3.2)])) eU (OJ gq3) rfl U U (zm tb 3 U (BF (m:=1) Aa SD U U (A7 Aa QH U U U U U U (show 0+2≤2 by decide) rfl ?_))))))))
 refine zq tb U (dn hK2 U (AB fun K4 hK4=>zr tb U U ?_))
 refine ci h0 U ?_ ?_ <;> clear h0
 ·intro b6 h0
  have b7:q3.2=false:=by simpa using b6
  refine zr tb U U ?_
  replace h0:=Sh.AA h0
  subst r
  exact AH (xr (AR [(2,(.bool false))] U))
 ·intro b6 h0
  have b9:q3.2=true:=by simpa using b6
  refine AG (hK4 _ (AB fun K10 hK10=>sr U fun K11 hK11=>zm tb 2 U (zl tb U U (zq tb U (dn hK11 U ?_)))))
  obtain⟨o13,h1,h0⟩:=Sh.A1 h0
  have M13 :∀(_:Unit),o13=Sum.inr ()→∀s,Wk 0 s ⟨79,AS [],[]⟩→K10 s:=by
   intro _ hq s hw
   subst o13
   try dsimp only at h0
   refine hK10 _ (AI hw (zr tb U U ?_))
   replace h0:=Sh.AA h0
   subst r
   exact AH (xr (AM (L:=[(2,(.bool true))]) ⟨.rfl,trivial⟩))
  refine AJ (AX (σ:=Int) (fun n v=>CT N p0 q3 n v=some o13) (fun t12=>⟨79,AS [(3,(.ptr 0 0 0 0)),(18,(ls Az p0.procs)),(19,(i64 (Sh.len p0.procs))),(20,(i64 t12))],[⟨0,138,2,[(BI q3.1)]⟩]⟩) N 0 h1 (AN (L:=[(3,(.ptr 0 0 0 0)),(18,(ls Az p0.procs)),(19,(i64 (Sh.len p0.procs))),(20,(i64 0))]) (st':=[⟨0,138,2,[(BI q3.1)]⟩]) (st1:=[⟨0,138,2,[(BI q3.1)]⟩]) [1] U .nil (by decide) rfl U (.raw U U .nil) ⟨.rfl,.rfl,.rfl,.rfl,trivial⟩) (fun _ hv=>by rw[CT] at hv;cases hv) ?_)
  rintro n t12 h1
  try dsimp only at h1 ⊢
  rw[CT] at h1
  refine zr tb U U (AB fun K16 hK16=>?_)
  refine ci h1 U ?_ ?_ <;> clear h1
  ·intro b17 h1
   refine AG (hK16 _ (AB fun K18 hK18=>AJ (sr U fun K19 hK19=>bs h1 fun c20 gc20 h1=>zx IC gc20 U U U (zq tb U (BF (m:=1) Aa RF U U (A7 Aa QQ U U U U U U (show 0+5≤5 by decide) rfl (dn hK19 U (AB fun K21 hK21=>AB fun K22 hK22=>?_))))))))
   refine bs h1 fun o24 h2 h1=>?_
   have M24 :∀(t23:Bool),o24=t23→∀s,Wk 0 s ⟨79,AS [(3,(.ptr 0 0 0 0)),(6,(.ptr 1 0 0 0)),(18,(ls Az p0.procs)),(19,(i64 (Sh.len p0.procs))),(20,(i64 t12)),(47,(.bool t23))],[⟨0,138,2,[(BI q3.1)]⟩,⟨0,99,5,[(Az c20)]⟩]⟩→K22 s:=by
    intro t23 hq s hw
    subst o24
    try dsimp only at h1
    refine hK22 _ (AI hw ?_)
    refine ci h1 U ?_ ?_ <;> clear h1
    ·intro b25 h1
     refine zr tb U U ?_
     replace h1:=Sh.AA h1
     subst o13
     try dsimp only[id] at h0
     replace h0:=Sh.AA h0
     subst r
     exact AH (xr (AR [(2,(.bool false))] U))
    ·intro b25 h1
     refine AG (hK21 _ (AB fun K27 hK27=>sr U fun K28 hK28=>zm tb 4 U (zl tb U U (zq tb U (bs h1 fun c29 gc29 h1=>zx IB gc29 U U U (zm tb 3 U (dn hK28 U (AB fun K30 hK30=>bs h1 fun o32 h2 h1=>?_))))))))
     have M32 :∀(t31:Bool),o32=t31→∀s,Wk 0 s ⟨79,AS [(3,(.ptr 0 0 0 0)),(6,(.ptr 1 0 0 0)),(18,(ls Az p0.procs)),(19,(i64 (Sh.len p0.procs))),(20,(i64 t12)),(62,(.bool t31))],[⟨0,138,2,[(BI q3.1)]⟩,⟨0,99,5,[(Az c20)]⟩]⟩→K30 s:=by
      intro t31 hq s hw
      subst o32
      try dsimp only at h1
      refine hK30 _ (AI hw ?_)
      refine ci h1 U ?_ ?_ <;> clear h1
      ·intro b33 h1
       refine zr tb U U ?_
       replace h1:=Sh.AA h1
       subst o13
       try dsimp only[id] at h0
       replace h0:=Sh.AA h0
       subst r
       exact AH (xr (AR [(2,(.bool false))] U))
      ·intro b33 h1
       refine AG (hK27 _ (sr U fun K35 hK35=>zm tb 2 U (zl tb U U (zq tb U (dn hK35 U ?_)))))
       obtain⟨o37,h2,h1⟩:=Sh.A1 h1
       have M37 :∀(_:Unit),o37=Sum.inr ()→∀s,Wk 0 s ⟨79,AS [(3,(.ptr 0 0 0 0)),(18,(ls Az p0.procs)),(19,(i64 (Sh.len p0.procs))),(20,(i64 t12))],[⟨0,138,2,[(BI q3.1)]⟩]⟩→K18 s:=by
        intro _ hq s hw
        subst o37
        try dsimp only at h1
        exact hK18 _ (AI hw (AF U (zm tb 2 U (AD (xi (Sh.w (t12+1)) h1 (AE U))))))
       refine AJ (AX (σ:=Int) (fun n v=>C4 N c20 q3 n v=some o37) (fun t36=>⟨79,AS [(3,(.ptr 0 0 0 0)),(6,(.ptr 1 0 0 0)),(18,(ls Az p0.procs)),(19,(i64 (Sh.len p0.procs))),(20,(i64 t12)),(64,(ls AU c20.code)),(65,(i64 (Sh.len c20.code))),(66,(i64 t36))],[⟨0,138,2,[(BI q3.1)]⟩,⟨0,99,5,[(Az c20)]⟩]⟩) N 0 h2 (AE U) (fun _ hv=>by rw[C4] at hv;cases hv) ?_)
       rintro n t36 h2
       try dsimp only at h2 ⊢
       rw[C4] at h2
       refine zr tb U U (AB fun K39 hK39=>?_)
       refine ci h2 U ?_ ?_ <;> clear h2
       ·intro b40 h2
        refine AG (hK39 _ (AB fun K41 hK41=>AJ (sr U fun K42 hK42=>zq tb U (bs h2 fun c43 gc43 h2=>zx IB gc43 U U U (zq tb U (BF (m:=2) Aa PX U U (zq tb U (A7 Aa N3 U U U U U U (show 0+6≤6 by decide) rfl (dn hK42 U ?_)))))))))
        refine sr U fun K44 hK44=>zm tb 4 U (bs h2 fun q45 gq45 h2=>zc dm (I7 gq45) rfl U U (zq tb U (dn hK44 U ?_)))
        refine ci h2 U ?_ ?_ <;> clear h2
        ·intro b46 h2
         have b47:q45=false:=by simpa using b46
         refine zr tb U U ?_
         replace h2:=Sh.AA h2
         subst o37
         try dsimp only[id] at h1
         replace h1:=Sh.AA h1
         subst o13
         try dsimp only[id] at h0
         replace h0:=Sh.AA h0
         subst r
         exact AH (xr (AR [(2,(.bool false))] U))
        ·intro b46 h2
         have b49:q45=true:=by simpa using b46
         refine AG (hK41 _ (AF U (zm tb 2 U ?_)))
         exact AD (xi (Sh.w (t36+1)) h2 (AN (L:=[(3,(.ptr 0 0 0 0)),(6,(.ptr 1 0 0 0)),(18,(ls Az p0.procs)),(19,(i64 (Sh.len p0.procs))),(20,(i64 t12)),(64,(ls AU c20.code)),(65,(i64 (Sh.len c20.code))),(66,(i64 (Sh.w (t36+1))))]) (st':=[⟨0,138,2,[(BI q3.1)]⟩,⟨0,99,5,[(Az c20)]⟩]) (st1:=[⟨0,138,2,[(BI q3.1)]⟩,⟨0,99,5,[(Az c20)]⟩]) [0,1] U .nil (by decide) rfl U (.raw U U (.raw U U .nil)) ⟨.rfl,.rfl,.rfl,.rfl,.rfl,.rfl,.rfl,.rfl,trivial⟩))
       ·intro b40 h2
        exact Ac (M37 () (Sh.AA h2).symm _ (AN (L:=[(3,(.ptr 0 0 0 0)),(18,(ls Az p0.procs)),(19,(i64 (Sh.len p0.procs))),(20,(i64 t12))]) (st':=[⟨0,138,2,[(BI q3.1)]⟩]) (st1:=[⟨0,138,2,[(BI q3.1)]⟩]) [0] U .nil (by decide) rfl U (.raw U U .nil) ⟨.rfl,.rfl,.rfl,.rfl,trivial⟩))
     refine AF U (zm tb 3 U ?_)
     rcases Sh.AP h2 with ⟨b50,h2⟩ | ⟨b50,h2⟩
     ·exact zg tb b50 U (zg tb b50 U (zt b50 U (AD (M32 (!decide (c29.op=24)) (Sh.AA h2).symm _ (AE U)))))
     ·exact zs b50 U (zs b50 U (zf b50 U (AD (M32 false (Sh.AA h2).symm _ (AE U)))))
   refine AF U (zm tb 4 U (zl tb U U (zz (i64 (if (Sh.len c20.params) > 1 then (Sh.len c20.params) else 1)) (XS U U) rfl (zm tb 2 U ?_))))
   rcases Sh.AP h2 with ⟨b51,h2⟩ | ⟨b51,h2⟩
   ·refine zs b51 U (zs b51 U (zs b51 U (zt b51 U (zq tb U ?_))))
    iterate 4 refine zs rfl rfl ?_
    refine zt U U (zq tb U ?_)
    iterate 4 refine zs rfl rfl ?_
    exact zt U U (AD (M24 true (Sh.AA h2).symm _ (AE U)))
   ·refine zg tb b51 U (zg tb b51 U (zg tb b51 U (zf b51 U (zq tb U ?_))))
    rcases Sh.AP h2 with ⟨b52,h2⟩ | ⟨b52,h2⟩
    ·refine zs b52 U ?_
     iterate 3 refine zs b52 rfl ?_
     refine zt b52 U (zq tb U ?_)
     iterate 4 refine zs rfl rfl ?_
     exact zt U U (AD (M24 true (Sh.AA h2).symm _ (AE U)))
    ·refine zg tb b52 U (zg tb b52 U (A5 (v:=(i64 (Sh.len c20.code))) (A9 U U b52) rfl (BL QV U) (zg tb b52 U (zf b52 U (zq tb U ?_)))))
     rcases Sh.AP h2 with ⟨b53,h2⟩ | ⟨b53,h2⟩
     ·refine zs b53 U ?_
      iterate 3 refine zs b53 rfl ?_
      exact zt b53 U (AD (M24 true (Sh.AA h2).symm _ (AE U)))
     ·exact zg tb b53 U (zg tb b53 U (A5 (v:=(i64 (Sh.len c20.code))) (A9 U U b53) rfl (BL QV U) (zg tb b53 U (zf b53 U (AD (M24 (decide (2000 < (Sh.len c20.code))) (Sh.AA h2).symm _ (AE U)))))))
  ·intro b17 h1
   exact Ac (M13 () (Sh.AA h1).symm _ (AR _ U))
theorem Iw {p0:Int} {r:Bool} (h0:GK p0=some r):AY Tryz.prog 95 [(i64 p0)] [] (fun v st=>v=(.bool r)∧st=[]):=by
 unfold GK at h0
 refine ai Tryz.func95 U U U U (zr tb U U (AB fun K2 hK2=>bs h0 fun o4 h1 h0=>?_))
 have M4 :∀(t3:Bool),o4=t3→∀s,Wk 0 s ⟨9,AS [(2,(.bool t3))],[]⟩→K2 s:=by
  intro t3 hq s hw
  subst o4
  try dsimp only at h0
  refine hK2 _ (AI hw ?_)
  replace h0:=Sh.AA h0
  subst r
  exact AH (xr (AM (L:=[(2,(.bool t3))]) ⟨.rfl,trivial⟩))
 refine AF U (zm tb 3 U ?_)
 rcases Sh.AP h1 with ⟨b5,h1⟩ | ⟨b5,h1⟩
 ·exact zg tb b5 U (zg tb b5 U (zt b5 U (zq tb U (AD (M4 (decide (p0≤999)) (Sh.AA h1).symm _ (AE U))))))
 ·exact zs b5 U (zs b5 U (zf b5 U (zq tb U (AD (M4 false (Sh.AA h1).symm _ (AE U))))))
theorem GX {p0:(List Cell)} {p1:Int} {r:Int×Bool} (h0:FH p0 p1=some r):AY Tryz.prog 106 [(ls Aj p0),(i64 p1)] [] (fun v st=>v=(.DX [(i64 r.1),(.bool r.2)])∧st=[]):=by
 unfold FH at h0
 refine ai Tryz.func106 U U U U ?_
 iterate 2 refine zr tb rfl rfl ?_
 refine AB fun K3 hK3=>bs h0 fun o5 h1 h0=>?_
 have M5 :∀(t4:Bool),o5=t4→∀s,Wk 0 s ⟨26,AS [(4,(i64 (Sh.w (p1 - 1000)))),(5,(.bool t4))],[]⟩→K3 s:=by
  intro t4 hq s hw
  subst o5
  try dsimp only at h0
  refine hK3 _ (AI hw ?_)
  replace h0:=Sh.AA h0
  subst r
  exact AH (xr (AM (L:=[(4,(i64 (Sh.w (p1 - 1000)))),(5,(.bool t4))]) ⟨.rfl,.rfl,trivial⟩))
 refine B1 (by kernel_rfl) (by kernel_rfl) (by rfl) ?_
 iterate 4 refine yq tb rfl ?_
 rcases Sh.AP h1 with ⟨b6,h1⟩ | ⟨b6,h1⟩
 ·refine yg tb b6 U (yg tb b6 U (Dk (v:=(i64 (Sh.len p0))) (A9 U U b6) rfl (BL TZ U) (yg tb b6 U (yt b6 U (yq tb U ?_)))))
  rcases Sh.AP h1 with ⟨b7,h1⟩ | ⟨b7,h1⟩
  ·refine yg tb b7 U (yg tb b7 U (bs h1 fun c8 gc8 h1=>Dk (v:=(.Bi (Aj c8) 0)) (A9 U U b7) rfl (Bh FI U U gc8 U) ?_))
   iterate 3 refine yg tb b7 rfl ?_
   refine yt b7 U ?_
   iterate 2 refine yq tb rfl ?_
   exact BP (M5 (decide (0 < c8.count)) (Sh.AA h1).symm _ (AE U))
  ·refine ys b7 U ?_
   iterate 5 refine ys b7 rfl ?_
   refine yf b7 U ?_
   iterate 2 refine yq tb rfl ?_
   exact BP (M5 false (Sh.AA h1).symm _ (AE U))
 ·refine ys b6 U ?_
  iterate 3 refine ys b6 rfl ?_
  refine yf b6 U (yq tb U ?_)
  iterate 6 refine ys rfl rfl ?_
  refine yf U U ?_
  iterate 2 refine yq tb rfl ?_
  exact BP (M5 false (Sh.AA h1).symm _ (AE U))
theorem Nw {p0:(List Cell)} {p1:Int} {r:Bool} (h0:Gc p0 p1=some r):AY Tryz.prog 143 [(ls Aj p0),(i64 p1)] [] (fun v st=>v=(.bool r)∧st=[]):=by
 unfold Gc at h0
 refine ai Tryz.func143 U U U U (zr tb U U (sr U fun K2 hK2=>zm tb 2 U (bs h0 fun q3 gq3 h0=>zc (v':=(.DX [(i64 q3.1),(.bool q3.2)])) Rf (GX gq3) rfl U U (zm tb 5 U (dn hK2 U (AB fun K4 hK4=>bs h0 fun o6 h1 h0=>?_))))))
 have M6 :∀(t5:Bool),o6=t5→∀s,Wk 0 s ⟨18,AS [(4,(.bool t5))],[]⟩→K4 s:=by
  intro t5 hq s hw
  subst o6
  try dsimp only at h0
  refine hK4 _ (AI hw ?_)
  replace h0:=Sh.AA h0
  subst r
  exact AH (xr (AM (L:=[(4,(.bool t5))]) ⟨.rfl,trivial⟩))
 refine AF U (zm tb 2 U ?_)
 rcases Sh.AP h1 with ⟨b7,h1⟩ | ⟨b7,h1⟩
 ·exact zs b7 U (zs b7 U (zt b7 U (zq tb U (AD (M6 true (Sh.AA h1).symm _ (AE U))))))
 ·exact zg tb b7 U (bs h1 fun q8 gq8 h1=>zd b7 XK (Iw gq8) rfl U U U (zf b7 U (zq tb U (AD (M6 q8 (Sh.AA h1).symm _ (AE U))))))
theorem N5 {N:Nat} {p0:(List Cell)} {p1:Cell} {r:Bool} (h0:Gq N p0 p1=some r):AY Tryz.prog 127 [(ls Aj p0),(.agg (Aj p1))] [] (fun v st=>v=(.bool r)∧st=[]):=by
 unfold Gq at h0
 refine ai Tryz.func127 U U U U (sr U fun K1 hK1=>A8 (m:=0) Aa U U U U U (zq tb U (dn hK1 U (AB fun K2 hK2=>AB fun K3 hK3=>bs h0 fun o5 h1 h0=>?_))))
 have M5 :∀(t4:Bool),o5=t4→∀s,Wk 0 s ⟨66,AS [(0,(ls Aj p0)),(3,(.ptr 0 0 0 0)),(25,(.bool t4))],[⟨0,71,3,[(Aj p1)]⟩]⟩→K3 s:=by
  intro t4 hq s hw
  subst o5
  try dsimp only at h0
  refine hK3 _ (AI hw ?_)
  refine ci h0 U ?_ ?_ <;> clear h0
  ·intro b6 h0
   refine zr tb U U ?_
   replace h0:=Sh.AA h0
   subst r
   exact AH (xr (AR [(4,(.bool false))] U))
  ·intro b6 h0
   refine AG (hK2 _ (AB fun K8 hK8=>AB fun K9 hK9=>bs h0 fun o11 h1 h0=>?_))
   have M11 :∀(t10:Bool),o11=t10→∀s,Wk 0 s ⟨66,AS [(0,(ls Aj p0)),(3,(.ptr 0 0 0 0)),(44,(.bool t10))],[⟨0,71,3,[(Aj p1)]⟩]⟩→K9 s:=by
    intro t10 hq s hw
    subst o11
    try dsimp only at h0
    refine hK9 _ (AI hw ?_)
    refine ci h0 U ?_ ?_ <;> clear h0
    ·intro b12 h0
     refine zr tb U U ?_
     replace h0:=Sh.AA h0
     subst r
     exact AH (xr (AR [(4,(.bool false))] U))
    ·intro b12 h0
     refine AG (hK8 _ (AB fun K14 hK14=>sr U fun K15 hK15=>zm tb 2 U (zl tb U U (zq tb U (dn hK15 U ?_)))))
     obtain⟨o17,h1,h0⟩:=Sh.A1 h0
     have M17 :∀(_:Unit),o17=Sum.inr ()→∀s,Wk 0 s ⟨66,AS [],[]⟩→K14 s:=by
      intro _ hq s hw
      subst o17
      try dsimp only at h0
      refine hK14 _ (AI hw (zr tb U U ?_))
      replace h0:=Sh.AA h0
      subst r
      exact AH (xr (AM (L:=[(4,(.bool true))]) ⟨.rfl,trivial⟩))
     refine AJ (AX (σ:=Int) (fun n v=>Cq p0 p1 n v=some o17) (fun t16=>⟨66,AS [(0,(ls Aj p0)),(3,(.ptr 0 0 0 0)),(46,(ls eI p1.fields)),(47,(i64 (Sh.len p1.fields))),(48,(i64 t16))],[⟨0,71,3,[(Aj p1)]⟩]⟩) N 0 h1 (AE U) (fun _ hv=>by rw[Cq] at hv;cases hv) ?_)
     rintro n t16 h1
     try dsimp only at h1 ⊢
     rw[Cq] at h1
     refine zr tb U U (AB fun K20 hK20=>?_)
     refine ci h1 U ?_ ?_ <;> clear h1
     ·intro b21 h1
      refine AG (hK20 _ (AB fun K22 hK22=>AJ (sr U fun K23 hK23=>bs h1 fun c24 gc24 h1=>zx A2 gc24 U U U (zm tb 2 U (dn hK23 U (AB fun K25 hK25=>bs h1 fun o27 h2 h1=>?_))))))
      have M27 :∀(t26:Bool),o27=t26→∀s,Wk 0 s ⟨66,AS [(0,(ls Aj p0)),(3,(.ptr 0 0 0 0)),(46,(ls eI p1.fields)),(47,(i64 (Sh.len p1.fields))),(48,(i64 t16)),(64,(.bool t26))],[⟨0,71,3,[(Aj p1)]⟩]⟩→K25 s:=by
       intro t26 hq s hw
       subst o27
       try dsimp only at h1
       refine hK25 _ (AI hw ?_)
       refine ci h1 U ?_ ?_ <;> clear h1
       ·intro b28 h1
        refine zr tb U U ?_
        replace h1:=Sh.AA h1
        subst o17
        try dsimp only[id] at h0
        replace h0:=Sh.AA h0
        subst r
        exact AH (xr (AR [(4,(.bool false))] U))
       ·intro b28 h1
        exact AG (hK22 _ (AF U (zm tb 2 U (AD (xi (Sh.w (t16+1)) h1 (AE U))))))
      refine AF U (zm tb 2 U (bs h2 fun q30 gq30 h2=>zc cf (Nw gq30) rfl U U (zm tb 2 U ?_)))
      rcases Sh.AP h2 with ⟨b31,h2⟩ | ⟨b31,h2⟩
      ·refine zs b31 U ?_
       iterate 3 refine zs b31 rfl ?_
       iterate 2 refine zn rfl ?_
       exact zs b31 U (zt b31 U (AD (M27 true (Sh.AA h2).symm _ (AE U))))
      ·refine zg tb b31 U ?_
       iterate 3 refine zg tb b31 rfl ?_
       rcases Sh.AP h2 with ⟨b32,h2⟩ | ⟨b32,h2⟩
       ·exact zg tb b32 U (zg tb b32 U (A5 (v:=(.bool (!decide (c24=0)))) (A9 U U b31) rfl (Br U b32 U) (zf b31 U (AD (M27 (!decide (c24=0)) (Sh.AA h2).symm _ (AE U))))))
       ·exact zs b32 U (zs b32 U (A5 (v:=(.bool false)) (A9 U U b31) rfl (CE U b32 U) (zf b31 U (AD (M27 false (Sh.AA h2).symm _ (AE U))))))
     ·intro b21 h1
      exact Ac (M17 () (Sh.AA h1).symm _ (AR _ U))
   refine AF U (zm tb 4 U ?_)
   rcases Sh.AP h1 with ⟨b33,h1⟩ | ⟨b33,h1⟩
   ·refine zg tb b33 U (zg tb b33 U (zg tb b33 U (zt b33 U (zq tb U ?_))))
    rcases Sh.AP h1 with ⟨b34,h1⟩ | ⟨b34,h1⟩
    ·refine zs b34 U ?_
     iterate 3 refine zs b34 rfl ?_
     iterate 4 refine zn rfl ?_
     exact zs b34 U (zt b34 U (AD (M11 true (Sh.AA h1).symm _ (AE U))))
    ·refine zg tb b34 U ?_
     iterate 3 refine zg tb b34 rfl ?_
     rcases Sh.AP h1 with ⟨b35,h1⟩ | ⟨b35,h1⟩
     ·exact zg tb b35 U (zg tb b35 U (A5 (v:=(i64 (Sh.len p1.fields))) (A9 U U b35) rfl (BL EE U) (zg tb b35 U (A5 (v:=(.bool (decide (0 < (Sh.len p1.fields))))) (A9 U U b34) rfl (Br U b35 U) (zf b34 U (AD (M11 (decide (0 < (Sh.len p1.fields))) (Sh.AA h1).symm _ (AE U))))))))
     ·refine zs b35 U ?_
      iterate 3 refine zs b35 rfl ?_
      exact A5 (v:=(.bool false)) (A9 U U b34) rfl (CE U b35 U) (zf b34 U (AD (M11 false (Sh.AA h1).symm _ (AE U))))
   ·refine zs b33 U (zs b33 U (zs b33 U (zf b33 U (zq tb U ?_))))
    iterate 4 refine zg tb rfl rfl ?_
    rcases Sh.AP h1 with ⟨b36,h1⟩ | ⟨b36,h1⟩
    ·exact zg tb b36 U (zg tb b36 U (A5 (v:=(i64 (Sh.len p1.fields))) (A9 U U b36) rfl (BL EE U) (zg tb b36 U (A5 (v:=(.bool (decide (0 < (Sh.len p1.fields))))) (A9 U U U) rfl (Br U b36 U) (zf U U (AD (M11 (decide (0 < (Sh.len p1.fields))) (Sh.AA h1).symm _ (AE U))))))))
    ·refine zs b36 U ?_
     iterate 3 refine zs b36 rfl ?_
     exact A5 (v:=(.bool false)) (A9 U U U) rfl (CE U b36 U) (zf U U (AD (M11 false (Sh.AA h1).symm _ (AE U))))
 refine AF U (zm tb 4 U ?_)
 rcases Sh.AP h1 with ⟨b37,h1⟩ | ⟨b37,h1⟩
 ·refine zs b37 U (zs b37 U (zs b37 U (zt b37 U (zq tb U ?_))))
  iterate 3 refine zs rfl rfl ?_
  refine zt U U (zq tb U ?_)
  iterate 4 refine zs rfl rfl ?_
  exact zt U U (AD (M5 true (Sh.AA h1).symm _ (AE U)))
 ·refine zg tb b37 U (zg tb b37 U (zg tb b37 U (zf b37 U (zq tb U ?_))))
  rcases Sh.AP h1 with ⟨b38,h1⟩ | ⟨b38,h1⟩
  ·refine zs b38 U (zs b38 U (zs b38 U (zt b38 U (zq tb U ?_))))
   iterate 4 refine zs rfl rfl ?_
   exact zt U U (AD (M5 true (Sh.AA h1).symm _ (AE U)))
  ·refine zg tb b38 U (zg tb b38 U (zg tb b38 U (zf b38 U (zq tb U ?_))))
   rcases Sh.AP h1 with ⟨b39,h1⟩ | ⟨b39,h1⟩
   ·refine zs b39 U ?_
    iterate 3 refine zs b39 rfl ?_
    exact zt b39 U (AD (M5 true (Sh.AA h1).symm _ (AE U)))
   ·exact zg tb b39 U (zg tb b39 U (A5 (v:=(i64 (Sh.len p1.fields))) (A9 U U b39) rfl (BL EE U) (zg tb b39 U (zf b39 U (AD (M5 (decide (3 < (Sh.len p1.fields))) (Sh.AA h1).symm _ (AE U)))))))
theorem Ha {p0:(List Int)} {r:(List Int)} (h0:D2 p0=some r):AY Tryz.prog 105 [(ls eI p0)] [] (fun v st=>v=(ow 0 0 r)∧st=[(ro 0 3 1 eI r)]):=by
 unfold D2 at h0
 refine ai Tryz.func105 U U U U (zr tb U U (AB fun K2 hK2=>sr U fun K3 hK3=>zq tb U ?_))
 refine aC Aa EE U (fun hn=>?_) ?_
 ·subst hn
  replace h0:some []=some r:=by rw[← h0];first | rfl | simp[Sh.app]
  refine dn hK3 U (Mm (b:=true) rfl (fun _=>zr tb U U ?_) (fun q=>nomatch (show true=false from (U:true=true).symm.trans q)))
  replace h0:=Sh.AA h0
  subst r
  exact AH (Exists.intro _ (And.intro (((EM (t:=2) rfl 3 (size:=1) (by decide)).trans (AM (L:=[(2,(.own 0 0 (List.length ([]:List Int))))]) ⟨.rfl,trivial⟩)).trans (AM (L:=[(2,(.own 0 0 (List.length ([]:List Int))))]) ⟨.rfl,trivial⟩)) (And.intro U U)))
 ·refine dn hK3 U (Mm (b:=false) rfl (fun q=>nomatch (show false=true from (U:false=false).symm.trans q)) (fun _=>AG (hK2 _ (sr U fun K5 hK5=>?_))))
  refine DO (m:=0) (l:=([]:List Int)) (enc:=eI) Aa A2 (by decide) rfl U U U U U ?_
  refine zq tb U (bs h0 fun l6 gl6 h0=>Ex (l2:=p0) Aa A2 U U U U TW (fun _=>U) gl6 U (zq tb U (dn hK5 U ?_)))
  replace h0:=Sh.AA h0
  subst r
  exact AH (xr (Cf (L:=[(2,(ow 0 0 l6))]) (st':=[(ro 0 3 1 eI l6)]) (.pure (AL fun _=>U) .nil) ⟨.rfl,trivial⟩))
theorem JZ {N:Nat} {p0:(List Cell)} {r:(List Int)×Bool} (h0:Eg N p0=some r):AY Tryz.prog 96 [(ls Aj p0)] [] (fun v st=>v=(.DX [(ow 0 0 r.1),(.bool r.2)])∧st=[(ro 0 3 1 eI r.1)]):=by
 unfold Eg at h0
 refine ai Tryz.func96 U U U U (zr tb U U (sr U fun K2 hK2=>zq tb U (zl tb U U (bs h0 fun l3 gl3 h0=>GU (m:=0) (enc:=eI) (u:=0) Aa A2 U U U gl3 U U (zq tb U (dn hK2 U (AB fun K4 hK4=>sr U fun K5 hK5=>zq tb U ?_)))))))
 refine zl tb U U (zq tb U (dn hK5 U ?_))
 obtain⟨o9,h1,h0⟩:=Sh.A1 h0
 have M9 :∀(l8:(List Int)),o9=Sum.inr l8→∀s,Wk 0 s ⟨159,AS [(0,(ls Aj p0)),(4,(ow 0 0 l8))],[(ro 0 3 1 eI l8)]⟩→K4 s:=by
  intro l8 hq s hw
  subst o9
  try dsimp only at h0
  refine hK4 _ (AI hw (AB fun K10 hK10=>AB fun K11 hK11=>bs h0 fun o13 h1 h0=>?_))
  have M13 :∀(t12:Bool),o13=t12→∀s,Wk 0 s ⟨159,AS [(0,(ls Aj p0)),(4,(ow 0 0 l8)),(68,(.bool t12))],[(ro 0 3 1 eI l8)]⟩→K11 s:=by
   intro t12 hq s hw
   subst o13
   try dsimp only at h0
   refine hK11 _ (AI hw ?_)
   refine ci h0 U ?_ ?_ <;> clear h0
   ·intro b14 h0
    refine zr tb U U ?_
    replace h0:=Sh.AA h0
    subst r
    exact AH (Exists.intro _ (And.intro ((((EM (t:=2) rfl 3 (size:=1) (by decide)).trans (AM (L:=[(2,(.own 1 0 (List.length ([]:List Int)))),(3,(.bool false))]) ⟨.rfl,.rfl,trivial⟩)).trans (AN (L:=[(2,(.own 0 0 (List.length ([]:List Int)))),(3,(.bool false))]) (st':=[(ro 0 3 1 eI ([]:List Int))]) (st1:=[(ro 0 3 1 eI ([]:List Int))]) [1] U .nil (by decide) rfl U (.pure (AL fun _=>U) .nil) ⟨.rfl,.rfl,trivial⟩)).trans (AM (L:=[(2,(.own 0 0 (List.length ([]:List Int)))),(3,(.bool false))]) ⟨.rfl,.rfl,trivial⟩)) (And.intro U U)))
   ·intro b14 h0
    refine AG (hK10 _ (sr U fun K16 hK16=>zq tb U (bs h0 fun q17 gq17 h0=>JG (v':=(ow 1 0 q17)) Aa ZG (Ha gq17) rfl (.own U U (fun _=>U) .nil) rfl (ah (fun _=>U) trivial) rfl U (zq tb U (dn hK16 U ?_)))))
    iterate 2 refine zr tb rfl rfl ?_
    refine AB fun K20 hK20=>sr U fun K21 hK21=>zq tb U (zl tb U U (zq tb U (dn hK21 U ?_)))
    obtain⟨o25,h1,h0⟩:=Sh.A1 h0
    have M25 :∀(l24:(List Int)),o25=Sum.inr l24→∀s,Wk 0 s ⟨159,AS [(0,(ls Aj p0)),(4,(ow 0 0 l8)),(11,(ow 1 0 q17)),(12,(ow 2 0 l24)),(13,(i64 0))],[(ro 0 3 1 eI l8),(ro 0 3 1 eI q17),(ro 0 3 1 eI l24)]⟩→K20 s:=by
     intro l24 hq s hw
     subst o25
     try dsimp only at h0
     refine hK20 _ (AI hw (AB fun K26 hK26=>bs h0 fun o31 h1 h0=>?_))
     have M31 :∀(many30:Int),o31=many30→∀s,Wk 0 s ⟨159,AS [(0,(ls Aj p0)),(4,(ow 0 0 l8)),(13,(i64 many30))],[(ro 0 3 1 eI l8)]⟩→K26 s:=by
      intro many30 hq s hw
      subst o31
      try dsimp only at h0
      refine hK26 _ (AI hw (sr U fun K32 hK32=>zm tb 3 U (zl tb U U (zm tb 3 U (dn hK32 U ?_)))))
      replace h0:=Sh.AA h0
      subst r
      exact AH (xr (AM (L:=[(2,(ow 0 0 l8)),(3,(.bool (decide (many30=(Sh.len p0)))))]) ⟨.rfl,.rfl,trivial⟩))
     refine AJ (AX (σ:=Int×(List Int)×(List Int)) (fun n v=>CD N p0 n v.1 v.2.1 v.2.2=some o31) (fun (many27,l28,l29)=>⟨159,AS [(0,(ls Aj p0)),(4,(ow 0 0 l8)),(11,(ow 1 0 l28)),(12,(ow 2 0 l29)),(13,(i64 many27))],[(ro 0 3 1 eI l8),(ro 0 3 1 eI l28),(ro 0 3 1 eI l29)]⟩) N (0,q17,l24) h1 (AE U) (fun _ hv=>by rw[CD] at hv;cases hv) ?_)
     rintro n ⟨many27,l28,l29⟩ h1
     try dsimp only at h1 ⊢
     rw[CD] at h1
     refine AB fun K33 hK33=>sr U fun K34 hK34=>zq tb U (zz (i64 (Sh.len l29)) (Dj EE U U U) rfl (zq tb U (dn hK34 U ?_)))
     refine ci h1 U ?_ ?_ <;> clear h1
     ·intro b35 h1
      refine AG (hK33 _ (AB fun K36 hK36=>AJ (sr U fun K37 hK37=>zm tb 3 U (zz (i64 (Sh.len l29)) (Dj EE U U U) rfl (zq tb U (bs h1 fun c38 gc38 h1=>zz (.ptr 2 0 (Int.toNat (Sh.w ((Sh.len l29) - 1))) 0) (BD A2 U U U U gc38) rfl (zz (i64 c38) (Bf EF U U (Bp gc38) rfl) rfl (bs h1 fun c39 gc39 h1=>zx FI gc39 U U U ?_))))))))
      refine zq tb U (BF (m:=3) Aa SW U U (A7 Aa QY U U U U U U (show 0+3≤3 by decide) rfl (dn hK37 U (sr U fun K40 hK40=>zm tb 2 U (zz (i64 (Sh.len l29)) (Dj EE U U U) rfl (zq tb U (bs h1 fun l41 gl41 h1=>Ud Aa A2 U U U U gl41 U (zq tb U (dn hK40 U ?_)))))))))
      refine sr U fun K42 hK42=>zm tb 2 U (zl tb U U (zq tb U (dn hK42 U (bs h1 fun o48 h2 h1=>?_))))
      have M48 :∀(l46:(List Int)) (l47:(List Int)),o48=(l46,l47)→∀s,Wk 0 s ⟨159,AS [(0,(ls Aj p0)),(4,(ow 0 0 l8)),(11,(ow 1 0 l46)),(12,(ow 2 0 l47)),(13,(i64 many27))],[(ro 0 3 1 eI l8),(ro 0 3 1 eI l46),(ro 0 3 1 eI l47)]⟩→K36 s:=by
       intro l46 l47 hq s hw
       subst o48
       try dsimp only at h1
       exact hK36 _ (AI hw (AF U (zm tb 3 U (AD (xi (Sh.w (many27+1),l46,l47) h1 (AE U))))))
      refine AJ (AX (σ:=Int×(List Int)×(List Int)) (fun n v=>CH c39 p0 n v.1 v.2.1 v.2.2=some o48) (fun (t43,l44,l45)=>⟨159,AS [(0,(ls Aj p0)),(4,(ow 0 0 l8)),(11,(ow 1 0 l44)),(12,(ow 2 0 l45)),(13,(i64 many27)),(125,(ls eI c39.fields)),(126,(i64 (Sh.len c39.fields))),(127,(i64 t43))],[(ro 0 3 1 eI l8),(ro 0 3 1 eI l44),(ro 0 3 1 eI l45)]⟩) N (0,l28,l41) h2 (by refine Wk.trans (Cf (L:=[(0,(ls Aj p0)),(4,(ow 0 0 l8)),(11,(ow 1 0 l28)),(12,(ow 2 0 l41)),(13,(i64 many27)),(125,(ls eI c39.fields)),(126,(i64 (Sh.len c39.fields))),(127,(i64 0))]) (st':=[(ro 0 3 1 eI l8),(ro 0 3 1 eI l28),(ro 0 3 1 eI l41),⟨0,71,3,[(Aj c39)]⟩]) (.pure (AL fun _=>U) (.pure (AL fun _=>U) (.pure (AL fun _=>U) (.raw U U .nil)))) ⟨.rfl,.rfl,.rfl,.rfl,.rfl,.rfl,.rfl,.rfl,trivial⟩) ?_;exact AN (L:=[(0,(ls Aj p0)),(4,(ow 0 0 l8)),(11,(ow 1 0 l28)),(12,(ow 2 0 l41)),(13,(i64 many27)),(125,(ls eI c39.fields)),(126,(i64 (Sh.len c39.fields))),(127,(i64 0))]) (st':=[(ro 0 3 1 eI l8),(ro 0 3 1 eI l28),(ro 0 3 1 eI l41)]) (st1:=[(ro 0 3 1 eI l8),(ro 0 3 1 eI l28),(ro 0 3 1 eI l41)]) [0,1,2] U .nil (by decide) rfl U (.pure (AL fun _=>U) (.pure (AL fun _=>U) (.pure (AL fun _=>U) .nil))) ⟨.rfl,.rfl,.rfl,.rfl,.rfl,.rfl,.rfl,.rfl,trivial⟩) (fun _ hv=>by rw[CH] at hv;cases hv) ?_)
      rintro n ⟨t43,l44,l45⟩ h2
      try dsimp only at h2 ⊢
      rw[CH] at h2
      refine zr tb U U (AB fun K50 hK50=>?_)
      refine ci h2 U ?_ ?_ <;> clear h2
      ·intro b51 h2
       refine AG (hK50 _ (AB fun K52 hK52=>bs h2 fun o55 h3 h2=>?_))
       have M55 :∀(l53:(List Int)) (l54:(List Int)),o55=(l53,l54)→∀s,Wk 0 s ⟨159,AS [(0,(ls Aj p0)),(4,(ow 0 0 l8)),(11,(ow 1 0 l53)),(12,(ow 2 0 l54)),(13,(i64 many27)),(125,(ls eI c39.fields)),(126,(i64 (Sh.len c39.fields))),(127,(i64 t43))],[(ro 0 3 1 eI l8),(ro 0 3 1 eI l53),(ro 0 3 1 eI l54)]⟩→K52 s:=by
        intro l53 l54 hq s hw
        subst o55
        try dsimp only at h2
        exact hK52 _ (AI hw (AF U (zm tb 2 U (AD (xi (Sh.w (t43+1),l53,l54) h2 (AE U))))))
       refine AJ (sr U fun K56 hK56=>bs h3 fun c57 gc57 h3=>zx A2 gc57 U U U (zm tb 2 U (dn hK56 U (sr U fun K58 hK58=>zm tb 2 U (bs h3 fun q59 gq59 h3=>zc (v':=(.DX [(i64 q59.1),(.bool q59.2)])) Rf (GX gq59) rfl U U (zm tb 5 U (dn hK58 U ?_)))))))
       refine zr tb U U ?_
       refine ci h3 U ?_ ?_ <;> clear h3
       ·intro b61 h3
        refine sr U fun K62 hK62=>zm tb 2 U (bs h3 fun c63 gc63 h3=>zz (.ptr 1 0 (Int.toNat q59.1) 0) (BD A2 U U U U gc63) rfl (zz (i64 c63) (Bf EF U U (Bp gc63) rfl) rfl (zq tb U (zz (.ptr 1 0 (Int.toNat q59.1) 0) (BD A2 U U U U gc63) rfl (Cz (u':=Sh.w (c63 - 1)) Aa EF U U gc63 U U U (show 0+1≤1 by decide) rfl U (dn hK62 U (sr U fun K64 hK64=>zm tb 2 U (bs h3 fun c65 gc65 h3=>?_))))))))
        refine zz (.ptr 1 0 (Int.toNat q59.1) 0) (BD A2 U U U (by simp only[Sh.Af]) gc65) rfl ?_
        refine zz (i64 c65) (Bf EF U U (Bp gc65) rfl) rfl (zq tb U (dn hK64 U ?_))
        refine ci h3 U ?_ ?_ <;> clear h3
        ·intro b66 h3
         refine AF U (zm tb 2 U ?_)
         refine DO (m:=3) (l:=[q59.1]) (enc:=eI) Aa A2 (by decide) rfl U U U U U ?_
         refine bs h3 fun l67 gl67 h3=>Ex (l2:=[q59.1]) Aa A2 U U U U (J0 U U) (fun _=>U) gl67 U (zq tb U ?_)
         exact AD (M55 (Sh.put l44 q59.1 (Sh.w (c63 - 1))) l67 (Sh.AA h3).symm _ (by refine Wk.trans (Cf (L:=[(0,(.sl (List.map Aj p0))),(4,(.own 0 0 (List.length l8))),(11,(.own 1 0 (List.length l44))),(12,(.own 2 0 (List.length l67))),(13,(i64 many27)),(125,(.sl (List.map eI c39.fields))),(126,(i64 (Sh.len c39.fields))),(127,(i64 t43))]) (st':=[⟨0,3,1,List.map eI l8⟩,⟨0,3,1,List.map eI (Sh.put l44 q59.1 (Sh.w (c63 - 1)))⟩,⟨0,3,1,List.map eI l67⟩,⟨0,3,1,List.map eI [q59.1]⟩]) (.pure (AL fun _=>U) (.pure (AL fun _=>U) (.pure (AL fun _=>U) (.pure (AL fun _=>U) .nil)))) ⟨.rfl,.rfl,.rfl,.rfl,.rfl,.rfl,.rfl,.rfl,trivial⟩) ?_;refine Wk.trans (AN (L:=[(0,(.sl (List.map Aj p0))),(4,(.own 0 0 (List.length l8))),(11,(.own 1 0 (List.length l44))),(12,(.own 2 0 (List.length l67))),(13,(i64 many27)),(125,(.sl (List.map eI c39.fields))),(126,(i64 (Sh.len c39.fields))),(127,(i64 t43))]) (st':=[⟨0,3,1,List.map eI l8⟩,⟨0,3,1,List.map eI (Sh.put l44 q59.1 (Sh.w (c63 - 1)))⟩,⟨0,3,1,List.map eI l67⟩]) (st1:=[⟨0,3,1,List.map eI l8⟩,⟨0,3,1,List.map eI (Sh.put l44 q59.1 (Sh.w (c63 - 1)))⟩,⟨0,3,1,List.map eI l67⟩]) [0,1,2] U .nil (by decide) rfl U (.pure (AL fun _=>U) (.pure (AL fun _=>U) (.pure (AL fun _=>U) .nil))) ⟨.rfl,.rfl,.rfl,.rfl,.rfl,.rfl,.rfl,.rfl,trivial⟩) ?_;exact AM (L:=[(0,(.sl (List.map Aj p0))),(4,(.own 0 0 (List.length l8))),(11,(.own 1 0 (List.length (Sh.put l44 q59.1 (Sh.w (c63 - 1)))))),(12,(.own 2 0 (List.length l67))),(13,(i64 many27)),(125,(.sl (List.map eI c39.fields))),(126,(i64 (Sh.len c39.fields))),(127,(i64 t43))]) ⟨.rfl,.rfl,(.len (by simp only[Sh.Af])),.rfl,.rfl,.rfl,.rfl,.rfl,trivial⟩))
        ·intro b66 h3
         exact AG (M55 (Sh.put l44 q59.1 (Sh.w (c63 - 1))) l45 (Sh.AA h3).symm _ (AM (L:=[(0,(.sl (List.map Aj p0))),(4,(.own 0 0 (List.length l8))),(11,(.own 1 0 (List.length (Sh.put l44 q59.1 (Sh.w (c63 - 1)))))),(12,(.own 2 0 (List.length l45))),(13,(i64 many27)),(125,(.sl (List.map eI c39.fields))),(126,(i64 (Sh.len c39.fields))),(127,(i64 t43))]) ⟨.rfl,.rfl,(.len (by simp only[Sh.Af])),.rfl,.rfl,.rfl,.rfl,.rfl,trivial⟩))
       ·intro b61 h3
        exact AG (M55 l44 l45 (Sh.AA h3).symm _ (AE U))
      ·intro b51 h2
       exact Ac (M48 l44 l45 (Sh.AA h2).symm _ (AE U))
     ·intro b35 h1
      exact Ac (M31 many27 (Sh.AA h1).symm _ (AN (L:=[(0,(ls Aj p0)),(4,(ow 0 0 l8)),(13,(i64 many27))]) (st':=[(ro 0 3 1 eI l8)]) (st1:=[(ro 0 3 1 eI l8)]) [0] U .nil (by decide) rfl U (.pure (AL fun _=>U) .nil) ⟨.rfl,.rfl,.rfl,trivial⟩))
    refine AJ (AX (σ:=Int×(List Int)) (fun n v=>B8 l8 p0 n v.1 v.2=some o25) (fun (t22,l23)=>⟨159,AS [(0,(ls Aj p0)),(4,(ow 0 0 l8)),(11,(ow 1 0 q17)),(12,(ow 2 0 l23)),(13,(i64 0)),(71,(ls Aj p0)),(72,(i64 (Sh.len p0))),(73,(i64 t22))],[(ro 0 3 1 eI l8),(ro 0 3 1 eI q17),(ro 0 3 1 eI l23)]⟩) N (0,[]) h1 ((EM (t:=12) rfl 3 (size:=1) (by decide)).trans (AM (L:=[(0,(ls Aj p0)),(4,(ow 0 0 l8)),(11,(ow 1 0 q17)),(12,(.own 2 0 (List.length ([]:List Int)))),(13,(i64 0)),(71,(ls Aj p0)),(72,(i64 (Sh.len p0))),(73,(i64 0))]) ⟨.rfl,.rfl,.rfl,.rfl,.rfl,.rfl,.rfl,.rfl,trivial⟩)) (fun _ hv=>by rw[B8] at hv;cases hv) ?_)
    rintro n ⟨t22,l23⟩ h1
    try dsimp only at h1 ⊢
    rw[B8] at h1
    refine zr tb U U (AB fun K69 hK69=>?_)
    refine ci h1 U ?_ ?_ <;> clear h1
    ·intro b70 h1
     refine AG (hK69 _ (AB fun K71 hK71=>?_))
     obtain⟨o73,h2,h1⟩:=Sh.A1 h1
     have M73 :∀(l72:(List Int)),o73=Sum.inr l72→∀s,Wk 0 s ⟨159,AS [(0,(ls Aj p0)),(4,(ow 0 0 l8)),(11,(ow 1 0 q17)),(12,(ow 2 0 l72)),(13,(i64 0)),(71,(ls Aj p0)),(72,(i64 (Sh.len p0))),(73,(i64 t22))],[(ro 0 3 1 eI l8),(ro 0 3 1 eI q17),(ro 0 3 1 eI l72)]⟩→K71 s:=by
      intro l72 hq s hw
      subst o73
      try dsimp only at h1
      exact hK71 _ (AI hw (AF U (zm tb 2 U (AD (xi (Sh.w (t22+1),l72) h1 (AE U))))))
     refine AJ (sr U fun K74 hK74=>zq tb U (bs h2 fun c75 gc75 h2=>zx FI gc75 U U U (zq tb U (BF (m:=3) Aa SW U U (zq tb U (A7 Aa QY U U U U U U (show 0+3≤3 by decide) rfl (dn hK74 U (AB fun K76 hK76=>AB fun K77 hK77=>?_))))))))
     refine bs h2 fun o79 h3 h2=>?_
     have M79 :∀(t78:Bool),o79=t78→∀s,Wk 0 s ⟨159,AS [(0,(ls Aj p0)),(4,(ow 0 0 l8)),(11,(ow 1 0 q17)),(12,(ow 2 0 l23)),(13,(i64 0)),(14,(i64 t22)),(71,(ls Aj p0)),(72,(i64 (Sh.len p0))),(73,(i64 t22)),(94,(.bool t78))],[(ro 0 3 1 eI l8),(ro 0 3 1 eI q17),(ro 0 3 1 eI l23)]⟩→K77 s:=by
      intro t78 hq s hw
      subst o79
      try dsimp only at h2
      refine hK77 _ (AI hw ?_)
      refine ci h2 U ?_ ?_ <;> clear h2
      ·intro b80 h2
       refine zr tb U U ?_
       replace h2:=Sh.AA h2
       subst o73
       try dsimp only[id] at h1
       replace h1:=Sh.AA h1
       subst o25
       try dsimp only[id] at h0
       replace h0:=Sh.AA h0
       subst r
       exact AH (Exists.intro _ (And.intro ((((EM (t:=2) rfl 3 (size:=1) (by decide)).trans (AM (L:=[(2,(.own 3 0 (List.length ([]:List Int)))),(3,(.bool false))]) ⟨.rfl,.rfl,trivial⟩)).trans (AN (L:=[(2,(.own 0 0 (List.length ([]:List Int)))),(3,(.bool false))]) (st':=[(ro 0 3 1 eI ([]:List Int))]) (st1:=[(ro 0 3 1 eI ([]:List Int))]) [3] U .nil (by decide) rfl U (.pure (AL fun _=>U) .nil) ⟨.rfl,.rfl,trivial⟩)).trans (AM (L:=[(2,(.own 0 0 (List.length ([]:List Int)))),(3,(.bool false))]) ⟨.rfl,.rfl,trivial⟩)) (And.intro U U)))
      ·intro b80 h2
       refine AG (hK76 _ (sr U fun K82 hK82=>zm tb 2 U (bs h2 fun c83 gc83 h2=>zz (.ptr 0 0 (Int.toNat t22) 0) (BD A2 U U U U gc83) rfl (zz (i64 c83) (Bf EF U U (Bp gc83) rfl) rfl (zq tb U (dn hK82 U ?_))))))
       refine ci h2 U ?_ ?_ <;> clear h2
       ·intro b84 h2
        refine AF U (zm tb 2 U ?_)
        refine DO (m:=3) (l:=[t22]) (enc:=eI) Aa A2 (by decide) rfl U U U U U ?_
        refine bs h2 fun l85 gl85 h2=>Ex (l2:=[t22]) Aa A2 U U U U (J0 U U) (fun _=>U) gl85 U (zq tb U ?_)
        exact AD (M73 l85 (Sh.AA h2).symm _ (by refine Wk.trans (Cf (L:=[(0,(ls Aj p0)),(4,(ow 0 0 l8)),(11,(ow 1 0 q17)),(12,(ow 2 0 l85)),(13,(i64 0)),(71,(ls Aj p0)),(72,(i64 (Sh.len p0))),(73,(i64 t22))]) (st':=[(ro 0 3 1 eI l8),(ro 0 3 1 eI q17),(ro 0 3 1 eI l85),(ro 0 3 1 eI [t22])]) (.pure (AL fun _=>U) (.pure (AL fun _=>U) (.pure (AL fun _=>U) (.pure (AL fun _=>U) .nil)))) ⟨.rfl,.rfl,.rfl,.rfl,.rfl,.rfl,.rfl,.rfl,trivial⟩) ?_;exact AN (L:=[(0,(ls Aj p0)),(4,(ow 0 0 l8)),(11,(ow 1 0 q17)),(12,(ow 2 0 l85)),(13,(i64 0)),(71,(ls Aj p0)),(72,(i64 (Sh.len p0))),(73,(i64 t22))]) (st':=[(ro 0 3 1 eI l8),(ro 0 3 1 eI q17),(ro 0 3 1 eI l85)]) (st1:=[(ro 0 3 1 eI l8),(ro 0 3 1 eI q17),(ro 0 3 1 eI l85)]) [0,1,2] U .nil (by decide) rfl U (.pure (AL fun _=>U) (.pure (AL fun _=>U) (.pure (AL fun _=>U) .nil))) ⟨.rfl,.rfl,.rfl,.rfl,.rfl,.rfl,.rfl,.rfl,trivial⟩))
       ·intro b84 h2
        exact AG (M73 l23 (Sh.AA h2).symm _ (AE U))
     refine B1 (by kernel_rfl) (by kernel_rfl) (by rfl) ?_
     iterate 4 refine yq tb rfl ?_
     rcases Sh.AP h3 with ⟨b86,h3⟩ | ⟨b86,h3⟩
     ·refine yg tb b86 U ?_
      iterate 3 refine yg tb b86 rfl ?_
      refine bs h3 fun c87 gc87 h3=>Dk (v:=(.ptr 0 0 (Int.toNat t22) 0)) (A9 U U b86) rfl (BD A2 U U U U gc87) (Dk (v:=(i64 c87)) (A9 U U b86) rfl (Bf EF U U (Bp gc87) rfl) ?_)
      iterate 2 refine yg tb b86 rfl ?_
      rcases Sh.AP h3 with ⟨b88,h3⟩ | ⟨b88,h3⟩
      ·refine ys b88 U ?_
       iterate 2 refine ys b88 rfl ?_
       refine Dk (v:=(.bool true)) (A9 U U b86) rfl (Br U b88 U) (yt b86 U ?_)
       exact BP (M79 true (Sh.AA h3).symm _ (AN (L:=[(0,(ls Aj p0)),(4,(ow 0 0 l8)),(11,(ow 1 0 q17)),(12,(ow 2 0 l23)),(13,(i64 0)),(14,(i64 t22)),(71,(ls Aj p0)),(72,(i64 (Sh.len p0))),(73,(i64 t22)),(94,(.bool true))]) (st':=[(ro 0 3 1 eI l8),(ro 0 3 1 eI q17),(ro 0 3 1 eI l23)]) (st1:=[(ro 0 3 1 eI l8),(ro 0 3 1 eI q17),(ro 0 3 1 eI l23)]) [0,1,2] U .nil (by decide) rfl U (.pure (AL fun _=>U) (.pure (AL fun _=>U) (.pure (AL fun _=>U) .nil))) ⟨.rfl,.rfl,.rfl,.rfl,.rfl,.rfl,.rfl,.rfl,.rfl,.rfl,trivial⟩))
      ·refine yg tb b88 U ?_
       iterate 2 refine yg tb b88 rfl ?_
       refine Dk (v:=(.bool (decide (999999 < c75.count)))) (A9 U U b86) rfl (CE U b88 U) (yt b86 U ?_)
       exact BP (M79 (decide (999999 < c75.count)) (Sh.AA h3).symm _ (AN (L:=[(0,(ls Aj p0)),(4,(ow 0 0 l8)),(11,(ow 1 0 q17)),(12,(ow 2 0 l23)),(13,(i64 0)),(14,(i64 t22)),(71,(ls Aj p0)),(72,(i64 (Sh.len p0))),(73,(i64 t22)),(94,(.bool (decide (999999 < c75.count))))]) (st':=[(ro 0 3 1 eI l8),(ro 0 3 1 eI q17),(ro 0 3 1 eI l23)]) (st1:=[(ro 0 3 1 eI l8),(ro 0 3 1 eI q17),(ro 0 3 1 eI l23)]) [0,1,2] U .nil (by decide) rfl U (.pure (AL fun _=>U) (.pure (AL fun _=>U) (.pure (AL fun _=>U) .nil))) ⟨.rfl,.rfl,.rfl,.rfl,.rfl,.rfl,.rfl,.rfl,.rfl,.rfl,trivial⟩))
     ·refine ys b86 U ?_
      iterate 7 refine ys b86 rfl ?_
      iterate 3 refine yn rfl ?_
      refine ys b86 U (yf b86 U ?_)
      exact BP (M79 false (Sh.AA h3).symm _ (AN (L:=[(0,(ls Aj p0)),(4,(ow 0 0 l8)),(11,(ow 1 0 q17)),(12,(ow 2 0 l23)),(13,(i64 0)),(14,(i64 t22)),(71,(ls Aj p0)),(72,(i64 (Sh.len p0))),(73,(i64 t22)),(94,(.bool false))]) (st':=[(ro 0 3 1 eI l8),(ro 0 3 1 eI q17),(ro 0 3 1 eI l23)]) (st1:=[(ro 0 3 1 eI l8),(ro 0 3 1 eI q17),(ro 0 3 1 eI l23)]) [0,1,2] U .nil (by decide) rfl U (.pure (AL fun _=>U) (.pure (AL fun _=>U) (.pure (AL fun _=>U) .nil))) ⟨.rfl,.rfl,.rfl,.rfl,.rfl,.rfl,.rfl,.rfl,.rfl,.rfl,trivial⟩))
    ·intro b70 h1
     exact Ac (M25 l23 (Sh.AA h1).symm _ (AE U))
  refine AF U (zq tb U (zl tb U U (zm tb 2 U ?_)))
  rcases Sh.AP h1 with ⟨b89,h1⟩ | ⟨b89,h1⟩
  ·refine zg tb b89 U (zg tb b89 U (A5 (v:=(i64 (Sh.len p0))) (A9 U U b89) rfl (BL TZ U) (zg tb b89 U (bs h1 fun c90 gc90 h1=>A5 (v:=(.Bi (Aj c90) 0)) (A9 U U b89) rfl (Bh FI U U gc90 U) ?_))))
   iterate 3 refine zg tb b89 rfl ?_
   exact zt b89 U (AD (M13 (decide (c90.count=0)) (Sh.AA h1).symm _ (AE U)))
  ·refine zs b89 U ?_
   iterate 7 refine zs b89 rfl ?_
   exact zf b89 U (AD (M13 false (Sh.AA h1).symm _ (AE U)))
 refine AJ (AX (σ:=Int×(List Int)) (fun n v=>CI N p0 n v.1 v.2=some o9) (fun (t6,l7)=>⟨159,AS [(0,(ls Aj p0)),(4,(ow 0 0 l7)),(24,(ls Aj p0)),(25,(i64 (Sh.len p0))),(26,(i64 t6))],[(ro 0 3 1 eI l7)]⟩) N (0,l3) h1 (AE U) (fun _ hv=>by rw[CI] at hv;cases hv) ?_)
 rintro n ⟨t6,l7⟩ h1
 try dsimp only at h1 ⊢
 rw[CI] at h1
 refine zr tb U U (AB fun K92 hK92=>?_)
 refine ci h1 U ?_ ?_ <;> clear h1
 ·intro b93 h1
  refine AG (hK92 _ (AB fun K94 hK94=>AJ (sr U fun K95 hK95=>bs h1 fun c96 gc96 h1=>zx FI gc96 U U U (zq tb U (BF (m:=1) Aa SW U U (A7 Aa QY U U U U U U (show 0+3≤3 by decide) rfl (dn hK95 U (AB fun K97 hK97=>sr U fun K98 hK98=>?_))))))))
  refine zm tb 2 U (bs h1 fun q99 gq99 h1=>zc bw (N5 gq99) rfl U U (zq tb U (dn hK98 U ?_)))
  refine ci h1 U ?_ ?_ <;> clear h1
  ·intro b100 h1
   have b101:q99=false:=by simpa using b100
   refine zr tb U U ?_
   replace h1:=Sh.AA h1
   subst o9
   try dsimp only[id] at h0
   replace h0:=Sh.AA h0
   subst r
   exact AH (Exists.intro _ (And.intro ((((EM (t:=2) rfl 3 (size:=1) (by decide)).trans (AM (L:=[(2,(.own 2 0 (List.length ([]:List Int)))),(3,(.bool false))]) ⟨.rfl,.rfl,trivial⟩)).trans (AN (L:=[(2,(.own 0 0 (List.length ([]:List Int)))),(3,(.bool false))]) (st':=[(ro 0 3 1 eI ([]:List Int))]) (st1:=[(ro 0 3 1 eI ([]:List Int))]) [2] U .nil (by decide) rfl U (.pure (AL fun _=>U) .nil) ⟨.rfl,.rfl,trivial⟩)).trans (AM (L:=[(2,(.own 0 0 (List.length ([]:List Int)))),(3,(.bool false))]) ⟨.rfl,.rfl,trivial⟩)) (And.intro U U)))
  ·intro b100 h1
   have b103:q99=true:=by simpa using b100
   refine AG (hK97 _ (sr U fun K104 hK104=>zm tb 2 U (zl tb U U (zq tb U (dn hK104 U (bs h1 fun o108 h2 h1=>?_))))))
   have M108 :∀(l107:(List Int)),o108=l107→∀s,Wk 0 s ⟨159,AS [(0,(ls Aj p0)),(4,(ow 0 0 l107)),(24,(ls Aj p0)),(25,(i64 (Sh.len p0))),(26,(i64 t6))],[(ro 0 3 1 eI l107)]⟩→K94 s:=by
    intro l107 hq s hw
    subst o108
    try dsimp only at h1
    exact hK94 _ (AI hw (AF U (zm tb 2 U (AD (xi (Sh.w (t6+1),l107) h1 (AE U))))))
   refine AJ (AX (σ:=Int×(List Int)) (fun n v=>B9 c96 p0 n v.1 v.2=some o108) (fun (t105,l106)=>⟨159,AS [(0,(ls Aj p0)),(4,(ow 0 0 l106)),(24,(ls Aj p0)),(25,(i64 (Sh.len p0))),(26,(i64 t6)),(35,(ls eI c96.fields)),(36,(i64 (Sh.len c96.fields))),(37,(i64 t105))],[(ro 0 3 1 eI l106)]⟩) N (0,l7) h2 (AN (L:=[(0,(ls Aj p0)),(4,(ow 0 0 l7)),(24,(ls Aj p0)),(25,(i64 (Sh.len p0))),(26,(i64 t6)),(35,(ls eI c96.fields)),(36,(i64 (Sh.len c96.fields))),(37,(i64 0))]) (st':=[(ro 0 3 1 eI l7)]) (st1:=[(ro 0 3 1 eI l7)]) [0] U .nil (by decide) rfl U (.pure (AL fun _=>U) .nil) ⟨.rfl,.rfl,.rfl,.rfl,.rfl,.rfl,.rfl,.rfl,trivial⟩) (fun _ hv=>by rw[B9] at hv;cases hv) ?_)
   rintro n ⟨t105,l106⟩ h2
   try dsimp only at h2 ⊢
   rw[B9] at h2
   refine zr tb U U (AB fun K110 hK110=>?_)
   refine ci h2 U ?_ ?_ <;> clear h2
   ·intro b111 h2
    refine AG (hK110 _ (AB fun K112 hK112=>bs h2 fun o114 h3 h2=>?_))
    have M114 :∀(l113:(List Int)),o114=l113→∀s,Wk 0 s ⟨159,AS [(0,(ls Aj p0)),(4,(ow 0 0 l113)),(24,(ls Aj p0)),(25,(i64 (Sh.len p0))),(26,(i64 t6)),(35,(ls eI c96.fields)),(36,(i64 (Sh.len c96.fields))),(37,(i64 t105))],[(ro 0 3 1 eI l113)]⟩→K112 s:=by
     intro l113 hq s hw
     subst o114
     try dsimp only at h2
     exact hK112 _ (AI hw (AF U (zm tb 2 U (AD (xi (Sh.w (t105+1),l113) h2 (AE U))))))
    refine AJ (sr U fun K115 hK115=>bs h3 fun c116 gc116 h3=>zx A2 gc116 U U U (zm tb 2 U (dn hK115 U (sr U fun K117 hK117=>zm tb 2 U (bs h3 fun q118 gq118 h3=>zc (v':=(.DX [(i64 q118.1),(.bool q118.2)])) Rf (GX gq118) rfl U U (zm tb 5 U (dn hK117 U ?_)))))))
    refine zr tb U U ?_
    refine ci h3 U ?_ ?_ <;> clear h3
    ·intro b120 h3
     refine AF U (zm tb 2 U (bs h3 fun c121 gc121 h3=>zz (.ptr 0 0 (Int.toNat q118.1) 0) (BD A2 U U U U gc121) rfl (zz (i64 c121) (Bf EF U U (Bp gc121) rfl) rfl (zq tb U (zz (.ptr 0 0 (Int.toNat q118.1) 0) (BD A2 U U U U gc121) rfl (Cz (u':=Sh.w (c121+1)) Aa EF U U gc121 U U U (show 0+1≤1 by decide) rfl U ?_))))))
     exact AD (M114 (Sh.put l106 q118.1 (Sh.w (c121+1))) (Sh.AA h3).symm _ (AM (L:=[(0,(.sl (List.map Aj p0))),(4,(.own 0 0 (List.length (Sh.put l106 q118.1 (Sh.w (c121+1)))))),(24,(.sl (List.map Aj p0))),(25,(i64 (Sh.len p0))),(26,(i64 t6)),(35,(.sl (List.map eI c96.fields))),(36,(i64 (Sh.len c96.fields))),(37,(i64 t105))]) ⟨.rfl,(.len (by simp only[Sh.Af])),.rfl,.rfl,.rfl,.rfl,.rfl,.rfl,trivial⟩))
    ·intro b120 h3
     exact AG (M114 l106 (Sh.AA h3).symm _ (AE U))
   ·intro b111 h2
    exact Ac (M108 l106 (Sh.AA h2).symm _ (AE U))
 ·intro b93 h1
  exact Ac (M9 l7 (Sh.AA h1).symm _ (AE U))
theorem Ly {p0:Int} {r:Bool} (h0:GM p0=some r):AY Tryz.prog 98 [(i64 p0)] [] (fun v st=>v=(.bool r)∧st=[]):=by
 unfold GM at h0
 refine ai Tryz.func98 U U U U (zr tb U U (sr U fun K2 hK2=>zq tb U (bs h0 fun q3 gq3 h0=>zc XK (Iw gq3) rfl U U (zm tb 2 U (dn hK2 U ?_)))))
 replace h0:=Sh.AA h0
 subst r
 exact AH (xr (AM (L:=[(2,(.bool (!q3)))]) ⟨.rfl,trivial⟩))
theorem I5 {N:Nat} {p0:(List Int)} {r:Int} (h0:ES N p0=some r):AY Tryz.prog 128 [(ls eI p0),(.fn 98 [])] [] (fun v st=>v=(i64 r)∧st=[]):=by
 unfold ES at h0
 refine ai Tryz.func128 U U U U (zr tb U U (AB fun K2 hK2=>sr U fun K3 hK3=>zq tb U (zl tb U U (zq tb U (dn hK3 U ?_)))))
 obtain⟨o5,h1,h0⟩:=Sh.A1 h0
 have M5 :∀(_:Unit),o5=Sum.inr ()→∀s,Wk 0 s ⟨19,AS [],[]⟩→K2 s:=by
  intro _ hq s hw
  subst o5
  try dsimp only at h0
  refine hK2 _ (AI hw (zr tb U U ?_))
  replace h0:=Sh.AA h0
  subst r
  exact AH (xr (AM (L:=[(4,(i64 (-1)))]) ⟨.rfl,trivial⟩))
 refine AJ (AX (σ:=Int) (fun n v=>BE p0 n v=some o5) (fun t4=>⟨19,AS [(0,(ls eI p0)),(1,(.fn 98 [])),(7,(i64 (Sh.len p0))),(8,(i64 t4))],[]⟩) N 0 h1 (AE U) (fun _ hv=>by rw[BE] at hv;cases hv) ?_)
 rintro n t4 h1
 try dsimp only at h1 ⊢
 rw[BE] at h1
 refine zr tb U U (AB fun K8 hK8=>?_)
 refine ci h1 U ?_ ?_ <;> clear h1
 ·intro b9 h1
  refine AG (hK8 _ (AB fun K10 hK10=>AJ (zr tb U U (sr U fun K12 hK12=>zm tb 3 U (bs h1 fun c13 gc13 h1=>zx A2 gc13 U U U (zq tb U (bs h1 fun q14 gq14 h1=>Xr (v':=(.bool q14)) (st':=[]) Aa U eF (Ly gq14) rfl U trivial U U (dn hK12 U ?_))))))))
  refine ci h1 U ?_ ?_ <;> clear h1
  ·intro b15 h1
   refine zr tb U U ?_
   replace h1:=Sh.AA h1
   subst o5
   try dsimp only[id] at h0
   replace h0:=Sh.AA h0
   subst r
   exact AH (xr (AM (L:=[(4,(i64 t4))]) ⟨.rfl,trivial⟩))
  ·intro b15 h1
   exact AG (hK10 _ (AF U (zm tb 2 U (AD (xi (Sh.w (t4+1)) h1 (AE U))))))
 ·intro b9 h1
  exact Ac (M5 () (Sh.AA h1).symm _ (AE U))
theorem IK {N:Nat} {p0:(List Int)} {r:Bool} (h0:CX N p0=some r):AY Tryz.prog 97 [(ls eI p0),(.fn 98 [])] [] (fun v st=>v=(.bool r)∧st=[]):=by
 unfold CX at h0
 refine ai Tryz.func97 U U U U (zr tb U U (sr U fun K2 hK2=>zm tb 2 U (bs h0 fun q3 gq3 h0=>zc YX (I5 gq3) rfl U U (zm tb 2 U (dn hK2 U ?_)))))
 replace h0:=Sh.AA h0
 subst r
 exact AH (xr (AM (L:=[(4,(.bool (decide (0≤q3))))]) ⟨.rfl,trivial⟩))
theorem NQ {N:Nat} {p0:Au} {p1:Ai} {r:Bool} (h0:GA N p0 p1=some r):AY Tryz.prog 99 [(.agg (Ao p0)),(.agg (Ax p1))] [] (fun v st=>v=(.bool r)∧st=[]):=by
 unfold GA at h0
 refine ai Tryz.func99 U U U U (sr U fun K1 hK1=>A8 (m:=0) Aa U U U U U (A8 (m:=1) Aa U U U U U (zq tb U (dn hK1 U (AB fun K2 hK2=>AB fun K3 hK3=>bs h0 fun o5 h1 h0=>?_)))))
 have M5 :∀(t4:Bool),o5=t4→∀s,Wk 0 s ⟨92,AS [(2,(.ptr 0 0 0 0)),(3,(.ptr 1 0 0 0)),(18,(.bool t4))],[⟨0,37,2,[(Ao p0)]⟩,⟨0,94,6,[(Ax p1)]⟩]⟩→K3 s:=by
  intro t4 hq s hw
  subst o5
  try dsimp only at h0
  refine hK3 _ (AI hw ?_)
  refine ci h0 U ?_ ?_ <;> clear h0
  ·intro b6 h0
   refine zr tb U U ?_
   replace h0:=Sh.AA h0
   subst r
   exact AH (xr (AR [(4,(.bool false))] U))
  ·intro b6 h0
   refine AG (hK2 _ (sr U fun K8 hK8=>zm tb 4 U (bs h0 fun c9 gc9 h0=>zx IC gc9 U U U (zq tb U (BF (m:=2) Aa RF U U (A7 Aa QQ U U U U U U (show 0+5≤5 by decide) rfl (dn hK8 U (AB fun K10 hK10=>AB fun K11 hK11=>bs h0 fun o13 h1 h0=>?_))))))))
   have M13 :∀(t12:Bool),o13=t12→∀s,Wk 0 s ⟨92,AS [(3,(.ptr 0 0 0 0)),(59,(.bool t12))],[⟨0,94,6,[(Ax p1)]⟩]⟩→K11 s:=by
    intro t12 hq s hw
    subst o13
    try dsimp only at h0
    refine hK11 _ (AI hw ?_)
    refine ci h0 U ?_ ?_ <;> clear h0
    ·intro b14 h0
     refine zr tb U U ?_
     replace h0:=Sh.AA h0
     subst r
     exact AH (xr (AR [(4,(.bool false))] U))
    ·intro b14 h0
     refine AG (hK10 _ (AB fun K16 hK16=>sr U fun K17 hK17=>zm tb 2 U (zl tb U U (zq tb U (dn hK17 U ?_)))))
     obtain⟨o19,h1,h0⟩:=Sh.A1 h0
     have M19 :∀(_:Unit),o19=Sum.inr ()→∀s,Wk 0 s ⟨92,AS [],[]⟩→K16 s:=by
      intro _ hq s hw
      subst o19
      try dsimp only at h0
      refine hK16 _ (AI hw (zr tb U U ?_))
      replace h0:=Sh.AA h0
      subst r
      exact AH (xr (AM (L:=[(4,(.bool true))]) ⟨.rfl,trivial⟩))
     refine AJ (AX (σ:=Int) (fun n v=>C7 p1 n v=some o19) (fun t18=>⟨92,AS [(3,(.ptr 0 0 0 0)),(61,(ls eI p1.Ab)),(62,(i64 (Sh.len p1.Ab))),(63,(i64 t18))],[⟨0,94,6,[(Ax p1)]⟩]⟩) N 0 h1 (AE U) (fun _ hv=>by rw[C7] at hv;cases hv) ?_)
     rintro n t18 h1
     try dsimp only at h1 ⊢
     rw[C7] at h1
     refine zr tb U U (AB fun K22 hK22=>?_)
     refine ci h1 U ?_ ?_ <;> clear h1
     ·intro b23 h1
      refine AG (hK22 _ (AB fun K24 hK24=>AJ (sr U fun K25 hK25=>zq tb U (bs h1 fun c26 gc26 h1=>zx A2 gc26 U U U (zm tb 3 U (dn hK25 U (AB fun K27 hK27=>bs h1 fun o29 h2 h1=>?_)))))))
      have M29 :∀(t28:Bool),o29=t28→∀s,Wk 0 s ⟨92,AS [(3,(.ptr 0 0 0 0)),(61,(ls eI p1.Ab)),(62,(i64 (Sh.len p1.Ab))),(63,(i64 t18)),(90,(.bool t28))],[⟨0,94,6,[(Ax p1)]⟩]⟩→K27 s:=by
       intro t28 hq s hw
       subst o29
       try dsimp only at h1
       refine hK27 _ (AI hw ?_)
       refine ci h1 U ?_ ?_ <;> clear h1
       ·intro b30 h1
        refine zr tb U U ?_
        replace h1:=Sh.AA h1
        subst o19
        try dsimp only[id] at h0
        replace h0:=Sh.AA h0
        subst r
        exact AH (xr (AR [(4,(.bool false))] U))
       ·intro b30 h1
        exact AG (hK24 _ (AF U (zm tb 2 U (AD (xi (Sh.w (t18+1)) h1 (AE U))))))
      refine AF U (zq tb U (bs h2 fun q32 gq32 h2=>zc XK (Iw gq32) rfl U U (zm tb 2 U ?_)))
      rcases Sh.AP h2 with ⟨b33,h2⟩ | ⟨b33,h2⟩
      ·refine zg tb b33 U (zg tb b33 U (zt b33 U (zq tb U ?_)))
       rcases Sh.AP h2 with ⟨b34,h2⟩ | ⟨b34,h2⟩
       ·refine zs b34 U ?_
        iterate 5 refine zs b34 rfl ?_
        refine zt b34 U (zq tb U ?_)
        iterate 6 refine zs rfl rfl ?_
        exact zt U U (AD (M29 true (Sh.AA h2).symm _ (AE U)))
       ·refine zg tb b34 U (zg tb b34 U (zg tb b34 U (bs h2 fun c35 gc35 h2=>A5 (v:=(.Bi (eI c35) 0)) (A9 U U b34) rfl (Bh A2 U U gc35 U) (zg tb b34 U (zg tb b34 U (zf b34 U (zq tb U ?_)))))))
        rcases Sh.AP h2 with ⟨b36,h2⟩ | ⟨b36,h2⟩
        ·refine zs b36 U ?_
         iterate 5 refine zs b36 rfl ?_
         exact zt b36 U (AD (M29 true (Sh.AA h2).symm _ (AE U)))
        ·exact zg tb b36 U (zg tb b36 U (zg tb b36 U (A5 (v:=(.Bi (eI c35) 0)) (A9 U U b36) rfl (Bh A2 U U gc35 U) (zg tb b36 U (zg tb b36 U (zf b36 U (AD (M29 (decide (999999 < c35)) (Sh.AA h2).symm _ (AE U)))))))))
      ·refine zs b33 U (zs b33 U (zf b33 U (zq tb U ?_)))
       iterate 3 refine zg tb rfl rfl ?_
       refine bs h2 fun c37 gc37 h2=>A5 (v:=(.Bi (eI c37) 0)) (A9 U U U) rfl (Bh A2 U U gc37 U) (zg tb U U (zg tb U U (zf U U (zq tb U ?_))))
       rcases Sh.AP h2 with ⟨b38,h2⟩ | ⟨b38,h2⟩
       ·refine zs b38 U ?_
        iterate 5 refine zs b38 rfl ?_
        exact zt b38 U (AD (M29 true (Sh.AA h2).symm _ (AE U)))
       ·exact zg tb b38 U (zg tb b38 U (zg tb b38 U (A5 (v:=(.Bi (eI c37) 0)) (A9 U U b38) rfl (Bh A2 U U gc37 U) (zg tb b38 U (zg tb b38 U (zf b38 U (AD (M29 (decide (999999 < c37)) (Sh.AA h2).symm _ (AE U)))))))))
     ·intro b23 h1
      exact Ac (M19 () (Sh.AA h1).symm _ (AR _ U))
   refine AF U (zm tb 4 U ?_)
   rcases Sh.AP h1 with ⟨b39,h1⟩ | ⟨b39,h1⟩
   ·refine zs b39 U ?_
    iterate 5 refine zs b39 rfl ?_
    refine zt b39 U (zq tb U ?_)
    iterate 6 refine zs rfl rfl ?_
    refine zt U U (zq tb U ?_)
    iterate 6 refine zs rfl rfl ?_
    refine zt U U (zq tb U ?_)
    iterate 6 refine zs rfl rfl ?_
    refine zt U U ?_
    exact AD (M13 true (Sh.AA h1).symm _ (AN (L:=[(3,(.ptr 0 0 0 0)),(59,(.bool true))]) (st':=[⟨0,94,6,[(Ax p1)]⟩]) (st1:=[⟨0,94,6,[(Ax p1)]⟩]) [1] U .nil (by decide) rfl U (.raw U U .nil) ⟨.rfl,.rfl,trivial⟩))
   ·refine zg tb b39 U ?_
    iterate 3 refine zg tb b39 rfl ?_
    refine A5 (v:=(i64 (Sh.len c9.code))) (A9 U U b39) rfl (BL QV U) (zg tb b39 U (zf b39 U (zq tb U ?_)))
    rcases Sh.AP h1 with ⟨b40,h1⟩ | ⟨b40,h1⟩
    ·refine zs b40 U ?_
     iterate 5 refine zs b40 rfl ?_
     refine zt b40 U (zq tb U ?_)
     iterate 6 refine zs rfl rfl ?_
     refine zt U U (zq tb U ?_)
     iterate 6 refine zs rfl rfl ?_
     refine zt U U ?_
     exact AD (M13 true (Sh.AA h1).symm _ (AN (L:=[(3,(.ptr 0 0 0 0)),(59,(.bool true))]) (st':=[⟨0,94,6,[(Ax p1)]⟩]) (st1:=[⟨0,94,6,[(Ax p1)]⟩]) [1] U .nil (by decide) rfl U (.raw U U .nil) ⟨.rfl,.rfl,trivial⟩))
    ·refine zg tb b40 U (zg tb b40 U (A5 (v:=(i64 (Sh.len p1.Ab))) (A9 U U b40) rfl (BL EE U) ?_))
     iterate 3 refine zg tb b40 rfl ?_
     refine zf b40 U (zq tb U ?_)
     rcases Sh.AP h1 with ⟨b41,h1⟩ | ⟨b41,h1⟩
     ·refine zs b41 U ?_
      iterate 5 refine zs b41 rfl ?_
      refine zt b41 U (zq tb U ?_)
      iterate 6 refine zs rfl rfl ?_
      refine zt U U ?_
      exact AD (M13 true (Sh.AA h1).symm _ (AN (L:=[(3,(.ptr 0 0 0 0)),(59,(.bool true))]) (st':=[⟨0,94,6,[(Ax p1)]⟩]) (st1:=[⟨0,94,6,[(Ax p1)]⟩]) [1] U .nil (by decide) rfl U (.raw U U .nil) ⟨.rfl,.rfl,trivial⟩))
     ·refine zg tb b41 U (zg tb b41 U (A5 (v:=(i64 (Sh.len p1.own))) (A9 U U b41) rfl (BL EE U) ?_))
      iterate 3 refine zg tb b41 rfl ?_
      refine zf b41 U (zq tb U ?_)
      rcases Sh.AP h1 with ⟨b42,h1⟩ | ⟨b42,h1⟩
      ·refine zs b42 U ?_
       iterate 5 refine zs b42 rfl ?_
       refine zt b42 U ?_
       exact AD (M13 true (Sh.AA h1).symm _ (AN (L:=[(3,(.ptr 0 0 0 0)),(59,(.bool true))]) (st':=[⟨0,94,6,[(Ax p1)]⟩]) (st1:=[⟨0,94,6,[(Ax p1)]⟩]) [1] U .nil (by decide) rfl U (.raw U U .nil) ⟨.rfl,.rfl,trivial⟩))
      ·refine zg tb b42 U (zg tb b42 U (A5 (v:=(i64 (Sh.len p1.held))) (A9 U U b42) rfl (BL EE U) ?_))
       iterate 3 refine zg tb b42 rfl ?_
       refine zf b42 U ?_
       exact AD (M13 (!decide ((Sh.len p1.held)=c9.Ab)) (Sh.AA h1).symm _ (AN (L:=[(3,(.ptr 0 0 0 0)),(59,(.bool (!decide ((Sh.len p1.held)=c9.Ab))))]) (st':=[⟨0,94,6,[(Ax p1)]⟩]) (st1:=[⟨0,94,6,[(Ax p1)]⟩]) [1] U .nil (by decide) rfl U (.raw U U .nil) ⟨.rfl,.rfl,trivial⟩))
 refine AF U (zm tb 4 U ?_)
 rcases Sh.AP h1 with ⟨b43,h1⟩ | ⟨b43,h1⟩
 ·refine zs b43 U ?_
  iterate 5 refine zs b43 rfl ?_
  exact zt b43 U (AD (M5 true (Sh.AA h1).symm _ (AE U)))
 ·refine zg tb b43 U ?_
  iterate 3 refine zg tb b43 rfl ?_
  exact A5 (v:=(i64 (Sh.len p0.procs))) (A9 U U b43) rfl (BL ab U) (zg tb b43 U (zf b43 U (AD (M5 (decide ((Sh.len p0.procs)≤p1.proc)) (Sh.AA h1).symm _ (AE U)))))
theorem L9 {N:Nat} {s0:(List Int)} {s1:(List Int)} {p0:Ai} {p1:(List Cell)} {r:Bool×(List Int)×(List Int)} (h0:E6 N s0 s1 p0 p1=some r):AY Tryz.prog 100 [(.agg (Ax p0)),(ls Aj p1),(ow 0 0 s0),(ow 1 0 s1)] [(ro 0 3 1 eI s0),(ro 0 3 1 eI s1)] (fun v st=>v=(.bool r.1)∧st=[(ro 0 3 1 eI r.2.1),(ro 0 3 1 eI r.2.2)]):=by
 unfold E6 at h0
 refine ai Tryz.func100 U U U U (sr U fun K1 hK1=>A8 (m:=2) Aa U U U U U (zq tb U (dn hK1 U (AB fun K2 hK2=>sr U fun K3 hK3=>zm tb 2 U (zl tb U U (zq tb U (dn hK3 U ?_)))))))
 obtain⟨o9,h1,h0⟩:=Sh.A1 h0
 have M9 :∀(l7:(List Int)) (l8:(List Int)),o9=Sum.inr (l7,l8)→∀s,Wk 2 s ⟨78,AS [],[(ro 0 3 1 eI l7),(ro 0 3 1 eI l8)]⟩→K2 s:=by
  intro l7 l8 hq s hw
  subst o9
  try dsimp only at h0
  refine hK2 _ (AI hw (zr tb U U ?_))
  replace h0:=Sh.AA h0
  subst r
  exact AH (xr (AM (L:=[(8,(.bool true))]) ⟨.rfl,trivial⟩))
 refine AJ (AX (σ:=Int×(List Int)×(List Int)) (fun n v=>Bc p0 p1 n v.1 v.2.1 v.2.2=some o9) (fun (t4,l5,l6)=>⟨78,AS [(1,(ls Aj p1)),(2,(ow 0 0 l5)),(3,(ow 1 0 l6)),(4,(.ptr 2 0 0 0)),(15,(ls eI p0.own)),(16,(i64 (Sh.len p0.own))),(17,(i64 t4))],[(ro 0 3 1 eI l5),(ro 0 3 1 eI l6),⟨0,94,6,[(Ax p0)]⟩]⟩) N (0,s0,s1) h1 (AE U) (fun _ hv=>by rw[Bc] at hv;cases hv) ?_)
 rintro n ⟨t4,l5,l6⟩ h1
 try dsimp only at h1 ⊢
 rw[Bc] at h1
 refine zr tb U U (AB fun K12 hK12=>?_)
 refine ci h1 U ?_ ?_ <;> clear h1
 ·intro b13 h1
  refine AG (hK12 _ (AB fun K14 hK14=>?_))
  obtain⟨o17,h2,h1⟩:=Sh.A1 h1
  have M17 :∀(l15:(List Int)) (l16:(List Int)),o17=Sum.inr (l15,l16)→∀s,Wk 2 s ⟨78,AS [(1,(ls Aj p1)),(2,(ow 0 0 l15)),(3,(ow 1 0 l16)),(4,(.ptr 2 0 0 0)),(15,(ls eI p0.own)),(16,(i64 (Sh.len p0.own))),(17,(i64 t4))],[(ro 0 3 1 eI l15),(ro 0 3 1 eI l16),⟨0,94,6,[(Ax p0)]⟩]⟩→K14 s:=by
   intro l15 l16 hq s hw
   subst o17
   try dsimp only at h1
   exact hK14 _ (AI hw (AF U (zm tb 2 U (AD (xi (Sh.w (t4+1),l15,l16) h1 (AE U))))))
  refine AJ (sr U fun K18 hK18=>zq tb U (bs h2 fun c19 gc19 h2=>zx A2 gc19 U U U (zm tb 3 U (dn hK18 U (AB fun K20 hK20=>?_)))))
  obtain⟨o22,h3,h2⟩:=Sh.A1 h2
  have M22 :∀(l21:(List Int)),o22=Sum.inr l21→∀s,Wk 2 s ⟨78,AS [(1,(ls Aj p1)),(2,(ow 0 0 l21)),(3,(ow 1 0 l6)),(4,(.ptr 2 0 0 0)),(9,(i64 t4)),(15,(ls eI p0.own)),(16,(i64 (Sh.len p0.own))),(17,(i64 t4))],[(ro 0 3 1 eI l21),(ro 0 3 1 eI l6),⟨0,94,6,[(Ax p0)]⟩]⟩→K20 s:=by
   intro l21 hq s hw
   subst o22
   try dsimp only at h2
   refine hK20 _ (AI hw (sr U fun K23 hK23=>zm tb 3 U (bs h2 fun c24 gc24 h2=>zx A2 gc24 U U U (zm tb 2 U (dn hK23 U ?_)))))
   refine ci h2 U ?_ ?_ <;> clear h2
   ·intro b25 h2
    have b26:decide (c24=0)=false:=by simpa using b25
    refine sr U fun K27 hK27=>zm tb 3 U (zx A2 gc24 U U U (zm tb 3 U (dn hK27 U (AB fun K28 hK28=>AB fun K29 hK29=>bs h2 fun o31 h3 h2=>?_))))
    have M31 :∀(t30:Bool),o31=t30→∀s,Wk 2 s ⟨78,AS [(1,(ls Aj p1)),(2,(ow 0 0 l21)),(3,(ow 1 0 l6)),(4,(.ptr 2 0 0 0)),(13,(i64 (Sh.w (c24 - 1000)))),(15,(ls eI p0.own)),(16,(i64 (Sh.len p0.own))),(17,(i64 t4)),(70,(.bool t30))],[(ro 0 3 1 eI l21),(ro 0 3 1 eI l6),⟨0,94,6,[(Ax p0)]⟩]⟩→K29 s:=by
     intro t30 hq s hw
     subst o31
     try dsimp only at h2
     refine hK29 _ (AI hw ?_)
     refine ci h2 U ?_ ?_ <;> clear h2
     ·intro b32 h2
      refine zr tb U U ?_
      replace h2:=Sh.AA h2
      subst o17
      try dsimp only[id] at h1
      replace h1:=Sh.AA h1
      subst o9
      try dsimp only[id] at h0
      replace h0:=Sh.AA h0
      subst r
      exact AH (xr (AN (L:=[(8,(.bool false))]) (st':=[(ro 0 3 1 eI l21),(ro 0 3 1 eI l6)]) (st1:=[(ro 0 3 1 eI l21),(ro 0 3 1 eI l6)]) [0,1] U (.pure (AL fun _=>U) (.pure (AL fun _=>U) .nil)) (by decide) rfl U (.pure (AL fun _=>U) (.pure (AL fun _=>U) .nil)) ⟨.rfl,trivial⟩))
     ·intro b32 h2
      refine AG (hK28 _ (AF U (zm tb 2 U (bs h2 fun c34 gc34 h2=>zz (.ptr 1 0 (Int.toNat (Sh.w (c24 - 1000))) 0) (BD A2 U U U U gc34) rfl (zz (i64 c34) (Bf EF U U (Bp gc34) rfl) rfl (zq tb U (zz (.ptr 1 0 (Int.toNat (Sh.w (c24 - 1000))) 0) (BD A2 U U U U gc34) rfl (Cz (u':=Sh.w (c34+1)) Aa EF U U gc34 U U U (show 0+1≤1 by decide) rfl U ?_))))))))
      exact AD (M17 l21 (Sh.put l6 (Sh.w (c24 - 1000)) (Sh.w (c34+1))) (Sh.AA h2).symm _ (AM (L:=[(1,(.sl (List.map Aj p1))),(2,(.own 0 0 (List.length l21))),(3,(.own 1 0 (List.length (Sh.put l6 (Sh.w (c24 - 1000)) (Sh.w (c34+1)))))),(4,(.ptr 2 0 0 0)),(15,(.sl (List.map eI p0.own))),(16,(i64 (Sh.len p0.own))),(17,(i64 t4))]) ⟨.rfl,.rfl,(.len (by simp only[Sh.Af])),.rfl,.rfl,.rfl,.rfl,trivial⟩))
    refine AF U (zm tb 3 U ?_)
    rcases Sh.AP h3 with ⟨b35,h3⟩ | ⟨b35,h3⟩
    ·refine zs b35 U ?_
     iterate 3 refine zs b35 rfl ?_
     refine zt b35 U (zq tb U ?_)
     iterate 6 refine zs rfl rfl ?_
     exact zt U U (AD (M31 true (Sh.AA h3).symm _ (AE U)))
    ·refine zg tb b35 U (zg tb b35 U (A5 (v:=(i64 (Sh.len p1))) (A9 U U b35) rfl (BL TZ U) (zg tb b35 U (zf b35 U (zq tb U ?_)))))
     rcases Sh.AP h3 with ⟨b36,h3⟩ | ⟨b36,h3⟩
     ·refine zs b36 U ?_
      iterate 5 refine zs b36 rfl ?_
      exact zt b36 U (AD (M31 true (Sh.AA h3).symm _ (AE U)))
     ·refine zg tb b36 U (zg tb b36 U (bs h3 fun c37 gc37 h3=>A5 (v:=(.Bi (Aj c37) 0)) (A9 U U b36) rfl (Bh FI U U gc37 U) ?_))
      iterate 3 refine zg tb b36 rfl ?_
      exact zf b36 U (AD (M31 (decide (0≤c37.count)) (Sh.AA h3).symm _ (AE U)))
   ·intro b25 h2
    have b38:decide (c24=0)=true:=by simpa using b25
    exact AG (M17 l21 l6 (Sh.AA h2).symm _ (AE U))
  refine zr tb U U ?_
  refine ci h3 U ?_ ?_ <;> clear h3
  ·intro b40 h3
   refine sr U fun K41 hK41=>zm tb 4 U (bs h3 fun c42 gc42 h3=>zx A2 gc42 U U U (zq tb U (bs h3 fun q43 gq43 h3=>zc (v':=(.DX [(i64 q43.1),(.bool q43.2)])) Rf (GX gq43) rfl U U (zm tb 5 U (dn hK41 U (AB fun K44 hK44=>zr tb U U ?_))))))
   refine ci h3 U ?_ ?_ <;> clear h3
   ·intro b46 h3
    have b47:q43.2=false:=by simpa using b46
    refine zr tb U U ?_
    replace h3:=Sh.AA h3
    subst o22
    try dsimp only[id] at h2
    replace h2:=Sh.AA h2
    subst o17
    try dsimp only[id] at h1
    replace h1:=Sh.AA h1
    subst o9
    try dsimp only[id] at h0
    replace h0:=Sh.AA h0
    subst r
    exact AH (xr (AN (L:=[(8,(.bool false))]) (st':=[(ro 0 3 1 eI l5),(ro 0 3 1 eI l6)]) (st1:=[(ro 0 3 1 eI l5),(ro 0 3 1 eI l6)]) [0,1] U (.pure (AL fun _=>U) (.pure (AL fun _=>U) .nil)) (by decide) rfl U (.pure (AL fun _=>U) (.pure (AL fun _=>U) .nil)) ⟨.rfl,trivial⟩))
   ·intro b46 h3
    have b49:q43.2=true:=by simpa using b46
    refine AG (hK44 _ (AF U (zm tb 2 U (bs h3 fun c50 gc50 h3=>zz (.ptr 0 0 (Int.toNat q43.1) 0) (BD A2 U U U U gc50) rfl (zz (i64 c50) (Bf EF U U (Bp gc50) rfl) rfl (zm tb 2 U (zz (.ptr 0 0 (Int.toNat q43.1) 0) (BD A2 U U U U gc50) rfl (Cz (u':=Sh.w (c50+c19)) Aa EF U U gc50 U U U (show 0+1≤1 by decide) rfl U ?_))))))))
    exact AD (M22 (Sh.put l5 q43.1 (Sh.w (c50+c19))) (Sh.AA h3).symm _ (AM (L:=[(1,(.sl (List.map Aj p1))),(2,(.own 0 0 (List.length (Sh.put l5 q43.1 (Sh.w (c50+c19)))))),(3,(.own 1 0 (List.length l6))),(4,(.ptr 2 0 0 0)),(9,(i64 t4)),(15,(.sl (List.map eI p0.own))),(16,(i64 (Sh.len p0.own))),(17,(i64 t4))]) ⟨.rfl,(.len (by simp only[Sh.Af])),.rfl,.rfl,.rfl,.rfl,.rfl,.rfl,trivial⟩))
  ·intro b40 h3
   exact AG (M22 l5 (Sh.AA h3).symm _ (AE U))
 ·intro b13 h1
  exact Ac (M9 l5 l6 (Sh.AA h1).symm _ (AN (L:=[]) (st':=[(ro 0 3 1 eI l5),(ro 0 3 1 eI l6)]) (st1:=[(ro 0 3 1 eI l5),(ro 0 3 1 eI l6)]) [0,1] U (.pure (AL fun _=>U) (.pure (AL fun _=>U) .nil)) (by decide) rfl U (.pure (AL fun _=>U) (.pure (AL fun _=>U) .nil)) trivial))
theorem NG {N:Nat} {p0:Au} {p1:Av} {r:Bool} (h0:HL N p0 p1=some r):AY Tryz.prog 66 [(.agg (Ao p0)),(.agg (Ah p1))] [] (fun v st=>v=(.bool r)∧st=[]):=by
 unfold HL at h0
 refine ai Tryz.func66 U U U U (sr U fun K1 hK1=>A8 (m:=0) Aa U U U U U (A8 (m:=1) Aa U U U U U (zq tb U (dn hK1 U (AB fun K2 hK2=>AB fun K3 hK3=>bs h0 fun o5 h1 h0=>?_)))))
 have M5 :∀(t4:Bool),o5=t4→∀s,Wk 0 s ⟨188,AS [(2,(.ptr 0 0 0 0)),(3,(.ptr 1 0 0 0)),(45,(.bool t4))],[⟨0,37,2,[(Ao p0)]⟩,⟨0,42,7,[(Ah p1)]⟩]⟩→K3 s:=by
  intro t4 hq s hw
  subst o5
  try dsimp only at h0
  refine hK3 _ (AI hw ?_)
  refine ci h0 U ?_ ?_ <;> clear h0
  ·intro b6 h0
   refine zr tb U U ?_
   replace h0:=Sh.AA h0
   subst r
   exact AH (xr (AR [(4,(.bool false))] U))
  ·intro b6 h0
   refine AG (hK2 _ (AB fun K8 hK8=>AB fun K9 hK9=>bs h0 fun o11 h1 h0=>?_))
   have M11 :∀(t10:Bool),o11=t10→∀s,Wk 0 s ⟨188,AS [(2,(.ptr 0 0 0 0)),(3,(.ptr 1 0 0 0)),(74,(.bool t10))],[⟨0,37,2,[(Ao p0)]⟩,⟨0,42,7,[(Ah p1)]⟩]⟩→K9 s:=by
    intro t10 hq s hw
    subst o11
    try dsimp only at h0
    refine hK9 _ (AI hw ?_)
    refine ci h0 U ?_ ?_ <;> clear h0
    ·intro b12 h0
     refine zr tb U U ?_
     replace h0:=Sh.AA h0
     subst r
     exact AH (xr (AR [(4,(.bool false))] U))
    ·intro b12 h0
     refine AG (hK8 _ (sr U fun K14 hK14=>zm tb 2 U (bs h0 fun q15 gq15 h0=>BN (v':=(.DX [(ow 2 0 q15.1),(.bool q15.2)])) Aa az (JZ gq15) rfl U ⟨(BB fun _=>U),trivial⟩ U U (zm tb 5 U (dn hK14 U (AB fun K16 hK16=>AB fun K17 hK17=>bs h0 fun o19 h1 h0=>?_))))))
     have M19 :∀(t18:Bool),o19=t18→∀s,Wk 0 s ⟨188,AS [(2,(.ptr 0 0 0 0)),(3,(.ptr 1 0 0 0)),(5,(ow 2 0 q15.1)),(87,(.bool t18))],[⟨0,37,2,[(Ao p0)]⟩,⟨0,42,7,[(Ah p1)]⟩,(ro 0 3 1 eI q15.1)]⟩→K17 s:=by
      intro t18 hq s hw
      subst o19
      try dsimp only at h0
      refine hK17 _ (AI hw ?_)
      refine ci h0 U ?_ ?_ <;> clear h0
      ·intro b20 h0
       refine zr tb U U ?_
       replace h0:=Sh.AA h0
       subst r
       exact AH (xr (AR [(4,(.bool false))] U))
      ·intro b20 h0
       refine AG (hK16 _ (sr U fun K22 hK22=>zm tb 2 U (zl tb U U (bs h0 fun l23 gl23 h0=>GU (m:=3) (enc:=eI) (u:=0) Aa A2 U U U gl23 U U (zq tb U (dn hK22 U (AB fun K24 hK24=>sr U fun K25 hK25=>zm tb 2 U (zl tb U U ?_))))))))
       refine zq tb U (dn hK25 U ?_)
       obtain⟨o31,h1,h0⟩:=Sh.A1 h0
       have M31 :∀(l29:(List Int)) (l30:(List Int)),o31=Sum.inr (l29,l30)→∀s,Wk 0 s ⟨188,AS [(3,(.ptr 0 0 0 0)),(5,(ow 1 0 l29)),(7,(ow 2 0 l30))],[⟨0,42,7,[(Ah p1)]⟩,(ro 0 3 1 eI l29),(ro 0 3 1 eI l30)]⟩→K24 s:=by
        intro l29 l30 hq s hw
        subst o31
        try dsimp only at h0
        refine hK24 _ (AI hw (AB fun K32 hK32=>sr U fun K33 hK33=>zm tb 2 U (zl tb U U (zq tb U (dn hK33 U ?_)))))
        obtain⟨o35,h1,h0⟩:=Sh.A1 h0
        have M35 :∀(_:Unit),o35=Sum.inr ()→∀s,Wk 0 s ⟨188,AS [],[]⟩→K32 s:=by
         intro _ hq s hw
         subst o35
         try dsimp only at h0
         refine hK32 _ (AI hw (zr tb U U ?_))
         replace h0:=Sh.AA h0
         subst r
         exact AH (xr (AM (L:=[(4,(.bool true))]) ⟨.rfl,trivial⟩))
        refine AJ (AX (σ:=Int) (fun n v=>Bt l29 l30 p1 n v=some o35) (fun t34=>⟨188,AS [(5,(ow 0 0 l29)),(7,(ow 1 0 l30)),(156,(ls Aj p1.heap)),(157,(i64 (Sh.len p1.heap))),(158,(i64 t34))],[(ro 0 3 1 eI l29),(ro 0 3 1 eI l30)]⟩) N 0 h1 (AN (L:=[(5,(ow 0 0 l29)),(7,(ow 1 0 l30)),(156,(ls Aj p1.heap)),(157,(i64 (Sh.len p1.heap))),(158,(i64 0))]) (st':=[(ro 0 3 1 eI l29),(ro 0 3 1 eI l30)]) (st1:=[(ro 0 3 1 eI l29),(ro 0 3 1 eI l30)]) [1,2] U .nil (by decide) rfl U (.pure (AL fun _=>U) (.pure (AL fun _=>U) .nil)) ⟨.rfl,.rfl,.rfl,.rfl,.rfl,trivial⟩) (fun _ hv=>by rw[Bt] at hv;cases hv) ?_)
        rintro n t34 h1
        try dsimp only at h1 ⊢
        rw[Bt] at h1
        refine zr tb U U (AB fun K38 hK38=>?_)
        refine ci h1 U ?_ ?_ <;> clear h1
        ·intro b39 h1
         refine AG (hK38 _ (AB fun K40 hK40=>AJ (sr U fun K41 hK41=>zq tb U (bs h1 fun c42 gc42 h1=>zx FI gc42 U U U (zq tb U (BF (m:=2) Aa SW U U (zq tb U (A7 Aa QY U U U U U U (show 0+3≤3 by decide) rfl (dn hK41 U ?_)))))))))
         refine AB fun K43 hK43=>bs h1 fun o45 h2 h1=>?_
         have M45 :∀(t44:Bool),o45=t44→∀s,Wk 0 s ⟨188,AS [(5,(ow 0 0 l29)),(7,(ow 1 0 l30)),(156,(ls Aj p1.heap)),(157,(i64 (Sh.len p1.heap))),(158,(i64 t34)),(186,(.bool t44))],[(ro 0 3 1 eI l29),(ro 0 3 1 eI l30)]⟩→K43 s:=by
          intro t44 hq s hw
          subst o45
          try dsimp only at h1
          refine hK43 _ (AI hw ?_)
          refine ci h1 U ?_ ?_ <;> clear h1
          ·intro b46 h1
           refine zr tb U U ?_
           replace h1:=Sh.AA h1
           subst o35
           try dsimp only[id] at h0
           replace h0:=Sh.AA h0
           subst r
           exact AH (xr (AR [(4,(.bool false))] U))
          ·intro b46 h1
           exact AG (hK40 _ (AF U (zm tb 2 U (AD (xi (Sh.w (t34+1)) h1 (AE U))))))
         refine B1 (by kernel_rfl) (by kernel_rfl) (by rfl) ?_
         iterate 4 refine yq tb rfl ?_
         rcases Sh.AP h2 with ⟨b48,h2⟩ | ⟨b48,h2⟩
         ·refine yg tb b48 U ?_
          iterate 3 refine yg tb b48 rfl ?_
          refine bs h2 fun c49 gc49 h2=>Dk (v:=(.ptr 0 0 (Int.toNat t34) 0)) (A9 U U b48) rfl (BD A2 U U U U gc49) (Dk (v:=(i64 c49)) (A9 U U b48) rfl (Bf EF U U (Bp gc49) rfl) (yg tb b48 U (yt b48 U (yq tb U ?_))))
          rcases Sh.AP h2 with ⟨b50,h2⟩ | ⟨b50,h2⟩
          ·refine ys b50 U ?_
           iterate 3 refine ys b50 rfl ?_
           iterate 5 refine yn rfl ?_
           refine ys b50 U (yt b50 U ?_)
           exact BP (M45 true (Sh.AA h2).symm _ (AN (L:=[(5,(ow 0 0 l29)),(7,(ow 1 0 l30)),(156,(ls Aj p1.heap)),(157,(i64 (Sh.len p1.heap))),(158,(i64 t34)),(186,(.bool true))]) (st':=[(ro 0 3 1 eI l29),(ro 0 3 1 eI l30)]) (st1:=[(ro 0 3 1 eI l29),(ro 0 3 1 eI l30)]) [0,1] U .nil (by decide) rfl U (.pure (AL fun _=>U) (.pure (AL fun _=>U) .nil)) ⟨.rfl,.rfl,.rfl,.rfl,.rfl,.rfl,trivial⟩))
          ·refine yg tb b50 U ?_
           iterate 3 refine yg tb b50 rfl ?_
           rcases Sh.AP h2 with ⟨b51,h2⟩ | ⟨b51,h2⟩
           ·refine yg tb b51 U (yg tb b51 U (bs h2 fun c52 gc52 h2=>Dk (v:=(.ptr 1 0 (Int.toNat t34) 0)) (A9 U U b51) rfl (BD A2 U U U U gc52) (Dk (v:=(i64 c52)) (A9 U U b51) rfl (Bf EF U U (Bp gc52) rfl) (yg tb b51 U (Dk (v:=(.bool (!decide (c52=1)))) (A9 U U b50) rfl (Br U b51 U) (yf b50 U ?_))))))
            exact BP (M45 (!decide (c52=1)) (Sh.AA h2).symm _ (AN (L:=[(5,(ow 0 0 l29)),(7,(ow 1 0 l30)),(156,(ls Aj p1.heap)),(157,(i64 (Sh.len p1.heap))),(158,(i64 t34)),(186,(.bool (!decide (c52=1))))]) (st':=[(ro 0 3 1 eI l29),(ro 0 3 1 eI l30)]) (st1:=[(ro 0 3 1 eI l29),(ro 0 3 1 eI l30)]) [0,1] U .nil (by decide) rfl U (.pure (AL fun _=>U) (.pure (AL fun _=>U) .nil)) ⟨.rfl,.rfl,.rfl,.rfl,.rfl,.rfl,trivial⟩))
           ·refine ys b51 U ?_
            iterate 4 refine ys b51 rfl ?_
            refine Dk (v:=(.bool false)) (A9 U U b50) rfl (CE U b51 U) (yf b50 U ?_)
            exact BP (M45 false (Sh.AA h2).symm _ (AN (L:=[(5,(ow 0 0 l29)),(7,(ow 1 0 l30)),(156,(ls Aj p1.heap)),(157,(i64 (Sh.len p1.heap))),(158,(i64 t34)),(186,(.bool false))]) (st':=[(ro 0 3 1 eI l29),(ro 0 3 1 eI l30)]) (st1:=[(ro 0 3 1 eI l29),(ro 0 3 1 eI l30)]) [0,1] U .nil (by decide) rfl U (.pure (AL fun _=>U) (.pure (AL fun _=>U) .nil)) ⟨.rfl,.rfl,.rfl,.rfl,.rfl,.rfl,trivial⟩))
         ·refine ys b48 U ?_
          iterate 6 refine ys b48 rfl ?_
          refine yf b48 U (yq tb U ?_)
          iterate 4 refine yg tb rfl rfl ?_
          rcases Sh.AP h2 with ⟨b53,h2⟩ | ⟨b53,h2⟩
          ·refine yg tb b53 U (yg tb b53 U (bs h2 fun c54 gc54 h2=>Dk (v:=(.ptr 1 0 (Int.toNat t34) 0)) (A9 U U b53) rfl (BD A2 U U U U gc54) (Dk (v:=(i64 c54)) (A9 U U b53) rfl (Bf EF U U (Bp gc54) rfl) (yg tb b53 U (Dk (v:=(.bool (!decide (c54=1)))) (A9 U U U) rfl (Br U b53 U) (yf U U ?_))))))
           exact BP (M45 (!decide (c54=1)) (Sh.AA h2).symm _ (AN (L:=[(5,(ow 0 0 l29)),(7,(ow 1 0 l30)),(156,(ls Aj p1.heap)),(157,(i64 (Sh.len p1.heap))),(158,(i64 t34)),(186,(.bool (!decide (c54=1))))]) (st':=[(ro 0 3 1 eI l29),(ro 0 3 1 eI l30)]) (st1:=[(ro 0 3 1 eI l29),(ro 0 3 1 eI l30)]) [0,1] U .nil (by decide) rfl U (.pure (AL fun _=>U) (.pure (AL fun _=>U) .nil)) ⟨.rfl,.rfl,.rfl,.rfl,.rfl,.rfl,trivial⟩))
          ·refine ys b53 U ?_
           iterate 4 refine ys b53 rfl ?_
           refine Dk (v:=(.bool false)) (A9 U U U) rfl (CE U b53 U) (yf U U ?_)
           exact BP (M45 false (Sh.AA h2).symm _ (AN (L:=[(5,(ow 0 0 l29)),(7,(ow 1 0 l30)),(156,(ls Aj p1.heap)),(157,(i64 (Sh.len p1.heap))),(158,(i64 t34)),(186,(.bool false))]) (st':=[(ro 0 3 1 eI l29),(ro 0 3 1 eI l30)]) (st1:=[(ro 0 3 1 eI l29),(ro 0 3 1 eI l30)]) [0,1] U .nil (by decide) rfl U (.pure (AL fun _=>U) (.pure (AL fun _=>U) .nil)) ⟨.rfl,.rfl,.rfl,.rfl,.rfl,.rfl,trivial⟩))
        ·intro b39 h1
         exact Ac (M35 () (Sh.AA h1).symm _ (AR _ U))
       refine AJ (AX (σ:=Int×(List Int)×(List Int)) (fun n v=>BS N p0 p1 n v.1 v.2.1 v.2.2=some o31) (fun (t26,l27,l28)=>⟨188,AS [(2,(.ptr 0 0 0 0)),(3,(.ptr 1 0 0 0)),(5,(ow 2 0 l27)),(7,(ow 3 0 l28)),(93,(ls Ax p1.AT)),(94,(i64 (Sh.len p1.AT))),(95,(i64 t26))],[⟨0,37,2,[(Ao p0)]⟩,⟨0,42,7,[(Ah p1)]⟩,(ro 0 3 1 eI l27),(ro 0 3 1 eI l28)]⟩) N (0,q15.1,l23) h1 (AE U) (fun _ hv=>by rw[BS] at hv;cases hv) ?_)
       rintro n ⟨t26,l27,l28⟩ h1
       try dsimp only at h1 ⊢
       rw[BS] at h1
       refine zr tb U U (AB fun K56 hK56=>?_)
       refine ci h1 U ?_ ?_ <;> clear h1
       ·intro b57 h1
        refine AG (hK56 _ (AB fun K58 hK58=>AJ (sr U fun K59 hK59=>zq tb U (bs h1 fun c60 gc60 h1=>zx Gf gc60 U U U (zq tb U (BF (m:=4) Aa SL U U (zq tb U (A7 Aa QO U U U U U U (show 0+6≤6 by decide) rfl (dn hK59 U ?_)))))))))
        refine AB fun K61 hK61=>sr U fun K62 hK62=>zm tb 2 U (bs h1 fun q63 gq63 h1=>zc fO (NQ gq63) rfl U U (zq tb U (dn hK62 U ?_)))
        refine ci h1 U ?_ ?_ <;> clear h1
        ·intro b64 h1
         have b65:q63=false:=by simpa using b64
         refine zr tb U U ?_
         replace h1:=Sh.AA h1
         subst o31
         try dsimp only[id] at h0
         replace h0:=Sh.AA h0
         subst r
         exact AH (xr (AR [(4,(.bool false))] U))
        ·intro b64 h1
         have b67:q63=true:=by simpa using b64
         refine AG (hK61 _ (AB fun K68 hK68=>AB fun K69 hK69=>bs h1 fun o71 h2 h1=>?_))
         have M71 :∀(t70:Bool),o71=t70→∀s,Wk 0 s ⟨188,AS [(2,(.ptr 0 0 0 0)),(3,(.ptr 1 0 0 0)),(5,(ow 2 0 l27)),(7,(ow 3 0 l28)),(9,(.ptr 4 0 0 0)),(93,(ls Ax p1.AT)),(94,(i64 (Sh.len p1.AT))),(95,(i64 t26)),(146,(.bool t70))],[⟨0,37,2,[(Ao p0)]⟩,⟨0,42,7,[(Ah p1)]⟩,(ro 0 3 1 eI l27),(ro 0 3 1 eI l28),⟨0,94,6,[(Ax c60)]⟩]⟩→K69 s:=by
          intro t70 hq s hw
          subst o71
          try dsimp only at h1
          refine hK69 _ (AI hw ?_)
          refine ci h1 U ?_ ?_ <;> clear h1
          ·intro b72 h1
           refine zr tb U U ?_
           replace h1:=Sh.AA h1
           subst o31
           try dsimp only[id] at h0
           replace h0:=Sh.AA h0
           subst r
           exact AH (xr (AR [(4,(.bool false))] U))
          ·intro b72 h1
           refine AG (hK68 _ (sr U fun K74 hK74=>zm tb 5 U (bs h1 fun q75 gq75 h1=>?_)))
           refine CL (rowsP:=[⟨0,3,1,List.map eI l27⟩,⟨0,3,1,List.map eI l28⟩]) (rows0:=[⟨0,3,1,List.map eI l27⟩,⟨0,3,1,List.map eI l28⟩]) (rows1:=[⟨0,3,1,List.map eI q75.2.1⟩,⟨0,3,1,List.map eI q75.2.2⟩]) (rows2:=[]) (rows1':=[⟨0,3,1,List.map eI q75.2.1⟩,⟨0,3,1,List.map eI q75.2.2⟩]) (rows2':=[]) (st':=[⟨0,37,2,[(Ao p0)]⟩,⟨0,42,7,[(Ah p1)]⟩,⟨0,3,1,List.map eI q75.2.1⟩,⟨0,3,1,List.map eI q75.2.2⟩,⟨0,94,6,[(Ax c60)]⟩]) (v':=(.bool q75.1)) [2,3] Aa cP (L9 gq75) rfl (by decide) rfl U (.pure (AL fun _=>U) (.pure (AL fun _=>U) .nil)) rfl U (.pure (AL fun _=>U) (.pure (AL fun _=>U) .nil)) .nil U U (fun hln=>?_)
           have ln76:List.length q75.2.1=List.length l27:=by simpa only[List.length_map] using hln 0 _ _ rfl rfl rfl
           have ln77:List.length q75.2.2=List.length l28:=by simpa only[List.length_map] using hln 1 _ _ rfl rfl rfl
           refine zq tb U (dn hK74 U ?_)
           refine ci h1 U ?_ ?_ <;> clear h1
           ·intro b78 h1
            have b79:q75.1=false:=by simpa using b78
            refine zr tb U U ?_
            replace h1:=Sh.AA h1
            subst o31
            try dsimp only[id] at h0
            replace h0:=Sh.AA h0
            subst r
            exact AH (xr (AR [(4,(.bool false))] U))
           ·intro b78 h1
            have b81:q75.1=true:=by simpa using b78
            refine AG (hK58 _ (AF U (zm tb 2 U ?_)))
            exact AD (xi (Sh.w (t26+1),q75.2.1,q75.2.2) h1 (by refine Wk.trans (AN (L:=[(2,(.ptr 0 0 0 0)),(3,(.ptr 1 0 0 0)),(5,(.own 2 0 (List.length l27))),(7,(.own 3 0 (List.length l28))),(93,(.sl (List.map Ax p1.AT))),(94,(i64 (Sh.len p1.AT))),(95,(i64 (Sh.w (t26+1))))]) (st':=[⟨0,37,2,[(Ao p0)]⟩,⟨0,42,7,[(Ah p1)]⟩,⟨0,3,1,List.map eI q75.2.1⟩,⟨0,3,1,List.map eI q75.2.2⟩]) (st1:=[⟨0,37,2,[(Ao p0)]⟩,⟨0,42,7,[(Ah p1)]⟩,⟨0,3,1,List.map eI q75.2.1⟩,⟨0,3,1,List.map eI q75.2.2⟩]) [0,1,2,3] U .nil (by decide) rfl U (.raw U U (.raw U U (.pure (AL fun _=>U) (.pure (AL fun _=>U) .nil)))) ⟨.rfl,.rfl,.rfl,.rfl,.rfl,.rfl,.rfl,trivial⟩) ?_;exact AM (L:=[(2,(.ptr 0 0 0 0)),(3,(.ptr 1 0 0 0)),(5,(.own 2 0 (List.length q75.2.1))),(7,(.own 3 0 (List.length q75.2.2))),(93,(.sl (List.map Ax p1.AT))),(94,(i64 (Sh.len p1.AT))),(95,(i64 (Sh.w (t26+1))))]) ⟨.rfl,.rfl,(.len (by first | (simp only[Sh.Af];done) | (simp only[Sh.Af];omega) | omega)),(.len (by first | (simp only[Sh.Af];done) | (simp only[Sh.Af];omega) | omega)),.rfl,.rfl,.rfl,trivial⟩))
         refine B1 (by kernel_rfl) (by kernel_rfl) (by rfl) ?_
         iterate 3 refine yq tb rfl ?_
         rcases Sh.AP h2 with ⟨b82,h2⟩ | ⟨b82,h2⟩
         ·refine yg tb b82 U ?_
          iterate 2 refine yg tb b82 rfl ?_
          refine yt b82 U (yq tb U ?_)
          rcases Sh.AP h2 with ⟨b83,h2⟩ | ⟨b83,h2⟩
          ·refine ys b83 U ?_
           iterate 2 refine ys b83 rfl ?_
           iterate 30 refine yn rfl ?_
           exact ys b83 U (yt b83 U (BP (M71 true (Sh.AA h2).symm _ (AE U))))
          ·refine yg tb b83 U ?_
           iterate 2 refine yg tb b83 rfl ?_
           rcases Sh.AP h2 with ⟨b84,h2⟩ | ⟨b84,h2⟩
           ·refine yg tb b84 U ?_
            iterate 3 refine yg tb b84 rfl ?_
            rcases Sh.AP h2 with ⟨b85,h2⟩ | ⟨b85,h2⟩
            ·refine ys b85 U ?_
             iterate 10 refine ys b85 rfl ?_
             refine Dk (v:=(.bool true)) (A9 U U b84) rfl (Br U b85 U) (yg tb b84 U ?_)
             iterate 12 refine ys rfl rfl ?_
             exact Dk (v:=(.bool true)) (A9 U U b84) rfl (Br U U U) (Dk (v:=(.bool true)) (A9 U U b83) rfl (Br U b84 U) (yf b83 U (BP (M71 true (Sh.AA h2).symm _ (AE U)))))
            ·refine yg tb b85 U ?_
             iterate 5 refine yg tb b85 rfl ?_
             refine bs h2 fun c86 gc86 h2=>Dk (v:=(.Bi (Ax c86) 0)) (A9 U U b85) rfl (Bh Gf U U gc86 U) ?_
             iterate 2 refine yg tb b85 rfl ?_
             refine Dk (v:=(i64 (Sh.len c86.own))) (A9 U U b85) rfl (BL EE U) (yg tb b85 U (Dk (v:=(.bool (decide ((Sh.len c86.own)≤c60.dst)))) (A9 U U b84) rfl (CE U b85 U) (yg tb b84 U ?_)))
             rcases Sh.AP h2 with ⟨b87,h2⟩ | ⟨b87,h2⟩
             ·refine ys b87 U ?_
              iterate 11 refine ys b87 rfl ?_
              exact Dk (v:=(.bool true)) (A9 U U b84) rfl (Br U b87 U) (Dk (v:=(.bool true)) (A9 U U b83) rfl (Br U b84 U) (yf b83 U (BP (M71 true (Sh.AA h2).symm _ (AE U)))))
             ·refine yg tb b87 U ?_
              iterate 3 refine yg tb b87 rfl ?_
              refine Dk (v:=(.Bi (Ax c86) 0)) (A9 U U b87) rfl (Bh Gf U U gc86 U) ?_
              iterate 4 refine yg tb b87 rfl ?_
              refine bs h2 fun c88 gc88 h2=>Dk (v:=(.Bi (eI c88) 0)) (A9 U U b87) rfl (Bh A2 U U gc88 U) ?_
              iterate 2 refine yg tb b87 rfl ?_
              exact Dk (v:=(.bool (!decide (c88=0)))) (A9 U U b84) rfl (CE U b87 U) (Dk (v:=(.bool (!decide (c88=0)))) (A9 U U b83) rfl (Br U b84 U) (yf b83 U (BP (M71 (!decide (c88=0)) (Sh.AA h2).symm _ (AE U)))))
           ·refine ys b84 U ?_
            iterate 3 refine ys b84 rfl ?_
            iterate 11 refine yn rfl ?_
            iterate 2 refine ys b84 rfl ?_
            iterate 12 refine yn rfl ?_
            exact ys b84 U (Dk (v:=(.bool false)) (A9 U U b83) rfl (CE U b84 U) (yf b83 U (BP (M71 false (Sh.AA h2).symm _ (AE U)))))
         ·refine ys b82 U ?_
          iterate 2 refine ys b82 rfl ?_
          refine yf b82 U (yq tb U ?_)
          iterate 3 refine yg tb rfl rfl ?_
          rcases Sh.AP h2 with ⟨b89,h2⟩ | ⟨b89,h2⟩
          ·refine yg tb b89 U ?_
           iterate 3 refine yg tb b89 rfl ?_
           rcases Sh.AP h2 with ⟨b90,h2⟩ | ⟨b90,h2⟩
           ·refine ys b90 U ?_
            iterate 10 refine ys b90 rfl ?_
            refine Dk (v:=(.bool true)) (A9 U U b89) rfl (Br U b90 U) (yg tb b89 U ?_)
            iterate 12 refine ys rfl rfl ?_
            exact Dk (v:=(.bool true)) (A9 U U b89) rfl (Br U U U) (Dk (v:=(.bool true)) (A9 U U U) rfl (Br U b89 U) (yf U U (BP (M71 true (Sh.AA h2).symm _ (AE U)))))
           ·refine yg tb b90 U ?_
            iterate 5 refine yg tb b90 rfl ?_
            refine bs h2 fun c91 gc91 h2=>Dk (v:=(.Bi (Ax c91) 0)) (A9 U U b90) rfl (Bh Gf U U gc91 U) ?_
            iterate 2 refine yg tb b90 rfl ?_
            refine Dk (v:=(i64 (Sh.len c91.own))) (A9 U U b90) rfl (BL EE U) (yg tb b90 U (Dk (v:=(.bool (decide ((Sh.len c91.own)≤c60.dst)))) (A9 U U b89) rfl (CE U b90 U) (yg tb b89 U ?_)))
            rcases Sh.AP h2 with ⟨b92,h2⟩ | ⟨b92,h2⟩
            ·refine ys b92 U ?_
             iterate 11 refine ys b92 rfl ?_
             exact Dk (v:=(.bool true)) (A9 U U b89) rfl (Br U b92 U) (Dk (v:=(.bool true)) (A9 U U U) rfl (Br U b89 U) (yf U U (BP (M71 true (Sh.AA h2).symm _ (AE U)))))
            ·refine yg tb b92 U ?_
             iterate 3 refine yg tb b92 rfl ?_
             refine Dk (v:=(.Bi (Ax c91) 0)) (A9 U U b92) rfl (Bh Gf U U gc91 U) ?_
             iterate 4 refine yg tb b92 rfl ?_
             refine bs h2 fun c93 gc93 h2=>Dk (v:=(.Bi (eI c93) 0)) (A9 U U b92) rfl (Bh A2 U U gc93 U) ?_
             iterate 2 refine yg tb b92 rfl ?_
             exact Dk (v:=(.bool (!decide (c93=0)))) (A9 U U b89) rfl (CE U b92 U) (Dk (v:=(.bool (!decide (c93=0)))) (A9 U U U) rfl (Br U b89 U) (yf U U (BP (M71 (!decide (c93=0)) (Sh.AA h2).symm _ (AE U)))))
          ·refine ys b89 U ?_
           iterate 3 refine ys b89 rfl ?_
           iterate 11 refine yn rfl ?_
           iterate 2 refine ys b89 rfl ?_
           iterate 12 refine yn rfl ?_
           exact ys b89 U (Dk (v:=(.bool false)) (A9 U U U) rfl (CE U b89 U) (yf U U (BP (M71 false (Sh.AA h2).symm _ (AE U)))))
       ·intro b57 h1
        exact Ac (M31 l27 l28 (Sh.AA h1).symm _ (AN (L:=[(3,(.ptr 0 0 0 0)),(5,(ow 1 0 l27)),(7,(ow 2 0 l28))]) (st':=[⟨0,42,7,[(Ah p1)]⟩,(ro 0 3 1 eI l27),(ro 0 3 1 eI l28)]) (st1:=[⟨0,42,7,[(Ah p1)]⟩,(ro 0 3 1 eI l27),(ro 0 3 1 eI l28)]) [1,2,3] U .nil (by decide) rfl U (.raw U U (.pure (AL fun _=>U) (.pure (AL fun _=>U) .nil))) ⟨.rfl,.rfl,.rfl,trivial⟩))
     refine AF U (zm tb 3 U ?_)
     rcases Sh.AP h1 with ⟨b94,h1⟩ | ⟨b94,h1⟩
     ·exact zs b94 U (zs b94 U (zs b94 U (zt b94 U (AD (M19 true (Sh.AA h1).symm _ (AE U))))))
     ·exact zg tb b94 U (zg tb b94 U (bs h1 fun q95 gq95 h1=>zd b94 YH (IK gq95) rfl U U U (zf b94 U (AD (M19 q95 (Sh.AA h1).symm _ (AE U))))))
   refine AF U (zm tb 4 U ?_)
   rcases Sh.AP h1 with ⟨b96,h1⟩ | ⟨b96,h1⟩
   ·refine zs b96 U (zs b96 U (zs b96 U (zt b96 U (zq tb U ?_))))
    iterate 3 refine zs rfl rfl ?_
    refine zt U U (zq tb U ?_)
    iterate 5 refine zs rfl rfl ?_
    refine zt U U (zq tb U ?_)
    iterate 7 refine zs rfl rfl ?_
    exact zt U U (AD (M11 true (Sh.AA h1).symm _ (AE U)))
   ·refine zg tb b96 U (zg tb b96 U (zg tb b96 U (zf b96 U (zq tb U ?_))))
    rcases Sh.AP h1 with ⟨b97,h1⟩ | ⟨b97,h1⟩
    ·refine zs b97 U (zs b97 U (zs b97 U (zt b97 U (zq tb U ?_))))
     iterate 5 refine zs rfl rfl ?_
     refine zt U U (zq tb U ?_)
     iterate 7 refine zs rfl rfl ?_
     exact zt U U (AD (M11 true (Sh.AA h1).symm _ (AE U)))
    ·refine zg tb b97 U (zg tb b97 U (zg tb b97 U (zf b97 U (zq tb U ?_))))
     rcases Sh.AP h1 with ⟨b98,h1⟩ | ⟨b98,h1⟩
     ·refine zs b98 U ?_
      iterate 4 refine zs b98 rfl ?_
      refine zt b98 U (zq tb U ?_)
      iterate 7 refine zs rfl rfl ?_
      exact zt U U (AD (M11 true (Sh.AA h1).symm _ (AE U)))
     ·refine zg tb b98 U ?_
      iterate 4 refine zg tb b98 rfl ?_
      refine zf b98 U (zq tb U ?_)
      rcases Sh.AP h1 with ⟨b99,h1⟩ | ⟨b99,h1⟩
      ·refine zs b99 U ?_
       iterate 6 refine zs b99 rfl ?_
       exact zt b99 U (AD (M11 true (Sh.AA h1).symm _ (AE U)))
      ·refine zg tb b99 U (zg tb b99 U (A5 (v:=(i64 (Sh.len p1.AT))) (A9 U U b99) rfl (BL XL U) ?_))
       iterate 4 refine zg tb b99 rfl ?_
       exact zf b99 U (AD (M11 (decide ((Sh.w (p1.calls+1)) < (Sh.len p1.AT))) (Sh.AA h1).symm _ (AE U)))
 refine AF U (zm tb 4 U ?_)
 rcases Sh.AP h1 with ⟨b100,h1⟩ | ⟨b100,h1⟩
 ·refine zs b100 U (zs b100 U (zs b100 U (zt b100 U (zq tb U ?_))))
  iterate 8 refine zs rfl rfl ?_
  refine zt U U (zq tb U ?_)
  iterate 4 refine zs rfl rfl ?_
  refine zt U U (zq tb U ?_)
  iterate 4 refine zs rfl rfl ?_
  iterate 3 refine zn rfl ?_
  exact zs U U (zt U U (AD (M5 true (Sh.AA h1).symm _ (AE U))))
 ·refine zg tb b100 U (zg tb b100 U (zg tb b100 U (zf b100 U (zq tb U ?_))))
  rcases Sh.AP h1 with ⟨b101,h1⟩ | ⟨b101,h1⟩
  ·refine zs b101 U ?_
   iterate 7 refine zs b101 rfl ?_
   refine zt b101 U (zq tb U ?_)
   iterate 4 refine zs rfl rfl ?_
   refine zt U U (zq tb U ?_)
   iterate 4 refine zs rfl rfl ?_
   iterate 3 refine zn rfl ?_
   exact zs U U (zt U U (AD (M5 true (Sh.AA h1).symm _ (AE U))))
  ·refine zg tb b101 U ?_
   iterate 4 refine zg tb b101 rfl ?_
   refine A5 (v:=(i64 (Sh.len p1.AT))) (A9 U U b101) rfl (BL XL U) (zg tb b101 U (zg tb b101 U (zf b101 U (zq tb U ?_))))
   rcases Sh.AP h1 with ⟨b102,h1⟩ | ⟨b102,h1⟩
   ·refine zs b102 U ?_
    iterate 3 refine zs b102 rfl ?_
    refine zt b102 U (zq tb U ?_)
    iterate 4 refine zs rfl rfl ?_
    iterate 3 refine zn rfl ?_
    exact zs U U (zt U U (AD (M5 true (Sh.AA h1).symm _ (AE U))))
   ·refine zg tb b102 U (zg tb b102 U (bs h1 fun q103 gq103 h1=>zd b102 XK (Iw gq103) rfl U U U (zg tb b102 U (zf b102 U (zq tb U ?_)))))
    rcases Sh.AP h1 with ⟨b104,h1⟩ | ⟨b104,h1⟩
    ·refine zs b104 U ?_
     iterate 3 refine zs b104 rfl ?_
     iterate 3 refine zn rfl ?_
     exact zs b104 U (zt b104 U (AD (M5 true (Sh.AA h1).symm _ (AE U))))
    ·refine zg tb b104 U ?_
     iterate 3 refine zg tb b104 rfl ?_
     rcases Sh.AP h1 with ⟨b105,h1⟩ | ⟨b105,h1⟩
     ·exact zg tb b105 U (zg tb b105 U (zg tb b105 U (A5 (v:=(.bool (!decide (p1.status=0)))) (A9 U U b104) rfl (Br U b105 U) (zf b104 U (AD (M5 (!decide (p1.status=0)) (Sh.AA h1).symm _ (AE U)))))))
     ·exact zs b105 U (zs b105 U (zs b105 U (A5 (v:=(.bool false)) (A9 U U b104) rfl (CE U b105 U) (zf b104 U (AD (M5 false (Sh.AA h1).symm _ (AE U)))))))
theorem NO {N:Nat} {p0:Au} {p1:Av} {r:Bool} (h0:FM N p0 p1=some r):AY Tryz.prog 33 [(.agg (Ao p0)),(.agg (Ah p1))] [] (fun v st=>v=(.bool r)∧st=[]):=by
 unfold FM at h0
 refine ai Tryz.func33 U U U U (sr U fun K1 hK1=>A8 (m:=0) Aa U U U U U (A8 (m:=1) Aa U U U U U (zq tb U (dn hK1 U (AB fun K2 hK2=>bs h0 fun o4 h1 h0=>?_)))))
 have M4 :∀(t3:Bool),o4=t3→∀s,Wk 0 s ⟨12,AS [(4,(.bool t3))],[]⟩→K2 s:=by
  intro t3 hq s hw
  subst o4
  try dsimp only at h0
  refine hK2 _ (AI hw ?_)
  replace h0:=Sh.AA h0
  subst r
  exact AH (xr (AM (L:=[(4,(.bool t3))]) ⟨.rfl,trivial⟩))
 refine AF U (zq tb U (bs h1 fun q5 gq5 h1=>zc eL (My gq5) rfl U U (zq tb U ?_)))
 rcases Sh.AP h1 with ⟨b6,h1⟩ | ⟨b6,h1⟩
 ·exact zg tb b6 U (zg tb b6 U (bs h1 fun q7 gq7 h1=>zd b6 fC (NG gq7) rfl U U U (zt b6 U (zq tb U (AD (M4 q7 (Sh.AA h1).symm _ (AR _ U)))))))
 ·exact zs b6 U (zs b6 U (zs b6 U (zf b6 U (zq tb U (AD (M4 false (Sh.AA h1).symm _ (AR _ U)))))))
theorem L6 {p0:Ag} {p1:Int} {r:(List Int)} (h0:Fi p0 p1=some r):AY Tryz.prog 101 [(.agg (AU p0)),(i64 p1)] [] (fun v st=>v=(ls eI r)∧st=[]):=by
 unfold Fi at h0
 refine ai Tryz.func101 U U U U (sr U fun K1 hK1=>A8 (m:=0) Aa U U U U U (zq tb U (dn hK1 U (AB fun K2 hK2=>zr tb U U (AJ (zr tb U U ?_))))))
 refine ci h0 U ?_ ?_ <;> clear h0
 ·intro b5 h0
  refine sr U fun K6 hK6=>zm tb 2 U ?_
  refine DO (m:=1) (l:=[p0.num]) (enc:=eI) Aa A2 (by decide) rfl U U U U U ?_
  refine zq tb U (dn hK6 U ?_)
  replace h0:=Sh.AA h0
  subst r
  exact AH (Exists.intro ⟨29,AS [(4,(ls eI [p0.num]))],[]⟩ (And.intro (by refine Wk.trans (Wk.EW (L:=[(4,(ls eI [p0.num]))]) (st':=[⟨0,132,6,[(AU p0)]⟩,⟨1,3,1,[]⟩]) (id:=1) rfl (show 0≤1 by decide) (AL fun _=>U) ⟨(.EW U),trivial⟩ U) ?_;refine Wk.trans (AN (L:=[(4,(ls eI [p0.num]))]) (st':=[]) (st1:=[]) [] U .nil (by decide) rfl U .nil ⟨.rfl,trivial⟩) ?_;exact AM (L:=[(4,(ls eI [p0.num]))]) ⟨.rfl,trivial⟩) (And.intro U U)))
 ·intro b5 h0
  refine zr tb U U ?_
  refine ci h0 U ?_ ?_ <;> clear h0
  ·intro b8 h0
   refine sr U fun K9 hK9=>zm tb 4 U ?_
   refine DO (m:=1) (l:=[Sh.w (p1+1),p0.num]) (enc:=eI) Aa A2 (by decide) rfl U U U U U ?_
   refine zq tb U (dn hK9 U ?_)
   replace h0:=Sh.AA h0
   subst r
   exact AH (Exists.intro ⟨29,AS [(4,(ls eI [Sh.w (p1+1),p0.num]))],[]⟩ (And.intro (by refine Wk.trans (Wk.EW (L:=[(4,(ls eI [Sh.w (p1+1),p0.num]))]) (st':=[⟨0,132,6,[(AU p0)]⟩,⟨1,3,1,[]⟩]) (id:=1) rfl (show 0≤1 by decide) (AL fun _=>U) ⟨(.EW U),trivial⟩ U) ?_;refine Wk.trans (AN (L:=[(4,(ls eI [Sh.w (p1+1),p0.num]))]) (st':=[]) (st1:=[]) [] U .nil (by decide) rfl U .nil ⟨.rfl,trivial⟩) ?_;exact AM (L:=[(4,(ls eI [Sh.w (p1+1),p0.num]))]) ⟨.rfl,trivial⟩) (And.intro U U)))
  ·intro b8 h0
   refine zr tb U U ?_
   refine ci h0 U ?_ ?_ <;> clear h0
   ·intro b11 h0
    refine zr tb U U ?_
    replace h0:=Sh.AA h0
    subst r
    exact AH (xr (AR [(4,(ls eI p0.jumps))] U))
   ·intro b11 h0
    refine AB fun K13 hK13=>bs h0 fun o15 h1 h0=>?_
    have M15 :∀(t14:Bool),o15=t14→∀s,Wk 0 s ⟨29,AS [(1,(i64 p1)),(23,(.bool t14))],[]⟩→K13 s:=by
     intro t14 hq s hw
     subst o15
     try dsimp only at h0
     refine hK13 _ (AI hw ?_)
     refine ci h0 U ?_ ?_ <;> clear h0
     ·intro b16 h0
      refine zr tb U U ?_
      replace h0:=Sh.AA h0
      subst r
      exact AH (Exists.intro ⟨29,AS [(4,(.sl (List.map eI [])))],[]⟩ (And.intro (AM (L:=[(4,(.sl (List.map eI [])))]) ⟨.zc,trivial⟩) (And.intro U U)))
     ·intro b16 h0
      refine AG (hK2 _ (sr U fun K18 hK18=>zm tb 2 U ?_))
      refine DO (m:=0) (l:=[Sh.w (p1+1)]) (enc:=eI) Aa A2 (by decide) rfl U U U U U ?_
      refine zq tb U (dn hK18 U ?_)
      replace h0:=Sh.AA h0
      subst r
      exact AH (Exists.intro ⟨29,AS [(4,(ls eI [Sh.w (p1+1)]))],[]⟩ (And.intro (by refine Wk.trans (Wk.EW (L:=[(4,(ls eI [Sh.w (p1+1)]))]) (st':=[⟨1,3,1,[]⟩]) (id:=0) rfl (show 0≤0 by decide) (AL fun _=>U) ⟨(.EW U),trivial⟩ U) ?_;refine Wk.trans (AN (L:=[(4,(ls eI [Sh.w (p1+1)]))]) (st':=[]) (st1:=[]) [] U .nil (by decide) rfl U .nil ⟨.rfl,trivial⟩) ?_;exact AM (L:=[(4,(ls eI [Sh.w (p1+1)]))]) ⟨.rfl,trivial⟩) (And.intro U U)))
    refine zr tb U U ?_
    refine ci h1 U ?_ ?_ <;> clear h1
    ·intro b20 h1
     exact AG (M15 true (Sh.AA h1).symm _ (by refine Wk.trans (AN (L:=[(1,(i64 p1)),(23,(.bool (decide (p0.op=23))))]) (st':=[]) (st1:=[]) [] U .nil (by decide) rfl U .nil ⟨.rfl,.rfl,trivial⟩) ?_;exact AM (L:=[(1,(i64 p1)),(23,(.bool true))]) ⟨.rfl,(.of (congrArg AV.bool b20)),trivial⟩))
    ·intro b20 h1
     exact AF U (zm tb 2 U (AD (M15 (decide (p0.op=24)) (Sh.AA h1).symm _ (AR _ U))))
theorem Jy {N:Nat} {p0:(List Bool)} {r:(List Int)} (h0:E8 N p0=some r):AY Tryz.prog 103 [(ls eB p0)] [] (fun v st=>v=(ow 0 0 r)∧st=[(ro 0 3 1 eI r)]):=by
 unfold E8 at h0
 refine ai Tryz.func103 U U U U ?_
 iterate 2 refine zr tb rfl rfl ?_
 refine AB fun K3 hK3=>sr U fun K4 hK4=>zq tb U (zl tb U U (zq tb U (dn hK4 U (bs h0 fun o8 h1 h0=>?_))))
 have M8 :∀(l7:(List Int)),o8=l7→∀s,Wk 0 s ⟨20,AS [(3,(ow 0 0 l7))],[(ro 0 3 1 eI l7)]⟩→K3 s:=by
  intro l7 hq s hw
  subst o8
  try dsimp only at h0
  refine hK3 _ (AI hw (zr tb U U ?_))
  replace h0:=Sh.AA h0
  subst r
  exact AH (xr (AM (L:=[(2,(ow 0 0 l7))]) ⟨.rfl,trivial⟩))
 refine AJ (AX (σ:=Int×(List Int)) (fun n v=>Cs p0 n v.1 v.2=some o8) (fun (t5,l6)=>⟨20,AS [(3,(ow 0 0 l6)),(6,(ls eB p0)),(7,(i64 (Sh.len p0))),(8,(i64 t5))],[(ro 0 3 1 eI l6)]⟩) N (0,[]) h1 ((EM (t:=3) rfl 3 (size:=1) (by decide)).trans (AM (L:=[(3,(.own 0 0 (List.length ([]:List Int)))),(6,(ls eB p0)),(7,(i64 (Sh.len p0))),(8,(i64 0))]) ⟨.rfl,.rfl,.rfl,.rfl,trivial⟩)) (fun _ hv=>by rw[Cs] at hv;cases hv) ?_)
 rintro n ⟨t5,l6⟩ h1
 try dsimp only at h1 ⊢
 rw[Cs] at h1
 refine zr tb U U (AB fun K11 hK11=>?_)
 refine ci h1 U ?_ ?_ <;> clear h1
 ·intro b12 h1
  refine AG (hK11 _ (AB fun K13 hK13=>bs h1 fun o15 h2 h1=>?_))
  have M15 :∀(l14:(List Int)),o15=l14→∀s,Wk 0 s ⟨20,AS [(3,(ow 0 0 l14)),(6,(ls eB p0)),(7,(i64 (Sh.len p0))),(8,(i64 t5))],[(ro 0 3 1 eI l14)]⟩→K13 s:=by
   intro l14 hq s hw
   subst o15
   try dsimp only at h1
   exact hK13 _ (AI hw (AF U (zm tb 2 U (AD (xi (Sh.w (t5+1),l14) h1 (AE U))))))
  refine AJ (sr U fun K16 hK16=>zq tb U (bs h2 fun c17 gc17 h2=>zx IQ gc17 U U U (zm tb 3 U (dn hK16 U (zr tb U U ?_)))))
  refine ci h2 U ?_ ?_ <;> clear h2
  ·intro b19 h2
   refine AF U (zm tb 2 U ?_)
   refine DO (m:=1) (l:=[t5]) (enc:=eI) Aa A2 (by decide) rfl U U U U U ?_
   refine bs h2 fun l20 gl20 h2=>Ex (l2:=[t5]) Aa A2 U U U U (J0 U U) (fun _=>U) gl20 U (zq tb U ?_)
   exact AD (M15 l20 (Sh.AA h2).symm _ (by refine Wk.trans (Cf (L:=[(3,(ow 0 0 l20)),(6,(ls eB p0)),(7,(i64 (Sh.len p0))),(8,(i64 t5))]) (st':=[(ro 0 3 1 eI l20),(ro 0 3 1 eI [t5])]) (.pure (AL fun _=>U) (.pure (AL fun _=>U) .nil)) ⟨.rfl,.rfl,.rfl,.rfl,trivial⟩) ?_;exact AN (L:=[(3,(ow 0 0 l20)),(6,(ls eB p0)),(7,(i64 (Sh.len p0))),(8,(i64 t5))]) (st':=[(ro 0 3 1 eI l20)]) (st1:=[(ro 0 3 1 eI l20)]) [0] U .nil (by decide) rfl U (.pure (AL fun _=>U) .nil) ⟨.rfl,.rfl,.rfl,.rfl,trivial⟩))
  ·intro b19 h2
   exact AG (M15 l6 (Sh.AA h2).symm _ (AE U))
 ·intro b12 h1
  exact Ac (M8 l6 (Sh.AA h1).symm _ (AE U))
theorem Ox {N:Nat} {p0:Au} {p1:Int} {p2:Int} {r:(List Int)} (h0:HF N p0 p1 p2=some r):AY Tryz.prog 67 [(.agg (Ao p0)),(i64 p1),(i64 p2)] [] (fun v st=>v=(ow 0 0 r)∧st=[(ro 0 3 1 eI r)]):=by
 unfold HF at h0
 refine ai Tryz.func67 U U U U (sr U fun K1 hK1=>A8 (m:=0) Aa U U U U U (zq tb U (dn hK1 U (sr U fun K2 hK2=>zm tb 3 U (bs h0 fun c3 gc3 h0=>zx IC gc3 U U U (zq tb U (BF (m:=1) Aa RF U U (A7 Aa QQ U U U U U U (show 0+5≤5 by decide) rfl ?_))))))))
 refine dn hK2 U (sr U fun K4 hK4=>zm tb 2 U (zl tb U U (bs h0 fun l5 gl5 h0=>GU (m:=2) (enc:=(eS eB)) (u:=[]) Aa MK U U U gl5 U U (zq tb U (dn hK4 U (AB fun K6 hK6=>sr U fun K7 hK7=>zm tb 2 U (zl tb U U ?_)))))))
 refine zm tb 2 U (dn hK7 U (bs h0 fun o11 h1 h0=>?_))
 have M11 :∀(l10:(List (List Bool))),o11=l10→∀s,Wk 0 s ⟨119,AS [(2,(i64 p2)),(8,(ow 0 0 l10))],[(ro 0 92 1 (eS eB) l10)]⟩→K6 s:=by
  intro l10 hq s hw
  subst o11
  try dsimp only at h0
  refine hK6 _ (AI hw (sr U fun K12 hK12=>zm tb 2 U (bs h0 fun c13 gc13 h0=>zz (.ptr 0 0 (Int.toNat p2) 0) (BD MK U U U U gc13) rfl (zz (ls eB c13) (Bf RK U U (Bp gc13) rfl) rfl (bs h0 fun q14 gq14 h0=>BN (v':=(ow 1 0 q14)) Aa Yh (Jy gq14) rfl U ⟨(BB fun _=>U),trivial⟩ U U (zq tb U (dn hK12 U ?_)))))))
  replace h0:=Sh.AA h0
  subst r
  exact AH (xr (AN (L:=[(6,(ow 0 0 q14))]) (st':=[(ro 0 3 1 eI q14)]) (st1:=[(ro 0 3 1 eI q14)]) [1] U .nil (by decide) rfl U (.pure (AL fun _=>U) .nil) ⟨.rfl,trivial⟩))
 refine AJ (AX (σ:=Int×(List (List Bool))) (fun n v=>Du N c3 p2 n v.1 v.2=some o11) (fun (k8,l9)=>⟨119,AS [(2,(i64 p2)),(7,(.ptr 0 0 0 0)),(8,(ow 1 0 l9)),(9,(i64 k8))],[⟨0,99,5,[(Az c3)]⟩,(ro 0 92 1 (eS eB) l9)]⟩) N (Sh.w ((Sh.len c3.code) - 1),l5) h1 (AN (L:=[(2,(i64 p2)),(7,(.ptr 0 0 0 0)),(8,(ow 1 0 l5)),(9,(i64 (Sh.w ((Sh.len c3.code) - 1))))]) (st':=[⟨0,99,5,[(Az c3)]⟩,(ro 0 92 1 (eS eB) l5)]) (st1:=[⟨0,99,5,[(Az c3)]⟩,(ro 0 92 1 (eS eB) l5)]) [1,2] U .nil (by decide) rfl U (.raw U U (.pure (AL fun _=>U) .nil)) ⟨.rfl,.rfl,.rfl,.rfl,trivial⟩) (fun _ hv=>by rw[Du] at hv;cases hv) ?_)
 rintro n ⟨k8,l9⟩ h1
 try dsimp only at h1 ⊢
 rw[Du] at h1
 refine AB fun K15 hK15=>zr tb U U ?_
 refine ci h1 U ?_ ?_ <;> clear h1
 ·intro b17 h1
  refine AG (hK15 _ (AB fun K18 hK18=>bs h1 fun o20 h2 h1=>?_))
  have M20 :∀(l19:(List Bool)),o20=l19→∀s,Wk 0 s ⟨119,AS [(2,(i64 p2)),(7,(.ptr 0 0 0 0)),(8,(ow 1 0 l9)),(9,(i64 k8))],[⟨0,99,5,[(Az c3)]⟩,⟨0,92,1,hole l9 (eS eB) k8 [(ow 2 0 l19)]⟩,(ro 0 4 1 eB l19)]⟩→K18 s:=by
   intro l19 hq s hw
   subst o20
   try dsimp only at h1
   refine hK18 _ (AI hw (bs h1 fun c21 gc21 h1=>AF U (zm tb 3 U ?_)))
   exact AD (xi (Sh.w (k8 - 1),Sh.put l9 k8 l19) h1 (by refine Wk.trans (Wk.bS (id:=1) (m:=2) (i:=k8) (c:=c21) (ys:=l19) (encY:=eB) (u:=l19) (st':=[⟨0,99,5,[(Az c3)]⟩,⟨0,92,1,List.map (eS eB) (Sh.put l9 k8 l19)⟩,⟨1,4,1,[]⟩]) rfl gc21 U U (by decide) (show 0≤2 by decide) (AL fun _=>U) rfl U) ?_;refine Wk.trans (AN (L:=[(2,(i64 p2)),(7,(.ptr 0 0 0 0)),(8,(.own 1 0 (List.length l9))),(9,(i64 (Sh.w (k8 - 1))))]) (st':=[⟨0,99,5,[(Az c3)]⟩,⟨0,92,1,List.map (eS eB) (Sh.put l9 k8 l19)⟩]) (st1:=[⟨0,99,5,[(Az c3)]⟩,⟨0,92,1,List.map (eS eB) (Sh.put l9 k8 l19)⟩]) [0,1] U .nil (by decide) rfl U (.raw U U (.pure (AL fun _=>U) .nil)) ⟨.rfl,.rfl,.rfl,.rfl,trivial⟩) ?_;exact AM (L:=[(2,(i64 p2)),(7,(.ptr 0 0 0 0)),(8,(.own 1 0 (List.length (Sh.put l9 k8 l19)))),(9,(i64 (Sh.w (k8 - 1))))]) ⟨.rfl,.rfl,(.len (by simp only[Sh.Af])),.rfl,trivial⟩))
  refine AJ (sr U fun K22 hK22=>zm tb 3 U (bs h2 fun c23 gc23 h2=>zx IB gc23 U U U (zq tb U (BF (m:=2) Aa PX U U (A7 Aa N3 U U U U U U (show 0+6≤6 by decide) rfl (dn hK22 U (sr U fun K24 hK24=>zm tb 4 U (bs h2 fun l25 gl25 h2=>?_))))))))
  refine GU (m:=3) (enc:=eB) (u:=false) Aa IQ U U U gl25 U U (bs h2 fun c26 gc26 h2=>zz (.ptr 1 0 (Int.toNat k8) 0) (BD MK U U U U gc26) rfl (Le (st':=[⟨0,99,5,[(Az c3)]⟩,⟨0,92,1,hole l9 (eS eB) k8 [(ow 3 0 l25)]⟩,⟨0,132,6,[(AU c23)]⟩,(ro 0 4 1 eB l25)]) Aa RK U U gc26 U U U (show 1≤1 by decide) rfl U (dn hK24 U (AB fun K27 hK27=>sr U fun K28 hK28=>zm tb 2 U (bs h2 fun q29 gq29 h2=>zc cR (L6 gq29) rfl U U (zl tb U U (zq tb U ?_)))))))
  refine dn hK28 U (bs h2 fun o33 h3 h2=>?_)
  have M33 :∀(l32:(List Bool)),o33=l32→∀s,Wk 0 s ⟨119,AS [(2,(i64 p2)),(7,(.ptr 0 0 0 0)),(8,(ow 1 0 l9)),(9,(i64 k8)),(10,(.ptr 2 0 0 0))],[⟨0,99,5,[(Az c3)]⟩,⟨0,92,1,hole l9 (eS eB) k8 [(ow 3 0 l32)]⟩,⟨0,132,6,[(AU c23)]⟩,(ro 0 4 1 eB l32)]⟩→K27 s:=by
   intro l32 hq s hw
   subst o33
   try dsimp only at h2
   refine hK27 _ (AI hw (AB fun K34 hK34=>bs h2 fun o36 h3 h2=>?_))
   have M36 :∀(l35:(List Bool)),o36=l35→∀s,Wk 0 s ⟨119,AS [(2,(i64 p2)),(7,(.ptr 0 0 0 0)),(8,(ow 1 0 l9)),(9,(i64 k8)),(10,(.ptr 2 0 0 0))],[⟨0,99,5,[(Az c3)]⟩,⟨0,92,1,hole l9 (eS eB) k8 [(ow 3 0 l35)]⟩,⟨0,132,6,[(AU c23)]⟩,(ro 0 4 1 eB l35)]⟩→K34 s:=by
    intro l35 hq s hw
    subst o36
    try dsimp only at h2
    refine hK34 _ (AI hw (AB fun K37 hK37=>bs h2 fun o39 h3 h2=>?_))
    have M39 :∀(t38:Bool),o39=t38→∀s,Wk 0 s ⟨119,AS [(2,(i64 p2)),(7,(.ptr 0 0 0 0)),(8,(ow 1 0 l9)),(9,(i64 k8)),(10,(.ptr 2 0 0 0)),(99,(.bool t38))],[⟨0,99,5,[(Az c3)]⟩,⟨0,92,1,hole l9 (eS eB) k8 [(ow 3 0 l35)]⟩,⟨0,132,6,[(AU c23)]⟩,(ro 0 4 1 eB l35)]⟩→K37 s:=by
     intro t38 hq s hw
     subst o39
     try dsimp only at h2
     refine hK37 _ (AI hw ?_)
     refine ci h2 U ?_ ?_ <;> clear h2
     ·intro b40 h2
      refine sr U fun K41 hK41=>zm tb 2 U (zl tb U U (zq tb U (dn hK41 U (TY fun K42 hK42=>bs h2 fun o46 h3 h2=>?_))))
      have M46 :∀(l45:(List Bool)),o46=l45→∀s,Wk 0 s ⟨119,AS [(2,(i64 p2)),(7,(.ptr 0 0 0 0)),(8,(ow 1 0 l9)),(9,(i64 k8))],[⟨0,99,5,[(Az c3)]⟩,⟨0,92,1,hole l9 (eS eB) k8 [(ow 2 0 l45)]⟩,(ro 0 4 1 eB l45)]⟩→K42 s:=by
       intro l45 hq s hw
       subst o46
       try dsimp only at h2
       exact hK42 _ (M20 l45 (Sh.AA h2).symm _ (hw.trans (AM (L:=[(2,(i64 p2)),(7,(.ptr 0 0 0 0)),(8,(ow 1 0 l9)),(9,(i64 k8))]) ⟨.rfl,.rfl,.rfl,.rfl,trivial⟩)))
      refine AJ (AX (σ:=Int×(List Bool)) (fun n v=>Ca c23 n v.1 v.2=some o46) (fun (t43,l44)=>⟨119,AS [(2,(i64 p2)),(7,(.ptr 0 0 0 0)),(8,(ow 1 0 l9)),(9,(i64 k8)),(101,(ls eI c23.args)),(102,(i64 (Sh.len c23.args))),(103,(i64 t43))],[⟨0,99,5,[(Az c3)]⟩,⟨0,92,1,hole l9 (eS eB) k8 [(ow 2 0 l44)]⟩,(ro 0 4 1 eB l44)]⟩) N (0,l35) h3 (AN (L:=[(2,(i64 p2)),(7,(.ptr 0 0 0 0)),(8,(ow 1 0 l9)),(9,(i64 k8)),(101,(ls eI c23.args)),(102,(i64 (Sh.len c23.args))),(103,(i64 0))]) (st':=[⟨0,99,5,[(Az c3)]⟩,⟨0,92,1,hole l9 (eS eB) k8 [(ow 2 0 l35)]⟩,(ro 0 4 1 eB l35)]) (st1:=[⟨0,99,5,[(Az c3)]⟩,⟨0,92,1,hole l9 (eS eB) k8 [(ow 3 0 l35)]⟩,(ro 0 4 1 eB l35)]) [0,1,3] U .nil (by decide) rfl U (.raw U U (.hol (BB fun _=>U) (Tf fun _=>U) rfl U (.pure (AL fun _=>U) .nil))) ⟨.rfl,.rfl,.rfl,.rfl,.rfl,.rfl,.rfl,trivial⟩) (fun _ hv=>by rw[Ca] at hv;cases hv) ?_)
      rintro n ⟨t43,l44⟩ h3
      try dsimp only at h3 ⊢
      rw[Ca] at h3
      refine zr tb U U (AB fun K48 hK48=>?_)
      refine ci h3 U ?_ ?_ <;> clear h3
      ·intro b49 h3
       refine AG (hK48 _ (AB fun K50 hK50=>AJ (sr U fun K51 hK51=>bs h3 fun c52 gc52 h3=>zx A2 gc52 U U U (zm tb 2 U (dn hK51 U (AF U (zm tb 2 U (zz (.ptr 1 0 (Int.toNat k8) 0) (On MK U U U U gc26) rfl (zz (ow 2 0 l44) (Bf RK U U (EK gc26) rfl) rfl ?_)))))))))
       refine zq tb U (bs h3 fun c53 gc53 h3=>zz (.ptr 2 0 (Int.toNat c52) 0) (BD IQ U U U U gc53) rfl (Cz (u':=true) Aa Qu U U gc53 U U U (show 0+1≤1 by decide) rfl U (dn hK50 U (AF U (zm tb 2 U ?_)))))
       exact AD (xi (Sh.w (t43+1),Sh.put l44 c52 true) h3 (by refine Wk.trans (GQ (st:=[⟨0,99,5,[(Az c3)]⟩,⟨0,92,1,hole l9 (eS eB) k8 [(.own 2 0 (List.length l44))]⟩,⟨0,4,1,List.map eB (Sh.put l44 c52 true)⟩]) (st':=[⟨0,99,5,[(Az c3)]⟩,⟨0,92,1,hole l9 (eS eB) k8 [(.own 2 0 (List.length (Sh.put l44 c52 true)))]⟩,⟨0,4,1,List.map eB (Sh.put l44 c52 true)⟩]) (by simp only[Sh.Af])) ?_;exact AE U))
      ·intro b49 h3
       exact Ac (M46 l44 (Sh.AA h3).symm _ (AE U))
     ·intro b40 h2
      exact AG (M20 l35 (Sh.AA h2).symm _ (AN (L:=[(2,(i64 p2)),(7,(.ptr 0 0 0 0)),(8,(ow 1 0 l9)),(9,(i64 k8))]) (st':=[⟨0,99,5,[(Az c3)]⟩,⟨0,92,1,hole l9 (eS eB) k8 [(ow 2 0 l35)]⟩,(ro 0 4 1 eB l35)]) (st1:=[⟨0,99,5,[(Az c3)]⟩,⟨0,92,1,hole l9 (eS eB) k8 [(ow 3 0 l35)]⟩,(ro 0 4 1 eB l35)]) [0,1,3] U .nil (by decide) rfl U (.raw U U (.hol (BB fun _=>U) (Tf fun _=>U) rfl U (.pure (AL fun _=>U) .nil))) ⟨.rfl,.rfl,.rfl,.rfl,trivial⟩))
    refine AF U (zm tb 4 U ?_)
    rcases Sh.AP h3 with ⟨b54,h3⟩ | ⟨b54,h3⟩
    ·exact zg tb b54 U (zg tb b54 U (zg tb b54 U (zt b54 U (AD (M39 (!decide (c23.op=15)) (Sh.AA h3).symm _ (AE U))))))
    ·exact zs b54 U (zs b54 U (zs b54 U (zf b54 U (AD (M39 false (Sh.AA h3).symm _ (AE U))))))
   refine sr U fun K55 hK55=>zm tb 2 U (bs h3 fun q56 gq56 h3=>zc YS (Ix gq56) rfl U U (dn hK55 U ?_))
   refine ci h3 U ?_ ?_ <;> clear h3
   ·intro b57 h3
    refine Cw 7 (by kernel_rfl) (by kernel_rfl) (by rfl) ?_
    iterate 2 refine yq tb rfl ?_
    refine yz (.ptr 1 0 (Int.toNat k8) 0) (On MK U U U U gc26) rfl (yz (ow 3 0 l32) (Bf RK U U (EK gc26) rfl) rfl ?_)
    iterate 2 refine yq tb rfl ?_
    refine bs h3 fun c58 gc58 h3=>yz (.ptr 3 0 (Int.toNat c23.dst) 0) (BD IQ U U U U gc58) rfl (BP (Cz (u':=false) Aa Qu U U gc58 U U U (show 0+1≤1 by decide) rfl U ?_))
    exact AD (M36 (Sh.put l32 c23.dst false) (Sh.AA h3).symm _ (by refine Wk.trans (GQ (st:=[⟨0,99,5,[(Az c3)]⟩,⟨0,92,1,hole l9 (eS eB) k8 [(.own 3 0 (List.length l32))]⟩,⟨0,132,6,[(AU c23)]⟩,⟨0,4,1,List.map eB (Sh.put l32 c23.dst false)⟩]) (st':=[⟨0,99,5,[(Az c3)]⟩,⟨0,92,1,hole l9 (eS eB) k8 [(.own 3 0 (List.length (Sh.put l32 c23.dst false)))]⟩,⟨0,132,6,[(AU c23)]⟩,⟨0,4,1,List.map eB (Sh.put l32 c23.dst false)⟩]) (by simp only[Sh.Af])) ?_;exact AE U))
   ·intro b57 h3
    exact AG (M36 l32 (Sh.AA h3).symm _ (AE U))
  refine AJ (AX (σ:=Int×(List Bool)) (fun n v=>DJ N k8 l9 q29 n v.1 v.2=some o33) (fun (t30,l31)=>⟨119,AS [(2,(i64 p2)),(7,(.ptr 0 0 0 0)),(8,(ow 1 0 l9)),(9,(i64 k8)),(10,(.ptr 2 0 0 0)),(48,(ls eI q29)),(49,(i64 (Sh.len q29))),(50,(i64 t30))],[⟨0,99,5,[(Az c3)]⟩,⟨0,92,1,hole l9 (eS eB) k8 [(ow 3 0 l31)]⟩,⟨0,132,6,[(AU c23)]⟩,(ro 0 4 1 eB l31)]⟩) N (0,l25) h3 (AE U) (fun _ hv=>by rw[DJ] at hv;cases hv) ?_)
  rintro n ⟨t30,l31⟩ h3
  try dsimp only at h3 ⊢
  rw[DJ] at h3
  refine zr tb U U (AB fun K60 hK60=>?_)
  refine ci h3 U ?_ ?_ <;> clear h3
  ·intro b61 h3
   refine AG (hK60 _ (AB fun K62 hK62=>AJ (sr U fun K63 hK63=>bs h3 fun c64 gc64 h3=>zx A2 gc64 U U U (zm tb 2 U (dn hK63 U (sr U fun K65 hK65=>zm tb 2 U (bs h3 fun c66 gc66 h3=>zz (.ptr 1 0 (Int.toNat c64) 0) (On MK U U U U gc66) rfl ?_)))))))
   refine bs h3 fun u67 gu67 h3=>zz (ls eB c66) (Bf RK U U (ZS gc26 gu67 gc66) rfl) rfl (zl tb U U (zq tb U (dn hK65 U (bs h3 fun o71 h4 h3=>?_))))
   have M71 :∀(l70:(List Bool)),o71=l70→∀s,Wk 0 s ⟨119,AS [(2,(i64 p2)),(7,(.ptr 0 0 0 0)),(8,(ow 1 0 l9)),(9,(i64 k8)),(10,(.ptr 2 0 0 0)),(48,(ls eI q29)),(49,(i64 (Sh.len q29))),(50,(i64 t30))],[⟨0,99,5,[(Az c3)]⟩,⟨0,92,1,hole l9 (eS eB) k8 [(ow 3 0 l70)]⟩,⟨0,132,6,[(AU c23)]⟩,(ro 0 4 1 eB l70)]⟩→K62 s:=by
    intro l70 hq s hw
    subst o71
    try dsimp only at h3
    exact hK62 _ (AI hw (AF U (zm tb 2 U (AD (xi (Sh.w (t30+1),l70) h3 (AE U))))))
   refine AJ (AX (σ:=Int×(List Bool)) (fun n v=>DH c66 n v.1 v.2=some o71) (fun (t68,l69)=>⟨119,AS [(2,(i64 p2)),(7,(.ptr 0 0 0 0)),(8,(ow 1 0 l9)),(9,(i64 k8)),(10,(.ptr 2 0 0 0)),(48,(ls eI q29)),(49,(i64 (Sh.len q29))),(50,(i64 t30)),(57,(ls eB c66)),(58,(i64 (Sh.len c66))),(59,(i64 t68))],[⟨0,99,5,[(Az c3)]⟩,⟨0,92,1,hole l9 (eS eB) k8 [(ow 3 0 l69)]⟩,⟨0,132,6,[(AU c23)]⟩,(ro 0 4 1 eB l69)]⟩) N (0,l31) h4 (AE U) (fun _ hv=>by rw[DH] at hv;cases hv) ?_)
   rintro n ⟨t68,l69⟩ h4
   try dsimp only at h4 ⊢
   rw[DH] at h4
   refine zr tb U U (AB fun K73 hK73=>?_)
   refine ci h4 U ?_ ?_ <;> clear h4
   ·intro b74 h4
    refine AG (hK73 _ (AB fun K75 hK75=>bs h4 fun o77 h5 h4=>?_))
    have M77 :∀(l76:(List Bool)),o77=l76→∀s,Wk 0 s ⟨119,AS [(2,(i64 p2)),(7,(.ptr 0 0 0 0)),(8,(ow 1 0 l9)),(9,(i64 k8)),(10,(.ptr 2 0 0 0)),(48,(ls eI q29)),(49,(i64 (Sh.len q29))),(50,(i64 t30)),(57,(ls eB c66)),(58,(i64 (Sh.len c66))),(59,(i64 t68))],[⟨0,99,5,[(Az c3)]⟩,⟨0,92,1,hole l9 (eS eB) k8 [(ow 3 0 l76)]⟩,⟨0,132,6,[(AU c23)]⟩,(ro 0 4 1 eB l76)]⟩→K75 s:=by
     intro l76 hq s hw
     subst o77
     try dsimp only at h4
     exact hK75 _ (AI hw (AF U (zm tb 2 U (AD (xi (Sh.w (t68+1),l76) h4 (AE U))))))
    refine AJ (sr U fun K78 hK78=>zq tb U (bs h5 fun c79 gc79 h5=>zx IQ gc79 U U U (zm tb 3 U (dn hK78 U ?_))))
    refine Cw 16 (by kernel_rfl) (by kernel_rfl) (by rfl) ?_
    iterate 2 refine yq tb rfl ?_
    refine yz (.ptr 1 0 (Int.toNat k8) 0) (On MK U U U U gc26) rfl (yz (ow 3 0 l69) (Bf RK U U (EK gc26) rfl) rfl ?_)
    iterate 3 refine yq tb rfl ?_
    refine yz (.ptr 1 0 (Int.toNat k8) 0) (On MK U U U U gc26) rfl (yz (ow 3 0 l69) (Bf RK U U (EK gc26) rfl) rfl (yq tb U (bs h5 fun c80 gc80 h5=>yz (.ptr 3 0 (Int.toNat t68) 0) (BD IQ U U U U gc80) rfl (yz (.bool c80) (Bf Qu U U (Bp gc80) rfl) rfl (yq tb U ?_)))))
    rcases Sh.AP h5 with ⟨b81,h5⟩ | ⟨b81,h5⟩
    ·refine ys b81 U (yt b81 U (yz (.ptr 3 0 (Int.toNat t68) 0) (BD IQ U U U U gc80) rfl (BP (Cz (u':=true) Aa Qu U U gc80 U U U (show 0+1≤1 by decide) rfl U ?_))))
     exact AD (M77 (Sh.put l69 t68 true) (Sh.AA h5).symm _ (by refine Wk.trans (GQ (st:=[⟨0,99,5,[(Az c3)]⟩,⟨0,92,1,hole l9 (eS eB) k8 [(.own 3 0 (List.length l69))]⟩,⟨0,132,6,[(AU c23)]⟩,⟨0,4,1,List.map eB (Sh.put l69 t68 true)⟩]) (st':=[⟨0,99,5,[(Az c3)]⟩,⟨0,92,1,hole l9 (eS eB) k8 [(.own 3 0 (List.length (Sh.put l69 t68 true)))]⟩,⟨0,132,6,[(AU c23)]⟩,⟨0,4,1,List.map eB (Sh.put l69 t68 true)⟩]) (by simp only[Sh.Af])) ?_;exact AE U))
    ·refine yg tb b81 U (yf b81 U (yz (.ptr 3 0 (Int.toNat t68) 0) (BD IQ U U U U gc80) rfl (BP (Cz (u':=c79) Aa Qu U U gc80 U U U (show 0+1≤1 by decide) rfl U ?_))))
     exact AD (M77 (Sh.put l69 t68 c79) (Sh.AA h5).symm _ (by refine Wk.trans (GQ (st:=[⟨0,99,5,[(Az c3)]⟩,⟨0,92,1,hole l9 (eS eB) k8 [(.own 3 0 (List.length l69))]⟩,⟨0,132,6,[(AU c23)]⟩,⟨0,4,1,List.map eB (Sh.put l69 t68 c79)⟩]) (st':=[⟨0,99,5,[(Az c3)]⟩,⟨0,92,1,hole l9 (eS eB) k8 [(.own 3 0 (List.length (Sh.put l69 t68 c79)))]⟩,⟨0,132,6,[(AU c23)]⟩,⟨0,4,1,List.map eB (Sh.put l69 t68 c79)⟩]) (by simp only[Sh.Af])) ?_;exact AE U))
   ·intro b74 h4
    exact Ac (M71 l69 (Sh.AA h4).symm _ (AE U))
  ·intro b61 h3
   exact Ac (M33 l31 (Sh.AA h3).symm _ (AE U))
 ·intro b17 h1
  exact Ac (M11 l9 (Sh.AA h1).symm _ (AN (L:=[(2,(i64 p2)),(8,(ow 0 0 l9))]) (st':=[(ro 0 92 1 (eS eB) l9)]) (st1:=[(ro 0 92 1 (eS eB) l9)]) [1] U .nil (by decide) rfl U (.pure (AL fun _=>U) .nil) ⟨.rfl,.rfl,trivial⟩))
theorem N7 {N:Nat} {p0:(List Cell)} {r:Bool} (h0:Ge N p0=some r):AY Tryz.prog 104 [(ls Aj p0)] [] (fun v st=>v=(.bool r)∧st=[]):=by
 unfold Ge at h0
 refine ai Tryz.func104 U U U U (zr tb U U (sr U fun K2 hK2=>zq tb U (bs h0 fun q3 gq3 h0=>BN (v':=(.DX [(ow 0 0 q3.1),(.bool q3.2)])) Aa az (JZ gq3) rfl U ⟨(BB fun _=>U),trivial⟩ U U (zm tb 5 U (dn hK2 U (zr tb U U ?_))))))
 replace h0:=Sh.AA h0
 subst r
 exact AH (xr (AR [(2,(.bool q3.2))] U))
end Go.Proofs.YtobjlimoekffaaaGreat

