import Derived.Test.YtpahalfiiahddaaProg
import Derived.Test.YtpahalfiiahddaaGHADefsToFCDefs
import Derived.Test.YtpahalfiiahddaaFCWalkP3
namespace Go.Proofs.Ytpahalfiiahddaa
open Go Go.Abs RC
attribute [local irreducible] Go.Abs.Co
set_option maxRecDepth 100000
set_option maxHeartbeats 4000000

noncomputable abbrev Du (z0:Int) (z1:Int) (z2:List AP):Go.Abs.Row:=⟨0,50,3,[[(i64 z0),(i64 z1),(ls AA z2)]]⟩
noncomputable abbrev DN (z0:Int):Go.Abs.Row:=⟨0,3,1,[[(i64 z0)]]⟩
noncomputable abbrev JC:Go.Abs.Row:=⟨0,80,3,[[(i64 0),(i64 0),.zc]]⟩
noncomputable abbrev Sx (z0:List Ac) (z1:List Ar):Go.Abs.Row:=⟨0,31,2,[[(ls AI z0),(ls AH z1)]]⟩
theorem Vp:Au Try.prog 121=true:=by kernel_rfl
theorem Rb:Au Try.prog 122=true:=by kernel_rfl
theorem X4:Au Try.prog 123=true:=by kernel_rfl
theorem XH:Au Try.prog 18=true:=by kernel_rfl
theorem UJ:Au Try.prog 27=true:=by kernel_rfl
theorem Yk:Au Try.prog 28=true:=by kernel_rfl
theorem XK:Au Try.prog 38=true:=by kernel_rfl
theorem YZ:Au Try.prog 39=true:=by kernel_rfl
theorem YX:Au Try.prog 58=true:=by kernel_rfl
theorem XS:Au Try.prog 60=true:=by kernel_rfl
theorem W8:Au Try.prog 62=true:=by kernel_rfl
theorem W9:Au Try.prog 92=true:=by kernel_rfl
theorem Yg:Au Try.prog 93=true:=by kernel_rfl
theorem YJ:Au Try.prog 94=true:=by kernel_rfl
theorem YP:Au Try.prog 95=true:=by kernel_rfl

theorem H6 {N:Nat} {p0:BI} {p1:Int} {p2:Int} {p3:(List Int)} {r:Int×Bool} (h0:BB N p0 p1 p2 p3=some r):Aj Try.prog 95 [(.agg (AM p0)),(i64 p1),(i64 p2),(ls eI p3)] [] (fun v st=>v=(.CA [(i64 r.1),(.bool r.2)])∧st=[]):=by
 unfold BB at h0
 refine ai Try.func95 U U U U (sr U fun K1 hK1=>Bj (m:=0) AK U U U U U (zm tb 2 U (dn hK1 U (zr tb U U (AJ fun K3 hK3=>?_)))))
 obtain⟨o5,h1,h0⟩:=Sh.Bh h0
 have M5 :∀(l4:(List Int)),o5=Sum.inr l4→∀s,Wk 0 s ⟨149,Ab [(2,(i64 p2)),(3,(ls eI p3)),(10,(ow 0 0 l4)),(11,(i64 0))],[(ro 0 3 1 eI l4)]⟩→K3 s:=by
  intro l4 hq s hw
  subst o5
  try dsimp only at h0
  refine hK3 _ (AS hw (AJ fun K6 hK6=>bs h0 fun o8 h1 h0=>?_))
  have M8 :∀(t7:Bool),o8=t7→∀s,Wk 0 s ⟨149,Ab [(8,(i64 0)),(9,(.bool t7))],[]⟩→K6 s:=by
   intro t7 hq s hw
   subst o8
   try dsimp only at h0
   refine hK6 _ (AS hw ?_)
   replace h0:=Sh.AE h0
   subst r
   exact AZ (xr (Ah (L:=[(8,(i64 0)),(9,(.bool t7))]) ⟨.rfl,.rfl,trivial⟩))
  refine AN U (zm tb 4 U ?_)
  rcases Sh.An h1 with ⟨b9,h1⟩ | ⟨b9,h1⟩
  ·exact zg tb b9 U (zg tb b9 U (Af (Wk.BH (L:=[(141,(i64 0)),(144,(.bool (decide (p2=0)))),(145,(ls eI p3)),(146,(ls eI l4))]) (st':=[⟨1,3,1,[]⟩]) (id:=0) rfl (show 0≤0 by decide) (AD fun _=>U) ⟨.rfl,.rfl,.rfl,(.BH U),trivial⟩ U) (bs h1 fun q10 gq10 h1=>zd b9 Rb (EV gq10) rfl U U U (zt b9 U (zm tb 2 U (AB (M8 q10 (Sh.AE h1).symm _ (Ax _ U))))))))
  ·exact zs b9 U (zs b9 U (zs b9 U (zf b9 U (zm tb 2 U (AB (M8 false (Sh.AE h1).symm _ (Ax _ U)))))))
 refine zr tb U U (Ae (zr tb U U ?_))
 refine ci h1 U ?_ ?_ <;> clear h1
 ·intro b13 h1
  refine AJ fun K14 hK14=>bs h1 fun o16 h2 h1=>?_
  have M16 :∀(t15:Bool),o16=t15→∀s,Wk 0 s ⟨149,Ab [(8,(i64 0)),(9,(.bool t15))],[]⟩→K14 s:=by
   intro t15 hq s hw
   subst o16
   try dsimp only at h1
   refine hK14 _ (AS hw ?_)
   replace h1:=Sh.AE h1
   subst o5
   try dsimp only[id] at h0
   replace h0:=Sh.AE h0
   subst r
   exact AZ (xr (Ah (L:=[(8,(i64 0)),(9,(.bool t15))]) ⟨.rfl,.rfl,trivial⟩))
  refine AN U (zm tb 3 U ?_)
  rcases Sh.An h2 with ⟨b17,h2⟩ | ⟨b17,h2⟩
  ·refine zg tb b17 U (zg tb b17 U (zt b17 U (zq tb U ?_)))
   rcases Sh.An h2 with ⟨b18,h2⟩ | ⟨b18,h2⟩
   ·exact zg tb b18 U (B3 (v:=(i64 (Sh.len p3))) (B0 U U b18) rfl (B9 Ek U) (zg tb b18 U (zt b18 U (zm tb 2 U (AB (M16 (decide ((Sh.len p3)=0)) (Sh.AE h2).symm _ (Ax _ U)))))))
   ·exact zs b18 U (zs b18 U (zs b18 U (zf b18 U (zm tb 2 U (AB (M16 false (Sh.AE h2).symm _ (Ax _ U)))))))
  ·refine zs b17 U (zs b17 U (zf b17 U (zq tb U ?_)))
   iterate 3 refine zs rfl rfl ?_
   exact zf U U (zm tb 2 U (AB (M16 false (Sh.AE h2).symm _ (Ax _ U))))
 ·intro b13 h1
  refine AJ fun K19 hK19=>bs h1 fun o21 h2 h1=>?_
  have M21 :∀(t20:Bool),o21=t20→∀s,Wk 0 s ⟨149,Ab [(1,(i64 p1)),(2,(i64 p2)),(3,(ls eI p3)),(4,(.ptr 0 0 0 0)),(11,(i64 0)),(18,(i64 p1)),(32,(.bool t20))],[⟨0,97,2,[(AM p0)]⟩]⟩→K19 s:=by
   intro t20 hq s hw
   subst o21
   try dsimp only at h1
   refine hK19 _ (AS hw ?_)
   refine ci h1 U ?_ ?_ <;> clear h1
   ·intro b22 h1
    refine AN U ?_
    refine A8 (m:=1) (l:=[(0:Int),0]) (enc:=eI) AK BF (by decide) rfl U U U U U ?_
    refine zq tb U ?_
    exact AB (M5 [(0:Int),0] (Sh.AE h1).symm _ (AT (L:=[(2,(i64 p2)),(3,(ls eI p3)),(10,(ow 0 0 [(0:Int),0])),(11,(i64 0))]) (st':=[(ro 0 3 1 eI [(0:Int),0])]) [1] U (by decide) rfl U (.pure (AD fun _=>U) .nil) ⟨.rfl,.rfl,.rfl,.rfl,trivial⟩))
   ·intro b22 h1
    refine zr tb U U ?_
    refine ci h1 U ?_ ?_ <;> clear h1
    ·intro b24 h1
     refine AN U ?_
     refine A8 (m:=1) (l:=[(0:Int)]) (enc:=eI) AK BF (by decide) rfl U U U U U ?_
     refine zq tb U ?_
     exact AB (M5 [(0:Int)] (Sh.AE h1).symm _ (AT (L:=[(2,(i64 p2)),(3,(ls eI p3)),(10,(ow 0 0 [(0:Int)])),(11,(i64 0))]) (st':=[(ro 0 3 1 eI [(0:Int)])]) [1] U (by decide) rfl U (.pure (AD fun _=>U) .nil) ⟨.rfl,.rfl,.rfl,.rfl,trivial⟩))
    ·intro b24 h1
     refine zr tb U U ?_
     refine ci h1 U ?_ ?_ <;> clear h1
     ·intro b26 h1
      refine AJ fun K27 hK27=>sr U fun K28 hK28=>zq tb U (zl tb U U (zq tb U (dn hK28 U ?_)))
      refine ci h1 U ?_ ?_ <;> clear h1
      ·intro b29 h1
       have b30:decide ((Sh.len p3)=2)=false:=by simpa using b29
       refine zr tb U U ?_
       replace h1:=Sh.AE h1
       subst o5
       try dsimp only[id] at h0
       replace h0:=Sh.AE h0
       subst r
       exact AZ (xr (Ax [(8,(i64 (-1))),(9,(.bool false))] U))
      ·intro b29 h1
       have b32:decide ((Sh.len p3)=2)=true:=by simpa using b29
       refine AU (hK27 _ (AJ fun K33 hK33=>?_))
       refine HV (by kernel_rfl) ?_
       refine bs h1 fun c34 gc34 h1=>bs h1 fun q35 gq35 h1=>Lp fun A36 hA36=>?_
       have A36_0123456789ab:A36 0 #[true,true,true,true,true,true,true,true,true,true,true,true] ⟨149,Ab [(2,(i64 p2)),(3,(ls eI p3)),(12,(.ptr 0 0 0 0)),(13,(.bool q35.2))],[⟨0,80,3,[(AI q35.1)]⟩]⟩:=(hA36 _ _ _).2 (by
        refine Fm U (by kernel_rfl) ?_
        refine hK33 _ (AJ fun K37 hK37=>bs h1 fun o39 h2 h1=>?_)
        have M39 :∀(t38:Bool),o39=t38→∀s,Wk 0 s ⟨149,Ab [(8,(i64 q35.1.to)),(9,(.bool t38))],[]⟩→K37 s:=by
         intro t38 hq s hw
         subst o39
         try dsimp only at h1
         refine hK37 _ (AS hw ?_)
         replace h1:=Sh.AE h1
         subst o5
         try dsimp only[id] at h0
         replace h0:=Sh.AE h0
         subst r
         exact AZ (xr (Ah (L:=[(8,(i64 q35.1.to)),(9,(.bool t38))]) ⟨.rfl,.rfl,trivial⟩))
        refine CI (by kernel_rfl) (by kernel_rfl) (by rfl) ?_
        iterate 4 refine yq tb rfl ?_
        rcases Sh.An h2 with ⟨b40,h2⟩ | ⟨b40,h2⟩
        ·refine yg tb b40 U (bs h2 fun c41 gc41 h2=>A9 (v:=(.Al (eI c41) 0)) (B0 U U b40) rfl (CV BF U U gc41 U) ?_)
         iterate 4 refine yg tb b40 rfl ?_
         refine yt b40 U (yq tb U ?_)
         rcases Sh.An h2 with ⟨b42,h2⟩ | ⟨b42,h2⟩
         ·refine yg tb b42 U (yg tb b42 U (yt b42 U ?_))
          iterate 2 refine yq tb rfl ?_
          exact AR (M39 (decide (p2=0)) (Sh.AE h2).symm _ (Ax _ U))
         ·refine ys b42 U (ys b42 U (yf b42 U ?_))
          iterate 2 refine yq tb rfl ?_
          exact AR (M39 false (Sh.AE h2).symm _ (Ax _ U))
        ·refine ys b40 U ?_
         iterate 5 refine ys b40 rfl ?_
         refine yf b40 U (yq tb U ?_)
         iterate 2 refine ys rfl rfl ?_
         refine yf U U ?_
         iterate 2 refine yq tb rfl ?_
         exact AR (M39 false (Sh.AE h2).symm _ (by exact AT (L:=[(8,(i64 q35.1.to)),(9,(.bool false))]) (st':=[]) [] U (by decide) rfl U .nil ⟨.rfl,.rfl,trivial⟩)))
       have A36_0123456789a:A36 1 #[true,true,true,true,true,true,true,true,true,true,true,false] ⟨149,Ab [(2,(i64 p2)),(3,(ls eI p3)),(12,(.ptr 0 0 0 0)),(54,(.bool q35.2))],[⟨0,80,3,[(AI q35.1)]⟩]⟩:=(hA36 _ _ _).2 (by
        refine CY 11 (v:=(.bool q35.2)) rfl U (by kernel_rfl) (by kernel_rfl) (by kernel_rfl) rfl (HT U) ?_
        exact AF (by exact AG U) (AL (by kernel_rfl) ((hA36 _ _ _).1 A36_0123456789ab)) rfl)
       have A36_0123456789:A36 2 #[true,true,true,true,true,true,true,true,true,true,false,false] ⟨149,Ab [(2,(i64 p2)),(3,(ls eI p3)),(12,(.ptr 0 0 0 0)),(53,(.agg (AI q35.1))),(54,(.bool q35.2))],[JC]⟩:=(hA36 _ _ _).2 (by
        refine Ad [10] U (by kernel_rfl) (by decide) ⟨?_,trivial⟩
        ·refine Av.of (i:=10) rfl U (by rfl) ?_
         refine Az AK Hc U U U U U U (show 0+3≤3 by decide) rfl (AB ⟨U,?_⟩)
         exact AF (by exact AG U) (AL (by kernel_rfl) ((hA36 _ _ _).1 A36_0123456789a)) rfl)
       have A36_012345678:A36 3 #[true,true,true,true,true,true,true,true,true,false,false,false] ⟨149,Ab [(2,(i64 p2)),(3,(ls eI p3)),(53,(.agg (AI q35.1))),(54,(.bool q35.2))],[]⟩:=(hA36 _ _ _).2 (by
        refine Ad [9] U (by kernel_rfl) (by decide) ⟨?_,trivial⟩
        ·refine Av.of (i:=9) rfl U (by rfl) ?_
         refine A0 (m:=0) AK ET U U (AB ⟨U,?_⟩)
         exact AF (by exact AG U) (AL (by kernel_rfl) ((hA36 _ _ _).1 A36_0123456789)) rfl)
       have A36_012345679a:A36 2 #[true,true,true,true,true,true,true,true,false,true,true,false] ⟨149,Ab [(2,(i64 p2)),(3,(ls eI p3)),(12,(.ptr 0 0 0 0)),(46,(.CA [(.agg (AI q35.1)),(.bool q35.2)]))],[⟨0,80,3,[(AI q35.1)]⟩]⟩:=(hA36 _ _ _).2 (by
        refine Ad [8] U (by kernel_rfl) (by decide) ⟨?_,trivial⟩
        ·refine Av.of (i:=8) rfl U (by rfl) ?_
         refine zq tb U (AB ⟨U,?_⟩)
         exact AF (by exact AG U) (AL (by kernel_rfl) ((hA36 _ _ _).1 A36_0123456789a)) rfl)
       have A36_012345679:A36 3 #[true,true,true,true,true,true,true,true,false,true,false,false] ⟨149,Ab [(2,(i64 p2)),(3,(ls eI p3)),(12,(.ptr 0 0 0 0)),(46,(.CA [(.agg (AI q35.1)),(.bool q35.2)])),(53,(.agg (AI q35.1)))],[JC]⟩:=(hA36 _ _ _).2 (by
        refine Ad [8,10] U (by kernel_rfl) (by decide) ⟨?_,?_,trivial⟩
        ·refine Av.of (i:=8) rfl U (by rfl) ?_
         refine zq tb U (AB ⟨U,?_⟩)
         exact AF (by exact AG U) (AL (by kernel_rfl) ((hA36 _ _ _).1 A36_0123456789)) rfl
        ·refine Av.of (i:=10) rfl U (by rfl) ?_
         refine Az AK Hc U U U U U U (show 0+3≤3 by decide) rfl (AB ⟨U,?_⟩)
         exact AF (by exact AG U) (AL (by kernel_rfl) ((hA36 _ _ _).1 A36_012345679a)) rfl)
       have A36_01234567:A36 4 #[true,true,true,true,true,true,true,true,false,false,false,false] ⟨149,Ab [(2,(i64 p2)),(3,(ls eI p3)),(46,(.CA [(.agg (AI q35.1)),(.bool q35.2)])),(53,(.agg (AI q35.1)))],[]⟩:=(hA36 _ _ _).2 (by
        refine Ad [8,9] U (by kernel_rfl) (by decide) ⟨?_,?_,trivial⟩
        ·refine Av.of (i:=8) rfl U (by rfl) ?_
         refine zq tb U (AB ⟨U,?_⟩)
         exact AF (by exact AG U) (AL (by kernel_rfl) ((hA36 _ _ _).1 A36_012345678)) rfl
        ·refine Av.of (i:=9) rfl U (by rfl) ?_
         refine A0 (m:=0) AK ET U U (AB ⟨U,?_⟩)
         exact AF (by exact AG U) (AL (by kernel_rfl) ((hA36 _ _ _).1 A36_012345679)) rfl)
       have A36_012345689:A36 3 #[true,true,true,true,true,true,true,false,true,true,false,false] ⟨149,Ab [(2,(i64 p2)),(3,(ls eI p3)),(12,(.ptr 0 0 0 0)),(46,(.CA [(.agg (AI q35.1)),(.bool q35.2)])),(54,(.bool q35.2))],[JC]⟩:=(hA36 _ _ _).2 (by
        refine Ad [7] U (by kernel_rfl) (by decide) ⟨?_,trivial⟩
        ·refine Av.of (i:=7) rfl U (by rfl) ?_
         refine zq tb U (AB ⟨U,?_⟩)
         exact AF (by exact AG U) (AL (by kernel_rfl) ((hA36 _ _ _).1 A36_0123456789)) rfl)
       have A36_01234568:A36 4 #[true,true,true,true,true,true,true,false,true,false,false,false] ⟨149,Ab [(2,(i64 p2)),(3,(ls eI p3)),(46,(.CA [(.agg (AI q35.1)),(.bool q35.2)])),(54,(.bool q35.2))],[]⟩:=(hA36 _ _ _).2 (by
        refine Ad [7,9] U (by kernel_rfl) (by decide) ⟨?_,?_,trivial⟩
        ·refine Av.of (i:=7) rfl U (by rfl) ?_
         refine zq tb U (AB ⟨U,?_⟩)
         exact AF (by exact AG U) (AL (by kernel_rfl) ((hA36 _ _ _).1 A36_012345678)) rfl
        ·refine Av.of (i:=9) rfl U (by rfl) ?_
         refine A0 (m:=0) AK ET U U (AB ⟨U,?_⟩)
         exact AF (by exact AG U) (AL (by kernel_rfl) ((hA36 _ _ _).1 A36_012345689)) rfl)
       have A36_01234569:A36 4 #[true,true,true,true,true,true,true,false,false,true,false,false] ⟨149,Ab [(2,(i64 p2)),(3,(ls eI p3)),(12,(.ptr 0 0 0 0)),(46,(.CA [(.agg (AI q35.1)),(.bool q35.2)]))],[JC]⟩:=(hA36 _ _ _).2 (by
        refine Ad [7,8] U (by kernel_rfl) (by decide) ⟨?_,?_,trivial⟩
        ·refine Av.of (i:=7) rfl U (by rfl) ?_
         refine zq tb U (AB ⟨U,?_⟩)
         exact AF (by exact AG U) (AL (by kernel_rfl) ((hA36 _ _ _).1 A36_012345679)) rfl
        ·refine Av.of (i:=8) rfl U (by rfl) ?_
         refine zq tb U (AB ⟨U,?_⟩)
         exact AF (by exact AG U) (AL (by kernel_rfl) ((hA36 _ _ _).1 A36_012345689)) rfl)
       have A36_0123456:A36 5 #[true,true,true,true,true,true,true,false,false,false,false,false] ⟨149,Ab [(2,(i64 p2)),(3,(ls eI p3)),(46,(.CA [(.agg (AI q35.1)),(.bool q35.2)]))],[]⟩:=(hA36 _ _ _).2 (by
        refine Ad [7,8,9] U (by kernel_rfl) (by decide) ⟨?_,?_,?_,trivial⟩
        ·refine Av.of (i:=7) rfl U (by rfl) ?_
         refine zq tb U (AB ⟨U,?_⟩)
         exact AF (by exact AG U) (AL (by kernel_rfl) ((hA36 _ _ _).1 A36_01234567)) rfl
        ·refine Av.of (i:=8) rfl U (by rfl) ?_
         refine zq tb U (AB ⟨U,?_⟩)
         exact AF (by exact AG U) (AL (by kernel_rfl) ((hA36 _ _ _).1 A36_01234568)) rfl
        ·refine Av.of (i:=9) rfl U (by rfl) ?_
         refine A0 (m:=0) AK ET U U (AB ⟨U,?_⟩)
         exact AF (by exact AG U) (AL (by kernel_rfl) ((hA36 _ _ _).1 A36_01234569)) rfl)
       have A36_012345:A36 6 #[true,true,true,true,true,true,false,false,false,false,false,false] ⟨149,Ab [(2,(i64 p2)),(3,(ls eI p3)),(52,(.CA [(.agg (AI q35.1)),(.bool q35.2)]))],[]⟩:=(hA36 _ _ _).2 (by
        refine CY 6 (v:=(.CA [(.agg (AI q35.1)),(.bool q35.2)])) rfl U (by kernel_rfl) (by kernel_rfl) (by kernel_rfl) rfl (GA U) ?_
        exact AF (by exact AG U) (AL (by kernel_rfl) ((hA36 _ _ _).1 A36_0123456)) rfl)
       have A36_0123459:A36 5 #[true,true,true,true,true,true,false,false,false,true,false,false] ⟨149,Ab [(2,(i64 p2)),(3,(ls eI p3)),(12,(.ptr 0 0 0 0)),(52,(.CA [(.agg (AI q35.1)),(.bool q35.2)]))],[JC]⟩:=(hA36 _ _ _).2 (by
        refine CY 6 (v:=(.CA [(.agg (AI q35.1)),(.bool q35.2)])) rfl U (by kernel_rfl) (by kernel_rfl) (by kernel_rfl) rfl (GA U) ?_
        exact AF (by exact AG U) (AL (by kernel_rfl) ((hA36 _ _ _).1 A36_01234569)) rfl)
       have A36_012349:A36 6 #[true,true,true,true,true,false,false,false,false,true,false,false] ⟨149,Ab [(2,(i64 p2)),(3,(ls eI p3)),(12,(.ptr 0 0 0 0)),(48,(ls AI p0.decls)),(51,(i64 c34))],[JC]⟩:=(hA36 _ _ _).2 (by
        refine Ad [5] U (by kernel_rfl) (by decide) ⟨?_,trivial⟩
        ·refine Av.of (i:=5) rfl U (by rfl) ?_
         refine zc (v':=(.CA [(.agg (AI q35.1)),(.bool q35.2)])) Vp (KA gq35) rfl U U (AB ⟨U,?_⟩)
         exact AF (by exact AG U) (AL (by kernel_rfl) ((hA36 _ _ _).1 A36_0123459)) rfl)
       have A36_01234:A36 7 #[true,true,true,true,true,false,false,false,false,false,false,false] ⟨149,Ab [(2,(i64 p2)),(3,(ls eI p3)),(48,(ls AI p0.decls)),(51,(i64 c34))],[]⟩:=(hA36 _ _ _).2 (by
        refine Ad [5,9] U (by kernel_rfl) (by decide) ⟨?_,?_,trivial⟩
        ·refine Av.of (i:=5) rfl U (by rfl) ?_
         refine zc (v':=(.CA [(.agg (AI q35.1)),(.bool q35.2)])) Vp (KA gq35) rfl U U (AB ⟨U,?_⟩)
         exact AF (by exact AG U) (AL (by kernel_rfl) ((hA36 _ _ _).1 A36_012345)) rfl
        ·refine Av.of (i:=9) rfl U (by rfl) ?_
         refine A0 (m:=0) AK ET U U (AB ⟨U,?_⟩)
         exact AF (by exact AG U) (AL (by kernel_rfl) ((hA36 _ _ _).1 A36_012349)) rfl)
       have A36_01239:A36 7 #[true,true,true,true,false,false,false,false,false,true,false,false] ⟨149,Ab [(2,(i64 p2)),(3,(ls eI p3)),(12,(.ptr 0 0 0 0)),(48,(ls AI p0.decls)),(50,(.Al (eI c34) 0))],[JC]⟩:=(hA36 _ _ _).2 (by
        refine Ad [4] U (by kernel_rfl) (by decide) ⟨?_,trivial⟩
        ·refine Av.of (i:=4) rfl U (by rfl) ?_
         refine zq tb U (AB ⟨U,?_⟩)
         exact AF (by exact AG U) (AL (by kernel_rfl) ((hA36 _ _ _).1 A36_012349)) rfl)
       have A36_0123:A36 8 #[true,true,true,true,false,false,false,false,false,false,false,false] ⟨149,Ab [(2,(i64 p2)),(3,(ls eI p3)),(48,(ls AI p0.decls)),(50,(.Al (eI c34) 0))],[]⟩:=(hA36 _ _ _).2 (by
        refine Ad [4,9] U (by kernel_rfl) (by decide) ⟨?_,?_,trivial⟩
        ·refine Av.of (i:=4) rfl U (by rfl) ?_
         refine zq tb U (AB ⟨U,?_⟩)
         exact AF (by exact AG U) (AL (by kernel_rfl) ((hA36 _ _ _).1 A36_01234)) rfl
        ·refine Av.of (i:=9) rfl U (by rfl) ?_
         refine A0 (m:=0) AK ET U U (AB ⟨U,?_⟩)
         exact AF (by exact AG U) (AL (by kernel_rfl) ((hA36 _ _ _).1 A36_01239)) rfl)
       have A36_0129:A36 8 #[true,true,true,false,false,false,false,false,false,true,false,false] ⟨149,Ab [(2,(i64 p2)),(3,(ls eI p3)),(12,(.ptr 0 0 0 0)),(48,(ls AI p0.decls)),(49,(ls eI p3))],[JC]⟩:=(hA36 _ _ _).2 (by
        refine Ad [3] U (by kernel_rfl) (by decide) ⟨?_,trivial⟩
        ·refine Av.of (i:=3) rfl U (by rfl) ?_
         refine zx BF gc34 U U U (AB ⟨U,?_⟩)
         exact AF (by exact AG U) (AL (by kernel_rfl) ((hA36 _ _ _).1 A36_01239)) rfl)
       have A36_012:A36 9 #[true,true,true,false,false,false,false,false,false,false,false,false] ⟨149,Ab [(2,(i64 p2)),(3,(ls eI p3)),(48,(ls AI p0.decls)),(49,(ls eI p3))],[]⟩:=(hA36 _ _ _).2 (by
        refine Ad [3,9] U (by kernel_rfl) (by decide) ⟨?_,?_,trivial⟩
        ·refine Av.of (i:=3) rfl U (by rfl) ?_
         refine zx BF gc34 U U U (AB ⟨U,?_⟩)
         exact AF (by exact AG U) (AL (by kernel_rfl) ((hA36 _ _ _).1 A36_0123)) rfl
        ·refine Av.of (i:=9) rfl U (by rfl) ?_
         refine A0 (m:=0) AK ET U U (AB ⟨U,?_⟩)
         exact AF (by exact AG U) (AL (by kernel_rfl) ((hA36 _ _ _).1 A36_0129)) rfl)
       have A36_02349:A36 7 #[true,false,true,true,true,false,false,false,false,true,false,false] ⟨149,Ab [(2,(i64 p2)),(3,(ls eI p3)),(12,(.ptr 0 0 0 0)),(47,(.ptr 1 0 0 0)),(51,(i64 c34))],[JC,⟨0,97,2,[(AM p0)]⟩]⟩:=(hA36 _ _ _).2 (by
        refine Ad [1] U (by kernel_rfl) (by decide) ⟨?_,trivial⟩
        ·refine Av.of (i:=1) rfl U (by rfl) ?_
         refine zq tb U (AB ⟨U,?_⟩)
         exact AF (by exact AT (L:=[(2,(i64 p2)),(3,(ls eI p3)),(12,(.ptr 0 0 0 0)),(48,(ls AI p0.decls)),(51,(i64 c34))]) (st':=[JC]) [0] U (by decide) rfl U (.raw U U .nil) ⟨.rfl,.rfl,.rfl,.rfl,.rfl,trivial⟩) (AL (by kernel_rfl) ((hA36 _ _ _).1 A36_012349)) rfl)
       have A36_0234:A36 8 #[true,false,true,true,true,false,false,false,false,false,false,false] ⟨149,Ab [(2,(i64 p2)),(3,(ls eI p3)),(47,(.ptr 0 0 0 0)),(51,(i64 c34))],[⟨0,97,2,[(AM p0)]⟩]⟩:=(hA36 _ _ _).2 (by
        refine Ad [1,9] U (by kernel_rfl) (by decide) ⟨?_,?_,trivial⟩
        ·refine Av.of (i:=1) rfl U (by rfl) ?_
         refine zq tb U (AB ⟨U,?_⟩)
         exact AF (by exact AT (L:=[(2,(i64 p2)),(3,(ls eI p3)),(48,(ls AI p0.decls)),(51,(i64 c34))]) (st':=[]) [] U (by decide) rfl U .nil ⟨.rfl,.rfl,.rfl,.rfl,trivial⟩) (AL (by kernel_rfl) ((hA36 _ _ _).1 A36_01234)) rfl
        ·refine Av.of (i:=9) rfl U (by rfl) ?_
         refine A0 (m:=1) AK ET U U (AB ⟨U,?_⟩)
         exact AF (by exact AT (L:=[(2,(i64 p2)),(3,(ls eI p3)),(12,(.ptr 0 0 0 0)),(47,(.ptr 1 0 0 0)),(51,(i64 c34))]) (st':=[JC,⟨0,97,2,[(AM p0)]⟩]) [1,0] U (by decide) rfl U (.raw U U (.raw U U .nil)) ⟨.rfl,.rfl,.rfl,.rfl,.rfl,trivial⟩) (AL (by kernel_rfl) ((hA36 _ _ _).1 A36_02349)) rfl)
       have A36_0239:A36 8 #[true,false,true,true,false,false,false,false,false,true,false,false] ⟨149,Ab [(2,(i64 p2)),(3,(ls eI p3)),(12,(.ptr 0 0 0 0)),(47,(.ptr 1 0 0 0)),(50,(.Al (eI c34) 0))],[JC,⟨0,97,2,[(AM p0)]⟩]⟩:=(hA36 _ _ _).2 (by
        refine Ad [1,4] U (by kernel_rfl) (by decide) ⟨?_,?_,trivial⟩
        ·refine Av.of (i:=1) rfl U (by rfl) ?_
         refine zq tb U (AB ⟨U,?_⟩)
         exact AF (by exact AT (L:=[(2,(i64 p2)),(3,(ls eI p3)),(12,(.ptr 0 0 0 0)),(48,(ls AI p0.decls)),(50,(.Al (eI c34) 0))]) (st':=[JC]) [0] U (by decide) rfl U (.raw U U .nil) ⟨.rfl,.rfl,.rfl,.rfl,.rfl,trivial⟩) (AL (by kernel_rfl) ((hA36 _ _ _).1 A36_01239)) rfl
        ·refine Av.of (i:=4) rfl U (by rfl) ?_
         refine zq tb U (AB ⟨U,?_⟩)
         exact AF (by exact AG U) (AL (by kernel_rfl) ((hA36 _ _ _).1 A36_02349)) rfl)
       have A36_023:A36 9 #[true,false,true,true,false,false,false,false,false,false,false,false] ⟨149,Ab [(2,(i64 p2)),(3,(ls eI p3)),(47,(.ptr 0 0 0 0)),(50,(.Al (eI c34) 0))],[⟨0,97,2,[(AM p0)]⟩]⟩:=(hA36 _ _ _).2 (by
        refine Ad [1,4,9] U (by kernel_rfl) (by decide) ⟨?_,?_,?_,trivial⟩
        ·refine Av.of (i:=1) rfl U (by rfl) ?_
         refine zq tb U (AB ⟨U,?_⟩)
         exact AF (by exact AT (L:=[(2,(i64 p2)),(3,(ls eI p3)),(48,(ls AI p0.decls)),(50,(.Al (eI c34) 0))]) (st':=[]) [] U (by decide) rfl U .nil ⟨.rfl,.rfl,.rfl,.rfl,trivial⟩) (AL (by kernel_rfl) ((hA36 _ _ _).1 A36_0123)) rfl
        ·refine Av.of (i:=4) rfl U (by rfl) ?_
         refine zq tb U (AB ⟨U,?_⟩)
         exact AF (by exact AG U) (AL (by kernel_rfl) ((hA36 _ _ _).1 A36_0234)) rfl
        ·refine Av.of (i:=9) rfl U (by rfl) ?_
         refine A0 (m:=1) AK ET U U (AB ⟨U,?_⟩)
         exact AF (by exact AT (L:=[(2,(i64 p2)),(3,(ls eI p3)),(12,(.ptr 0 0 0 0)),(47,(.ptr 1 0 0 0)),(50,(.Al (eI c34) 0))]) (st':=[JC,⟨0,97,2,[(AM p0)]⟩]) [1,0] U (by decide) rfl U (.raw U U (.raw U U .nil)) ⟨.rfl,.rfl,.rfl,.rfl,.rfl,trivial⟩) (AL (by kernel_rfl) ((hA36 _ _ _).1 A36_0239)) rfl)
       have A36_029:A36 9 #[true,false,true,false,false,false,false,false,false,true,false,false] ⟨149,Ab [(2,(i64 p2)),(3,(ls eI p3)),(12,(.ptr 0 0 0 0)),(47,(.ptr 1 0 0 0)),(49,(ls eI p3))],[JC,⟨0,97,2,[(AM p0)]⟩]⟩:=(hA36 _ _ _).2 (by
        refine Ad [1,3] U (by kernel_rfl) (by decide) ⟨?_,?_,trivial⟩
        ·refine Av.of (i:=1) rfl U (by rfl) ?_
         refine zq tb U (AB ⟨U,?_⟩)
         exact AF (by exact AT (L:=[(2,(i64 p2)),(3,(ls eI p3)),(12,(.ptr 0 0 0 0)),(48,(ls AI p0.decls)),(49,(ls eI p3))]) (st':=[JC]) [0] U (by decide) rfl U (.raw U U .nil) ⟨.rfl,.rfl,.rfl,.rfl,.rfl,trivial⟩) (AL (by kernel_rfl) ((hA36 _ _ _).1 A36_0129)) rfl
        ·refine Av.of (i:=3) rfl U (by rfl) ?_
         refine zx BF gc34 U U U (AB ⟨U,?_⟩)
         exact AF (by exact AG U) (AL (by kernel_rfl) ((hA36 _ _ _).1 A36_0239)) rfl)
       have A36_02:A36 10 #[true,false,true,false,false,false,false,false,false,false,false,false] ⟨149,Ab [(2,(i64 p2)),(3,(ls eI p3)),(47,(.ptr 0 0 0 0)),(49,(ls eI p3))],[⟨0,97,2,[(AM p0)]⟩]⟩:=(hA36 _ _ _).2 (by
        refine Ad [1,3,9] U (by kernel_rfl) (by decide) ⟨?_,?_,?_,trivial⟩
        ·refine Av.of (i:=1) rfl U (by rfl) ?_
         refine zq tb U (AB ⟨U,?_⟩)
         exact AF (by exact AT (L:=[(2,(i64 p2)),(3,(ls eI p3)),(48,(ls AI p0.decls)),(49,(ls eI p3))]) (st':=[]) [] U (by decide) rfl U .nil ⟨.rfl,.rfl,.rfl,.rfl,trivial⟩) (AL (by kernel_rfl) ((hA36 _ _ _).1 A36_012)) rfl
        ·refine Av.of (i:=3) rfl U (by rfl) ?_
         refine zx BF gc34 U U U (AB ⟨U,?_⟩)
         exact AF (by exact AG U) (AL (by kernel_rfl) ((hA36 _ _ _).1 A36_023)) rfl
        ·refine Av.of (i:=9) rfl U (by rfl) ?_
         refine A0 (m:=1) AK ET U U (AB ⟨U,?_⟩)
         exact AF (by exact AT (L:=[(2,(i64 p2)),(3,(ls eI p3)),(12,(.ptr 0 0 0 0)),(47,(.ptr 1 0 0 0)),(49,(ls eI p3))]) (st':=[JC,⟨0,97,2,[(AM p0)]⟩]) [1,0] U (by decide) rfl U (.raw U U (.raw U U .nil)) ⟨.rfl,.rfl,.rfl,.rfl,.rfl,trivial⟩) (AL (by kernel_rfl) ((hA36 _ _ _).1 A36_029)) rfl)
       have A36_2349:A36 8 #[false,false,true,true,true,false,false,false,false,true,false,false] ⟨149,Ab [(2,(i64 p2)),(3,(ls eI p3)),(4,(.ptr 0 0 0 0)),(12,(.ptr 1 0 0 0)),(51,(i64 c34))],[⟨0,97,2,[(AM p0)]⟩,JC]⟩:=(hA36 _ _ _).2 (by
        refine Ad [0] U (by kernel_rfl) (by decide) ⟨?_,trivial⟩
        ·refine Av.of (i:=0) rfl U (by rfl) ?_
         refine zq tb U (AB ⟨U,?_⟩)
         exact AF (by exact AT (L:=[(2,(i64 p2)),(3,(ls eI p3)),(12,(.ptr 0 0 0 0)),(47,(.ptr 1 0 0 0)),(51,(i64 c34))]) (st':=[JC,⟨0,97,2,[(AM p0)]⟩]) [1,0] U (by decide) rfl U (.raw U U (.raw U U .nil)) ⟨.rfl,.rfl,.rfl,.rfl,.rfl,trivial⟩) (AL (by kernel_rfl) ((hA36 _ _ _).1 A36_02349)) rfl)
       have A36_234:A36 9 #[false,false,true,true,true,false,false,false,false,false,false,false] ⟨149,Ab [(2,(i64 p2)),(3,(ls eI p3)),(4,(.ptr 0 0 0 0)),(51,(i64 c34))],[⟨0,97,2,[(AM p0)]⟩]⟩:=(hA36 _ _ _).2 (by
        refine Ad [0,9] U (by kernel_rfl) (by decide) ⟨?_,?_,trivial⟩
        ·refine Av.of (i:=0) rfl U (by rfl) ?_
         refine zq tb U (AB ⟨U,?_⟩)
         exact AF (by exact AG U) (AL (by kernel_rfl) ((hA36 _ _ _).1 A36_0234)) rfl
        ·refine Av.of (i:=9) rfl U (by rfl) ?_
         refine A0 (m:=1) AK ET U U (AB ⟨U,?_⟩)
         exact AF (by exact AG U) (AL (by kernel_rfl) ((hA36 _ _ _).1 A36_2349)) rfl)
       have A36_239:A36 9 #[false,false,true,true,false,false,false,false,false,true,false,false] ⟨149,Ab [(2,(i64 p2)),(3,(ls eI p3)),(4,(.ptr 0 0 0 0)),(12,(.ptr 1 0 0 0)),(50,(.Al (eI c34) 0))],[⟨0,97,2,[(AM p0)]⟩,JC]⟩:=(hA36 _ _ _).2 (by
        refine Ad [0,4] U (by kernel_rfl) (by decide) ⟨?_,?_,trivial⟩
        ·refine Av.of (i:=0) rfl U (by rfl) ?_
         refine zq tb U (AB ⟨U,?_⟩)
         exact AF (by exact AT (L:=[(2,(i64 p2)),(3,(ls eI p3)),(12,(.ptr 0 0 0 0)),(47,(.ptr 1 0 0 0)),(50,(.Al (eI c34) 0))]) (st':=[JC,⟨0,97,2,[(AM p0)]⟩]) [1,0] U (by decide) rfl U (.raw U U (.raw U U .nil)) ⟨.rfl,.rfl,.rfl,.rfl,.rfl,trivial⟩) (AL (by kernel_rfl) ((hA36 _ _ _).1 A36_0239)) rfl
        ·refine Av.of (i:=4) rfl U (by rfl) ?_
         refine zq tb U (AB ⟨U,?_⟩)
         exact AF (by exact AG U) (AL (by kernel_rfl) ((hA36 _ _ _).1 A36_2349)) rfl)
       have A36_23:A36 10 #[false,false,true,true,false,false,false,false,false,false,false,false] ⟨149,Ab [(2,(i64 p2)),(3,(ls eI p3)),(4,(.ptr 0 0 0 0)),(50,(.Al (eI c34) 0))],[⟨0,97,2,[(AM p0)]⟩]⟩:=(hA36 _ _ _).2 (by
        refine Ad [0,4,9] U (by kernel_rfl) (by decide) ⟨?_,?_,?_,trivial⟩
        ·refine Av.of (i:=0) rfl U (by rfl) ?_
         refine zq tb U (AB ⟨U,?_⟩)
         exact AF (by exact AG U) (AL (by kernel_rfl) ((hA36 _ _ _).1 A36_023)) rfl
        ·refine Av.of (i:=4) rfl U (by rfl) ?_
         refine zq tb U (AB ⟨U,?_⟩)
         exact AF (by exact AG U) (AL (by kernel_rfl) ((hA36 _ _ _).1 A36_234)) rfl
        ·refine Av.of (i:=9) rfl U (by rfl) ?_
         refine A0 (m:=1) AK ET U U (AB ⟨U,?_⟩)
         exact AF (by exact AG U) (AL (by kernel_rfl) ((hA36 _ _ _).1 A36_239)) rfl)
       have A36_29:A36 10 #[false,false,true,false,false,false,false,false,false,true,false,false] ⟨149,Ab [(2,(i64 p2)),(3,(ls eI p3)),(4,(.ptr 0 0 0 0)),(12,(.ptr 1 0 0 0)),(49,(ls eI p3))],[⟨0,97,2,[(AM p0)]⟩,JC]⟩:=(hA36 _ _ _).2 (by
        refine Ad [0,3] U (by kernel_rfl) (by decide) ⟨?_,?_,trivial⟩
        ·refine Av.of (i:=0) rfl U (by rfl) ?_
         refine zq tb U (AB ⟨U,?_⟩)
         exact AF (by exact AT (L:=[(2,(i64 p2)),(3,(ls eI p3)),(12,(.ptr 0 0 0 0)),(47,(.ptr 1 0 0 0)),(49,(ls eI p3))]) (st':=[JC,⟨0,97,2,[(AM p0)]⟩]) [1,0] U (by decide) rfl U (.raw U U (.raw U U .nil)) ⟨.rfl,.rfl,.rfl,.rfl,.rfl,trivial⟩) (AL (by kernel_rfl) ((hA36 _ _ _).1 A36_029)) rfl
        ·refine Av.of (i:=3) rfl U (by rfl) ?_
         refine zx BF gc34 U U U (AB ⟨U,?_⟩)
         exact AF (by exact AG U) (AL (by kernel_rfl) ((hA36 _ _ _).1 A36_239)) rfl)
       have A36_2:A36 11 #[false,false,true,false,false,false,false,false,false,false,false,false] ⟨149,Ab [(2,(i64 p2)),(3,(ls eI p3)),(4,(.ptr 0 0 0 0)),(49,(ls eI p3))],[⟨0,97,2,[(AM p0)]⟩]⟩:=(hA36 _ _ _).2 (by
        refine Ad [0,3,9] U (by kernel_rfl) (by decide) ⟨?_,?_,?_,trivial⟩
        ·refine Av.of (i:=0) rfl U (by rfl) ?_
         refine zq tb U (AB ⟨U,?_⟩)
         exact AF (by exact AG U) (AL (by kernel_rfl) ((hA36 _ _ _).1 A36_02)) rfl
        ·refine Av.of (i:=3) rfl U (by rfl) ?_
         refine zx BF gc34 U U U (AB ⟨U,?_⟩)
         exact AF (by exact AG U) (AL (by kernel_rfl) ((hA36 _ _ _).1 A36_23)) rfl
        ·refine Av.of (i:=9) rfl U (by rfl) ?_
         refine A0 (m:=1) AK ET U U (AB ⟨U,?_⟩)
         exact AF (by exact AG U) (AL (by kernel_rfl) ((hA36 _ _ _).1 A36_29)) rfl)
       have A36_e:A36 12 #[false,false,false,false,false,false,false,false,false,false,false,false] ⟨149,Ab [(2,(i64 p2)),(3,(ls eI p3)),(4,(.ptr 0 0 0 0))],[⟨0,97,2,[(AM p0)]⟩]⟩:=(hA36 _ _ _).2 (by
        refine CY 2 (v:=(ls eI p3)) rfl U (by kernel_rfl) (by kernel_rfl) (by kernel_rfl) rfl (GA U) ?_
        exact AF (by exact AG U) (AL (by kernel_rfl) ((hA36 _ _ _).1 A36_2)) rfl)
       refine (hA36 _ _ _).2 ?_
       exact AF (by exact AG U) (AL (by kernel_rfl) ((hA36 _ _ _).1 A36_e)) rfl
     ·intro b26 h1
      refine zr tb U U ?_
      refine ci h1 U ?_ ?_ <;> clear h1
      ·intro b38 h1
       refine sr U fun K39 hK39=>zm tb 3 U (bs h1 fun q40 gq40 h1=>zc (v':=(.CA [(i64 q40.1),(.agg (BK q40.2))])) WB (LC gq40) rfl U U (zm tb 3 U (A0 (m:=1) AK MQ U U (zq tb U (Az AK KG U U U U U U (show 0+1≤1 by decide) rfl (dn hK39 U (AJ fun K41 hK41=>bs h1 fun o43 h2 h1=>?_)))))))
       have M43 :∀(t42:Bool),o43=t42→∀s,Wk 0 s ⟨149,Ab [(8,(i64 q40.1)),(9,(.bool t42))],[]⟩→K41 s:=by
        intro t42 hq s hw
        subst o43
        try dsimp only at h1
        refine hK41 _ (AS hw ?_)
        replace h1:=Sh.AE h1
        subst o5
        try dsimp only[id] at h0
        replace h0:=Sh.AE h0
        subst r
        exact AZ (xr (Ah (L:=[(8,(i64 q40.1)),(9,(.bool t42))]) ⟨.rfl,.rfl,trivial⟩))
       refine AN U (zm tb 4 U ?_)
       rcases Sh.An h2 with ⟨b44,h2⟩ | ⟨b44,h2⟩
       ·exact zg tb b44 U (zg tb b44 U (zg tb b44 U (bs h2 fun q45 gq45 h2=>zd b44 Rb (EV gq45) rfl U U U (zt b44 U (zm tb 2 U (AB (M43 q45 (Sh.AE h2).symm _ (Ax _ U))))))))
       ·refine zs b44 U ?_
        iterate 3 refine zs b44 rfl ?_
        exact zf b44 U (zm tb 2 U (AB (M43 false (Sh.AE h2).symm _ (Ax _ U))))
      ·intro b38 h1
       refine AJ fun K46 hK46=>bs h1 fun o48 h2 h1=>?_
       have M48 :∀(t47:Bool),o48=t47→∀s,Wk 0 s ⟨149,Ab [(1,(i64 p1)),(2,(i64 p2)),(3,(ls eI p3)),(4,(.ptr 0 0 0 0)),(88,(.bool t47))],[⟨0,97,2,[(AM p0)]⟩]⟩→K46 s:=by
        intro t47 hq s hw
        subst o48
        try dsimp only at h1
        refine hK46 _ (AS hw ?_)
        refine ci h1 U ?_ ?_ <;> clear h1
        ·intro b49 h1
         refine AJ fun K50 hK50=>AJ fun K51 hK51=>bs h1 fun o53 h2 h1=>?_
         have M53 :∀(t52:Bool),o53=t52→∀s,Wk 0 s ⟨149,Ab [(1,(i64 p1)),(2,(i64 p2)),(3,(ls eI p3)),(4,(.ptr 0 0 0 0)),(99,(.bool t52))],[⟨0,97,2,[(AM p0)]⟩]⟩→K51 s:=by
          intro t52 hq s hw
          subst o53
          try dsimp only at h1
          refine hK51 _ (AS hw ?_)
          refine ci h1 U ?_ ?_ <;> clear h1
          ·intro b54 h1
           refine zr tb U U ?_
           replace h1:=Sh.AE h1
           subst o5
           try dsimp only[id] at h0
           replace h0:=Sh.AE h0
           subst r
           exact AZ (xr (Ax [(8,(i64 (-1))),(9,(.bool false))] U))
          ·intro b54 h1
           refine AU (hK50 _ (AJ fun K56 hK56=>?_))
           refine CI (by kernel_rfl) (by kernel_rfl) (by rfl) ?_
           iterate 3 refine yq tb rfl ?_
           refine bs h1 fun c57 gc57 h1=>yx MG gc57 U U U ?_
           iterate 5 refine yq tb rfl ?_
           refine yx MG gc57 U U U ?_
           iterate 4 refine yq tb rfl ?_
           refine AR (hK56 _ (AJ fun K58 hK58=>zr tb U U ?_))
           refine ci h1 U ?_ ?_ <;> clear h1
           ·intro b60 h1
            refine sr U fun K61 hK61=>zm tb 3 U (bs h1 fun q62 gq62 h1=>zc Rb (EV gq62) rfl U U (zm tb 2 U (dn hK61 U ?_)))
            replace h1:=Sh.AE h1
            subst o5
            try dsimp only[id] at h0
            replace h0:=Sh.AE h0
            subst r
            exact AZ (xr (Ax [(8,(i64 c57.result)),(9,(.bool q62))] U))
           ·intro b60 h1
            refine AU (hK58 _ (sr U fun K63 hK63=>zq tb U (zl tb U U (zm tb 2 U (dn hK63 U (AJ fun K64 hK64=>zr tb U U ?_))))))
            refine ci h1 U ?_ ?_ <;> clear h1
            ·intro b66 h1
             refine zr tb U U ?_
             replace h1:=Sh.AE h1
             subst o5
             try dsimp only[id] at h0
             replace h0:=Sh.AE h0
             subst r
             exact AZ (xr (Ax [(8,(i64 (-1))),(9,(.bool false))] U))
            ·intro b66 h1
             refine AU (hK64 _ (AJ fun K68 hK68=>?_))
             refine CI (by kernel_rfl) (by kernel_rfl) (by rfl) ?_
             iterate 4 refine yq tb rfl ?_
             refine bs h1 fun c69 gc69 h1=>yx BF gc69 U U U ?_
             iterate 2 refine yq tb rfl ?_
             refine bs h1 fun q70 gq70 h1=>BX (v:=(i64 q70)) AK X4 (N5 gq70) rfl U U (yq tb U (AR (hK68 _ (AJ fun K71 hK71=>bs h1 fun o73 h2 h1=>?_))))
             have M73 :∀(t72:Bool),o73=t72→∀s,Wk 0 s ⟨149,Ab [(8,(i64 q70)),(9,(.bool t72))],[]⟩→K71 s:=by
              intro t72 hq s hw
              subst o73
              try dsimp only at h1
              refine hK71 _ (AS hw ?_)
              replace h1:=Sh.AE h1
              subst o5
              try dsimp only[id] at h0
              replace h0:=Sh.AE h0
              subst r
              exact AZ (xr (Ah (L:=[(8,(i64 q70)),(9,(.bool t72))]) ⟨.rfl,.rfl,trivial⟩))
             refine AN U (zm tb 4 U ?_)
             rcases Sh.An h2 with ⟨b74,h2⟩ | ⟨b74,h2⟩
             ·exact zg tb b74 U (zg tb b74 U (zg tb b74 U (bs h2 fun l75 gl75 h2=>NC (i:=0) (j:=Sh.w ((Sh.len c57.params) - 1)) (B0 U U b74) BF U U U (fun _=>U) gl75 (bs h2 fun q76 gq76 h2=>zd b74 Rb (EV gq76) rfl U U U (zt b74 U (zm tb 2 U (AB (M73 q76 (Sh.AE h2).symm _ (Ax _ U)))))))))
             ·refine zs b74 U ?_
              iterate 4 refine zs b74 rfl ?_
              exact zf b74 U (zm tb 2 U (AB (M73 false (Sh.AE h2).symm _ (Ax _ U))))
         refine AN U (zm tb 3 U ?_)
         rcases Sh.An h2 with ⟨b77,h2⟩ | ⟨b77,h2⟩
         ·refine zs b77 U ?_
          iterate 4 refine zs b77 rfl ?_
          exact zt b77 U (AB (M53 true (Sh.AE h2).symm _ (AG U)))
         ·exact zg tb b77 U (zg tb b77 U (zg tb b77 U (B3 (v:=(i64 (Sh.len p0.funcs))) (B0 U U b77) rfl (B9 VQ U) (zg tb b77 U (zf b77 U (AB (M53 (decide ((Sh.len p0.funcs)≤p2)) (Sh.AE h2).symm _ (AG U))))))))
        ·intro b49 h1
         refine zr tb U U ?_
         replace h1:=Sh.AE h1
         subst o5
         try dsimp only[id] at h0
         replace h0:=Sh.AE h0
         subst r
         exact AZ (xr (Ax [(8,(i64 (-1))),(9,(.bool false))] U))
       refine zr tb U U ?_
       refine ci h2 U ?_ ?_ <;> clear h2
       ·intro b80 h2
        exact AU (M48 true (Sh.AE h2).symm _ (Ah (L:=[(1,(i64 p1)),(2,(i64 p2)),(3,(ls eI p3)),(4,(.ptr 0 0 0 0)),(88,(.bool true))]) ⟨.rfl,.rfl,.rfl,.rfl,(.of (congrArg AV.bool b80)),trivial⟩))
       ·intro b80 h2
        exact AN U (zm tb 2 U (AB (M48 (decide (p1=10)) (Sh.AE h2).symm _ (AG U))))
  refine zr tb U U ?_
  refine ci h2 U ?_ ?_ <;> clear h2
  ·intro b82 h2
   exact AU (M21 true (Sh.AE h2).symm _ (Ah (L:=[(1,(i64 p1)),(2,(i64 p2)),(3,(ls eI p3)),(4,(.ptr 0 0 0 0)),(11,(i64 0)),(18,(i64 p1)),(32,(.bool true))]) ⟨.rfl,.rfl,.rfl,.rfl,.rfl,.rfl,(.of (congrArg AV.bool b82)),trivial⟩))
  ·intro b82 h2
   refine zr tb U U ?_
   refine ci h2 U ?_ ?_ <;> clear h2
   ·intro b84 h2
    exact AU (M21 true (Sh.AE h2).symm _ (Ah (L:=[(1,(i64 p1)),(2,(i64 p2)),(3,(ls eI p3)),(4,(.ptr 0 0 0 0)),(11,(i64 0)),(18,(i64 p1)),(32,(.bool true))]) ⟨.rfl,.rfl,.rfl,.rfl,.rfl,.rfl,(.of (congrArg AV.bool b84)),trivial⟩))
   ·intro b84 h2
    refine zr tb U U ?_
    refine ci h2 U ?_ ?_ <;> clear h2
    ·intro b86 h2
     exact AU (M21 true (Sh.AE h2).symm _ (Ah (L:=[(1,(i64 p1)),(2,(i64 p2)),(3,(ls eI p3)),(4,(.ptr 0 0 0 0)),(11,(i64 0)),(18,(i64 p1)),(32,(.bool true))]) ⟨.rfl,.rfl,.rfl,.rfl,.rfl,.rfl,(.of (congrArg AV.bool b86)),trivial⟩))
    ·intro b86 h2
     exact AN U (zm tb 2 U (AB (M21 (decide (p1=4)) (Sh.AE h2).symm _ (AG U))))
theorem IZ {N:Nat} {rec_impl_signatures_typeOf:(List Int)→BI→AP→Option (Int)} (hrec_impl_signatures_typeOf :∀{s0:(List Int)} {p0:BI} {p2:AP} {r:Int},rec_impl_signatures_typeOf s0 p0 p2=some r→Aj Try.prog 61 [(.agg (AM p0)),(ow 0 0 s0),(.agg [(i64 p2.op),(i64 p2.num),(ls AA p2.kids)])] [(ro 0 3 1 eI s0)] (fun v st=>v=(i64 r)∧st=[(ro 0 3 1 eI s0)])) {s0:(List Int)} {p0:BI} {p2:AP} {r:Int} (h0:BM N rec_impl_signatures_typeOf s0 p0 p2=some r):Aj Try.prog 61 [(.agg (AM p0)),(ow 0 0 s0),(.agg [(i64 p2.op),(i64 p2.num),(ls AA p2.kids)])] [(ro 0 3 1 eI s0)] (fun v st=>v=(i64 r)∧st=[(ro 0 3 1 eI s0)]):=by
 unfold BM at h0
 refine ai Try.func61 U U U U (sr U fun K1 hK1=>Bj (m:=1) AK U U U U U (Bj (m:=2) AK U U U U U (zq tb U (dn hK1 U (AJ fun K2 hK2=>zr tb U U (Ae (zr tb U U ?_)))))))
 refine ci h0 U ?_ ?_ <;> clear h0
 ·intro b5 h0
  refine AJ fun K6 hK6=>AJ fun K7 hK7=>bs h0 fun o9 h1 h0=>?_
  have M9 :∀(t8:Bool),o9=t8→∀s,Wk 1 s ⟨194,Ab [(1,(ow 0 0 s0)),(5,(.ptr 1 0 0 0)),(36,(.bool t8))],[(ro 0 3 1 eI s0),(Du p2.op p2.num p2.kids)]⟩→K7 s:=by
   intro t8 hq s hw
   subst o9
   try dsimp only at h0
   refine hK7 _ (AS hw ?_)
   refine ci h0 U ?_ ?_ <;> clear h0
   ·intro b10 h0
    refine zr tb U U ?_
    replace h0:=Sh.AE h0
    subst r
    exact AZ (xr (AT (L:=[(6,(i64 (-1)))]) (st':=[(ro 0 3 1 eI s0)]) [0] U (by decide) rfl U (.pure (AD fun _=>U) .nil) ⟨.rfl,trivial⟩))
   ·intro b10 h0
    refine AU (hK6 _ (sr U fun K12 hK12=>zm tb 3 U (bs h0 fun c13 gc13 h0=>zz (.ptr 0 0 (Int.toNat p2.num) 0) (Br BF U U U U gc13) rfl (zz (i64 c13) (B5 Fx U U (By gc13) rfl) rfl (zq tb U (dn hK12 U ?_))))))
    replace h0:=Sh.AE h0
    subst r
    exact AZ (xr (AT (L:=[(6,(i64 c13))]) (st':=[(ro 0 3 1 eI s0)]) [0] U (by decide) rfl U (.pure (AD fun _=>U) .nil) ⟨.rfl,trivial⟩))
  refine AN U (zm tb 2 U (zl tb U U (zm tb 2 U ?_)))
  rcases Sh.An h1 with ⟨b14,h1⟩ | ⟨b14,h1⟩
  ·refine zs b14 U (zs b14 U (zs b14 U (zt b14 U (zq tb U ?_))))
   iterate 5 refine zs rfl rfl ?_
   refine zt U U ?_
   exact AB (M9 true (Sh.AE h1).symm _ (AT (L:=[(1,(ow 0 0 s0)),(5,(.ptr 1 0 0 0)),(36,(.bool true))]) (st':=[(ro 0 3 1 eI s0),(Du p2.op p2.num p2.kids)]) [0,2] U (by decide) rfl U (.pure (AD fun _=>U) (.raw U U .nil)) ⟨.rfl,.rfl,.rfl,trivial⟩))
  ·refine zg tb b14 U (zg tb b14 U (zg tb b14 U (zf b14 U (zq tb U ?_))))
   rcases Sh.An h1 with ⟨b15,h1⟩ | ⟨b15,h1⟩
   ·refine zs b15 U ?_
    iterate 4 refine zs b15 rfl ?_
    refine zt b15 U ?_
    exact AB (M9 true (Sh.AE h1).symm _ (AT (L:=[(1,(ow 0 0 s0)),(5,(.ptr 1 0 0 0)),(36,(.bool true))]) (st':=[(ro 0 3 1 eI s0),(Du p2.op p2.num p2.kids)]) [0,2] U (by decide) rfl U (.pure (AD fun _=>U) (.raw U U .nil)) ⟨.rfl,.rfl,.rfl,trivial⟩))
   ·refine zg tb b15 U (zg tb b15 U (zg tb b15 U (B3 (v:=(i64 (Sh.len s0))) (B0 U U b15) rfl (Ch Ek U U U) (zg tb b15 U (zf b15 U ?_)))))
    exact AB (M9 (decide ((Sh.len s0)≤p2.num)) (Sh.AE h1).symm _ (AT (L:=[(1,(ow 0 0 s0)),(5,(.ptr 1 0 0 0)),(36,(.bool (decide ((Sh.len s0)≤p2.num))))]) (st':=[(ro 0 3 1 eI s0),(Du p2.op p2.num p2.kids)]) [0,2] U (by decide) rfl U (.pure (AD fun _=>U) (.raw U U .nil)) ⟨.rfl,.rfl,.rfl,trivial⟩))
 ·intro b5 h0
  refine zr tb U U ?_
  refine ci h0 U ?_ ?_ <;> clear h0
  ·intro b17 h0
   refine AJ fun K18 hK18=>AJ fun K19 hK19=>bs h0 fun o21 h1 h0=>?_
   have M21 :∀(t20:Bool),o21=t20→∀s,Wk 1 s ⟨194,Ab [(1,(ow 0 0 s0)),(3,(.ptr 1 0 0 0)),(5,(.ptr 2 0 0 0)),(52,(.bool t20))],[(ro 0 3 1 eI s0),⟨0,97,2,[(AM p0)]⟩,(Du p2.op p2.num p2.kids)]⟩→K19 s:=by
    intro t20 hq s hw
    subst o21
    try dsimp only at h0
    refine hK19 _ (AS hw ?_)
    refine ci h0 U ?_ ?_ <;> clear h0
    ·intro b22 h0
     refine zr tb U U ?_
     replace h0:=Sh.AE h0
     subst r
     exact AZ (xr (AT (L:=[(6,(i64 (-1)))]) (st':=[(ro 0 3 1 eI s0)]) [0] U (by decide) rfl U (.pure (AD fun _=>U) .nil) ⟨.rfl,trivial⟩))
    ·intro b22 h0
     refine AU (hK18 _ (AJ fun K24 hK24=>?_))
     refine CI (by kernel_rfl) (by kernel_rfl) (by rfl) ?_
     iterate 4 refine yq tb rfl ?_
     refine bs h0 fun c25 gc25 h0=>yz (.Al [(i64 c25.op),(i64 c25.num),(ls AA c25.kids)] 0) (CG BW U U gc25 (Ao _) rfl) rfl (yq tb U (bs h0 fun q26 gq26 h0=>?_))
     refine QG (rowsP:=[(ro 0 3 1 eI s0)]) (rows0:=[(ro 0 3 1 eI s0)]) (rows1:=[(ro 0 3 1 eI s0)]) (rows1':=[(ro 0 3 1 eI s0)]) (v':=(i64 q26)) [0] AK Om (hrec_impl_signatures_typeOf gq26) rfl (by decide) rfl U (.pure (AD fun _=>U) .nil) rfl U (.pure (AD fun _=>U) .nil) rfl U ?_
     refine yq tb U (AR (hK24 _ (AJ fun K27 hK27=>zr tb U U ?_)))
     refine ci h0 U ?_ ?_ <;> clear h0
     ·intro b29 h0
      refine zr tb U U ?_
      replace h0:=Sh.AE h0
      subst r
      exact AZ (xr (AT (L:=[(6,(i64 (-1)))]) (st':=[(ro 0 3 1 eI s0)]) [0] U (by decide) rfl U (.pure (AD fun _=>U) .nil) ⟨.rfl,trivial⟩))
     ·intro b29 h0
      refine AU (hK27 _ (AJ fun K31 hK31=>?_))
      refine HV (by kernel_rfl) ?_
      refine bs h0 fun l32 gl32 h0=>bs h0 fun c33 gc33 h0=>bs h0 fun q34 gq34 h0=>AX.two (ro 0 3 1 eI s0) (ro 0 3 1 eI l32) fun A35 A35' hA35 hA35'=>?_
      have A35_0123456789aw0:A35' 0 #[true,true,true,true,true,true,true,true,true,true,true] ⟨194,Ab [(6,(i64 q34))],[(ro 0 3 1 eI l32)]⟩:=(hA35' _ _ _).2 (by
       refine Fm U (by kernel_rfl) ⟨⟨_,U⟩,?_⟩
       refine hK31 _ ?_
       replace h0:=Sh.AE h0
       subst r
       exact AZ (Exists.intro _ (And.intro (Ah (L:=[(6,(i64 q34))]) ⟨.rfl,trivial⟩) (And.intro U U))))
      have A35_0123456789w0:A35' 1 #[true,true,true,true,true,true,true,true,true,true,false] ⟨194,Ab [(71,(i64 q34))],[(ro 0 3 1 eI l32)]⟩:=(hA35' _ _ _).2 (by
       refine CY 10 (v:=(i64 q34)) rfl U (by kernel_rfl) (by kernel_rfl) (by kernel_rfl) rfl (HT U) ?_
       exact AF (by exact AG U) (AL (by kernel_rfl) ((hA35' _ _ _).1 A35_0123456789aw0)) rfl)
      have A35_012345678w0:A35' 2 #[true,true,true,true,true,true,true,true,true,false,false] ⟨194,Ab [(62,(.agg (AM p0))),(66,(ow 0 0 l32)),(70,(.agg [(i64 c33.op),(i64 c33.num),(ls AA c33.kids)]))],[(ro 0 3 1 eI l32)]⟩:=(hA35' _ _ _).2 (by
       refine Ad [9] U (by kernel_rfl) (by decide) ⟨?_,trivial⟩
       ·refine Av.of (i:=9) rfl U (by rfl) ?_
        refine A4 (rowsP:=[(ro 0 3 1 eI l32)]) (rows0:=[(ro 0 3 1 eI l32)]) (rows1:=[(ro 0 3 1 eI l32)]) (rows2:=[]) (rows1':=[(ro 0 3 1 eI l32)]) (rows2':=[]) (st':=[(ro 0 3 1 eI l32)]) (v':=(i64 q34)) [0] AK Om (hrec_impl_signatures_typeOf gq34) rfl (by decide) rfl U (.pure (AD fun _=>U) .nil) rfl U (.pure (AD fun _=>U) .nil) .nil U U ?_
        refine AB ⟨U,?_⟩
        exact AF (by exact AG U) (AL (by kernel_rfl) ((hA35' _ _ _).1 A35_0123456789w0)) rfl)
      have A35_01234567w0:A35' 3 #[true,true,true,true,true,true,true,true,false,false,false] ⟨194,Ab [(62,(.agg (AM p0))),(66,(ow 0 0 l32)),(69,(.Al [(i64 c33.op),(i64 c33.num),(ls AA c33.kids)] 0))],[(ro 0 3 1 eI l32)]⟩:=(hA35' _ _ _).2 (by
       refine Ad [8] U (by kernel_rfl) (by decide) ⟨?_,trivial⟩
       ·refine Av.of (i:=8) rfl U (by rfl) ?_
        refine zq tb U (AB ⟨U,?_⟩)
        exact AF (by exact AG U) (AL (by kernel_rfl) ((hA35' _ _ _).1 A35_012345678w0)) rfl)
      have A35_0123456w0:A35' 4 #[true,true,true,true,true,true,true,false,false,false,false] ⟨194,Ab [(62,(.agg (AM p0))),(66,(ow 0 0 l32)),(68,(ls AA p2.kids))],[(ro 0 3 1 eI l32)]⟩:=(hA35' _ _ _).2 (by
       refine Ad [7] U (by kernel_rfl) (by decide) ⟨?_,trivial⟩
       ·refine Av.of (i:=7) rfl U (by rfl) ?_
        refine zz (.Al [(i64 c33.op),(i64 c33.num),(ls AA c33.kids)] 0) (CG BW U U gc33 (Ao _) rfl) rfl (AB ⟨U,?_⟩)
        exact AF (by exact AG U) (AL (by kernel_rfl) ((hA35' _ _ _).1 A35_01234567w0)) rfl)
      have A35_012345w0:A35' 5 #[true,true,true,true,true,true,false,false,false,false,false] ⟨194,Ab [(62,(.agg (AM p0))),(66,(ow 0 0 l32)),(67,(.ptr 1 0 0 2))],[(ro 0 3 1 eI l32),(Du p2.op p2.num p2.kids)]⟩:=(hA35' _ _ _).2 (by
       refine Ad [6] U (by kernel_rfl) (by decide) ⟨?_,trivial⟩
       ·refine Av.of (i:=6) rfl U (by rfl) ?_
        refine zq tb U (AB ⟨U,?_⟩)
        exact AF (by exact AT (L:=[(62,(.agg (AM p0))),(66,(ow 0 0 l32)),(68,(ls AA p2.kids))]) (st':=[(ro 0 3 1 eI l32)]) [0] U (by decide) rfl U (.pure (AD fun _=>U) .nil) ⟨.rfl,.rfl,.rfl,trivial⟩) (AL (by kernel_rfl) ((hA35' _ _ _).1 A35_0123456w0)) rfl)
      have A35_01234w0:A35' 6 #[true,true,true,true,true,false,false,false,false,false,false] ⟨194,Ab [(5,(.ptr 1 0 0 0)),(62,(.agg (AM p0))),(66,(ow 0 0 l32))],[(ro 0 3 1 eI l32),(Du p2.op p2.num p2.kids)]⟩:=(hA35' _ _ _).2 (by
       refine Ad [5] U (by kernel_rfl) (by decide) ⟨?_,trivial⟩
       ·refine Av.of (i:=5) rfl U (by rfl) ?_
        refine zq tb U (AB ⟨U,?_⟩)
        exact AF (by exact AG U) (AL (by kernel_rfl) ((hA35' _ _ _).1 A35_012345w0)) rfl)
      have A35_0123456789aw1:A35 0 #[true,true,true,true,true,true,true,true,true,true,true] ⟨194,Ab [(6,(i64 q34))],[(ro 0 3 1 eI s0)]⟩:=(hA35 _ _ _).2 (by
       refine Fm U (by kernel_rfl) ?_
       refine hK31 _ ?_
       replace h0:=Sh.AE h0
       subst r
       exact AZ (Exists.intro _ (And.intro (Ah (L:=[(6,(i64 q34))]) ⟨.rfl,trivial⟩) (And.intro U U))))
      have A35_0123456789w1:A35 1 #[true,true,true,true,true,true,true,true,true,true,false] ⟨194,Ab [(71,(i64 q34))],[(ro 0 3 1 eI s0)]⟩:=(hA35 _ _ _).2 (by
       refine CY 10 (v:=(i64 q34)) rfl U (by kernel_rfl) (by kernel_rfl) (by kernel_rfl) rfl (HT U) ?_
       exact AF (by exact AG U) (AL (by kernel_rfl) ((hA35 _ _ _).1 A35_0123456789aw1)) rfl)
      have A35_012345678w1:A35 2 #[true,true,true,true,true,true,true,true,true,false,false] ⟨194,Ab [(62,(.agg (AM p0))),(66,(ow 1 0 l32)),(70,(.agg [(i64 c33.op),(i64 c33.num),(ls AA c33.kids)]))],[(ro 0 3 1 eI s0),(ro 0 3 1 eI l32)]⟩:=(hA35 _ _ _).2 (by
       refine Ad [9] U (by kernel_rfl) (by decide) ⟨?_,trivial⟩
       ·refine Av.of (i:=9) rfl U (by rfl) ?_
        refine A4 (rowsP:=[(ro 0 3 1 eI l32)]) (rows0:=[(ro 0 3 1 eI l32)]) (rows1:=[(ro 0 3 1 eI l32)]) (rows2:=[]) (rows1':=[(ro 0 3 1 eI l32)]) (rows2':=[]) (st':=[(ro 0 3 1 eI s0),(ro 0 3 1 eI l32)]) (v':=(i64 q34)) [1] AK Om (hrec_impl_signatures_typeOf gq34) rfl (by decide) rfl U (.pure (AD fun _=>U) .nil) rfl U (.pure (AD fun _=>U) .nil) .nil U U ?_
        refine AB ⟨U,?_⟩
        exact AF (by exact AT (L:=[(71,(i64 q34))]) (st':=[(ro 0 3 1 eI s0)]) [0] U (by decide) rfl U (.pure (AD fun _=>U) .nil) ⟨.rfl,trivial⟩) (AL (by kernel_rfl) ((hA35 _ _ _).1 A35_0123456789w1)) rfl)
      have A35_01234567w1:A35 3 #[true,true,true,true,true,true,true,true,false,false,false] ⟨194,Ab [(62,(.agg (AM p0))),(66,(ow 1 0 l32)),(69,(.Al [(i64 c33.op),(i64 c33.num),(ls AA c33.kids)] 0))],[(ro 0 3 1 eI s0),(ro 0 3 1 eI l32)]⟩:=(hA35 _ _ _).2 (by
       refine Ad [8] U (by kernel_rfl) (by decide) ⟨?_,trivial⟩
       ·refine Av.of (i:=8) rfl U (by rfl) ?_
        refine zq tb U (AB ⟨U,?_⟩)
        exact AF (by exact AG U) (AL (by kernel_rfl) ((hA35 _ _ _).1 A35_012345678w1)) rfl)
      have A35_0123456w1:A35 4 #[true,true,true,true,true,true,true,false,false,false,false] ⟨194,Ab [(62,(.agg (AM p0))),(66,(ow 1 0 l32)),(68,(ls AA p2.kids))],[(ro 0 3 1 eI s0),(ro 0 3 1 eI l32)]⟩:=(hA35 _ _ _).2 (by
       refine Ad [7] U (by kernel_rfl) (by decide) ⟨?_,trivial⟩
       ·refine Av.of (i:=7) rfl U (by rfl) ?_
        refine zz (.Al [(i64 c33.op),(i64 c33.num),(ls AA c33.kids)] 0) (CG BW U U gc33 (Ao _) rfl) rfl (AB ⟨U,?_⟩)
        exact AF (by exact AG U) (AL (by kernel_rfl) ((hA35 _ _ _).1 A35_01234567w1)) rfl)
      have A35_012345w1:A35 5 #[true,true,true,true,true,true,false,false,false,false,false] ⟨194,Ab [(62,(.agg (AM p0))),(66,(ow 1 0 l32)),(67,(.ptr 2 0 0 2))],[(ro 0 3 1 eI s0),(ro 0 3 1 eI l32),(Du p2.op p2.num p2.kids)]⟩:=(hA35 _ _ _).2 (by
       refine Ad [6] U (by kernel_rfl) (by decide) ⟨?_,trivial⟩
       ·refine Av.of (i:=6) rfl U (by rfl) ?_
        refine zq tb U (AB ⟨U,?_⟩)
        exact AF (by exact AT (L:=[(62,(.agg (AM p0))),(66,(ow 1 0 l32)),(68,(ls AA p2.kids))]) (st':=[(ro 0 3 1 eI s0),(ro 0 3 1 eI l32)]) [0,1] U (by decide) rfl U (.pure (AD fun _=>U) (.pure (AD fun _=>U) .nil)) ⟨.rfl,.rfl,.rfl,trivial⟩) (AL (by kernel_rfl) ((hA35 _ _ _).1 A35_0123456w1)) rfl)
      have A35_01234w1:A35 6 #[true,true,true,true,true,false,false,false,false,false,false] ⟨194,Ab [(5,(.ptr 1 0 0 0)),(62,(.agg (AM p0))),(66,(ow 2 0 l32))],[(ro 0 3 1 eI s0),(Du p2.op p2.num p2.kids),(ro 0 3 1 eI l32)]⟩:=(hA35 _ _ _).2 (by
       refine Ad [5] U (by kernel_rfl) (by decide) ⟨?_,trivial⟩
       ·refine Av.of (i:=5) rfl U (by rfl) ?_
        refine zq tb U (AB ⟨U,?_⟩)
        exact AF (by exact AT (L:=[(62,(.agg (AM p0))),(66,(ow 1 0 l32)),(67,(.ptr 2 0 0 2))]) (st':=[(ro 0 3 1 eI s0),(ro 0 3 1 eI l32),(Du p2.op p2.num p2.kids)]) [0,2,1] U (by decide) rfl U (.pure (AD fun _=>U) (.pure (AD fun _=>U) (.raw U U .nil))) ⟨.rfl,.rfl,.rfl,trivial⟩) (AL (by kernel_rfl) ((hA35 _ _ _).1 A35_012345w1)) rfl)
      have A35_01235678:A35 3 #[true,true,true,true,false,true,true,true,true,false,false] ⟨194,Ab [(62,(.agg (AM p0))),(63,(ow 0 0 s0)),(65,(ow 1 0 [q26])),(70,(.agg [(i64 c33.op),(i64 c33.num),(ls AA c33.kids)]))],[(ro 0 3 1 eI s0),(ro 0 3 1 eI [q26])]⟩:=(hA35 _ _ _).2 (by
       refine Ad [4] U (by kernel_rfl) (by decide) ⟨?_,trivial⟩
       ·refine Et (l:=s0) (l2:=[q26]) (l':=l32) rfl U BF (DX (AD fun _=>U) (fun _ hq=>nomatch hq)) rfl U U (EP U U) rfl (fun _=>U) (fun _=>(AD fun _=>U)) gl32 ?_ ?_
        ·exact AF (by exact AT (L:=[(62,(.agg (AM p0))),(66,(ow 0 0 l32)),(70,(.agg [(i64 c33.op),(i64 c33.num),(ls AA c33.kids)]))]) (st':=[(ro 0 3 1 eI l32)]) [0] U (by decide) rfl U (.pure (AD fun _=>U) .nil) ⟨.rfl,.rfl,.rfl,trivial⟩) (AL (by kernel_rfl) ((hA35' _ _ _).1 A35_012345678w0)) rfl
        ·exact AF (by exact AT (L:=[(62,(.agg (AM p0))),(66,(ow 1 0 l32)),(70,(.agg [(i64 c33.op),(i64 c33.num),(ls AA c33.kids)]))]) (st':=[(ro 0 3 1 eI s0),(ro 0 3 1 eI l32)]) [0,2] U (by decide) rfl U (.pure (AD fun _=>U) (.pure (AD fun _=>U) .nil)) ⟨.rfl,.rfl,.rfl,trivial⟩) (AL (by kernel_rfl) ((hA35 _ _ _).1 A35_012345678w1)) rfl)
      have A35_0123567:A35 4 #[true,true,true,true,false,true,true,true,false,false,false] ⟨194,Ab [(62,(.agg (AM p0))),(63,(ow 0 0 s0)),(65,(ow 1 0 [q26])),(69,(.Al [(i64 c33.op),(i64 c33.num),(ls AA c33.kids)] 0))],[(ro 0 3 1 eI s0),(ro 0 3 1 eI [q26])]⟩:=(hA35 _ _ _).2 (by
       refine Ad [4,8] U (by kernel_rfl) (by decide) ⟨?_,?_,trivial⟩
       ·refine Et (l:=s0) (l2:=[q26]) (l':=l32) rfl U BF (DX (AD fun _=>U) (fun _ hq=>nomatch hq)) rfl U U (EP U U) rfl (fun _=>U) (fun _=>(AD fun _=>U)) gl32 ?_ ?_
        ·exact AF (by exact AT (L:=[(62,(.agg (AM p0))),(66,(ow 0 0 l32)),(69,(.Al [(i64 c33.op),(i64 c33.num),(ls AA c33.kids)] 0))]) (st':=[(ro 0 3 1 eI l32)]) [0] U (by decide) rfl U (.pure (AD fun _=>U) .nil) ⟨.rfl,.rfl,.rfl,trivial⟩) (AL (by kernel_rfl) ((hA35' _ _ _).1 A35_01234567w0)) rfl
        ·exact AF (by exact AT (L:=[(62,(.agg (AM p0))),(66,(ow 1 0 l32)),(69,(.Al [(i64 c33.op),(i64 c33.num),(ls AA c33.kids)] 0))]) (st':=[(ro 0 3 1 eI s0),(ro 0 3 1 eI l32)]) [0,2] U (by decide) rfl U (.pure (AD fun _=>U) (.pure (AD fun _=>U) .nil)) ⟨.rfl,.rfl,.rfl,trivial⟩) (AL (by kernel_rfl) ((hA35 _ _ _).1 A35_01234567w1)) rfl
       ·refine Av.of (i:=8) rfl U (by rfl) ?_
        refine zq tb U (AB ⟨U,?_⟩)
        exact AF (by exact AG U) (AL (by kernel_rfl) ((hA35 _ _ _).1 A35_01235678)) rfl)
      have A35_012356:A35 5 #[true,true,true,true,false,true,true,false,false,false,false] ⟨194,Ab [(62,(.agg (AM p0))),(63,(ow 0 0 s0)),(65,(ow 1 0 [q26])),(68,(ls AA p2.kids))],[(ro 0 3 1 eI s0),(ro 0 3 1 eI [q26])]⟩:=(hA35 _ _ _).2 (by
       refine Ad [4,7] U (by kernel_rfl) (by decide) ⟨?_,?_,trivial⟩
       ·refine Et (l:=s0) (l2:=[q26]) (l':=l32) rfl U BF (DX (AD fun _=>U) (fun _ hq=>nomatch hq)) rfl U U (EP U U) rfl (fun _=>U) (fun _=>(AD fun _=>U)) gl32 ?_ ?_
        ·exact AF (by exact AT (L:=[(62,(.agg (AM p0))),(66,(ow 0 0 l32)),(68,(ls AA p2.kids))]) (st':=[(ro 0 3 1 eI l32)]) [0] U (by decide) rfl U (.pure (AD fun _=>U) .nil) ⟨.rfl,.rfl,.rfl,trivial⟩) (AL (by kernel_rfl) ((hA35' _ _ _).1 A35_0123456w0)) rfl
        ·exact AF (by exact AT (L:=[(62,(.agg (AM p0))),(66,(ow 1 0 l32)),(68,(ls AA p2.kids))]) (st':=[(ro 0 3 1 eI s0),(ro 0 3 1 eI l32)]) [0,2] U (by decide) rfl U (.pure (AD fun _=>U) (.pure (AD fun _=>U) .nil)) ⟨.rfl,.rfl,.rfl,trivial⟩) (AL (by kernel_rfl) ((hA35 _ _ _).1 A35_0123456w1)) rfl
       ·refine Av.of (i:=7) rfl U (by rfl) ?_
        refine zz (.Al [(i64 c33.op),(i64 c33.num),(ls AA c33.kids)] 0) (CG BW U U gc33 (Ao _) rfl) rfl (AB ⟨U,?_⟩)
        exact AF (by exact AG U) (AL (by kernel_rfl) ((hA35 _ _ _).1 A35_0123567)) rfl)
      have A35_01235:A35 6 #[true,true,true,true,false,true,false,false,false,false,false] ⟨194,Ab [(62,(.agg (AM p0))),(63,(ow 0 0 s0)),(65,(ow 1 0 [q26])),(67,(.ptr 2 0 0 2))],[(ro 0 3 1 eI s0),(ro 0 3 1 eI [q26]),(Du p2.op p2.num p2.kids)]⟩:=(hA35 _ _ _).2 (by
       refine Ad [4,6] U (by kernel_rfl) (by decide) ⟨?_,?_,trivial⟩
       ·refine Et (l:=s0) (l2:=[q26]) (l':=l32) rfl U BF (DX (AD fun _=>U) (DX (Cp U) (fun _ hq=>nomatch hq))) rfl U U (EP U U) rfl (fun _=>U) (fun _=>(AD fun _=>U)) gl32 ?_ ?_
        ·exact AF (by exact AT (L:=[(62,(.agg (AM p0))),(66,(ow 0 0 l32)),(67,(.ptr 1 0 0 2))]) (st':=[(ro 0 3 1 eI l32),(Du p2.op p2.num p2.kids)]) [0,2] U (by decide) rfl U (.pure (AD fun _=>U) (.raw U U .nil)) ⟨.rfl,.rfl,.rfl,trivial⟩) (AL (by kernel_rfl) ((hA35' _ _ _).1 A35_012345w0)) rfl
        ·exact AF (by exact AT (L:=[(62,(.agg (AM p0))),(66,(ow 1 0 l32)),(67,(.ptr 2 0 0 2))]) (st':=[(ro 0 3 1 eI s0),(ro 0 3 1 eI l32),(Du p2.op p2.num p2.kids)]) [0,3,2] U (by decide) rfl U (.pure (AD fun _=>U) (.pure (AD fun _=>U) (.raw U U .nil))) ⟨.rfl,.rfl,.rfl,trivial⟩) (AL (by kernel_rfl) ((hA35 _ _ _).1 A35_012345w1)) rfl
       ·refine Av.of (i:=6) rfl U (by rfl) ?_
        refine zq tb U (AB ⟨U,?_⟩)
        exact AF (by exact AT (L:=[(62,(.agg (AM p0))),(63,(ow 0 0 s0)),(65,(ow 1 0 [q26])),(68,(ls AA p2.kids))]) (st':=[(ro 0 3 1 eI s0),(ro 0 3 1 eI [q26])]) [0,1] U (by decide) rfl U (.pure (AD fun _=>U) (.pure (AD fun _=>U) .nil)) ⟨.rfl,.rfl,.rfl,.rfl,trivial⟩) (AL (by kernel_rfl) ((hA35 _ _ _).1 A35_012356)) rfl)
      have A35_0123:A35 7 #[true,true,true,true,false,false,false,false,false,false,false] ⟨194,Ab [(5,(.ptr 1 0 0 0)),(62,(.agg (AM p0))),(63,(ow 0 0 s0)),(65,(ow 2 0 [q26]))],[(ro 0 3 1 eI s0),(Du p2.op p2.num p2.kids),(ro 0 3 1 eI [q26])]⟩:=(hA35 _ _ _).2 (by
       refine Ad [4,5] U (by kernel_rfl) (by decide) ⟨?_,?_,trivial⟩
       ·refine Et (l:=s0) (l2:=[q26]) (l':=l32) rfl U BF (DX (Cp U) (DX (AD fun _=>U) (fun _ hq=>nomatch hq))) rfl U U (EP U U) rfl (fun _=>U) (fun _=>(AD fun _=>U)) gl32 ?_ ?_
        ·exact AF (by exact AT (L:=[(5,(.ptr 1 0 0 0)),(62,(.agg (AM p0))),(66,(ow 0 0 l32))]) (st':=[(ro 0 3 1 eI l32),(Du p2.op p2.num p2.kids)]) [0,1] U (by decide) rfl U (.pure (AD fun _=>U) (.raw U U .nil)) ⟨.rfl,.rfl,.rfl,trivial⟩) (AL (by kernel_rfl) ((hA35' _ _ _).1 A35_01234w0)) rfl
        ·exact AF (by exact AT (L:=[(5,(.ptr 1 0 0 0)),(62,(.agg (AM p0))),(66,(ow 2 0 l32))]) (st':=[(ro 0 3 1 eI s0),(Du p2.op p2.num p2.kids),(ro 0 3 1 eI l32)]) [0,1,3] U (by decide) rfl U (.pure (AD fun _=>U) (.raw U U (.pure (AD fun _=>U) .nil))) ⟨.rfl,.rfl,.rfl,trivial⟩) (AL (by kernel_rfl) ((hA35 _ _ _).1 A35_01234w1)) rfl
       ·refine Av.of (i:=5) rfl U (by rfl) ?_
        refine zq tb U (AB ⟨U,?_⟩)
        exact AF (by exact AT (L:=[(62,(.agg (AM p0))),(63,(ow 0 0 s0)),(65,(ow 1 0 [q26])),(67,(.ptr 2 0 0 2))]) (st':=[(ro 0 3 1 eI s0),(ro 0 3 1 eI [q26]),(Du p2.op p2.num p2.kids)]) [0,2,1] U (by decide) rfl U (.pure (AD fun _=>U) (.pure (AD fun _=>U) (.raw U U .nil))) ⟨.rfl,.rfl,.rfl,.rfl,trivial⟩) (AL (by kernel_rfl) ((hA35 _ _ _).1 A35_01235)) rfl)
      have A35_0125678:A35 4 #[true,true,true,false,false,true,true,true,true,false,false] ⟨194,Ab [(62,(.agg (AM p0))),(63,(ow 0 0 s0)),(64,(i64 q26)),(70,(.agg [(i64 c33.op),(i64 c33.num),(ls AA c33.kids)]))],[(ro 0 3 1 eI s0)]⟩:=(hA35 _ _ _).2 (by
       refine Ad [3] U (by kernel_rfl) (by decide) ⟨?_,trivial⟩
       ·refine Av.of (i:=3) rfl U (by rfl) ?_
        refine A8 (m:=1) (l:=[q26]) (enc:=eI) AK BF (by decide) rfl U U U U U ?_
        refine AB ⟨U,?_⟩
        exact AF (by exact AG U) (AL (by kernel_rfl) ((hA35 _ _ _).1 A35_01235678)) rfl)
      have A35_012567:A35 5 #[true,true,true,false,false,true,true,true,false,false,false] ⟨194,Ab [(62,(.agg (AM p0))),(63,(ow 0 0 s0)),(64,(i64 q26)),(69,(.Al [(i64 c33.op),(i64 c33.num),(ls AA c33.kids)] 0))],[(ro 0 3 1 eI s0)]⟩:=(hA35 _ _ _).2 (by
       refine Ad [3,8] U (by kernel_rfl) (by decide) ⟨?_,?_,trivial⟩
       ·refine Av.of (i:=3) rfl U (by rfl) ?_
        refine A8 (m:=1) (l:=[q26]) (enc:=eI) AK BF (by decide) rfl U U U U U ?_
        refine AB ⟨U,?_⟩
        exact AF (by exact AG U) (AL (by kernel_rfl) ((hA35 _ _ _).1 A35_0123567)) rfl
       ·refine Av.of (i:=8) rfl U (by rfl) ?_
        refine zq tb U (AB ⟨U,?_⟩)
        exact AF (by exact AG U) (AL (by kernel_rfl) ((hA35 _ _ _).1 A35_0125678)) rfl)
      have A35_01256:A35 6 #[true,true,true,false,false,true,true,false,false,false,false] ⟨194,Ab [(62,(.agg (AM p0))),(63,(ow 0 0 s0)),(64,(i64 q26)),(68,(ls AA p2.kids))],[(ro 0 3 1 eI s0)]⟩:=(hA35 _ _ _).2 (by
       refine Ad [3,7] U (by kernel_rfl) (by decide) ⟨?_,?_,trivial⟩
       ·refine Av.of (i:=3) rfl U (by rfl) ?_
        refine A8 (m:=1) (l:=[q26]) (enc:=eI) AK BF (by decide) rfl U U U U U ?_
        refine AB ⟨U,?_⟩
        exact AF (by exact AG U) (AL (by kernel_rfl) ((hA35 _ _ _).1 A35_012356)) rfl
       ·refine Av.of (i:=7) rfl U (by rfl) ?_
        refine zz (.Al [(i64 c33.op),(i64 c33.num),(ls AA c33.kids)] 0) (CG BW U U gc33 (Ao _) rfl) rfl (AB ⟨U,?_⟩)
        exact AF (by exact AG U) (AL (by kernel_rfl) ((hA35 _ _ _).1 A35_012567)) rfl)
      have A35_0125:A35 7 #[true,true,true,false,false,true,false,false,false,false,false] ⟨194,Ab [(62,(.agg (AM p0))),(63,(ow 0 0 s0)),(64,(i64 q26)),(67,(.ptr 1 0 0 2))],[(ro 0 3 1 eI s0),(Du p2.op p2.num p2.kids)]⟩:=(hA35 _ _ _).2 (by
       refine Ad [3,6] U (by kernel_rfl) (by decide) ⟨?_,?_,trivial⟩
       ·refine Av.of (i:=3) rfl U (by rfl) ?_
        refine A8 (m:=2) (l:=[q26]) (enc:=eI) AK BF (by decide) rfl U U U U U ?_
        refine AB ⟨U,?_⟩
        exact AF (by exact AT (L:=[(62,(.agg (AM p0))),(63,(ow 0 0 s0)),(65,(ow 1 0 [q26])),(67,(.ptr 2 0 0 2))]) (st':=[(ro 0 3 1 eI s0),(ro 0 3 1 eI [q26]),(Du p2.op p2.num p2.kids)]) [0,2,1] U (by decide) rfl U (.pure (AD fun _=>U) (.pure (AD fun _=>U) (.raw U U .nil))) ⟨.rfl,.rfl,.rfl,.rfl,trivial⟩) (AL (by kernel_rfl) ((hA35 _ _ _).1 A35_01235)) rfl
       ·refine Av.of (i:=6) rfl U (by rfl) ?_
        refine zq tb U (AB ⟨U,?_⟩)
        exact AF (by exact AT (L:=[(62,(.agg (AM p0))),(63,(ow 0 0 s0)),(64,(i64 q26)),(68,(ls AA p2.kids))]) (st':=[(ro 0 3 1 eI s0)]) [0] U (by decide) rfl U (.pure (AD fun _=>U) .nil) ⟨.rfl,.rfl,.rfl,.rfl,trivial⟩) (AL (by kernel_rfl) ((hA35 _ _ _).1 A35_01256)) rfl)
      have A35_012:A35 8 #[true,true,true,false,false,false,false,false,false,false,false] ⟨194,Ab [(5,(.ptr 1 0 0 0)),(62,(.agg (AM p0))),(63,(ow 0 0 s0)),(64,(i64 q26))],[(ro 0 3 1 eI s0),(Du p2.op p2.num p2.kids)]⟩:=(hA35 _ _ _).2 (by
       refine Ad [3,5] U (by kernel_rfl) (by decide) ⟨?_,?_,trivial⟩
       ·refine Av.of (i:=3) rfl U (by rfl) ?_
        refine A8 (m:=2) (l:=[q26]) (enc:=eI) AK BF (by decide) rfl U U U U U ?_
        refine AB ⟨U,?_⟩
        exact AF (by exact AG U) (AL (by kernel_rfl) ((hA35 _ _ _).1 A35_0123)) rfl
       ·refine Av.of (i:=5) rfl U (by rfl) ?_
        refine zq tb U (AB ⟨U,?_⟩)
        exact AF (by exact AG U) (AL (by kernel_rfl) ((hA35 _ _ _).1 A35_0125)) rfl)
      have A35_12345678w0:A35' 3 #[false,true,true,true,true,true,true,true,true,false,false] ⟨194,Ab [(3,(.ptr 1 0 0 0)),(66,(ow 0 0 l32)),(70,(.agg [(i64 c33.op),(i64 c33.num),(ls AA c33.kids)]))],[(ro 0 3 1 eI l32),⟨0,97,2,[(AM p0)]⟩]⟩:=(hA35' _ _ _).2 (by
       refine Ad [0] U (by kernel_rfl) (by decide) ⟨?_,trivial⟩
       ·refine Av.of (i:=0) rfl U (by rfl) ?_
        refine zq tb U (AB ⟨U,?_⟩)
        exact AF (by exact AT (L:=[(62,(.agg (AM p0))),(66,(ow 0 0 l32)),(70,(.agg [(i64 c33.op),(i64 c33.num),(ls AA c33.kids)]))]) (st':=[(ro 0 3 1 eI l32)]) [0] U (by decide) rfl U (.pure (AD fun _=>U) .nil) ⟨.rfl,.rfl,.rfl,trivial⟩) (AL (by kernel_rfl) ((hA35' _ _ _).1 A35_012345678w0)) rfl)
      have A35_1234567w0:A35' 4 #[false,true,true,true,true,true,true,true,false,false,false] ⟨194,Ab [(3,(.ptr 1 0 0 0)),(66,(ow 0 0 l32)),(69,(.Al [(i64 c33.op),(i64 c33.num),(ls AA c33.kids)] 0))],[(ro 0 3 1 eI l32),⟨0,97,2,[(AM p0)]⟩]⟩:=(hA35' _ _ _).2 (by
       refine Ad [0,8] U (by kernel_rfl) (by decide) ⟨?_,?_,trivial⟩
       ·refine Av.of (i:=0) rfl U (by rfl) ?_
        refine zq tb U (AB ⟨U,?_⟩)
        exact AF (by exact AT (L:=[(62,(.agg (AM p0))),(66,(ow 0 0 l32)),(69,(.Al [(i64 c33.op),(i64 c33.num),(ls AA c33.kids)] 0))]) (st':=[(ro 0 3 1 eI l32)]) [0] U (by decide) rfl U (.pure (AD fun _=>U) .nil) ⟨.rfl,.rfl,.rfl,trivial⟩) (AL (by kernel_rfl) ((hA35' _ _ _).1 A35_01234567w0)) rfl
       ·refine Av.of (i:=8) rfl U (by rfl) ?_
        refine zq tb U (AB ⟨U,?_⟩)
        exact AF (by exact AG U) (AL (by kernel_rfl) ((hA35' _ _ _).1 A35_12345678w0)) rfl)
      have A35_123456w0:A35' 5 #[false,true,true,true,true,true,true,false,false,false,false] ⟨194,Ab [(3,(.ptr 1 0 0 0)),(66,(ow 0 0 l32)),(68,(ls AA p2.kids))],[(ro 0 3 1 eI l32),⟨0,97,2,[(AM p0)]⟩]⟩:=(hA35' _ _ _).2 (by
       refine Ad [0,7] U (by kernel_rfl) (by decide) ⟨?_,?_,trivial⟩
       ·refine Av.of (i:=0) rfl U (by rfl) ?_
        refine zq tb U (AB ⟨U,?_⟩)
        exact AF (by exact AT (L:=[(62,(.agg (AM p0))),(66,(ow 0 0 l32)),(68,(ls AA p2.kids))]) (st':=[(ro 0 3 1 eI l32)]) [0] U (by decide) rfl U (.pure (AD fun _=>U) .nil) ⟨.rfl,.rfl,.rfl,trivial⟩) (AL (by kernel_rfl) ((hA35' _ _ _).1 A35_0123456w0)) rfl
       ·refine Av.of (i:=7) rfl U (by rfl) ?_
        refine zz (.Al [(i64 c33.op),(i64 c33.num),(ls AA c33.kids)] 0) (CG BW U U gc33 (Ao _) rfl) rfl (AB ⟨U,?_⟩)
        exact AF (by exact AG U) (AL (by kernel_rfl) ((hA35' _ _ _).1 A35_1234567w0)) rfl)
      have A35_12345w0:A35' 6 #[false,true,true,true,true,true,false,false,false,false,false] ⟨194,Ab [(3,(.ptr 1 0 0 0)),(66,(ow 0 0 l32)),(67,(.ptr 2 0 0 2))],[(ro 0 3 1 eI l32),⟨0,97,2,[(AM p0)]⟩,(Du p2.op p2.num p2.kids)]⟩:=(hA35' _ _ _).2 (by
       refine Ad [0,6] U (by kernel_rfl) (by decide) ⟨?_,?_,trivial⟩
       ·refine Av.of (i:=0) rfl U (by rfl) ?_
        refine zq tb U (AB ⟨U,?_⟩)
        exact AF (by exact AT (L:=[(62,(.agg (AM p0))),(66,(ow 0 0 l32)),(67,(.ptr 1 0 0 2))]) (st':=[(ro 0 3 1 eI l32),(Du p2.op p2.num p2.kids)]) [0,2] U (by decide) rfl U (.pure (AD fun _=>U) (.raw U U .nil)) ⟨.rfl,.rfl,.rfl,trivial⟩) (AL (by kernel_rfl) ((hA35' _ _ _).1 A35_012345w0)) rfl
       ·refine Av.of (i:=6) rfl U (by rfl) ?_
        refine zq tb U (AB ⟨U,?_⟩)
        exact AF (by exact AT (L:=[(3,(.ptr 1 0 0 0)),(66,(ow 0 0 l32)),(68,(ls AA p2.kids))]) (st':=[(ro 0 3 1 eI l32),⟨0,97,2,[(AM p0)]⟩]) [0,1] U (by decide) rfl U (.pure (AD fun _=>U) (.raw U U .nil)) ⟨.rfl,.rfl,.rfl,trivial⟩) (AL (by kernel_rfl) ((hA35' _ _ _).1 A35_123456w0)) rfl)
      have A35_1234w0:A35' 7 #[false,true,true,true,true,false,false,false,false,false,false] ⟨194,Ab [(3,(.ptr 1 0 0 0)),(5,(.ptr 2 0 0 0)),(66,(ow 0 0 l32))],[(ro 0 3 1 eI l32),⟨0,97,2,[(AM p0)]⟩,(Du p2.op p2.num p2.kids)]⟩:=(hA35' _ _ _).2 (by
       refine Ad [0,5] U (by kernel_rfl) (by decide) ⟨?_,?_,trivial⟩
       ·refine Av.of (i:=0) rfl U (by rfl) ?_
        refine zq tb U (AB ⟨U,?_⟩)
        exact AF (by exact AT (L:=[(5,(.ptr 1 0 0 0)),(62,(.agg (AM p0))),(66,(ow 0 0 l32))]) (st':=[(ro 0 3 1 eI l32),(Du p2.op p2.num p2.kids)]) [0,2] U (by decide) rfl U (.pure (AD fun _=>U) (.raw U U .nil)) ⟨.rfl,.rfl,.rfl,trivial⟩) (AL (by kernel_rfl) ((hA35' _ _ _).1 A35_01234w0)) rfl
       ·refine Av.of (i:=5) rfl U (by rfl) ?_
        refine zq tb U (AB ⟨U,?_⟩)
        exact AF (by exact AG U) (AL (by kernel_rfl) ((hA35' _ _ _).1 A35_12345w0)) rfl)
      have A35_12345678w1:A35 3 #[false,true,true,true,true,true,true,true,true,false,false] ⟨194,Ab [(3,(.ptr 1 0 0 0)),(66,(ow 2 0 l32)),(70,(.agg [(i64 c33.op),(i64 c33.num),(ls AA c33.kids)]))],[(ro 0 3 1 eI s0),⟨0,97,2,[(AM p0)]⟩,(ro 0 3 1 eI l32)]⟩:=(hA35 _ _ _).2 (by
       refine Ad [0] U (by kernel_rfl) (by decide) ⟨?_,trivial⟩
       ·refine Av.of (i:=0) rfl U (by rfl) ?_
        refine zq tb U (AB ⟨U,?_⟩)
        exact AF (by exact AT (L:=[(62,(.agg (AM p0))),(66,(ow 1 0 l32)),(70,(.agg [(i64 c33.op),(i64 c33.num),(ls AA c33.kids)]))]) (st':=[(ro 0 3 1 eI s0),(ro 0 3 1 eI l32)]) [0,2] U (by decide) rfl U (.pure (AD fun _=>U) (.pure (AD fun _=>U) .nil)) ⟨.rfl,.rfl,.rfl,trivial⟩) (AL (by kernel_rfl) ((hA35 _ _ _).1 A35_012345678w1)) rfl)
      have A35_1234567w1:A35 4 #[false,true,true,true,true,true,true,true,false,false,false] ⟨194,Ab [(3,(.ptr 1 0 0 0)),(66,(ow 2 0 l32)),(69,(.Al [(i64 c33.op),(i64 c33.num),(ls AA c33.kids)] 0))],[(ro 0 3 1 eI s0),⟨0,97,2,[(AM p0)]⟩,(ro 0 3 1 eI l32)]⟩:=(hA35 _ _ _).2 (by
       refine Ad [0,8] U (by kernel_rfl) (by decide) ⟨?_,?_,trivial⟩
       ·refine Av.of (i:=0) rfl U (by rfl) ?_
        refine zq tb U (AB ⟨U,?_⟩)
        exact AF (by exact AT (L:=[(62,(.agg (AM p0))),(66,(ow 1 0 l32)),(69,(.Al [(i64 c33.op),(i64 c33.num),(ls AA c33.kids)] 0))]) (st':=[(ro 0 3 1 eI s0),(ro 0 3 1 eI l32)]) [0,2] U (by decide) rfl U (.pure (AD fun _=>U) (.pure (AD fun _=>U) .nil)) ⟨.rfl,.rfl,.rfl,trivial⟩) (AL (by kernel_rfl) ((hA35 _ _ _).1 A35_01234567w1)) rfl
       ·refine Av.of (i:=8) rfl U (by rfl) ?_
        refine zq tb U (AB ⟨U,?_⟩)
        exact AF (by exact AG U) (AL (by kernel_rfl) ((hA35 _ _ _).1 A35_12345678w1)) rfl)
      have A35_123456w1:A35 5 #[false,true,true,true,true,true,true,false,false,false,false] ⟨194,Ab [(3,(.ptr 1 0 0 0)),(66,(ow 2 0 l32)),(68,(ls AA p2.kids))],[(ro 0 3 1 eI s0),⟨0,97,2,[(AM p0)]⟩,(ro 0 3 1 eI l32)]⟩:=(hA35 _ _ _).2 (by
       refine Ad [0,7] U (by kernel_rfl) (by decide) ⟨?_,?_,trivial⟩
       ·refine Av.of (i:=0) rfl U (by rfl) ?_
        refine zq tb U (AB ⟨U,?_⟩)
        exact AF (by exact AT (L:=[(62,(.agg (AM p0))),(66,(ow 1 0 l32)),(68,(ls AA p2.kids))]) (st':=[(ro 0 3 1 eI s0),(ro 0 3 1 eI l32)]) [0,2] U (by decide) rfl U (.pure (AD fun _=>U) (.pure (AD fun _=>U) .nil)) ⟨.rfl,.rfl,.rfl,trivial⟩) (AL (by kernel_rfl) ((hA35 _ _ _).1 A35_0123456w1)) rfl
       ·refine Av.of (i:=7) rfl U (by rfl) ?_
        refine zz (.Al [(i64 c33.op),(i64 c33.num),(ls AA c33.kids)] 0) (CG BW U U gc33 (Ao _) rfl) rfl (AB ⟨U,?_⟩)
        exact AF (by exact AG U) (AL (by kernel_rfl) ((hA35 _ _ _).1 A35_1234567w1)) rfl)
      have A35_12345w1:A35 6 #[false,true,true,true,true,true,false,false,false,false,false] ⟨194,Ab [(3,(.ptr 1 0 0 0)),(66,(ow 2 0 l32)),(67,(.ptr 3 0 0 2))],[(ro 0 3 1 eI s0),⟨0,97,2,[(AM p0)]⟩,(ro 0 3 1 eI l32),(Du p2.op p2.num p2.kids)]⟩:=(hA35 _ _ _).2 (by
       refine Ad [0,6] U (by kernel_rfl) (by decide) ⟨?_,?_,trivial⟩
       ·refine Av.of (i:=0) rfl U (by rfl) ?_
        refine zq tb U (AB ⟨U,?_⟩)
        exact AF (by exact AT (L:=[(62,(.agg (AM p0))),(66,(ow 1 0 l32)),(67,(.ptr 2 0 0 2))]) (st':=[(ro 0 3 1 eI s0),(ro 0 3 1 eI l32),(Du p2.op p2.num p2.kids)]) [0,2,3] U (by decide) rfl U (.pure (AD fun _=>U) (.pure (AD fun _=>U) (.raw U U .nil))) ⟨.rfl,.rfl,.rfl,trivial⟩) (AL (by kernel_rfl) ((hA35 _ _ _).1 A35_012345w1)) rfl
       ·refine Av.of (i:=6) rfl U (by rfl) ?_
        refine zq tb U (AB ⟨U,?_⟩)
        exact AF (by exact AT (L:=[(3,(.ptr 1 0 0 0)),(66,(ow 2 0 l32)),(68,(ls AA p2.kids))]) (st':=[(ro 0 3 1 eI s0),⟨0,97,2,[(AM p0)]⟩,(ro 0 3 1 eI l32)]) [0,1,2] U (by decide) rfl U (.pure (AD fun _=>U) (.raw U U (.pure (AD fun _=>U) .nil))) ⟨.rfl,.rfl,.rfl,trivial⟩) (AL (by kernel_rfl) ((hA35 _ _ _).1 A35_123456w1)) rfl)
      have A35_1234w1:A35 7 #[false,true,true,true,true,false,false,false,false,false,false] ⟨194,Ab [(3,(.ptr 1 0 0 0)),(5,(.ptr 2 0 0 0)),(66,(ow 3 0 l32))],[(ro 0 3 1 eI s0),⟨0,97,2,[(AM p0)]⟩,(Du p2.op p2.num p2.kids),(ro 0 3 1 eI l32)]⟩:=(hA35 _ _ _).2 (by
       refine Ad [0,5] U (by kernel_rfl) (by decide) ⟨?_,?_,trivial⟩
       ·refine Av.of (i:=0) rfl U (by rfl) ?_
        refine zq tb U (AB ⟨U,?_⟩)
        exact AF (by exact AT (L:=[(5,(.ptr 1 0 0 0)),(62,(.agg (AM p0))),(66,(ow 2 0 l32))]) (st':=[(ro 0 3 1 eI s0),(Du p2.op p2.num p2.kids),(ro 0 3 1 eI l32)]) [0,2,3] U (by decide) rfl U (.pure (AD fun _=>U) (.raw U U (.pure (AD fun _=>U) .nil))) ⟨.rfl,.rfl,.rfl,trivial⟩) (AL (by kernel_rfl) ((hA35 _ _ _).1 A35_01234w1)) rfl
       ·refine Av.of (i:=5) rfl U (by rfl) ?_
        refine zq tb U (AB ⟨U,?_⟩)
        exact AF (by exact AT (L:=[(3,(.ptr 1 0 0 0)),(66,(ow 2 0 l32)),(67,(.ptr 3 0 0 2))]) (st':=[(ro 0 3 1 eI s0),⟨0,97,2,[(AM p0)]⟩,(ro 0 3 1 eI l32),(Du p2.op p2.num p2.kids)]) [0,1,3,2] U (by decide) rfl U (.pure (AD fun _=>U) (.raw U U (.pure (AD fun _=>U) (.raw U U .nil)))) ⟨.rfl,.rfl,.rfl,trivial⟩) (AL (by kernel_rfl) ((hA35 _ _ _).1 A35_12345w1)) rfl)
      have A35_1235678:A35 4 #[false,true,true,true,false,true,true,true,true,false,false] ⟨194,Ab [(3,(.ptr 1 0 0 0)),(63,(ow 0 0 s0)),(65,(ow 2 0 [q26])),(70,(.agg [(i64 c33.op),(i64 c33.num),(ls AA c33.kids)]))],[(ro 0 3 1 eI s0),⟨0,97,2,[(AM p0)]⟩,(ro 0 3 1 eI [q26])]⟩:=(hA35 _ _ _).2 (by
       refine Ad [0,4] U (by kernel_rfl) (by decide) ⟨?_,?_,trivial⟩
       ·refine Av.of (i:=0) rfl U (by rfl) ?_
        refine zq tb U (AB ⟨U,?_⟩)
        exact AF (by exact AT (L:=[(62,(.agg (AM p0))),(63,(ow 0 0 s0)),(65,(ow 1 0 [q26])),(70,(.agg [(i64 c33.op),(i64 c33.num),(ls AA c33.kids)]))]) (st':=[(ro 0 3 1 eI s0),(ro 0 3 1 eI [q26])]) [0,2] U (by decide) rfl U (.pure (AD fun _=>U) (.pure (AD fun _=>U) .nil)) ⟨.rfl,.rfl,.rfl,.rfl,trivial⟩) (AL (by kernel_rfl) ((hA35 _ _ _).1 A35_01235678)) rfl
       ·refine Et (l:=s0) (l2:=[q26]) (l':=l32) rfl U BF (DX (Cp U) (DX (AD fun _=>U) (fun _ hq=>nomatch hq))) rfl U U (EP U U) rfl (fun _=>U) (fun _=>(AD fun _=>U)) gl32 ?_ ?_
        ·exact AF (by exact AT (L:=[(3,(.ptr 1 0 0 0)),(66,(ow 0 0 l32)),(70,(.agg [(i64 c33.op),(i64 c33.num),(ls AA c33.kids)]))]) (st':=[(ro 0 3 1 eI l32),⟨0,97,2,[(AM p0)]⟩]) [0,1] U (by decide) rfl U (.pure (AD fun _=>U) (.raw U U .nil)) ⟨.rfl,.rfl,.rfl,trivial⟩) (AL (by kernel_rfl) ((hA35' _ _ _).1 A35_12345678w0)) rfl
        ·exact AF (by exact AT (L:=[(3,(.ptr 1 0 0 0)),(66,(ow 2 0 l32)),(70,(.agg [(i64 c33.op),(i64 c33.num),(ls AA c33.kids)]))]) (st':=[(ro 0 3 1 eI s0),⟨0,97,2,[(AM p0)]⟩,(ro 0 3 1 eI l32)]) [0,1,3] U (by decide) rfl U (.pure (AD fun _=>U) (.raw U U (.pure (AD fun _=>U) .nil))) ⟨.rfl,.rfl,.rfl,trivial⟩) (AL (by kernel_rfl) ((hA35 _ _ _).1 A35_12345678w1)) rfl)
      have A35_123567:A35 5 #[false,true,true,true,false,true,true,true,false,false,false] ⟨194,Ab [(3,(.ptr 1 0 0 0)),(63,(ow 0 0 s0)),(65,(ow 2 0 [q26])),(69,(.Al [(i64 c33.op),(i64 c33.num),(ls AA c33.kids)] 0))],[(ro 0 3 1 eI s0),⟨0,97,2,[(AM p0)]⟩,(ro 0 3 1 eI [q26])]⟩:=(hA35 _ _ _).2 (by
       refine Ad [0,4,8] U (by kernel_rfl) (by decide) ⟨?_,?_,?_,trivial⟩
       ·refine Av.of (i:=0) rfl U (by rfl) ?_
        refine zq tb U (AB ⟨U,?_⟩)
        exact AF (by exact AT (L:=[(62,(.agg (AM p0))),(63,(ow 0 0 s0)),(65,(ow 1 0 [q26])),(69,(.Al [(i64 c33.op),(i64 c33.num),(ls AA c33.kids)] 0))]) (st':=[(ro 0 3 1 eI s0),(ro 0 3 1 eI [q26])]) [0,2] U (by decide) rfl U (.pure (AD fun _=>U) (.pure (AD fun _=>U) .nil)) ⟨.rfl,.rfl,.rfl,.rfl,trivial⟩) (AL (by kernel_rfl) ((hA35 _ _ _).1 A35_0123567)) rfl
       ·refine Et (l:=s0) (l2:=[q26]) (l':=l32) rfl U BF (DX (Cp U) (DX (AD fun _=>U) (fun _ hq=>nomatch hq))) rfl U U (EP U U) rfl (fun _=>U) (fun _=>(AD fun _=>U)) gl32 ?_ ?_
        ·exact AF (by exact AT (L:=[(3,(.ptr 1 0 0 0)),(66,(ow 0 0 l32)),(69,(.Al [(i64 c33.op),(i64 c33.num),(ls AA c33.kids)] 0))]) (st':=[(ro 0 3 1 eI l32),⟨0,97,2,[(AM p0)]⟩]) [0,1] U (by decide) rfl U (.pure (AD fun _=>U) (.raw U U .nil)) ⟨.rfl,.rfl,.rfl,trivial⟩) (AL (by kernel_rfl) ((hA35' _ _ _).1 A35_1234567w0)) rfl
        ·exact AF (by exact AT (L:=[(3,(.ptr 1 0 0 0)),(66,(ow 2 0 l32)),(69,(.Al [(i64 c33.op),(i64 c33.num),(ls AA c33.kids)] 0))]) (st':=[(ro 0 3 1 eI s0),⟨0,97,2,[(AM p0)]⟩,(ro 0 3 1 eI l32)]) [0,1,3] U (by decide) rfl U (.pure (AD fun _=>U) (.raw U U (.pure (AD fun _=>U) .nil))) ⟨.rfl,.rfl,.rfl,trivial⟩) (AL (by kernel_rfl) ((hA35 _ _ _).1 A35_1234567w1)) rfl
       ·refine Av.of (i:=8) rfl U (by rfl) ?_
        refine zq tb U (AB ⟨U,?_⟩)
        exact AF (by exact AG U) (AL (by kernel_rfl) ((hA35 _ _ _).1 A35_1235678)) rfl)
      have A35_12356:A35 6 #[false,true,true,true,false,true,true,false,false,false,false] ⟨194,Ab [(3,(.ptr 1 0 0 0)),(63,(ow 0 0 s0)),(65,(ow 2 0 [q26])),(68,(ls AA p2.kids))],[(ro 0 3 1 eI s0),⟨0,97,2,[(AM p0)]⟩,(ro 0 3 1 eI [q26])]⟩:=(hA35 _ _ _).2 (by
       refine Ad [0,4,7] U (by kernel_rfl) (by decide) ⟨?_,?_,?_,trivial⟩
       ·refine Av.of (i:=0) rfl U (by rfl) ?_
        refine zq tb U (AB ⟨U,?_⟩)
        exact AF (by exact AT (L:=[(62,(.agg (AM p0))),(63,(ow 0 0 s0)),(65,(ow 1 0 [q26])),(68,(ls AA p2.kids))]) (st':=[(ro 0 3 1 eI s0),(ro 0 3 1 eI [q26])]) [0,2] U (by decide) rfl U (.pure (AD fun _=>U) (.pure (AD fun _=>U) .nil)) ⟨.rfl,.rfl,.rfl,.rfl,trivial⟩) (AL (by kernel_rfl) ((hA35 _ _ _).1 A35_012356)) rfl
       ·refine Et (l:=s0) (l2:=[q26]) (l':=l32) rfl U BF (DX (Cp U) (DX (AD fun _=>U) (fun _ hq=>nomatch hq))) rfl U U (EP U U) rfl (fun _=>U) (fun _=>(AD fun _=>U)) gl32 ?_ ?_
        ·exact AF (by exact AT (L:=[(3,(.ptr 1 0 0 0)),(66,(ow 0 0 l32)),(68,(ls AA p2.kids))]) (st':=[(ro 0 3 1 eI l32),⟨0,97,2,[(AM p0)]⟩]) [0,1] U (by decide) rfl U (.pure (AD fun _=>U) (.raw U U .nil)) ⟨.rfl,.rfl,.rfl,trivial⟩) (AL (by kernel_rfl) ((hA35' _ _ _).1 A35_123456w0)) rfl
        ·exact AF (by exact AT (L:=[(3,(.ptr 1 0 0 0)),(66,(ow 2 0 l32)),(68,(ls AA p2.kids))]) (st':=[(ro 0 3 1 eI s0),⟨0,97,2,[(AM p0)]⟩,(ro 0 3 1 eI l32)]) [0,1,3] U (by decide) rfl U (.pure (AD fun _=>U) (.raw U U (.pure (AD fun _=>U) .nil))) ⟨.rfl,.rfl,.rfl,trivial⟩) (AL (by kernel_rfl) ((hA35 _ _ _).1 A35_123456w1)) rfl
       ·refine Av.of (i:=7) rfl U (by rfl) ?_
        refine zz (.Al [(i64 c33.op),(i64 c33.num),(ls AA c33.kids)] 0) (CG BW U U gc33 (Ao _) rfl) rfl (AB ⟨U,?_⟩)
        exact AF (by exact AG U) (AL (by kernel_rfl) ((hA35 _ _ _).1 A35_123567)) rfl)
      have A35_1235:A35 7 #[false,true,true,true,false,true,false,false,false,false,false] ⟨194,Ab [(3,(.ptr 1 0 0 0)),(63,(ow 0 0 s0)),(65,(ow 2 0 [q26])),(67,(.ptr 3 0 0 2))],[(ro 0 3 1 eI s0),⟨0,97,2,[(AM p0)]⟩,(ro 0 3 1 eI [q26]),(Du p2.op p2.num p2.kids)]⟩:=(hA35 _ _ _).2 (by
       refine Ad [0,4,6] U (by kernel_rfl) (by decide) ⟨?_,?_,?_,trivial⟩
       ·refine Av.of (i:=0) rfl U (by rfl) ?_
        refine zq tb U (AB ⟨U,?_⟩)
        exact AF (by exact AT (L:=[(62,(.agg (AM p0))),(63,(ow 0 0 s0)),(65,(ow 1 0 [q26])),(67,(.ptr 2 0 0 2))]) (st':=[(ro 0 3 1 eI s0),(ro 0 3 1 eI [q26]),(Du p2.op p2.num p2.kids)]) [0,2,3] U (by decide) rfl U (.pure (AD fun _=>U) (.pure (AD fun _=>U) (.raw U U .nil))) ⟨.rfl,.rfl,.rfl,.rfl,trivial⟩) (AL (by kernel_rfl) ((hA35 _ _ _).1 A35_01235)) rfl
       ·refine Et (l:=s0) (l2:=[q26]) (l':=l32) rfl U BF (DX (Cp U) (DX (AD fun _=>U) (DX (Cp U) (fun _ hq=>nomatch hq)))) rfl U U (EP U U) rfl (fun _=>U) (fun _=>(AD fun _=>U)) gl32 ?_ ?_
        ·exact AF (by exact AT (L:=[(3,(.ptr 1 0 0 0)),(66,(ow 0 0 l32)),(67,(.ptr 2 0 0 2))]) (st':=[(ro 0 3 1 eI l32),⟨0,97,2,[(AM p0)]⟩,(Du p2.op p2.num p2.kids)]) [0,1,3] U (by decide) rfl U (.pure (AD fun _=>U) (.raw U U (.raw U U .nil))) ⟨.rfl,.rfl,.rfl,trivial⟩) (AL (by kernel_rfl) ((hA35' _ _ _).1 A35_12345w0)) rfl
        ·exact AF (by exact AT (L:=[(3,(.ptr 1 0 0 0)),(66,(ow 2 0 l32)),(67,(.ptr 3 0 0 2))]) (st':=[(ro 0 3 1 eI s0),⟨0,97,2,[(AM p0)]⟩,(ro 0 3 1 eI l32),(Du p2.op p2.num p2.kids)]) [0,1,4,3] U (by decide) rfl U (.pure (AD fun _=>U) (.raw U U (.pure (AD fun _=>U) (.raw U U .nil)))) ⟨.rfl,.rfl,.rfl,trivial⟩) (AL (by kernel_rfl) ((hA35 _ _ _).1 A35_12345w1)) rfl
       ·refine Av.of (i:=6) rfl U (by rfl) ?_
        refine zq tb U (AB ⟨U,?_⟩)
        exact AF (by exact AT (L:=[(3,(.ptr 1 0 0 0)),(63,(ow 0 0 s0)),(65,(ow 2 0 [q26])),(68,(ls AA p2.kids))]) (st':=[(ro 0 3 1 eI s0),⟨0,97,2,[(AM p0)]⟩,(ro 0 3 1 eI [q26])]) [0,1,2] U (by decide) rfl U (.pure (AD fun _=>U) (.raw U U (.pure (AD fun _=>U) .nil))) ⟨.rfl,.rfl,.rfl,.rfl,trivial⟩) (AL (by kernel_rfl) ((hA35 _ _ _).1 A35_12356)) rfl)
      have A35_123:A35 8 #[false,true,true,true,false,false,false,false,false,false,false] ⟨194,Ab [(3,(.ptr 1 0 0 0)),(5,(.ptr 2 0 0 0)),(63,(ow 0 0 s0)),(65,(ow 3 0 [q26]))],[(ro 0 3 1 eI s0),⟨0,97,2,[(AM p0)]⟩,(Du p2.op p2.num p2.kids),(ro 0 3 1 eI [q26])]⟩:=(hA35 _ _ _).2 (by
       refine Ad [0,4,5] U (by kernel_rfl) (by decide) ⟨?_,?_,?_,trivial⟩
       ·refine Av.of (i:=0) rfl U (by rfl) ?_
        refine zq tb U (AB ⟨U,?_⟩)
        exact AF (by exact AT (L:=[(5,(.ptr 1 0 0 0)),(62,(.agg (AM p0))),(63,(ow 0 0 s0)),(65,(ow 2 0 [q26]))]) (st':=[(ro 0 3 1 eI s0),(Du p2.op p2.num p2.kids),(ro 0 3 1 eI [q26])]) [0,2,3] U (by decide) rfl U (.pure (AD fun _=>U) (.raw U U (.pure (AD fun _=>U) .nil))) ⟨.rfl,.rfl,.rfl,.rfl,trivial⟩) (AL (by kernel_rfl) ((hA35 _ _ _).1 A35_0123)) rfl
       ·refine Et (l:=s0) (l2:=[q26]) (l':=l32) rfl U BF (DX (Cp U) (DX (Cp U) (DX (AD fun _=>U) (fun _ hq=>nomatch hq)))) rfl U U (EP U U) rfl (fun _=>U) (fun _=>(AD fun _=>U)) gl32 ?_ ?_
        ·exact AF (by exact AT (L:=[(3,(.ptr 1 0 0 0)),(5,(.ptr 2 0 0 0)),(66,(ow 0 0 l32))]) (st':=[(ro 0 3 1 eI l32),⟨0,97,2,[(AM p0)]⟩,(Du p2.op p2.num p2.kids)]) [0,1,2] U (by decide) rfl U (.pure (AD fun _=>U) (.raw U U (.raw U U .nil))) ⟨.rfl,.rfl,.rfl,trivial⟩) (AL (by kernel_rfl) ((hA35' _ _ _).1 A35_1234w0)) rfl
        ·exact AF (by exact AT (L:=[(3,(.ptr 1 0 0 0)),(5,(.ptr 2 0 0 0)),(66,(ow 3 0 l32))]) (st':=[(ro 0 3 1 eI s0),⟨0,97,2,[(AM p0)]⟩,(Du p2.op p2.num p2.kids),(ro 0 3 1 eI l32)]) [0,1,2,4] U (by decide) rfl U (.pure (AD fun _=>U) (.raw U U (.raw U U (.pure (AD fun _=>U) .nil)))) ⟨.rfl,.rfl,.rfl,trivial⟩) (AL (by kernel_rfl) ((hA35 _ _ _).1 A35_1234w1)) rfl
       ·refine Av.of (i:=5) rfl U (by rfl) ?_
        refine zq tb U (AB ⟨U,?_⟩)
        exact AF (by exact AT (L:=[(3,(.ptr 1 0 0 0)),(63,(ow 0 0 s0)),(65,(ow 2 0 [q26])),(67,(.ptr 3 0 0 2))]) (st':=[(ro 0 3 1 eI s0),⟨0,97,2,[(AM p0)]⟩,(ro 0 3 1 eI [q26]),(Du p2.op p2.num p2.kids)]) [0,1,3,2] U (by decide) rfl U (.pure (AD fun _=>U) (.raw U U (.pure (AD fun _=>U) (.raw U U .nil)))) ⟨.rfl,.rfl,.rfl,.rfl,trivial⟩) (AL (by kernel_rfl) ((hA35 _ _ _).1 A35_1235)) rfl)
      have A35_125678:A35 5 #[false,true,true,false,false,true,true,true,true,false,false] ⟨194,Ab [(3,(.ptr 1 0 0 0)),(63,(ow 0 0 s0)),(64,(i64 q26)),(70,(.agg [(i64 c33.op),(i64 c33.num),(ls AA c33.kids)]))],[(ro 0 3 1 eI s0),⟨0,97,2,[(AM p0)]⟩]⟩:=(hA35 _ _ _).2 (by
       refine Ad [0,3] U (by kernel_rfl) (by decide) ⟨?_,?_,trivial⟩
       ·refine Av.of (i:=0) rfl U (by rfl) ?_
        refine zq tb U (AB ⟨U,?_⟩)
        exact AF (by exact AT (L:=[(62,(.agg (AM p0))),(63,(ow 0 0 s0)),(64,(i64 q26)),(70,(.agg [(i64 c33.op),(i64 c33.num),(ls AA c33.kids)]))]) (st':=[(ro 0 3 1 eI s0)]) [0] U (by decide) rfl U (.pure (AD fun _=>U) .nil) ⟨.rfl,.rfl,.rfl,.rfl,trivial⟩) (AL (by kernel_rfl) ((hA35 _ _ _).1 A35_0125678)) rfl
       ·refine Av.of (i:=3) rfl U (by rfl) ?_
        refine A8 (m:=2) (l:=[q26]) (enc:=eI) AK BF (by decide) rfl U U U U U ?_
        refine AB ⟨U,?_⟩
        exact AF (by exact AG U) (AL (by kernel_rfl) ((hA35 _ _ _).1 A35_1235678)) rfl)
      have A35_12567:A35 6 #[false,true,true,false,false,true,true,true,false,false,false] ⟨194,Ab [(3,(.ptr 1 0 0 0)),(63,(ow 0 0 s0)),(64,(i64 q26)),(69,(.Al [(i64 c33.op),(i64 c33.num),(ls AA c33.kids)] 0))],[(ro 0 3 1 eI s0),⟨0,97,2,[(AM p0)]⟩]⟩:=(hA35 _ _ _).2 (by
       refine Ad [0,3,8] U (by kernel_rfl) (by decide) ⟨?_,?_,?_,trivial⟩
       ·refine Av.of (i:=0) rfl U (by rfl) ?_
        refine zq tb U (AB ⟨U,?_⟩)
        exact AF (by exact AT (L:=[(62,(.agg (AM p0))),(63,(ow 0 0 s0)),(64,(i64 q26)),(69,(.Al [(i64 c33.op),(i64 c33.num),(ls AA c33.kids)] 0))]) (st':=[(ro 0 3 1 eI s0)]) [0] U (by decide) rfl U (.pure (AD fun _=>U) .nil) ⟨.rfl,.rfl,.rfl,.rfl,trivial⟩) (AL (by kernel_rfl) ((hA35 _ _ _).1 A35_012567)) rfl
       ·refine Av.of (i:=3) rfl U (by rfl) ?_
        refine A8 (m:=2) (l:=[q26]) (enc:=eI) AK BF (by decide) rfl U U U U U ?_
        refine AB ⟨U,?_⟩
        exact AF (by exact AG U) (AL (by kernel_rfl) ((hA35 _ _ _).1 A35_123567)) rfl
       ·refine Av.of (i:=8) rfl U (by rfl) ?_
        refine zq tb U (AB ⟨U,?_⟩)
        exact AF (by exact AG U) (AL (by kernel_rfl) ((hA35 _ _ _).1 A35_125678)) rfl)
      have A35_1256:A35 7 #[false,true,true,false,false,true,true,false,false,false,false] ⟨194,Ab [(3,(.ptr 1 0 0 0)),(63,(ow 0 0 s0)),(64,(i64 q26)),(68,(ls AA p2.kids))],[(ro 0 3 1 eI s0),⟨0,97,2,[(AM p0)]⟩]⟩:=(hA35 _ _ _).2 (by
       refine Ad [0,3,7] U (by kernel_rfl) (by decide) ⟨?_,?_,?_,trivial⟩
       ·refine Av.of (i:=0) rfl U (by rfl) ?_
        refine zq tb U (AB ⟨U,?_⟩)
        exact AF (by exact AT (L:=[(62,(.agg (AM p0))),(63,(ow 0 0 s0)),(64,(i64 q26)),(68,(ls AA p2.kids))]) (st':=[(ro 0 3 1 eI s0)]) [0] U (by decide) rfl U (.pure (AD fun _=>U) .nil) ⟨.rfl,.rfl,.rfl,.rfl,trivial⟩) (AL (by kernel_rfl) ((hA35 _ _ _).1 A35_01256)) rfl
       ·refine Av.of (i:=3) rfl U (by rfl) ?_
        refine A8 (m:=2) (l:=[q26]) (enc:=eI) AK BF (by decide) rfl U U U U U ?_
        refine AB ⟨U,?_⟩
        exact AF (by exact AG U) (AL (by kernel_rfl) ((hA35 _ _ _).1 A35_12356)) rfl
       ·refine Av.of (i:=7) rfl U (by rfl) ?_
        refine zz (.Al [(i64 c33.op),(i64 c33.num),(ls AA c33.kids)] 0) (CG BW U U gc33 (Ao _) rfl) rfl (AB ⟨U,?_⟩)
        exact AF (by exact AG U) (AL (by kernel_rfl) ((hA35 _ _ _).1 A35_12567)) rfl)
      have A35_125:A35 8 #[false,true,true,false,false,true,false,false,false,false,false] ⟨194,Ab [(3,(.ptr 1 0 0 0)),(63,(ow 0 0 s0)),(64,(i64 q26)),(67,(.ptr 2 0 0 2))],[(ro 0 3 1 eI s0),⟨0,97,2,[(AM p0)]⟩,(Du p2.op p2.num p2.kids)]⟩:=(hA35 _ _ _).2 (by
       refine Ad [0,3,6] U (by kernel_rfl) (by decide) ⟨?_,?_,?_,trivial⟩
       ·refine Av.of (i:=0) rfl U (by rfl) ?_
        refine zq tb U (AB ⟨U,?_⟩)
        exact AF (by exact AT (L:=[(62,(.agg (AM p0))),(63,(ow 0 0 s0)),(64,(i64 q26)),(67,(.ptr 1 0 0 2))]) (st':=[(ro 0 3 1 eI s0),(Du p2.op p2.num p2.kids)]) [0,2] U (by decide) rfl U (.pure (AD fun _=>U) (.raw U U .nil)) ⟨.rfl,.rfl,.rfl,.rfl,trivial⟩) (AL (by kernel_rfl) ((hA35 _ _ _).1 A35_0125)) rfl
       ·refine Av.of (i:=3) rfl U (by rfl) ?_
        refine A8 (m:=3) (l:=[q26]) (enc:=eI) AK BF (by decide) rfl U U U U U ?_
        refine AB ⟨U,?_⟩
        exact AF (by exact AT (L:=[(3,(.ptr 1 0 0 0)),(63,(ow 0 0 s0)),(65,(ow 2 0 [q26])),(67,(.ptr 3 0 0 2))]) (st':=[(ro 0 3 1 eI s0),⟨0,97,2,[(AM p0)]⟩,(ro 0 3 1 eI [q26]),(Du p2.op p2.num p2.kids)]) [0,1,3,2] U (by decide) rfl U (.pure (AD fun _=>U) (.raw U U (.pure (AD fun _=>U) (.raw U U .nil)))) ⟨.rfl,.rfl,.rfl,.rfl,trivial⟩) (AL (by kernel_rfl) ((hA35 _ _ _).1 A35_1235)) rfl
       ·refine Av.of (i:=6) rfl U (by rfl) ?_
        refine zq tb U (AB ⟨U,?_⟩)
        exact AF (by exact AT (L:=[(3,(.ptr 1 0 0 0)),(63,(ow 0 0 s0)),(64,(i64 q26)),(68,(ls AA p2.kids))]) (st':=[(ro 0 3 1 eI s0),⟨0,97,2,[(AM p0)]⟩]) [0,1] U (by decide) rfl U (.pure (AD fun _=>U) (.raw U U .nil)) ⟨.rfl,.rfl,.rfl,.rfl,trivial⟩) (AL (by kernel_rfl) ((hA35 _ _ _).1 A35_1256)) rfl)
      have A35_12:A35 9 #[false,true,true,false,false,false,false,false,false,false,false] ⟨194,Ab [(3,(.ptr 1 0 0 0)),(5,(.ptr 2 0 0 0)),(63,(ow 0 0 s0)),(64,(i64 q26))],[(ro 0 3 1 eI s0),⟨0,97,2,[(AM p0)]⟩,(Du p2.op p2.num p2.kids)]⟩:=(hA35 _ _ _).2 (by
       refine Ad [0,3,5] U (by kernel_rfl) (by decide) ⟨?_,?_,?_,trivial⟩
       ·refine Av.of (i:=0) rfl U (by rfl) ?_
        refine zq tb U (AB ⟨U,?_⟩)
        exact AF (by exact AT (L:=[(5,(.ptr 1 0 0 0)),(62,(.agg (AM p0))),(63,(ow 0 0 s0)),(64,(i64 q26))]) (st':=[(ro 0 3 1 eI s0),(Du p2.op p2.num p2.kids)]) [0,2] U (by decide) rfl U (.pure (AD fun _=>U) (.raw U U .nil)) ⟨.rfl,.rfl,.rfl,.rfl,trivial⟩) (AL (by kernel_rfl) ((hA35 _ _ _).1 A35_012)) rfl
       ·refine Av.of (i:=3) rfl U (by rfl) ?_
        refine A8 (m:=3) (l:=[q26]) (enc:=eI) AK BF (by decide) rfl U U U U U ?_
        refine AB ⟨U,?_⟩
        exact AF (by exact AG U) (AL (by kernel_rfl) ((hA35 _ _ _).1 A35_123)) rfl
       ·refine Av.of (i:=5) rfl U (by rfl) ?_
        refine zq tb U (AB ⟨U,?_⟩)
        exact AF (by exact AG U) (AL (by kernel_rfl) ((hA35 _ _ _).1 A35_125)) rfl)
      have A35_1:A35 10 #[false,true,false,false,false,false,false,false,false,false,false] ⟨194,Ab [(3,(.ptr 1 0 0 0)),(5,(.ptr 2 0 0 0)),(7,(i64 q26)),(63,(ow 0 0 s0))],[(ro 0 3 1 eI s0),⟨0,97,2,[(AM p0)]⟩,(Du p2.op p2.num p2.kids)]⟩:=(hA35 _ _ _).2 (by
       refine CY 2 (v:=(i64 q26)) rfl U (by kernel_rfl) (by kernel_rfl) (by kernel_rfl) rfl (GA U) ?_
       exact AF (by exact AG U) (AL (by kernel_rfl) ((hA35 _ _ _).1 A35_12)) rfl)
      have A35_e:A35 11 #[false,false,false,false,false,false,false,false,false,false,false] ⟨194,Ab [(1,(ow 0 0 s0)),(3,(.ptr 1 0 0 0)),(5,(.ptr 2 0 0 0)),(7,(i64 q26))],[(ro 0 3 1 eI s0),⟨0,97,2,[(AM p0)]⟩,(Du p2.op p2.num p2.kids)]⟩:=(hA35 _ _ _).2 (by
       refine CY 1 (v:=(ow 0 0 s0)) rfl U (by kernel_rfl) (by kernel_rfl) (by kernel_rfl) rfl (GA U) ?_
       exact AF (by exact AG U) (AL (by kernel_rfl) ((hA35 _ _ _).1 A35_1)) rfl)
      refine (hA35 _ _ _).2 ?_
      exact AF (by exact AG U) (AL (by kernel_rfl) ((hA35 _ _ _).1 A35_e)) rfl
   refine AN U (zm tb 2 U (zl tb U U (zm tb 2 U ?_)))
   rcases Sh.An h1 with ⟨b36,h1⟩ | ⟨b36,h1⟩
   ·exact zs b36 U (zs b36 U (zs b36 U (zt b36 U (AB (M21 true (Sh.AE h1).symm _ (AG U))))))
   ·exact zg tb b36 U (zg tb b36 U (zg tb b36 U (zf b36 U (AB (M21 (!decide (p2.num=0)) (Sh.AE h1).symm _ (AG U))))))
  ·intro b17 h0
   refine zr tb U U ?_
   refine ci h0 U ?_ ?_ <;> clear h0
   ·intro b38 h0
    refine AJ fun K39 hK39=>AJ fun K40 hK40=>bs h0 fun o42 h1 h0=>?_
    have M42 :∀(t41:Bool),o42=t41→∀s,Wk 1 s ⟨194,Ab [(1,(ow 0 0 s0)),(3,(.ptr 1 0 0 0)),(5,(.ptr 2 0 0 0)),(92,(.bool t41))],[(ro 0 3 1 eI s0),⟨0,97,2,[(AM p0)]⟩,(Du p2.op p2.num p2.kids)]⟩→K40 s:=by
     intro t41 hq s hw
     subst o42
     try dsimp only at h0
     refine hK40 _ (AS hw ?_)
     refine ci h0 U ?_ ?_ <;> clear h0
     ·intro b43 h0
      refine zr tb U U ?_
      replace h0:=Sh.AE h0
      subst r
      exact AZ (xr (AT (L:=[(6,(i64 (-1)))]) (st':=[(ro 0 3 1 eI s0)]) [0] U (by decide) rfl U (.pure (AD fun _=>U) .nil) ⟨.rfl,trivial⟩))
     ·intro b43 h0
      refine AU (hK39 _ (AJ fun K45 hK45=>?_))
      refine C2 7 (by kernel_rfl) (by kernel_rfl) (by rfl) ?_
      iterate 4 refine yq tb rfl ?_
      refine bs h0 fun l46 gl46 h0=>TR (i:=1) (j:=Sh.len p2.kids) AK BW U U U B4 gl46 (bs h0 fun l47 gl47 h0=>Yh (enc:=(eS eI)) (u:=[]) AK Hy U U U gl47 (AD fun _=>U) (bs h0 fun q48 gq48 h0=>TA (v':=(i64 q48)) AK W9 (GV hrec_impl_signatures_typeOf gq48) rfl (.val U (.own U U (fun _=>U) (.val U (.val U .nil)))) rfl U (AR (zq tb U (dn hK45 U ?_)))))
      replace h0:=Sh.AE h0
      subst r
      exact AZ (xr (AT (L:=[(6,(i64 q48))]) (st':=[(ro 0 3 1 eI s0)]) [0] U (by decide) rfl U (.pure (AD fun _=>U) .nil) ⟨.rfl,trivial⟩))
    refine CI (by kernel_rfl) (by kernel_rfl) (by rfl) ?_
    iterate 2 refine yq tb rfl ?_
    refine yl tb U U ?_
    iterate 2 refine yq tb rfl ?_
    rcases Sh.An h1 with ⟨b49,h1⟩ | ⟨b49,h1⟩
    ·refine ys b49 U ?_
     iterate 2 refine ys b49 rfl ?_
     refine yt b49 U (yq tb U ?_)
     iterate 8 refine ys rfl rfl ?_
     exact yt U U (AR (M42 true (Sh.AE h1).symm _ (AG U)))
    ·refine yg tb b49 U ?_
     iterate 2 refine yg tb b49 rfl ?_
     refine yf b49 U (yq tb U ?_)
     rcases Sh.An h1 with ⟨b50,h1⟩ | ⟨b50,h1⟩
     ·refine ys b50 U ?_
      iterate 7 refine ys b50 rfl ?_
      exact yt b50 U (AR (M42 true (Sh.AE h1).symm _ (AG U)))
     ·refine yg tb b50 U ?_
      iterate 3 refine yg tb b50 rfl ?_
      refine bs h1 fun c51 gc51 h1=>A9 (v:=(.Al [(i64 c51.op),(i64 c51.num),(ls AA c51.kids)] 0)) (B0 U U b50) rfl (CG BW U U gc51 (Ao _) rfl) (yg tb b50 U (bs h1 fun q52 gq52 h1=>?_))
      refine QG (rowsP:=[(ro 0 3 1 eI s0)]) (rows0:=[(ro 0 3 1 eI s0)]) (rows1:=[(ro 0 3 1 eI s0)]) (rows1':=[(ro 0 3 1 eI s0)]) (v':=(i64 q52)) [0] (B0 U U b50) Om (hrec_impl_signatures_typeOf gq52) rfl (by decide) rfl U (.pure (AD fun _=>U) .nil) rfl U (.pure (AD fun _=>U) .nil) rfl U ?_
      exact yg tb b50 U (yf b50 U (AR (M42 (!decide (q52=0)) (Sh.AE h1).symm _ (AG U))))
   ·intro b38 h0
    refine zr tb U U ?_
    refine ci h0 U ?_ ?_ <;> clear h0
    ·intro b54 h0
     refine sr U fun K55 hK55=>zm tb 4 U (bs h0 fun q56 gq56 h0=>CC (v':=(ow 3 0 q56)) AK Yg (O5 gq56) rfl U ⟨(Bs fun _=>U),trivial⟩ U U (zq tb U (dn hK55 U (AJ fun K57 hK57=>AJ fun K58 hK58=>bs h0 fun o60 h1 h0=>?_))))
     have M60 :∀(t59:Bool),o60=t59→∀s,Wk 1 s ⟨194,Ab [(1,(ow 0 0 s0)),(3,(.ptr 1 0 0 0)),(5,(.ptr 2 0 0 0)),(8,(ow 3 0 q56)),(130,(.bool t59))],[(ro 0 3 1 eI s0),⟨0,97,2,[(AM p0)]⟩,(Du p2.op p2.num p2.kids),(ro 0 3 1 eI q56)]⟩→K58 s:=by
      intro t59 hq s hw
      subst o60
      try dsimp only at h0
      refine hK58 _ (AS hw ?_)
      refine ci h0 U ?_ ?_ <;> clear h0
      ·intro b61 h0
       refine zr tb U U ?_
       replace h0:=Sh.AE h0
       subst r
       exact AZ (xr (AT (L:=[(6,(i64 (-1)))]) (st':=[(ro 0 3 1 eI s0)]) [0] U (by decide) rfl U (.pure (AD fun _=>U) .nil) ⟨.rfl,trivial⟩))
      ·intro b61 h0
       refine AU (hK57 _ (sr U fun K63 hK63=>zq tb U (zz (i64 (Sh.len q56)) (Ch Ek U U U) rfl (bs h0 fun l64 gl64 h0=>Qd (m:=4) (enc:=(eS eI)) (u:=[]) AK Hy U U U gl64 U U (zq tb U (dn hK63 U (AJ fun K65 hK65=>sr U fun K66 hK66=>zq tb U (zz (i64 (Sh.len q56)) (Ch Ek U U U) rfl ?_))))))))
       refine zq tb U (dn hK66 U (bs h0 fun o70 h1 h0=>?_))
       have M70 :∀(l69:(List (List Int))),o70=l69→∀s,Wk 1 s ⟨194,Ab [(1,(ow 0 0 s0)),(3,(.ptr 1 0 0 0)),(5,(.ptr 2 0 0 0)),(9,(ow 3 0 l69))],[(ro 0 3 1 eI s0),⟨0,97,2,[(AM p0)]⟩,(Du p2.op p2.num p2.kids),(ro 0 40 1 (eS eI) l69)]⟩→K65 s:=by
        intro l69 hq s hw
        subst o70
        try dsimp only at h0
        refine hK65 _ (AS hw (AJ fun K71 hK71=>?_))
        refine C2 7 (by kernel_rfl) (by kernel_rfl) (by rfl) ?_
        iterate 4 refine yq tb rfl ?_
        refine bs h0 fun l72 gl72 h0=>TR (i:=1) (j:=Sh.len p2.kids) AK BW U U U B4 gl72 (yq tb U (bs h0 fun q73 gq73 h0=>TA (v':=(i64 q73)) AK W9 (GV hrec_impl_signatures_typeOf gq73) rfl (.val U (.own U U (fun _=>U) (.val U (.own U U (fun _=>U) .nil)))) rfl U (AR (zq tb U (dn hK71 U ?_)))))
        replace h0:=Sh.AE h0
        subst r
        exact AZ (xr (AT (L:=[(6,(i64 q73))]) (st':=[(ro 0 3 1 eI s0)]) [0] U (by decide) rfl U (.pure (AD fun _=>U) .nil) ⟨.rfl,trivial⟩))
       refine Ae (A5 (σ:=Int×(List (List Int))) (fun n v=>Bf N p0 q56 n v.1 v.2=some o70) (fun (t67,l68)=>⟨194,Ab [(1,(ow 0 0 s0)),(3,(.ptr 1 0 0 0)),(5,(.ptr 2 0 0 0)),(9,(ow 4 0 l68)),(134,(ow 3 0 q56)),(135,(i64 (Sh.len q56))),(136,(i64 t67))],[(ro 0 3 1 eI s0),⟨0,97,2,[(AM p0)]⟩,(Du p2.op p2.num p2.kids),(ro 0 3 1 eI q56),(ro 0 40 1 (eS eI) l68)]⟩) N (0,l64) h1 (AG U) (fun _ hv=>by rw[Bf] at hv;cases hv) ?_)
       rintro n ⟨t67,l68⟩ h1
       try dsimp only at h1 ⊢
       rw[Bf] at h1
       refine zr tb U U (AJ fun K75 hK75=>?_)
       refine ci h1 U ?_ ?_ <;> clear h1
       ·intro b76 h1
        refine AU (hK75 _ (AJ fun K77 hK77=>Ae (sr U fun K78 hK78=>zq tb U (bs h1 fun c79 gc79 h1=>zz (.ptr 3 0 (Int.toNat t67) 0) (Br BF U U U U gc79) rfl (zz (i64 c79) (B5 Fx U U (By gc79) rfl) rfl (zm tb 2 U (dn hK78 U (AN U (zm tb 5 U ?_)))))))))
        refine bs h1 fun q80 gq80 h1=>zc YJ (Nl gq80) rfl U U (bs h1 fun c81 gc81 h1=>zz (.ptr 4 0 (Int.toNat t67) 0) (Br Hy U U U U gc81) rfl (HM (u':=q80) AK La U U gc81 U U U (show 0+1≤1 by decide) rfl U (dn hK77 U (AN U (zm tb 2 U ?_)))))
        exact AB (xi (Sh.w (t67+1),Sh.put l68 t67 q80) h1 (Ah (L:=[(1,(.own 0 0 (List.length s0))),(3,(.ptr 1 0 0 0)),(5,(.ptr 2 0 0 0)),(9,(.own 4 0 (List.length (Sh.put l68 t67 q80)))),(134,(.own 3 0 (List.length q56))),(135,(i64 (Sh.len q56))),(136,(i64 (Sh.w (t67+1))))]) ⟨.rfl,.rfl,.rfl,(.len (by simp only[Sh.FX])),.rfl,.rfl,.rfl,trivial⟩))
       ·intro b76 h1
        exact BE (M70 l68 (Sh.AE h1).symm _ (AT (L:=[(1,(ow 0 0 s0)),(3,(.ptr 1 0 0 0)),(5,(.ptr 2 0 0 0)),(9,(ow 3 0 l68))]) (st':=[(ro 0 3 1 eI s0),⟨0,97,2,[(AM p0)]⟩,(Du p2.op p2.num p2.kids),(ro 0 40 1 (eS eI) l68)]) [0,1,2,4] U (by decide) rfl U (.pure (AD fun _=>U) (.raw U U (.raw U U (.pure (AD fun _=>U) .nil)))) ⟨.rfl,.rfl,.rfl,.rfl,trivial⟩))
     refine CI (by kernel_rfl) (by kernel_rfl) (by rfl) ?_
     refine yq tb U (yz (i64 (Sh.len q56)) (Ch Ek U U U) rfl ?_)
     iterate 2 refine yq tb rfl ?_
     rcases Sh.An h1 with ⟨b82,h1⟩ | ⟨b82,h1⟩
     ·refine ys b82 U ?_
      iterate 6 refine ys b82 rfl ?_
      refine yt b82 U (yq tb U ?_)
      iterate 10 refine ys rfl rfl ?_
      exact yt U U (AR (M60 true (Sh.AE h1).symm _ (AG U)))
     ·refine yg tb b82 U (yg tb b82 U (A9 (v:=(i64 (Sh.len p2.kids))) (B0 U U b82) rfl (B9 RW U) (yg tb b82 U (A9 (v:=(i64 (Sh.len q56))) (B0 U U b82) rfl (Ch Ek U U U) ?_))))
      iterate 2 refine yg tb b82 rfl ?_
      refine yf b82 U (yq tb U ?_)
      rcases Sh.An h1 with ⟨b83,h1⟩ | ⟨b83,h1⟩
      ·refine ys b83 U ?_
       iterate 9 refine ys b83 rfl ?_
       exact yt b83 U (AR (M60 true (Sh.AE h1).symm _ (AG U)))
      ·refine yg tb b83 U ?_
       iterate 3 refine yg tb b83 rfl ?_
       refine bs h1 fun c84 gc84 h1=>A9 (v:=(.Al [(i64 c84.op),(i64 c84.num),(ls AA c84.kids)] 0)) (B0 U U b83) rfl (CG BW U U gc84 (Ao _) rfl) (yg tb b83 U (bs h1 fun q85 gq85 h1=>?_))
       refine QG (rowsP:=[(ro 0 3 1 eI s0)]) (rows0:=[(ro 0 3 1 eI s0)]) (rows1:=[(ro 0 3 1 eI s0)]) (rows1':=[(ro 0 3 1 eI s0)]) (v':=(i64 q85)) [0] (B0 U U b83) Om (hrec_impl_signatures_typeOf gq85) rfl (by decide) rfl U (.pure (AD fun _=>U) .nil) rfl U (.pure (AD fun _=>U) .nil) rfl U ?_
       iterate 3 refine yg tb b83 rfl ?_
       exact yf b83 U (AR (M60 (!decide (q85=p2.num)) (Sh.AE h1).symm _ (AG U)))
    ·intro b54 h0
     refine AU (hK2 _ (sr U fun K86 hK86=>zm tb 2 U (zl tb U U (bs h0 fun l87 gl87 h0=>Qd (m:=3) (enc:=eI) (u:=0) AK BF U U U gl87 U U (zq tb U (dn hK86 U (AJ fun K88 hK88=>sr U fun K89 hK89=>zm tb 2 U (zl tb U U ?_))))))))
     refine zq tb U (dn hK89 U ?_)
     obtain⟨o93,h1,h0⟩:=Sh.Bh h0
     have M93 :∀(l92:(List Int)),o93=Sum.inr l92→∀s,Wk 1 s ⟨194,Ab [(3,(.ptr 1 0 0 0)),(5,(.ptr 2 0 0 0)),(12,(ow 3 0 l92))],[(ro 0 3 1 eI s0),⟨0,97,2,[(AM p0)]⟩,(Du p2.op p2.num p2.kids),(ro 0 3 1 eI l92)]⟩→K88 s:=by
      intro l92 hq s hw
      subst o93
      try dsimp only at h0
      refine hK88 _ (AS hw (sr U fun K94 hK94=>zm tb 6 U (Af (Wk.BH (L:=[(182,(.agg (AM p0))),(184,(i64 p2.op)),(186,(i64 p2.num)),(187,(ls eI l92))]) (st':=[(ro 0 3 1 eI s0),⟨0,97,2,[(AM p0)]⟩,(Du p2.op p2.num p2.kids),⟨1,3,1,[]⟩]) (id:=3) rfl (show 1≤3 by decide) (AD fun _=>U) ⟨.rfl,.rfl,.rfl,(.BH U),trivial⟩ U) (bs h0 fun q95 gq95 h0=>zc (v':=(.CA [(i64 q95.1),(.bool q95.2)])) YP (H6 gq95) rfl U U (zm tb 5 U (dn hK94 U (AJ fun K96 hK96=>zr tb U U ?_)))))))
      refine ci h0 U ?_ ?_ <;> clear h0
      ·intro b98 h0
       have b99:q95.2=false:=by simpa using b98
       refine zr tb U U ?_
       replace h0:=Sh.AE h0
       subst r
       exact AZ (xr (AT (L:=[(6,(i64 (-1)))]) (st':=[(ro 0 3 1 eI s0)]) [0] U (by decide) rfl U (.pure (AD fun _=>U) .nil) ⟨.rfl,trivial⟩))
      ·intro b98 h0
       have b101:q95.2=true:=by simpa using b98
       refine AU (hK96 _ (zr tb U U ?_))
       replace h0:=Sh.AE h0
       subst r
       exact AZ (xr (AT (L:=[(6,(i64 q95.1))]) (st':=[(ro 0 3 1 eI s0)]) [0] U (by decide) rfl U (.pure (AD fun _=>U) .nil) ⟨.rfl,trivial⟩))
     refine Ae (A5 (σ:=Int×(List Int)) (fun n v=>Bg s0 p0 p2 rec_impl_signatures_typeOf n v.1 v.2=some o93) (fun (t90,l91)=>⟨194,Ab [(1,(ow 0 0 s0)),(3,(.ptr 1 0 0 0)),(5,(.ptr 2 0 0 0)),(12,(ow 3 0 l91)),(161,(ls AA p2.kids)),(162,(i64 (Sh.len p2.kids))),(163,(i64 t90))],[(ro 0 3 1 eI s0),⟨0,97,2,[(AM p0)]⟩,(Du p2.op p2.num p2.kids),(ro 0 3 1 eI l91)]⟩) N (0,l87) h1 (AG U) (fun _ hv=>by rw[Bg] at hv;cases hv) ?_)
     rintro n ⟨t90,l91⟩ h1
     try dsimp only at h1 ⊢
     rw[Bg] at h1
     refine zr tb U U (AJ fun K104 hK104=>?_)
     refine ci h1 U ?_ ?_ <;> clear h1
     ·intro b105 h1
      refine AU (hK104 _ (AJ fun K106 hK106=>Ae (sr U fun K107 hK107=>zq tb U (bs h1 fun c108 gc108 h1=>zz (.Al [(i64 c108.op),(i64 c108.num),(ls AA c108.kids)] 0) (CG BW U U gc108 (Ao _) rfl) rfl (zq tb U (A0 (m:=4) AK Dw U U (zq tb U (Az AK BP U U U U U U (show 0+3≤3 by decide) rfl (dn hK107 U ?_)))))))))
      refine sr U fun K109 hK109=>zm tb 5 U (bs h1 fun q110 gq110 h1=>?_)
      refine A4 (rowsP:=[(ro 0 3 1 eI s0)]) (rows0:=[(ro 0 3 1 eI s0)]) (rows1:=[(ro 0 3 1 eI s0)]) (rows2:=[]) (rows1':=[(ro 0 3 1 eI s0)]) (rows2':=[]) (st':=[(ro 0 3 1 eI s0),⟨0,97,2,[(AM p0)]⟩,(Du p2.op p2.num p2.kids),(ro 0 3 1 eI l91),(Du c108.op c108.num c108.kids)]) (v':=(i64 q110)) [0] AK Om (hrec_impl_signatures_typeOf gq110) rfl (by decide) rfl U (.pure (AD fun _=>U) .nil) rfl U (.pure (AD fun _=>U) .nil) .nil U U ?_
      refine bs h1 fun c111 gc111 h1=>zz (.ptr 3 0 (Int.toNat t90) 0) (Br BF U U U U gc111) rfl (HM (u':=q110) AK Fx U U gc111 U U U (show 0+1≤1 by decide) rfl U (dn hK109 U (sr U fun K112 hK112=>zm tb 2 U (bs h1 fun c113 gc113 h1=>?_))))
      refine zz (.ptr 3 0 (Int.toNat t90) 0) (Br BF U U U (by simp only[Sh.FX]) gc113) rfl ?_
      refine zz (i64 c113) (B5 Fx U U (By gc113) rfl) rfl (zq tb U (dn hK112 U ?_))
      refine ci h1 U ?_ ?_ <;> clear h1
      ·intro b114 h1
       refine zr tb U U ?_
       replace h1:=Sh.AE h1
       subst o93
       try dsimp only[id] at h0
       replace h0:=Sh.AE h0
       subst r
       exact AZ (xr (AT (L:=[(6,(i64 (-1)))]) (st':=[(ro 0 3 1 eI s0)]) [0] U (by decide) rfl U (.pure (AD fun _=>U) .nil) ⟨.rfl,trivial⟩))
      ·intro b114 h1
       refine AU (hK106 _ (AN U (zm tb 2 U ?_)))
       exact AB (xi (Sh.w (t90+1),Sh.put l91 t90 q110) h1 (by refine Wk.trans (AT (L:=[(1,(.own 0 0 (List.length s0))),(3,(.ptr 1 0 0 0)),(5,(.ptr 2 0 0 0)),(12,(.own 3 0 (List.length l91))),(161,(.sl (List.map AA p2.kids))),(162,(i64 (Sh.len p2.kids))),(163,(i64 (Sh.w (t90+1))))]) (st':=[⟨0,3,1,List.map eI s0⟩,⟨0,97,2,[(AM p0)]⟩,⟨0,50,3,[[(i64 p2.op),(i64 p2.num),(.sl (List.map AA p2.kids))]]⟩,⟨0,3,1,List.map eI (Sh.put l91 t90 q110)⟩]) [0,1,2,3] U (by decide) rfl U (.pure (AD fun _=>U) (.raw U U (.raw U U (.pure (AD fun _=>U) .nil)))) ⟨.rfl,.rfl,.rfl,.rfl,.rfl,.rfl,.rfl,trivial⟩) ?_;exact Ah (L:=[(1,(.own 0 0 (List.length s0))),(3,(.ptr 1 0 0 0)),(5,(.ptr 2 0 0 0)),(12,(.own 3 0 (List.length (Sh.put l91 t90 q110)))),(161,(.sl (List.map AA p2.kids))),(162,(i64 (Sh.len p2.kids))),(163,(i64 (Sh.w (t90+1))))]) ⟨.rfl,.rfl,.rfl,(.len (by simp only[Sh.FX])),.rfl,.rfl,.rfl,trivial⟩))
     ·intro b105 h1
      exact BE (M93 l91 (Sh.AE h1).symm _ (AG U))

theorem IW {N:Nat} :∀(n:Nat),∀{s0:(List Int)} {p0:BI} {p2:AP} {r:Int},Bn N n s0 p0 p2=some r→Aj Try.prog 61 [(.agg (AM p0)),(ow 0 0 s0),(.agg [(i64 p2.op),(i64 p2.num),(ls AA p2.kids)])] [(ro 0 3 1 eI s0)] (fun v st=>v=(i64 r)∧st=[(ro 0 3 1 eI s0)]):=by
 intro n
 induction n with
 | zero=>intro s0 p0 p2 r h0;cases h0
 | succ n ih=>
  intro s0 p0 p2 r h0
  rw[Bn] at h0
  exact IZ (fun h=>ih h) h0
theorem I0 {N:Nat} :∀{s0:(List Int)} {p0:BI} {p2:AP} {r:Int},FV N s0 p0 p2=some r→Aj Try.prog 61 [(.agg (AM p0)),(ow 0 0 s0),(.agg [(i64 p2.op),(i64 p2.num),(ls AA p2.kids)])] [(ro 0 3 1 eI s0)] (fun v st=>v=(i64 r)∧st=[(ro 0 3 1 eI s0)]):=by
 intro s0 p0 p2 r h0
 exact IW N h0
theorem PB {N:Nat} {p0:Ai} {p1:(List Int)} {p2:AP} {r:Int} (h0:Ig N p0 p1 p2=some r):Aj Try.prog 39 [(.agg [(ls AI p0.decls),(ls AH p0.funcs)]),(ls eI p1),(.agg [(i64 p2.op),(i64 p2.num),(ls AA p2.kids)])] [] (fun v st=>v=(i64 r)∧st=[]):=by
 unfold Ig at h0
 refine ai Try.func39 U U U U (sr U fun K1 hK1=>Bj (m:=0) AK U U U U U (Bj (m:=1) AK U U U U U (zq tb U (dn hK1 U (AJ fun K2 hK2=>AJ fun K3 hK3=>bs h0 fun o5 h1 h0=>?_)))))
 have M5 :∀(t4:Bool),o5=t4→∀s,Wk 0 s ⟨28,Ab [(1,(ls eI p1)),(3,(.ptr 0 0 0 0)),(5,(.ptr 1 0 0 0)),(21,(.bool t4))],[(Sx p0.decls p0.funcs),(Du p2.op p2.num p2.kids)]⟩→K3 s:=by
  intro t4 hq s hw
  subst o5
  try dsimp only at h0
  refine hK3 _ (AS hw ?_)
  refine ci h0 U ?_ ?_ <;> clear h0
  ·intro b6 h0
   refine zr tb U U ?_
   replace h0:=Sh.AE h0
   subst r
   exact AZ (xr (Ax [(6,(i64 (-1)))] U))
  ·intro b6 h0
   refine AU (hK2 _ (AJ fun K8 hK8=>?_))
   refine HV (by kernel_rfl) ?_
   refine bs h0 fun q9 gq9 h0=>bs h0 fun q10 gq10 h0=>bs h0 fun q11 gq11 h0=>Lp fun A12 hA12=>?_
   have A12_0123456:A12 0 #[true,true,true,true,true,true,true] ⟨28,Ab [(6,(i64 q11))],[]⟩:=(hA12 _ _ _).2 (by
    refine Fm U (by kernel_rfl) ?_
    refine hK8 _ ?_
    replace h0:=Sh.AE h0
    subst r
    exact AZ (Exists.intro _ (And.intro (Ah (L:=[(6,(i64 q11))]) ⟨.rfl,trivial⟩) (And.intro U U))))
   have A12_012345:A12 1 #[true,true,true,true,true,true,false] ⟨28,Ab [(27,(i64 q11))],[]⟩:=(hA12 _ _ _).2 (by
    refine CY 6 (v:=(i64 q11)) rfl U (by kernel_rfl) (by kernel_rfl) (by kernel_rfl) rfl (HT U) ?_
    exact AF (by exact AG U) (AL (by kernel_rfl) ((hA12 _ _ _).1 A12_0123456)) rfl)
   have A12_01234:A12 2 #[true,true,true,true,true,false,false] ⟨28,Ab [(23,(.agg (AM q9))),(25,(ow 0 0 q10)),(26,(.agg [(i64 p2.op),(i64 p2.num),(ls AA p2.kids)]))],[(ro 0 3 1 eI q10)]⟩:=(hA12 _ _ _).2 (by
    refine Ad [5] U (by kernel_rfl) (by decide) ⟨?_,trivial⟩
    ·refine Av.of (i:=5) rfl U (by rfl) ?_
     refine A4 (rowsP:=[(ro 0 3 1 eI q10)]) (rows0:=[(ro 0 3 1 eI q10)]) (rows1:=[(ro 0 3 1 eI q10)]) (rows2:=[]) (rows1':=[(ro 0 3 1 eI q10)]) (rows2':=[]) (st':=[(ro 0 3 1 eI q10)]) (v':=(i64 q11)) [0] AK Om (I0 gq11) rfl (by decide) rfl U (.pure (AD fun _=>U) .nil) rfl U (.pure (AD fun _=>U) .nil) .nil U U ?_
     refine AB ⟨U,?_⟩
     exact AF (by exact AT (L:=[(27,(i64 q11))]) (st':=[]) [] U (by decide) rfl U .nil ⟨.rfl,trivial⟩) (AL (by kernel_rfl) ((hA12 _ _ _).1 A12_012345)) rfl)
   have A12_0123:A12 3 #[true,true,true,true,false,false,false] ⟨28,Ab [(5,(.ptr 0 0 0 0)),(23,(.agg (AM q9))),(25,(ow 1 0 q10))],[(Du p2.op p2.num p2.kids),(ro 0 3 1 eI q10)]⟩:=(hA12 _ _ _).2 (by
    refine Ad [4] U (by kernel_rfl) (by decide) ⟨?_,trivial⟩
    ·refine Av.of (i:=4) rfl U (by rfl) ?_
     refine zq tb U (AB ⟨U,?_⟩)
     exact AF (by exact AT (L:=[(23,(.agg (AM q9))),(25,(ow 0 0 q10)),(26,(.agg [(i64 p2.op),(i64 p2.num),(ls AA p2.kids)]))]) (st':=[(ro 0 3 1 eI q10)]) [1] U (by decide) rfl U (.pure (AD fun _=>U) .nil) ⟨.rfl,.rfl,.rfl,trivial⟩) (AL (by kernel_rfl) ((hA12 _ _ _).1 A12_01234)) rfl)
   have A12_0124:A12 3 #[true,true,true,false,true,false,false] ⟨28,Ab [(23,(.agg (AM q9))),(24,(ls eI p1)),(26,(.agg [(i64 p2.op),(i64 p2.num),(ls AA p2.kids)]))],[]⟩:=(hA12 _ _ _).2 (by
    refine Ad [3] U (by kernel_rfl) (by decide) ⟨?_,trivial⟩
    ·refine Av.of (i:=3) rfl U (by rfl) ?_
     refine CC (v':=(ow 0 0 q10)) AK W8 (G8 gq10) rfl U ⟨(Bs fun _=>U),trivial⟩ U U (AB ⟨U,?_⟩)
     exact AF (by exact AG U) (AL (by kernel_rfl) ((hA12 _ _ _).1 A12_01234)) rfl)
   have A12_012:A12 4 #[true,true,true,false,false,false,false] ⟨28,Ab [(5,(.ptr 0 0 0 0)),(23,(.agg (AM q9))),(24,(ls eI p1))],[(Du p2.op p2.num p2.kids)]⟩:=(hA12 _ _ _).2 (by
    refine Ad [3,4] U (by kernel_rfl) (by decide) ⟨?_,?_,trivial⟩
    ·refine Av.of (i:=3) rfl U (by rfl) ?_
     refine CC (v':=(ow 1 0 q10)) AK W8 (G8 gq10) rfl U ⟨(Bs fun _=>U),trivial⟩ U U (AB ⟨U,?_⟩)
     exact AF (by exact AG U) (AL (by kernel_rfl) ((hA12 _ _ _).1 A12_0123)) rfl
    ·refine Av.of (i:=4) rfl U (by rfl) ?_
     refine zq tb U (AB ⟨U,?_⟩)
     exact AF (by exact AT (L:=[(23,(.agg (AM q9))),(24,(ls eI p1)),(26,(.agg [(i64 p2.op),(i64 p2.num),(ls AA p2.kids)]))]) (st':=[]) [] U (by decide) rfl U .nil ⟨.rfl,.rfl,.rfl,trivial⟩) (AL (by kernel_rfl) ((hA12 _ _ _).1 A12_0124)) rfl)
   have A12_024:A12 4 #[true,false,true,false,true,false,false] ⟨28,Ab [(22,(.agg [(ls AI p0.decls),(ls AH p0.funcs)])),(24,(ls eI p1)),(26,(.agg [(i64 p2.op),(i64 p2.num),(ls AA p2.kids)]))],[]⟩:=(hA12 _ _ _).2 (by
    refine Ad [1] U (by kernel_rfl) (by decide) ⟨?_,trivial⟩
    ·refine Av.of (i:=1) rfl U (by rfl) ?_
     refine zc (v':=(.agg (AM q9))) XS (Kj gq9) rfl U U (AB ⟨U,?_⟩)
     exact AF (by exact AG U) (AL (by kernel_rfl) ((hA12 _ _ _).1 A12_0124)) rfl)
   have A12_02:A12 5 #[true,false,true,false,false,false,false] ⟨28,Ab [(5,(.ptr 0 0 0 0)),(22,(.agg [(ls AI p0.decls),(ls AH p0.funcs)])),(24,(ls eI p1))],[(Du p2.op p2.num p2.kids)]⟩:=(hA12 _ _ _).2 (by
    refine Ad [1,4] U (by kernel_rfl) (by decide) ⟨?_,?_,trivial⟩
    ·refine Av.of (i:=1) rfl U (by rfl) ?_
     refine zc (v':=(.agg (AM q9))) XS (Kj gq9) rfl U U (AB ⟨U,?_⟩)
     exact AF (by exact AG U) (AL (by kernel_rfl) ((hA12 _ _ _).1 A12_012)) rfl
    ·refine Av.of (i:=4) rfl U (by rfl) ?_
     refine zq tb U (AB ⟨U,?_⟩)
     exact AF (by exact AT (L:=[(22,(.agg [(ls AI p0.decls),(ls AH p0.funcs)])),(24,(ls eI p1)),(26,(.agg [(i64 p2.op),(i64 p2.num),(ls AA p2.kids)]))]) (st':=[]) [] U (by decide) rfl U .nil ⟨.rfl,.rfl,.rfl,trivial⟩) (AL (by kernel_rfl) ((hA12 _ _ _).1 A12_024)) rfl)
   have A12_24:A12 5 #[false,false,true,false,true,false,false] ⟨28,Ab [(3,(.ptr 0 0 0 0)),(24,(ls eI p1)),(26,(.agg [(i64 p2.op),(i64 p2.num),(ls AA p2.kids)]))],[(Sx p0.decls p0.funcs)]⟩:=(hA12 _ _ _).2 (by
    refine Ad [0] U (by kernel_rfl) (by decide) ⟨?_,trivial⟩
    ·refine Av.of (i:=0) rfl U (by rfl) ?_
     refine zq tb U (AB ⟨U,?_⟩)
     exact AF (by exact AT (L:=[(22,(.agg [(ls AI p0.decls),(ls AH p0.funcs)])),(24,(ls eI p1)),(26,(.agg [(i64 p2.op),(i64 p2.num),(ls AA p2.kids)]))]) (st':=[]) [] U (by decide) rfl U .nil ⟨.rfl,.rfl,.rfl,trivial⟩) (AL (by kernel_rfl) ((hA12 _ _ _).1 A12_024)) rfl)
   have A12_2:A12 6 #[false,false,true,false,false,false,false] ⟨28,Ab [(3,(.ptr 0 0 0 0)),(5,(.ptr 1 0 0 0)),(24,(ls eI p1))],[(Sx p0.decls p0.funcs),(Du p2.op p2.num p2.kids)]⟩:=(hA12 _ _ _).2 (by
    refine Ad [0,4] U (by kernel_rfl) (by decide) ⟨?_,?_,trivial⟩
    ·refine Av.of (i:=0) rfl U (by rfl) ?_
     refine zq tb U (AB ⟨U,?_⟩)
     exact AF (by exact AT (L:=[(5,(.ptr 0 0 0 0)),(22,(.agg [(ls AI p0.decls),(ls AH p0.funcs)])),(24,(ls eI p1))]) (st':=[(Du p2.op p2.num p2.kids)]) [1] U (by decide) rfl U (.raw U U .nil) ⟨.rfl,.rfl,.rfl,trivial⟩) (AL (by kernel_rfl) ((hA12 _ _ _).1 A12_02)) rfl
    ·refine Av.of (i:=4) rfl U (by rfl) ?_
     refine zq tb U (AB ⟨U,?_⟩)
     exact AF (by exact AT (L:=[(3,(.ptr 0 0 0 0)),(24,(ls eI p1)),(26,(.agg [(i64 p2.op),(i64 p2.num),(ls AA p2.kids)]))]) (st':=[(Sx p0.decls p0.funcs)]) [0] U (by decide) rfl U (.raw U U .nil) ⟨.rfl,.rfl,.rfl,trivial⟩) (AL (by kernel_rfl) ((hA12 _ _ _).1 A12_24)) rfl)
   have A12_e:A12 7 #[false,false,false,false,false,false,false] ⟨28,Ab [(1,(ls eI p1)),(3,(.ptr 0 0 0 0)),(5,(.ptr 1 0 0 0))],[(Sx p0.decls p0.funcs),(Du p2.op p2.num p2.kids)]⟩:=(hA12 _ _ _).2 (by
    refine CY 2 (v:=(ls eI p1)) rfl U (by kernel_rfl) (by kernel_rfl) (by kernel_rfl) rfl (GA U) ?_
    exact AF (by exact AG U) (AL (by kernel_rfl) ((hA12 _ _ _).1 A12_2)) rfl)
   refine (hA12 _ _ _).2 ?_
   exact AF (by exact AG U) (AL (by kernel_rfl) ((hA12 _ _ _).1 A12_e)) rfl
 refine AN U (zq tb U (bs h1 fun q13 gq13 h1=>zc XK (I7 gq13) rfl U U (zm tb 2 U ?_)))
 rcases Sh.An h1 with ⟨b14,h1⟩ | ⟨b14,h1⟩
 ·refine zs b14 U (zs b14 U (zs b14 U (zt b14 U (zq tb U ?_))))
  iterate 5 refine zs rfl rfl ?_
  exact zt U U (AB (M5 true (Sh.AE h1).symm _ (AG U)))
 ·refine zg tb b14 U (bs h1 fun q15 gq15 h1=>zd b14 YX (OB gq15) rfl U U U (zg tb b14 U (zf b14 U (zq tb U ?_))))
  rcases Sh.An h1 with ⟨b16,h1⟩ | ⟨b16,h1⟩
  ·refine zs b16 U ?_
   iterate 4 refine zs b16 rfl ?_
   exact zt b16 U (AB (M5 true (Sh.AE h1).symm _ (AG U)))
  ·exact zg tb b16 U (zg tb b16 U (zg tb b16 U (bs h1 fun q17 gq17 h1=>zd b16 VX (Hg gq17) rfl U U U (zg tb b16 U (zf b16 U (AB (M5 (!q17) (Sh.AE h1).symm _ (AG U))))))))
theorem Hs {N:Nat} {p0:Ai} {r:Bool} (h0:DU N p0=some r):Aj Try.prog 18 [(.agg [(ls AI p0.decls),(ls AH p0.funcs)])] [] (fun v st=>v=(.bool r)∧st=[]):=by
 unfold DU at h0
 refine ai Try.func18 U U U U (sr U fun K1 hK1=>Bj (m:=0) AK U U U U U (zq tb U (dn hK1 U (AJ fun K2 hK2=>sr U fun K3 hK3=>zq tb U (bs h0 fun q4 gq4 h0=>zc XK (I7 gq4) rfl U U (zq tb U (dn hK3 U ?_)))))))
 refine ci h0 U ?_ ?_ <;> clear h0
 ·intro b5 h0
  have b6:q4=false:=by simpa using b5
  refine zr tb U U ?_
  replace h0:=Sh.AE h0
  subst r
  exact AZ (xr (Ax [(2,(.bool false))] U))
 ·intro b5 h0
  have b8:q4=true:=by simpa using b5
  refine AU (hK2 _ (AJ fun K9 hK9=>sr U fun K10 hK10=>zm tb 2 U (zl tb U U (zq tb U (dn hK10 U ?_)))))
  obtain⟨o12,h1,h0⟩:=Sh.Bh h0
  have M12 :∀(_:Unit),o12=Sum.inr ()→∀s,Wk 0 s ⟨25,Ab [],[]⟩→K9 s:=by
   intro _ hq s hw
   subst o12
   try dsimp only at h0
   refine hK9 _ (AS hw (zr tb U U ?_))
   replace h0:=Sh.AE h0
   subst r
   exact AZ (xr (Ah (L:=[(2,(.bool true))]) ⟨.rfl,trivial⟩))
  refine Ae (A5 (σ:=Int) (fun n v=>CZ N p0 n v=some o12) (fun t11=>⟨25,Ab [(1,(.ptr 0 0 0 0)),(9,(ls AH p0.funcs)),(10,(i64 (Sh.len p0.funcs))),(11,(i64 t11))],[(Sx p0.decls p0.funcs)]⟩) N 0 h1 (AG U) (fun _ hv=>by rw[CZ] at hv;cases hv) ?_)
  rintro n t11 h1
  try dsimp only at h1 ⊢
  rw[CZ] at h1
  refine zr tb U U (AJ fun K15 hK15=>?_)
  refine ci h1 U ?_ ?_ <;> clear h1
  ·intro b16 h1
   refine AU (hK15 _ (AJ fun K17 hK17=>Ae (sr U fun K18 hK18=>bs h1 fun c19 gc19 h1=>zx C3 gc19 U U U (zq tb U (A0 (m:=1) AK Jq U U (Az AK IE U U U U U U (show 0+5≤5 by decide) rfl (dn hK18 U (AJ fun K20 hK20=>?_))))))))
   refine CI (by kernel_rfl) (by kernel_rfl) (by rfl) ?_
   iterate 5 refine yq tb rfl ?_
   refine bs h1 fun q21 gq21 h1=>BX (v:=(i64 q21)) AK YZ (PB gq21) rfl U U ?_
   iterate 3 refine yq tb rfl ?_
   refine AR (hK20 _ ?_)
   refine ci h1 U ?_ ?_ <;> clear h1
   ·intro b22 h1
    have b23:decide (q21=c19.result)=false:=by simpa using b22
    refine zr tb U U ?_
    replace h1:=Sh.AE h1
    subst o12
    try dsimp only[id] at h0
    replace h0:=Sh.AE h0
    subst r
    exact AZ (xr (Ax [(2,(.bool false))] U))
   ·intro b22 h1
    have b25:decide (q21=c19.result)=true:=by simpa using b22
    refine AU (hK17 _ (AN U (zm tb 2 U ?_)))
    exact AB (xi (Sh.w (t11+1)) h1 (AT (L:=[(1,(.ptr 0 0 0 0)),(9,(ls AH p0.funcs)),(10,(i64 (Sh.len p0.funcs))),(11,(i64 (Sh.w (t11+1))))]) (st':=[(Sx p0.decls p0.funcs)]) [0] U (by decide) rfl U (.raw U U .nil) ⟨.rfl,.rfl,.rfl,.rfl,trivial⟩))
  ·intro b16 h1
   exact BE (M12 () (Sh.AE h1).symm _ (Ax _ U))
theorem K0 {s0_0:Int} {s1_0:Int} {p0:AP} {r:Int} (h0:GM s0_0 s1_0 p0=some r):Aj Try.prog 28 [(.agg [(i64 p0.op),(i64 p0.num),(ls AA p0.kids)]),(.ptr 0 0 0 0),(.ptr 1 0 0 0)] [(DN s0_0),(DN s1_0)] (fun v st=>v=(.CA [])∧st=[(DN s0_0),(DN r)]):=by
 unfold GM at h0
 refine ai Try.func28 U U U U (sr U fun K1 hK1=>Bj (m:=2) AK U U U U U (dn hK1 U (AJ fun K2 hK2=>bs h0 fun o4 h1 h0=>?_)))
 have M4 :∀(t3:Bool),o4=t3→∀s,Wk 2 s ⟨15,Ab [(2,(.ptr 1 0 0 0)),(12,(.bool t3))],[(DN s0_0),(DN s1_0)]⟩→K2 s:=by
  intro t3 hq s hw
  subst o4
  try dsimp only at h0
  refine hK2 _ (AS hw ?_)
  refine ci h0 U ?_ ?_ <;> clear h0
  ·intro b5 h0
   refine AN U (zm tb 2 U (Az AK Fx U U U U U U (show 0+1≤1 by decide) rfl ?_))
   replace h0:=Sh.AE h0
   subst r
   exact AB (xr (Ah (L:=[]) trivial))
  ·intro b5 h0
   replace h0:=Sh.AE h0
   subst r
   exact AU (xi _ (Ah (L:=[]) trivial) (And.intro U U))
 refine AN U (zm tb 4 U ?_)
 rcases Sh.An h1 with ⟨b6,h1⟩ | ⟨b6,h1⟩
 ·refine zg tb b6 U ?_
  iterate 3 refine zg tb b6 rfl ?_
  refine zt b6 U ?_
  exact AB (M4 (decide (p0.num=s0_0)) (Sh.AE h1).symm _ (AT (L:=[(2,(.ptr 1 0 0 0)),(12,(.bool (decide (p0.num=s0_0))))]) (st':=[(DN s0_0),(DN s1_0)]) [0,1] U (by decide) rfl U (.raw U U (.raw U U .nil)) ⟨.rfl,.rfl,trivial⟩))
 ·refine zs b6 U ?_
  iterate 3 refine zs b6 rfl ?_
  refine zf b6 U ?_
  exact AB (M4 false (Sh.AE h1).symm _ (AT (L:=[(2,(.ptr 1 0 0 0)),(12,(.bool false))]) (st':=[(DN s0_0),(DN s1_0)]) [0,1] U (by decide) rfl U (.raw U U (.raw U U .nil)) ⟨.rfl,.rfl,trivial⟩))
theorem Oz {N:Nat} {rec_impl_walk:Int→Int→AP→Option (Int×Int)} (hrec_impl_walk :∀{s0_0:Int} {s1_0:Int} {p0:AP} {r:Int×Int},rec_impl_walk s0_0 s1_0 p0=some r→Aj Try.prog 27 [(.agg [(i64 p0.op),(i64 p0.num),(ls AA p0.kids)]),(.fn 28 [(.ptr 0 0 0 0),(.ptr 1 0 0 0)])] [(DN s0_0),(DN s1_0)] (fun v st=>v=(.CA [])∧st=[(DN r.1),(DN r.2)])) {s0_0:Int} {s1_0:Int} {p0:AP} {r:Int×Int} (h0:Ie N rec_impl_walk s0_0 s1_0 p0=some r):Aj Try.prog 27 [(.agg [(i64 p0.op),(i64 p0.num),(ls AA p0.kids)]),(.fn 28 [(.ptr 0 0 0 0),(.ptr 1 0 0 0)])] [(DN s0_0),(DN s1_0)] (fun v st=>v=(.CA [])∧st=[(DN r.1),(DN r.2)]):=by
 unfold Ie at h0
 refine ai Try.func27 U U U U (sr U fun K1 hK1=>Bj (m:=2) AK U U U U U (dn hK1 U (sr U fun K2 hK2=>zm tb 2 U (bs h0 fun q3 gq3 h0=>?_))))
 refine QF (rowsP:=[(DN s0_0),(DN s1_0)]) (rows0:=[(DN s0_0),(DN s1_0)]) (rows1:=[(DN s0_0),(DN q3)]) (rows2:=[]) (rows1':=[(DN s0_0),(DN q3)]) (rows2':=[]) (st':=[(DN s0_0),(DN q3),(Du p0.op p0.num p0.kids)]) (v':=(.CA [])) [0,1] AK U Yk (K0 gq3) rfl (by decide) rfl U (.raw U U (.raw U U .nil)) rfl U (.raw U U (.raw U U .nil)) .nil U U ?_
 refine dn hK2 U (sr U fun K4 hK4=>zm tb 2 U (zl tb U U (zq tb U (dn hK4 U (OC fun K5 hK5=>bs h0 fun o11 h1 h0=>?_)))))
 have M11 :∀(f9:Int) (f10:Int),o11=(f9,f10)→∀s,Wk 2 s ⟨20,Ab [],[(DN f9),(DN f10)]⟩→K5 s:=by
  intro f9 f10 hq s hw
  subst o11
  try dsimp only at h0
  refine hK5 _ ?_
  replace h0:=Sh.AE h0
  subst r
  exact Exists.intro _ (And.intro (hw.trans (Ah (L:=[]) trivial)) (And.intro U U))
 refine Ae (A5 (σ:=Int×Int×Int) (fun n v=>Dr p0 rec_impl_walk n v.1 v.2.1 v.2.2=some o11) (fun (t6,f7,f8)=>⟨20,Ab [(1,(.fn 28 [(.ptr 0 0 0 0),(.ptr 1 0 0 0)])),(10,(ls AA p0.kids)),(11,(i64 (Sh.len p0.kids))),(12,(i64 t6))],[(DN f7),(DN f8)]⟩) N (0,s0_0,q3) h1 (AT (L:=[(1,(.fn 28 [(.ptr 0 0 0 0),(.ptr 1 0 0 0)])),(10,(ls AA p0.kids)),(11,(i64 (Sh.len p0.kids))),(12,(i64 0))]) (st':=[(DN s0_0),(DN q3)]) [0,1] U (by decide) rfl U (.raw U U (.raw U U .nil)) ⟨.rfl,.rfl,.rfl,.rfl,trivial⟩) (fun _ hv=>by rw[Dr] at hv;cases hv) ?_)
 rintro n ⟨t6,f7,f8⟩ h1
 try dsimp only at h1 ⊢
 rw[Dr] at h1
 refine zr tb U U (AJ fun K13 hK13=>?_)
 refine ci h1 U ?_ ?_ <;> clear h1
 ·intro b14 h1
  refine AU (hK13 _ (AJ fun K15 hK15=>Ae (sr U fun K16 hK16=>bs h1 fun c17 gc17 h1=>zz (.Al [(i64 c17.op),(i64 c17.num),(ls AA c17.kids)] 0) (CG BW U U gc17 (Ao _) rfl) rfl (zq tb U (A0 (m:=2) AK Dw U U (Az AK BP U U U U U U (show 0+3≤3 by decide) rfl (dn hK16 U (AN U (zm tb 2 U ?_)))))))))
  refine bs h1 fun q18 gq18 h1=>?_
  refine A4 (rowsP:=[(DN f7),(DN f8)]) (rows0:=[(DN f7),(DN f8)]) (rows1:=[(DN q18.1),(DN q18.2)]) (rows2:=[]) (rows1':=[(DN q18.1),(DN q18.2)]) (rows2':=[]) (st':=[(DN q18.1),(DN q18.2),(Du c17.op c17.num c17.kids)]) (v':=(.CA [])) [0,1] AK UJ (hrec_impl_walk gq18) rfl (by decide) rfl U (.raw U U (.raw U U .nil)) rfl U (.raw U U (.raw U U .nil)) .nil U U ?_
  refine dn hK15 U (AN U (zm tb 2 U ?_))
  exact AB (xi (Sh.w (t6+1),q18.1,q18.2) h1 (AT (L:=[(1,(.fn 28 [(.ptr 0 0 0 0),(.ptr 1 0 0 0)])),(10,(ls AA p0.kids)),(11,(i64 (Sh.len p0.kids))),(12,(i64 (Sh.w (t6+1))))]) (st':=[(DN q18.1),(DN q18.2)]) [0,1] U (by decide) rfl U (.raw U U (.raw U U .nil)) ⟨.rfl,.rfl,.rfl,.rfl,trivial⟩))
 ·intro b14 h1
  exact BE (M11 f7 f8 (Sh.AE h1).symm _ (AG U))

theorem Ov {N:Nat} :∀(n:Nat),∀{s0_0:Int} {s1_0:Int} {p0:AP} {r:Int×Int},FG N n s0_0 s1_0 p0=some r→Aj Try.prog 27 [(.agg [(i64 p0.op),(i64 p0.num),(ls AA p0.kids)]),(.fn 28 [(.ptr 0 0 0 0),(.ptr 1 0 0 0)])] [(DN s0_0),(DN s1_0)] (fun v st=>v=(.CA [])∧st=[(DN r.1),(DN r.2)]):=by
 intro n
 induction n with
 | zero=>intro s0_0 s1_0 p0 r h0;cases h0
 | succ n ih=>
  intro s0_0 s1_0 p0 r h0
  rw[FG] at h0
  exact Oz (fun h=>ih h) h0
theorem Qt {N:Nat} :∀{s0_0:Int} {s1_0:Int} {p0:AP} {r:Int×Int},Mk N s0_0 s1_0 p0=some r→Aj Try.prog 27 [(.agg [(i64 p0.op),(i64 p0.num),(ls AA p0.kids)]),(.fn 28 [(.ptr 0 0 0 0),(.ptr 1 0 0 0)])] [(DN s0_0),(DN s1_0)] (fun v st=>v=(.CA [])∧st=[(DN r.1),(DN r.2)]):=by
 intro s0_0 s1_0 p0 r h0
 exact Ov N h0
theorem Mp {N:Nat} {p0:Ai} {p1:Int} {r:Int} (h0:Fv N p0 p1=some r):Aj Try.prog 10 [(.agg [(ls AI p0.decls),(ls AH p0.funcs)]),(i64 p1)] [] (fun v st=>v=(i64 r)∧st=[]):=by
 unfold Fv at h0
 refine ai Try.func10 U U U U (sr U fun K1 hK1=>Bj (m:=0) AK U U U U U (Bj (m:=1) AK U U U U U (zq tb U (dn hK1 U (AJ fun K2 hK2=>AJ fun K3 hK3=>bs h0 fun o5 h1 h0=>?_)))))
 have M5 :∀(t4:Bool),o5=t4→∀s,Wk 0 s ⟨35,Ab [(2,(.ptr 0 0 0 0)),(3,(.ptr 1 0 0 0)),(21,(.bool t4))],[(Sx p0.decls p0.funcs),(DN p1)]⟩→K3 s:=by
  intro t4 hq s hw
  subst o5
  try dsimp only at h0
  refine hK3 _ (AS hw ?_)
  refine ci h0 U ?_ ?_ <;> clear h0
  ·intro b6 h0
   refine zr tb U U ?_
   replace h0:=Sh.AE h0
   subst r
   exact AZ (xr (Ax [(4,(i64 (-1)))] U))
  ·intro b6 h0
   refine AU (hK2 _ (sr U fun K8 hK8=>A0 (m:=2) AK YK U U (Az AK Fx U U U U U U (show 0+1≤1 by decide) rfl (dn hK8 U (AJ fun K9 hK9=>sr U fun K10 hK10=>zm tb 2 U (zl tb U U (zq tb U (dn hK10 U (bs h0 fun o15 h1 h0=>?_)))))))))
   have M15 :∀(f14:Int),o15=f14→∀s,Wk 0 s ⟨35,Ab [(5,(.ptr 0 0 0 0))],[(DN f14)]⟩→K9 s:=by
    intro f14 hq s hw
    subst o15
    try dsimp only at h0
    refine hK9 _ (AS hw (zr tb U U ?_))
    replace h0:=Sh.AE h0
    subst r
    exact AZ (xr (Ax [(4,(i64 f14))] U))
   refine Ae (A5 (σ:=Int×Int×Int) (fun n v=>Cs N p0 n v.1 v.2.1 v.2.2=some o15) (fun (t11,f12,f13)=>⟨35,Ab [(3,(.ptr 0 0 0 0)),(5,(.ptr 1 0 0 0)),(23,(ls AH p0.funcs)),(24,(i64 (Sh.len p0.funcs))),(25,(i64 t11))],[(DN f12),(DN f13)]⟩) N (0,p1,0) h1 (AT (L:=[(3,(.ptr 0 0 0 0)),(5,(.ptr 1 0 0 0)),(23,(ls AH p0.funcs)),(24,(i64 (Sh.len p0.funcs))),(25,(i64 0))]) (st':=[(DN p1),⟨0,3,1,[[(i64 0)]]⟩]) [1,2] U (by decide) rfl U (.raw U U (.raw U U .nil)) ⟨.rfl,.rfl,.rfl,.rfl,.rfl,trivial⟩) (fun _ hv=>by rw[Cs] at hv;cases hv) ?_)
   rintro n ⟨t11,f12,f13⟩ h1
   try dsimp only at h1 ⊢
   rw[Cs] at h1
   refine zr tb U U (AJ fun K18 hK18=>?_)
   refine ci h1 U ?_ ?_ <;> clear h1
   ·intro b19 h1
    refine AU (hK18 _ (AJ fun K20 hK20=>Ae (sr U fun K21 hK21=>bs h1 fun c22 gc22 h1=>zx C3 gc22 U U U (zq tb U (A0 (m:=2) AK Jq U U (Az AK IE U U U U U U (show 0+5≤5 by decide) rfl (dn hK21 U (AN U (zm tb 2 U ?_)))))))))
    refine zz (.fn 28 [(.ptr 0 0 0 0),(.ptr 1 0 0 0)]) (VP U) rfl (bs h1 fun q23 gq23 h1=>?_)
    refine A4 (rowsP:=[(DN f12),(DN f13)]) (rows0:=[(DN f12),(DN f13)]) (rows1:=[(DN q23.1),(DN q23.2)]) (rows2:=[]) (rows1':=[(DN q23.1),(DN q23.2)]) (rows2':=[]) (st':=[(DN q23.1),(DN q23.2),⟨0,52,5,[[(ls eI c22.params),(i64 c22.result),(i64 c22.body.op),(i64 c22.body.num),(ls AA c22.body.kids)]]⟩]) (v':=(.CA [])) [0,1] AK UJ (Qt gq23) rfl (by decide) rfl U (.raw U U (.raw U U .nil)) rfl U (.raw U U (.raw U U .nil)) .nil U U ?_
    refine dn hK20 U (AN U (zm tb 2 U ?_))
    exact AB (xi (Sh.w (t11+1),q23.1,q23.2) h1 (AT (L:=[(3,(.ptr 0 0 0 0)),(5,(.ptr 1 0 0 0)),(23,(ls AH p0.funcs)),(24,(i64 (Sh.len p0.funcs))),(25,(i64 (Sh.w (t11+1))))]) (st':=[(DN q23.1),(DN q23.2)]) [0,1] U (by decide) rfl U (.raw U U (.raw U U .nil)) ⟨.rfl,.rfl,.rfl,.rfl,.rfl,trivial⟩))
   ·intro b19 h1
    exact BE (M15 f13 (Sh.AE h1).symm _ (AT (L:=[(5,(.ptr 0 0 0 0))]) (st':=[(DN f13)]) [1] U (by decide) rfl U (.raw U U .nil) ⟨.rfl,trivial⟩))
 refine AN U (zq tb U (bs h1 fun q24 gq24 h1=>zc XH (Hs gq24) rfl U U (zm tb 2 U ?_)))
 rcases Sh.An h1 with ⟨b25,h1⟩ | ⟨b25,h1⟩
 ·refine zs b25 U (zs b25 U (zt b25 U (zq tb U ?_)))
  iterate 5 refine zs rfl rfl ?_
  exact zt U U (AB (M5 true (Sh.AE h1).symm _ (AG U)))
 ·refine zg tb b25 U (zg tb b25 U (zf b25 U (zq tb U ?_)))
  rcases Sh.An h1 with ⟨b26,h1⟩ | ⟨b26,h1⟩
  ·refine zs b26 U ?_
   iterate 4 refine zs b26 rfl ?_
   exact zt b26 U (AB (M5 true (Sh.AE h1).symm _ (AG U)))
  ·exact zg tb b26 U (zg tb b26 U (zg tb b26 U (B3 (v:=(i64 (Sh.len p0.funcs))) (B0 U U b26) rfl (B9 Oi U) (zg tb b26 U (zf b26 U (AB (M5 (decide ((Sh.len p0.funcs)≤p1)) (Sh.AE h1).symm _ (AG U))))))))
theorem JV {N:Nat} {p0:(List Ac)} {p1:(List Int)} {r:Bool} (h0:Fe N p0 p1=some r):Aj Try.prog 67 [(ls AI p0),(ls eI p1)] [] (fun v st=>v=(.bool r)∧st=[]):=by
 unfold Fe at h0
 refine ai Try.func67 U U U U (zr tb U U (AJ fun K2 hK2=>zr tb U U ?_))
 obtain⟨o5,h1,h0⟩:=Sh.Bh h0
 have M5 :∀(_:Unit),o5=Sum.inr ()→∀s,Wk 0 s ⟨20,Ab [],[]⟩→K2 s:=by
  intro _ hq s hw
  subst o5
  try dsimp only at h0
  refine hK2 _ (AS hw (zr tb U U ?_))
  replace h0:=Sh.AE h0
  subst r
  exact AZ (xr (Ah (L:=[(4,(.bool true))]) ⟨.rfl,trivial⟩))
 refine Ae (A5 (σ:=Int) (fun n v=>Dg p0 p1 n v=some o5) (fun i4=>⟨20,Ab [(0,(ls AI p0)),(1,(ls eI p1)),(5,(i64 i4))],[]⟩) N 0 h1 (AG U) (fun _ hv=>by rw[Dg] at hv;cases hv) ?_)
 rintro n i4 h1
 try dsimp only at h1 ⊢
 rw[Dg] at h1
 refine AJ fun K7 hK7=>sr U fun K8 hK8=>zm tb 2 U (zl tb U U (zq tb U (dn hK8 U ?_)))
 refine ci h1 U ?_ ?_ <;> clear h1
 ·intro b9 h1
  refine AU (hK7 _ (AJ fun K10 hK10=>Ae (sr U fun K11 hK11=>zm tb 2 U (bs h1 fun c12 gc12 h1=>zx BF gc12 U U U (zm tb 2 U (zl tb U U (bs h1 fun q13 gq13 h1=>zc Kk (CN gq13) rfl U U (zq tb U ?_))))))))
  refine dn hK11 U ?_
  refine ci h1 U ?_ ?_ <;> clear h1
  ·intro b14 h1
   have b15:q13=false:=by simpa using b14
   refine zr tb U U ?_
   replace h1:=Sh.AE h1
   subst o5
   try dsimp only[id] at h0
   replace h0:=Sh.AE h0
   subst r
   exact AZ (xr (Ah (L:=[(4,(.bool false))]) ⟨.rfl,trivial⟩))
  ·intro b14 h1
   have b17:q13=true:=by simpa using b14
   exact AU (hK10 _ (AN U (zm tb 3 U (AB (xi (Sh.w (i4+1)) h1 (AG U))))))
 ·intro b9 h1
  exact BE (M5 () (Sh.AE h1).symm _ (AG U))
end Go.Proofs.Ytpahalfiiahddaa

