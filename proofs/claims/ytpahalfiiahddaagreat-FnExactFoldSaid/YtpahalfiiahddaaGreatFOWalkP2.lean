import Derived.Test.YtpahalfiiahddaaGreatProg
import Derived.Test.YtpahalfiiahddaaGreatGAbsXToSSDefs
import Derived.Test.YtpahalfiiahddaaGreatGHADefsToFODefs
import Derived.Test.YtpahalfiiahddaaGreatCFWalk
import Derived.Test.YtpahalfiiahddaaGreatLAWalk
import Derived.Test.YtpahalfiiahddaaGreatFOWalkP1
namespace Go.Proofs.YtpahalfiiahddaaGreat
open Go Go.Abs RC
attribute [local irreducible] Go.Abs.C3
set_option maxRecDepth 100000
set_option maxHeartbeats 4000000

theorem Zv:Ao Tryz.prog 100=true:=by kernel_rfl
theorem MB:Ao Tryz.prog 102=true:=by kernel_rfl
theorem Zc:Ao Tryz.prog 105=true:=by kernel_rfl
theorem Zt:Ao Tryz.prog 127=true:=by kernel_rfl
theorem dI:Ao Tryz.prog 128=true:=by kernel_rfl
theorem aC:Ao Tryz.prog 138=true:=by kernel_rfl
theorem VV:Ao Tryz.prog 139=true:=by kernel_rfl
theorem dL:Ao Tryz.prog 140=true:=by kernel_rfl
theorem cY:Ao Tryz.prog 53=true:=by kernel_rfl
theorem fS:Ao Tryz.prog 54=true:=by kernel_rfl
theorem cD:Ao Tryz.prog 57=true:=by kernel_rfl
theorem Zg:Ao Tryz.prog 70=true:=by kernel_rfl

theorem JC {N:Nat} {p0:A6} {p1:Int} {p2:Int} {p3:(List Int)} {r:Int×Bool} (h0:A2 N p0 p1 p2 p3=some r):Ag Tryz.prog 128 [(.agg (Gv p0)),(i64 p1),(i64 p2),(ls eI p3)] [] (fun v st=>v=(.DT [(i64 r.1),(.bool r.2)])∧st=[]):=by
 unfold A2 at h0
 refine ai Tryz.func128 U U U U (sr U fun K1 hK1=>BH (m:=0) Ah U U U U U (zm tb 2 U (dn hK1 U (zr tb U U (AF fun K3 hK3=>?_)))))
 obtain⟨o5,h1,h0⟩:=Sh.BF h0
 have M5 :∀(l4:(List Int)),o5=Sum.inr l4→∀s,Wk 0 s ⟨149,AP [(2,(i64 p2)),(3,(ls eI p3)),(10,(ow 0 0 l4)),(11,(i64 0))],[(BL l4)]⟩→K3 s:=by
  intro l4 hq s hw
  subst o5
  try dsimp only at h0
  refine hK3 _ (AR hw (AF fun K6 hK6=>bs h0 fun o8 h1 h0=>?_))
  have M8 :∀(t7:Bool),o8=t7→∀s,Wk 0 s ⟨149,AP [(8,(i64 0)),(9,(.bool t7))],[]⟩→K6 s:=by
   intro t7 hq s hw
   subst o8
   try dsimp only at h0
   refine hK6 _ (AR hw ?_)
   replace h0:=Sh.AB h0
   subst r
   exact AJ (xr (AT (L:=[(8,(i64 0)),(9,(.bool t7))]) (.same U)))
  refine AK U (zm tb 4 U ?_)
  rcases Sh.Au h1 with ⟨b9,h1⟩ | ⟨b9,h1⟩
  ·exact zg tb b9 U (zg tb b9 U (Ak (Wk.Er (L:=[(141,(i64 0)),(144,(.bool (decide (p2=0)))),(145,(ls eI p3)),(146,(ls eI l4))]) (st':=Vs) (id:=0) rfl (show 0≤0 by decide) (AN fun _=>U) ⟨.rfl,.rfl,.rfl,(.Er U),trivial⟩ U) (bs h1 fun q10 gq10 h1=>zd b9 VV (Ez gq10) rfl U U U (zt b9 U (zm tb 2 U (AA (M8 q10 (Sh.AB h1).symm _ (An _ U))))))))
  ·exact zs b9 U (zs b9 U (zs b9 U (zf b9 U (zm tb 2 U (AA (M8 false (Sh.AB h1).symm _ (An _ U)))))))
 refine zr tb U U (AU (zr tb U U ?_))
 refine ci h1 U ?_ ?_ <;> clear h1
 ·intro b13 h1
  refine AF fun K14 hK14=>bs h1 fun o16 h2 h1=>?_
  have M16 :∀(t15:Bool),o16=t15→∀s,Wk 0 s ⟨149,AP [(8,(i64 0)),(9,(.bool t15))],[]⟩→K14 s:=by
   intro t15 hq s hw
   subst o16
   try dsimp only at h1
   refine hK14 _ (AR hw ?_)
   replace h1:=Sh.AB h1
   subst o5
   try dsimp only[id] at h0
   replace h0:=Sh.AB h0
   subst r
   exact AJ (xr (AT (L:=[(8,(i64 0)),(9,(.bool t15))]) (.same U)))
  refine AK U (zm tb 3 U ?_)
  rcases Sh.Au h2 with ⟨b17,h2⟩ | ⟨b17,h2⟩
  ·refine zg tb b17 U (zg tb b17 U (zt b17 U (zq tb U ?_)))
   rcases Sh.Au h2 with ⟨b18,h2⟩ | ⟨b18,h2⟩
   ·exact zg tb b18 U (BP (v:=(Bp p3)) (DF U U b18) rfl (Cq Ff U) (zg tb b18 U (zt b18 U (zm tb 2 U (AA (M16 (decide ((Sh.len p3)=0)) (Sh.AB h2).symm _ (An _ U)))))))
   ·exact zs b18 U (zs b18 U (zs b18 U (zf b18 U (zm tb 2 U (AA (M16 false (Sh.AB h2).symm _ (An _ U)))))))
  ·refine zs b17 U (zs b17 U (zf b17 U (zq tb U ?_)))
   iterate 3 refine zs rfl rfl ?_
   exact zf U U (zm tb 2 U (AA (M16 false (Sh.AB h2).symm _ (An _ U))))
 ·intro b13 h1
  refine AF fun K19 hK19=>bs h1 fun o21 h2 h1=>?_
  have M21 :∀(t20:Bool),o21=t20→∀s,Wk 0 s ⟨149,AP [(1,(i64 p1)),(2,(i64 p2)),(3,(ls eI p3)),(4,Ar),(11,(i64 0)),(18,(i64 p1)),(32,(.bool t20))],[(D9 p0)]⟩→K19 s:=by
   intro t20 hq s hw
   subst o21
   try dsimp only at h1
   refine hK19 _ (AR hw ?_)
   refine ci h1 U ?_ ?_ <;> clear h1
   ·intro b22 h1
    refine AK U ?_
    refine Cb (m:=1) (l:=[(0:Int),0]) (enc:=eI) Ah Bm (by decide) rfl U U U U U ?_
    refine zq tb U ?_
    exact AA (M5 [(0:Int),0] (Sh.AB h1).symm _ (Af [1] U (by decide) rfl U (.pure (AN fun _=>U) .nil) (.same U)))
   ·intro b22 h1
    refine zr tb U U ?_
    refine ci h1 U ?_ ?_ <;> clear h1
    ·intro b24 h1
     refine AK U ?_
     refine Cb (m:=1) (l:=[(0:Int)]) (enc:=eI) Ah Bm (by decide) rfl U U U U U ?_
     refine zq tb U ?_
     exact AA (M5 [(0:Int)] (Sh.AB h1).symm _ (Af [1] U (by decide) rfl U (.pure (AN fun _=>U) .nil) (.same U)))
    ·intro b24 h1
     refine zr tb U U ?_
     refine ci h1 U ?_ ?_ <;> clear h1
     ·intro b26 h1
      refine AF fun K27 hK27=>sr U fun K28 hK28=>zq tb U (zl tb U U (zq tb U (dn hK28 U ?_)))
      refine ci h1 U ?_ ?_ <;> clear h1
      ·intro b29 h1
       have b30:decide ((Sh.len p3)=2)=false:=by simpa using b29
       refine zr tb U U ?_
       replace h1:=Sh.AB h1
       subst o5
       try dsimp only[id] at h0
       replace h0:=Sh.AB h0
       subst r
       exact AJ (xr (An [(8,(i64 (-1))),(9,(.bool false))] U))
      ·intro b29 h1
       have b32:decide ((Sh.len p3)=2)=true:=by simpa using b29
       refine AI (hK27 _ (AF fun K33 hK33=>?_))
       refine HK (by kernel_rfl) ?_
       refine bs h1 fun c34 gc34 h1=>bs h1 fun q35 gq35 h1=>JP fun A36 hA36=>?_
       have A36_0123456789ab:A36 0 (bm 12 4095) ⟨149,AP [(2,(i64 p2)),(3,(ls eI p3)),(12,Ar),(13,(.bool q35.2))],(O7 q35.1)⟩:=(hA36 _ _ _).2 (by
        refine GZ U (by kernel_rfl) ?_
        refine hK33 _ (AF fun K37 hK37=>bs h1 fun o39 h2 h1=>?_)
        have M39 :∀(t38:Bool),o39=t38→∀s,Wk 0 s ⟨149,AP [(8,(i64 q35.1.to)),(9,(.bool t38))],[]⟩→K37 s:=by
         intro t38 hq s hw
         subst o39
         try dsimp only at h1
         refine hK37 _ (AR hw ?_)
         replace h1:=Sh.AB h1
         subst o5
         try dsimp only[id] at h0
         replace h0:=Sh.AB h0
         subst r
         exact AJ (xr (AT (L:=[(8,(i64 q35.1.to)),(9,(.bool t38))]) (.same U)))
        refine By (by kernel_rfl) (by kernel_rfl) (by rfl) ?_
        iterate 4 refine yq tb rfl ?_
        rcases Sh.Au h2 with ⟨b40,h2⟩ | ⟨b40,h2⟩
        ·refine yg tb b40 U (bs h2 fun c41 gc41 h2=>Jz (v:=(.Bu (eI c41) 0)) (DF U U b40) rfl (Ex Bm U U gc41 U) ?_)
         iterate 4 refine yg tb b40 rfl ?_
         refine yt b40 U (yq tb U ?_)
         rcases Sh.Au h2 with ⟨b42,h2⟩ | ⟨b42,h2⟩
         ·refine yg tb b42 U (yg tb b42 U (yt b42 U ?_))
          iterate 2 refine yq tb rfl ?_
          exact BR (M39 (decide (p2=0)) (Sh.AB h2).symm _ (An _ U))
         ·refine ys b42 U (ys b42 U (yf b42 U ?_))
          iterate 2 refine yq tb rfl ?_
          exact BR (M39 false (Sh.AB h2).symm _ (An _ U))
        ·refine ys b40 U ?_
         iterate 5 refine ys b40 rfl ?_
         refine yf b40 U (yq tb U ?_)
         iterate 2 refine ys rfl rfl ?_
         refine yf U U ?_
         iterate 2 refine yq tb rfl ?_
         exact BR (M39 false (Sh.AB h2).symm _ (by exact Af [] U (by decide) rfl U .nil (.same U))))
       have A36_0123456789a:A36 1 (bm 12 2047) ⟨149,AP [(2,(i64 p2)),(3,(ls eI p3)),(12,Ar),(54,(.bool q35.2))],(O7 q35.1)⟩:=(hA36 _ _ _).2 (by
        refine Bt 11 (v:=(.bool q35.2)) rfl U (by kernel_rfl) (by kernel_rfl) (by kernel_rfl) rfl (LQ U) ?_
        exact AE (by exact AD U) (AH (by kernel_rfl) ((hA36 _ _ _).1 A36_0123456789ab)) rfl)
       have A36_0123456789:A36 2 (bm 12 1023) ⟨149,AP [(2,(i64 p2)),(3,(ls eI p3)),(12,Ar),(53,(.agg (Ai q35.1))),(54,(.bool q35.2))],[PY]⟩:=(hA36 _ _ _).2 (by
        refine Ae [10] U (by kernel_rfl) (by decide) ⟨?_,trivial⟩
        ·refine Az.of (i:=10) rfl U (by rfl) ?_
         refine A1 Ah I4 U U U U U U (show 0+3≤3 by decide) rfl (AA ⟨U,?_⟩)
         exact AE (by exact AD U) (AH (by kernel_rfl) ((hA36 _ _ _).1 A36_0123456789a)) rfl)
       have A36_012345678:A36 3 (bm 12 511) ⟨149,AP [(2,(i64 p2)),(3,(ls eI p3)),(53,(.agg (Ai q35.1))),(54,(.bool q35.2))],[]⟩:=(hA36 _ _ _).2 (by
        refine Ae [9] U (by kernel_rfl) (by decide) ⟨?_,trivial⟩
        ·refine Az.of (i:=9) rfl U (by rfl) ?_
         refine A0 (m:=0) Ah GR U U (AA ⟨U,?_⟩)
         exact AE (by exact AD U) (AH (by kernel_rfl) ((hA36 _ _ _).1 A36_0123456789)) rfl)
       have A36_012345679a:A36 2 (bm 12 1791) ⟨149,AP [(2,(i64 p2)),(3,(ls eI p3)),(12,Ar),(46,(Pj q35.1 q35.2))],(O7 q35.1)⟩:=(hA36 _ _ _).2 (by
        refine Ae [8] U (by kernel_rfl) (by decide) ⟨?_,trivial⟩
        ·refine Az.of (i:=8) rfl U (by rfl) ?_
         refine zq tb U (AA ⟨U,?_⟩)
         exact AE (by exact AD U) (AH (by kernel_rfl) ((hA36 _ _ _).1 A36_0123456789a)) rfl)
       have A36_012345679:A36 3 (bm 12 767) ⟨149,AP [(2,(i64 p2)),(3,(ls eI p3)),(12,Ar),(46,(Pj q35.1 q35.2)),(53,(.agg (Ai q35.1)))],[PY]⟩:=(hA36 _ _ _).2 (by
        refine Ae [8,10] U (by kernel_rfl) (by decide) ⟨?_,?_,trivial⟩
        ·refine Az.of (i:=8) rfl U (by rfl) ?_
         refine zq tb U (AA ⟨U,?_⟩)
         exact AE (by exact AD U) (AH (by kernel_rfl) ((hA36 _ _ _).1 A36_0123456789)) rfl
        ·refine Az.of (i:=10) rfl U (by rfl) ?_
         refine A1 Ah I4 U U U U U U (show 0+3≤3 by decide) rfl (AA ⟨U,?_⟩)
         exact AE (by exact AD U) (AH (by kernel_rfl) ((hA36 _ _ _).1 A36_012345679a)) rfl)
       have A36_01234567:A36 4 (bm 12 255) ⟨149,AP [(2,(i64 p2)),(3,(ls eI p3)),(46,(Pj q35.1 q35.2)),(53,(.agg (Ai q35.1)))],[]⟩:=(hA36 _ _ _).2 (by
        refine Ae [8,9] U (by kernel_rfl) (by decide) ⟨?_,?_,trivial⟩
        ·refine Az.of (i:=8) rfl U (by rfl) ?_
         refine zq tb U (AA ⟨U,?_⟩)
         exact AE (by exact AD U) (AH (by kernel_rfl) ((hA36 _ _ _).1 A36_012345678)) rfl
        ·refine Az.of (i:=9) rfl U (by rfl) ?_
         refine A0 (m:=0) Ah GR U U (AA ⟨U,?_⟩)
         exact AE (by exact AD U) (AH (by kernel_rfl) ((hA36 _ _ _).1 A36_012345679)) rfl)
       have A36_012345689:A36 3 (bm 12 895) ⟨149,AP [(2,(i64 p2)),(3,(ls eI p3)),(12,Ar),(46,(Pj q35.1 q35.2)),(54,(.bool q35.2))],[PY]⟩:=(hA36 _ _ _).2 (by
        refine Ae [7] U (by kernel_rfl) (by decide) ⟨?_,trivial⟩
        ·refine Az.of (i:=7) rfl U (by rfl) ?_
         refine zq tb U (AA ⟨U,?_⟩)
         exact AE (by exact AD U) (AH (by kernel_rfl) ((hA36 _ _ _).1 A36_0123456789)) rfl)
       have A36_01234568:A36 4 (bm 12 383) ⟨149,AP [(2,(i64 p2)),(3,(ls eI p3)),(46,(Pj q35.1 q35.2)),(54,(.bool q35.2))],[]⟩:=(hA36 _ _ _).2 (by
        refine Ae [7,9] U (by kernel_rfl) (by decide) ⟨?_,?_,trivial⟩
        ·refine Az.of (i:=7) rfl U (by rfl) ?_
         refine zq tb U (AA ⟨U,?_⟩)
         exact AE (by exact AD U) (AH (by kernel_rfl) ((hA36 _ _ _).1 A36_012345678)) rfl
        ·refine Az.of (i:=9) rfl U (by rfl) ?_
         refine A0 (m:=0) Ah GR U U (AA ⟨U,?_⟩)
         exact AE (by exact AD U) (AH (by kernel_rfl) ((hA36 _ _ _).1 A36_012345689)) rfl)
       have A36_01234569:A36 4 (bm 12 639) ⟨149,AP [(2,(i64 p2)),(3,(ls eI p3)),(12,Ar),(46,(Pj q35.1 q35.2))],[PY]⟩:=(hA36 _ _ _).2 (by
        refine Ae [7,8] U (by kernel_rfl) (by decide) ⟨?_,?_,trivial⟩
        ·refine Az.of (i:=7) rfl U (by rfl) ?_
         refine zq tb U (AA ⟨U,?_⟩)
         exact AE (by exact AD U) (AH (by kernel_rfl) ((hA36 _ _ _).1 A36_012345679)) rfl
        ·refine Az.of (i:=8) rfl U (by rfl) ?_
         refine zq tb U (AA ⟨U,?_⟩)
         exact AE (by exact AD U) (AH (by kernel_rfl) ((hA36 _ _ _).1 A36_012345689)) rfl)
       have A36_0123456:A36 5 (bm 12 127) ⟨149,AP [(2,(i64 p2)),(3,(ls eI p3)),(46,(Pj q35.1 q35.2))],[]⟩:=(hA36 _ _ _).2 (by
        refine Ae [7,8,9] U (by kernel_rfl) (by decide) ⟨?_,?_,?_,trivial⟩
        ·refine Az.of (i:=7) rfl U (by rfl) ?_
         refine zq tb U (AA ⟨U,?_⟩)
         exact AE (by exact AD U) (AH (by kernel_rfl) ((hA36 _ _ _).1 A36_01234567)) rfl
        ·refine Az.of (i:=8) rfl U (by rfl) ?_
         refine zq tb U (AA ⟨U,?_⟩)
         exact AE (by exact AD U) (AH (by kernel_rfl) ((hA36 _ _ _).1 A36_01234568)) rfl
        ·refine Az.of (i:=9) rfl U (by rfl) ?_
         refine A0 (m:=0) Ah GR U U (AA ⟨U,?_⟩)
         exact AE (by exact AD U) (AH (by kernel_rfl) ((hA36 _ _ _).1 A36_01234569)) rfl)
       have A36_012345:A36 6 (bm 12 63) ⟨149,AP [(2,(i64 p2)),(3,(ls eI p3)),(52,(Pj q35.1 q35.2))],[]⟩:=(hA36 _ _ _).2 (by
        refine Bt 6 (v:=(Pj q35.1 q35.2)) rfl U (by kernel_rfl) (by kernel_rfl) (by kernel_rfl) rfl (CS U) ?_
        exact AE (by exact AD U) (AH (by kernel_rfl) ((hA36 _ _ _).1 A36_0123456)) rfl)
       have A36_0123459:A36 5 (bm 12 575) ⟨149,AP [(2,(i64 p2)),(3,(ls eI p3)),(12,Ar),(52,(Pj q35.1 q35.2))],[PY]⟩:=(hA36 _ _ _).2 (by
        refine Bt 6 (v:=(Pj q35.1 q35.2)) rfl U (by kernel_rfl) (by kernel_rfl) (by kernel_rfl) rfl (CS U) ?_
        exact AE (by exact AD U) (AH (by kernel_rfl) ((hA36 _ _ _).1 A36_01234569)) rfl)
       have A36_012349:A36 6 (bm 12 543) ⟨149,AP [(2,(i64 p2)),(3,(ls eI p3)),(12,Ar),(48,(ls Ai p0.decls)),(51,(i64 c34))],[PY]⟩:=(hA36 _ _ _).2 (by
        refine Ae [5] U (by kernel_rfl) (by decide) ⟨?_,trivial⟩
        ·refine Az.of (i:=5) rfl U (by rfl) ?_
         refine zc (v':=(Pj q35.1 q35.2)) aC (Lr gq35) rfl U U (AA ⟨U,?_⟩)
         exact AE (by exact AD U) (AH (by kernel_rfl) ((hA36 _ _ _).1 A36_0123459)) rfl)
       have A36_01234:A36 7 (bm 12 31) ⟨149,AP [(2,(i64 p2)),(3,(ls eI p3)),(48,(ls Ai p0.decls)),(51,(i64 c34))],[]⟩:=(hA36 _ _ _).2 (by
        refine Ae [5,9] U (by kernel_rfl) (by decide) ⟨?_,?_,trivial⟩
        ·refine Az.of (i:=5) rfl U (by rfl) ?_
         refine zc (v':=(Pj q35.1 q35.2)) aC (Lr gq35) rfl U U (AA ⟨U,?_⟩)
         exact AE (by exact AD U) (AH (by kernel_rfl) ((hA36 _ _ _).1 A36_012345)) rfl
        ·refine Az.of (i:=9) rfl U (by rfl) ?_
         refine A0 (m:=0) Ah GR U U (AA ⟨U,?_⟩)
         exact AE (by exact AD U) (AH (by kernel_rfl) ((hA36 _ _ _).1 A36_012349)) rfl)
       have A36_01239:A36 7 (bm 12 527) ⟨149,AP [(2,(i64 p2)),(3,(ls eI p3)),(12,Ar),(48,(ls Ai p0.decls)),(50,(.Bu (eI c34) 0))],[PY]⟩:=(hA36 _ _ _).2 (by
        refine Ae [4] U (by kernel_rfl) (by decide) ⟨?_,trivial⟩
        ·refine Az.of (i:=4) rfl U (by rfl) ?_
         refine zq tb U (AA ⟨U,?_⟩)
         exact AE (by exact AD U) (AH (by kernel_rfl) ((hA36 _ _ _).1 A36_012349)) rfl)
       have A36_0123:A36 8 (bm 12 15) ⟨149,AP [(2,(i64 p2)),(3,(ls eI p3)),(48,(ls Ai p0.decls)),(50,(.Bu (eI c34) 0))],[]⟩:=(hA36 _ _ _).2 (by
        refine Ae [4,9] U (by kernel_rfl) (by decide) ⟨?_,?_,trivial⟩
        ·refine Az.of (i:=4) rfl U (by rfl) ?_
         refine zq tb U (AA ⟨U,?_⟩)
         exact AE (by exact AD U) (AH (by kernel_rfl) ((hA36 _ _ _).1 A36_01234)) rfl
        ·refine Az.of (i:=9) rfl U (by rfl) ?_
         refine A0 (m:=0) Ah GR U U (AA ⟨U,?_⟩)
         exact AE (by exact AD U) (AH (by kernel_rfl) ((hA36 _ _ _).1 A36_01239)) rfl)
       have A36_0129:A36 8 (bm 12 519) ⟨149,AP [(2,(i64 p2)),(3,(ls eI p3)),(12,Ar),(48,(ls Ai p0.decls)),(49,(ls eI p3))],[PY]⟩:=(hA36 _ _ _).2 (by
        refine Ae [3] U (by kernel_rfl) (by decide) ⟨?_,trivial⟩
        ·refine Az.of (i:=3) rfl U (by rfl) ?_
         refine zx Bm gc34 U U U (AA ⟨U,?_⟩)
         exact AE (by exact AD U) (AH (by kernel_rfl) ((hA36 _ _ _).1 A36_01239)) rfl)
       have A36_012:A36 9 (bm 12 7) ⟨149,AP [(2,(i64 p2)),(3,(ls eI p3)),(48,(ls Ai p0.decls)),(49,(ls eI p3))],[]⟩:=(hA36 _ _ _).2 (by
        refine Ae [3,9] U (by kernel_rfl) (by decide) ⟨?_,?_,trivial⟩
        ·refine Az.of (i:=3) rfl U (by rfl) ?_
         refine zx Bm gc34 U U U (AA ⟨U,?_⟩)
         exact AE (by exact AD U) (AH (by kernel_rfl) ((hA36 _ _ _).1 A36_0123)) rfl
        ·refine Az.of (i:=9) rfl U (by rfl) ?_
         refine A0 (m:=0) Ah GR U U (AA ⟨U,?_⟩)
         exact AE (by exact AD U) (AH (by kernel_rfl) ((hA36 _ _ _).1 A36_0129)) rfl)
       have A36_02349:A36 7 (bm 12 541) ⟨149,AP [(2,(i64 p2)),(3,(ls eI p3)),(12,Ar),(47,Ay),(51,(i64 c34))],[PY,(D9 p0)]⟩:=(hA36 _ _ _).2 (by
        refine Ae [1] U (by kernel_rfl) (by decide) ⟨?_,trivial⟩
        ·refine Az.of (i:=1) rfl U (by rfl) ?_
         refine zq tb U (AA ⟨U,?_⟩)
         exact AE (by exact Af [0] U (by decide) rfl U (.raw U U .nil) (.same U)) (AH (by kernel_rfl) ((hA36 _ _ _).1 A36_012349)) rfl)
       have A36_0234:A36 8 (bm 12 29) ⟨149,AP [(2,(i64 p2)),(3,(ls eI p3)),(47,Ar),(51,(i64 c34))],[(D9 p0)]⟩:=(hA36 _ _ _).2 (by
        refine Ae [1,9] U (by kernel_rfl) (by decide) ⟨?_,?_,trivial⟩
        ·refine Az.of (i:=1) rfl U (by rfl) ?_
         refine zq tb U (AA ⟨U,?_⟩)
         exact AE (by exact Af [] U (by decide) rfl U .nil (.same U)) (AH (by kernel_rfl) ((hA36 _ _ _).1 A36_01234)) rfl
        ·refine Az.of (i:=9) rfl U (by rfl) ?_
         refine A0 (m:=1) Ah GR U U (AA ⟨U,?_⟩)
         exact AE (by exact Af [1,0] U (by decide) rfl U (.raw U U (.raw U U .nil)) (.same U)) (AH (by kernel_rfl) ((hA36 _ _ _).1 A36_02349)) rfl)
       have A36_0239:A36 8 (bm 12 525) ⟨149,AP [(2,(i64 p2)),(3,(ls eI p3)),(12,Ar),(47,Ay),(50,(.Bu (eI c34) 0))],[PY,(D9 p0)]⟩:=(hA36 _ _ _).2 (by
        refine Ae [1,4] U (by kernel_rfl) (by decide) ⟨?_,?_,trivial⟩
        ·refine Az.of (i:=1) rfl U (by rfl) ?_
         refine zq tb U (AA ⟨U,?_⟩)
         exact AE (by exact Af [0] U (by decide) rfl U (.raw U U .nil) (.same U)) (AH (by kernel_rfl) ((hA36 _ _ _).1 A36_01239)) rfl
        ·refine Az.of (i:=4) rfl U (by rfl) ?_
         refine zq tb U (AA ⟨U,?_⟩)
         exact AE (by exact AD U) (AH (by kernel_rfl) ((hA36 _ _ _).1 A36_02349)) rfl)
       have A36_023:A36 9 (bm 12 13) ⟨149,AP [(2,(i64 p2)),(3,(ls eI p3)),(47,Ar),(50,(.Bu (eI c34) 0))],[(D9 p0)]⟩:=(hA36 _ _ _).2 (by
        refine Ae [1,4,9] U (by kernel_rfl) (by decide) ⟨?_,?_,?_,trivial⟩
        ·refine Az.of (i:=1) rfl U (by rfl) ?_
         refine zq tb U (AA ⟨U,?_⟩)
         exact AE (by exact Af [] U (by decide) rfl U .nil (.same U)) (AH (by kernel_rfl) ((hA36 _ _ _).1 A36_0123)) rfl
        ·refine Az.of (i:=4) rfl U (by rfl) ?_
         refine zq tb U (AA ⟨U,?_⟩)
         exact AE (by exact AD U) (AH (by kernel_rfl) ((hA36 _ _ _).1 A36_0234)) rfl
        ·refine Az.of (i:=9) rfl U (by rfl) ?_
         refine A0 (m:=1) Ah GR U U (AA ⟨U,?_⟩)
         exact AE (by exact Af [1,0] U (by decide) rfl U (.raw U U (.raw U U .nil)) (.same U)) (AH (by kernel_rfl) ((hA36 _ _ _).1 A36_0239)) rfl)
       have A36_029:A36 9 (bm 12 517) ⟨149,AP [(2,(i64 p2)),(3,(ls eI p3)),(12,Ar),(47,Ay),(49,(ls eI p3))],[PY,(D9 p0)]⟩:=(hA36 _ _ _).2 (by
        refine Ae [1,3] U (by kernel_rfl) (by decide) ⟨?_,?_,trivial⟩
        ·refine Az.of (i:=1) rfl U (by rfl) ?_
         refine zq tb U (AA ⟨U,?_⟩)
         exact AE (by exact Af [0] U (by decide) rfl U (.raw U U .nil) (.same U)) (AH (by kernel_rfl) ((hA36 _ _ _).1 A36_0129)) rfl
        ·refine Az.of (i:=3) rfl U (by rfl) ?_
         refine zx Bm gc34 U U U (AA ⟨U,?_⟩)
         exact AE (by exact AD U) (AH (by kernel_rfl) ((hA36 _ _ _).1 A36_0239)) rfl)
       have A36_02:A36 10 (bm 12 5) ⟨149,AP [(2,(i64 p2)),(3,(ls eI p3)),(47,Ar),(49,(ls eI p3))],[(D9 p0)]⟩:=(hA36 _ _ _).2 (by
        refine Ae [1,3,9] U (by kernel_rfl) (by decide) ⟨?_,?_,?_,trivial⟩
        ·refine Az.of (i:=1) rfl U (by rfl) ?_
         refine zq tb U (AA ⟨U,?_⟩)
         exact AE (by exact Af [] U (by decide) rfl U .nil (.same U)) (AH (by kernel_rfl) ((hA36 _ _ _).1 A36_012)) rfl
        ·refine Az.of (i:=3) rfl U (by rfl) ?_
         refine zx Bm gc34 U U U (AA ⟨U,?_⟩)
         exact AE (by exact AD U) (AH (by kernel_rfl) ((hA36 _ _ _).1 A36_023)) rfl
        ·refine Az.of (i:=9) rfl U (by rfl) ?_
         refine A0 (m:=1) Ah GR U U (AA ⟨U,?_⟩)
         exact AE (by exact Af [1,0] U (by decide) rfl U (.raw U U (.raw U U .nil)) (.same U)) (AH (by kernel_rfl) ((hA36 _ _ _).1 A36_029)) rfl)
       have A36_2349:A36 8 (bm 12 540) ⟨149,AP [(2,(i64 p2)),(3,(ls eI p3)),(4,Ar),(12,Ay),(51,(i64 c34))],[(D9 p0),PY]⟩:=(hA36 _ _ _).2 (by
        refine Ae [0] U (by kernel_rfl) (by decide) ⟨?_,trivial⟩
        ·refine Az.of (i:=0) rfl U (by rfl) ?_
         refine zq tb U (AA ⟨U,?_⟩)
         exact AE (by exact Af [1,0] U (by decide) rfl U (.raw U U (.raw U U .nil)) (.same U)) (AH (by kernel_rfl) ((hA36 _ _ _).1 A36_02349)) rfl)
       have A36_234:A36 9 (bm 12 28) ⟨149,AP [(2,(i64 p2)),(3,(ls eI p3)),(4,Ar),(51,(i64 c34))],[(D9 p0)]⟩:=(hA36 _ _ _).2 (by
        refine Ae [0,9] U (by kernel_rfl) (by decide) ⟨?_,?_,trivial⟩
        ·refine Az.of (i:=0) rfl U (by rfl) ?_
         refine zq tb U (AA ⟨U,?_⟩)
         exact AE (by exact AD U) (AH (by kernel_rfl) ((hA36 _ _ _).1 A36_0234)) rfl
        ·refine Az.of (i:=9) rfl U (by rfl) ?_
         refine A0 (m:=1) Ah GR U U (AA ⟨U,?_⟩)
         exact AE (by exact AD U) (AH (by kernel_rfl) ((hA36 _ _ _).1 A36_2349)) rfl)
       have A36_239:A36 9 (bm 12 524) ⟨149,AP [(2,(i64 p2)),(3,(ls eI p3)),(4,Ar),(12,Ay),(50,(.Bu (eI c34) 0))],[(D9 p0),PY]⟩:=(hA36 _ _ _).2 (by
        refine Ae [0,4] U (by kernel_rfl) (by decide) ⟨?_,?_,trivial⟩
        ·refine Az.of (i:=0) rfl U (by rfl) ?_
         refine zq tb U (AA ⟨U,?_⟩)
         exact AE (by exact Af [1,0] U (by decide) rfl U (.raw U U (.raw U U .nil)) (.same U)) (AH (by kernel_rfl) ((hA36 _ _ _).1 A36_0239)) rfl
        ·refine Az.of (i:=4) rfl U (by rfl) ?_
         refine zq tb U (AA ⟨U,?_⟩)
         exact AE (by exact AD U) (AH (by kernel_rfl) ((hA36 _ _ _).1 A36_2349)) rfl)
       have A36_23:A36 10 (bm 12 12) ⟨149,AP [(2,(i64 p2)),(3,(ls eI p3)),(4,Ar),(50,(.Bu (eI c34) 0))],[(D9 p0)]⟩:=(hA36 _ _ _).2 (by
        refine Ae [0,4,9] U (by kernel_rfl) (by decide) ⟨?_,?_,?_,trivial⟩
        ·refine Az.of (i:=0) rfl U (by rfl) ?_
         refine zq tb U (AA ⟨U,?_⟩)
         exact AE (by exact AD U) (AH (by kernel_rfl) ((hA36 _ _ _).1 A36_023)) rfl
        ·refine Az.of (i:=4) rfl U (by rfl) ?_
         refine zq tb U (AA ⟨U,?_⟩)
         exact AE (by exact AD U) (AH (by kernel_rfl) ((hA36 _ _ _).1 A36_234)) rfl
        ·refine Az.of (i:=9) rfl U (by rfl) ?_
         refine A0 (m:=1) Ah GR U U (AA ⟨U,?_⟩)
         exact AE (by exact AD U) (AH (by kernel_rfl) ((hA36 _ _ _).1 A36_239)) rfl)
       have A36_29:A36 10 (bm 12 516) ⟨149,AP [(2,(i64 p2)),(3,(ls eI p3)),(4,Ar),(12,Ay),(49,(ls eI p3))],[(D9 p0),PY]⟩:=(hA36 _ _ _).2 (by
        refine Ae [0,3] U (by kernel_rfl) (by decide) ⟨?_,?_,trivial⟩
        ·refine Az.of (i:=0) rfl U (by rfl) ?_
         refine zq tb U (AA ⟨U,?_⟩)
         exact AE (by exact Af [1,0] U (by decide) rfl U (.raw U U (.raw U U .nil)) (.same U)) (AH (by kernel_rfl) ((hA36 _ _ _).1 A36_029)) rfl
        ·refine Az.of (i:=3) rfl U (by rfl) ?_
         refine zx Bm gc34 U U U (AA ⟨U,?_⟩)
         exact AE (by exact AD U) (AH (by kernel_rfl) ((hA36 _ _ _).1 A36_239)) rfl)
       have A36_2:A36 11 (bm 12 4) ⟨149,AP [(2,(i64 p2)),(3,(ls eI p3)),(4,Ar),(49,(ls eI p3))],[(D9 p0)]⟩:=(hA36 _ _ _).2 (by
        refine Ae [0,3,9] U (by kernel_rfl) (by decide) ⟨?_,?_,?_,trivial⟩
        ·refine Az.of (i:=0) rfl U (by rfl) ?_
         refine zq tb U (AA ⟨U,?_⟩)
         exact AE (by exact AD U) (AH (by kernel_rfl) ((hA36 _ _ _).1 A36_02)) rfl
        ·refine Az.of (i:=3) rfl U (by rfl) ?_
         refine zx Bm gc34 U U U (AA ⟨U,?_⟩)
         exact AE (by exact AD U) (AH (by kernel_rfl) ((hA36 _ _ _).1 A36_23)) rfl
        ·refine Az.of (i:=9) rfl U (by rfl) ?_
         refine A0 (m:=1) Ah GR U U (AA ⟨U,?_⟩)
         exact AE (by exact AD U) (AH (by kernel_rfl) ((hA36 _ _ _).1 A36_29)) rfl)
       have A36_e:A36 12 (bm 12 0) ⟨149,AP [(2,(i64 p2)),(3,(ls eI p3)),(4,Ar)],[(D9 p0)]⟩:=(hA36 _ _ _).2 (by
        refine Bt 2 (v:=(ls eI p3)) rfl U (by kernel_rfl) (by kernel_rfl) (by kernel_rfl) rfl (CS U) ?_
        exact AE (by exact AD U) (AH (by kernel_rfl) ((hA36 _ _ _).1 A36_2)) rfl)
       refine (hA36 _ _ _).2 ?_
       exact AE (by exact AD U) (AH (by kernel_rfl) ((hA36 _ _ _).1 A36_e)) rfl
     ·intro b26 h1
      refine zr tb U U ?_
      refine ci h1 U ?_ ?_ <;> clear h1
      ·intro b38 h1
       refine sr U fun K39 hK39=>zm tb 3 U (bs h1 fun q40 gq40 h1=>zc (v':=(.DT [(i64 q40.1),(.agg (BZ q40.2))])) Z8 (NL gq40) rfl U U (zm tb 3 U (A0 (m:=1) Ah LK U U (zq tb U (A1 Ah JI U U U U U U (show 0+1≤1 by decide) rfl (dn hK39 U (AF fun K41 hK41=>bs h1 fun o43 h2 h1=>?_)))))))
       have M43 :∀(t42:Bool),o43=t42→∀s,Wk 0 s ⟨149,AP [(8,(i64 q40.1)),(9,(.bool t42))],[]⟩→K41 s:=by
        intro t42 hq s hw
        subst o43
        try dsimp only at h1
        refine hK41 _ (AR hw ?_)
        replace h1:=Sh.AB h1
        subst o5
        try dsimp only[id] at h0
        replace h0:=Sh.AB h0
        subst r
        exact AJ (xr (AT (L:=[(8,(i64 q40.1)),(9,(.bool t42))]) (.same U)))
       refine AK U (zm tb 4 U ?_)
       rcases Sh.Au h2 with ⟨b44,h2⟩ | ⟨b44,h2⟩
       ·exact zg tb b44 U (zg tb b44 U (zg tb b44 U (bs h2 fun q45 gq45 h2=>zd b44 VV (Ez gq45) rfl U U U (zt b44 U (zm tb 2 U (AA (M43 q45 (Sh.AB h2).symm _ (An _ U))))))))
       ·refine zs b44 U ?_
        iterate 3 refine zs b44 rfl ?_
        exact zf b44 U (zm tb 2 U (AA (M43 false (Sh.AB h2).symm _ (An _ U))))
      ·intro b38 h1
       refine AF fun K46 hK46=>bs h1 fun o48 h2 h1=>?_
       have M48 :∀(t47:Bool),o48=t47→∀s,Wk 0 s ⟨149,AP [(1,(i64 p1)),(2,(i64 p2)),(3,(ls eI p3)),(4,Ar),(88,(.bool t47))],[(D9 p0)]⟩→K46 s:=by
        intro t47 hq s hw
        subst o48
        try dsimp only at h1
        refine hK46 _ (AR hw ?_)
        refine ci h1 U ?_ ?_ <;> clear h1
        ·intro b49 h1
         refine AF fun K50 hK50=>AF fun K51 hK51=>bs h1 fun o53 h2 h1=>?_
         have M53 :∀(t52:Bool),o53=t52→∀s,Wk 0 s ⟨149,AP [(1,(i64 p1)),(2,(i64 p2)),(3,(ls eI p3)),(4,Ar),(99,(.bool t52))],[(D9 p0)]⟩→K51 s:=by
          intro t52 hq s hw
          subst o53
          try dsimp only at h1
          refine hK51 _ (AR hw ?_)
          refine ci h1 U ?_ ?_ <;> clear h1
          ·intro b54 h1
           refine zr tb U U ?_
           replace h1:=Sh.AB h1
           subst o5
           try dsimp only[id] at h0
           replace h0:=Sh.AB h0
           subst r
           exact AJ (xr (An [(8,(i64 (-1))),(9,(.bool false))] U))
          ·intro b54 h1
           refine AI (hK50 _ (AF fun K56 hK56=>?_))
           refine By (by kernel_rfl) (by kernel_rfl) (by rfl) ?_
           iterate 3 refine yq tb rfl ?_
           refine bs h1 fun c57 gc57 h1=>yx LL gc57 U U U ?_
           iterate 5 refine yq tb rfl ?_
           refine yx LL gc57 U U U ?_
           iterate 4 refine yq tb rfl ?_
           refine BR (hK56 _ (AF fun K58 hK58=>zr tb U U ?_))
           refine ci h1 U ?_ ?_ <;> clear h1
           ·intro b60 h1
            refine sr U fun K61 hK61=>zm tb 3 U (bs h1 fun q62 gq62 h1=>zc VV (Ez gq62) rfl U U (zm tb 2 U (dn hK61 U ?_)))
            replace h1:=Sh.AB h1
            subst o5
            try dsimp only[id] at h0
            replace h0:=Sh.AB h0
            subst r
            exact AJ (xr (An [(8,(i64 c57.result)),(9,(.bool q62))] U))
           ·intro b60 h1
            refine AI (hK58 _ (sr U fun K63 hK63=>zq tb U (zl tb U U (zm tb 2 U (dn hK63 U (AF fun K64 hK64=>zr tb U U ?_))))))
            refine ci h1 U ?_ ?_ <;> clear h1
            ·intro b66 h1
             refine zr tb U U ?_
             replace h1:=Sh.AB h1
             subst o5
             try dsimp only[id] at h0
             replace h0:=Sh.AB h0
             subst r
             exact AJ (xr (An [(8,(i64 (-1))),(9,(.bool false))] U))
            ·intro b66 h1
             refine AI (hK64 _ (AF fun K68 hK68=>?_))
             refine By (by kernel_rfl) (by kernel_rfl) (by rfl) ?_
             iterate 4 refine yq tb rfl ?_
             refine bs h1 fun c69 gc69 h1=>yx Bm gc69 U U U ?_
             iterate 2 refine yq tb rfl ?_
             refine bs h1 fun q70 gq70 h1=>Bk (v:=(i64 q70)) Ah dL (Qc gq70) rfl U U (yq tb U (BR (hK68 _ (AF fun K71 hK71=>bs h1 fun o73 h2 h1=>?_))))
             have M73 :∀(t72:Bool),o73=t72→∀s,Wk 0 s ⟨149,AP [(8,(i64 q70)),(9,(.bool t72))],[]⟩→K71 s:=by
              intro t72 hq s hw
              subst o73
              try dsimp only at h1
              refine hK71 _ (AR hw ?_)
              replace h1:=Sh.AB h1
              subst o5
              try dsimp only[id] at h0
              replace h0:=Sh.AB h0
              subst r
              exact AJ (xr (AT (L:=[(8,(i64 q70)),(9,(.bool t72))]) (.same U)))
             refine AK U (zm tb 4 U ?_)
             rcases Sh.Au h2 with ⟨b74,h2⟩ | ⟨b74,h2⟩
             ·exact zg tb b74 U (zg tb b74 U (zg tb b74 U (bs h2 fun l75 gl75 h2=>VK (i:=0) (j:=Sh.w ((Sh.len c57.params) - 1)) (DF U U b74) Bm U U U (fun _=>U) gl75 (bs h2 fun q76 gq76 h2=>zd b74 VV (Ez gq76) rfl U U U (zt b74 U (zm tb 2 U (AA (M73 q76 (Sh.AB h2).symm _ (An _ U)))))))))
             ·refine zs b74 U ?_
              iterate 4 refine zs b74 rfl ?_
              exact zf b74 U (zm tb 2 U (AA (M73 false (Sh.AB h2).symm _ (An _ U))))
         refine AK U (zm tb 3 U ?_)
         rcases Sh.Au h2 with ⟨b77,h2⟩ | ⟨b77,h2⟩
         ·refine zs b77 U ?_
          iterate 4 refine zs b77 rfl ?_
          exact zt b77 U (AA (M53 true (Sh.AB h2).symm _ (AD U)))
         ·exact zg tb b77 U (zg tb b77 U (zg tb b77 U (BP (v:=(i64 (Sh.len p0.funcs))) (DF U U b77) rfl (Cq XS U) (zg tb b77 U (zf b77 U (AA (M53 (decide ((Sh.len p0.funcs)≤p2)) (Sh.AB h2).symm _ (AD U))))))))
        ·intro b49 h1
         refine zr tb U U ?_
         replace h1:=Sh.AB h1
         subst o5
         try dsimp only[id] at h0
         replace h0:=Sh.AB h0
         subst r
         exact AJ (xr (An [(8,(i64 (-1))),(9,(.bool false))] U))
       refine zr tb U U ?_
       refine ci h2 U ?_ ?_ <;> clear h2
       ·intro b80 h2
        exact AI (M48 true (Sh.AB h2).symm _ (AT (L:=[(1,(i64 p1)),(2,(i64 p2)),(3,(ls eI p3)),(4,Ar),(88,(.bool true))]) ⟨.rfl,.rfl,.rfl,.rfl,(.of (congrArg AV.bool b80)),trivial⟩))
       ·intro b80 h2
        exact AK U (zm tb 2 U (AA (M48 (decide (p1=10)) (Sh.AB h2).symm _ (AD U))))
  refine zr tb U U ?_
  refine ci h2 U ?_ ?_ <;> clear h2
  ·intro b82 h2
   exact AI (M21 true (Sh.AB h2).symm _ (AT (L:=[(1,(i64 p1)),(2,(i64 p2)),(3,(ls eI p3)),(4,Ar),(11,(i64 0)),(18,(i64 p1)),(32,(.bool true))]) ⟨.rfl,.rfl,.rfl,.rfl,.rfl,.rfl,(.of (congrArg AV.bool b82)),trivial⟩))
  ·intro b82 h2
   refine zr tb U U ?_
   refine ci h2 U ?_ ?_ <;> clear h2
   ·intro b84 h2
    exact AI (M21 true (Sh.AB h2).symm _ (AT (L:=[(1,(i64 p1)),(2,(i64 p2)),(3,(ls eI p3)),(4,Ar),(11,(i64 0)),(18,(i64 p1)),(32,(.bool true))]) ⟨.rfl,.rfl,.rfl,.rfl,.rfl,.rfl,(.of (congrArg AV.bool b84)),trivial⟩))
   ·intro b84 h2
    refine zr tb U U ?_
    refine ci h2 U ?_ ?_ <;> clear h2
    ·intro b86 h2
     exact AI (M21 true (Sh.AB h2).symm _ (AT (L:=[(1,(i64 p1)),(2,(i64 p2)),(3,(ls eI p3)),(4,Ar),(11,(i64 0)),(18,(i64 p1)),(32,(.bool true))]) ⟨.rfl,.rfl,.rfl,.rfl,.rfl,.rfl,(.of (congrArg AV.bool b86)),trivial⟩))
    ·intro b86 h2
     exact AK U (zm tb 2 U (AA (M21 (decide (p1=4)) (Sh.AB h2).symm _ (AD U))))
theorem Jo {N:Nat} {rec_impl_signatures_typeOf:(List Int)→A6→AG→Option (Int)} (hrec_impl_signatures_typeOf :∀{s0:(List Int)} {p0:A6} {p2:AG} {r:Int},rec_impl_signatures_typeOf s0 p0 p2=some r→Ag Tryz.prog 101 [(Fg p0),(ow 0 0 s0),(B5 p2)] [(BL s0)] (fun v st=>v=(i64 r)∧st=[(BL s0)])) {s0:(List Int)} {p0:A6} {p2:AG} {r:Int} (h0:Ap N rec_impl_signatures_typeOf s0 p0 p2=some r):Ag Tryz.prog 101 [(Fg p0),(ow 0 0 s0),(B5 p2)] [(BL s0)] (fun v st=>v=(i64 r)∧st=[(BL s0)]):=by
 unfold Ap at h0
 refine ai Tryz.func101 U U U U (sr U fun K1 hK1=>BH (m:=1) Ah U U U U U (BH (m:=2) Ah U U U U U (zq tb U (dn hK1 U (AF fun K2 hK2=>zr tb U U (AU (zr tb U U ?_)))))))
 refine ci h0 U ?_ ?_ <;> clear h0
 ·intro b5 h0
  refine AF fun K6 hK6=>AF fun K7 hK7=>bs h0 fun o9 h1 h0=>?_
  have M9 :∀(t8:Bool),o9=t8→∀s,Wk 1 s ⟨194,AP [(1,(ow 0 0 s0)),(5,Ay),(36,(.bool t8))],[(BL s0),(I3 p2.op p2.num p2.kids)]⟩→K7 s:=by
   intro t8 hq s hw
   subst o9
   try dsimp only at h0
   refine hK7 _ (AR hw ?_)
   refine ci h0 U ?_ ?_ <;> clear h0
   ·intro b10 h0
    refine zr tb U U ?_
    replace h0:=Sh.AB h0
    subst r
    exact AJ (xr (Af (L:=[(6,(i64 (-1)))]) (st':=[(BL s0)]) [0] U (by decide) rfl U (.pure (AN fun _=>U) .nil) ⟨.rfl,trivial⟩))
   ·intro b10 h0
    refine AI (hK6 _ (sr U fun K12 hK12=>zm tb 3 U (bs h0 fun c13 gc13 h0=>zz (.ptr 0 0 (Int.toNat p2.num) 0) (Bf Bm U U U U gc13) rfl (zz (i64 c13) (CP IJ U U (GH gc13) rfl) rfl (zq tb U (dn hK12 U ?_))))))
    replace h0:=Sh.AB h0
    subst r
    exact AJ (xr (Af (L:=[(6,(i64 c13))]) (st':=[(BL s0)]) [0] U (by decide) rfl U (.pure (AN fun _=>U) .nil) ⟨.rfl,trivial⟩))
  refine AK U (zm tb 2 U (zl tb U U (zm tb 2 U ?_)))
  rcases Sh.Au h1 with ⟨b14,h1⟩ | ⟨b14,h1⟩
  ·refine zs b14 U (zs b14 U (zs b14 U (zt b14 U (zq tb U ?_))))
   iterate 5 refine zs rfl rfl ?_
   refine zt U U ?_
   exact AA (M9 true (Sh.AB h1).symm _ (Af [0,2] U (by decide) rfl U (.pure (AN fun _=>U) (.raw U U .nil)) (.same U)))
  ·refine zg tb b14 U (zg tb b14 U (zg tb b14 U (zf b14 U (zq tb U ?_))))
   rcases Sh.Au h1 with ⟨b15,h1⟩ | ⟨b15,h1⟩
   ·refine zs b15 U ?_
    iterate 4 refine zs b15 rfl ?_
    refine zt b15 U ?_
    exact AA (M9 true (Sh.AB h1).symm _ (Af [0,2] U (by decide) rfl U (.pure (AN fun _=>U) (.raw U U .nil)) (.same U)))
   ·refine zg tb b15 U (zg tb b15 U (zg tb b15 U (BP (v:=(Bp s0)) (DF U U b15) rfl (Cs Ff U U U) (zg tb b15 U (zf b15 U ?_)))))
    exact AA (M9 (decide ((Sh.len s0)≤p2.num)) (Sh.AB h1).symm _ (Af [0,2] U (by decide) rfl U (.pure (AN fun _=>U) (.raw U U .nil)) (.same U)))
 ·intro b5 h0
  refine zr tb U U ?_
  refine ci h0 U ?_ ?_ <;> clear h0
  ·intro b17 h0
   refine AF fun K18 hK18=>AF fun K19 hK19=>bs h0 fun o21 h1 h0=>?_
   have M21 :∀(t20:Bool),o21=t20→∀s,Wk 1 s ⟨194,AP [(1,(ow 0 0 s0)),(3,Ay),(5,BK),(52,(.bool t20))],(WX s0 p0 p2)⟩→K19 s:=by
    intro t20 hq s hw
    subst o21
    try dsimp only at h0
    refine hK19 _ (AR hw ?_)
    refine ci h0 U ?_ ?_ <;> clear h0
    ·intro b22 h0
     refine zr tb U U ?_
     replace h0:=Sh.AB h0
     subst r
     exact AJ (xr (Af (L:=[(6,(i64 (-1)))]) (st':=[(BL s0)]) [0] U (by decide) rfl U (.pure (AN fun _=>U) .nil) ⟨.rfl,trivial⟩))
    ·intro b22 h0
     refine AI (hK18 _ (AF fun K24 hK24=>?_))
     refine By (by kernel_rfl) (by kernel_rfl) (by rfl) ?_
     iterate 4 refine yq tb rfl ?_
     refine bs h0 fun c25 gc25 h0=>yz (EI c25) (BM Bc U U gc25 (Ax _) rfl) rfl (yq tb U (bs h0 fun q26 gq26 h0=>?_))
     refine S4 (rowsP:=[(BL s0)]) (rows0:=[(BL s0)]) (rows1:=[(BL s0)]) (rows1':=[(BL s0)]) (v':=(i64 q26)) [0] Ah Nc (hrec_impl_signatures_typeOf gq26) rfl (by decide) rfl U (.pure (AN fun _=>U) .nil) rfl U (.pure (AN fun _=>U) .nil) rfl U ?_
     refine yq tb U (BR (hK24 _ (AF fun K27 hK27=>zr tb U U ?_)))
     refine ci h0 U ?_ ?_ <;> clear h0
     ·intro b29 h0
      refine zr tb U U ?_
      replace h0:=Sh.AB h0
      subst r
      exact AJ (xr (Af (L:=[(6,(i64 (-1)))]) (st':=[(BL s0)]) [0] U (by decide) rfl U (.pure (AN fun _=>U) .nil) ⟨.rfl,trivial⟩))
     ·intro b29 h0
      refine AI (hK27 _ (AF fun K31 hK31=>?_))
      refine HK (by kernel_rfl) ?_
      refine bs h0 fun l32 gl32 h0=>bs h0 fun c33 gc33 h0=>bs h0 fun q34 gq34 h0=>AX.two (BL s0) (BL l32) fun A35 A35' hA35 hA35'=>?_
      have A35_0123456789aw0:A35' 0 (bm 11 2047) ⟨194,AP [(6,(i64 q34))],[(BL l32)]⟩:=(hA35' _ _ _).2 (by
       refine GZ U (by kernel_rfl) ⟨⟨_,U⟩,?_⟩
       refine hK31 _ ?_
       replace h0:=Sh.AB h0
       subst r
       exact AJ (Exists.intro _ (And.intro (AT (L:=[(6,(i64 q34))]) (.same U)) (And.intro U U))))
      have A35_0123456789w0:A35' 1 (bm 11 1023) ⟨194,AP [(71,(i64 q34))],[(BL l32)]⟩:=(hA35' _ _ _).2 (by
       refine Bt 10 (v:=(i64 q34)) rfl U (by kernel_rfl) (by kernel_rfl) (by kernel_rfl) rfl (LQ U) ?_
       exact AE (by exact AD U) (AH (by kernel_rfl) ((hA35' _ _ _).1 A35_0123456789aw0)) rfl)
      have A35_012345678w0:A35' 2 (bm 11 511) ⟨194,AP [(62,(Fg p0)),(66,(ow 0 0 l32)),(70,(B5 c33))],[(BL l32)]⟩:=(hA35' _ _ _).2 (by
       refine Ae [9] U (by kernel_rfl) (by decide) ⟨?_,trivial⟩
       ·refine Az.of (i:=9) rfl U (by rfl) ?_
        refine OS (rows0:=[(BL l32)]) (rows1:=[(BL l32)]) (st':=[(BL l32)]) (v':=(i64 q34)) [0] Ah Nc (hrec_impl_signatures_typeOf gq34) rfl (by decide) rfl U (.pure (AN fun _=>U) .nil) rfl U (.pure (AN fun _=>U) .nil) .nil U U ?_
        refine AA ⟨U,?_⟩
        exact AE (by exact AD U) (AH (by kernel_rfl) ((hA35' _ _ _).1 A35_0123456789w0)) rfl)
      have A35_01234567w0:A35' 3 (bm 11 255) ⟨194,AP [(62,(Fg p0)),(66,(ow 0 0 l32)),(69,(EI c33))],[(BL l32)]⟩:=(hA35' _ _ _).2 (by
       refine Ae [8] U (by kernel_rfl) (by decide) ⟨?_,trivial⟩
       ·refine Az.of (i:=8) rfl U (by rfl) ?_
        refine zq tb U (AA ⟨U,?_⟩)
        exact AE (by exact AD U) (AH (by kernel_rfl) ((hA35' _ _ _).1 A35_012345678w0)) rfl)
      have A35_0123456w0:A35' 4 (bm 11 127) ⟨194,AP [(62,(Fg p0)),(66,(ow 0 0 l32)),(68,(G8 p2))],[(BL l32)]⟩:=(hA35' _ _ _).2 (by
       refine Ae [7] U (by kernel_rfl) (by decide) ⟨?_,trivial⟩
       ·refine Az.of (i:=7) rfl U (by rfl) ?_
        refine zz (EI c33) (BM Bc U U gc33 (Ax _) rfl) rfl (AA ⟨U,?_⟩)
        exact AE (by exact AD U) (AH (by kernel_rfl) ((hA35' _ _ _).1 A35_01234567w0)) rfl)
      have A35_012345w0:A35' 5 (bm 11 63) ⟨194,AP [(62,(Fg p0)),(66,(ow 0 0 l32)),(67,(.ptr 1 0 0 2))],[(BL l32),(I3 p2.op p2.num p2.kids)]⟩:=(hA35' _ _ _).2 (by
       refine Ae [6] U (by kernel_rfl) (by decide) ⟨?_,trivial⟩
       ·refine Az.of (i:=6) rfl U (by rfl) ?_
        refine zq tb U (AA ⟨U,?_⟩)
        exact AE (by exact Af [0] U (by decide) rfl U (.pure (AN fun _=>U) .nil) (.same U)) (AH (by kernel_rfl) ((hA35' _ _ _).1 A35_0123456w0)) rfl)
      have A35_01234w0:A35' 6 (bm 11 31) ⟨194,AP [(5,Ay),(62,(Fg p0)),(66,(ow 0 0 l32))],[(BL l32),(I3 p2.op p2.num p2.kids)]⟩:=(hA35' _ _ _).2 (by
       refine Ae [5] U (by kernel_rfl) (by decide) ⟨?_,trivial⟩
       ·refine Az.of (i:=5) rfl U (by rfl) ?_
        refine zq tb U (AA ⟨U,?_⟩)
        exact AE (by exact AD U) (AH (by kernel_rfl) ((hA35' _ _ _).1 A35_012345w0)) rfl)
      have A35_0123456789aw1:A35 0 (bm 11 2047) ⟨194,AP [(6,(i64 q34))],[(BL s0)]⟩:=(hA35 _ _ _).2 (by
       refine GZ U (by kernel_rfl) ?_
       refine hK31 _ ?_
       replace h0:=Sh.AB h0
       subst r
       exact AJ (Exists.intro _ (And.intro (AT (L:=[(6,(i64 q34))]) (.same U)) (And.intro U U))))
      have A35_0123456789w1:A35 1 (bm 11 1023) ⟨194,AP [(71,(i64 q34))],[(BL s0)]⟩:=(hA35 _ _ _).2 (by
       refine Bt 10 (v:=(i64 q34)) rfl U (by kernel_rfl) (by kernel_rfl) (by kernel_rfl) rfl (LQ U) ?_
       exact AE (by exact AD U) (AH (by kernel_rfl) ((hA35 _ _ _).1 A35_0123456789aw1)) rfl)
      have A35_012345678w1:A35 2 (bm 11 511) ⟨194,AP [(62,(Fg p0)),(66,(ow 1 0 l32)),(70,(B5 c33))],[(BL s0),(BL l32)]⟩:=(hA35 _ _ _).2 (by
       refine Ae [9] U (by kernel_rfl) (by decide) ⟨?_,trivial⟩
       ·refine Az.of (i:=9) rfl U (by rfl) ?_
        refine OS (rows0:=[(BL l32)]) (rows1:=[(BL l32)]) (st':=[(BL s0),(BL l32)]) (v':=(i64 q34)) [1] Ah Nc (hrec_impl_signatures_typeOf gq34) rfl (by decide) rfl U (.pure (AN fun _=>U) .nil) rfl U (.pure (AN fun _=>U) .nil) .nil U U ?_
        refine AA ⟨U,?_⟩
        exact AE (by exact Af [0] U (by decide) rfl U (.pure (AN fun _=>U) .nil) (.same U)) (AH (by kernel_rfl) ((hA35 _ _ _).1 A35_0123456789w1)) rfl)
      have A35_01234567w1:A35 3 (bm 11 255) ⟨194,AP [(62,(Fg p0)),(66,(ow 1 0 l32)),(69,(EI c33))],[(BL s0),(BL l32)]⟩:=(hA35 _ _ _).2 (by
       refine Ae [8] U (by kernel_rfl) (by decide) ⟨?_,trivial⟩
       ·refine Az.of (i:=8) rfl U (by rfl) ?_
        refine zq tb U (AA ⟨U,?_⟩)
        exact AE (by exact AD U) (AH (by kernel_rfl) ((hA35 _ _ _).1 A35_012345678w1)) rfl)
      have A35_0123456w1:A35 4 (bm 11 127) ⟨194,AP [(62,(Fg p0)),(66,(ow 1 0 l32)),(68,(G8 p2))],[(BL s0),(BL l32)]⟩:=(hA35 _ _ _).2 (by
       refine Ae [7] U (by kernel_rfl) (by decide) ⟨?_,trivial⟩
       ·refine Az.of (i:=7) rfl U (by rfl) ?_
        refine zz (EI c33) (BM Bc U U gc33 (Ax _) rfl) rfl (AA ⟨U,?_⟩)
        exact AE (by exact AD U) (AH (by kernel_rfl) ((hA35 _ _ _).1 A35_01234567w1)) rfl)
      have A35_012345w1:A35 5 (bm 11 63) ⟨194,AP [(62,(Fg p0)),(66,(ow 1 0 l32)),(67,MG)],[(BL s0),(BL l32),(I3 p2.op p2.num p2.kids)]⟩:=(hA35 _ _ _).2 (by
       refine Ae [6] U (by kernel_rfl) (by decide) ⟨?_,trivial⟩
       ·refine Az.of (i:=6) rfl U (by rfl) ?_
        refine zq tb U (AA ⟨U,?_⟩)
        exact AE (by exact Af [0,1] U (by decide) rfl U (.pure (AN fun _=>U) (.pure (AN fun _=>U) .nil)) (.same U)) (AH (by kernel_rfl) ((hA35 _ _ _).1 A35_0123456w1)) rfl)
      have A35_01234w1:A35 6 (bm 11 31) ⟨194,AP [(5,Ay),(62,(Fg p0)),(66,(ow 2 0 l32))],[(BL s0),(I3 p2.op p2.num p2.kids),(BL l32)]⟩:=(hA35 _ _ _).2 (by
       refine Ae [5] U (by kernel_rfl) (by decide) ⟨?_,trivial⟩
       ·refine Az.of (i:=5) rfl U (by rfl) ?_
        refine zq tb U (AA ⟨U,?_⟩)
        exact AE (by exact Af [0,2,1] U (by decide) rfl U (.pure (AN fun _=>U) (.pure (AN fun _=>U) (.raw U U .nil))) (.same U)) (AH (by kernel_rfl) ((hA35 _ _ _).1 A35_012345w1)) rfl)
      have A35_01235678:A35 3 (bm 11 495) ⟨194,AP [(62,(Fg p0)),(63,(ow 0 0 s0)),(65,(ow 1 0 [q26])),(70,(B5 c33))],[(BL s0),(ro 0 3 1 eI [q26])]⟩:=(hA35 _ _ _).2 (by
       refine Ae [4] U (by kernel_rfl) (by decide) ⟨?_,trivial⟩
       ·refine FN (l:=s0) (l2:=[q26]) (l':=l32) rfl U Bm (Dh (AN fun _=>U) (fun _ hq=>nomatch hq)) rfl U U (Jc U U) rfl (fun _=>U) (fun _=>(AN fun _=>U)) gl32 ?_ ?_
        ·exact AE (by exact Af [0] U (by decide) rfl U (.pure (AN fun _=>U) .nil) (.same U)) (AH (by kernel_rfl) ((hA35' _ _ _).1 A35_012345678w0)) rfl
        ·exact AE (by exact Af [0,2] U (by decide) rfl U (.pure (AN fun _=>U) (.pure (AN fun _=>U) .nil)) (.same U)) (AH (by kernel_rfl) ((hA35 _ _ _).1 A35_012345678w1)) rfl)
      have A35_0123567:A35 4 (bm 11 239) ⟨194,AP [(62,(Fg p0)),(63,(ow 0 0 s0)),(65,(ow 1 0 [q26])),(69,(EI c33))],[(BL s0),(ro 0 3 1 eI [q26])]⟩:=(hA35 _ _ _).2 (by
       refine Ae [4,8] U (by kernel_rfl) (by decide) ⟨?_,?_,trivial⟩
       ·refine FN (l:=s0) (l2:=[q26]) (l':=l32) rfl U Bm (Dh (AN fun _=>U) (fun _ hq=>nomatch hq)) rfl U U (Jc U U) rfl (fun _=>U) (fun _=>(AN fun _=>U)) gl32 ?_ ?_
        ·exact AE (by exact Af [0] U (by decide) rfl U (.pure (AN fun _=>U) .nil) (.same U)) (AH (by kernel_rfl) ((hA35' _ _ _).1 A35_01234567w0)) rfl
        ·exact AE (by exact Af [0,2] U (by decide) rfl U (.pure (AN fun _=>U) (.pure (AN fun _=>U) .nil)) (.same U)) (AH (by kernel_rfl) ((hA35 _ _ _).1 A35_01234567w1)) rfl
       ·refine Az.of (i:=8) rfl U (by rfl) ?_
        refine zq tb U (AA ⟨U,?_⟩)
        exact AE (by exact AD U) (AH (by kernel_rfl) ((hA35 _ _ _).1 A35_01235678)) rfl)
      have A35_012356:A35 5 (bm 11 111) ⟨194,AP [(62,(Fg p0)),(63,(ow 0 0 s0)),(65,(ow 1 0 [q26])),(68,(G8 p2))],[(BL s0),(ro 0 3 1 eI [q26])]⟩:=(hA35 _ _ _).2 (by
       refine Ae [4,7] U (by kernel_rfl) (by decide) ⟨?_,?_,trivial⟩
       ·refine FN (l:=s0) (l2:=[q26]) (l':=l32) rfl U Bm (Dh (AN fun _=>U) (fun _ hq=>nomatch hq)) rfl U U (Jc U U) rfl (fun _=>U) (fun _=>(AN fun _=>U)) gl32 ?_ ?_
        ·exact AE (by exact Af [0] U (by decide) rfl U (.pure (AN fun _=>U) .nil) (.same U)) (AH (by kernel_rfl) ((hA35' _ _ _).1 A35_0123456w0)) rfl
        ·exact AE (by exact Af [0,2] U (by decide) rfl U (.pure (AN fun _=>U) (.pure (AN fun _=>U) .nil)) (.same U)) (AH (by kernel_rfl) ((hA35 _ _ _).1 A35_0123456w1)) rfl
       ·refine Az.of (i:=7) rfl U (by rfl) ?_
        refine zz (EI c33) (BM Bc U U gc33 (Ax _) rfl) rfl (AA ⟨U,?_⟩)
        exact AE (by exact AD U) (AH (by kernel_rfl) ((hA35 _ _ _).1 A35_0123567)) rfl)
      have A35_01235:A35 6 (bm 11 47) ⟨194,AP [(62,(Fg p0)),(63,(ow 0 0 s0)),(65,(ow 1 0 [q26])),(67,MG)],[(BL s0),(ro 0 3 1 eI [q26]),(I3 p2.op p2.num p2.kids)]⟩:=(hA35 _ _ _).2 (by
       refine Ae [4,6] U (by kernel_rfl) (by decide) ⟨?_,?_,trivial⟩
       ·refine FN (l:=s0) (l2:=[q26]) (l':=l32) rfl U Bm (Dh (AN fun _=>U) (Dh (Fi U) (fun _ hq=>nomatch hq))) rfl U U (Jc U U) rfl (fun _=>U) (fun _=>(AN fun _=>U)) gl32 ?_ ?_
        ·exact AE (by exact Af [0,2] U (by decide) rfl U (.pure (AN fun _=>U) (.raw U U .nil)) (.same U)) (AH (by kernel_rfl) ((hA35' _ _ _).1 A35_012345w0)) rfl
        ·exact AE (by exact Af [0,3,2] U (by decide) rfl U (.pure (AN fun _=>U) (.pure (AN fun _=>U) (.raw U U .nil))) (.same U)) (AH (by kernel_rfl) ((hA35 _ _ _).1 A35_012345w1)) rfl
       ·refine Az.of (i:=6) rfl U (by rfl) ?_
        refine zq tb U (AA ⟨U,?_⟩)
        exact AE (by exact Af [0,1] U (by decide) rfl U (.pure (AN fun _=>U) (.pure (AN fun _=>U) .nil)) (.same U)) (AH (by kernel_rfl) ((hA35 _ _ _).1 A35_012356)) rfl)
      have A35_0123:A35 7 (bm 11 15) ⟨194,AP [(5,Ay),(62,(Fg p0)),(63,(ow 0 0 s0)),(65,(ow 2 0 [q26]))],[(BL s0),(I3 p2.op p2.num p2.kids),(ro 0 3 1 eI [q26])]⟩:=(hA35 _ _ _).2 (by
       refine Ae [4,5] U (by kernel_rfl) (by decide) ⟨?_,?_,trivial⟩
       ·refine FN (l:=s0) (l2:=[q26]) (l':=l32) rfl U Bm (Dh (Fi U) (Dh (AN fun _=>U) (fun _ hq=>nomatch hq))) rfl U U (Jc U U) rfl (fun _=>U) (fun _=>(AN fun _=>U)) gl32 ?_ ?_
        ·exact AE (by exact Af [0,1] U (by decide) rfl U (.pure (AN fun _=>U) (.raw U U .nil)) (.same U)) (AH (by kernel_rfl) ((hA35' _ _ _).1 A35_01234w0)) rfl
        ·exact AE (by exact Af [0,1,3] U (by decide) rfl U (.pure (AN fun _=>U) (.raw U U (.pure (AN fun _=>U) .nil))) (.same U)) (AH (by kernel_rfl) ((hA35 _ _ _).1 A35_01234w1)) rfl
       ·refine Az.of (i:=5) rfl U (by rfl) ?_
        refine zq tb U (AA ⟨U,?_⟩)
        exact AE (by exact Af [0,2,1] U (by decide) rfl U (.pure (AN fun _=>U) (.pure (AN fun _=>U) (.raw U U .nil))) (.same U)) (AH (by kernel_rfl) ((hA35 _ _ _).1 A35_01235)) rfl)
      have A35_0125678:A35 4 (bm 11 487) ⟨194,AP [(62,(Fg p0)),(63,(ow 0 0 s0)),(64,(i64 q26)),(70,(B5 c33))],[(BL s0)]⟩:=(hA35 _ _ _).2 (by
       refine Ae [3] U (by kernel_rfl) (by decide) ⟨?_,trivial⟩
       ·refine Az.of (i:=3) rfl U (by rfl) ?_
        refine Cb (m:=1) (l:=[q26]) (enc:=eI) Ah Bm (by decide) rfl U U U U U ?_
        refine AA ⟨U,?_⟩
        exact AE (by exact AD U) (AH (by kernel_rfl) ((hA35 _ _ _).1 A35_01235678)) rfl)
      have A35_012567:A35 5 (bm 11 231) ⟨194,AP [(62,(Fg p0)),(63,(ow 0 0 s0)),(64,(i64 q26)),(69,(EI c33))],[(BL s0)]⟩:=(hA35 _ _ _).2 (by
       refine Ae [3,8] U (by kernel_rfl) (by decide) ⟨?_,?_,trivial⟩
       ·refine Az.of (i:=3) rfl U (by rfl) ?_
        refine Cb (m:=1) (l:=[q26]) (enc:=eI) Ah Bm (by decide) rfl U U U U U ?_
        refine AA ⟨U,?_⟩
        exact AE (by exact AD U) (AH (by kernel_rfl) ((hA35 _ _ _).1 A35_0123567)) rfl
       ·refine Az.of (i:=8) rfl U (by rfl) ?_
        refine zq tb U (AA ⟨U,?_⟩)
        exact AE (by exact AD U) (AH (by kernel_rfl) ((hA35 _ _ _).1 A35_0125678)) rfl)
      have A35_01256:A35 6 (bm 11 103) ⟨194,AP [(62,(Fg p0)),(63,(ow 0 0 s0)),(64,(i64 q26)),(68,(G8 p2))],[(BL s0)]⟩:=(hA35 _ _ _).2 (by
       refine Ae [3,7] U (by kernel_rfl) (by decide) ⟨?_,?_,trivial⟩
       ·refine Az.of (i:=3) rfl U (by rfl) ?_
        refine Cb (m:=1) (l:=[q26]) (enc:=eI) Ah Bm (by decide) rfl U U U U U ?_
        refine AA ⟨U,?_⟩
        exact AE (by exact AD U) (AH (by kernel_rfl) ((hA35 _ _ _).1 A35_012356)) rfl
       ·refine Az.of (i:=7) rfl U (by rfl) ?_
        refine zz (EI c33) (BM Bc U U gc33 (Ax _) rfl) rfl (AA ⟨U,?_⟩)
        exact AE (by exact AD U) (AH (by kernel_rfl) ((hA35 _ _ _).1 A35_012567)) rfl)
      have A35_0125:A35 7 (bm 11 39) ⟨194,AP [(62,(Fg p0)),(63,(ow 0 0 s0)),(64,(i64 q26)),(67,(.ptr 1 0 0 2))],[(BL s0),(I3 p2.op p2.num p2.kids)]⟩:=(hA35 _ _ _).2 (by
       refine Ae [3,6] U (by kernel_rfl) (by decide) ⟨?_,?_,trivial⟩
       ·refine Az.of (i:=3) rfl U (by rfl) ?_
        refine Cb (m:=2) (l:=[q26]) (enc:=eI) Ah Bm (by decide) rfl U U U U U ?_
        refine AA ⟨U,?_⟩
        exact AE (by exact Af [0,2,1] U (by decide) rfl U (.pure (AN fun _=>U) (.pure (AN fun _=>U) (.raw U U .nil))) (.same U)) (AH (by kernel_rfl) ((hA35 _ _ _).1 A35_01235)) rfl
       ·refine Az.of (i:=6) rfl U (by rfl) ?_
        refine zq tb U (AA ⟨U,?_⟩)
        exact AE (by exact Af [0] U (by decide) rfl U (.pure (AN fun _=>U) .nil) (.same U)) (AH (by kernel_rfl) ((hA35 _ _ _).1 A35_01256)) rfl)
      have A35_012:A35 8 (bm 11 7) ⟨194,AP [(5,Ay),(62,(Fg p0)),(63,(ow 0 0 s0)),(64,(i64 q26))],[(BL s0),(I3 p2.op p2.num p2.kids)]⟩:=(hA35 _ _ _).2 (by
       refine Ae [3,5] U (by kernel_rfl) (by decide) ⟨?_,?_,trivial⟩
       ·refine Az.of (i:=3) rfl U (by rfl) ?_
        refine Cb (m:=2) (l:=[q26]) (enc:=eI) Ah Bm (by decide) rfl U U U U U ?_
        refine AA ⟨U,?_⟩
        exact AE (by exact AD U) (AH (by kernel_rfl) ((hA35 _ _ _).1 A35_0123)) rfl
       ·refine Az.of (i:=5) rfl U (by rfl) ?_
        refine zq tb U (AA ⟨U,?_⟩)
        exact AE (by exact AD U) (AH (by kernel_rfl) ((hA35 _ _ _).1 A35_0125)) rfl)
      have A35_12345678w0:A35' 3 (bm 11 510) ⟨194,AP [(3,Ay),(66,(ow 0 0 l32)),(70,(B5 c33))],[(BL l32),(D9 p0)]⟩:=(hA35' _ _ _).2 (by
       refine Ae [0] U (by kernel_rfl) (by decide) ⟨?_,trivial⟩
       ·refine Az.of (i:=0) rfl U (by rfl) ?_
        refine zq tb U (AA ⟨U,?_⟩)
        exact AE (by exact Af [0] U (by decide) rfl U (.pure (AN fun _=>U) .nil) (.same U)) (AH (by kernel_rfl) ((hA35' _ _ _).1 A35_012345678w0)) rfl)
      have A35_1234567w0:A35' 4 (bm 11 254) ⟨194,AP [(3,Ay),(66,(ow 0 0 l32)),(69,(EI c33))],[(BL l32),(D9 p0)]⟩:=(hA35' _ _ _).2 (by
       refine Ae [0,8] U (by kernel_rfl) (by decide) ⟨?_,?_,trivial⟩
       ·refine Az.of (i:=0) rfl U (by rfl) ?_
        refine zq tb U (AA ⟨U,?_⟩)
        exact AE (by exact Af [0] U (by decide) rfl U (.pure (AN fun _=>U) .nil) (.same U)) (AH (by kernel_rfl) ((hA35' _ _ _).1 A35_01234567w0)) rfl
       ·refine Az.of (i:=8) rfl U (by rfl) ?_
        refine zq tb U (AA ⟨U,?_⟩)
        exact AE (by exact AD U) (AH (by kernel_rfl) ((hA35' _ _ _).1 A35_12345678w0)) rfl)
      have A35_123456w0:A35' 5 (bm 11 126) ⟨194,AP [(3,Ay),(66,(ow 0 0 l32)),(68,(G8 p2))],[(BL l32),(D9 p0)]⟩:=(hA35' _ _ _).2 (by
       refine Ae [0,7] U (by kernel_rfl) (by decide) ⟨?_,?_,trivial⟩
       ·refine Az.of (i:=0) rfl U (by rfl) ?_
        refine zq tb U (AA ⟨U,?_⟩)
        exact AE (by exact Af [0] U (by decide) rfl U (.pure (AN fun _=>U) .nil) (.same U)) (AH (by kernel_rfl) ((hA35' _ _ _).1 A35_0123456w0)) rfl
       ·refine Az.of (i:=7) rfl U (by rfl) ?_
        refine zz (EI c33) (BM Bc U U gc33 (Ax _) rfl) rfl (AA ⟨U,?_⟩)
        exact AE (by exact AD U) (AH (by kernel_rfl) ((hA35' _ _ _).1 A35_1234567w0)) rfl)
      have A35_12345w0:A35' 6 (bm 11 62) ⟨194,AP [(3,Ay),(66,(ow 0 0 l32)),(67,MG)],(WX l32 p0 p2)⟩:=(hA35' _ _ _).2 (by
       refine Ae [0,6] U (by kernel_rfl) (by decide) ⟨?_,?_,trivial⟩
       ·refine Az.of (i:=0) rfl U (by rfl) ?_
        refine zq tb U (AA ⟨U,?_⟩)
        exact AE (by exact Af [0,2] U (by decide) rfl U (.pure (AN fun _=>U) (.raw U U .nil)) (.same U)) (AH (by kernel_rfl) ((hA35' _ _ _).1 A35_012345w0)) rfl
       ·refine Az.of (i:=6) rfl U (by rfl) ?_
        refine zq tb U (AA ⟨U,?_⟩)
        exact AE (by exact Af [0,1] U (by decide) rfl U (.pure (AN fun _=>U) (.raw U U .nil)) (.same U)) (AH (by kernel_rfl) ((hA35' _ _ _).1 A35_123456w0)) rfl)
      have A35_1234w0:A35' 7 (bm 11 30) ⟨194,AP [(3,Ay),(5,BK),(66,(ow 0 0 l32))],(WX l32 p0 p2)⟩:=(hA35' _ _ _).2 (by
       refine Ae [0,5] U (by kernel_rfl) (by decide) ⟨?_,?_,trivial⟩
       ·refine Az.of (i:=0) rfl U (by rfl) ?_
        refine zq tb U (AA ⟨U,?_⟩)
        exact AE (by exact Af [0,2] U (by decide) rfl U (.pure (AN fun _=>U) (.raw U U .nil)) (.same U)) (AH (by kernel_rfl) ((hA35' _ _ _).1 A35_01234w0)) rfl
       ·refine Az.of (i:=5) rfl U (by rfl) ?_
        refine zq tb U (AA ⟨U,?_⟩)
        exact AE (by exact AD U) (AH (by kernel_rfl) ((hA35' _ _ _).1 A35_12345w0)) rfl)
      have A35_12345678w1:A35 3 (bm 11 510) ⟨194,AP [(3,Ay),(66,(ow 2 0 l32)),(70,(B5 c33))],[(BL s0),(D9 p0),(BL l32)]⟩:=(hA35 _ _ _).2 (by
       refine Ae [0] U (by kernel_rfl) (by decide) ⟨?_,trivial⟩
       ·refine Az.of (i:=0) rfl U (by rfl) ?_
        refine zq tb U (AA ⟨U,?_⟩)
        exact AE (by exact Af [0,2] U (by decide) rfl U (.pure (AN fun _=>U) (.pure (AN fun _=>U) .nil)) (.same U)) (AH (by kernel_rfl) ((hA35 _ _ _).1 A35_012345678w1)) rfl)
      have A35_1234567w1:A35 4 (bm 11 254) ⟨194,AP [(3,Ay),(66,(ow 2 0 l32)),(69,(EI c33))],[(BL s0),(D9 p0),(BL l32)]⟩:=(hA35 _ _ _).2 (by
       refine Ae [0,8] U (by kernel_rfl) (by decide) ⟨?_,?_,trivial⟩
       ·refine Az.of (i:=0) rfl U (by rfl) ?_
        refine zq tb U (AA ⟨U,?_⟩)
        exact AE (by exact Af [0,2] U (by decide) rfl U (.pure (AN fun _=>U) (.pure (AN fun _=>U) .nil)) (.same U)) (AH (by kernel_rfl) ((hA35 _ _ _).1 A35_01234567w1)) rfl
       ·refine Az.of (i:=8) rfl U (by rfl) ?_
        refine zq tb U (AA ⟨U,?_⟩)
        exact AE (by exact AD U) (AH (by kernel_rfl) ((hA35 _ _ _).1 A35_12345678w1)) rfl)
      have A35_123456w1:A35 5 (bm 11 126) ⟨194,AP [(3,Ay),(66,(ow 2 0 l32)),(68,(G8 p2))],[(BL s0),(D9 p0),(BL l32)]⟩:=(hA35 _ _ _).2 (by
       refine Ae [0,7] U (by kernel_rfl) (by decide) ⟨?_,?_,trivial⟩
       ·refine Az.of (i:=0) rfl U (by rfl) ?_
        refine zq tb U (AA ⟨U,?_⟩)
        exact AE (by exact Af [0,2] U (by decide) rfl U (.pure (AN fun _=>U) (.pure (AN fun _=>U) .nil)) (.same U)) (AH (by kernel_rfl) ((hA35 _ _ _).1 A35_0123456w1)) rfl
       ·refine Az.of (i:=7) rfl U (by rfl) ?_
        refine zz (EI c33) (BM Bc U U gc33 (Ax _) rfl) rfl (AA ⟨U,?_⟩)
        exact AE (by exact AD U) (AH (by kernel_rfl) ((hA35 _ _ _).1 A35_1234567w1)) rfl)
      have A35_12345w1:A35 6 (bm 11 62) ⟨194,AP [(3,Ay),(66,(ow 2 0 l32)),(67,VS)],[(BL s0),(D9 p0),(BL l32),(I3 p2.op p2.num p2.kids)]⟩:=(hA35 _ _ _).2 (by
       refine Ae [0,6] U (by kernel_rfl) (by decide) ⟨?_,?_,trivial⟩
       ·refine Az.of (i:=0) rfl U (by rfl) ?_
        refine zq tb U (AA ⟨U,?_⟩)
        exact AE (by exact Af [0,2,3] U (by decide) rfl U (.pure (AN fun _=>U) (.pure (AN fun _=>U) (.raw U U .nil))) (.same U)) (AH (by kernel_rfl) ((hA35 _ _ _).1 A35_012345w1)) rfl
       ·refine Az.of (i:=6) rfl U (by rfl) ?_
        refine zq tb U (AA ⟨U,?_⟩)
        exact AE (by exact Af [0,1,2] U (by decide) rfl U (.pure (AN fun _=>U) (.raw U U (.pure (AN fun _=>U) .nil))) (.same U)) (AH (by kernel_rfl) ((hA35 _ _ _).1 A35_123456w1)) rfl)
      have A35_1234w1:A35 7 (bm 11 30) ⟨194,AP [(3,Ay),(5,BK),(66,(ow 3 0 l32))],[(BL s0),(D9 p0),(I3 p2.op p2.num p2.kids),(BL l32)]⟩:=(hA35 _ _ _).2 (by
       refine Ae [0,5] U (by kernel_rfl) (by decide) ⟨?_,?_,trivial⟩
       ·refine Az.of (i:=0) rfl U (by rfl) ?_
        refine zq tb U (AA ⟨U,?_⟩)
        exact AE (by exact Af [0,2,3] U (by decide) rfl U (.pure (AN fun _=>U) (.raw U U (.pure (AN fun _=>U) .nil))) (.same U)) (AH (by kernel_rfl) ((hA35 _ _ _).1 A35_01234w1)) rfl
       ·refine Az.of (i:=5) rfl U (by rfl) ?_
        refine zq tb U (AA ⟨U,?_⟩)
        exact AE (by exact Af [0,1,3,2] U (by decide) rfl U (.pure (AN fun _=>U) (.raw U U (.pure (AN fun _=>U) (.raw U U .nil)))) (.same U)) (AH (by kernel_rfl) ((hA35 _ _ _).1 A35_12345w1)) rfl)
      have A35_1235678:A35 4 (bm 11 494) ⟨194,AP [(3,Ay),(63,(ow 0 0 s0)),(65,(ow 2 0 [q26])),(70,(B5 c33))],[(BL s0),(D9 p0),(ro 0 3 1 eI [q26])]⟩:=(hA35 _ _ _).2 (by
       refine Ae [0,4] U (by kernel_rfl) (by decide) ⟨?_,?_,trivial⟩
       ·refine Az.of (i:=0) rfl U (by rfl) ?_
        refine zq tb U (AA ⟨U,?_⟩)
        exact AE (by exact Af [0,2] U (by decide) rfl U (.pure (AN fun _=>U) (.pure (AN fun _=>U) .nil)) (.same U)) (AH (by kernel_rfl) ((hA35 _ _ _).1 A35_01235678)) rfl
       ·refine FN (l:=s0) (l2:=[q26]) (l':=l32) rfl U Bm (Dh (Fi U) (Dh (AN fun _=>U) (fun _ hq=>nomatch hq))) rfl U U (Jc U U) rfl (fun _=>U) (fun _=>(AN fun _=>U)) gl32 ?_ ?_
        ·exact AE (by exact Af [0,1] U (by decide) rfl U (.pure (AN fun _=>U) (.raw U U .nil)) (.same U)) (AH (by kernel_rfl) ((hA35' _ _ _).1 A35_12345678w0)) rfl
        ·exact AE (by exact Af [0,1,3] U (by decide) rfl U (.pure (AN fun _=>U) (.raw U U (.pure (AN fun _=>U) .nil))) (.same U)) (AH (by kernel_rfl) ((hA35 _ _ _).1 A35_12345678w1)) rfl)
      have A35_123567:A35 5 (bm 11 238) ⟨194,AP [(3,Ay),(63,(ow 0 0 s0)),(65,(ow 2 0 [q26])),(69,(EI c33))],[(BL s0),(D9 p0),(ro 0 3 1 eI [q26])]⟩:=(hA35 _ _ _).2 (by
       refine Ae [0,4,8] U (by kernel_rfl) (by decide) ⟨?_,?_,?_,trivial⟩
       ·refine Az.of (i:=0) rfl U (by rfl) ?_
        refine zq tb U (AA ⟨U,?_⟩)
        exact AE (by exact Af [0,2] U (by decide) rfl U (.pure (AN fun _=>U) (.pure (AN fun _=>U) .nil)) (.same U)) (AH (by kernel_rfl) ((hA35 _ _ _).1 A35_0123567)) rfl
       ·refine FN (l:=s0) (l2:=[q26]) (l':=l32) rfl U Bm (Dh (Fi U) (Dh (AN fun _=>U) (fun _ hq=>nomatch hq))) rfl U U (Jc U U) rfl (fun _=>U) (fun _=>(AN fun _=>U)) gl32 ?_ ?_
        ·exact AE (by exact Af [0,1] U (by decide) rfl U (.pure (AN fun _=>U) (.raw U U .nil)) (.same U)) (AH (by kernel_rfl) ((hA35' _ _ _).1 A35_1234567w0)) rfl
        ·exact AE (by exact Af [0,1,3] U (by decide) rfl U (.pure (AN fun _=>U) (.raw U U (.pure (AN fun _=>U) .nil))) (.same U)) (AH (by kernel_rfl) ((hA35 _ _ _).1 A35_1234567w1)) rfl
       ·refine Az.of (i:=8) rfl U (by rfl) ?_
        refine zq tb U (AA ⟨U,?_⟩)
        exact AE (by exact AD U) (AH (by kernel_rfl) ((hA35 _ _ _).1 A35_1235678)) rfl)
      have A35_12356:A35 6 (bm 11 110) ⟨194,AP [(3,Ay),(63,(ow 0 0 s0)),(65,(ow 2 0 [q26])),(68,(G8 p2))],[(BL s0),(D9 p0),(ro 0 3 1 eI [q26])]⟩:=(hA35 _ _ _).2 (by
       refine Ae [0,4,7] U (by kernel_rfl) (by decide) ⟨?_,?_,?_,trivial⟩
       ·refine Az.of (i:=0) rfl U (by rfl) ?_
        refine zq tb U (AA ⟨U,?_⟩)
        exact AE (by exact Af [0,2] U (by decide) rfl U (.pure (AN fun _=>U) (.pure (AN fun _=>U) .nil)) (.same U)) (AH (by kernel_rfl) ((hA35 _ _ _).1 A35_012356)) rfl
       ·refine FN (l:=s0) (l2:=[q26]) (l':=l32) rfl U Bm (Dh (Fi U) (Dh (AN fun _=>U) (fun _ hq=>nomatch hq))) rfl U U (Jc U U) rfl (fun _=>U) (fun _=>(AN fun _=>U)) gl32 ?_ ?_
        ·exact AE (by exact Af [0,1] U (by decide) rfl U (.pure (AN fun _=>U) (.raw U U .nil)) (.same U)) (AH (by kernel_rfl) ((hA35' _ _ _).1 A35_123456w0)) rfl
        ·exact AE (by exact Af [0,1,3] U (by decide) rfl U (.pure (AN fun _=>U) (.raw U U (.pure (AN fun _=>U) .nil))) (.same U)) (AH (by kernel_rfl) ((hA35 _ _ _).1 A35_123456w1)) rfl
       ·refine Az.of (i:=7) rfl U (by rfl) ?_
        refine zz (EI c33) (BM Bc U U gc33 (Ax _) rfl) rfl (AA ⟨U,?_⟩)
        exact AE (by exact AD U) (AH (by kernel_rfl) ((hA35 _ _ _).1 A35_123567)) rfl)
      have A35_1235:A35 7 (bm 11 46) ⟨194,AP [(3,Ay),(63,(ow 0 0 s0)),(65,(ow 2 0 [q26])),(67,VS)],[(BL s0),(D9 p0),(ro 0 3 1 eI [q26]),(I3 p2.op p2.num p2.kids)]⟩:=(hA35 _ _ _).2 (by
       refine Ae [0,4,6] U (by kernel_rfl) (by decide) ⟨?_,?_,?_,trivial⟩
       ·refine Az.of (i:=0) rfl U (by rfl) ?_
        refine zq tb U (AA ⟨U,?_⟩)
        exact AE (by exact Af [0,2,3] U (by decide) rfl U (.pure (AN fun _=>U) (.pure (AN fun _=>U) (.raw U U .nil))) (.same U)) (AH (by kernel_rfl) ((hA35 _ _ _).1 A35_01235)) rfl
       ·refine FN (l:=s0) (l2:=[q26]) (l':=l32) rfl U Bm (Dh (Fi U) (Dh (AN fun _=>U) (Dh (Fi U) (fun _ hq=>nomatch hq)))) rfl U U (Jc U U) rfl (fun _=>U) (fun _=>(AN fun _=>U)) gl32 ?_ ?_
        ·exact AE (by exact Af [0,1,3] U (by decide) rfl U (.pure (AN fun _=>U) (.raw U U (.raw U U .nil))) (.same U)) (AH (by kernel_rfl) ((hA35' _ _ _).1 A35_12345w0)) rfl
        ·exact AE (by exact Af [0,1,4,3] U (by decide) rfl U (.pure (AN fun _=>U) (.raw U U (.pure (AN fun _=>U) (.raw U U .nil)))) (.same U)) (AH (by kernel_rfl) ((hA35 _ _ _).1 A35_12345w1)) rfl
       ·refine Az.of (i:=6) rfl U (by rfl) ?_
        refine zq tb U (AA ⟨U,?_⟩)
        exact AE (by exact Af [0,1,2] U (by decide) rfl U (.pure (AN fun _=>U) (.raw U U (.pure (AN fun _=>U) .nil))) (.same U)) (AH (by kernel_rfl) ((hA35 _ _ _).1 A35_12356)) rfl)
      have A35_123:A35 8 (bm 11 14) ⟨194,AP [(3,Ay),(5,BK),(63,(ow 0 0 s0)),(65,(ow 3 0 [q26]))],[(BL s0),(D9 p0),(I3 p2.op p2.num p2.kids),(ro 0 3 1 eI [q26])]⟩:=(hA35 _ _ _).2 (by
       refine Ae [0,4,5] U (by kernel_rfl) (by decide) ⟨?_,?_,?_,trivial⟩
       ·refine Az.of (i:=0) rfl U (by rfl) ?_
        refine zq tb U (AA ⟨U,?_⟩)
        exact AE (by exact Af [0,2,3] U (by decide) rfl U (.pure (AN fun _=>U) (.raw U U (.pure (AN fun _=>U) .nil))) (.same U)) (AH (by kernel_rfl) ((hA35 _ _ _).1 A35_0123)) rfl
       ·refine FN (l:=s0) (l2:=[q26]) (l':=l32) rfl U Bm (Dh (Fi U) (Dh (Fi U) (Dh (AN fun _=>U) (fun _ hq=>nomatch hq)))) rfl U U (Jc U U) rfl (fun _=>U) (fun _=>(AN fun _=>U)) gl32 ?_ ?_
        ·exact AE (by exact Af [0,1,2] U (by decide) rfl U (.pure (AN fun _=>U) (.raw U U (.raw U U .nil))) (.same U)) (AH (by kernel_rfl) ((hA35' _ _ _).1 A35_1234w0)) rfl
        ·exact AE (by exact Af [0,1,2,4] U (by decide) rfl U (.pure (AN fun _=>U) (.raw U U (.raw U U (.pure (AN fun _=>U) .nil)))) (.same U)) (AH (by kernel_rfl) ((hA35 _ _ _).1 A35_1234w1)) rfl
       ·refine Az.of (i:=5) rfl U (by rfl) ?_
        refine zq tb U (AA ⟨U,?_⟩)
        exact AE (by exact Af [0,1,3,2] U (by decide) rfl U (.pure (AN fun _=>U) (.raw U U (.pure (AN fun _=>U) (.raw U U .nil)))) (.same U)) (AH (by kernel_rfl) ((hA35 _ _ _).1 A35_1235)) rfl)
      have A35_125678:A35 5 (bm 11 486) ⟨194,AP [(3,Ay),(63,(ow 0 0 s0)),(64,(i64 q26)),(70,(B5 c33))],[(BL s0),(D9 p0)]⟩:=(hA35 _ _ _).2 (by
       refine Ae [0,3] U (by kernel_rfl) (by decide) ⟨?_,?_,trivial⟩
       ·refine Az.of (i:=0) rfl U (by rfl) ?_
        refine zq tb U (AA ⟨U,?_⟩)
        exact AE (by exact Af [0] U (by decide) rfl U (.pure (AN fun _=>U) .nil) (.same U)) (AH (by kernel_rfl) ((hA35 _ _ _).1 A35_0125678)) rfl
       ·refine Az.of (i:=3) rfl U (by rfl) ?_
        refine Cb (m:=2) (l:=[q26]) (enc:=eI) Ah Bm (by decide) rfl U U U U U ?_
        refine AA ⟨U,?_⟩
        exact AE (by exact AD U) (AH (by kernel_rfl) ((hA35 _ _ _).1 A35_1235678)) rfl)
      have A35_12567:A35 6 (bm 11 230) ⟨194,AP [(3,Ay),(63,(ow 0 0 s0)),(64,(i64 q26)),(69,(EI c33))],[(BL s0),(D9 p0)]⟩:=(hA35 _ _ _).2 (by
       refine Ae [0,3,8] U (by kernel_rfl) (by decide) ⟨?_,?_,?_,trivial⟩
       ·refine Az.of (i:=0) rfl U (by rfl) ?_
        refine zq tb U (AA ⟨U,?_⟩)
        exact AE (by exact Af [0] U (by decide) rfl U (.pure (AN fun _=>U) .nil) (.same U)) (AH (by kernel_rfl) ((hA35 _ _ _).1 A35_012567)) rfl
       ·refine Az.of (i:=3) rfl U (by rfl) ?_
        refine Cb (m:=2) (l:=[q26]) (enc:=eI) Ah Bm (by decide) rfl U U U U U ?_
        refine AA ⟨U,?_⟩
        exact AE (by exact AD U) (AH (by kernel_rfl) ((hA35 _ _ _).1 A35_123567)) rfl
       ·refine Az.of (i:=8) rfl U (by rfl) ?_
        refine zq tb U (AA ⟨U,?_⟩)
        exact AE (by exact AD U) (AH (by kernel_rfl) ((hA35 _ _ _).1 A35_125678)) rfl)
      have A35_1256:A35 7 (bm 11 102) ⟨194,AP [(3,Ay),(63,(ow 0 0 s0)),(64,(i64 q26)),(68,(G8 p2))],[(BL s0),(D9 p0)]⟩:=(hA35 _ _ _).2 (by
       refine Ae [0,3,7] U (by kernel_rfl) (by decide) ⟨?_,?_,?_,trivial⟩
       ·refine Az.of (i:=0) rfl U (by rfl) ?_
        refine zq tb U (AA ⟨U,?_⟩)
        exact AE (by exact Af [0] U (by decide) rfl U (.pure (AN fun _=>U) .nil) (.same U)) (AH (by kernel_rfl) ((hA35 _ _ _).1 A35_01256)) rfl
       ·refine Az.of (i:=3) rfl U (by rfl) ?_
        refine Cb (m:=2) (l:=[q26]) (enc:=eI) Ah Bm (by decide) rfl U U U U U ?_
        refine AA ⟨U,?_⟩
        exact AE (by exact AD U) (AH (by kernel_rfl) ((hA35 _ _ _).1 A35_12356)) rfl
       ·refine Az.of (i:=7) rfl U (by rfl) ?_
        refine zz (EI c33) (BM Bc U U gc33 (Ax _) rfl) rfl (AA ⟨U,?_⟩)
        exact AE (by exact AD U) (AH (by kernel_rfl) ((hA35 _ _ _).1 A35_12567)) rfl)
      have A35_125:A35 8 (bm 11 38) ⟨194,AP [(3,Ay),(63,(ow 0 0 s0)),(64,(i64 q26)),(67,MG)],(WX s0 p0 p2)⟩:=(hA35 _ _ _).2 (by
       refine Ae [0,3,6] U (by kernel_rfl) (by decide) ⟨?_,?_,?_,trivial⟩
       ·refine Az.of (i:=0) rfl U (by rfl) ?_
        refine zq tb U (AA ⟨U,?_⟩)
        exact AE (by exact Af [0,2] U (by decide) rfl U (.pure (AN fun _=>U) (.raw U U .nil)) (.same U)) (AH (by kernel_rfl) ((hA35 _ _ _).1 A35_0125)) rfl
       ·refine Az.of (i:=3) rfl U (by rfl) ?_
        refine Cb (m:=3) (l:=[q26]) (enc:=eI) Ah Bm (by decide) rfl U U U U U ?_
        refine AA ⟨U,?_⟩
        exact AE (by exact Af [0,1,3,2] U (by decide) rfl U (.pure (AN fun _=>U) (.raw U U (.pure (AN fun _=>U) (.raw U U .nil)))) (.same U)) (AH (by kernel_rfl) ((hA35 _ _ _).1 A35_1235)) rfl
       ·refine Az.of (i:=6) rfl U (by rfl) ?_
        refine zq tb U (AA ⟨U,?_⟩)
        exact AE (by exact Af [0,1] U (by decide) rfl U (.pure (AN fun _=>U) (.raw U U .nil)) (.same U)) (AH (by kernel_rfl) ((hA35 _ _ _).1 A35_1256)) rfl)
      have A35_12:A35 9 (bm 11 6) ⟨194,AP [(3,Ay),(5,BK),(63,(ow 0 0 s0)),(64,(i64 q26))],(WX s0 p0 p2)⟩:=(hA35 _ _ _).2 (by
       refine Ae [0,3,5] U (by kernel_rfl) (by decide) ⟨?_,?_,?_,trivial⟩
       ·refine Az.of (i:=0) rfl U (by rfl) ?_
        refine zq tb U (AA ⟨U,?_⟩)
        exact AE (by exact Af [0,2] U (by decide) rfl U (.pure (AN fun _=>U) (.raw U U .nil)) (.same U)) (AH (by kernel_rfl) ((hA35 _ _ _).1 A35_012)) rfl
       ·refine Az.of (i:=3) rfl U (by rfl) ?_
        refine Cb (m:=3) (l:=[q26]) (enc:=eI) Ah Bm (by decide) rfl U U U U U ?_
        refine AA ⟨U,?_⟩
        exact AE (by exact AD U) (AH (by kernel_rfl) ((hA35 _ _ _).1 A35_123)) rfl
       ·refine Az.of (i:=5) rfl U (by rfl) ?_
        refine zq tb U (AA ⟨U,?_⟩)
        exact AE (by exact AD U) (AH (by kernel_rfl) ((hA35 _ _ _).1 A35_125)) rfl)
      have A35_1:A35 10 (bm 11 2) ⟨194,AP [(3,Ay),(5,BK),(7,(i64 q26)),(63,(ow 0 0 s0))],(WX s0 p0 p2)⟩:=(hA35 _ _ _).2 (by
       refine Bt 2 (v:=(i64 q26)) rfl U (by kernel_rfl) (by kernel_rfl) (by kernel_rfl) rfl (CS U) ?_
       exact AE (by exact AD U) (AH (by kernel_rfl) ((hA35 _ _ _).1 A35_12)) rfl)
      have A35_e:A35 11 (bm 11 0) ⟨194,AP [(1,(ow 0 0 s0)),(3,Ay),(5,BK),(7,(i64 q26))],(WX s0 p0 p2)⟩:=(hA35 _ _ _).2 (by
       refine Bt 1 (v:=(ow 0 0 s0)) rfl U (by kernel_rfl) (by kernel_rfl) (by kernel_rfl) rfl (CS U) ?_
       exact AE (by exact AD U) (AH (by kernel_rfl) ((hA35 _ _ _).1 A35_1)) rfl)
      refine (hA35 _ _ _).2 ?_
      exact AE (by exact AD U) (AH (by kernel_rfl) ((hA35 _ _ _).1 A35_e)) rfl
   refine AK U (zm tb 2 U (zl tb U U (zm tb 2 U ?_)))
   rcases Sh.Au h1 with ⟨b36,h1⟩ | ⟨b36,h1⟩
   ·exact zs b36 U (zs b36 U (zs b36 U (zt b36 U (AA (M21 true (Sh.AB h1).symm _ (AD U))))))
   ·exact zg tb b36 U (zg tb b36 U (zg tb b36 U (zf b36 U (AA (M21 (!decide (p2.num=0)) (Sh.AB h1).symm _ (AD U))))))
  ·intro b17 h0
   refine zr tb U U ?_
   refine ci h0 U ?_ ?_ <;> clear h0
   ·intro b38 h0
    refine AF fun K39 hK39=>AF fun K40 hK40=>bs h0 fun o42 h1 h0=>?_
    have M42 :∀(t41:Bool),o42=t41→∀s,Wk 1 s ⟨194,AP [(1,(ow 0 0 s0)),(3,Ay),(5,BK),(92,(.bool t41))],(WX s0 p0 p2)⟩→K40 s:=by
     intro t41 hq s hw
     subst o42
     try dsimp only at h0
     refine hK40 _ (AR hw ?_)
     refine ci h0 U ?_ ?_ <;> clear h0
     ·intro b43 h0
      refine zr tb U U ?_
      replace h0:=Sh.AB h0
      subst r
      exact AJ (xr (Af (L:=[(6,(i64 (-1)))]) (st':=[(BL s0)]) [0] U (by decide) rfl U (.pure (AN fun _=>U) .nil) ⟨.rfl,trivial⟩))
     ·intro b43 h0
      refine AI (hK39 _ (AF fun K45 hK45=>?_))
      refine Be 7 (by kernel_rfl) (by kernel_rfl) (by rfl) ?_
      iterate 4 refine yq tb rfl ?_
      refine bs h0 fun l46 gl46 h0=>XJ (i:=1) (j:=Sh.len p2.kids) Ah Bc U U U IE gl46 (bs h0 fun l47 gl47 h0=>fk (enc:=(eS eI)) (u:=[]) Ah JA U U U gl47 (AN fun _=>U) (bs h0 fun q48 gq48 h0=>Sn (v':=(i64 q48)) Ah Zt (G3 hrec_impl_signatures_typeOf gq48) rfl (.val U (.own U U (fun _=>U) (.val U (.val U .nil)))) rfl U (BR (zq tb U (dn hK45 U ?_)))))
      replace h0:=Sh.AB h0
      subst r
      exact AJ (xr (Af (L:=[(6,(i64 q48))]) (st':=[(BL s0)]) [0] U (by decide) rfl U (.pure (AN fun _=>U) .nil) ⟨.rfl,trivial⟩))
    refine By (by kernel_rfl) (by kernel_rfl) (by rfl) ?_
    iterate 2 refine yq tb rfl ?_
    refine yl tb U U ?_
    iterate 2 refine yq tb rfl ?_
    rcases Sh.Au h1 with ⟨b49,h1⟩ | ⟨b49,h1⟩
    ·refine ys b49 U ?_
     iterate 2 refine ys b49 rfl ?_
     refine yt b49 U (yq tb U ?_)
     iterate 8 refine ys rfl rfl ?_
     exact yt U U (BR (M42 true (Sh.AB h1).symm _ (AD U)))
    ·refine yg tb b49 U ?_
     iterate 2 refine yg tb b49 rfl ?_
     refine yf b49 U (yq tb U ?_)
     rcases Sh.Au h1 with ⟨b50,h1⟩ | ⟨b50,h1⟩
     ·refine ys b50 U ?_
      iterate 7 refine ys b50 rfl ?_
      exact yt b50 U (BR (M42 true (Sh.AB h1).symm _ (AD U)))
     ·refine yg tb b50 U ?_
      iterate 3 refine yg tb b50 rfl ?_
      refine bs h1 fun c51 gc51 h1=>Jz (v:=(EI c51)) (DF U U b50) rfl (BM Bc U U gc51 (Ax _) rfl) (yg tb b50 U (bs h1 fun q52 gq52 h1=>?_))
      refine S4 (rowsP:=[(BL s0)]) (rows0:=[(BL s0)]) (rows1:=[(BL s0)]) (rows1':=[(BL s0)]) (v':=(i64 q52)) [0] (DF U U b50) Nc (hrec_impl_signatures_typeOf gq52) rfl (by decide) rfl U (.pure (AN fun _=>U) .nil) rfl U (.pure (AN fun _=>U) .nil) rfl U ?_
      exact yg tb b50 U (yf b50 U (BR (M42 (!decide (q52=0)) (Sh.AB h1).symm _ (AD U))))
   ·intro b38 h0
    refine zr tb U U ?_
    refine ci h0 U ?_ ?_ <;> clear h0
    ·intro b54 h0
     refine sr U fun K55 hK55=>zm tb 4 U (bs h0 fun q56 gq56 h0=>BY (v':=(ow 3 0 q56)) Ah Zg (Jr gq56) rfl U ⟨(B2 fun _=>U),trivial⟩ U U (zq tb U (dn hK55 U (AF fun K57 hK57=>AF fun K58 hK58=>bs h0 fun o60 h1 h0=>?_))))
     have M60 :∀(t59:Bool),o60=t59→∀s,Wk 1 s ⟨194,AP [(1,(ow 0 0 s0)),(3,Ay),(5,BK),(8,(ow 3 0 q56)),(130,(.bool t59))],[(BL s0),(D9 p0),(I3 p2.op p2.num p2.kids),(BL q56)]⟩→K58 s:=by
      intro t59 hq s hw
      subst o60
      try dsimp only at h0
      refine hK58 _ (AR hw ?_)
      refine ci h0 U ?_ ?_ <;> clear h0
      ·intro b61 h0
       refine zr tb U U ?_
       replace h0:=Sh.AB h0
       subst r
       exact AJ (xr (Af (L:=[(6,(i64 (-1)))]) (st':=[(BL s0)]) [0] U (by decide) rfl U (.pure (AN fun _=>U) .nil) ⟨.rfl,trivial⟩))
      ·intro b61 h0
       refine AI (hK57 _ (sr U fun K63 hK63=>zq tb U (zz (Bp q56) (Cs Ff U U U) rfl (bs h0 fun l64 gl64 h0=>TB (m:=4) (enc:=(eS eI)) (u:=[]) Ah JA U U U gl64 U U (zq tb U (dn hK63 U (AF fun K65 hK65=>sr U fun K66 hK66=>zq tb U (zz (Bp q56) (Cs Ff U U U) rfl ?_))))))))
       refine zq tb U (dn hK66 U (bs h0 fun o70 h1 h0=>?_))
       have M70 :∀(l69:(List (List Int))),o70=l69→∀s,Wk 1 s ⟨194,AP [(1,(ow 0 0 s0)),(3,Ay),(5,BK),(9,(ow 3 0 l69))],[(BL s0),(D9 p0),(I3 p2.op p2.num p2.kids),(ro 0 46 1 (eS eI) l69)]⟩→K65 s:=by
        intro l69 hq s hw
        subst o70
        try dsimp only at h0
        refine hK65 _ (AR hw (AF fun K71 hK71=>?_))
        refine Be 7 (by kernel_rfl) (by kernel_rfl) (by rfl) ?_
        iterate 4 refine yq tb rfl ?_
        refine bs h0 fun l72 gl72 h0=>XJ (i:=1) (j:=Sh.len p2.kids) Ah Bc U U U IE gl72 (yq tb U (bs h0 fun q73 gq73 h0=>Sn (v':=(i64 q73)) Ah Zt (G3 hrec_impl_signatures_typeOf gq73) rfl (.val U (.own U U (fun _=>U) (.val U (.own U U (fun _=>U) .nil)))) rfl U (BR (zq tb U (dn hK71 U ?_)))))
        replace h0:=Sh.AB h0
        subst r
        exact AJ (xr (Af (L:=[(6,(i64 q73))]) (st':=[(BL s0)]) [0] U (by decide) rfl U (.pure (AN fun _=>U) .nil) ⟨.rfl,trivial⟩))
       refine AU (As (σ:=Int×(List (List Int))) (fun n v=>Bb N p0 q56 n v.1 v.2=some o70) (fun (t67,l68)=>⟨194,AP [(1,(ow 0 0 s0)),(3,Ay),(5,BK),(9,(ow 4 0 l68)),(134,(ow 3 0 q56)),(135,(Bp q56)),(136,(i64 t67))],[(BL s0),(D9 p0),(I3 p2.op p2.num p2.kids),(BL q56),(ro 0 46 1 (eS eI) l68)]⟩) N (0,l64) h1 (AD U) (fun _ hv=>by rw[Bb] at hv;cases hv) ?_)
       rintro n ⟨t67,l68⟩ h1
       try dsimp only at h1 ⊢
       rw[Bb] at h1
       refine zr tb U U (AF fun K75 hK75=>?_)
       refine ci h1 U ?_ ?_ <;> clear h1
       ·intro b76 h1
        refine AI (hK75 _ (AF fun K77 hK77=>AU (sr U fun K78 hK78=>zq tb U (bs h1 fun c79 gc79 h1=>zz (.ptr 3 0 (Int.toNat t67) 0) (Bf Bm U U U U gc79) rfl (zz (i64 c79) (CP IJ U U (GH gc79) rfl) rfl (zm tb 2 U (dn hK78 U (AK U (zm tb 5 U ?_)))))))))
        refine bs h1 fun q80 gq80 h1=>zc Zc (Ks gq80) rfl U U (bs h1 fun c81 gc81 h1=>zz (Ed t67) (Bf JA U U U U gc81) rfl (Io (u':=q80) Ah HZ U U gc81 U U U (show 0+1≤1 by decide) rfl U (dn hK77 U (AK U (zm tb 2 U ?_)))))
        exact AA (xi (Sh.w (t67+1),Sh.put l68 t67 q80) h1 (AT (L:=[(1,(.own 0 0 (List.length s0))),(3,(.ptr 1 0 0 0)),(5,(.ptr 2 0 0 0)),(9,(.own 4 0 (List.length (Sh.put l68 t67 q80)))),(134,(.own 3 0 (List.length q56))),(135,(i64 (Sh.len q56))),(136,(i64 (Sh.w (t67+1))))]) ⟨.rfl,.rfl,.rfl,(.len (by simp only[Sh.A7])),.rfl,.rfl,.rfl,trivial⟩))
       ·intro b76 h1
        exact Aw (M70 l68 (Sh.AB h1).symm _ (Af [0,1,2,4] U (by decide) rfl U (.pure (AN fun _=>U) (.raw U U (.raw U U (.pure (AN fun _=>U) .nil)))) (.same U)))
     refine By (by kernel_rfl) (by kernel_rfl) (by rfl) ?_
     refine yq tb U (yz (Bp q56) (Cs Ff U U U) rfl ?_)
     iterate 2 refine yq tb rfl ?_
     rcases Sh.Au h1 with ⟨b82,h1⟩ | ⟨b82,h1⟩
     ·refine ys b82 U ?_
      iterate 6 refine ys b82 rfl ?_
      refine yt b82 U (yq tb U ?_)
      iterate 10 refine ys rfl rfl ?_
      exact yt U U (BR (M60 true (Sh.AB h1).symm _ (AD U)))
     ·refine yg tb b82 U (yg tb b82 U (Jz (v:=(IA p2)) (DF U U b82) rfl (Cq Ss U) (yg tb b82 U (Jz (v:=(Bp q56)) (DF U U b82) rfl (Cs Ff U U U) ?_))))
      iterate 2 refine yg tb b82 rfl ?_
      refine yf b82 U (yq tb U ?_)
      rcases Sh.Au h1 with ⟨b83,h1⟩ | ⟨b83,h1⟩
      ·refine ys b83 U ?_
       iterate 9 refine ys b83 rfl ?_
       exact yt b83 U (BR (M60 true (Sh.AB h1).symm _ (AD U)))
      ·refine yg tb b83 U ?_
       iterate 3 refine yg tb b83 rfl ?_
       refine bs h1 fun c84 gc84 h1=>Jz (v:=(EI c84)) (DF U U b83) rfl (BM Bc U U gc84 (Ax _) rfl) (yg tb b83 U (bs h1 fun q85 gq85 h1=>?_))
       refine S4 (rowsP:=[(BL s0)]) (rows0:=[(BL s0)]) (rows1:=[(BL s0)]) (rows1':=[(BL s0)]) (v':=(i64 q85)) [0] (DF U U b83) Nc (hrec_impl_signatures_typeOf gq85) rfl (by decide) rfl U (.pure (AN fun _=>U) .nil) rfl U (.pure (AN fun _=>U) .nil) rfl U ?_
       iterate 3 refine yg tb b83 rfl ?_
       exact yf b83 U (BR (M60 (!decide (q85=p2.num)) (Sh.AB h1).symm _ (AD U)))
    ·intro b54 h0
     refine AI (hK2 _ (sr U fun K86 hK86=>zm tb 2 U (zl tb U U (bs h0 fun l87 gl87 h0=>TB (m:=3) (enc:=eI) (u:=0) Ah Bm U U U gl87 U U (zq tb U (dn hK86 U (AF fun K88 hK88=>sr U fun K89 hK89=>zm tb 2 U (zl tb U U ?_))))))))
     refine zq tb U (dn hK89 U ?_)
     obtain⟨o93,h1,h0⟩:=Sh.BF h0
     have M93 :∀(l92:(List Int)),o93=Sum.inr l92→∀s,Wk 1 s ⟨194,AP [(3,Ay),(5,BK),(12,(ow 3 0 l92))],[(BL s0),(D9 p0),(I3 p2.op p2.num p2.kids),(BL l92)]⟩→K88 s:=by
      intro l92 hq s hw
      subst o93
      try dsimp only at h0
      refine hK88 _ (AR hw (sr U fun K94 hK94=>zm tb 6 U (Ak (Wk.Er (L:=[(182,(.agg (Gv p0))),(184,(i64 p2.op)),(186,(i64 p2.num)),(187,(ls eI l92))]) (st':=[(ro 0 3 1 eI s0),⟨0,119,2,[(Gv p0)]⟩,(I3 p2.op p2.num p2.kids),⟨1,3,1,[]⟩]) (id:=3) rfl (show 1≤3 by decide) (AN fun _=>U) ⟨.rfl,.rfl,.rfl,(.Er U),trivial⟩ U) (bs h0 fun q95 gq95 h0=>zc (v':=(.DT [(i64 q95.1),(.bool q95.2)])) dI (JC gq95) rfl U U (zm tb 5 U (dn hK94 U (AF fun K96 hK96=>zr tb U U ?_)))))))
      refine ci h0 U ?_ ?_ <;> clear h0
      ·intro b98 h0
       have b99:q95.2=false:=by simpa using b98
       refine zr tb U U ?_
       replace h0:=Sh.AB h0
       subst r
       exact AJ (xr (Af (L:=[(6,(i64 (-1)))]) (st':=[(BL s0)]) [0] U (by decide) rfl U (.pure (AN fun _=>U) .nil) ⟨.rfl,trivial⟩))
      ·intro b98 h0
       have b101:q95.2=true:=by simpa using b98
       refine AI (hK96 _ (zr tb U U ?_))
       replace h0:=Sh.AB h0
       subst r
       exact AJ (xr (Af (L:=[(6,(i64 q95.1))]) (st':=[(BL s0)]) [0] U (by decide) rfl U (.pure (AN fun _=>U) .nil) ⟨.rfl,trivial⟩))
     refine AU (As (σ:=Int×(List Int)) (fun n v=>Ba s0 p0 p2 rec_impl_signatures_typeOf n v.1 v.2=some o93) (fun (t90,l91)=>⟨194,AP [(1,(ow 0 0 s0)),(3,Ay),(5,BK),(12,(ow 3 0 l91)),(161,(G8 p2)),(162,(IA p2)),(163,(i64 t90))],[(BL s0),(D9 p0),(I3 p2.op p2.num p2.kids),(BL l91)]⟩) N (0,l87) h1 (AD U) (fun _ hv=>by rw[Ba] at hv;cases hv) ?_)
     rintro n ⟨t90,l91⟩ h1
     try dsimp only at h1 ⊢
     rw[Ba] at h1
     refine zr tb U U (AF fun K104 hK104=>?_)
     refine ci h1 U ?_ ?_ <;> clear h1
     ·intro b105 h1
      refine AI (hK104 _ (AF fun K106 hK106=>AU (sr U fun K107 hK107=>zq tb U (bs h1 fun c108 gc108 h1=>zz (EI c108) (BM Bc U U gc108 (Ax _) rfl) rfl (zq tb U (A0 (m:=4) Ah Fz U U (zq tb U (A1 Ah Bl U U U U U U (show 0+3≤3 by decide) rfl (dn hK107 U ?_)))))))))
      refine sr U fun K109 hK109=>zm tb 5 U (bs h1 fun q110 gq110 h1=>?_)
      refine OS (rows0:=[(BL s0)]) (rows1:=[(BL s0)]) (st':=[(BL s0),(D9 p0),(I3 p2.op p2.num p2.kids),(BL l91),(I3 c108.op c108.num c108.kids)]) (v':=(i64 q110)) [0] Ah Nc (hrec_impl_signatures_typeOf gq110) rfl (by decide) rfl U (.pure (AN fun _=>U) .nil) rfl U (.pure (AN fun _=>U) .nil) .nil U U ?_
      refine bs h1 fun c111 gc111 h1=>zz (.ptr 3 0 (Int.toNat t90) 0) (Bf Bm U U U U gc111) rfl (Io (u':=q110) Ah IJ U U gc111 U U U (show 0+1≤1 by decide) rfl U (dn hK109 U (sr U fun K112 hK112=>zm tb 2 U (bs h1 fun c113 gc113 h1=>?_))))
      refine zz (.ptr 3 0 (Int.toNat t90) 0) (Bf Bm U U U (by simp only[Sh.A7]) gc113) rfl ?_
      refine zz (i64 c113) (CP IJ U U (GH gc113) rfl) rfl (zq tb U (dn hK112 U ?_))
      refine ci h1 U ?_ ?_ <;> clear h1
      ·intro b114 h1
       refine zr tb U U ?_
       replace h1:=Sh.AB h1
       subst o93
       try dsimp only[id] at h0
       replace h0:=Sh.AB h0
       subst r
       exact AJ (xr (Af (L:=[(6,(i64 (-1)))]) (st':=[(BL s0)]) [0] U (by decide) rfl U (.pure (AN fun _=>U) .nil) ⟨.rfl,trivial⟩))
      ·intro b114 h1
       refine AI (hK106 _ (AK U (zm tb 2 U ?_)))
       exact AA (xi (Sh.w (t90+1),Sh.put l91 t90 q110) h1 (by refine Wk.trans (Af (L:=[(1,(.own 0 0 (List.length s0))),(3,(.ptr 1 0 0 0)),(5,(.ptr 2 0 0 0)),(12,(.own 3 0 (List.length l91))),(161,(.sl (List.map BS p2.kids))),(162,(i64 (Sh.len p2.kids))),(163,(i64 (Sh.w (t90+1))))]) (st':=[⟨0,3,1,List.map eI s0⟩,⟨0,119,2,[(Gv p0)]⟩,⟨0,44,3,[[(i64 p2.op),(i64 p2.num),(.sl (List.map BS p2.kids))]]⟩,⟨0,3,1,List.map eI (Sh.put l91 t90 q110)⟩]) [0,1,2,3] U (by decide) rfl U (.pure (AN fun _=>U) (.raw U U (.raw U U (.pure (AN fun _=>U) .nil)))) ⟨.rfl,.rfl,.rfl,.rfl,.rfl,.rfl,.rfl,trivial⟩) ?_;exact AT (L:=[(1,(.own 0 0 (List.length s0))),(3,(.ptr 1 0 0 0)),(5,(.ptr 2 0 0 0)),(12,(.own 3 0 (List.length (Sh.put l91 t90 q110)))),(161,(.sl (List.map BS p2.kids))),(162,(i64 (Sh.len p2.kids))),(163,(i64 (Sh.w (t90+1))))]) ⟨.rfl,.rfl,.rfl,(.len (by simp only[Sh.A7])),.rfl,.rfl,.rfl,trivial⟩))
     ·intro b105 h1
      exact Aw (M93 l91 (Sh.AB h1).symm _ (AD U))

theorem Jl {N:Nat} :∀(n:Nat),∀{s0:(List Int)} {p0:A6} {p2:AG} {r:Int},BO N n s0 p0 p2=some r→Ag Tryz.prog 101 [(Fg p0),(ow 0 0 s0),(B5 p2)] [(BL s0)] (fun v st=>v=(i64 r)∧st=[(BL s0)]):=by
 intro n
 induction n with
 | zero=>intro s0 p0 p2 r h0;cases h0
 | succ n ih=>
  intro s0 p0 p2 r h0
  rw[BO] at h0
  exact Jo (fun h=>ih h) h0
theorem Kd {N:Nat} :∀{s0:(List Int)} {p0:A6} {p2:AG} {r:Int},GP N s0 p0 p2=some r→Ag Tryz.prog 101 [(Fg p0),(ow 0 0 s0),(B5 p2)] [(BL s0)] (fun v st=>v=(i64 r)∧st=[(BL s0)]):=by
 intro s0 p0 p2 r h0
 exact Jl N h0
theorem RX {N:Nat} {p0:Aa} {p1:(List Int)} {p2:AG} {r:Int} (h0:Jx N p0 p1 p2=some r):Ag Tryz.prog 54 (SQ p0 p1 p2) [] (fun v st=>v=(i64 r)∧st=[]):=by
 unfold Jx at h0
 refine ai Tryz.func54 U U U U (sr U fun K1 hK1=>BH (m:=0) Ah U U U U U (BH (m:=1) Ah U U U U U (zq tb U (dn hK1 U (AF fun K2 hK2=>AF fun K3 hK3=>bs h0 fun o5 h1 h0=>?_)))))
 have M5 :∀(t4:Bool),o5=t4→∀s,Wk 0 s ⟨28,AP [(1,(ls eI p1)),(3,Ar),(5,Ay),(21,(.bool t4))],[(Z9 p0.decls p0.funcs),(I3 p2.op p2.num p2.kids)]⟩→K3 s:=by
  intro t4 hq s hw
  subst o5
  try dsimp only at h0
  refine hK3 _ (AR hw ?_)
  refine ci h0 U ?_ ?_ <;> clear h0
  ·intro b6 h0
   refine zr tb U U ?_
   replace h0:=Sh.AB h0
   subst r
   exact AJ (xr (An [(6,(i64 (-1)))] U))
  ·intro b6 h0
   refine AI (hK2 _ (AF fun K8 hK8=>?_))
   refine HK (by kernel_rfl) ?_
   refine bs h0 fun q9 gq9 h0=>bs h0 fun q10 gq10 h0=>bs h0 fun q11 gq11 h0=>JP fun A12 hA12=>?_
   have A12_0123456:A12 0 (bm 7 127) ⟨28,AP [(6,(i64 q11))],[]⟩:=(hA12 _ _ _).2 (by
    refine GZ U (by kernel_rfl) ?_
    refine hK8 _ ?_
    replace h0:=Sh.AB h0
    subst r
    exact AJ (Exists.intro _ (And.intro (AT (L:=[(6,(i64 q11))]) (.same U)) (And.intro U U))))
   have A12_012345:A12 1 (bm 7 63) ⟨28,AP [(27,(i64 q11))],[]⟩:=(hA12 _ _ _).2 (by
    refine Bt 6 (v:=(i64 q11)) rfl U (by kernel_rfl) (by kernel_rfl) (by kernel_rfl) rfl (LQ U) ?_
    exact AE (by exact AD U) (AH (by kernel_rfl) ((hA12 _ _ _).1 A12_0123456)) rfl)
   have A12_01234:A12 2 (bm 7 31) ⟨28,AP [(23,(Fg q9)),(25,(ow 0 0 q10)),(26,(B5 p2))],[(BL q10)]⟩:=(hA12 _ _ _).2 (by
    refine Ae [5] U (by kernel_rfl) (by decide) ⟨?_,trivial⟩
    ·refine Az.of (i:=5) rfl U (by rfl) ?_
     refine OS (rows0:=[(BL q10)]) (rows1:=[(BL q10)]) (st':=[(BL q10)]) (v':=(i64 q11)) [0] Ah Nc (Kd gq11) rfl (by decide) rfl U (.pure (AN fun _=>U) .nil) rfl U (.pure (AN fun _=>U) .nil) .nil U U ?_
     refine AA ⟨U,?_⟩
     exact AE (by exact Af [] U (by decide) rfl U .nil (.same U)) (AH (by kernel_rfl) ((hA12 _ _ _).1 A12_012345)) rfl)
   have A12_0123:A12 3 (bm 7 15) ⟨28,AP [(5,Ar),(23,(Fg q9)),(25,(ow 1 0 q10))],[(I3 p2.op p2.num p2.kids),(BL q10)]⟩:=(hA12 _ _ _).2 (by
    refine Ae [4] U (by kernel_rfl) (by decide) ⟨?_,trivial⟩
    ·refine Az.of (i:=4) rfl U (by rfl) ?_
     refine zq tb U (AA ⟨U,?_⟩)
     exact AE (by exact Af [1] U (by decide) rfl U (.pure (AN fun _=>U) .nil) (.same U)) (AH (by kernel_rfl) ((hA12 _ _ _).1 A12_01234)) rfl)
   have A12_0124:A12 3 (bm 7 23) ⟨28,AP [(23,(Fg q9)),(24,(ls eI p1)),(26,(B5 p2))],[]⟩:=(hA12 _ _ _).2 (by
    refine Ae [3] U (by kernel_rfl) (by decide) ⟨?_,trivial⟩
    ·refine Az.of (i:=3) rfl U (by rfl) ?_
     refine BY (v':=(ow 0 0 q10)) Ah MB (B0 gq10) rfl U ⟨(B2 fun _=>U),trivial⟩ U U (AA ⟨U,?_⟩)
     exact AE (by exact AD U) (AH (by kernel_rfl) ((hA12 _ _ _).1 A12_01234)) rfl)
   have A12_012:A12 4 (bm 7 7) ⟨28,AP [(5,Ar),(23,(Fg q9)),(24,(ls eI p1))],[(I3 p2.op p2.num p2.kids)]⟩:=(hA12 _ _ _).2 (by
    refine Ae [3,4] U (by kernel_rfl) (by decide) ⟨?_,?_,trivial⟩
    ·refine Az.of (i:=3) rfl U (by rfl) ?_
     refine BY (v':=(ow 1 0 q10)) Ah MB (B0 gq10) rfl U ⟨(B2 fun _=>U),trivial⟩ U U (AA ⟨U,?_⟩)
     exact AE (by exact AD U) (AH (by kernel_rfl) ((hA12 _ _ _).1 A12_0123)) rfl
    ·refine Az.of (i:=4) rfl U (by rfl) ?_
     refine zq tb U (AA ⟨U,?_⟩)
     exact AE (by exact Af [] U (by decide) rfl U .nil (.same U)) (AH (by kernel_rfl) ((hA12 _ _ _).1 A12_0124)) rfl)
   have A12_024:A12 4 (bm 7 21) ⟨28,AP [(22,(HM p0)),(24,(ls eI p1)),(26,(B5 p2))],[]⟩:=(hA12 _ _ _).2 (by
    refine Ae [1] U (by kernel_rfl) (by decide) ⟨?_,trivial⟩
    ·refine Az.of (i:=1) rfl U (by rfl) ?_
     refine zc (v':=(Fg q9)) Zv (MV gq9) rfl U U (AA ⟨U,?_⟩)
     exact AE (by exact AD U) (AH (by kernel_rfl) ((hA12 _ _ _).1 A12_0124)) rfl)
   have A12_02:A12 5 (bm 7 5) ⟨28,AP [(5,Ar),(22,(HM p0)),(24,(ls eI p1))],[(I3 p2.op p2.num p2.kids)]⟩:=(hA12 _ _ _).2 (by
    refine Ae [1,4] U (by kernel_rfl) (by decide) ⟨?_,?_,trivial⟩
    ·refine Az.of (i:=1) rfl U (by rfl) ?_
     refine zc (v':=(Fg q9)) Zv (MV gq9) rfl U U (AA ⟨U,?_⟩)
     exact AE (by exact AD U) (AH (by kernel_rfl) ((hA12 _ _ _).1 A12_012)) rfl
    ·refine Az.of (i:=4) rfl U (by rfl) ?_
     refine zq tb U (AA ⟨U,?_⟩)
     exact AE (by exact Af [] U (by decide) rfl U .nil (.same U)) (AH (by kernel_rfl) ((hA12 _ _ _).1 A12_024)) rfl)
   have A12_24:A12 5 (bm 7 20) ⟨28,AP [(3,Ar),(24,(ls eI p1)),(26,(B5 p2))],[(Z9 p0.decls p0.funcs)]⟩:=(hA12 _ _ _).2 (by
    refine Ae [0] U (by kernel_rfl) (by decide) ⟨?_,trivial⟩
    ·refine Az.of (i:=0) rfl U (by rfl) ?_
     refine zq tb U (AA ⟨U,?_⟩)
     exact AE (by exact Af [] U (by decide) rfl U .nil (.same U)) (AH (by kernel_rfl) ((hA12 _ _ _).1 A12_024)) rfl)
   have A12_2:A12 6 (bm 7 4) ⟨28,AP [(3,Ar),(5,Ay),(24,(ls eI p1))],[(Z9 p0.decls p0.funcs),(I3 p2.op p2.num p2.kids)]⟩:=(hA12 _ _ _).2 (by
    refine Ae [0,4] U (by kernel_rfl) (by decide) ⟨?_,?_,trivial⟩
    ·refine Az.of (i:=0) rfl U (by rfl) ?_
     refine zq tb U (AA ⟨U,?_⟩)
     exact AE (by exact Af [1] U (by decide) rfl U (.raw U U .nil) (.same U)) (AH (by kernel_rfl) ((hA12 _ _ _).1 A12_02)) rfl
    ·refine Az.of (i:=4) rfl U (by rfl) ?_
     refine zq tb U (AA ⟨U,?_⟩)
     exact AE (by exact Af [0] U (by decide) rfl U (.raw U U .nil) (.same U)) (AH (by kernel_rfl) ((hA12 _ _ _).1 A12_24)) rfl)
   have A12_e:A12 7 (bm 7 0) ⟨28,AP [(1,(ls eI p1)),(3,Ar),(5,Ay)],[(Z9 p0.decls p0.funcs),(I3 p2.op p2.num p2.kids)]⟩:=(hA12 _ _ _).2 (by
    refine Bt 2 (v:=(ls eI p1)) rfl U (by kernel_rfl) (by kernel_rfl) (by kernel_rfl) rfl (CS U) ?_
    exact AE (by exact AD U) (AH (by kernel_rfl) ((hA12 _ _ _).1 A12_2)) rfl)
   refine (hA12 _ _ _).2 ?_
   exact AE (by exact AD U) (AH (by kernel_rfl) ((hA12 _ _ _).1 A12_e)) rfl
 refine AK U (zq tb U (bs h1 fun q13 gq13 h1=>zc cY (KT gq13) rfl U U (zm tb 2 U ?_)))
 rcases Sh.Au h1 with ⟨b14,h1⟩ | ⟨b14,h1⟩
 ·refine zs b14 U (zs b14 U (zs b14 U (zt b14 U (zq tb U ?_))))
  iterate 5 refine zs rfl rfl ?_
  exact zt U U (AA (M5 true (Sh.AB h1).symm _ (AD U)))
 ·refine zg tb b14 U (bs h1 fun q15 gq15 h1=>zd b14 cD (LX gq15) rfl U U U (zg tb b14 U (zf b14 U (zq tb U ?_))))
  rcases Sh.Au h1 with ⟨b16,h1⟩ | ⟨b16,h1⟩
  ·refine zs b16 U ?_
   iterate 4 refine zs b16 rfl ?_
   exact zt b16 U (AA (M5 true (Sh.AB h1).symm _ (AD U)))
  ·exact zg tb b16 U (zg tb b16 U (zg tb b16 U (bs h1 fun q17 gq17 h1=>zd b16 Zj (Ie gq17) rfl U U U (zg tb b16 U (zf b16 U (AA (M5 (!q17) (Sh.AB h1).symm _ (AD U))))))))
theorem I8 {N:Nat} {p0:Aa} {r:Bool} (h0:Es N p0=some r):Ag Tryz.prog 24 [(HM p0)] [] (fun v st=>v=(.bool r)∧st=[]):=by
 unfold Es at h0
 refine ai Tryz.func24 U U U U (sr U fun K1 hK1=>BH (m:=0) Ah U U U U U (zq tb U (dn hK1 U (AF fun K2 hK2=>sr U fun K3 hK3=>zq tb U (bs h0 fun q4 gq4 h0=>zc cY (KT gq4) rfl U U (zq tb U (dn hK3 U ?_)))))))
 refine ci h0 U ?_ ?_ <;> clear h0
 ·intro b5 h0
  have b6:q4=false:=by simpa using b5
  refine zr tb U U ?_
  replace h0:=Sh.AB h0
  subst r
  exact AJ (xr (An [(2,(.bool false))] U))
 ·intro b5 h0
  have b8:q4=true:=by simpa using b5
  refine AI (hK2 _ (AF fun K9 hK9=>sr U fun K10 hK10=>zm tb 2 U (zl tb U U (zq tb U (dn hK10 U ?_)))))
  obtain⟨o12,h1,h0⟩:=Sh.BF h0
  have M12 :∀(_:Unit),o12=Sum.inr ()→∀s,Wk 0 s ⟨25,AP [],[]⟩→K9 s:=by
   intro _ hq s hw
   subst o12
   try dsimp only at h0
   refine hK9 _ (AR hw (zr tb U U ?_))
   replace h0:=Sh.AB h0
   subst r
   exact AJ (xr (AT (L:=[(2,(.bool true))]) (.same U)))
  refine AU (As (σ:=Int) (fun n v=>Ce N p0 n v=some o12) (fun t11=>⟨25,AP [(1,Ar),(9,(IQ p0)),(10,(i64 (Sh.len p0.funcs))),(11,(i64 t11))],[(Z9 p0.decls p0.funcs)]⟩) N 0 h1 (AD U) (fun _ hv=>by rw[Ce] at hv;cases hv) ?_)
  rintro n t11 h1
  try dsimp only at h1 ⊢
  rw[Ce] at h1
  refine zr tb U U (AF fun K15 hK15=>?_)
  refine ci h1 U ?_ ?_ <;> clear h1
  ·intro b16 h1
   refine AI (hK15 _ (AF fun K17 hK17=>AU (sr U fun K18 hK18=>bs h1 fun c19 gc19 h1=>zx CR gc19 U U U (zq tb U (A0 (m:=1) Ah Mx U U (A1 Ah Pt U U U U U U (show 0+5≤5 by decide) rfl (dn hK18 U (AF fun K20 hK20=>?_))))))))
   refine By (by kernel_rfl) (by kernel_rfl) (by rfl) ?_
   iterate 5 refine yq tb rfl ?_
   refine bs h1 fun q21 gq21 h1=>Bk (v:=(i64 q21)) Ah fS (RX gq21) rfl U U ?_
   iterate 3 refine yq tb rfl ?_
   refine BR (hK20 _ ?_)
   refine ci h1 U ?_ ?_ <;> clear h1
   ·intro b22 h1
    have b23:decide (q21=c19.result)=false:=by simpa using b22
    refine zr tb U U ?_
    replace h1:=Sh.AB h1
    subst o12
    try dsimp only[id] at h0
    replace h0:=Sh.AB h0
    subst r
    exact AJ (xr (An [(2,(.bool false))] U))
   ·intro b22 h1
    have b25:decide (q21=c19.result)=true:=by simpa using b22
    refine AI (hK17 _ (AK U (zm tb 2 U ?_)))
    exact AA (xi (Sh.w (t11+1)) h1 (Af [0] U (by decide) rfl U (.raw U U .nil) (.same U)))
  ·intro b16 h1
   exact Aw (M12 () (Sh.AB h1).symm _ (An _ U))
end Go.Proofs.YtpahalfiiahddaaGreat

