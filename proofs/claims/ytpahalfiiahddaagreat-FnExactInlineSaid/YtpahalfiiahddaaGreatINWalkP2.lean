import Derived.Test.YtpahalfiiahddaaGreatProg
import Derived.Test.YtpahalfiiahddaaGreatGAbsXToAbsZN
import Derived.Test.YtpahalfiiahddaaGreatGAbsZPToSSDefs
import Derived.Test.YtpahalfiiahddaaGreatGHADefsToINDefs
import Derived.Test.YtpahalfiiahddaaGreatCFWalk
import Derived.Test.YtpahalfiiahddaaGreatLAWalk
import Derived.Test.YtpahalfiiahddaaGreatINWalkP1
namespace Go.Proofs.YtpahalfiiahddaaGreat
open Go Go.Abs RC
attribute [local irreducible] Go.Abs.DF
set_option maxRecDepth 100000
set_option maxHeartbeats 4000000

theorem P8:By Tryz.prog 131=some ⟨4,1,1,[.bool false]⟩:=by kernel_rfl
theorem dq:Ch Tryz.prog 131=some (false,1):=by kernel_rfl
theorem dV:Ch Tryz.prog 4=some (false,1):=by kernel_rfl
theorem eF:HN Tryz.prog 131=some [.zc]:=by kernel_rfl

theorem Jk {N:Nat} {p0:A1} {p1:Int} {p2:Int} {p3:(List Int)} {r:Int×Bool} (h0:Av N p0 p1 p2 p3=some r):Aa Tryz.prog 128 [(.agg (FN p0)),(i64 p1),(i64 p2),(ls eI p3)] [] (fun v st=>v=(.DE [(i64 r.1),(.bool r.2)])∧st=[]):=by
 unfold Av at h0
 refine ai Tryz.func128 U U U U (sr U fun K1 hK1=>A7 (m:=0) Ac U U U U U (zm tb 2 U (dn hK1 U (zr tb U U (AB fun K3 hK3=>?_)))))
 obtain⟨o5,h1,h0⟩:=Sh.A8 h0
 have M5 :∀(l4:(List Int)),o5=Sum.inr l4→∀s,Wk 0 s ⟨149,AL [(2,(i64 p2)),(3,(ls eI p3)),(10,(ow 0 0 l4)),(11,(i64 0))],[(BB l4)]⟩→K3 s:=by
  intro l4 hq s hw
  subst o5
  try dsimp only at h0
  refine hK3 _ (AM hw (AB fun K6 hK6=>bs h0 fun o8 h1 h0=>?_))
  have M8 :∀(t7:Bool),o8=t7→∀s,Wk 0 s ⟨149,AL [(8,(i64 0)),(9,(.bool t7))],[]⟩→K6 s:=by
   intro t7 hq s hw
   subst o8
   try dsimp only at h0
   refine hK6 _ (AM hw ?_)
   obtain rfl:=Sh.AA h0
   exact AI (xr (AS (L:=[(8,(i64 0)),(9,(.bool t7))]) (.same U)))
  refine AF U (zm tb 4 U ?_)
  rcases Sh.Ap h1 with ⟨b9,h1⟩ | ⟨b9,h1⟩
  ·exact zg tb b9 U (zg tb b9 U (Af (Wk.DN (L:=[(141,(i64 0)),(144,(.bool (decide (p2=0)))),(145,(ls eI p3)),(146,(ls eI l4))]) (st':=WK) (id:=0) rfl (show 0≤0 by decide) (AJ fun _=>U) ⟨.rfl,.rfl,.rfl,(.DN U),trivial⟩ U) (bs h1 fun q10 gq10 h1=>zd b9 (hb 139) (FQ gq10) rfl U U U (zt b9 U (zm tb 2 U (AE (M8 q10 (Sh.AA h1).symm _ (Ai _ U))))))))
  ·exact zs b9 U (zs b9 U (zs b9 U (zf b9 U (zm tb 2 U (AE (M8 false (Sh.AA h1).symm _ (Ai _ U)))))))
 refine zr tb U U (AP (zr tb U U ?_))
 refine ci h1 U ?_ ?_ <;> clear h1 <;> intro b13 h1
 ·refine AB fun K14 hK14=>bs h1 fun o16 h2 h1=>?_
  have M16 :∀(t15:Bool),o16=t15→∀s,Wk 0 s ⟨149,AL [(8,(i64 0)),(9,(.bool t15))],[]⟩→K14 s:=by
   intro t15 hq s hw
   subst o16
   try dsimp only at h1
   refine hK14 _ (AM hw ?_)
   obtain rfl:=Sh.AA h1
   try dsimp only[id] at h0
   obtain rfl:=Sh.AA h0
   exact AI (xr (AS (L:=[(8,(i64 0)),(9,(.bool t15))]) (.same U)))
  refine AF U (zm tb 3 U ?_)
  rcases Sh.Ap h2 with ⟨b17,h2⟩ | ⟨b17,h2⟩
  ·refine zg tb b17 U (zg tb b17 U (zt b17 U (zq tb U ?_)))
   rcases Sh.Ap h2 with ⟨b18,h2⟩ | ⟨b18,h2⟩
   ·exact zg tb b18 U (BH (v:=(B0 p3)) (DT U U b18) rfl (CK Fp U) (zg tb b18 U (zt b18 U (zm tb 2 U (AE (M16 (decide ((Sh.len p3)=0)) (Sh.AA h2).symm _ (Ai _ U)))))))
   ·exact zs b18 U (zs b18 U (zs b18 U (zf b18 U (zm tb 2 U (AE (M16 false (Sh.AA h2).symm _ (Ai _ U)))))))
  ·refine zs b17 U (zs b17 U (zf b17 U (zq tb U ?_)))
   iterate 3 refine zs rfl rfl ?_
   exact zf U U (zm tb 2 U (AE (M16 false (Sh.AA h2).symm _ (Ai _ U))))
 ·refine AB fun K19 hK19=>bs h1 fun o21 h2 h1=>?_
  have M21 :∀(t20:Bool),o21=t20→∀s,Wk 0 s ⟨149,AL [(1,(i64 p1)),(2,(i64 p2)),(3,(ls eI p3)),(4,Am),(11,(i64 0)),(18,(i64 p1)),(32,(.bool t20))],[(Er p0)]⟩→K19 s:=by
   intro t20 hq s hw
   subst o21
   try dsimp only at h1
   refine hK19 _ (AM hw ?_)
   refine ci h1 U ?_ ?_ <;> clear h1 <;> intro b22 h1
   ·refine AF U ?_
    refine Bu (m:=1) (l:=[(0:Int),0]) (enc:=eI) Ac BJ (by decide) rfl U U U U U ?_
    refine zq tb U ?_
    exact AE (M5 [(0:Int),0] (Sh.AA h1).symm _ (AU [1] U (by decide) rfl U (.pure (AJ fun _=>U) .nil) (.same U)))
   ·refine zr tb U U ?_
    refine ci h1 U ?_ ?_ <;> clear h1 <;> intro b24 h1
    ·refine AF U ?_
     refine Bu (m:=1) (l:=[(0:Int)]) (enc:=eI) Ac BJ (by decide) rfl U U U U U ?_
     refine zq tb U ?_
     exact AE (M5 [(0:Int)] (Sh.AA h1).symm _ (AU [1] U (by decide) rfl U (.pure (AJ fun _=>U) .nil) (.same U)))
    ·refine zr tb U U ?_
     refine ci h1 U ?_ ?_ <;> clear h1 <;> intro b26 h1
     ·refine AB fun K27 hK27=>sr U fun K28 hK28=>zq tb U (zl tb U U (zq tb U (dn hK28 U ?_)))
      refine ci h1 U ?_ ?_ <;> clear h1 <;> intro b29 h1
      ·have b30:decide ((Sh.len p3)=2)=false:=by simpa using b29
       refine zr tb U U ?_
       obtain rfl:=Sh.AA h1
       try dsimp only[id] at h0
       obtain rfl:=Sh.AA h0
       exact AI (xr (Ai [(8,(i64 (-1))),(9,(.bool false))] U))
      ·have b32:decide ((Sh.len p3)=2)=true:=by simpa using b29
       refine AG (hK27 _ (AB fun K33 hK33=>?_))
       refine Hh (by kernel_rfl) ?_
       refine bs h1 fun c34 gc34 h1=>bs h1 fun q35 gq35 h1=>Jo fun A36 hA36=>?_
       have A36_0123456789ab:A36 0 (bm 12 4095) ⟨149,AL [(2,(i64 p2)),(3,(ls eI p3)),(12,Am),(13,(.bool q35.2))],[(Sp q35.1)]⟩:=(hA36 _ _ _).2 (by
        refine G0 U (by kernel_rfl) ?_
        refine hK33 _ (AB fun K37 hK37=>bs h1 fun o39 h2 h1=>?_)
        have M39 :∀(t38:Bool),o39=t38→∀s,Wk 0 s ⟨149,AL [(8,(i64 q35.1.to)),(9,(.bool t38))],[]⟩→K37 s:=by
         intro t38 hq s hw
         subst o39
         try dsimp only at h1
         refine hK37 _ (AM hw ?_)
         obtain rfl:=Sh.AA h1
         try dsimp only[id] at h0
         obtain rfl:=Sh.AA h0
         exact AI (xr (AS (L:=[(8,(i64 q35.1.to)),(9,(.bool t38))]) (.same U)))
        refine Bk (by kernel_rfl) (by kernel_rfl) (by rfl) ?_
        iterate 4 refine yq tb rfl ?_
        rcases Sh.Ap h2 with ⟨b40,h2⟩ | ⟨b40,h2⟩
        ·refine yg tb b40 U (bs h2 fun c41 gc41 h2=>Kh (v:=(.Bd (eI c41) 0)) (DT U U b40) rfl (FC BJ U U gc41 U) ?_)
         iterate 4 refine yg tb b40 rfl ?_
         refine yt b40 U (yq tb U ?_)
         rcases Sh.Ap h2 with ⟨b42,h2⟩ | ⟨b42,h2⟩
         ·refine yg tb b42 U (yg tb b42 U (yt b42 U ?_))
          iterate 2 refine yq tb rfl ?_
          exact BL (M39 (decide (p2=0)) (Sh.AA h2).symm _ (Ai _ U))
         ·refine ys b42 U (ys b42 U (yf b42 U ?_))
          iterate 2 refine yq tb rfl ?_
          exact BL (M39 false (Sh.AA h2).symm _ (Ai _ U))
        ·refine ys b40 U ?_
         iterate 5 refine ys b40 rfl ?_
         refine yf b40 U (yq tb U ?_)
         iterate 2 refine ys rfl rfl ?_
         refine yf U U ?_
         iterate 2 refine yq tb rfl ?_
         exact BL (M39 false (Sh.AA h2).symm _ (by exact AU [] U (by decide) rfl U .nil (.same U))))
       have A36_0123456789a:A36 1 (bm 12 2047) ⟨149,AL [(2,(i64 p2)),(3,(ls eI p3)),(12,Am),(54,(.bool q35.2))],[(Sp q35.1)]⟩:=(hA36 _ _ _).2 (by
        refine Bq 11 (v:=(.bool q35.2)) rfl U (by kernel_rfl) (by kernel_rfl) (by kernel_rfl) rfl (MO U) ?_
        exact xt hA36 A36_0123456789ab)
       have A36_0123456789:A36 2 (bm 12 1023) ⟨149,AL [(2,(i64 p2)),(3,(ls eI p3)),(12,Am),(53,(.agg (AT q35.1))),(54,(.bool q35.2))],[Qc]⟩:=(hA36 _ _ _).2 (by
        refine xa [10] ⟨?_,trivial⟩
        ·refine xo 10 ?_
         exact Ay Ac Ji U U U U U U (show 0+3≤3 by decide) rfl (xd hA36 A36_0123456789a))
       have A36_012345678:A36 3 (bm 12 511) ⟨149,AL [(2,(i64 p2)),(3,(ls eI p3)),(53,(.agg (AT q35.1))),(54,(.bool q35.2))],[]⟩:=(hA36 _ _ _).2 (by
        refine xa [9] ⟨?_,trivial⟩
        ·refine xo 9 ?_
         exact As (m:=0) Ac Gm U U (xd hA36 A36_0123456789))
       have A36_012345679a:A36 2 (bm 12 1791) ⟨149,AL [(2,(i64 p2)),(3,(ls eI p3)),(12,Am),(46,(RD q35.1 q35.2))],[(Sp q35.1)]⟩:=(hA36 _ _ _).2 (by
        refine xa [8] ⟨?_,trivial⟩
        ·exact xq tb hA36 A36_0123456789a)
       have A36_012345679:A36 3 (bm 12 767) ⟨149,AL [(2,(i64 p2)),(3,(ls eI p3)),(12,Am),(46,(RD q35.1 q35.2)),(53,(.agg (AT q35.1)))],[Qc]⟩:=(hA36 _ _ _).2 (by
        refine xa [8,10] ⟨?_,?_,trivial⟩
        ·exact xq tb hA36 A36_0123456789
        ·refine xo 10 ?_
         exact Ay Ac Ji U U U U U U (show 0+3≤3 by decide) rfl (xd hA36 A36_012345679a))
       have A36_01234567:A36 4 (bm 12 255) ⟨149,AL [(2,(i64 p2)),(3,(ls eI p3)),(46,(RD q35.1 q35.2)),(53,(.agg (AT q35.1)))],[]⟩:=(hA36 _ _ _).2 (by
        refine xa [8,9] ⟨?_,?_,trivial⟩
        ·exact xq tb hA36 A36_012345678
        ·refine xo 9 ?_
         exact As (m:=0) Ac Gm U U (xd hA36 A36_012345679))
       have A36_012345689:A36 3 (bm 12 895) ⟨149,AL [(2,(i64 p2)),(3,(ls eI p3)),(12,Am),(46,(RD q35.1 q35.2)),(54,(.bool q35.2))],[Qc]⟩:=(hA36 _ _ _).2 (by
        refine xa [7] ⟨?_,trivial⟩
        ·exact xq tb hA36 A36_0123456789)
       have A36_01234568:A36 4 (bm 12 383) ⟨149,AL [(2,(i64 p2)),(3,(ls eI p3)),(46,(RD q35.1 q35.2)),(54,(.bool q35.2))],[]⟩:=(hA36 _ _ _).2 (by
        refine xa [7,9] ⟨?_,?_,trivial⟩
        ·exact xq tb hA36 A36_012345678
        ·refine xo 9 ?_
         exact As (m:=0) Ac Gm U U (xd hA36 A36_012345689))
       have A36_01234569:A36 4 (bm 12 639) ⟨149,AL [(2,(i64 p2)),(3,(ls eI p3)),(12,Am),(46,(RD q35.1 q35.2))],[Qc]⟩:=(hA36 _ _ _).2 (by
        refine xa [7,8] ⟨?_,?_,trivial⟩
        ·exact xq tb hA36 A36_012345679
        ·exact xq tb hA36 A36_012345689)
       have A36_0123456:A36 5 (bm 12 127) ⟨149,AL [(2,(i64 p2)),(3,(ls eI p3)),(46,(RD q35.1 q35.2))],[]⟩:=(hA36 _ _ _).2 (by
        refine xa [7,8,9] ⟨?_,?_,?_,trivial⟩
        ·exact xq tb hA36 A36_01234567
        ·exact xq tb hA36 A36_01234568
        ·refine xo 9 ?_
         exact As (m:=0) Ac Gm U U (xd hA36 A36_01234569))
       have A36_012345:A36 6 (bm 12 63) ⟨149,AL [(2,(i64 p2)),(3,(ls eI p3)),(52,(RD q35.1 q35.2))],[]⟩:=(hA36 _ _ _).2 (by
        refine Bq 6 (v:=(RD q35.1 q35.2)) rfl U (by kernel_rfl) (by kernel_rfl) (by kernel_rfl) rfl (CR U) ?_
        exact xt hA36 A36_0123456)
       have A36_0123459:A36 5 (bm 12 575) ⟨149,AL [(2,(i64 p2)),(3,(ls eI p3)),(12,Am),(52,(RD q35.1 q35.2))],[Qc]⟩:=(hA36 _ _ _).2 (by
        refine Bq 6 (v:=(RD q35.1 q35.2)) rfl U (by kernel_rfl) (by kernel_rfl) (by kernel_rfl) rfl (CR U) ?_
        exact xt hA36 A36_01234569)
       have A36_012349:A36 6 (bm 12 543) ⟨149,AL [(2,(i64 p2)),(3,(ls eI p3)),(12,Am),(48,(ls AT p0.decls)),(51,(i64 c34))],[Qc]⟩:=(hA36 _ _ _).2 (by
        refine xa [5] ⟨?_,trivial⟩
        ·refine xo 5 ?_
         exact zc (v':=(RD q35.1 q35.2)) (hb 138) (L5 gq35) rfl U U (xd hA36 A36_0123459))
       have A36_01234:A36 7 (bm 12 31) ⟨149,AL [(2,(i64 p2)),(3,(ls eI p3)),(48,(ls AT p0.decls)),(51,(i64 c34))],[]⟩:=(hA36 _ _ _).2 (by
        refine xa [5,9] ⟨?_,?_,trivial⟩
        ·refine xo 5 ?_
         exact zc (v':=(RD q35.1 q35.2)) (hb 138) (L5 gq35) rfl U U (xd hA36 A36_012345)
        ·refine xo 9 ?_
         exact As (m:=0) Ac Gm U U (xd hA36 A36_012349))
       have A36_01239:A36 7 (bm 12 527) ⟨149,AL [(2,(i64 p2)),(3,(ls eI p3)),(12,Am),(48,(ls AT p0.decls)),(50,(.Bd (eI c34) 0))],[Qc]⟩:=(hA36 _ _ _).2 (by
        refine xa [4] ⟨?_,trivial⟩
        ·exact xq tb hA36 A36_012349)
       have A36_0123:A36 8 (bm 12 15) ⟨149,AL [(2,(i64 p2)),(3,(ls eI p3)),(48,(ls AT p0.decls)),(50,(.Bd (eI c34) 0))],[]⟩:=(hA36 _ _ _).2 (by
        refine xa [4,9] ⟨?_,?_,trivial⟩
        ·exact xq tb hA36 A36_01234
        ·refine xo 9 ?_
         exact As (m:=0) Ac Gm U U (xd hA36 A36_01239))
       have A36_0129:A36 8 (bm 12 519) ⟨149,AL [(2,(i64 p2)),(3,(ls eI p3)),(12,Am),(48,(ls AT p0.decls)),(49,(ls eI p3))],[Qc]⟩:=(hA36 _ _ _).2 (by
        refine xa [3] ⟨?_,trivial⟩
        ·refine xo 3 ?_
         exact zx BJ gc34 U U U (xd hA36 A36_01239))
       have A36_012:A36 9 (bm 12 7) ⟨149,AL [(2,(i64 p2)),(3,(ls eI p3)),(48,(ls AT p0.decls)),(49,(ls eI p3))],[]⟩:=(hA36 _ _ _).2 (by
        refine xa [3,9] ⟨?_,?_,trivial⟩
        ·refine xo 3 ?_
         exact zx BJ gc34 U U U (xd hA36 A36_0123)
        ·refine xo 9 ?_
         exact As (m:=0) Ac Gm U U (xd hA36 A36_0129))
       have A36_02349:A36 7 (bm 12 541) ⟨149,AL [(2,(i64 p2)),(3,(ls eI p3)),(12,Am),(47,Aq),(51,(i64 c34))],[Qc,(Er p0)]⟩:=(hA36 _ _ _).2 (by
        refine xa [1] ⟨?_,trivial⟩
        ·refine xo 1 ?_
         exact zq tb U (C4 hA36 A36_012349 (by exact AU [0] U (by decide) rfl U (.raw U U .nil) (.same U))))
       have A36_0234:A36 8 (bm 12 29) ⟨149,AL [(2,(i64 p2)),(3,(ls eI p3)),(47,Am),(51,(i64 c34))],[(Er p0)]⟩:=(hA36 _ _ _).2 (by
        refine xa [1,9] ⟨?_,?_,trivial⟩
        ·refine xo 1 ?_
         exact zq tb U (C4 hA36 A36_01234 (by exact AU [] U (by decide) rfl U .nil (.same U)))
        ·refine xo 9 ?_
         exact As (m:=1) Ac Gm U U (C4 hA36 A36_02349 (by exact AU [1,0] U (by decide) rfl U (.raw U U (.raw U U .nil)) (.same U))))
       have A36_0239:A36 8 (bm 12 525) ⟨149,AL [(2,(i64 p2)),(3,(ls eI p3)),(12,Am),(47,Aq),(50,(.Bd (eI c34) 0))],[Qc,(Er p0)]⟩:=(hA36 _ _ _).2 (by
        refine xa [1,4] ⟨?_,?_,trivial⟩
        ·refine xo 1 ?_
         exact zq tb U (C4 hA36 A36_01239 (by exact AU [0] U (by decide) rfl U (.raw U U .nil) (.same U)))
        ·exact xq tb hA36 A36_02349)
       have A36_023:A36 9 (bm 12 13) ⟨149,AL [(2,(i64 p2)),(3,(ls eI p3)),(47,Am),(50,(.Bd (eI c34) 0))],[(Er p0)]⟩:=(hA36 _ _ _).2 (by
        refine xa [1,4,9] ⟨?_,?_,?_,trivial⟩
        ·refine xo 1 ?_
         exact zq tb U (C4 hA36 A36_0123 (by exact AU [] U (by decide) rfl U .nil (.same U)))
        ·exact xq tb hA36 A36_0234
        ·refine xo 9 ?_
         exact As (m:=1) Ac Gm U U (C4 hA36 A36_0239 (by exact AU [1,0] U (by decide) rfl U (.raw U U (.raw U U .nil)) (.same U))))
       have A36_029:A36 9 (bm 12 517) ⟨149,AL [(2,(i64 p2)),(3,(ls eI p3)),(12,Am),(47,Aq),(49,(ls eI p3))],[Qc,(Er p0)]⟩:=(hA36 _ _ _).2 (by
        refine xa [1,3] ⟨?_,?_,trivial⟩
        ·refine xo 1 ?_
         exact zq tb U (C4 hA36 A36_0129 (by exact AU [0] U (by decide) rfl U (.raw U U .nil) (.same U)))
        ·refine xo 3 ?_
         exact zx BJ gc34 U U U (xd hA36 A36_0239))
       have A36_02:A36 10 (bm 12 5) ⟨149,AL [(2,(i64 p2)),(3,(ls eI p3)),(47,Am),(49,(ls eI p3))],[(Er p0)]⟩:=(hA36 _ _ _).2 (by
        refine xa [1,3,9] ⟨?_,?_,?_,trivial⟩
        ·refine xo 1 ?_
         exact zq tb U (C4 hA36 A36_012 (by exact AU [] U (by decide) rfl U .nil (.same U)))
        ·refine xo 3 ?_
         exact zx BJ gc34 U U U (xd hA36 A36_023)
        ·refine xo 9 ?_
         exact As (m:=1) Ac Gm U U (C4 hA36 A36_029 (by exact AU [1,0] U (by decide) rfl U (.raw U U (.raw U U .nil)) (.same U))))
       have A36_2349:A36 8 (bm 12 540) ⟨149,AL [(2,(i64 p2)),(3,(ls eI p3)),(4,Am),(12,Aq),(51,(i64 c34))],[(Er p0),Qc]⟩:=(hA36 _ _ _).2 (by
        refine xa [0] ⟨?_,trivial⟩
        ·refine xo 0 ?_
         exact zq tb U (C4 hA36 A36_02349 (by exact AU [1,0] U (by decide) rfl U (.raw U U (.raw U U .nil)) (.same U))))
       have A36_234:A36 9 (bm 12 28) ⟨149,AL [(2,(i64 p2)),(3,(ls eI p3)),(4,Am),(51,(i64 c34))],[(Er p0)]⟩:=(hA36 _ _ _).2 (by
        refine xa [0,9] ⟨?_,?_,trivial⟩
        ·exact xq tb hA36 A36_0234
        ·refine xo 9 ?_
         exact As (m:=1) Ac Gm U U (xd hA36 A36_2349))
       have A36_239:A36 9 (bm 12 524) ⟨149,AL [(2,(i64 p2)),(3,(ls eI p3)),(4,Am),(12,Aq),(50,(.Bd (eI c34) 0))],[(Er p0),Qc]⟩:=(hA36 _ _ _).2 (by
        refine xa [0,4] ⟨?_,?_,trivial⟩
        ·refine xo 0 ?_
         exact zq tb U (C4 hA36 A36_0239 (by exact AU [1,0] U (by decide) rfl U (.raw U U (.raw U U .nil)) (.same U)))
        ·exact xq tb hA36 A36_2349)
       have A36_23:A36 10 (bm 12 12) ⟨149,AL [(2,(i64 p2)),(3,(ls eI p3)),(4,Am),(50,(.Bd (eI c34) 0))],[(Er p0)]⟩:=(hA36 _ _ _).2 (by
        refine xa [0,4,9] ⟨?_,?_,?_,trivial⟩
        ·exact xq tb hA36 A36_023
        ·exact xq tb hA36 A36_234
        ·refine xo 9 ?_
         exact As (m:=1) Ac Gm U U (xd hA36 A36_239))
       have A36_29:A36 10 (bm 12 516) ⟨149,AL [(2,(i64 p2)),(3,(ls eI p3)),(4,Am),(12,Aq),(49,(ls eI p3))],[(Er p0),Qc]⟩:=(hA36 _ _ _).2 (by
        refine xa [0,3] ⟨?_,?_,trivial⟩
        ·refine xo 0 ?_
         exact zq tb U (C4 hA36 A36_029 (by exact AU [1,0] U (by decide) rfl U (.raw U U (.raw U U .nil)) (.same U)))
        ·refine xo 3 ?_
         exact zx BJ gc34 U U U (xd hA36 A36_239))
       have A36_2:A36 11 (bm 12 4) ⟨149,AL [(2,(i64 p2)),(3,(ls eI p3)),(4,Am),(49,(ls eI p3))],[(Er p0)]⟩:=(hA36 _ _ _).2 (by
        refine xa [0,3,9] ⟨?_,?_,?_,trivial⟩
        ·exact xq tb hA36 A36_02
        ·refine xo 3 ?_
         exact zx BJ gc34 U U U (xd hA36 A36_23)
        ·refine xo 9 ?_
         exact As (m:=1) Ac Gm U U (xd hA36 A36_29))
       have A36_e:A36 12 (bm 12 0) ⟨149,AL [(2,(i64 p2)),(3,(ls eI p3)),(4,Am)],[(Er p0)]⟩:=(hA36 _ _ _).2 (by
        refine Bq 2 (v:=(ls eI p3)) rfl U (by kernel_rfl) (by kernel_rfl) (by kernel_rfl) rfl (CR U) ?_
        exact xt hA36 A36_2)
       refine (hA36 _ _ _).2 ?_
       exact xt hA36 A36_e
     ·refine zr tb U U ?_
      refine ci h1 U ?_ ?_ <;> clear h1 <;> intro b38 h1
      ·refine sr U fun K39 hK39=>zm tb 3 U (bs h1 fun q40 gq40 h1=>zc (v':=(.DE [(i64 q40.1),(.agg (BR q40.2))])) (hb 131) (Nz gq40) rfl U U (zm tb 3 U (As (m:=1) Ac Lr U U (zq tb U (Ay Ac Jr U U U U U U (show 0+1≤1 by decide) rfl (dn hK39 U (AB fun K41 hK41=>bs h1 fun o43 h2 h1=>?_)))))))
       have M43 :∀(t42:Bool),o43=t42→∀s,Wk 0 s ⟨149,AL [(8,(i64 q40.1)),(9,(.bool t42))],[]⟩→K41 s:=by
        intro t42 hq s hw
        subst o43
        try dsimp only at h1
        refine hK41 _ (AM hw ?_)
        obtain rfl:=Sh.AA h1
        try dsimp only[id] at h0
        obtain rfl:=Sh.AA h0
        exact AI (xr (AS (L:=[(8,(i64 q40.1)),(9,(.bool t42))]) (.same U)))
       refine AF U (zm tb 4 U ?_)
       rcases Sh.Ap h2 with ⟨b44,h2⟩ | ⟨b44,h2⟩
       ·exact zg tb b44 U (zg tb b44 U (zg tb b44 U (bs h2 fun q45 gq45 h2=>zd b44 (hb 139) (FQ gq45) rfl U U U (zt b44 U (zm tb 2 U (AE (M43 q45 (Sh.AA h2).symm _ (Ai _ U))))))))
       ·refine zs b44 U ?_
        iterate 3 refine zs b44 rfl ?_
        exact zf b44 U (zm tb 2 U (AE (M43 false (Sh.AA h2).symm _ (Ai _ U))))
      ·refine AB fun K46 hK46=>bs h1 fun o48 h2 h1=>?_
       have M48 :∀(t47:Bool),o48=t47→∀s,Wk 0 s ⟨149,AL [(1,(i64 p1)),(2,(i64 p2)),(3,(ls eI p3)),(4,Am),(88,(.bool t47))],[(Er p0)]⟩→K46 s:=by
        intro t47 hq s hw
        subst o48
        try dsimp only at h1
        refine hK46 _ (AM hw ?_)
        refine ci h1 U ?_ ?_ <;> clear h1 <;> intro b49 h1
        ·refine AB fun K50 hK50=>AB fun K51 hK51=>bs h1 fun o53 h2 h1=>?_
         have M53 :∀(t52:Bool),o53=t52→∀s,Wk 0 s ⟨149,AL [(1,(i64 p1)),(2,(i64 p2)),(3,(ls eI p3)),(4,Am),(99,(.bool t52))],[(Er p0)]⟩→K51 s:=by
          intro t52 hq s hw
          subst o53
          try dsimp only at h1
          refine hK51 _ (AM hw ?_)
          refine ci h1 U ?_ ?_ <;> clear h1 <;> intro b54 h1
          ·refine zr tb U U ?_
           obtain rfl:=Sh.AA h1
           try dsimp only[id] at h0
           obtain rfl:=Sh.AA h0
           exact AI (xr (Ai [(8,(i64 (-1))),(9,(.bool false))] U))
          ·refine AG (hK50 _ (AB fun K56 hK56=>?_))
           refine Bk (by kernel_rfl) (by kernel_rfl) (by rfl) ?_
           iterate 3 refine yq tb rfl ?_
           refine bs h1 fun c57 gc57 h1=>yx Lp gc57 U U U ?_
           iterate 5 refine yq tb rfl ?_
           refine yx Lp gc57 U U U ?_
           iterate 4 refine yq tb rfl ?_
           refine BL (hK56 _ (AB fun K58 hK58=>zr tb U U ?_))
           refine ci h1 U ?_ ?_ <;> clear h1 <;> intro b60 h1
           ·refine sr U fun K61 hK61=>zm tb 3 U (bs h1 fun q62 gq62 h1=>zc (hb 139) (FQ gq62) rfl U U (zm tb 2 U (dn hK61 U ?_)))
            obtain rfl:=Sh.AA h1
            try dsimp only[id] at h0
            obtain rfl:=Sh.AA h0
            exact AI (xr (Ai [(8,(i64 c57.result)),(9,(.bool q62))] U))
           ·refine AG (hK58 _ (sr U fun K63 hK63=>zq tb U (zl tb U U (zm tb 2 U (dn hK63 U (AB fun K64 hK64=>zr tb U U ?_))))))
            refine ci h1 U ?_ ?_ <;> clear h1 <;> intro b66 h1
            ·refine zr tb U U ?_
             obtain rfl:=Sh.AA h1
             try dsimp only[id] at h0
             obtain rfl:=Sh.AA h0
             exact AI (xr (Ai [(8,(i64 (-1))),(9,(.bool false))] U))
            ·refine AG (hK64 _ (AB fun K68 hK68=>?_))
             refine Bk (by kernel_rfl) (by kernel_rfl) (by rfl) ?_
             iterate 4 refine yq tb rfl ?_
             refine bs h1 fun c69 gc69 h1=>yx BJ gc69 U U U ?_
             iterate 2 refine yq tb rfl ?_
             refine bs h1 fun q70 gq70 h1=>Bh (v:=(i64 q70)) Ac (hb 140) (RY gq70) rfl U U (yq tb U (BL (hK68 _ (AB fun K71 hK71=>bs h1 fun o73 h2 h1=>?_))))
             have M73 :∀(t72:Bool),o73=t72→∀s,Wk 0 s ⟨149,AL [(8,(i64 q70)),(9,(.bool t72))],[]⟩→K71 s:=by
              intro t72 hq s hw
              subst o73
              try dsimp only at h1
              refine hK71 _ (AM hw ?_)
              obtain rfl:=Sh.AA h1
              try dsimp only[id] at h0
              obtain rfl:=Sh.AA h0
              exact AI (xr (AS (L:=[(8,(i64 q70)),(9,(.bool t72))]) (.same U)))
             refine AF U (zm tb 4 U ?_)
             rcases Sh.Ap h2 with ⟨b74,h2⟩ | ⟨b74,h2⟩
             ·exact zg tb b74 U (zg tb b74 U (zg tb b74 U (bs h2 fun l75 gl75 h2=>WI (i:=0) (j:=Sh.w ((Sh.len c57.params) - 1)) (DT U U b74) BJ U U U (fun _=>U) gl75 (bs h2 fun q76 gq76 h2=>zd b74 (hb 139) (FQ gq76) rfl U U U (zt b74 U (zm tb 2 U (AE (M73 q76 (Sh.AA h2).symm _ (Ai _ U)))))))))
             ·refine zs b74 U ?_
              iterate 4 refine zs b74 rfl ?_
              exact zf b74 U (zm tb 2 U (AE (M73 false (Sh.AA h2).symm _ (Ai _ U))))
         refine AF U (zm tb 3 U ?_)
         rcases Sh.Ap h2 with ⟨b77,h2⟩ | ⟨b77,h2⟩
         ·refine zs b77 U ?_
          iterate 4 refine zs b77 rfl ?_
          exact zt b77 U (AE (M53 true (Sh.AA h2).symm _ (AH U)))
         ·exact zg tb b77 U (zg tb b77 U (zg tb b77 U (BH (v:=(i64 (Sh.len p0.funcs))) (DT U U b77) rfl (CK Y6 U) (zg tb b77 U (zf b77 U (AE (M53 (decide ((Sh.len p0.funcs)≤p2)) (Sh.AA h2).symm _ (AH U))))))))
        ·refine zr tb U U ?_
         obtain rfl:=Sh.AA h1
         try dsimp only[id] at h0
         obtain rfl:=Sh.AA h0
         exact AI (xr (Ai [(8,(i64 (-1))),(9,(.bool false))] U))
       refine zr tb U U ?_
       refine ci h2 U ?_ ?_ <;> clear h2 <;> intro b80 h2
       ·exact AG (M48 true (Sh.AA h2).symm _ (AS (L:=[(1,(i64 p1)),(2,(i64 p2)),(3,(ls eI p3)),(4,Am),(88,(.bool true))]) ⟨.rfl,.rfl,.rfl,.rfl,(.of (congrArg AV.bool b80)),trivial⟩))
       ·exact AF U (zm tb 2 U (AE (M48 (decide (p1=10)) (Sh.AA h2).symm _ (AH U))))
  refine zr tb U U ?_
  refine ci h2 U ?_ ?_ <;> clear h2 <;> intro b82 h2
  ·exact AG (M21 true (Sh.AA h2).symm _ (AS (L:=[(1,(i64 p1)),(2,(i64 p2)),(3,(ls eI p3)),(4,Am),(11,(i64 0)),(18,(i64 p1)),(32,(.bool true))]) ⟨.rfl,.rfl,.rfl,.rfl,.rfl,.rfl,(.of (congrArg AV.bool b82)),trivial⟩))
  ·refine zr tb U U ?_
   refine ci h2 U ?_ ?_ <;> clear h2 <;> intro b84 h2
   ·exact AG (M21 true (Sh.AA h2).symm _ (AS (L:=[(1,(i64 p1)),(2,(i64 p2)),(3,(ls eI p3)),(4,Am),(11,(i64 0)),(18,(i64 p1)),(32,(.bool true))]) ⟨.rfl,.rfl,.rfl,.rfl,.rfl,.rfl,(.of (congrArg AV.bool b84)),trivial⟩))
   ·refine zr tb U U ?_
    refine ci h2 U ?_ ?_ <;> clear h2 <;> intro b86 h2
    ·exact AG (M21 true (Sh.AA h2).symm _ (AS (L:=[(1,(i64 p1)),(2,(i64 p2)),(3,(ls eI p3)),(4,Am),(11,(i64 0)),(18,(i64 p1)),(32,(.bool true))]) ⟨.rfl,.rfl,.rfl,.rfl,.rfl,.rfl,(.of (congrArg AV.bool b86)),trivial⟩))
    ·exact AF U (zm tb 2 U (AE (M21 (decide (p1=4)) (Sh.AA h2).symm _ (AH U))))
theorem KH {N:Nat} {rec_impl_signatures_typeOf:(List Int)→A1→AD→Option (Int)} (hrec_impl_signatures_typeOf :∀{s0:(List Int)} {p0:A1} {p2:AD} {r:Int},rec_impl_signatures_typeOf s0 p0 p2=some r→Aa Tryz.prog 101 [(F9 p0),(ow 0 0 s0),(Bt p2)] [(BB s0)] (fun v st=>v=(i64 r)∧st=[(BB s0)])) {s0:(List Int)} {p0:A1} {p2:AD} {r:Int} (h0:Al N rec_impl_signatures_typeOf s0 p0 p2=some r):Aa Tryz.prog 101 [(F9 p0),(ow 0 0 s0),(Bt p2)] [(BB s0)] (fun v st=>v=(i64 r)∧st=[(BB s0)]):=by
 unfold Al at h0
 refine ai Tryz.func101 U U U U (sr U fun K1 hK1=>A7 (m:=1) Ac U U U U U (A7 (m:=2) Ac U U U U U (zq tb U (dn hK1 U (AB fun K2 hK2=>zr tb U U (AP (zr tb U U ?_)))))))
 refine ci h0 U ?_ ?_ <;> clear h0 <;> intro b5 h0
 ·refine AB fun K6 hK6=>AB fun K7 hK7=>bs h0 fun o9 h1 h0=>?_
  have M9 :∀(t8:Bool),o9=t8→∀s,Wk 1 s ⟨194,AL [(1,(ow 0 0 s0)),(5,Aq),(36,(.bool t8))],[(BB s0),(Iv p2.op p2.num p2.kids)]⟩→K7 s:=by
   intro t8 hq s hw
   subst o9
   try dsimp only at h0
   refine hK7 _ (AM hw ?_)
   refine ci h0 U ?_ ?_ <;> clear h0 <;> intro b10 h0
   ·refine zr tb U U ?_
    obtain rfl:=Sh.AA h0
    exact AI (xr (AU (L:=[(6,(i64 (-1)))]) (st':=[(BB s0)]) [0] U (by decide) rfl U (.pure (AJ fun _=>U) .nil) ⟨.rfl,trivial⟩))
   ·refine AG (hK6 _ (sr U fun K12 hK12=>zm tb 3 U (bs h0 fun c13 gc13 h0=>zz (.ptr 0 0 (Int.toNat p2.num) 0) (Bb BJ U U U U gc13) rfl (zz (i64 c13) (CZ Ja U U (GZ gc13) rfl) rfl (zq tb U (dn hK12 U ?_))))))
    obtain rfl:=Sh.AA h0
    exact AI (xr (AU (L:=[(6,(i64 c13))]) (st':=[(BB s0)]) [0] U (by decide) rfl U (.pure (AJ fun _=>U) .nil) ⟨.rfl,trivial⟩))
  refine AF U (zm tb 2 U (zl tb U U (zm tb 2 U ?_)))
  rcases Sh.Ap h1 with ⟨b14,h1⟩ | ⟨b14,h1⟩
  ·refine zs b14 U (zs b14 U (zs b14 U (zt b14 U (zq tb U ?_))))
   iterate 5 refine zs rfl rfl ?_
   refine zt U U ?_
   exact AE (M9 true (Sh.AA h1).symm _ (AU [0,2] U (by decide) rfl U (.pure (AJ fun _=>U) (.raw U U .nil)) (.same U)))
  ·refine zg tb b14 U (zg tb b14 U (zg tb b14 U (zf b14 U (zq tb U ?_))))
   rcases Sh.Ap h1 with ⟨b15,h1⟩ | ⟨b15,h1⟩
   ·refine zs b15 U ?_
    iterate 4 refine zs b15 rfl ?_
    refine zt b15 U ?_
    exact AE (M9 true (Sh.AA h1).symm _ (AU [0,2] U (by decide) rfl U (.pure (AJ fun _=>U) (.raw U U .nil)) (.same U)))
   ·refine zg tb b15 U (zg tb b15 U (zg tb b15 U (BH (v:=(B0 s0)) (DT U U b15) rfl (Cw Fp U U U) (zg tb b15 U (zf b15 U ?_)))))
    exact AE (M9 (decide ((Sh.len s0)≤p2.num)) (Sh.AA h1).symm _ (AU [0,2] U (by decide) rfl U (.pure (AJ fun _=>U) (.raw U U .nil)) (.same U)))
 ·refine zr tb U U ?_
  refine ci h0 U ?_ ?_ <;> clear h0 <;> intro b17 h0
  ·refine AB fun K18 hK18=>AB fun K19 hK19=>bs h0 fun o21 h1 h0=>?_
   have M21 :∀(t20:Bool),o21=t20→∀s,Wk 1 s ⟨194,AL [(1,(ow 0 0 s0)),(3,Aq),(5,BD),(52,(.bool t20))],(XV s0 p0 p2)⟩→K19 s:=by
    intro t20 hq s hw
    subst o21
    try dsimp only at h0
    refine hK19 _ (AM hw ?_)
    refine ci h0 U ?_ ?_ <;> clear h0 <;> intro b22 h0
    ·refine zr tb U U ?_
     obtain rfl:=Sh.AA h0
     exact AI (xr (AU (L:=[(6,(i64 (-1)))]) (st':=[(BB s0)]) [0] U (by decide) rfl U (.pure (AJ fun _=>U) .nil) ⟨.rfl,trivial⟩))
    ·refine AG (hK18 _ (AB fun K24 hK24=>?_))
     refine Bk (by kernel_rfl) (by kernel_rfl) (by rfl) ?_
     iterate 4 refine yq tb rfl ?_
     refine bs h0 fun c25 gc25 h0=>yz (Ff c25) (BY Bw U U gc25 (Aw _) rfl) rfl (yq tb U (bs h0 fun q26 gq26 h0=>?_))
     refine UC (rowsP:=[(BB s0)]) (rows0:=[(BB s0)]) (rows1:=[(BB s0)]) (rows1':=[(BB s0)]) (v':=(i64 q26)) [0] Ac (hb 101) (hrec_impl_signatures_typeOf gq26) rfl (by decide) rfl U (.pure (AJ fun _=>U) .nil) rfl U (.pure (AJ fun _=>U) .nil) rfl U ?_
     refine yq tb U (BL (hK24 _ (AB fun K27 hK27=>zr tb U U ?_)))
     refine ci h0 U ?_ ?_ <;> clear h0 <;> intro b29 h0
     ·refine zr tb U U ?_
      obtain rfl:=Sh.AA h0
      exact AI (xr (AU (L:=[(6,(i64 (-1)))]) (st':=[(BB s0)]) [0] U (by decide) rfl U (.pure (AJ fun _=>U) .nil) ⟨.rfl,trivial⟩))
     ·refine AG (hK27 _ (AB fun K31 hK31=>?_))
      refine Hh (by kernel_rfl) ?_
      refine bs h0 fun l32 gl32 h0=>bs h0 fun c33 gc33 h0=>bs h0 fun q34 gq34 h0=>AX.two (BB s0) (BB l32) fun A35 A35' hA35 hA35'=>?_
      have A35_0123456789aw0:A35' 0 (bm 11 2047) ⟨194,AL [(6,(i64 q34))],[(BB l32)]⟩:=(hA35' _ _ _).2 (by
       refine G0 U (by kernel_rfl) ⟨⟨_,U⟩,?_⟩
       refine hK31 _ ?_
       obtain rfl:=Sh.AA h0
       exact AI (Exists.intro _ (And.intro (AS (L:=[(6,(i64 q34))]) (.same U)) (And.intro U U))))
      have A35_0123456789w0:A35' 1 (bm 11 1023) ⟨194,AL [(71,(i64 q34))],[(BB l32)]⟩:=(hA35' _ _ _).2 (by
       refine Bq 10 (v:=(i64 q34)) rfl U (by kernel_rfl) (by kernel_rfl) (by kernel_rfl) rfl (MO U) ?_
       exact xt hA35' A35_0123456789aw0)
      have A35_012345678w0:A35' 2 (bm 11 511) ⟨194,AL [(62,(F9 p0)),(66,(ow 0 0 l32)),(70,(Bt c33))],[(BB l32)]⟩:=(hA35' _ _ _).2 (by
       refine xa [9] ⟨?_,trivial⟩
       ·refine xo 9 ?_
        refine Pd (rows0:=[(BB l32)]) (rows1:=[(BB l32)]) (st':=[(BB l32)]) (v':=(i64 q34)) [0] Ac (hb 101) (hrec_impl_signatures_typeOf gq34) rfl (by decide) rfl U (.pure (AJ fun _=>U) .nil) rfl U (.pure (AJ fun _=>U) .nil) .nil U U ?_
        exact xd hA35' A35_0123456789w0)
      have A35_01234567w0:A35' 3 (bm 11 255) ⟨194,AL [(62,(F9 p0)),(66,(ow 0 0 l32)),(69,(Ff c33))],[(BB l32)]⟩:=(hA35' _ _ _).2 (by
       refine xa [8] ⟨?_,trivial⟩
       ·exact xq tb hA35' A35_012345678w0)
      have A35_0123456w0:A35' 4 (bm 11 127) ⟨194,AL [(62,(F9 p0)),(66,(ow 0 0 l32)),(68,(IJ p2))],[(BB l32)]⟩:=(hA35' _ _ _).2 (by
       refine xa [7] ⟨?_,trivial⟩
       ·refine xo 7 ?_
        exact zz (Ff c33) (BY Bw U U gc33 (Aw _) rfl) rfl (xd hA35' A35_01234567w0))
      have A35_012345w0:A35' 5 (bm 11 63) ⟨194,AL [(62,(F9 p0)),(66,(ow 0 0 l32)),(67,(.ptr 1 0 0 2))],[(BB l32),(Iv p2.op p2.num p2.kids)]⟩:=(hA35' _ _ _).2 (by
       refine xa [6] ⟨?_,trivial⟩
       ·refine xo 6 ?_
        exact zq tb U (C4 hA35' A35_0123456w0 (by exact AU [0] U (by decide) rfl U (.pure (AJ fun _=>U) .nil) (.same U))))
      have A35_01234w0:A35' 6 (bm 11 31) ⟨194,AL [(5,Aq),(62,(F9 p0)),(66,(ow 0 0 l32))],[(BB l32),(Iv p2.op p2.num p2.kids)]⟩:=(hA35' _ _ _).2 (by
       refine xa [5] ⟨?_,trivial⟩
       ·exact xq tb hA35' A35_012345w0)
      have A35_0123456789aw1:A35 0 (bm 11 2047) ⟨194,AL [(6,(i64 q34))],[(BB s0)]⟩:=(hA35 _ _ _).2 (by
       refine G0 U (by kernel_rfl) ?_
       refine hK31 _ ?_
       obtain rfl:=Sh.AA h0
       exact AI (Exists.intro _ (And.intro (AS (L:=[(6,(i64 q34))]) (.same U)) (And.intro U U))))
      have A35_0123456789w1:A35 1 (bm 11 1023) ⟨194,AL [(71,(i64 q34))],[(BB s0)]⟩:=(hA35 _ _ _).2 (by
       refine Bq 10 (v:=(i64 q34)) rfl U (by kernel_rfl) (by kernel_rfl) (by kernel_rfl) rfl (MO U) ?_
       exact xt hA35 A35_0123456789aw1)
      have A35_012345678w1:A35 2 (bm 11 511) ⟨194,AL [(62,(F9 p0)),(66,(ow 1 0 l32)),(70,(Bt c33))],[(BB s0),(BB l32)]⟩:=(hA35 _ _ _).2 (by
       refine xa [9] ⟨?_,trivial⟩
       ·refine xo 9 ?_
        refine Pd (rows0:=[(BB l32)]) (rows1:=[(BB l32)]) (st':=[(BB s0),(BB l32)]) (v':=(i64 q34)) [1] Ac (hb 101) (hrec_impl_signatures_typeOf gq34) rfl (by decide) rfl U (.pure (AJ fun _=>U) .nil) rfl U (.pure (AJ fun _=>U) .nil) .nil U U ?_
        exact C4 hA35 A35_0123456789w1 (by exact AU [0] U (by decide) rfl U (.pure (AJ fun _=>U) .nil) (.same U)))
      have A35_01234567w1:A35 3 (bm 11 255) ⟨194,AL [(62,(F9 p0)),(66,(ow 1 0 l32)),(69,(Ff c33))],[(BB s0),(BB l32)]⟩:=(hA35 _ _ _).2 (by
       refine xa [8] ⟨?_,trivial⟩
       ·exact xq tb hA35 A35_012345678w1)
      have A35_0123456w1:A35 4 (bm 11 127) ⟨194,AL [(62,(F9 p0)),(66,(ow 1 0 l32)),(68,(IJ p2))],[(BB s0),(BB l32)]⟩:=(hA35 _ _ _).2 (by
       refine xa [7] ⟨?_,trivial⟩
       ·refine xo 7 ?_
        exact zz (Ff c33) (BY Bw U U gc33 (Aw _) rfl) rfl (xd hA35 A35_01234567w1))
      have A35_012345w1:A35 5 (bm 11 63) ⟨194,AL [(62,(F9 p0)),(66,(ow 1 0 l32)),(67,(.ptr 2 0 0 2))],[(BB s0),(BB l32),(Iv p2.op p2.num p2.kids)]⟩:=(hA35 _ _ _).2 (by
       refine xa [6] ⟨?_,trivial⟩
       ·refine xo 6 ?_
        exact zq tb U (C4 hA35 A35_0123456w1 (by exact AU [0,1] U (by decide) rfl U (.pure (AJ fun _=>U) (.pure (AJ fun _=>U) .nil)) (.same U))))
      have A35_01234w1:A35 6 (bm 11 31) ⟨194,AL [(5,Aq),(62,(F9 p0)),(66,(ow 2 0 l32))],[(BB s0),(Iv p2.op p2.num p2.kids),(BB l32)]⟩:=(hA35 _ _ _).2 (by
       refine xa [5] ⟨?_,trivial⟩
       ·refine xo 5 ?_
        exact zq tb U (C4 hA35 A35_012345w1 (by exact AU [0,2,1] U (by decide) rfl U (.pure (AJ fun _=>U) (.pure (AJ fun _=>U) (.raw U U .nil))) (.same U))))
      have A35_01235678:A35 3 (bm 11 495) ⟨194,AL [(62,(F9 p0)),(63,(ow 0 0 s0)),(65,(ow 1 0 [q26])),(70,(Bt c33))],[(BB s0),(QD q26)]⟩:=(hA35 _ _ _).2 (by
       refine xa [4] ⟨?_,trivial⟩
       ·refine Fo (l:=s0) (l2:=[q26]) (l':=l32) rfl U BJ (D2 (AJ fun _=>U) (fun _ hq=>nomatch hq)) rfl U U (IC U U) rfl (fun _=>U) (fun _=>(AJ fun _=>U)) gl32 ?_ ?_
        ·exact xw hA35' A35_012345678w0 (by exact AU [0] U (by decide) rfl U (.pure (AJ fun _=>U) .nil) (.same U))
        ·exact xw hA35 A35_012345678w1 (by exact AU [0,2] U (by decide) rfl U (.pure (AJ fun _=>U) (.pure (AJ fun _=>U) .nil)) (.same U)))
      have A35_0123567:A35 4 (bm 11 239) ⟨194,AL [(62,(F9 p0)),(63,(ow 0 0 s0)),(65,(ow 1 0 [q26])),(69,(Ff c33))],[(BB s0),(QD q26)]⟩:=(hA35 _ _ _).2 (by
       refine xa [4,8] ⟨?_,?_,trivial⟩
       ·refine Fo (l:=s0) (l2:=[q26]) (l':=l32) rfl U BJ (D2 (AJ fun _=>U) (fun _ hq=>nomatch hq)) rfl U U (IC U U) rfl (fun _=>U) (fun _=>(AJ fun _=>U)) gl32 ?_ ?_
        ·exact xw hA35' A35_01234567w0 (by exact AU [0] U (by decide) rfl U (.pure (AJ fun _=>U) .nil) (.same U))
        ·exact xw hA35 A35_01234567w1 (by exact AU [0,2] U (by decide) rfl U (.pure (AJ fun _=>U) (.pure (AJ fun _=>U) .nil)) (.same U))
       ·exact xq tb hA35 A35_01235678)
      have A35_012356:A35 5 (bm 11 111) ⟨194,AL [(62,(F9 p0)),(63,(ow 0 0 s0)),(65,(ow 1 0 [q26])),(68,(IJ p2))],[(BB s0),(QD q26)]⟩:=(hA35 _ _ _).2 (by
       refine xa [4,7] ⟨?_,?_,trivial⟩
       ·refine Fo (l:=s0) (l2:=[q26]) (l':=l32) rfl U BJ (D2 (AJ fun _=>U) (fun _ hq=>nomatch hq)) rfl U U (IC U U) rfl (fun _=>U) (fun _=>(AJ fun _=>U)) gl32 ?_ ?_
        ·exact xw hA35' A35_0123456w0 (by exact AU [0] U (by decide) rfl U (.pure (AJ fun _=>U) .nil) (.same U))
        ·exact xw hA35 A35_0123456w1 (by exact AU [0,2] U (by decide) rfl U (.pure (AJ fun _=>U) (.pure (AJ fun _=>U) .nil)) (.same U))
       ·refine xo 7 ?_
        exact zz (Ff c33) (BY Bw U U gc33 (Aw _) rfl) rfl (xd hA35 A35_0123567))
      have A35_01235:A35 6 (bm 11 47) ⟨194,AL [(62,(F9 p0)),(63,(ow 0 0 s0)),(65,(ow 1 0 [q26])),(67,(.ptr 2 0 0 2))],[(BB s0),(QD q26),(Iv p2.op p2.num p2.kids)]⟩:=(hA35 _ _ _).2 (by
       refine xa [4,6] ⟨?_,?_,trivial⟩
       ·refine Fo (l:=s0) (l2:=[q26]) (l':=l32) rfl U BJ (D2 (AJ fun _=>U) (D2 (GD U) (fun _ hq=>nomatch hq))) rfl U U (IC U U) rfl (fun _=>U) (fun _=>(AJ fun _=>U)) gl32 ?_ ?_
        ·exact xw hA35' A35_012345w0 (by exact AU [0,2] U (by decide) rfl U (.pure (AJ fun _=>U) (.raw U U .nil)) (.same U))
        ·exact xw hA35 A35_012345w1 (by exact AU [0,3,2] U (by decide) rfl U (.pure (AJ fun _=>U) (.pure (AJ fun _=>U) (.raw U U .nil))) (.same U))
       ·refine xo 6 ?_
        exact zq tb U (C4 hA35 A35_012356 (by exact AU [0,1] U (by decide) rfl U (.pure (AJ fun _=>U) (.pure (AJ fun _=>U) .nil)) (.same U))))
      have A35_0123:A35 7 (bm 11 15) ⟨194,AL [(5,Aq),(62,(F9 p0)),(63,(ow 0 0 s0)),(65,(ow 2 0 [q26]))],[(BB s0),(Iv p2.op p2.num p2.kids),(QD q26)]⟩:=(hA35 _ _ _).2 (by
       refine xa [4,5] ⟨?_,?_,trivial⟩
       ·refine Fo (l:=s0) (l2:=[q26]) (l':=l32) rfl U BJ (D2 (GD U) (D2 (AJ fun _=>U) (fun _ hq=>nomatch hq))) rfl U U (IC U U) rfl (fun _=>U) (fun _=>(AJ fun _=>U)) gl32 ?_ ?_
        ·exact xw hA35' A35_01234w0 (by exact AU [0,1] U (by decide) rfl U (.pure (AJ fun _=>U) (.raw U U .nil)) (.same U))
        ·exact xw hA35 A35_01234w1 (by exact AU [0,1,3] U (by decide) rfl U (.pure (AJ fun _=>U) (.raw U U (.pure (AJ fun _=>U) .nil))) (.same U))
       ·refine xo 5 ?_
        exact zq tb U (C4 hA35 A35_01235 (by exact AU [0,2,1] U (by decide) rfl U (.pure (AJ fun _=>U) (.pure (AJ fun _=>U) (.raw U U .nil))) (.same U))))
      have A35_0125678:A35 4 (bm 11 487) ⟨194,AL [(62,(F9 p0)),(63,(ow 0 0 s0)),(64,(i64 q26)),(70,(Bt c33))],[(BB s0)]⟩:=(hA35 _ _ _).2 (by
       refine xa [3] ⟨?_,trivial⟩
       ·refine xo 3 ?_
        refine Bu (m:=1) (l:=[q26]) (enc:=eI) Ac BJ (by decide) rfl U U U U U ?_
        exact xd hA35 A35_01235678)
      have A35_012567:A35 5 (bm 11 231) ⟨194,AL [(62,(F9 p0)),(63,(ow 0 0 s0)),(64,(i64 q26)),(69,(Ff c33))],[(BB s0)]⟩:=(hA35 _ _ _).2 (by
       refine xa [3,8] ⟨?_,?_,trivial⟩
       ·refine xo 3 ?_
        refine Bu (m:=1) (l:=[q26]) (enc:=eI) Ac BJ (by decide) rfl U U U U U ?_
        exact xd hA35 A35_0123567
       ·exact xq tb hA35 A35_0125678)
      have A35_01256:A35 6 (bm 11 103) ⟨194,AL [(62,(F9 p0)),(63,(ow 0 0 s0)),(64,(i64 q26)),(68,(IJ p2))],[(BB s0)]⟩:=(hA35 _ _ _).2 (by
       refine xa [3,7] ⟨?_,?_,trivial⟩
       ·refine xo 3 ?_
        refine Bu (m:=1) (l:=[q26]) (enc:=eI) Ac BJ (by decide) rfl U U U U U ?_
        exact xd hA35 A35_012356
       ·refine xo 7 ?_
        exact zz (Ff c33) (BY Bw U U gc33 (Aw _) rfl) rfl (xd hA35 A35_012567))
      have A35_0125:A35 7 (bm 11 39) ⟨194,AL [(62,(F9 p0)),(63,(ow 0 0 s0)),(64,(i64 q26)),(67,(.ptr 1 0 0 2))],[(BB s0),(Iv p2.op p2.num p2.kids)]⟩:=(hA35 _ _ _).2 (by
       refine xa [3,6] ⟨?_,?_,trivial⟩
       ·refine xo 3 ?_
        refine Bu (m:=2) (l:=[q26]) (enc:=eI) Ac BJ (by decide) rfl U U U U U ?_
        exact C4 hA35 A35_01235 (by exact AU [0,2,1] U (by decide) rfl U (.pure (AJ fun _=>U) (.pure (AJ fun _=>U) (.raw U U .nil))) (.same U))
       ·refine xo 6 ?_
        exact zq tb U (C4 hA35 A35_01256 (by exact AU [0] U (by decide) rfl U (.pure (AJ fun _=>U) .nil) (.same U))))
      have A35_012:A35 8 (bm 11 7) ⟨194,AL [(5,Aq),(62,(F9 p0)),(63,(ow 0 0 s0)),(64,(i64 q26))],[(BB s0),(Iv p2.op p2.num p2.kids)]⟩:=(hA35 _ _ _).2 (by
       refine xa [3,5] ⟨?_,?_,trivial⟩
       ·refine xo 3 ?_
        refine Bu (m:=2) (l:=[q26]) (enc:=eI) Ac BJ (by decide) rfl U U U U U ?_
        exact xd hA35 A35_0123
       ·exact xq tb hA35 A35_0125)
      have A35_12345678w0:A35' 3 (bm 11 510) ⟨194,AL [(3,Aq),(66,(ow 0 0 l32)),(70,(Bt c33))],[(BB l32),(Er p0)]⟩:=(hA35' _ _ _).2 (by
       refine xa [0] ⟨?_,trivial⟩
       ·refine xo 0 ?_
        exact zq tb U (C4 hA35' A35_012345678w0 (by exact AU [0] U (by decide) rfl U (.pure (AJ fun _=>U) .nil) (.same U))))
      have A35_1234567w0:A35' 4 (bm 11 254) ⟨194,AL [(3,Aq),(66,(ow 0 0 l32)),(69,(Ff c33))],[(BB l32),(Er p0)]⟩:=(hA35' _ _ _).2 (by
       refine xa [0,8] ⟨?_,?_,trivial⟩
       ·refine xo 0 ?_
        exact zq tb U (C4 hA35' A35_01234567w0 (by exact AU [0] U (by decide) rfl U (.pure (AJ fun _=>U) .nil) (.same U)))
       ·exact xq tb hA35' A35_12345678w0)
      have A35_123456w0:A35' 5 (bm 11 126) ⟨194,AL [(3,Aq),(66,(ow 0 0 l32)),(68,(IJ p2))],[(BB l32),(Er p0)]⟩:=(hA35' _ _ _).2 (by
       refine xa [0,7] ⟨?_,?_,trivial⟩
       ·refine xo 0 ?_
        exact zq tb U (C4 hA35' A35_0123456w0 (by exact AU [0] U (by decide) rfl U (.pure (AJ fun _=>U) .nil) (.same U)))
       ·refine xo 7 ?_
        exact zz (Ff c33) (BY Bw U U gc33 (Aw _) rfl) rfl (xd hA35' A35_1234567w0))
      have A35_12345w0:A35' 6 (bm 11 62) ⟨194,AL [(3,Aq),(66,(ow 0 0 l32)),(67,(.ptr 2 0 0 2))],(XV l32 p0 p2)⟩:=(hA35' _ _ _).2 (by
       refine xa [0,6] ⟨?_,?_,trivial⟩
       ·refine xo 0 ?_
        exact zq tb U (C4 hA35' A35_012345w0 (by exact AU [0,2] U (by decide) rfl U (.pure (AJ fun _=>U) (.raw U U .nil)) (.same U)))
       ·refine xo 6 ?_
        exact zq tb U (C4 hA35' A35_123456w0 (by exact AU [0,1] U (by decide) rfl U (.pure (AJ fun _=>U) (.raw U U .nil)) (.same U))))
      have A35_1234w0:A35' 7 (bm 11 30) ⟨194,AL [(3,Aq),(5,BD),(66,(ow 0 0 l32))],(XV l32 p0 p2)⟩:=(hA35' _ _ _).2 (by
       refine xa [0,5] ⟨?_,?_,trivial⟩
       ·refine xo 0 ?_
        exact zq tb U (C4 hA35' A35_01234w0 (by exact AU [0,2] U (by decide) rfl U (.pure (AJ fun _=>U) (.raw U U .nil)) (.same U)))
       ·exact xq tb hA35' A35_12345w0)
      have A35_12345678w1:A35 3 (bm 11 510) ⟨194,AL [(3,Aq),(66,(ow 2 0 l32)),(70,(Bt c33))],[(BB s0),(Er p0),(BB l32)]⟩:=(hA35 _ _ _).2 (by
       refine xa [0] ⟨?_,trivial⟩
       ·refine xo 0 ?_
        exact zq tb U (C4 hA35 A35_012345678w1 (by exact AU [0,2] U (by decide) rfl U (.pure (AJ fun _=>U) (.pure (AJ fun _=>U) .nil)) (.same U))))
      have A35_1234567w1:A35 4 (bm 11 254) ⟨194,AL [(3,Aq),(66,(ow 2 0 l32)),(69,(Ff c33))],[(BB s0),(Er p0),(BB l32)]⟩:=(hA35 _ _ _).2 (by
       refine xa [0,8] ⟨?_,?_,trivial⟩
       ·refine xo 0 ?_
        exact zq tb U (C4 hA35 A35_01234567w1 (by exact AU [0,2] U (by decide) rfl U (.pure (AJ fun _=>U) (.pure (AJ fun _=>U) .nil)) (.same U)))
       ·exact xq tb hA35 A35_12345678w1)
      have A35_123456w1:A35 5 (bm 11 126) ⟨194,AL [(3,Aq),(66,(ow 2 0 l32)),(68,(IJ p2))],[(BB s0),(Er p0),(BB l32)]⟩:=(hA35 _ _ _).2 (by
       refine xa [0,7] ⟨?_,?_,trivial⟩
       ·refine xo 0 ?_
        exact zq tb U (C4 hA35 A35_0123456w1 (by exact AU [0,2] U (by decide) rfl U (.pure (AJ fun _=>U) (.pure (AJ fun _=>U) .nil)) (.same U)))
       ·refine xo 7 ?_
        exact zz (Ff c33) (BY Bw U U gc33 (Aw _) rfl) rfl (xd hA35 A35_1234567w1))
      have A35_12345w1:A35 6 (bm 11 62) ⟨194,AL [(3,Aq),(66,(ow 2 0 l32)),(67,WA)],[(BB s0),(Er p0),(BB l32),(Iv p2.op p2.num p2.kids)]⟩:=(hA35 _ _ _).2 (by
       refine xa [0,6] ⟨?_,?_,trivial⟩
       ·refine xo 0 ?_
        exact zq tb U (C4 hA35 A35_012345w1 (by exact AU [0,2,3] U (by decide) rfl U (.pure (AJ fun _=>U) (.pure (AJ fun _=>U) (.raw U U .nil))) (.same U)))
       ·refine xo 6 ?_
        exact zq tb U (C4 hA35 A35_123456w1 (by exact AU [0,1,2] U (by decide) rfl U (.pure (AJ fun _=>U) (.raw U U (.pure (AJ fun _=>U) .nil))) (.same U))))
      have A35_1234w1:A35 7 (bm 11 30) ⟨194,AL [(3,Aq),(5,BD),(66,(ow 3 0 l32))],[(BB s0),(Er p0),(Iv p2.op p2.num p2.kids),(BB l32)]⟩:=(hA35 _ _ _).2 (by
       refine xa [0,5] ⟨?_,?_,trivial⟩
       ·refine xo 0 ?_
        exact zq tb U (C4 hA35 A35_01234w1 (by exact AU [0,2,3] U (by decide) rfl U (.pure (AJ fun _=>U) (.raw U U (.pure (AJ fun _=>U) .nil))) (.same U)))
       ·refine xo 5 ?_
        exact zq tb U (C4 hA35 A35_12345w1 (by exact AU [0,1,3,2] U (by decide) rfl U (.pure (AJ fun _=>U) (.raw U U (.pure (AJ fun _=>U) (.raw U U .nil)))) (.same U))))
      have A35_1235678:A35 4 (bm 11 494) ⟨194,AL [(3,Aq),(63,(ow 0 0 s0)),(65,(ow 2 0 [q26])),(70,(Bt c33))],[(BB s0),(Er p0),(QD q26)]⟩:=(hA35 _ _ _).2 (by
       refine xa [0,4] ⟨?_,?_,trivial⟩
       ·refine xo 0 ?_
        exact zq tb U (C4 hA35 A35_01235678 (by exact AU [0,2] U (by decide) rfl U (.pure (AJ fun _=>U) (.pure (AJ fun _=>U) .nil)) (.same U)))
       ·refine Fo (l:=s0) (l2:=[q26]) (l':=l32) rfl U BJ (D2 (GD U) (D2 (AJ fun _=>U) (fun _ hq=>nomatch hq))) rfl U U (IC U U) rfl (fun _=>U) (fun _=>(AJ fun _=>U)) gl32 ?_ ?_
        ·exact xw hA35' A35_12345678w0 (by exact AU [0,1] U (by decide) rfl U (.pure (AJ fun _=>U) (.raw U U .nil)) (.same U))
        ·exact xw hA35 A35_12345678w1 (by exact AU [0,1,3] U (by decide) rfl U (.pure (AJ fun _=>U) (.raw U U (.pure (AJ fun _=>U) .nil))) (.same U)))
      have A35_123567:A35 5 (bm 11 238) ⟨194,AL [(3,Aq),(63,(ow 0 0 s0)),(65,(ow 2 0 [q26])),(69,(Ff c33))],[(BB s0),(Er p0),(QD q26)]⟩:=(hA35 _ _ _).2 (by
       refine xa [0,4,8] ⟨?_,?_,?_,trivial⟩
       ·refine xo 0 ?_
        exact zq tb U (C4 hA35 A35_0123567 (by exact AU [0,2] U (by decide) rfl U (.pure (AJ fun _=>U) (.pure (AJ fun _=>U) .nil)) (.same U)))
       ·refine Fo (l:=s0) (l2:=[q26]) (l':=l32) rfl U BJ (D2 (GD U) (D2 (AJ fun _=>U) (fun _ hq=>nomatch hq))) rfl U U (IC U U) rfl (fun _=>U) (fun _=>(AJ fun _=>U)) gl32 ?_ ?_
        ·exact xw hA35' A35_1234567w0 (by exact AU [0,1] U (by decide) rfl U (.pure (AJ fun _=>U) (.raw U U .nil)) (.same U))
        ·exact xw hA35 A35_1234567w1 (by exact AU [0,1,3] U (by decide) rfl U (.pure (AJ fun _=>U) (.raw U U (.pure (AJ fun _=>U) .nil))) (.same U))
       ·exact xq tb hA35 A35_1235678)
      have A35_12356:A35 6 (bm 11 110) ⟨194,AL [(3,Aq),(63,(ow 0 0 s0)),(65,(ow 2 0 [q26])),(68,(IJ p2))],[(BB s0),(Er p0),(QD q26)]⟩:=(hA35 _ _ _).2 (by
       refine xa [0,4,7] ⟨?_,?_,?_,trivial⟩
       ·refine xo 0 ?_
        exact zq tb U (C4 hA35 A35_012356 (by exact AU [0,2] U (by decide) rfl U (.pure (AJ fun _=>U) (.pure (AJ fun _=>U) .nil)) (.same U)))
       ·refine Fo (l:=s0) (l2:=[q26]) (l':=l32) rfl U BJ (D2 (GD U) (D2 (AJ fun _=>U) (fun _ hq=>nomatch hq))) rfl U U (IC U U) rfl (fun _=>U) (fun _=>(AJ fun _=>U)) gl32 ?_ ?_
        ·exact xw hA35' A35_123456w0 (by exact AU [0,1] U (by decide) rfl U (.pure (AJ fun _=>U) (.raw U U .nil)) (.same U))
        ·exact xw hA35 A35_123456w1 (by exact AU [0,1,3] U (by decide) rfl U (.pure (AJ fun _=>U) (.raw U U (.pure (AJ fun _=>U) .nil))) (.same U))
       ·refine xo 7 ?_
        exact zz (Ff c33) (BY Bw U U gc33 (Aw _) rfl) rfl (xd hA35 A35_123567))
      have A35_1235:A35 7 (bm 11 46) ⟨194,AL [(3,Aq),(63,(ow 0 0 s0)),(65,(ow 2 0 [q26])),(67,WA)],[(BB s0),(Er p0),(QD q26),(Iv p2.op p2.num p2.kids)]⟩:=(hA35 _ _ _).2 (by
       refine xa [0,4,6] ⟨?_,?_,?_,trivial⟩
       ·refine xo 0 ?_
        exact zq tb U (C4 hA35 A35_01235 (by exact AU [0,2,3] U (by decide) rfl U (.pure (AJ fun _=>U) (.pure (AJ fun _=>U) (.raw U U .nil))) (.same U)))
       ·refine Fo (l:=s0) (l2:=[q26]) (l':=l32) rfl U BJ (D2 (GD U) (D2 (AJ fun _=>U) (D2 (GD U) (fun _ hq=>nomatch hq)))) rfl U U (IC U U) rfl (fun _=>U) (fun _=>(AJ fun _=>U)) gl32 ?_ ?_
        ·exact xw hA35' A35_12345w0 (by exact AU [0,1,3] U (by decide) rfl U (.pure (AJ fun _=>U) (.raw U U (.raw U U .nil))) (.same U))
        ·exact xw hA35 A35_12345w1 (by exact AU [0,1,4,3] U (by decide) rfl U (.pure (AJ fun _=>U) (.raw U U (.pure (AJ fun _=>U) (.raw U U .nil)))) (.same U))
       ·refine xo 6 ?_
        exact zq tb U (C4 hA35 A35_12356 (by exact AU [0,1,2] U (by decide) rfl U (.pure (AJ fun _=>U) (.raw U U (.pure (AJ fun _=>U) .nil))) (.same U))))
      have A35_123:A35 8 (bm 11 14) ⟨194,AL [(3,Aq),(5,BD),(63,(ow 0 0 s0)),(65,(ow 3 0 [q26]))],[(BB s0),(Er p0),(Iv p2.op p2.num p2.kids),(QD q26)]⟩:=(hA35 _ _ _).2 (by
       refine xa [0,4,5] ⟨?_,?_,?_,trivial⟩
       ·refine xo 0 ?_
        exact zq tb U (C4 hA35 A35_0123 (by exact AU [0,2,3] U (by decide) rfl U (.pure (AJ fun _=>U) (.raw U U (.pure (AJ fun _=>U) .nil))) (.same U)))
       ·refine Fo (l:=s0) (l2:=[q26]) (l':=l32) rfl U BJ (D2 (GD U) (D2 (GD U) (D2 (AJ fun _=>U) (fun _ hq=>nomatch hq)))) rfl U U (IC U U) rfl (fun _=>U) (fun _=>(AJ fun _=>U)) gl32 ?_ ?_
        ·exact xw hA35' A35_1234w0 (by exact AU [0,1,2] U (by decide) rfl U (.pure (AJ fun _=>U) (.raw U U (.raw U U .nil))) (.same U))
        ·exact xw hA35 A35_1234w1 (by exact AU [0,1,2,4] U (by decide) rfl U (.pure (AJ fun _=>U) (.raw U U (.raw U U (.pure (AJ fun _=>U) .nil)))) (.same U))
       ·refine xo 5 ?_
        exact zq tb U (C4 hA35 A35_1235 (by exact AU [0,1,3,2] U (by decide) rfl U (.pure (AJ fun _=>U) (.raw U U (.pure (AJ fun _=>U) (.raw U U .nil)))) (.same U))))
      have A35_125678:A35 5 (bm 11 486) ⟨194,AL [(3,Aq),(63,(ow 0 0 s0)),(64,(i64 q26)),(70,(Bt c33))],[(BB s0),(Er p0)]⟩:=(hA35 _ _ _).2 (by
       refine xa [0,3] ⟨?_,?_,trivial⟩
       ·refine xo 0 ?_
        exact zq tb U (C4 hA35 A35_0125678 (by exact AU [0] U (by decide) rfl U (.pure (AJ fun _=>U) .nil) (.same U)))
       ·refine xo 3 ?_
        refine Bu (m:=2) (l:=[q26]) (enc:=eI) Ac BJ (by decide) rfl U U U U U ?_
        exact xd hA35 A35_1235678)
      have A35_12567:A35 6 (bm 11 230) ⟨194,AL [(3,Aq),(63,(ow 0 0 s0)),(64,(i64 q26)),(69,(Ff c33))],[(BB s0),(Er p0)]⟩:=(hA35 _ _ _).2 (by
       refine xa [0,3,8] ⟨?_,?_,?_,trivial⟩
       ·refine xo 0 ?_
        exact zq tb U (C4 hA35 A35_012567 (by exact AU [0] U (by decide) rfl U (.pure (AJ fun _=>U) .nil) (.same U)))
       ·refine xo 3 ?_
        refine Bu (m:=2) (l:=[q26]) (enc:=eI) Ac BJ (by decide) rfl U U U U U ?_
        exact xd hA35 A35_123567
       ·exact xq tb hA35 A35_125678)
      have A35_1256:A35 7 (bm 11 102) ⟨194,AL [(3,Aq),(63,(ow 0 0 s0)),(64,(i64 q26)),(68,(IJ p2))],[(BB s0),(Er p0)]⟩:=(hA35 _ _ _).2 (by
       refine xa [0,3,7] ⟨?_,?_,?_,trivial⟩
       ·refine xo 0 ?_
        exact zq tb U (C4 hA35 A35_01256 (by exact AU [0] U (by decide) rfl U (.pure (AJ fun _=>U) .nil) (.same U)))
       ·refine xo 3 ?_
        refine Bu (m:=2) (l:=[q26]) (enc:=eI) Ac BJ (by decide) rfl U U U U U ?_
        exact xd hA35 A35_12356
       ·refine xo 7 ?_
        exact zz (Ff c33) (BY Bw U U gc33 (Aw _) rfl) rfl (xd hA35 A35_12567))
      have A35_125:A35 8 (bm 11 38) ⟨194,AL [(3,Aq),(63,(ow 0 0 s0)),(64,(i64 q26)),(67,(.ptr 2 0 0 2))],(XV s0 p0 p2)⟩:=(hA35 _ _ _).2 (by
       refine xa [0,3,6] ⟨?_,?_,?_,trivial⟩
       ·refine xo 0 ?_
        exact zq tb U (C4 hA35 A35_0125 (by exact AU [0,2] U (by decide) rfl U (.pure (AJ fun _=>U) (.raw U U .nil)) (.same U)))
       ·refine xo 3 ?_
        refine Bu (m:=3) (l:=[q26]) (enc:=eI) Ac BJ (by decide) rfl U U U U U ?_
        exact C4 hA35 A35_1235 (by exact AU [0,1,3,2] U (by decide) rfl U (.pure (AJ fun _=>U) (.raw U U (.pure (AJ fun _=>U) (.raw U U .nil)))) (.same U))
       ·refine xo 6 ?_
        exact zq tb U (C4 hA35 A35_1256 (by exact AU [0,1] U (by decide) rfl U (.pure (AJ fun _=>U) (.raw U U .nil)) (.same U))))
      have A35_12:A35 9 (bm 11 6) ⟨194,AL [(3,Aq),(5,BD),(63,(ow 0 0 s0)),(64,(i64 q26))],(XV s0 p0 p2)⟩:=(hA35 _ _ _).2 (by
       refine xa [0,3,5] ⟨?_,?_,?_,trivial⟩
       ·refine xo 0 ?_
        exact zq tb U (C4 hA35 A35_012 (by exact AU [0,2] U (by decide) rfl U (.pure (AJ fun _=>U) (.raw U U .nil)) (.same U)))
       ·refine xo 3 ?_
        refine Bu (m:=3) (l:=[q26]) (enc:=eI) Ac BJ (by decide) rfl U U U U U ?_
        exact xd hA35 A35_123
       ·exact xq tb hA35 A35_125)
      have A35_1:A35 10 (bm 11 2) ⟨194,AL [(3,Aq),(5,BD),(7,(i64 q26)),(63,(ow 0 0 s0))],(XV s0 p0 p2)⟩:=(hA35 _ _ _).2 (by
       refine Bq 2 (v:=(i64 q26)) rfl U (by kernel_rfl) (by kernel_rfl) (by kernel_rfl) rfl (CR U) ?_
       exact xt hA35 A35_12)
      have A35_e:A35 11 (bm 11 0) ⟨194,AL [(1,(ow 0 0 s0)),(3,Aq),(5,BD),(7,(i64 q26))],(XV s0 p0 p2)⟩:=(hA35 _ _ _).2 (by
       refine Bq 1 (v:=(ow 0 0 s0)) rfl U (by kernel_rfl) (by kernel_rfl) (by kernel_rfl) rfl (CR U) ?_
       exact xt hA35 A35_1)
      refine (hA35 _ _ _).2 ?_
      exact xt hA35 A35_e
   refine AF U (zm tb 2 U (zl tb U U (zm tb 2 U ?_)))
   rcases Sh.Ap h1 with ⟨b36,h1⟩ | ⟨b36,h1⟩
   ·exact zs b36 U (zs b36 U (zs b36 U (zt b36 U (AE (M21 true (Sh.AA h1).symm _ (AH U))))))
   ·exact zg tb b36 U (zg tb b36 U (zg tb b36 U (zf b36 U (AE (M21 (!decide (p2.num=0)) (Sh.AA h1).symm _ (AH U))))))
  ·refine zr tb U U ?_
   refine ci h0 U ?_ ?_ <;> clear h0 <;> intro b38 h0
   ·refine AB fun K39 hK39=>AB fun K40 hK40=>bs h0 fun o42 h1 h0=>?_
    have M42 :∀(t41:Bool),o42=t41→∀s,Wk 1 s ⟨194,AL [(1,(ow 0 0 s0)),(3,Aq),(5,BD),(92,(.bool t41))],(XV s0 p0 p2)⟩→K40 s:=by
     intro t41 hq s hw
     subst o42
     try dsimp only at h0
     refine hK40 _ (AM hw ?_)
     refine ci h0 U ?_ ?_ <;> clear h0 <;> intro b43 h0
     ·refine zr tb U U ?_
      obtain rfl:=Sh.AA h0
      exact AI (xr (AU (L:=[(6,(i64 (-1)))]) (st':=[(BB s0)]) [0] U (by decide) rfl U (.pure (AJ fun _=>U) .nil) ⟨.rfl,trivial⟩))
     ·refine AG (hK39 _ (AB fun K45 hK45=>?_))
      refine Bi 7 (by kernel_rfl) (by kernel_rfl) (by rfl) ?_
      iterate 4 refine yq tb rfl ?_
      refine bs h0 fun l46 gl46 h0=>Yg (i:=1) (j:=Sh.len p2.kids) Ac Bw U U U Ip gl46 (bs h0 fun l47 gl47 h0=>fS (enc:=(eS eI)) (u:=[]) Ac Jn U U U gl47 (AJ fun _=>U) (bs h0 fun q48 gq48 h0=>T7 (v':=(i64 q48)) Ac (hb 127) (HY hrec_impl_signatures_typeOf gq48) rfl (.val U (.own U U (fun _=>U) (.val U (.val U .nil)))) rfl U (BL (zq tb U (dn hK45 U ?_)))))
      obtain rfl:=Sh.AA h0
      exact AI (xr (AU (L:=[(6,(i64 q48))]) (st':=[(BB s0)]) [0] U (by decide) rfl U (.pure (AJ fun _=>U) .nil) ⟨.rfl,trivial⟩))
    refine Bk (by kernel_rfl) (by kernel_rfl) (by rfl) ?_
    iterate 2 refine yq tb rfl ?_
    refine yl tb U U ?_
    iterate 2 refine yq tb rfl ?_
    rcases Sh.Ap h1 with ⟨b49,h1⟩ | ⟨b49,h1⟩
    ·refine ys b49 U ?_
     iterate 2 refine ys b49 rfl ?_
     refine yt b49 U (yq tb U ?_)
     iterate 8 refine ys rfl rfl ?_
     exact yt U U (BL (M42 true (Sh.AA h1).symm _ (AH U)))
    ·refine yg tb b49 U ?_
     iterate 2 refine yg tb b49 rfl ?_
     refine yf b49 U (yq tb U ?_)
     rcases Sh.Ap h1 with ⟨b50,h1⟩ | ⟨b50,h1⟩
     ·refine ys b50 U ?_
      iterate 7 refine ys b50 rfl ?_
      exact yt b50 U (BL (M42 true (Sh.AA h1).symm _ (AH U)))
     ·refine yg tb b50 U ?_
      iterate 3 refine yg tb b50 rfl ?_
      refine bs h1 fun c51 gc51 h1=>Kh (v:=(Ff c51)) (DT U U b50) rfl (BY Bw U U gc51 (Aw _) rfl) (yg tb b50 U (bs h1 fun q52 gq52 h1=>?_))
      refine UC (rowsP:=[(BB s0)]) (rows0:=[(BB s0)]) (rows1:=[(BB s0)]) (rows1':=[(BB s0)]) (v':=(i64 q52)) [0] (DT U U b50) (hb 101) (hrec_impl_signatures_typeOf gq52) rfl (by decide) rfl U (.pure (AJ fun _=>U) .nil) rfl U (.pure (AJ fun _=>U) .nil) rfl U ?_
      exact yg tb b50 U (yf b50 U (BL (M42 (!decide (q52=0)) (Sh.AA h1).symm _ (AH U))))
   ·refine zr tb U U ?_
    refine ci h0 U ?_ ?_ <;> clear h0 <;> intro b54 h0
    ·refine sr U fun K55 hK55=>zm tb 4 U (bs h0 fun q56 gq56 h0=>BF (v':=(ow 3 0 q56)) Ac (hb 70) (NI gq56) rfl U ⟨(BZ fun _=>U),trivial⟩ U U (zq tb U (dn hK55 U (AB fun K57 hK57=>AB fun K58 hK58=>bs h0 fun o60 h1 h0=>?_))))
     have M60 :∀(t59:Bool),o60=t59→∀s,Wk 1 s ⟨194,AL [(1,(ow 0 0 s0)),(3,Aq),(5,BD),(8,(ow 3 0 q56)),(130,(.bool t59))],[(BB s0),(Er p0),(Iv p2.op p2.num p2.kids),(BB q56)]⟩→K58 s:=by
      intro t59 hq s hw
      subst o60
      try dsimp only at h0
      refine hK58 _ (AM hw ?_)
      refine ci h0 U ?_ ?_ <;> clear h0 <;> intro b61 h0
      ·refine zr tb U U ?_
       obtain rfl:=Sh.AA h0
       exact AI (xr (AU (L:=[(6,(i64 (-1)))]) (st':=[(BB s0)]) [0] U (by decide) rfl U (.pure (AJ fun _=>U) .nil) ⟨.rfl,trivial⟩))
      ·refine AG (hK57 _ (sr U fun K63 hK63=>zq tb U (zz (B0 q56) (Cw Fp U U U) rfl (bs h0 fun l64 gl64 h0=>NZ (m:=4) (enc:=(eS eI)) (u:=[]) Ac Jn U U U gl64 U U (zq tb U (dn hK63 U (AB fun K65 hK65=>sr U fun K66 hK66=>zq tb U (zz (B0 q56) (Cw Fp U U U) rfl ?_))))))))
       refine zq tb U (dn hK66 U (bs h0 fun o70 h1 h0=>?_))
       have M70 :∀(l69:(List (List Int))),o70=l69→∀s,Wk 1 s ⟨194,AL [(1,(ow 0 0 s0)),(3,Aq),(5,BD),(9,(ow 3 0 l69))],[(BB s0),(Er p0),(Iv p2.op p2.num p2.kids),(ro 0 46 1 (eS eI) l69)]⟩→K65 s:=by
        intro l69 hq s hw
        subst o70
        try dsimp only at h0
        refine hK65 _ (AM hw (AB fun K71 hK71=>?_))
        refine Bi 7 (by kernel_rfl) (by kernel_rfl) (by rfl) ?_
        iterate 4 refine yq tb rfl ?_
        refine bs h0 fun l72 gl72 h0=>Yg (i:=1) (j:=Sh.len p2.kids) Ac Bw U U U Ip gl72 (yq tb U (bs h0 fun q73 gq73 h0=>T7 (v':=(i64 q73)) Ac (hb 127) (HY hrec_impl_signatures_typeOf gq73) rfl (.val U (.own U U (fun _=>U) (.val U (.own U U (fun _=>U) .nil)))) rfl U (BL (zq tb U (dn hK71 U ?_)))))
        obtain rfl:=Sh.AA h0
        exact AI (xr (AU (L:=[(6,(i64 q73))]) (st':=[(BB s0)]) [0] U (by decide) rfl U (.pure (AJ fun _=>U) .nil) ⟨.rfl,trivial⟩))
       refine AP (Ak (σ:=Int×(List (List Int))) (fun n v=>BS N p0 q56 n v.1 v.2=some o70) (fun (t67,l68)=>⟨194,AL [(1,(ow 0 0 s0)),(3,(.ptr 1 0 0 0)),(5,(.ptr 2 0 0 0)),(9,(ow 4 0 l68)),(134,(ow 3 0 q56)),(135,(i64 (Sh.len q56))),(136,(i64 t67))],[(ro 0 3 1 eI s0),⟨0,119,2,[(FN p0)]⟩,(Iv p2.op p2.num p2.kids),(ro 0 3 1 eI q56),(ro 0 46 1 (eS eI) l68)]⟩) N (0,l64) h1 (AH U) (fun _ hv=>by rw[BS] at hv;cases hv) ?_)
       rintro n ⟨t67,l68⟩ h1
       try dsimp only at h1 ⊢
       rw[BS] at h1
       refine zr tb U U (AB fun K75 hK75=>?_)
       refine ci h1 U ?_ ?_ <;> clear h1 <;> intro b76 h1
       ·refine AG (hK75 _ (AB fun K77 hK77=>AP (sr U fun K78 hK78=>zq tb U (bs h1 fun c79 gc79 h1=>zz (.ptr 3 0 (Int.toNat t67) 0) (Bb BJ U U U U gc79) rfl (zz (i64 c79) (CZ Ja U U (GZ gc79) rfl) rfl (zm tb 2 U (dn hK78 U (AF U (zm tb 5 U ?_)))))))))
        refine bs h1 fun q80 gq80 h1=>zc (hb 105) (Ld gq80) rfl U U (bs h1 fun c81 gc81 h1=>zz (.ptr 4 0 (Int.toNat t67) 0) (Bb Jn U U U U gc81) rfl (HW (u':=q80) Ac H3 U U gc81 U U U (show 0+1≤1 by decide) rfl U (dn hK77 U (AF U (zm tb 2 U ?_)))))
        exact AE (xi (Sh.w (t67+1),Sh.put l68 t67 q80) h1 (AS (L:=[(1,(.own 0 0 (List.length s0))),(3,(.ptr 1 0 0 0)),(5,(.ptr 2 0 0 0)),(9,(.own 4 0 (List.length (Sh.put l68 t67 q80)))),(134,(.own 3 0 (List.length q56))),(135,(i64 (Sh.len q56))),(136,(i64 (Sh.w (t67+1))))]) ⟨.rfl,.rfl,.rfl,(.len (by simp only[Sh.Az])),.rfl,.rfl,.rfl,trivial⟩))
       ·exact Ao (M70 l68 (Sh.AA h1).symm _ (AU [0,1,2,4] U (by decide) rfl U (.pure (AJ fun _=>U) (.raw U U (.raw U U (.pure (AJ fun _=>U) .nil)))) (.same U)))
     refine Bk (by kernel_rfl) (by kernel_rfl) (by rfl) ?_
     refine yq tb U (yz (B0 q56) (Cw Fp U U U) rfl ?_)
     iterate 2 refine yq tb rfl ?_
     rcases Sh.Ap h1 with ⟨b82,h1⟩ | ⟨b82,h1⟩
     ·refine ys b82 U ?_
      iterate 6 refine ys b82 rfl ?_
      refine yt b82 U (yq tb U ?_)
      iterate 10 refine ys rfl rfl ?_
      exact yt U U (BL (M60 true (Sh.AA h1).symm _ (AH U)))
     ·refine yg tb b82 U (yg tb b82 U (Kh (v:=(Jb p2)) (DT U U b82) rfl (CK US U) (yg tb b82 U (Kh (v:=(B0 q56)) (DT U U b82) rfl (Cw Fp U U U) ?_))))
      iterate 2 refine yg tb b82 rfl ?_
      refine yf b82 U (yq tb U ?_)
      rcases Sh.Ap h1 with ⟨b83,h1⟩ | ⟨b83,h1⟩
      ·refine ys b83 U ?_
       iterate 9 refine ys b83 rfl ?_
       exact yt b83 U (BL (M60 true (Sh.AA h1).symm _ (AH U)))
      ·refine yg tb b83 U ?_
       iterate 3 refine yg tb b83 rfl ?_
       refine bs h1 fun c84 gc84 h1=>Kh (v:=(Ff c84)) (DT U U b83) rfl (BY Bw U U gc84 (Aw _) rfl) (yg tb b83 U (bs h1 fun q85 gq85 h1=>?_))
       refine UC (rowsP:=[(BB s0)]) (rows0:=[(BB s0)]) (rows1:=[(BB s0)]) (rows1':=[(BB s0)]) (v':=(i64 q85)) [0] (DT U U b83) (hb 101) (hrec_impl_signatures_typeOf gq85) rfl (by decide) rfl U (.pure (AJ fun _=>U) .nil) rfl U (.pure (AJ fun _=>U) .nil) rfl U ?_
       iterate 3 refine yg tb b83 rfl ?_
       exact yf b83 U (BL (M60 (!decide (q85=p2.num)) (Sh.AA h1).symm _ (AH U)))
    ·refine AG (hK2 _ (sr U fun K86 hK86=>zm tb 2 U (zl tb U U (bs h0 fun l87 gl87 h0=>NZ (m:=3) (enc:=eI) (u:=0) Ac BJ U U U gl87 U U (zq tb U (dn hK86 U (AB fun K88 hK88=>sr U fun K89 hK89=>zm tb 2 U (zl tb U U ?_))))))))
     refine zq tb U (dn hK89 U ?_)
     obtain⟨o93,h1,h0⟩:=Sh.A8 h0
     have M93 :∀(l92:(List Int)),o93=Sum.inr l92→∀s,Wk 1 s ⟨194,AL [(3,Aq),(5,BD),(12,(ow 3 0 l92))],[(BB s0),(Er p0),(Iv p2.op p2.num p2.kids),(BB l92)]⟩→K88 s:=by
      intro l92 hq s hw
      subst o93
      try dsimp only at h0
      refine hK88 _ (AM hw (sr U fun K94 hK94=>zm tb 6 U (Af (Wk.DN (L:=[(182,(.agg (FN p0))),(184,(i64 p2.op)),(186,(i64 p2.num)),(187,(ls eI l92))]) (st':=[(ro 0 3 1 eI s0),⟨0,119,2,[(FN p0)]⟩,(Iv p2.op p2.num p2.kids),⟨1,3,1,[]⟩]) (id:=3) rfl (show 1≤3 by decide) (AJ fun _=>U) ⟨.rfl,.rfl,.rfl,(.DN U),trivial⟩ U) (bs h0 fun q95 gq95 h0=>zc (v':=(.DE [(i64 q95.1),(.bool q95.2)])) (hb 128) (Jk gq95) rfl U U (zm tb 5 U (dn hK94 U (AB fun K96 hK96=>zr tb U U ?_)))))))
      refine ci h0 U ?_ ?_ <;> clear h0 <;> intro b98 h0
      ·have b99:q95.2=false:=by simpa using b98
       refine zr tb U U ?_
       obtain rfl:=Sh.AA h0
       exact AI (xr (AU (L:=[(6,(i64 (-1)))]) (st':=[(BB s0)]) [0] U (by decide) rfl U (.pure (AJ fun _=>U) .nil) ⟨.rfl,trivial⟩))
      ·have b101:q95.2=true:=by simpa using b98
       refine AG (hK96 _ (zr tb U U ?_))
       obtain rfl:=Sh.AA h0
       exact AI (xr (AU (L:=[(6,(i64 q95.1))]) (st':=[(BB s0)]) [0] U (by decide) rfl U (.pure (AJ fun _=>U) .nil) ⟨.rfl,trivial⟩))
     refine AP (Ak (σ:=Int×(List Int)) (fun n v=>BT s0 p0 p2 rec_impl_signatures_typeOf n v.1 v.2=some o93) (fun (t90,l91)=>⟨194,AL [(1,(ow 0 0 s0)),(3,(.ptr 1 0 0 0)),(5,(.ptr 2 0 0 0)),(12,(ow 3 0 l91)),(161,(ls A4 p2.kids)),(162,(i64 (Sh.len p2.kids))),(163,(i64 t90))],[(ro 0 3 1 eI s0),⟨0,119,2,[(FN p0)]⟩,(Iv p2.op p2.num p2.kids),(ro 0 3 1 eI l91)]⟩) N (0,l87) h1 (AH U) (fun _ hv=>by rw[BT] at hv;cases hv) ?_)
     rintro n ⟨t90,l91⟩ h1
     try dsimp only at h1 ⊢
     rw[BT] at h1
     refine zr tb U U (AB fun K104 hK104=>?_)
     refine ci h1 U ?_ ?_ <;> clear h1 <;> intro b105 h1
     ·refine AG (hK104 _ (AB fun K106 hK106=>AP (sr U fun K107 hK107=>zq tb U (bs h1 fun c108 gc108 h1=>zz (Ff c108) (BY Bw U U gc108 (Aw _) rfl) rfl (zq tb U (As (m:=4) Ac Hb U U (zq tb U (Ay Ac Cz U U U U U U (show 0+3≤3 by decide) rfl (dn hK107 U ?_)))))))))
      refine sr U fun K109 hK109=>zm tb 5 U (bs h1 fun q110 gq110 h1=>?_)
      refine Pd (rows0:=[(BB s0)]) (rows1:=[(BB s0)]) (st':=[(BB s0),(Er p0),(Iv p2.op p2.num p2.kids),(BB l91),(Iv c108.op c108.num c108.kids)]) (v':=(i64 q110)) [0] Ac (hb 101) (hrec_impl_signatures_typeOf gq110) rfl (by decide) rfl U (.pure (AJ fun _=>U) .nil) rfl U (.pure (AJ fun _=>U) .nil) .nil U U ?_
      refine bs h1 fun c111 gc111 h1=>zz (.ptr 3 0 (Int.toNat t90) 0) (Bb BJ U U U U gc111) rfl (HW (u':=q110) Ac Ja U U gc111 U U U (show 0+1≤1 by decide) rfl U (dn hK109 U (sr U fun K112 hK112=>zm tb 2 U (bs h1 fun c113 gc113 h1=>?_))))
      refine zz (.ptr 3 0 (Int.toNat t90) 0) (Bb BJ U U U (by simp only[Sh.Az]) gc113) rfl ?_
      refine zz (i64 c113) (CZ Ja U U (GZ gc113) rfl) rfl (zq tb U (dn hK112 U ?_))
      refine ci h1 U ?_ ?_ <;> clear h1 <;> intro b114 h1
      ·refine zr tb U U ?_
       obtain rfl:=Sh.AA h1
       try dsimp only[id] at h0
       obtain rfl:=Sh.AA h0
       exact AI (xr (AU (L:=[(6,(i64 (-1)))]) (st':=[(BB s0)]) [0] U (by decide) rfl U (.pure (AJ fun _=>U) .nil) ⟨.rfl,trivial⟩))
      ·refine AG (hK106 _ (AF U (zm tb 2 U ?_)))
       exact AE (xi (Sh.w (t90+1),Sh.put l91 t90 q110) h1 (by refine Wk.trans (AU (L:=[(1,(.own 0 0 (List.length s0))),(3,(.ptr 1 0 0 0)),(5,(.ptr 2 0 0 0)),(12,(.own 3 0 (List.length l91))),(161,(.sl (List.map A4 p2.kids))),(162,(i64 (Sh.len p2.kids))),(163,(i64 (Sh.w (t90+1))))]) (st':=[⟨0,3,1,List.map eI s0⟩,⟨0,119,2,[(FN p0)]⟩,⟨0,44,3,[[(i64 p2.op),(i64 p2.num),(.sl (List.map A4 p2.kids))]]⟩,⟨0,3,1,List.map eI (Sh.put l91 t90 q110)⟩]) [0,1,2,3] U (by decide) rfl U (.pure (AJ fun _=>U) (.raw U U (.raw U U (.pure (AJ fun _=>U) .nil)))) ⟨.rfl,.rfl,.rfl,.rfl,.rfl,.rfl,.rfl,trivial⟩) ?_;exact AS (L:=[(1,(.own 0 0 (List.length s0))),(3,(.ptr 1 0 0 0)),(5,(.ptr 2 0 0 0)),(12,(.own 3 0 (List.length (Sh.put l91 t90 q110)))),(161,(.sl (List.map A4 p2.kids))),(162,(i64 (Sh.len p2.kids))),(163,(i64 (Sh.w (t90+1))))]) ⟨.rfl,.rfl,.rfl,(.len (by simp only[Sh.Az])),.rfl,.rfl,.rfl,trivial⟩))
     ·exact Ao (M93 l91 (Sh.AA h1).symm _ (AH U))

theorem KP {N:Nat} :∀(n:Nat),∀{s0:(List Int)} {p0:A1} {p2:AD} {r:Int},A9 N n s0 p0 p2=some r→Aa Tryz.prog 101 [(F9 p0),(ow 0 0 s0),(Bt p2)] [(BB s0)] (fun v st=>v=(i64 r)∧st=[(BB s0)]):=by
 intro n
 induction n with
 | zero=>intro s0 p0 p2 r h0;cases h0
 | succ n ih=>
  intro s0 p0 p2 r h0
  rw[A9] at h0
  exact KH (fun h=>ih h) h0
theorem Kw {N:Nat} :∀{s0:(List Int)} {p0:A1} {p2:AD} {r:Int},Gh N s0 p0 p2=some r→Aa Tryz.prog 101 [(F9 p0),(ow 0 0 s0),(Bt p2)] [(BB s0)] (fun v st=>v=(i64 r)∧st=[(BB s0)]):=by
 intro s0 p0 p2 r h0
 exact KP N h0
theorem TB {N:Nat} {p0:AN} {p1:(List Int)} {p2:AD} {r:Int} (h0:Kf N p0 p1 p2=some r):Aa Tryz.prog 54 (UY p0 p1 p2) [] (fun v st=>v=(i64 r)∧st=[]):=by
 unfold Kf at h0
 refine ai Tryz.func54 U U U U (sr U fun K1 hK1=>A7 (m:=0) Ac U U U U U (A7 (m:=1) Ac U U U U U (zq tb U (dn hK1 U (AB fun K2 hK2=>AB fun K3 hK3=>bs h0 fun o5 h1 h0=>?_)))))
 have M5 :∀(t4:Bool),o5=t4→∀s,Wk 0 s ⟨28,AL [(1,(ls eI p1)),(3,Am),(5,Aq),(21,(.bool t4))],[(YS p0.decls p0.funcs),(Iv p2.op p2.num p2.kids)]⟩→K3 s:=by
  intro t4 hq s hw
  subst o5
  try dsimp only at h0
  refine hK3 _ (AM hw ?_)
  refine ci h0 U ?_ ?_ <;> clear h0 <;> intro b6 h0
  ·refine zr tb U U ?_
   obtain rfl:=Sh.AA h0
   exact AI (xr (Ai [(6,(i64 (-1)))] U))
  ·refine AG (hK2 _ (AB fun K8 hK8=>?_))
   refine Hh (by kernel_rfl) ?_
   refine bs h0 fun q9 gq9 h0=>bs h0 fun q10 gq10 h0=>bs h0 fun q11 gq11 h0=>Jo fun A12 hA12=>?_
   have A12_0123456:A12 0 (bm 7 127) ⟨28,AL [(6,(i64 q11))],[]⟩:=(hA12 _ _ _).2 (by
    refine G0 U (by kernel_rfl) ?_
    refine hK8 _ ?_
    obtain rfl:=Sh.AA h0
    exact AI (Exists.intro _ (And.intro (AS (L:=[(6,(i64 q11))]) (.same U)) (And.intro U U))))
   have A12_012345:A12 1 (bm 7 63) ⟨28,AL [(27,(i64 q11))],[]⟩:=(hA12 _ _ _).2 (by
    refine Bq 6 (v:=(i64 q11)) rfl U (by kernel_rfl) (by kernel_rfl) (by kernel_rfl) rfl (MO U) ?_
    exact xt hA12 A12_0123456)
   have A12_01234:A12 2 (bm 7 31) ⟨28,AL [(23,(F9 q9)),(25,(ow 0 0 q10)),(26,(Bt p2))],[(BB q10)]⟩:=(hA12 _ _ _).2 (by
    refine xa [5] ⟨?_,trivial⟩
    ·refine xo 5 ?_
     refine Pd (rows0:=[(BB q10)]) (rows1:=[(BB q10)]) (st':=[(BB q10)]) (v':=(i64 q11)) [0] Ac (hb 101) (Kw gq11) rfl (by decide) rfl U (.pure (AJ fun _=>U) .nil) rfl U (.pure (AJ fun _=>U) .nil) .nil U U ?_
     exact C4 hA12 A12_012345 (by exact AU [] U (by decide) rfl U .nil (.same U)))
   have A12_0123:A12 3 (bm 7 15) ⟨28,AL [(5,Am),(23,(F9 q9)),(25,(ow 1 0 q10))],[(Iv p2.op p2.num p2.kids),(BB q10)]⟩:=(hA12 _ _ _).2 (by
    refine xa [4] ⟨?_,trivial⟩
    ·refine xo 4 ?_
     exact zq tb U (C4 hA12 A12_01234 (by exact AU [1] U (by decide) rfl U (.pure (AJ fun _=>U) .nil) (.same U))))
   have A12_0124:A12 3 (bm 7 23) ⟨28,AL [(23,(F9 q9)),(24,(ls eI p1)),(26,(Bt p2))],[]⟩:=(hA12 _ _ _).2 (by
    refine xa [3] ⟨?_,trivial⟩
    ·refine xo 3 ?_
     exact BF (v':=(ow 0 0 q10)) Ac (hb 102) (Bv gq10) rfl U ⟨(BZ fun _=>U),trivial⟩ U U (xd hA12 A12_01234))
   have A12_012:A12 4 (bm 7 7) ⟨28,AL [(5,Am),(23,(F9 q9)),(24,(ls eI p1))],[(Iv p2.op p2.num p2.kids)]⟩:=(hA12 _ _ _).2 (by
    refine xa [3,4] ⟨?_,?_,trivial⟩
    ·refine xo 3 ?_
     exact BF (v':=(ow 1 0 q10)) Ac (hb 102) (Bv gq10) rfl U ⟨(BZ fun _=>U),trivial⟩ U U (xd hA12 A12_0123)
    ·refine xo 4 ?_
     exact zq tb U (C4 hA12 A12_0124 (by exact AU [] U (by decide) rfl U .nil (.same U))))
   have A12_024:A12 4 (bm 7 21) ⟨28,AL [(22,(HH p0)),(24,(ls eI p1)),(26,(Bt p2))],[]⟩:=(hA12 _ _ _).2 (by
    refine xa [1] ⟨?_,trivial⟩
    ·refine xo 1 ?_
     exact zc (v':=(F9 q9)) (hb 100) (ND gq9) rfl U U (xd hA12 A12_0124))
   have A12_02:A12 5 (bm 7 5) ⟨28,AL [(5,Am),(22,(HH p0)),(24,(ls eI p1))],[(Iv p2.op p2.num p2.kids)]⟩:=(hA12 _ _ _).2 (by
    refine xa [1,4] ⟨?_,?_,trivial⟩
    ·refine xo 1 ?_
     exact zc (v':=(F9 q9)) (hb 100) (ND gq9) rfl U U (xd hA12 A12_012)
    ·refine xo 4 ?_
     exact zq tb U (C4 hA12 A12_024 (by exact AU [] U (by decide) rfl U .nil (.same U))))
   have A12_24:A12 5 (bm 7 20) ⟨28,AL [(3,Am),(24,(ls eI p1)),(26,(Bt p2))],[(YS p0.decls p0.funcs)]⟩:=(hA12 _ _ _).2 (by
    refine xa [0] ⟨?_,trivial⟩
    ·refine xo 0 ?_
     exact zq tb U (C4 hA12 A12_024 (by exact AU [] U (by decide) rfl U .nil (.same U))))
   have A12_2:A12 6 (bm 7 4) ⟨28,AL [(3,Am),(5,Aq),(24,(ls eI p1))],[(YS p0.decls p0.funcs),(Iv p2.op p2.num p2.kids)]⟩:=(hA12 _ _ _).2 (by
    refine xa [0,4] ⟨?_,?_,trivial⟩
    ·refine xo 0 ?_
     exact zq tb U (C4 hA12 A12_02 (by exact AU [1] U (by decide) rfl U (.raw U U .nil) (.same U)))
    ·refine xo 4 ?_
     exact zq tb U (C4 hA12 A12_24 (by exact AU [0] U (by decide) rfl U (.raw U U .nil) (.same U))))
   have A12_e:A12 7 (bm 7 0) ⟨28,AL [(1,(ls eI p1)),(3,Am),(5,Aq)],[(YS p0.decls p0.funcs),(Iv p2.op p2.num p2.kids)]⟩:=(hA12 _ _ _).2 (by
    refine Bq 2 (v:=(ls eI p1)) rfl U (by kernel_rfl) (by kernel_rfl) (by kernel_rfl) rfl (CR U) ?_
    exact xt hA12 A12_2)
   refine (hA12 _ _ _).2 ?_
   exact xt hA12 A12_e
 refine AF U (zq tb U (bs h1 fun q13 gq13 h1=>zc (hb 53) (Kr gq13) rfl U U (zm tb 2 U ?_)))
 rcases Sh.Ap h1 with ⟨b14,h1⟩ | ⟨b14,h1⟩
 ·refine zs b14 U (zs b14 U (zs b14 U (zt b14 U (zq tb U ?_))))
  iterate 5 refine zs rfl rfl ?_
  exact zt U U (AE (M5 true (Sh.AA h1).symm _ (AH U)))
 ·refine zg tb b14 U (bs h1 fun q15 gq15 h1=>zd b14 (hb 57) (MM gq15) rfl U U U (zg tb b14 U (zf b14 U (zq tb U ?_))))
  rcases Sh.Ap h1 with ⟨b16,h1⟩ | ⟨b16,h1⟩
  ·refine zs b16 U ?_
   iterate 4 refine zs b16 rfl ?_
   exact zt b16 U (AE (M5 true (Sh.AA h1).symm _ (AH U)))
  ·exact zg tb b16 U (zg tb b16 U (zg tb b16 U (bs h1 fun q17 gq17 h1=>zd b16 (hb 99) (JD gq17) rfl U U U (zg tb b16 U (zf b16 U (AE (M5 (!q17) (Sh.AA h1).symm _ (AH U))))))))
theorem HQ {N:Nat} {p0:AN} {r:Bool} (h0:Ce N p0=some r):Aa Tryz.prog 24 [(HH p0)] [] (fun v st=>v=(.bool r)∧st=[]):=by
 unfold Ce at h0
 refine ai Tryz.func24 U U U U (sr U fun K1 hK1=>A7 (m:=0) Ac U U U U U (zq tb U (dn hK1 U (AB fun K2 hK2=>sr U fun K3 hK3=>zq tb U (bs h0 fun q4 gq4 h0=>zc (hb 53) (Kr gq4) rfl U U (zq tb U (dn hK3 U ?_)))))))
 refine ci h0 U ?_ ?_ <;> clear h0 <;> intro b5 h0
 ·have b6:q4=false:=by simpa using b5
  refine zr tb U U ?_
  obtain rfl:=Sh.AA h0
  exact AI (xr (Ai [(2,(.bool false))] U))
 ·have b8:q4=true:=by simpa using b5
  refine AG (hK2 _ (AB fun K9 hK9=>sr U fun K10 hK10=>zm tb 2 U (zl tb U U (zq tb U (dn hK10 U ?_)))))
  obtain⟨o12,h1,h0⟩:=Sh.A8 h0
  have M12 :∀(_:Unit),o12=Sum.inr ()→∀s,Wk 0 s ⟨25,AL [],[]⟩→K9 s:=by
   intro _ hq s hw
   subst o12
   try dsimp only at h0
   refine hK9 _ (AM hw (zr tb U U ?_))
   obtain rfl:=Sh.AA h0
   exact AI (xr (AS (L:=[(2,(.bool true))]) (.same U)))
  refine AP (Ak (σ:=Int) (fun n v=>Ci N p0 n v=some o12) (fun t11=>⟨25,AL [(1,(.ptr 0 0 0 0)),(9,(ls Ar p0.funcs)),(10,(i64 (Sh.len p0.funcs))),(11,(i64 t11))],[(YS p0.decls p0.funcs)]⟩) N 0 h1 (AH U) (fun _ hv=>by rw[Ci] at hv;cases hv) ?_)
  rintro n t11 h1
  try dsimp only at h1 ⊢
  rw[Ci] at h1
  refine zr tb U U (AB fun K15 hK15=>?_)
  refine ci h1 U ?_ ?_ <;> clear h1 <;> intro b16 h1
  ·refine AG (hK15 _ (AB fun K17 hK17=>AP (sr U fun K18 hK18=>bs h1 fun c19 gc19 h1=>zx B3 gc19 U U U (zq tb U (As (m:=1) Ac N5 U U (Ay Ac QZ U U U U U U (show 0+5≤5 by decide) rfl (dn hK18 U (AB fun K20 hK20=>?_))))))))
   refine Bk (by kernel_rfl) (by kernel_rfl) (by rfl) ?_
   iterate 5 refine yq tb rfl ?_
   refine bs h1 fun q21 gq21 h1=>Bh (v:=(i64 q21)) Ac (hb 54) (TB gq21) rfl U U ?_
   iterate 3 refine yq tb rfl ?_
   refine BL (hK20 _ ?_)
   refine ci h1 U ?_ ?_ <;> clear h1 <;> intro b22 h1
   ·have b23:decide (q21=c19.result)=false:=by simpa using b22
    refine zr tb U U ?_
    obtain rfl:=Sh.AA h1
    try dsimp only[id] at h0
    obtain rfl:=Sh.AA h0
    exact AI (xr (Ai [(2,(.bool false))] U))
   ·have b25:decide (q21=c19.result)=true:=by simpa using b22
    refine AG (hK17 _ (AF U (zm tb 2 U ?_)))
    exact AE (xi (Sh.w (t11+1)) h1 (AU [0] U (by decide) rfl U (.raw U U .nil) (.same U)))
  ·exact Ao (M12 () (Sh.AA h1).symm _ (Ai _ U))
theorem N4 {s1:(List Bool)} {p0:AD} {r:(List Bool)} (h0:HU s1 p0=some r):Aa Tryz.prog 136 [(Bt p0),Am] (Ov s1) (fun v st=>v=(.DE [])∧st=(Ov r)):=by
 unfold HU at h0
 refine ai Tryz.func136 U U U U (sr U fun K1 hK1=>A7 (m:=2) Ac U U U U U (dn hK1 U (AB fun K2 hK2=>bs h0 fun o4 h1 h0=>?_)))
 have M4 :∀(t3:Bool),o4=t3→∀s,Wk 2 s ⟨15,AL [(1,Am),(2,BD),(10,(.bool t3))],[⟨0,131,1,[[(ow 1 0 s1)]]⟩,(ro 0 4 1 eB s1),(Iv p0.op p0.num p0.kids)]⟩→K2 s:=by
  intro t3 hq s hw
  subst o4
  try dsimp only at h0
  refine hK2 _ (AM hw ?_)
  refine ci h0 U ?_ ?_ <;> clear h0 <;> intro b5 h0
  ·refine AF U (zm tb 3 U (bs h0 fun c6 gc6 h0=>zz (.ptr 1 0 (Int.toNat p0.num) 0) (Bb P8 U U U U gc6) rfl (HW (u':=true) Ac dV U U gc6 U U U (show 0+1≤1 by decide) rfl U ?_)))
   obtain rfl:=Sh.AA h0
   exact AE (Exists.intro _ (And.intro (((C9 (st:=[⟨0,131,1,[[(.own 1 0 (List.length s1))]]⟩,⟨0,4,1,List.map eB (Sh.put s1 p0.num true)⟩,⟨0,44,3,[[(i64 p0.op),(i64 p0.num),(.sl (List.map A4 p0.kids))]]⟩]) (st':=[⟨0,131,1,[[(.own 1 0 (List.length (Sh.put s1 p0.num true)))]]⟩,⟨0,4,1,List.map eB (Sh.put s1 p0.num true)⟩,⟨0,44,3,[[(i64 p0.op),(i64 p0.num),(.sl (List.map A4 p0.kids))]]⟩]) (by simp only[Sh.Az])).trans (AU (L:=[]) (st':=[⟨0,131,1,[[(.own 1 0 (List.length (Sh.put s1 p0.num true)))]]⟩,⟨0,4,1,List.map eB (Sh.put s1 p0.num true)⟩]) [0,1] U (by decide) rfl U (.raw U U (.pure (AJ fun _=>U) .nil)) trivial)).trans (AS (L:=[]) trivial)) (And.intro U U)))
  ·obtain rfl:=Sh.AA h0
   exact AG (xi _ ((AU (L:=[]) (st':=(Ov s1)) [0,1] U (by decide) rfl U (.raw U U (.pure (AJ fun _=>U) .nil)) trivial).trans (AS (L:=[]) trivial)) (And.intro U U))
 refine AF U (zm tb 4 U ?_)
 rcases Sh.Ap h1 with ⟨b7,h1⟩ | ⟨b7,h1⟩
 ·exact zs b7 U (zs b7 U (zs b7 U (zt b7 U (AE (M4 true (Sh.AA h1).symm _ (AH U))))))
 ·exact zg tb b7 U (zg tb b7 U (zg tb b7 U (zf b7 U (AE (M4 (decide (p0.op=10)) (Sh.AA h1).symm _ (AH U))))))
theorem Qo {N:Nat} {rec_impl_walk_3:(List Bool)→AD→Option ((List Bool))} (hrec_impl_walk_3 :∀{s1:(List Bool)} {p0:AD} {r:(List Bool)},rec_impl_walk_3 s1 p0=some r→Aa Tryz.prog 135 [(Bt p0),(.fn 136 [Am])] (Ov s1) (fun v st=>v=(.DE [])∧st=(Ov r))) {s1:(List Bool)} {p0:AD} {r:(List Bool)} (h0:JJ N rec_impl_walk_3 s1 p0=some r):Aa Tryz.prog 135 [(Bt p0),(.fn 136 [Am])] (Ov s1) (fun v st=>v=(.DE [])∧st=(Ov r)):=by
 unfold JJ at h0
 refine ai Tryz.func135 U U U U (sr U fun K1 hK1=>A7 (m:=2) Ac U U U U U (dn hK1 U (sr U fun K2 hK2=>zm tb 2 U (bs h0 fun q3 gq3 h0=>?_))))
 refine To (rowsP:=(Ov s1)) (rows0:=(Ov s1)) (rows1:=(Ov q3)) (rows2:=[]) (rows1':=(Ov q3)) (rows2':=[]) (st':=[⟨0,131,1,[[(ow 1 0 q3)]]⟩,(ro 0 4 1 eB q3),(Iv p0.op p0.num p0.kids)]) (v':=(.DE [])) [0,1] Ac U (hb 136) (N4 gq3) rfl (by decide) rfl U (.raw U U (.pure (AJ fun _=>U) .nil)) rfl U (.raw U U (.pure (AJ fun _=>U) .nil)) .nil U U ?_
 refine dn hK2 U (sr U fun K4 hK4=>zm tb 2 U (zl tb U U (zq tb U (dn hK4 U (Ve fun K5 hK5=>bs h0 fun o9 h1 h0=>?_)))))
 have M9 :∀(l8:(List Bool)),o9=l8→∀s,Wk 2 s ⟨20,AL [],(Ov l8)⟩→K5 s:=by
  intro l8 hq s hw
  subst o9
  try dsimp only at h0
  refine hK5 _ ?_
  obtain rfl:=Sh.AA h0
  exact Exists.intro _ (And.intro (hw.trans (AS (L:=[]) trivial)) (And.intro U U))
 refine AP (Ak (σ:=Int×(List Bool)) (fun n v=>DZ p0 rec_impl_walk_3 n v.1 v.2=some o9) (fun (t6,l7)=>⟨20,AL [(1,(.fn 136 [(.ptr 0 0 0 0)])),(10,(ls A4 p0.kids)),(11,(i64 (Sh.len p0.kids))),(12,(i64 t6))],[⟨0,131,1,[[(ow 1 0 l7)]]⟩,(ro 0 4 1 eB l7)]⟩) N (0,q3) h1 (AU [0,1] U (by decide) rfl U (.raw U U (.pure (AJ fun _=>U) .nil)) (.same U)) (fun _ hv=>by rw[DZ] at hv;cases hv) ?_)
 rintro n ⟨t6,l7⟩ h1
 try dsimp only at h1 ⊢
 rw[DZ] at h1
 refine zr tb U U (AB fun K11 hK11=>?_)
 refine ci h1 U ?_ ?_ <;> clear h1 <;> intro b12 h1
 ·refine AG (hK11 _ (AB fun K13 hK13=>AP (sr U fun K14 hK14=>bs h1 fun c15 gc15 h1=>zz (Ff c15) (BY Bw U U gc15 (Aw _) rfl) rfl (zq tb U (As (m:=2) Ac Hb U U (Ay Ac Cz U U U U U U (show 0+3≤3 by decide) rfl (dn hK14 U (AF U (zm tb 2 U ?_)))))))))
  refine bs h1 fun q16 gq16 h1=>?_
  refine Fe (rowsP:=(W6 l7)) (rows0:=(W6 l7)) (rows1:=(W6 q16)) (rows2:=[]) (rows1':=(W6 q16)) (rows2':=[]) (st':=[⟨0,131,1,[[(.own 1 0 (List.length q16))]]⟩,⟨0,4,1,List.map eB q16⟩,⟨0,44,3,[[(i64 c15.op),(i64 c15.num),(.sl (List.map A4 c15.kids))]]⟩]) (v':=(.DE [])) [0,1] Ac (hb 135) (hrec_impl_walk_3 gq16) rfl (by decide) rfl U (.raw U U (.pure (AJ fun _=>U) .nil)) rfl U (.raw U U (.pure (AJ fun _=>U) .nil)) .nil U U (fun hln=>?_)
  have ln17:List.length q16=List.length l7:=by simpa only[List.length_map] using hln 1 _ _ rfl rfl rfl
  refine dn hK13 U (AF U (zm tb 2 U ?_))
  exact AE (xi (Sh.w (t6+1),q16) h1 (AU [0,1] U (by decide) rfl U (.raw U U (.pure (AJ fun _=>U) .nil)) (.same U)))
 ·exact Ao (M9 l7 (Sh.AA h1).symm _ (AH U))

theorem Q6 {N:Nat} :∀(n:Nat),∀{s1:(List Bool)} {p0:AD} {r:(List Bool)},FX N n s1 p0=some r→Aa Tryz.prog 135 [(Bt p0),(.fn 136 [Am])] (Ov s1) (fun v st=>v=(.DE [])∧st=(Ov r)):=by
 intro n
 induction n with
 | zero=>intro s1 p0 r h0;cases h0
 | succ n ih=>
  intro s1 p0 r h0
  rw[FX] at h0
  exact Qo (fun h=>ih h) h0
theorem Ss {N:Nat} :∀{s1:(List Bool)} {p0:AD} {r:(List Bool)},Mr N s1 p0=some r→Aa Tryz.prog 135 [(Bt p0),(.fn 136 [Am])] (Ov s1) (fun v st=>v=(.DE [])∧st=(Ov r)):=by
 intro s1 p0 r h0
 exact Q6 N h0
theorem Kt {N:Nat} {p0:AN} {p1:Int} {r:(List Bool)} (h0:GF N p0 p1=some r):Aa Tryz.prog 117 [(HH p0),(i64 p1)] [] (fun v st=>v=(ow 0 0 r)∧st=[(ro 0 4 1 eB r)]):=by
 unfold GF at h0
 refine ai Tryz.func117 U U U U (sr U fun K1 hK1=>A7 (m:=0) Ac U U U U U (zq tb U (dn hK1 U (sr U fun K2 hK2=>zm tb 2 U (zl tb U U (bs h0 fun l3 gl3 h0=>NZ (m:=1) (enc:=eB) (u:=false) Ac P8 U U U gl3 U U (As (m:=2) Ac eF U U (Ay Ac dq U U U U U U (show 0+1≤1 by decide) rfl ?_))))))))
 refine dn hK2 U (sr U fun K4 hK4=>zm tb 3 U (bs h0 fun c5 gc5 h0=>zx B3 gc5 U U U (zm tb 2 U (zz (.fn 136 [BD]) (Vz U) rfl (bs h0 fun q6 gq6 h0=>?_)))))
 refine Fe (rowsP:=(W6 l3)) (rows0:=(W6 l3)) (rows1:=(W6 q6)) (rows2:=[]) (rows1':=(W6 q6)) (rows2':=[]) (st':=[⟨0,30,2,(du p0)⟩,⟨0,4,1,List.map eB q6⟩,⟨0,131,1,[[(.own 1 0 (List.length q6))]]⟩]) (v':=(.DE [])) [2,1] Ac (hb 135) (Ss gq6) rfl (by decide) rfl U (.raw U U (.pure (AJ fun _=>U) .nil)) rfl U (.raw U U (.pure (AJ fun _=>U) .nil)) .nil U U (fun hln=>?_)
 have ln7:List.length q6=List.length l3:=by simpa only[List.length_map] using hln 1 _ _ rfl rfl rfl
 refine dn hK4 U (zr tb U U ?_)
 obtain rfl:=Sh.AA h0
 exact AI (xr (AU (L:=[(4,(ow 0 0 q6))]) (st':=[(ro 0 4 1 eB q6)]) [1] U (by decide) rfl U (.pure (AJ fun _=>U) .nil) ⟨.rfl,trivial⟩))
theorem Ii {N:Nat} {p0:(List Bool)} {r:(List Int)} (h0:E3 N p0=some r):Aa Tryz.prog 116 [(ls eB p0)] [] (fun v st=>v=(ow 0 0 r)∧st=[(BB r)]):=by
 unfold E3 at h0
 refine ai Tryz.func116 U U U U ?_
 iterate 2 refine zr tb rfl rfl ?_
 refine AB fun K3 hK3=>sr U fun K4 hK4=>zq tb U (zl tb U U (zq tb U (dn hK4 U (bs h0 fun o8 h1 h0=>?_))))
 have M8 :∀(l7:(List Int)),o8=l7→∀s,Wk 0 s ⟨20,AL [(3,(ow 0 0 l7))],[(BB l7)]⟩→K3 s:=by
  intro l7 hq s hw
  subst o8
  try dsimp only at h0
  refine hK3 _ (AM hw (zr tb U U ?_))
  obtain rfl:=Sh.AA h0
  exact AI (xr (AS (L:=[(2,(ow 0 0 l7))]) (.same U)))
 refine AP (Ak (σ:=Int×(List Int)) (fun n v=>DB p0 n v.1 v.2=some o8) (fun (t5,l6)=>⟨20,AL [(3,(ow 0 0 l6)),(6,(ls eB p0)),(7,(i64 (Sh.len p0))),(8,(i64 t5))],[(ro 0 3 1 eI l6)]⟩) N (0,[]) h1 ((Fq (t:=3) rfl 3 (size:=1) (by decide)).trans (AS (L:=[(3,(.own 0 0 (List.length ([]:List Int)))),(6,(ls eB p0)),(7,(i64 (Sh.len p0))),(8,(i64 0))]) (.same U))) (fun _ hv=>by rw[DB] at hv;cases hv) ?_)
 rintro n ⟨t5,l6⟩ h1
 try dsimp only at h1 ⊢
 rw[DB] at h1
 refine zr tb U U (AB fun K11 hK11=>?_)
 refine ci h1 U ?_ ?_ <;> clear h1 <;> intro b12 h1
 ·refine AG (hK11 _ (AB fun K13 hK13=>bs h1 fun o15 h2 h1=>?_))
  have M15 :∀(l14:(List Int)),o15=l14→∀s,Wk 0 s ⟨20,AL [(3,(ow 0 0 l14)),(6,(ls eB p0)),(7,(B0 p0)),(8,(i64 t5))],[(BB l14)]⟩→K13 s:=by
   intro l14 hq s hw
   subst o15
   try dsimp only at h1
   exact hK13 _ (AM hw (AF U (zm tb 2 U (AE (xi (Sh.w (t5+1),l14) h1 (AH U))))))
  refine AP (sr U fun K16 hK16=>zq tb U (bs h2 fun c17 gc17 h2=>zx P8 gc17 U U U (zm tb 3 U (dn hK16 U (zr tb U U ?_)))))
  refine ci h2 U ?_ ?_ <;> clear h2 <;> intro b19 h2
  ·refine AF U (zm tb 2 U ?_)
   refine Bu (m:=1) (l:=[t5]) (enc:=eI) Ac BJ (by decide) rfl U U U U U ?_
   refine bs h2 fun l20 gl20 h2=>FA (l2:=[t5]) Ac BJ U U U U (IC U U) (fun _=>U) gl20 U (zq tb U ?_)
   exact AE (M15 l20 (Sh.AA h2).symm _ (by refine Wk.trans (Cy (L:=[(3,(ow 0 0 l20)),(6,(ls eB p0)),(7,(B0 p0)),(8,(i64 t5))]) (st':=[(BB l20),(QD t5)]) (.pure (AJ fun _=>U) (.pure (AJ fun _=>U) .nil)) (.same U)) ?_;exact AU [0] U (by decide) rfl U (.pure (AJ fun _=>U) .nil) (.same U)))
  ·exact AG (M15 l6 (Sh.AA h2).symm _ (AH U))
 ·exact Ao (M8 l6 (Sh.AA h1).symm _ (AH U))
theorem PJ {N:Nat} {p0:AN} {p1:Int} {r:(List Int)} (h0:HJ N p0 p1=some r):Aa Tryz.prog 77 [(HH p0),(i64 p1)] [] (fun v st=>v=(ow 0 0 r)∧st=[(BB r)]):=by
 unfold HJ at h0
 refine ai Tryz.func77 U U U U (sr U fun K1 hK1=>A7 (m:=0) Ac U U U U U (zq tb U (dn hK1 U (AB fun K2 hK2=>AB fun K3 hK3=>bs h0 fun o5 h1 h0=>?_))))
 have M5 :∀(t4:Bool),o5=t4→∀s,Wk 0 s ⟨23,AL [(1,(i64 p1)),(2,Am),(18,(.bool t4))],[(YS p0.decls p0.funcs)]⟩→K3 s:=by
  intro t4 hq s hw
  subst o5
  try dsimp only at h0
  refine hK3 _ (AM hw ?_)
  refine ci h0 U ?_ ?_ <;> clear h0 <;> intro b6 h0
  ·refine zr tb U U ?_
   obtain rfl:=Sh.AA h0
   exact AI (Exists.intro _ (And.intro ((((Fq (t:=4) rfl 3 (size:=1) (by decide)).trans (AS (L:=[(4,(.own 1 0 (List.length ([]:List Int))))]) ⟨.rfl,trivial⟩)).trans (AU (L:=[(4,Us)]) (st':=[(ro 0 3 1 eI ([]:List Int))]) [1] U (by decide) rfl U (.pure (AJ fun _=>U) .nil) ⟨.rfl,trivial⟩)).trans (AS (L:=[(4,Us)]) ⟨.rfl,trivial⟩)) (And.intro U U)))
  ·refine AG (hK2 _ (sr U fun K8 hK8=>zm tb 2 U (bs h0 fun q9 gq9 h0=>BF (v':=(ow 1 0 q9)) Ac (hb 117) (Kt gq9) rfl U ⟨(BZ fun _=>U),trivial⟩ U U (Af (Wk.DN (L:=[(21,(ls eB q9))]) (st':=[(YS p0.decls p0.funcs),⟨1,4,1,[]⟩]) (id:=1) rfl (show 0≤1 by decide) (AJ fun _=>U) ⟨(.DN U),trivial⟩ U) (bs h0 fun q10 gq10 h0=>BF (v':=(ow 2 0 q10)) Ac (hb 116) (Ii gq10) rfl U ⟨(BZ fun _=>U),trivial⟩ U U (zq tb U (dn hK8 U ?_)))))))
   obtain rfl:=Sh.AA h0
   exact AI (xr (AU (L:=[(4,(ow 0 0 q10))]) (st':=[(BB q10)]) [2] U (by decide) rfl U (.pure (AJ fun _=>U) .nil) ⟨.rfl,trivial⟩))
 refine AF U (zq tb U (bs h1 fun q11 gq11 h1=>zc (hb 24) (HQ gq11) rfl U U (zm tb 2 U ?_)))
 rcases Sh.Ap h1 with ⟨b12,h1⟩ | ⟨b12,h1⟩
 ·refine zs b12 U (zs b12 U (zt b12 U (zq tb U ?_)))
  iterate 5 refine zs rfl rfl ?_
  exact zt U U (AE (M5 true (Sh.AA h1).symm _ (AH U)))
 ·refine zg tb b12 U (zg tb b12 U (zf b12 U (zq tb U ?_)))
  rcases Sh.Ap h1 with ⟨b13,h1⟩ | ⟨b13,h1⟩
  ·refine zs b13 U ?_
   iterate 4 refine zs b13 rfl ?_
   exact zt b13 U (AE (M5 true (Sh.AA h1).symm _ (AH U)))
  ·exact zg tb b13 U (zg tb b13 U (zg tb b13 U (BH (v:=(i64 (Sh.len p0.funcs))) (DT U U b13) rfl (CK Vo U) (zg tb b13 U (zf b13 U (AE (M5 (decide ((Sh.len p0.funcs)≤p1)) (Sh.AA h1).symm _ (AH U))))))))
end Go.Proofs.YtpahalfiiahddaaGreat

