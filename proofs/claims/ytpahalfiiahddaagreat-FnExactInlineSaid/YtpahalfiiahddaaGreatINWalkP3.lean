import Derived.Test.YtpahalfiiahddaaGreatProg
import Derived.Test.YtpahalfiiahddaaGreatGAbsXToAbsZN
import Derived.Test.YtpahalfiiahddaaGreatGAbsZPToSSDefs
import Derived.Test.YtpahalfiiahddaaGreatGHADefsToINDefs
import Derived.Test.YtpahalfiiahddaaGreatCFWalk
import Derived.Test.YtpahalfiiahddaaGreatLAWalk
import Derived.Test.YtpahalfiiahddaaGreatINWalkP2
namespace Go.Proofs.YtpahalfiiahddaaGreat
open Go Go.Abs RC
attribute [local irreducible] Go.Abs.DF
set_option maxRecDepth 100000
set_option maxHeartbeats 4000000

theorem OZ:HR Tryz.prog 30 1=some 1:=by kernel_rfl
theorem dM:HR Tryz.prog 44 2=some 2:=by kernel_rfl
theorem dJ:HR Tryz.prog 48 0=some 0:=by kernel_rfl
theorem cw:HR Tryz.prog 48 1=some 1:=by kernel_rfl
theorem dB:HR Tryz.prog 48 2=some 2:=by kernel_rfl

theorem OC {N:Nat} {p0:AN} {p1:Int} {r:(List Int)} (h0:GK N p0 p1=some r):Aa Tryz.prog 79 [(HH p0),(i64 p1)] [] (fun v st=>v=(ow 0 0 r)∧st=[(BB r)]):=by
 unfold GK at h0
 refine ai Tryz.func79 U U U U (sr U fun K1 hK1=>A7 (m:=0) Ac U U U U U (zq tb U (dn hK1 U (AB fun K2 hK2=>AB fun K3 hK3=>bs h0 fun o5 h1 h0=>?_))))
 have M5 :∀(t4:Bool),o5=t4→∀s,Wk 0 s ⟨63,AL [(1,(i64 p1)),(2,Am),(22,(.bool t4))],[(CQ p0.decls p0.funcs)]⟩→K3 s:=by
  intro t4 hq s hw
  subst o5
  try dsimp only at h0
  refine hK3 _ (AM hw ?_)
  refine ci h0 U ?_ ?_ <;> clear h0 <;> intro b6 h0
  ·refine zr tb U U ?_
   obtain rfl:=Sh.AA h0
   exact AI (Exists.intro _ (And.intro ((((Fq (t:=4) rfl 3 (size:=1) (by decide)).trans (AS (L:=[(4,(.own 1 0 (List.length ([]:List Int))))]) ⟨.rfl,trivial⟩)).trans (AU (L:=[(4,Us)]) (st':=[(ro 0 3 1 eI ([]:List Int))]) [1] U (by decide) rfl U (.pure (AJ fun _=>U) .nil) ⟨.rfl,trivial⟩)).trans (AS (L:=[(4,Us)]) ⟨.rfl,trivial⟩)) (And.intro U U)))
  ·refine AG (hK2 _ (sr U fun K8 hK8=>zm tb 2 U (zl tb U U (bs h0 fun l9 gl9 h0=>NZ (m:=1) (enc:=eB) (u:=false) Ac P8 U U U gl9 U U (zq tb U (dn hK8 U (sr U fun K10 hK10=>zm tb 2 U (bs h0 fun c11 gc11 h0=>zz (.ptr 1 0 (Int.toNat p1) 0) (Bb P8 U U U U gc11) rfl ?_))))))))
   refine HW (u':=true) Ac dV U U gc11 U U U (show 0+1≤1 by decide) rfl U (dn hK10 U (AB fun K12 hK12=>sr U fun K13 hK13=>zq tb U ?_))
   refine Bu (m:=2) (l:=[p1]) (enc:=eI) Ac BJ (by decide) rfl U U U U U ?_
   refine zq tb U (dn hK13 U (bs h0 fun o17 h1 h0=>?_))
   have M17 :∀(l16:(List Bool)),o17=l16→∀s,Wk 0 s ⟨63,AL [(5,(ow 0 0 l16))],[(ro 0 4 1 eB l16)]⟩→K12 s:=by
    intro l16 hq s hw
    subst o17
    try dsimp only at h0
    refine hK12 _ (AM hw (sr U fun K18 hK18=>zq tb U (Af (Wk.DN (L:=[(61,(ls eB l16))]) (st':=[⟨1,4,1,[]⟩]) (id:=0) rfl (show 0≤0 by decide) (AJ fun _=>U) ⟨(.DN U),trivial⟩ U) (bs h0 fun q19 gq19 h0=>BF (v':=(ow 1 0 q19)) Ac (hb 116) (Ii gq19) rfl U ⟨(BZ fun _=>U),trivial⟩ U U (zq tb U (dn hK18 U ?_))))))
    obtain rfl:=Sh.AA h0
    exact AI (xr (AU (L:=[(4,(ow 0 0 q19))]) (st':=[(BB q19)]) [1] U (by decide) rfl U (.pure (AJ fun _=>U) .nil) ⟨.rfl,trivial⟩))
   refine AP (Ak (σ:=(List Int)×(List Bool)×(List Int)) (fun n v=>Du N p0 n v.2.1 v.2.2=some o17) (fun (Gh2508_0,l14,l15)=>⟨63,AL [(2,(.ptr 0 0 0 0)),(5,(.own 1 0 (List.length l14))),(6,(.own 2 0 (List.length l15)))],[⟨0,30,2,[[(.sl (List.map AT p0.decls)),(.sl (List.map Ar p0.funcs))]]⟩,⟨0,4,1,List.map eB l14⟩,⟨0,3,1,List.map eI (Gh2508_0 ++ l15)⟩]⟩) N (([]:List Int),Sh.put l9 p1 true,[p1]) h1 (AS (L:=[(2,(.ptr 0 0 0 0)),(5,(.own 1 0 (List.length (Sh.put l9 p1 true)))),(6,(.own 2 0 (List.length [p1])))]) ⟨.rfl,(.len (by simp only[Sh.Az])),.rfl,trivial⟩) (fun _ hv=>by rw[Du] at hv;cases hv) ?_)
   rintro n ⟨Gh2508_0,l14,l15⟩ h1
   try dsimp only at h1 ⊢
   rw[Du] at h1
   refine AB fun K20 hK20=>sr U fun K21 hK21=>zq tb U (zz (B0 l15) (bp Fp U U) rfl (zq tb U (dn hK21 U ?_)))
   refine ci h1 U ?_ ?_ <;> clear h1 <;> intro b22 h1
   ·refine AG (hK20 _ (AB fun K23 hK23=>AP (AB fun K24 hK24=>?_)))
    refine Bk (by kernel_rfl) (by kernel_rfl) (by rfl) ?_
    iterate 2 refine yq tb rfl ?_
    refine bs h1 fun c25 gc25 h1=>yz (.ptr 2 0 (List.length Gh2508_0+Int.toNat 0) 0) (cg BJ U U U gc25) rfl (yz (i64 c25) (CZ Ja U U (bn gc25) rfl) rfl (bs h1 fun q26 gq26 h1=>?_))
    refine Bh (v:=(ls eB q26)) Ac (hb 117) (Aa.wk (Kt gq26) (by refine Wk.trans (Wk.DN (L:=[(0,(ls eB q26))]) (st':=[⟨1,4,1,[]⟩]) (id:=0) rfl (show 0≤0 by decide) (AJ fun _=>U) ⟨(.DN U),trivial⟩ U) ?_;exact AU [] U (by decide) rfl U .nil (.same U))) rfl U U ?_
    refine bs h1 fun q27 gq27 h1=>?_
    refine Bh (v:=(ls eI q27)) Ac (hb 116) (Aa.wk (Ii gq27) (by refine Wk.trans (Wk.DN (L:=[(0,(ls eI q27))]) (st':=WK) (id:=0) rfl (show 0≤0 by decide) (AJ fun _=>U) ⟨(.DN U),trivial⟩ U) ?_;exact AU [] U (by decide) rfl U .nil (.same U))) rfl U U ?_
    refine yl tb U U (yq tb U (BL (hK24 _ (bs h1 fun o33 h2 h1=>?_))))
    have M33 :∀(Gx2538_0:List Int) (l31:(List Bool)) (l32:(List Int)),o33=(l31,l32)→∀s,Wk 0 s ⟨63,AL [(2,Am),(5,(ow 1 0 l31)),(6,(ow 2 0 l32))],[(CQ p0.decls p0.funcs),(ro 0 4 1 eB l31),(ro 0 3 1 eI (Gx2538_0 ++ l32))]⟩→K23 s:=by
     intro Gx2538_0 l31 l32 hq s hw
     subst o33
     try dsimp only at h1
     exact hK23 _ (AM hw (AF U (zq tb U (bs h1 fun l34 gl34 h1=>bS (stf:=fun G154=>[(CQ p0.decls p0.funcs),(ro 0 4 1 eB l31),(ro 1 3 1 eI (G154 ++ l34))]) BJ gl34 U U U (fun _=>U) fun G154=>zq tb U (AE (xi (G154,l31,l34) h1 (Cy (L:=[(2,Am),(5,(ow 1 0 l31)),(6,(ow 2 0 l34))]) (st':=[(CQ p0.decls p0.funcs),(ro 0 4 1 eB l31),(ro 0 3 1 eI (G154 ++ l34))]) (.raw U U (.pure (AJ fun _=>U) (.pure (AJ fun _=>U) .nil))) (.same U))))))))
    refine AP (Ak (σ:=(List Int)×Int×(List Bool)×(List Int)) (fun n v=>CU q27 n v.2.1 v.2.2.1 v.2.2.2=some o33) (fun (Gh2535_0,t28,l29,l30)=>⟨63,AL [(2,(.ptr 0 0 0 0)),(5,(ow 1 0 l29)),(6,(ow 2 0 l30)),(42,(ls eI q27)),(43,(i64 (Sh.len q27))),(44,(i64 t28))],[(CQ p0.decls p0.funcs),(ro 0 4 1 eB l29),(ro 0 3 1 eI (Gh2535_0 ++ l30))]⟩) N (Gh2508_0,0,l14,l15) h2 (AH U) (fun _ hv=>by rw[CU] at hv;cases hv) ?_)
    rintro n ⟨Gh2535_0,t28,l29,l30⟩ h2
    try dsimp only at h2 ⊢
    rw[CU] at h2
    refine zr tb U U (AB fun K36 hK36=>?_)
    refine ci h2 U ?_ ?_ <;> clear h2 <;> intro b37 h2
    ·refine AG (hK36 _ (AB fun K38 hK38=>bs h2 fun o41 h3 h2=>?_))
     have M41 :∀(Gj2539_0:List Int) (l39:(List Bool)) (l40:(List Int)),o41=(l39,l40)→∀s,Wk 0 s ⟨63,AL [(2,Am),(5,(ow 1 0 l39)),(6,(ow 2 0 l40)),(42,(ls eI q27)),(43,(B0 q27)),(44,(i64 t28))],[(CQ p0.decls p0.funcs),(ro 0 4 1 eB l39),(ro 0 3 1 eI (Gj2539_0 ++ l40))]⟩→K38 s:=by
      intro Gj2539_0 l39 l40 hq s hw
      subst o41
      try dsimp only at h2
      exact hK38 _ (AM hw (AF U (zm tb 2 U (AE (xi (Gj2539_0,Sh.w (t28+1),l39,l40) h2 (AH U))))))
     refine AP (sr U fun K42 hK42=>bs h3 fun c43 gc43 h3=>zx BJ gc43 U U U (zm tb 2 U (dn hK42 U (sr U fun K44 hK44=>zm tb 2 U (bs h3 fun c45 gc45 h3=>zz (.ptr 1 0 (Int.toNat c43) 0) (Bb P8 U U U U gc45) rfl (zz (.bool c45) (CZ dV U U (GZ gc45) rfl) rfl (zq tb U ?_)))))))
     refine dn hK44 U ?_
     refine ci h3 U ?_ ?_ <;> clear h3 <;> intro b46 h3
     ·have b47:c45=false:=by simpa using b46
      refine sr U fun K48 hK48=>zm tb 2 U (zz (.ptr 1 0 (Int.toNat c43) 0) (Bb P8 U U U U gc45) rfl (HW (u':=true) Ac dV U U gc45 U U U (show 0+1≤1 by decide) rfl U (dn hK48 U (AF U (zm tb 2 U ?_)))))
      refine Bu (m:=3) (l:=[c43]) (enc:=eI) Ac BJ (by decide) rfl U U U U U ?_
      refine bs h3 fun l49 gl49 h3=>cL (stf:=fun G156=>[(CQ p0.decls p0.funcs),(ro 0 4 1 eB (Sh.put l29 c43 true)),(ro 1 3 1 eI (G156 ++ l49)),(QD c43)]) BJ U U U U gl49 (fun _=>U) fun G156=>zq tb U ?_
      exact AE (M41 G156 (Sh.put l29 c43 true) l49 (Sh.AA h3).symm _ (by refine Wk.trans (Cy (L:=[(2,(.ptr 0 0 0 0)),(5,(.own 1 0 (List.length l29))),(6,(.own 2 0 (List.length l49))),(42,(.sl (List.map eI q27))),(43,(i64 (Sh.len q27))),(44,(i64 t28))]) (st':=[⟨0,30,2,[[(.sl (List.map AT p0.decls)),(.sl (List.map Ar p0.funcs))]]⟩,⟨0,4,1,List.map eB (Sh.put l29 c43 true)⟩,⟨0,3,1,List.map eI (G156 ++ l49)⟩,⟨0,3,1,List.map eI [c43]⟩]) (.raw U U (.pure (AJ fun _=>U) (.pure (AJ fun _=>U) (.pure (AJ fun _=>U) .nil)))) ⟨.rfl,.rfl,.rfl,.rfl,.rfl,.rfl,trivial⟩) ?_;refine Wk.trans (AU (L:=[(2,(.ptr 0 0 0 0)),(5,(.own 1 0 (List.length l29))),(6,(.own 2 0 (List.length l49))),(42,(.sl (List.map eI q27))),(43,(i64 (Sh.len q27))),(44,(i64 t28))]) (st':=[⟨0,30,2,[[(.sl (List.map AT p0.decls)),(.sl (List.map Ar p0.funcs))]]⟩,⟨0,4,1,List.map eB (Sh.put l29 c43 true)⟩,⟨0,3,1,List.map eI (G156 ++ l49)⟩]) [0,1,2] U (by decide) rfl U (.raw U U (.pure (AJ fun _=>U) (.pure (AJ fun _=>U) .nil))) ⟨.rfl,.rfl,.rfl,.rfl,.rfl,.rfl,trivial⟩) ?_;exact AS (L:=[(2,(.ptr 0 0 0 0)),(5,(.own 1 0 (List.length (Sh.put l29 c43 true)))),(6,(.own 2 0 (List.length l49))),(42,(.sl (List.map eI q27))),(43,(i64 (Sh.len q27))),(44,(i64 t28))]) ⟨.rfl,(.len (by simp only[Sh.Az])),.rfl,.rfl,.rfl,.rfl,trivial⟩))
     ·have b50:c45=true:=by simpa using b46
      exact AG (M41 Gh2535_0 l29 l30 (Sh.AA h3).symm _ (AH U))
    ·exact Ao (M33 Gh2535_0 l29 l30 (Sh.AA h2).symm _ (AH U))
   ·exact Ao (M17 l14 (Sh.AA h1).symm _ (AU [1] U (by decide) rfl U (.pure (AJ fun _=>U) .nil) (.same U)))
 refine AF U (zq tb U (bs h1 fun q51 gq51 h1=>zc (hb 24) (HQ gq51) rfl U U (zm tb 2 U ?_)))
 rcases Sh.Ap h1 with ⟨b52,h1⟩ | ⟨b52,h1⟩
 ·refine zs b52 U (zs b52 U (zt b52 U (zq tb U ?_)))
  iterate 5 refine zs rfl rfl ?_
  exact zt U U (AE (M5 true (Sh.AA h1).symm _ (AH U)))
 ·refine zg tb b52 U (zg tb b52 U (zf b52 U (zq tb U ?_)))
  rcases Sh.Ap h1 with ⟨b53,h1⟩ | ⟨b53,h1⟩
  ·refine zs b53 U ?_
   iterate 4 refine zs b53 rfl ?_
   exact zt b53 U (AE (M5 true (Sh.AA h1).symm _ (AH U)))
  ·exact zg tb b53 U (zg tb b53 U (zg tb b53 U (BH (v:=(i64 (Sh.len p0.funcs))) (DT U U b53) rfl (CK Vo U) (zg tb b53 U (zf b53 U (AE (M5 (decide ((Sh.len p0.funcs)≤p1)) (Sh.AA h1).symm _ (AH U))))))))
theorem Lo {N:Nat} {p0:(List Int)} {p1:Int} {r:Int} (h0:F6 N p0 p1=some r):Aa Tryz.prog 69 [(ls eI p0),(i64 p1)] [] (fun v st=>v=(i64 r)∧st=[]):=by
 unfold F6 at h0
 refine ai Tryz.func69 U U U U (zr tb U U (AB fun K2 hK2=>sr U fun K3 hK3=>zq tb U (zl tb U U (zq tb U (dn hK3 U ?_)))))
 obtain⟨o5,h1,h0⟩:=Sh.A8 h0
 have M5 :∀(_:Unit),o5=Sum.inr ()→∀s,Wk 0 s ⟨19,AL [],[]⟩→K2 s:=by
  intro _ hq s hw
  subst o5
  try dsimp only at h0
  refine hK2 _ (AM hw (zr tb U U ?_))
  obtain rfl:=Sh.AA h0
  exact AI (xr (AS (L:=[(4,(i64 (-1)))]) (.same U)))
 refine AP (Ak (σ:=Int) (fun n v=>Ba p0 p1 n v=some o5) (fun t4=>⟨19,AL [(0,(ls eI p0)),(1,(i64 p1)),(7,(i64 (Sh.len p0))),(8,(i64 t4))],[]⟩) N 0 h1 (AH U) (fun _ hv=>by rw[Ba] at hv;cases hv) ?_)
 rintro n t4 h1
 try dsimp only at h1 ⊢
 rw[Ba] at h1
 refine zr tb U U (AB fun K8 hK8=>?_)
 refine ci h1 U ?_ ?_ <;> clear h1 <;> intro b9 h1
 ·refine AG (hK8 _ (AB fun K10 hK10=>AP (zr tb U U (sr U fun K12 hK12=>zm tb 3 U (bs h1 fun c13 gc13 h1=>zx BJ gc13 U U U (zm tb 2 U (dn hK12 U ?_)))))))
  refine ci h1 U ?_ ?_ <;> clear h1 <;> intro b14 h1
  ·refine zr tb U U ?_
   obtain rfl:=Sh.AA h1
   try dsimp only[id] at h0
   obtain rfl:=Sh.AA h0
   exact AI (xr (AS (L:=[(4,(i64 t4))]) (.same U)))
  ·exact AG (hK10 _ (AF U (zm tb 2 U (AE (xi (Sh.w (t4+1)) h1 (AH U))))))
 ·exact Ao (M5 () (Sh.AA h1).symm _ (AH U))
theorem KX {N:Nat} {p0:(List Int)} {p1:Int} {r:Bool} (h0:EN N p0 p1=some r):Aa Tryz.prog 78 [(ls eI p0),(i64 p1)] [] (fun v st=>v=(.bool r)∧st=[]):=by
 unfold EN at h0
 refine ai Tryz.func78 U U U U (zr tb U U (sr U fun K2 hK2=>zm tb 2 U (bs h0 fun q3 gq3 h0=>zc (hb 69) (Lo gq3) rfl U U (zm tb 2 U (dn hK2 U ?_)))))
 obtain rfl:=Sh.AA h0
 exact AI (xr (AS (L:=[(4,(.bool (decide (0≤q3))))]) (.same U)))
theorem Kp {N:Nat} {p0:AN} {p1:Int} {r:Bool} (h0:EW N p0 p1=some r):Aa Tryz.prog 38 [(HH p0),(i64 p1)] [] (fun v st=>v=(.bool r)∧st=[]):=by
 unfold EW at h0
 refine ai Tryz.func38 U U U U (sr U fun K1 hK1=>A7 (m:=0) Ac U U U U U (zq tb U (dn hK1 U (AB fun K2 hK2=>AB fun K3 hK3=>bs h0 fun o5 h1 h0=>?_))))
 have M5 :∀(t4:Bool),o5=t4→∀s,Wk 0 s ⟨35,AL [(1,(i64 p1)),(2,Am),(20,(.bool t4))],[(CQ p0.decls p0.funcs)]⟩→K3 s:=by
  intro t4 hq s hw
  subst o5
  try dsimp only at h0
  refine hK3 _ (AM hw ?_)
  refine ci h0 U ?_ ?_ <;> clear h0 <;> intro b6 h0
  ·refine zr tb U U ?_
   obtain rfl:=Sh.AA h0
   exact AI (xr (Ai [(4,(.bool false))] U))
  ·refine AG (hK2 _ (AB fun K8 hK8=>sr U fun K9 hK9=>zm tb 2 U (bs h0 fun q10 gq10 h0=>BF (v':=(ow 1 0 q10)) Ac (hb 77) (PJ gq10) rfl U ⟨(BZ fun _=>U),trivial⟩ U U (zz (B0 q10) (Cw Fp U U U) rfl (zq tb U (dn hK9 U ?_))))))
   obtain⟨o12,h1,h0⟩:=Sh.A8 h0
   have M12 :∀(_:Unit),o12=Sum.inr ()→∀s,Wk 0 s ⟨35,AL [],[]⟩→K8 s:=by
    intro _ hq s hw
    subst o12
    try dsimp only at h0
    refine hK8 _ (AM hw (zr tb U U ?_))
    obtain rfl:=Sh.AA h0
    exact AI (xr (AS (L:=[(4,(.bool true))]) (.same U)))
   refine AP (Ak (σ:=Int) (fun n v=>Dp N p0 p1 q10 n v=some o12) (fun t11=>⟨35,AL [(1,(i64 p1)),(2,(.ptr 0 0 0 0)),(23,(ow 1 0 q10)),(24,(i64 (Sh.len q10))),(25,(i64 t11))],[(CQ p0.decls p0.funcs),(ro 0 3 1 eI q10)]⟩) N 0 h1 (AH U) (fun _ hv=>by rw[Dp] at hv;cases hv) ?_)
   rintro n t11 h1
   try dsimp only at h1 ⊢
   rw[Dp] at h1
   refine zr tb U U (AB fun K15 hK15=>?_)
   refine ci h1 U ?_ ?_ <;> clear h1 <;> intro b16 h1
   ·refine AG (hK15 _ (AB fun K17 hK17=>AP (sr U fun K18 hK18=>bs h1 fun c19 gc19 h1=>zz (.ptr 1 0 (Int.toNat t11) 0) (Bb BJ U U U U gc19) rfl (zz (i64 c19) (CZ Ja U U (GZ gc19) rfl) rfl (zq tb U (dn hK18 U (sr U fun K20 hK20=>zm tb 2 U (bs h1 fun q21 gq21 h1=>?_))))))))
    refine BF (v':=(ow 2 0 q21)) Ac (hb 79) (OC gq21) rfl U ⟨(BZ fun _=>U),trivial⟩ U U (zq tb U (Af (Wk.DN (L:=[(1,(i64 p1)),(2,Am),(23,(ow 1 0 q10)),(24,(B0 q10)),(25,(i64 t11)),(31,(ls eI q21)),(32,(i64 p1))]) (st':=[(CQ p0.decls p0.funcs),(BB q10),⟨1,3,1,[]⟩]) (id:=2) rfl (show 0≤2 by decide) (AJ fun _=>U) ⟨.rfl,.rfl,.rfl,.rfl,.rfl,(.DN U),.rfl,trivial⟩ U) (bs h1 fun q22 gq22 h1=>zc (hb 78) (KX gq22) rfl U U (dn hK20 U ?_))))
    refine ci h1 U ?_ ?_ <;> clear h1 <;> intro b23 h1
    ·refine zr tb U U ?_
     obtain rfl:=Sh.AA h1
     try dsimp only[id] at h0
     obtain rfl:=Sh.AA h0
     exact AI (xr (Ai [(4,(.bool false))] U))
    ·refine AG (hK17 _ (AF U (zm tb 2 U ?_)))
     exact AE (xi (Sh.w (t11+1)) h1 (AU [0,1] U (by decide) rfl U (.raw U U (.pure (AJ fun _=>U) .nil)) (.same U)))
   ·exact Ao (M12 () (Sh.AA h1).symm _ (Ai _ U))
 refine AF U (zq tb U (bs h1 fun q25 gq25 h1=>zc (hb 24) (HQ gq25) rfl U U (zm tb 2 U ?_)))
 rcases Sh.Ap h1 with ⟨b26,h1⟩ | ⟨b26,h1⟩
 ·refine zs b26 U (zs b26 U (zt b26 U (zq tb U ?_)))
  iterate 5 refine zs rfl rfl ?_
  exact zt U U (AE (M5 true (Sh.AA h1).symm _ (AH U)))
 ·refine zg tb b26 U (zg tb b26 U (zf b26 U (zq tb U ?_)))
  rcases Sh.Ap h1 with ⟨b27,h1⟩ | ⟨b27,h1⟩
  ·refine zs b27 U ?_
   iterate 4 refine zs b27 rfl ?_
   exact zt b27 U (AE (M5 true (Sh.AA h1).symm _ (AH U)))
  ·exact zg tb b27 U (zg tb b27 U (zg tb b27 U (BH (v:=(i64 (Sh.len p0.funcs))) (DT U U b27) rfl (CK Vo U) (zg tb b27 U (zf b27 U (AE (M5 (decide ((Sh.len p0.funcs)≤p1)) (Sh.AA h1).symm _ (AH U))))))))
theorem PK {N:Nat} {rec_impl_shifted:AD→Int→Int→Option (AD)} (hrec_impl_shifted :∀{p0:AD} {p1:Int} {p2:Int} {r:AD},rec_impl_shifted p0 p1 p2=some r→Aa Tryz.prog 41 (WW p0 p1 p2) [] (fun v st=>v=(Ox r)∧st=[(DU r)])) {p0:AD} {p1:Int} {p2:Int} {r:AD} (h0:G7 N rec_impl_shifted p0 p1 p2=some r):Aa Tryz.prog 41 (WW p0 p1 p2) [] (fun v st=>v=(Ox r)∧st=[(DU r)]):=by
 unfold G7 at h0
 refine Aa.wk (r0:=(Ox r)) (st0:=[(DU r),⟨0,44,3,[(Yo r)]⟩]) ?_ (FZ (L:=[(0,(Ox r))]) (st':=[(DU r)]) [0] U (by decide) rfl U (.deep (AR Ag) trivial) (.same U))
 refine ai Tryz.func41 U U U U (sr U fun K1 hK1=>A7 (m:=0) Ac U U U U U (As (m:=1) Ac Hb U U (dn hK1 U (AB fun K2 hK2=>bs h0 fun o4 h1 h0=>?_))))
 have M4 :∀(f3:Int),o4=f3→∀s,Wk 0 s ⟨44,AL [(1,(i64 p1)),(2,(i64 p2)),(3,Am),(6,Aq)],[(dO p0.op f3 p0.kids),D1]⟩→K2 s:=by
  intro f3 hq s hw
  subst o4
  try dsimp only at h0
  refine hK2 _ (AM hw (zr tb U U (sr U fun K6 hK6=>zq tb U (Ay Ac VZ U U U U U U (show 2+1≤3 by decide) rfl (dn hK6 U (AB fun K7 hK7=>sr U fun K8 hK8=>zq tb U (zl tb U U (zq tb U (dn hK8 U ?_)))))))))
  refine bs h0 fun o12 h1 h0=>?_
  have M12 :∀(l11:(List AD)),o12=l11→∀s,Wk 0 s ⟨44,AL [(3,Am),(6,Aq)],[⟨0,44,3,[[(i64 p0.op),(i64 f3),(ow 2 0 l11)]]⟩,D1,(CI l11)]⟩→K7 s:=by
   intro l11 hq s hw
   subst o12
   try dsimp only at h0
   refine hK7 _ (AM hw (sr U fun K13 hK13=>zq tb U (Ay Ac Cz U U U U U U (show 0+3≤3 by decide) rfl (dn hK13 U ?_))))
   obtain rfl:=Sh.AA h0
   exact AI (Exists.intro _ (And.intro ((A5 (L:=[(6,Aq)]) (st':=[(CI l11),⟨0,44,3,[[(i64 p0.op),(i64 f3),(ow 0 0 l11)]]⟩]) (st1:=[(CI l11),⟨0,44,3,[[(i64 p0.op),(i64 f3),(ow 2 0 l11)]]⟩]) [2,1] U .nil (by decide) rfl U (.deep (AR Ag) (.raw U U .nil)) (.same U)).trans (AS (L:=[(6,Aq)]) (.same U))) (BM (x:=.tmp 6) (off:=0) (cs:=[(i64 p0.op),(i64 f3),(ow 0 0 l11)]) (vs:=[(i64 p0.op),(i64 f3),(ow 0 0 l11)]) Cz U U U (show 0+3≤3 by decide) rfl _ ⟨U,U⟩)))
  refine AP (Ak (σ:=Int×(List AD)) (fun n v=>Br p0 p1 p2 rec_impl_shifted n v.1 v.2=some o12) (fun (t9,l10)=>⟨44,AL [(1,(i64 p1)),(2,(i64 p2)),(3,(.ptr 0 0 0 0)),(6,(.ptr 1 0 0 0)),(27,(ls A4 p0.kids)),(28,(i64 (Sh.len p0.kids))),(29,(i64 t9))],[⟨0,44,3,[[(i64 p0.op),(i64 f3),(ow 2 0 l10)]]⟩,D1,(ro 0 44 3 (Au 44) l10)]⟩) N (0,[]) h1 (by refine Wk.trans (G1 (id:=0) (st':=[⟨0,44,3,[[(i64 p0.op),(i64 f3),(.own 2 0 (List.length ([]:List AD)))]]⟩,D1,(ro 0 44 3 (Au 44) ([]:List AD))]) (j:=2) rfl U 44 (size':=3) (by decide) rfl U U U) ?_;exact AH U) (fun _ hv=>by rw[Br] at hv;cases hv) ?_)
  rintro n ⟨t9,l10⟩ h1
  try dsimp only at h1 ⊢
  rw[Br] at h1
  refine zr tb U U (AB fun K15 hK15=>?_)
  refine ci h1 U ?_ ?_ <;> clear h1 <;> intro b16 h1
  ·refine AG (hK15 _ (AB fun K17 hK17=>AP (sr U fun K18 hK18=>bs h1 fun c19 gc19 h1=>zz (Ff c19) (BY Bw U U gc19 (Aw _) rfl) rfl (zq tb U (As (m:=3) Ac Hb U U (Ay Ac Cz U U U U U U (show 0+3≤3 by decide) rfl (dn hK18 U ?_)))))))
   refine Hh (by kernel_rfl) ?_
   refine bs h1 fun q20 gq20 h1=>bs h1 fun l21 gl21 h1=>Jo fun A23 hA23=>?_
   have A23_0123456789:A23 0 (bm 10 1023) ⟨44,AL [(1,(i64 p1)),(2,(i64 p2)),(3,Am),(6,BD),(27,(IJ p0)),(28,(Jb p0)),(29,(i64 t9))],[(Nh p0 f3 l21),(CI l21),D1]⟩:=(hA23 _ _ _).2 (by
    refine G0 U (by kernel_rfl) ?_
    refine hK17 _ (AF U (zm tb 2 U ?_))
    exact AE (xi (Sh.w (t9+1),l21) h1 (by exact A5 (L:=[(1,(i64 p1)),(2,(i64 p2)),(3,Am),(6,Aq),(27,(IJ p0)),(28,(Jb p0)),(29,(Ka t9))]) (st':=[⟨0,44,3,[[(i64 p0.op),(i64 f3),(ow 2 0 l21)]]⟩,D1,(CI l21)]) (st1:=[(Nh p0 f3 l21),D1,(CI l21)]) [0,2,1] U .nil (by decide) rfl U (.raw U U (.raw U U (.deep (AR Ag) .nil))) (.same U))))
   have A23_012345678:A23 1 (bm 10 511) ⟨44,AL [(1,(i64 p1)),(2,(i64 p2)),(3,Am),(6,BD),(27,(IJ p0)),(28,(Jb p0)),(29,(i64 t9)),(40,(ow 1 1 l21)),(41,(.ptr 0 0 0 2))],[(Nh p0 f3 l10),(ro 1 44 3 (Au 44) l21),D1]⟩:=(hA23 _ _ _).2 (by
    refine xa [9] ⟨?_,trivial⟩
    ·refine xo 9 ?_
     exact Ay Ac VZ U U U U U U (show 2+1≤3 by decide) rfl (C4 hA23 A23_0123456789 (by exact Cy (L:=[(1,(i64 p1)),(2,(i64 p2)),(3,Am),(6,BD),(27,(IJ p0)),(28,(Jb p0)),(29,(i64 t9))]) (st':=[(Nh p0 f3 l21),(CI l21),D1]) (.raw U U (.deep (AR Ag) (.raw U U .nil))) (.same U))))
   have A23_01234567:A23 2 (bm 10 255) ⟨44,AL [(1,(i64 p1)),(2,(i64 p2)),(3,Am),(6,BD),(27,(IJ p0)),(28,(Jb p0)),(29,(i64 t9)),(40,(ow 1 1 l21))],[(Nh p0 f3 l10),(ro 1 44 3 (Au 44) l21),D1]⟩:=(hA23 _ _ _).2 (by
    refine xa [8] ⟨?_,trivial⟩
    ·exact xq tb hA23 A23_012345678)
   have A23_0123456:A23 3 (bm 10 127) ⟨44,AL [(1,(i64 p1)),(2,(i64 p2)),(3,Am),(6,BD),(27,(IJ p0)),(28,(Jb p0)),(29,(i64 t9)),(34,(ow 1 0 l10)),(39,(.own 3 0 1))],(Zh p0 f3 l10 q20)⟩:=(hA23 _ _ _).2 (by
    refine xa [7] ⟨?_,trivial⟩
    ·refine xo 7 ?_
     have g24:=XP gl21
     refine ZJ (st':=[(Nh p0 f3 l10),⟨1,44,3,hole l21 (Au 44) (Sh.len l10) [(i64 q20.op),(i64 q20.num),(ow 4 0 q20.kids)]⟩,D1,(cb q20),(DU q20)]) (c:=q20) Ac Bw U U U U U U U gl21 U ?_
     refine Af (Wk.take (id:=1) (m:=4) (j:=2) (i:=Sh.len l10) (c:=q20) (ys:=q20.kids) (encY:=(Au 44)) rfl g24 U U U (by decide) (show 0≤4 by decide) Dz U U) ?_
     exact Af (Kq (id:=1) (i:=Sh.len l10) (c:=q20) rfl g24 (CX q20).symm U) (C4 hA23 A23_01234567 (by exact AU [0,1,2] U (by decide) rfl U (.raw U U (.deep (AR Ag) (.raw U U .nil))) (.same U))))
   have A23_012345:A23 4 (bm 10 63) ⟨44,AL [(1,(i64 p1)),(2,(i64 p2)),(3,Am),(6,BD),(27,(IJ p0)),(28,(Jb p0)),(29,(i64 t9)),(34,(ow 1 0 l10)),(38,(PT q20))],[(Nh p0 f3 l10),(CI l10),D1,(DU q20)]⟩:=(hA23 _ _ _).2 (by
    refine xa [6] ⟨?_,trivial⟩
    ·refine xo 6 ?_
     refine Bu (m:=4) (l:=[()]) (enc:=fun _=>(PM q20)) Ac Bw (by decide) rfl U U U U U ?_
     exact C4 hA23 A23_0123456 (by exact A5 (L:=[(1,(i64 p1)),(2,(i64 p2)),(3,Am),(6,BD),(27,(IJ p0)),(28,(Jb p0)),(29,(i64 t9)),(34,(ow 1 0 l10)),(39,(.own 3 0 1))]) (st':=(Zh p0 f3 l10 q20)) (st1:=[(Nh p0 f3 l10),(CI l10),D1,⟨0,44,3,[(PM q20)]⟩,(DU q20)]) [0,1,2,4,3] U .nil (by decide) rfl U (.raw U U (.deep (AR Ag) (.raw U U (.raw U U (.deep (AR Ag) .nil))))) (.same U)))
   have A23_01234:A23 5 (bm 10 31) ⟨44,AL [(1,(i64 p1)),(2,(i64 p2)),(3,Am),(6,BD),(27,(IJ p0)),(28,(Jb p0)),(29,(i64 t9)),(34,(ow 1 0 l10)),(35,(Bt c19)),(36,(i64 p1)),(37,(i64 p2))],[(Nh p0 f3 l10),(CI l10),D1]⟩:=(hA23 _ _ _).2 (by
    refine xa [5] ⟨?_,trivial⟩
    ·refine xo 5 ?_
     exact BF (v':=(PT q20)) Ac (hb 41) (hrec_impl_shifted gq20) rfl U ⟨(AR Ag),trivial⟩ U U (xd hA23 A23_012345))
   have A23_0134:A23 6 (bm 10 27) ⟨44,AL [(1,(i64 p1)),(2,(i64 p2)),(3,Am),(6,BD),(9,Bg),(27,(IJ p0)),(28,(Jb p0)),(29,(i64 t9)),(34,(ow 1 0 l10)),(36,(i64 p1)),(37,(i64 p2))],(Zr p0 f3 l10 c19)⟩:=(hA23 _ _ _).2 (by
    refine xa [2] ⟨?_,trivial⟩
    ·refine xo 2 ?_
     exact zq tb U (C4 hA23 A23_01234 (by exact AU [0,1,2] U (by decide) rfl U (.raw U U (.deep (AR Ag) (.raw U U .nil))) (.same U))))
   have A23_023456:A23 4 (bm 10 125) ⟨44,AL [(1,(i64 p1)),(2,(i64 p2)),(3,Am),(6,BD),(27,(IJ p0)),(28,(Jb p0)),(29,(i64 t9)),(33,(.ptr 0 0 0 2)),(39,(.own 3 0 1))],(Zh p0 f3 l10 q20)⟩:=(hA23 _ _ _).2 (by
    refine xa [1] ⟨?_,trivial⟩
    ·exact xq tb hA23 A23_0123456)
   have A23_02345:A23 5 (bm 10 61) ⟨44,AL [(1,(i64 p1)),(2,(i64 p2)),(3,Am),(6,BD),(27,(IJ p0)),(28,(Jb p0)),(29,(i64 t9)),(33,(.ptr 0 0 0 2)),(38,(PT q20))],[(Nh p0 f3 l10),(CI l10),D1,(DU q20)]⟩:=(hA23 _ _ _).2 (by
    refine xa [1,6] ⟨?_,?_,trivial⟩
    ·exact xq tb hA23 A23_012345
    ·refine xo 6 ?_
     refine Bu (m:=4) (l:=[()]) (enc:=fun _=>(PM q20)) Ac Bw (by decide) rfl U U U U U ?_
     exact C4 hA23 A23_023456 (by exact A5 (L:=[(1,(i64 p1)),(2,(i64 p2)),(3,Am),(6,BD),(27,(IJ p0)),(28,(Jb p0)),(29,(i64 t9)),(33,(.ptr 0 0 0 2)),(39,(.own 3 0 1))]) (st':=(Zh p0 f3 l10 q20)) (st1:=[(Nh p0 f3 l10),(CI l10),D1,⟨0,44,3,[(PM q20)]⟩,(DU q20)]) [0,1,2,4,3] U .nil (by decide) rfl U (.raw U U (.deep (AR Ag) (.raw U U (.raw U U (.deep (AR Ag) .nil))))) (.same U)))
   have A23_0234:A23 6 (bm 10 29) ⟨44,AL [(1,(i64 p1)),(2,(i64 p2)),(3,Am),(6,BD),(27,(IJ p0)),(28,(Jb p0)),(29,(i64 t9)),(33,(.ptr 0 0 0 2)),(35,(Bt c19)),(36,(i64 p1)),(37,(i64 p2))],[(Nh p0 f3 l10),(CI l10),D1]⟩:=(hA23 _ _ _).2 (by
    refine xa [1,5] ⟨?_,?_,trivial⟩
    ·exact xq tb hA23 A23_01234
    ·refine xo 5 ?_
     exact BF (v':=(PT q20)) Ac (hb 41) (hrec_impl_shifted gq20) rfl U ⟨(AR Ag),trivial⟩ U U (xd hA23 A23_02345))
   have A23_034:A23 7 (bm 10 25) ⟨44,AL [(1,(i64 p1)),(2,(i64 p2)),(3,Am),(6,BD),(9,Bg),(27,(IJ p0)),(28,(Jb p0)),(29,(i64 t9)),(33,(.ptr 0 0 0 2)),(36,(i64 p1)),(37,(i64 p2))],(Zr p0 f3 l10 c19)⟩:=(hA23 _ _ _).2 (by
    refine xa [1,2] ⟨?_,?_,trivial⟩
    ·exact xq tb hA23 A23_0134
    ·refine xo 2 ?_
     exact zq tb U (C4 hA23 A23_0234 (by exact AU [0,1,2] U (by decide) rfl U (.raw U U (.deep (AR Ag) (.raw U U .nil))) (.same U))))
   have A23_23456:A23 5 (bm 10 124) ⟨44,AL [(1,(i64 p1)),(2,(i64 p2)),(3,Am),(6,BD),(27,(IJ p0)),(28,(Jb p0)),(29,(i64 t9)),(39,(.own 3 0 1))],(Zh p0 f3 l10 q20)⟩:=(hA23 _ _ _).2 (by
    refine xa [0] ⟨?_,trivial⟩
    ·exact xq tb hA23 A23_023456)
   have A23_2345:A23 6 (bm 10 60) ⟨44,AL [(1,(i64 p1)),(2,(i64 p2)),(3,Am),(6,BD),(27,(IJ p0)),(28,(Jb p0)),(29,(i64 t9)),(38,(PT q20))],[(Nh p0 f3 l10),(CI l10),D1,(DU q20)]⟩:=(hA23 _ _ _).2 (by
    refine xa [0,6] ⟨?_,?_,trivial⟩
    ·exact xq tb hA23 A23_02345
    ·refine xo 6 ?_
     refine Bu (m:=4) (l:=[()]) (enc:=fun _=>(PM q20)) Ac Bw (by decide) rfl U U U U U ?_
     exact C4 hA23 A23_23456 (by exact A5 (L:=[(1,(i64 p1)),(2,(i64 p2)),(3,Am),(6,BD),(27,(IJ p0)),(28,(Jb p0)),(29,(i64 t9)),(39,(.own 3 0 1))]) (st':=(Zh p0 f3 l10 q20)) (st1:=[(Nh p0 f3 l10),(CI l10),D1,⟨0,44,3,[(PM q20)]⟩,(DU q20)]) [0,1,2,4,3] U .nil (by decide) rfl U (.raw U U (.deep (AR Ag) (.raw U U (.raw U U (.deep (AR Ag) .nil))))) (.same U)))
   have A23_234:A23 7 (bm 10 28) ⟨44,AL [(1,(i64 p1)),(2,(i64 p2)),(3,Am),(6,BD),(27,(IJ p0)),(28,(Jb p0)),(29,(i64 t9)),(35,(Bt c19)),(36,(i64 p1)),(37,(i64 p2))],[(Nh p0 f3 l10),(CI l10),D1]⟩:=(hA23 _ _ _).2 (by
    refine xa [0,5] ⟨?_,?_,trivial⟩
    ·exact xq tb hA23 A23_0234
    ·refine xo 5 ?_
     exact BF (v':=(PT q20)) Ac (hb 41) (hrec_impl_shifted gq20) rfl U ⟨(AR Ag),trivial⟩ U U (xd hA23 A23_2345))
   have A23_34:A23 8 (bm 10 24) ⟨44,AL [(1,(i64 p1)),(2,(i64 p2)),(3,Am),(6,BD),(9,Bg),(27,(IJ p0)),(28,(Jb p0)),(29,(i64 t9)),(36,(i64 p1)),(37,(i64 p2))],(Zr p0 f3 l10 c19)⟩:=(hA23 _ _ _).2 (by
    refine xa [0,2] ⟨?_,?_,trivial⟩
    ·exact xq tb hA23 A23_034
    ·refine xo 2 ?_
     exact zq tb U (C4 hA23 A23_234 (by exact AU [0,1,2] U (by decide) rfl U (.raw U U (.deep (AR Ag) (.raw U U .nil))) (.same U))))
   have A23_3:A23 9 (bm 10 8) ⟨44,AL [(1,(i64 p1)),(2,(i64 p2)),(3,Am),(6,BD),(9,Bg),(27,(IJ p0)),(28,(Jb p0)),(29,(i64 t9)),(36,(i64 p1))],(Zr p0 f3 l10 c19)⟩:=(hA23 _ _ _).2 (by
    refine Bq 4 (v:=(i64 p2)) rfl U (by kernel_rfl) (by kernel_rfl) (by kernel_rfl) rfl (CR U) ?_
    exact xt hA23 A23_34)
   have A23_e:A23 10 (bm 10 0) ⟨44,AL [(1,(i64 p1)),(2,(i64 p2)),(3,Am),(6,BD),(9,Bg),(27,(IJ p0)),(28,(Jb p0)),(29,(i64 t9))],(Zr p0 f3 l10 c19)⟩:=(hA23 _ _ _).2 (by
    refine Bq 3 (v:=(i64 p1)) rfl U (by kernel_rfl) (by kernel_rfl) (by kernel_rfl) rfl (CR U) ?_
    exact xt hA23 A23_3)
   refine (hA23 _ _ _).2 ?_
   exact xw hA23 A23_e (by exact A5 (L:=[(1,(i64 p1)),(2,(i64 p2)),(3,Am),(6,BD),(9,Bg),(27,(IJ p0)),(28,(Jb p0)),(29,(i64 t9))]) (st':=(Zr p0 f3 l10 c19)) (st1:=[⟨0,44,3,[[(i64 p0.op),(i64 f3),(ow 2 0 l10)]]⟩,(CI l10),D1,(dO c19.op c19.num c19.kids)]) [0,2,1,3] U .nil (by decide) rfl U (.raw U U (.deep (AR Ag) (.raw U U (.raw U U .nil)))) (.same U))
  ·exact Ao (M12 l10 (Sh.AA h1).symm _ (AH U))
 refine AB fun K24 hK24=>bs h1 fun o26 h2 h1=>?_
 have M26 :∀(t25:Bool),o26=t25→∀s,Wk 0 s ⟨44,AL [(1,(i64 p1)),(2,(i64 p2)),(3,Am),(6,Aq),(18,(.bool t25))],[(dO p0.op p0.num p0.kids),D1]⟩→K24 s:=by
  intro t25 hq s hw
  subst o26
  try dsimp only at h1
  refine hK24 _ (AM hw ?_)
  refine ci h1 U ?_ ?_ <;> clear h1 <;> intro b27 h1
  ·exact AF U (zm tb 5 U (Ay Ac Ja U U U U U U (show 1+1≤3 by decide) rfl (AE (M4 (Sh.w (p0.num+p2)) (Sh.AA h1).symm _ (AH U)))))
  ·exact AG (M4 p0.num (Sh.AA h1).symm _ (AH U))
 refine AF U (zm tb 4 U ?_)
 rcases Sh.Ap h2 with ⟨b28,h2⟩ | ⟨b28,h2⟩
 ·refine zg tb b28 U ?_
  iterate 3 refine zg tb b28 rfl ?_
  exact zt b28 U (AE (M26 (decide (p1≤p0.num)) (Sh.AA h2).symm _ (AH U)))
 ·refine zs b28 U ?_
  iterate 3 refine zs b28 rfl ?_
  exact zf b28 U (AE (M26 false (Sh.AA h2).symm _ (AH U)))

theorem PN {N:Nat} :∀(n:Nat),∀{p0:AD} {p1:Int} {p2:Int} {r:AD},Cq N n p0 p1 p2=some r→Aa Tryz.prog 41 (WW p0 p1 p2) [] (fun v st=>v=(Ox r)∧st=[(DU r)]):=by
 intro n
 induction n with
 | zero=>intro p0 p1 p2 r h0;cases h0
 | succ n ih=>
  intro p0 p1 p2 r h0
  rw[Cq] at h0
  exact PK (fun h=>ih h) h0
theorem Hr {N:Nat} :∀{p0:AD} {p1:Int} {p2:Int} {r:AD},FH N p0 p1 p2=some r→Aa Tryz.prog 41 (WW p0 p1 p2) [] (fun v st=>v=(Ox r)∧st=[(DU r)]):=by
 intro p0 p1 p2 r h0
 exact PN N h0
theorem LD {N:Nat} {p0:AD} {r:AD} (h0:HF N p0=some r):Aa Tryz.prog 104 [(Bt p0)] [] (fun v st=>v=(Ox r)∧st=[(DU r)]):=by
 unfold HF at h0
 refine Aa.wk (r0:=(Ox r)) (st0:=[(DU r),⟨0,44,3,[(Yo r)]⟩]) ?_ (FZ (L:=[(0,(Ox r))]) (st':=[(DU r)]) [0] U (by decide) rfl U (.deep (AR Ag) trivial) (.same U))
 refine ai Tryz.func104 U U U U (sr U fun K1 hK1=>A7 (m:=0) Ac U U U U U (As (m:=1) Ac Hb U U (dn hK1 U (sr U fun K2 hK2=>zq tb U (bs h0 fun q3 gq3 h0=>BF (v':=(.agg [(i64 q3.op),(i64 q3.num),(ow 2 0 q3.kids)])) Ac (hb 41) (Hr gq3) rfl U ⟨(AR Ag),trivial⟩ U U (Ay Ac Cz U U U U U U (show 0+3≤3 by decide) rfl (dn hK2 U ?_)))))))
 obtain rfl:=Sh.AA h0
 exact AI (Exists.intro _ (And.intro ((A5 (L:=[(2,Aq)]) (st':=[(DU q3),⟨0,44,3,[(Yo q3)]⟩]) (st1:=[(DU q3),⟨0,44,3,[[(i64 q3.op),(i64 q3.num),(ow 2 0 q3.kids)]]⟩]) [2,1] U .nil (by decide) rfl U (.deep (AR Ag) (.raw U U .nil)) (.same U)).trans (AS (L:=[(2,Aq)]) (.same U))) (BM (x:=.tmp 2) (off:=0) (cs:=(Yo q3)) (vs:=(Yo q3)) Cz U U U (show 0+3≤3 by decide) rfl _ ⟨U,U⟩)))
theorem NS {N:Nat} {p0:AN} {r:AN} (h0:F5 N p0=some r):Aa Tryz.prog 55 [(HH p0)] [] (fun v st=>v=(.agg [(ow 0 0 r.decls),(ow 1 0 r.funcs)])∧st=[(ro 0 81 3 (Ad 111 3) r.decls),(QM r)]):=by
 unfold F5 at h0
 refine Aa.wk (r0:=(.agg [(ow 0 0 r.decls),(ow 1 0 r.funcs)])) (st0:=[(ro 0 81 3 (Ad 111 3) r.decls),(QM r),⟨0,30,2,[[(ow 0 0 r.decls),(ow 1 0 r.funcs)]]⟩]) ?_ (FZ (L:=[(0,(.agg [(ow 0 0 r.decls),(ow 1 0 r.funcs)]))]) (st':=[(ro 0 81 3 (Ad 111 3) r.decls),(QM r)]) [0,1] U (by decide) rfl U (.deep (AR fun _=>U) (.deep (AR fun _=>U) trivial)) (.same U))
 refine ai Tryz.func55 U U U U (sr U fun K1 hK1=>A7 (m:=0) Ac U U U U U (Af (Wk.DN (L:=[(1,(Df p0))]) (st':=[⟨1,30,2,[]⟩]) (id:=0) rfl (show 0≤0 by decide) (GD U) (.same U) rfl) (As (m:=1) Ac H5 U U (dn hK1 U (sr U fun K2 hK2=>zm tb 2 U (bs h0 fun q3 gq3 h0=>BF (v':=(ow 2 0 q3)) Ac (hb 103) (Cl.NX gq3) rfl U ⟨(AR fun _=>U),trivial⟩ U U (zz (.agg [(ow 2 0 q3),.zc]) (GA TW Tu H5 U U) rfl (As (m:=3) Ac H5 U U ?_))))))))
 refine Ay Ac Fw U U U U U U (show 0+2≤2 by decide) rfl (dn hK2 U (AB fun K4 hK4=>sr U fun K5 hK5=>zm tb 2 U (zl tb U U (zq tb U (dn hK5 U (bs h0 fun o9 h1 h0=>?_))))))
 have M9 :∀(l8:(List Ah)),o9=l8→∀s,Wk 0 s ⟨33,AL [(2,Am),(3,BD)],[I1,(FD q3),(bO q3 l8),(CM l8)]⟩→K4 s:=by
  intro l8 hq s hw
  subst o9
  try dsimp only at h0
  refine hK4 _ (AM hw (sr U fun K10 hK10=>zq tb U (Ay Ac Fw U U U U U U (show 0+2≤2 by decide) rfl (dn hK10 U ?_))))
  obtain rfl:=Sh.AA h0
  exact AI (Exists.intro _ (And.intro ((A5 (L:=[(2,BD)]) (st':=(cN q3 l8)) (st1:=[(FD q3),(CM l8),(bO q3 l8)]) [1,3,0] U .nil (by decide) rfl U (.deep (AR fun _=>U) (.deep (AR fun _=>U) (.raw U U .nil))) (.same U)).trans (AS (L:=[(2,BD)]) (.same U))) (BM (x:=.tmp 2) (off:=0) (cs:=(Uu q3 l8)) (vs:=(Uu q3 l8)) Fw U U U (show 0+2≤2 by decide) rfl _ ⟨U,U⟩)))
 refine AP (Ak (σ:=Int×(List Ah)) (fun n v=>CB N p0 n v.1 v.2=some o9) (fun (t6,l7)=>⟨33,AL [(2,(.ptr 0 0 0 0)),(3,(.ptr 2 0 0 0)),(11,(ls Ar p0.funcs)),(12,(i64 (Sh.len p0.funcs))),(13,(i64 t6))],[I1,(ro 0 81 3 (Ad 111 3) q3),⟨0,30,2,[[(ow 1 0 q3),(ow 3 0 l7)]]⟩,(ro 0 48 5 (A2 3 44) l7)]⟩) N (0,[]) h1 (by refine Wk.trans (G1 (id:=3) (st':=[⟨1,30,2,[]⟩,I1,(ro 0 81 3 (Ad 111 3) q3),⟨0,30,2,[[(ow 2 0 q3),(.own 4 0 (List.length ([]:List Ah)))]]⟩,(ro 0 48 5 (A2 3 44) ([]:List Ah))]) (j:=1) rfl U 48 (size':=5) (by decide) rfl U U U) ?_;exact A5 (L:=[(2,(.ptr 0 0 0 0)),(3,(.ptr 2 0 0 0)),(11,(ls Ar p0.funcs)),(12,(i64 (Sh.len p0.funcs))),(13,(i64 0))]) (st':=[I1,(ro 0 81 3 (Ad 111 3) q3),⟨0,30,2,[[(ow 1 0 q3),(.own 3 0 (List.length ([]:List Ah)))]]⟩,(ro 0 48 5 (A2 3 44) ([]:List Ah))]) (st1:=[I1,(ro 0 81 3 (Ad 111 3) q3),⟨0,30,2,[[(ow 2 0 q3),(.own 4 0 (List.length ([]:List Ah)))]]⟩,(ro 0 48 5 (A2 3 44) ([]:List Ah))]) [1,2,3,4] U .nil (by decide) rfl U (.raw U U (.deep (AR fun _=>U) (.raw U U (.deep (AR fun _=>U) .nil)))) (.same U)) (fun _ hv=>by rw[CB] at hv;cases hv) ?_)
 rintro n ⟨t6,l7⟩ h1
 try dsimp only at h1 ⊢
 rw[CB] at h1
 refine zr tb U U (AB fun K12 hK12=>?_)
 refine ci h1 U ?_ ?_ <;> clear h1 <;> intro b13 h1
 ·refine AG (hK12 _ (AB fun K14 hK14=>AP (sr U fun K15 hK15=>bs h1 fun c16 gc16 h1=>zx B3 gc16 U U U (zq tb U (As (m:=4) Ac N5 U U (Ay Ac QZ U U U U U U (show 0+5≤5 by decide) rfl (Af (Wk.DN (L:=[(2,Am),(3,BD),(5,(.Bd (T6 c16) 0)),(11,(LM p0)),(12,(i64 (Sh.len p0.funcs))),(13,(i64 t6))]) (st':=[I1,(FD q3),(bO q3 l7),(CM l7),⟨1,48,5,[]⟩]) (id:=4) rfl (show 0≤4 by decide) (GD U) (.same U) rfl) (dn hK15 U ?_))))))))
  refine Nt (by kernel_rfl) ?_
  refine bs h1 fun q17 gq17 h1=>bs h1 fun q18 gq18 h1=>bs h1 fun l19 gl19 h1=>?_
  refine UP (f':=15) (listed':=(bm 15 0)) rfl (by kernel_rfl) ?_
  refine CF 0 (v:=(.ptr 2 0 0 1)) rfl U (by kernel_rfl) (by kernel_rfl) (by kernel_rfl) rfl (D8 (Ic OZ U U (show 0+1≤2 by decide) rfl)) ?_
  refine CF 2 (v:=(.Bd (T6 c16) 0)) rfl U (by kernel_rfl) (by kernel_rfl) (by kernel_rfl) rfl (D8 (Md dJ U U)) ?_
  refine CF 3 (v:=(ls eI c16.params)) rfl U (by kernel_rfl) (by kernel_rfl) (by kernel_rfl) rfl (Pg H3 U U) ?_
  refine CF 5 (v:=(.Bd (T6 c16) 1)) rfl U (by kernel_rfl) (by kernel_rfl) (by kernel_rfl) rfl (D8 (Md cw U U)) ?_
  refine CF 6 (v:=(i64 c16.result)) rfl U (by kernel_rfl) (by kernel_rfl) (by kernel_rfl) rfl (Pg Ja U U) ?_
  refine CF 7 (v:=(.Bd (T6 c16) 2)) rfl U (by kernel_rfl) (by kernel_rfl) (by kernel_rfl) rfl (D8 (Md dB U U)) ?_
  refine CF 8 (v:=(VK c16)) rfl U (by kernel_rfl) (by kernel_rfl) (by kernel_rfl) rfl (W0 Cz U (show 2+3≤5 by decide) rfl) ?_
  refine UM (R3 fun A21 hA21=>?_)
  have A21_0123456789abcde:A21 0 (bm 15 32767) ⟨33,AL [(2,Am),(3,Aq),(11,(LM p0)),(12,(i64 (Sh.len p0.funcs))),(13,(i64 t6))],[I1,(KM q3 l19),(FD q3),(CM l19)]⟩:=(hA21 _ _ _).2 (by
   refine PV U (by kernel_rfl) ?_
   refine hK14 _ (AF U (zm tb 2 U ?_))
   exact AE (xi (Sh.w (t6+1),l19) h1 (by exact A5 (L:=[(2,Am),(3,BD),(11,(LM p0)),(12,(i64 (Sh.len p0.funcs))),(13,(Ka t6))]) (st':=[I1,(FD q3),(bO q3 l19),(CM l19)]) (st1:=[I1,(FD q3),(KM q3 l19),(CM l19)]) [0,2,1,3] U .nil (by decide) rfl U (.raw U U (.deep (AR fun _=>U) (.raw U U (.deep (AR fun _=>U) .nil)))) (.same U))))
  have A21_0123456789abcd:A21 1 (bm 15 16383) ⟨33,AL [(2,Am),(3,Aq),(11,(LM p0)),(12,(i64 (Sh.len p0.funcs))),(13,(i64 t6)),(29,(ow 3 1 l19)),(30,P0)],[I1,(KM q3 l7),(FD q3),(ro 1 48 5 (A2 3 44) l19)]⟩:=(hA21 _ _ _).2 (by
   refine ya [14] ⟨?_,trivial⟩
   ·refine yo 14 ?_
    exact Ay Ac bB U U U U U U (show 1+1≤2 by decide) rfl (P9 hA21 A21_0123456789abcde (by exact Cy (L:=[(2,Am),(3,Aq),(11,(LM p0)),(12,(i64 (Sh.len p0.funcs))),(13,(i64 t6))]) (st':=[I1,(KM q3 l19),(FD q3),(CM l19)]) (.raw U U (.raw U U (.deep (AR fun _=>U) (.deep (AR fun _=>U) .nil)))) (.same U))))
  have A21_0123456789abc:A21 2 (bm 15 8191) ⟨33,AL [(2,Am),(3,Aq),(11,(LM p0)),(12,(i64 (Sh.len p0.funcs))),(13,(i64 t6)),(29,(ow 3 1 l19))],[I1,(KM q3 l7),(FD q3),(ro 1 48 5 (A2 3 44) l19)]⟩:=(hA21 _ _ _).2 (by
   refine AY.hoist 13 (v:=P0) rfl U (by kernel_rfl) (by kernel_rfl) (by kernel_rfl) rfl (Ic OZ U U (show 0+1≤2 by decide) rfl) ?_
   exact fT hA21 A21_0123456789abcd)
  have A21_0123456789ab:A21 3 (bm 15 4095) ⟨33,AL [(2,Am),(3,Aq),(11,(LM p0)),(12,(i64 (Sh.len p0.funcs))),(13,(i64 t6)),(18,(ow 3 0 l7)),(28,(.own 4 0 1))],[I1,(KM q3 l7),(FD q3),(CM l7),⟨0,48,5,[[(ow 5 0 q17),(i64 c16.result),(i64 q18.op),(i64 q18.num),(ow 6 0 q18.kids)]]⟩,(BB q17),(DU q18)]⟩:=(hA21 _ _ _).2 (by
   refine ya [12] ⟨?_,trivial⟩
   ·refine yo 12 ?_
    have g22:=XP gl19
    refine ZJ (st':=[I1,(KM q3 l7),(FD q3),⟨1,48,5,hole l19 (A2 3 44) (Sh.len l7) [(ow 5 0 q17),(i64 c16.result),(i64 q18.op),(i64 q18.num),(ow 6 0 q18.kids)]⟩,⟨0,48,5,[[(ow 5 0 q17),(i64 c16.result),(i64 q18.op),(i64 q18.num),(ow 6 0 q18.kids)]]⟩,(BB q17),(DU q18)]) (c:=(Ah.mk q17 c16.result q18)) Ac B3 U U U U U U U gl19 U ?_
    refine Af (Wk.take (id:=3) (m:=5) (j:=0) (i:=Sh.len l7) (c:=(Ah.mk q17 c16.result q18)) (ys:=q17) (encY:=eI) rfl g22 U U U (by decide) (show 0≤5 by decide) (fun _=>U) rfl U) ?_
    refine Af (Wk.take (id:=3) (m:=6) (j:=4) (i:=Sh.len l7) (c:=(Ah.mk q17 c16.result q18)) (ys:=q18.kids) (encY:=(Au 44)) rfl g22 U U U (by decide) (show 0≤6 by decide) Dz U U) ?_
    exact Af (Kq (id:=3) (i:=Sh.len l7) (c:=(Ah.mk q17 c16.result q18)) rfl g22 U U) (P9 hA21 A21_0123456789abc (by exact AU [0,1,2,3] U (by decide) rfl U (.raw U U (.raw U U (.deep (AR fun _=>U) (.deep (AR fun _=>U) .nil)))) (.same U))))
  have A21_0123456789a:A21 4 (bm 15 2047) ⟨33,AL [(2,Am),(3,Aq),(11,(LM p0)),(12,(i64 (Sh.len p0.funcs))),(13,(i64 t6)),(18,(ow 3 0 l7)),(27,(.agg [(ow 4 0 q17),(i64 c16.result),(i64 q18.op),(i64 q18.num),(ow 5 0 q18.kids)]))],[I1,(KM q3 l7),(FD q3),(CM l7),(BB q17),(DU q18)]⟩:=(hA21 _ _ _).2 (by
   refine ya [11] ⟨?_,trivial⟩
   ·refine yo 11 ?_
    refine Bu (m:=6) (l:=[()]) (enc:=fun _=>[(ow 4 0 q17),(i64 c16.result),(i64 q18.op),(i64 q18.num),(ow 5 0 q18.kids)]) Ac B3 (by decide) rfl U U U U U ?_
    exact P9 hA21 A21_0123456789ab (by exact A5 (L:=[(2,Am),(3,Aq),(11,(LM p0)),(12,(i64 (Sh.len p0.funcs))),(13,(i64 t6)),(18,(ow 3 0 l7)),(28,(.own 4 0 1))]) (st':=[I1,(KM q3 l7),(FD q3),(CM l7),⟨0,48,5,[[(ow 5 0 q17),(i64 c16.result),(i64 q18.op),(i64 q18.num),(ow 6 0 q18.kids)]]⟩,(BB q17),(DU q18)]) (st1:=[I1,(KM q3 l7),(FD q3),(CM l7),⟨0,48,5,[[(ow 4 0 q17),(i64 c16.result),(i64 q18.op),(i64 q18.num),(ow 5 0 q18.kids)]]⟩,(BB q17),(DU q18)]) [0,1,2,3,6,4,5] U .nil (by decide) rfl U (.raw U U (.raw U U (.deep (AR fun _=>U) (.deep (AR fun _=>U) (.raw U U (.pure (AJ fun _=>U) (.deep (AR Ag) .nil))))))) (.same U)))
  have A21_0123456789:A21 5 (bm 15 1023) ⟨33,AL [(2,Am),(3,Aq),(11,(LM p0)),(12,(i64 (Sh.len p0.funcs))),(13,(i64 t6)),(18,(ow 3 0 l7)),(21,(ow 4 0 q17)),(23,(i64 c16.result)),(26,(.agg (PL q18)))],[I1,(KM q3 l7),(FD q3),(CM l7),(BB q17),(DU q18)]⟩:=(hA21 _ _ _).2 (by
   refine ya [10] ⟨?_,trivial⟩
   ·refine yo 10 ?_
    exact zz (.agg [(ow 4 0 q17),(i64 c16.result),(i64 q18.op),(i64 q18.num),(ow 5 0 q18.kids)]) (GA ah bE N5 U U) rfl (yd hA21 A21_0123456789a))
  have A21_012345678:A21 6 (bm 15 511) ⟨33,AL [(2,Am),(3,Aq),(11,(LM p0)),(12,(i64 (Sh.len p0.funcs))),(13,(i64 t6)),(18,(ow 3 0 l7)),(21,(ow 4 0 q17)),(23,(i64 c16.result)),(25,(VK c16))],[I1,(KM q3 l7),(FD q3),(CM l7),(BB q17)]⟩:=(hA21 _ _ _).2 (by
   refine ya [9] ⟨?_,trivial⟩
   ·refine yo 9 ?_
    exact BF (v':=(.agg (PL q18))) Ac (hb 104) (LD gq18) rfl U ⟨(AR Ag),trivial⟩ U U (yd hA21 A21_0123456789))
  have A21_01235678:A21 7 (bm 15 495) ⟨33,AL [(2,Am),(3,Aq),(11,(LM p0)),(12,(i64 (Sh.len p0.funcs))),(13,(i64 t6)),(18,(ow 3 0 l7)),(20,(ls eI c16.params)),(23,(i64 c16.result)),(25,(VK c16))],[I1,(KM q3 l7),(FD q3),(CM l7)]⟩:=(hA21 _ _ _).2 (by
   refine ya [4] ⟨?_,trivial⟩
   ·refine yo 4 ?_
    exact BF (v':=(ow 4 0 q17)) Ac (hb 102) (Bv gq17) rfl U ⟨(BZ fun _=>U),trivial⟩ U U (yd hA21 A21_012345678))
  have A21_023456789ab:A21 4 (bm 15 4093) ⟨33,AL [(2,Am),(3,Aq),(11,(LM p0)),(12,(i64 (Sh.len p0.funcs))),(13,(i64 t6)),(17,P0),(28,(.own 4 0 1))],[I1,(KM q3 l7),(FD q3),(CM l7),⟨0,48,5,[[(ow 5 0 q17),(i64 c16.result),(i64 q18.op),(i64 q18.num),(ow 6 0 q18.kids)]]⟩,(BB q17),(DU q18)]⟩:=(hA21 _ _ _).2 (by
   refine ya [1] ⟨?_,trivial⟩
   ·exact CH tb hA21 A21_0123456789ab)
  have A21_023456789a:A21 5 (bm 15 2045) ⟨33,AL [(2,Am),(3,Aq),(11,(LM p0)),(12,(i64 (Sh.len p0.funcs))),(13,(i64 t6)),(17,P0),(27,(.agg [(ow 4 0 q17),(i64 c16.result),(i64 q18.op),(i64 q18.num),(ow 5 0 q18.kids)]))],[I1,(KM q3 l7),(FD q3),(CM l7),(BB q17),(DU q18)]⟩:=(hA21 _ _ _).2 (by
   refine ya [1,11] ⟨?_,?_,trivial⟩
   ·exact CH tb hA21 A21_0123456789a
   ·refine yo 11 ?_
    refine Bu (m:=6) (l:=[()]) (enc:=fun _=>[(ow 4 0 q17),(i64 c16.result),(i64 q18.op),(i64 q18.num),(ow 5 0 q18.kids)]) Ac B3 (by decide) rfl U U U U U ?_
    exact P9 hA21 A21_023456789ab (by exact A5 (L:=[(2,Am),(3,Aq),(11,(LM p0)),(12,(i64 (Sh.len p0.funcs))),(13,(i64 t6)),(17,P0),(28,(.own 4 0 1))]) (st':=[I1,(KM q3 l7),(FD q3),(CM l7),⟨0,48,5,[[(ow 5 0 q17),(i64 c16.result),(i64 q18.op),(i64 q18.num),(ow 6 0 q18.kids)]]⟩,(BB q17),(DU q18)]) (st1:=[I1,(KM q3 l7),(FD q3),(CM l7),⟨0,48,5,[[(ow 4 0 q17),(i64 c16.result),(i64 q18.op),(i64 q18.num),(ow 5 0 q18.kids)]]⟩,(BB q17),(DU q18)]) [0,1,2,3,6,4,5] U .nil (by decide) rfl U (.raw U U (.raw U U (.deep (AR fun _=>U) (.deep (AR fun _=>U) (.raw U U (.pure (AJ fun _=>U) (.deep (AR Ag) .nil))))))) (.same U)))
  have A21_023456789:A21 6 (bm 15 1021) ⟨33,AL [(2,Am),(3,Aq),(11,(LM p0)),(12,(i64 (Sh.len p0.funcs))),(13,(i64 t6)),(17,P0),(21,(ow 4 0 q17)),(23,(i64 c16.result)),(26,(.agg (PL q18)))],[I1,(KM q3 l7),(FD q3),(CM l7),(BB q17),(DU q18)]⟩:=(hA21 _ _ _).2 (by
   refine ya [1,10] ⟨?_,?_,trivial⟩
   ·exact CH tb hA21 A21_0123456789
   ·refine yo 10 ?_
    exact zz (.agg [(ow 4 0 q17),(i64 c16.result),(i64 q18.op),(i64 q18.num),(ow 5 0 q18.kids)]) (GA ah bE N5 U U) rfl (yd hA21 A21_023456789a))
  have A21_02345678:A21 7 (bm 15 509) ⟨33,AL [(2,Am),(3,Aq),(11,(LM p0)),(12,(i64 (Sh.len p0.funcs))),(13,(i64 t6)),(17,P0),(21,(ow 4 0 q17)),(23,(i64 c16.result)),(25,(VK c16))],[I1,(KM q3 l7),(FD q3),(CM l7),(BB q17)]⟩:=(hA21 _ _ _).2 (by
   refine ya [1,9] ⟨?_,?_,trivial⟩
   ·exact CH tb hA21 A21_012345678
   ·refine yo 9 ?_
    exact BF (v':=(.agg (PL q18))) Ac (hb 104) (LD gq18) rfl U ⟨(AR Ag),trivial⟩ U U (yd hA21 A21_023456789))
  have A21_0235678:A21 8 (bm 15 493) ⟨33,AL [(2,Am),(3,Aq),(11,(LM p0)),(12,(i64 (Sh.len p0.funcs))),(13,(i64 t6)),(17,P0),(20,(ls eI c16.params)),(23,(i64 c16.result)),(25,(VK c16))],[I1,(KM q3 l7),(FD q3),(CM l7)]⟩:=(hA21 _ _ _).2 (by
   refine ya [1,4] ⟨?_,?_,trivial⟩
   ·exact CH tb hA21 A21_01235678
   ·refine yo 4 ?_
    exact BF (v':=(ow 4 0 q17)) Ac (hb 102) (Bv gq17) rfl U ⟨(BZ fun _=>U),trivial⟩ U U (yd hA21 A21_02345678))
  refine (hA21 _ _ _).2 ?_
  exact yw hA21 A21_0235678 (by exact A5 (L:=[(2,Am),(3,Aq),(11,(LM p0)),(12,(i64 (Sh.len p0.funcs))),(13,(i64 t6)),(17,P0),(20,(ls eI c16.params)),(23,(i64 c16.result)),(25,(VK c16))]) (st':=[I1,(KM q3 l7),(FD q3),(CM l7)]) (st1:=[I1,(bO q3 l7),(FD q3),(CM l7)]) [0,2,1,3] U .nil (by decide) rfl U (.raw U U (.raw U U (.deep (AR fun _=>U) (.deep (AR fun _=>U) .nil)))) (.same U))
 ·exact Ao (M9 l7 (Sh.AA h1).symm _ (AH U))
theorem Qr {N:Nat} {s0_0:Int} {s1_0:(List Ab)} {s1_1:(List Ah)} {s2:(List AD)} {p0_0:Int} {p0_1:Int} {p1:Int} {r:AD} (h0:JC N s0_0 s1_0 s1_1 s2 p0_0 p0_1 p1=some r):Aa Tryz.prog 39 [(.agg [(i64 p0_0),(i64 p0_1),(ow 2 0 s2)]),(i64 p1),Am,Aq] [(C0 s0_0),(CQ s1_0 s1_1),(CI s2)] (fun v st=>v=(PT r)∧st=[(C0 s0_0),(CQ s1_0 s1_1),C8,(DU r)]):=by
 unfold JC at h0
 refine Aa.wk (r0:=(PT r)) (st0:=[(C0 s0_0),(CQ s1_0 s1_1),C8,(DU r),⟨0,44,3,[(PM r)]⟩]) ?_ (FZ (L:=[(0,(PT r))]) (st':=[(C0 s0_0),(CQ s1_0 s1_1),C8,(DU r)]) [0,1,2,3] U (by decide) rfl U (.raw U (.raw U (.pure (by intro x hx;cases hx) (.deep (AR Ag) trivial)))) (.same U))
 refine ai Tryz.func39 U U U U (AM (Sb (L:=[(0,(.agg (Rf p0_0 p0_1 s2))),(1,(i64 p1)),(2,Am),(3,Aq)]) (id:=2) (N:=3) (st':=[(C0 s0_0),(CQ s1_0 s1_1),C8,(CI s2)]) rfl U (.same U) rfl) (sr U fun K1 hK1=>A7 (m:=4) Ac U U U U U (As (m:=5) Ac Hb U U (dn hK1 U (AB fun K2 hK2=>AB fun K3 hK3=>bs h0 fun o5 h1 h0=>?_)))))
 have M5 :∀(t4:Bool),o5=t4→∀s,Wk 3 s ⟨29,AL [(1,(i64 p1)),(2,Am),(3,Aq),(4,Fc),(6,RL),(15,(.bool t4))],[(C0 s0_0),(CQ s1_0 s1_1),C8,(CI s2),⟨0,44,3,[(Rf p0_0 p0_1 s2)]⟩,D1]⟩→K3 s:=by
  intro t4 hq s hw
  subst o5
  try dsimp only at h0
  refine hK3 _ (AM hw ?_)
  refine ci h0 U ?_ ?_ <;> clear h0 <;> intro b6 h0
  ·refine sr U fun K7 hK7=>zq tb U (Ay Ac Cz U U U U U U (show 0+3≤3 by decide) rfl (dn hK7 U ?_))
   obtain rfl:=Sh.AA h0
   exact AI (Exists.intro _ (And.intro ((AU (L:=[(6,Fc)]) (st':=[(C0 s0_0),(CQ s1_0 s1_1),C8,(CI s2),⟨0,44,3,[(Rf p0_0 p0_1 s2)]⟩]) [0,1,2,3,5] U (by decide) rfl U (.raw U U (.raw U U (.pure (by intro x hx;cases hx) (.deep (AR Ag) (.raw U U .nil))))) ⟨.rfl,trivial⟩).trans (AS (L:=[(6,Fc)]) ⟨.rfl,trivial⟩)) (BM (x:=.tmp 6) (off:=0) (cs:=(Rf p0_0 p0_1 s2)) (vs:=(Rf p0_0 p0_1 s2)) Cz U U U (show 0+3≤3 by decide) rfl _ ⟨U,U⟩)))
  ·refine AG (hK2 _ (AB fun K8 hK8=>?_))
   refine Nt (by kernel_rfl) ?_
   refine bs h0 fun c9 gc9 h0=>bs h0 fun q10 gq10 h0=>bs h0 fun q11 gq11 h0=>?_
   refine UP (f':=13) (listed':=(bm 13 0)) rfl (by kernel_rfl) ?_
   refine CF 0 (v:=RQ) rfl U (by kernel_rfl) (by kernel_rfl) (by kernel_rfl) rfl (D8 (Ic dM U U (show 0+2≤3 by decide) rfl)) ?_
   refine CF 2 (v:=P0) rfl U (by kernel_rfl) (by kernel_rfl) (by kernel_rfl) rfl (D8 (Ic OZ U U (show 0+1≤2 by decide) rfl)) ?_
   refine CF 8 (v:=(i64 p1)) rfl U (by kernel_rfl) (by kernel_rfl) (by kernel_rfl) rfl (D8 (CR U)) ?_
   refine CF 10 (v:=(i64 p1)) rfl U (by kernel_rfl) (by kernel_rfl) (by kernel_rfl) rfl (D8 (CR U)) ?_
   refine UM (R3 fun A12 hA12=>?_)
   have A12_0123456789abc:A12 0 (bm 13 8191) ⟨29,AL [(6,Bg)],[(C0 s0_0),(CQ s1_0 s1_1),C8,(cb q11),(DU q11)]⟩:=(hA12 _ _ _).2 (by
    refine PV U (by kernel_rfl) ?_
    refine hK8 _ ?_
    obtain rfl:=Sh.AA h0
    exact AI (Exists.intro _ (And.intro ((A5 (L:=[(6,Fc)]) (st':=[(C0 s0_0),(CQ s1_0 s1_1),C8,(DU q11),⟨0,44,3,[(PM q11)]⟩]) (st1:=[(C0 s0_0),(CQ s1_0 s1_1),C8,(DU q11),(cb q11)]) [0,1,2,4,3] U (.raw U U (.raw U U (.pure (by intro x hx;cases hx) .nil))) (by decide) rfl U (.raw U U (.raw U U (.pure (by intro x hx;cases hx) (.deep (AR Ag) (.raw U U .nil))))) (.same U)).trans (AS (L:=[(6,Fc)]) (.same U))) (BM (x:=.tmp 6) (off:=0) (cs:=(PM q11)) (vs:=(PM q11)) Cz U U U (show 0+3≤3 by decide) rfl _ ⟨U,U⟩))))
   have A12_0123456789ab:A12 1 (bm 13 4095) ⟨29,AL [(6,Bg),(28,(.agg [(i64 q11.op),(i64 q11.num),(ow 4 0 q11.kids)]))],[(C0 s0_0),(CQ s1_0 s1_1),C8,D1,(DU q11)]⟩:=(hA12 _ _ _).2 (by
    refine ya [12] ⟨?_,trivial⟩
    ·refine yo 12 ?_
     exact Ay Ac Cz U U U U U U (show 0+3≤3 by decide) rfl (yd hA12 A12_0123456789abc))
   have A12_0123456789a:A12 2 (bm 13 2047) ⟨29,AL [(6,Bg),(18,(ow 4 0 s2)),(26,(.agg (PL q10))),(27,(i64 p1))],[(C0 s0_0),(CQ s1_0 s1_1),C8,D1,(CI s2),(DU q10)]⟩:=(hA12 _ _ _).2 (by
    refine ya [11] ⟨?_,trivial⟩
    ·refine yo 11 ?_
     refine Af (Gy (L:=[(6,Bg),(18,(EY s2)),(26,(.agg (PL q10))),(27,(i64 p1))]) (st':=[(C0 s0_0),(CQ s1_0 s1_1),C8,D1,C8,(DU q10)]) (id:=4) rfl (show 3≤4 by decide) (Go.Abs.Ev Dz) ⟨.rfl,(.YZ U (fun x=>Kc x)),(.agg ⟨.rfl,.rfl,.rfl,trivial⟩),.rfl,trivial⟩ U) ?_
     refine H0 (rowsP:=[(DU q10)]) (rows0:=[(DU q10)]) (rows1:=[C8]) (rows2:=[(DU q11)]) (rows1':=[C8]) (rows2':=[(DU q11)]) (st':=[(C0 s0_0),(CQ s1_0 s1_1),C8,D1,C8,C8,(DU q11)]) (v':=(.agg [(i64 q11.op),(i64 q11.num),(ow 6 0 q11.kids)])) [5] Ac (hb 40) (La.Q1 Hr gq11) rfl (by decide) rfl U (.deep (AR Ag) .nil) rfl U (.pure (by intro x hx;cases hx) .nil) (.deep (AR Ag) .nil) rfl U ?_
     exact P9 hA12 A12_0123456789ab (by exact AU [0,1,2,3,6] U (by decide) rfl U (.raw U U (.raw U U (.pure (by intro x hx;cases hx) (.raw U U (.deep (AR Ag) .nil))))) (.same U)))
   have A12_012345678a:A12 3 (bm 13 1535) ⟨29,AL [(6,Bg),(18,(ow 4 0 s2)),(24,(VK c9)),(25,(i64 p1)),(27,(i64 p1))],[(C0 s0_0),(CQ s1_0 s1_1),C8,D1,(CI s2)]⟩:=(hA12 _ _ _).2 (by
    refine ya [9] ⟨?_,trivial⟩
    ·refine yo 9 ?_
     exact BF (v':=(.agg (PL q10))) Ac (hb 41) (Hr gq10) rfl U ⟨(AR Ag),trivial⟩ U U (yd hA12 A12_0123456789a))
   have A12_01234568a:A12 4 (bm 13 1407) ⟨29,AL [(6,Bg),(18,(ow 4 0 s2)),(23,(.Bd (Ar c9) 2)),(25,(i64 p1)),(27,(i64 p1))],[(C0 s0_0),(CQ s1_0 s1_1),C8,D1,(CI s2)]⟩:=(hA12 _ _ _).2 (by
    refine ya [7] ⟨?_,trivial⟩
    ·exact CH tb hA12 A12_012345678a)
   have A12_0123458a:A12 5 (bm 13 1343) ⟨29,AL [(6,Bg),(18,(ow 4 0 s2)),(22,(.Bd (Ar c9) 0)),(25,(i64 p1)),(27,(i64 p1))],[(C0 s0_0),(CQ s1_0 s1_1),C8,D1,(CI s2)]⟩:=(hA12 _ _ _).2 (by
    refine ya [6] ⟨?_,trivial⟩
    ·exact CH tb hA12 A12_01234568a)
   have A12_012348a:A12 6 (bm 13 1311) ⟨29,AL [(6,Bg),(18,(ow 4 0 s2)),(20,(ls Ar s1_1)),(21,(i64 s0_0)),(25,(i64 p1)),(27,(i64 p1))],[(C0 s0_0),(CQ s1_0 s1_1),C8,D1,(CI s2)]⟩:=(hA12 _ _ _).2 (by
    refine ya [5] ⟨?_,trivial⟩
    ·refine yo 5 ?_
     exact zx B3 gc9 U U U (yd hA12 A12_0123458a))
   have A12_01238a:A12 7 (bm 13 1295) ⟨29,AL [(2,Am),(6,Bg),(18,(ow 4 0 s2)),(20,(ls Ar s1_1)),(25,(i64 p1)),(27,(i64 p1))],[(C0 s0_0),(CQ s1_0 s1_1),C8,D1,(CI s2)]⟩:=(hA12 _ _ _).2 (by
    refine ya [4] ⟨?_,trivial⟩
    ·exact CH tb hA12 A12_012348a)
   have A12_01248a:A12 7 (bm 13 1303) ⟨29,AL [(6,Bg),(18,(ow 4 0 s2)),(19,P0),(21,(i64 s0_0)),(25,(i64 p1)),(27,(i64 p1))],[(C0 s0_0),(CQ s1_0 s1_1),C8,D1,(CI s2)]⟩:=(hA12 _ _ _).2 (by
    refine ya [3] ⟨?_,trivial⟩
    ·exact CH tb hA12 A12_012348a)
   have A12_0128a:A12 8 (bm 13 1287) ⟨29,AL [(2,Am),(6,Bg),(18,(ow 4 0 s2)),(19,P0),(25,(i64 p1)),(27,(i64 p1))],[(C0 s0_0),(CQ s1_0 s1_1),C8,D1,(CI s2)]⟩:=(hA12 _ _ _).2 (by
    refine ya [3,4] ⟨?_,?_,trivial⟩
    ·exact CH tb hA12 A12_01238a
    ·exact CH tb hA12 A12_01248a)
   have A12_023456789a:A12 3 (bm 13 2045) ⟨29,AL [(6,Bg),(17,RQ),(26,(.agg [(i64 q10.op),(i64 q10.num),(ow 6 0 q10.kids)])),(27,(i64 p1))],[(C0 s0_0),(CQ s1_0 s1_1),C8,D1,(V2 p0_0 p0_1 s2),(CI s2),(DU q10)]⟩:=(hA12 _ _ _).2 (by
    refine ya [1] ⟨?_,trivial⟩
    ·refine yo 1 ?_
     exact zq tb U (P9 hA12 A12_0123456789a (by exact AU [0,1,2,3,5,6] U (by decide) rfl U (.raw U U (.raw U U (.pure (by intro x hx;cases hx) (.raw U U (.deep (AR Ag) (.deep (AR Ag) .nil)))))) (.same U))))
   have A12_02345678a:A12 4 (bm 13 1533) ⟨29,AL [(6,Bg),(17,RQ),(24,(VK c9)),(25,(i64 p1)),(27,(i64 p1))],[(C0 s0_0),(CQ s1_0 s1_1),C8,D1,(V2 p0_0 p0_1 s2),(CI s2)]⟩:=(hA12 _ _ _).2 (by
    refine ya [1,9] ⟨?_,?_,trivial⟩
    ·refine yo 1 ?_
     exact zq tb U (P9 hA12 A12_012345678a (by exact AU [0,1,2,3,5] U (by decide) rfl U (.raw U U (.raw U U (.pure (by intro x hx;cases hx) (.raw U U (.deep (AR Ag) .nil))))) (.same U)))
    ·refine yo 9 ?_
     exact BF (v':=(.agg [(i64 q10.op),(i64 q10.num),(ow 6 0 q10.kids)])) Ac (hb 41) (Hr gq10) rfl U ⟨(AR Ag),trivial⟩ U U (yd hA12 A12_023456789a))
   have A12_0234568a:A12 5 (bm 13 1405) ⟨29,AL [(6,Bg),(17,RQ),(23,(.Bd (Ar c9) 2)),(25,(i64 p1)),(27,(i64 p1))],[(C0 s0_0),(CQ s1_0 s1_1),C8,D1,(V2 p0_0 p0_1 s2),(CI s2)]⟩:=(hA12 _ _ _).2 (by
    refine ya [1,7] ⟨?_,?_,trivial⟩
    ·refine yo 1 ?_
     exact zq tb U (P9 hA12 A12_01234568a (by exact AU [0,1,2,3,5] U (by decide) rfl U (.raw U U (.raw U U (.pure (by intro x hx;cases hx) (.raw U U (.deep (AR Ag) .nil))))) (.same U)))
    ·exact CH tb hA12 A12_02345678a)
   have A12_023458a:A12 6 (bm 13 1341) ⟨29,AL [(6,Bg),(17,RQ),(22,(.Bd (Ar c9) 0)),(25,(i64 p1)),(27,(i64 p1))],[(C0 s0_0),(CQ s1_0 s1_1),C8,D1,(V2 p0_0 p0_1 s2),(CI s2)]⟩:=(hA12 _ _ _).2 (by
    refine ya [1,6] ⟨?_,?_,trivial⟩
    ·refine yo 1 ?_
     exact zq tb U (P9 hA12 A12_0123458a (by exact AU [0,1,2,3,5] U (by decide) rfl U (.raw U U (.raw U U (.pure (by intro x hx;cases hx) (.raw U U (.deep (AR Ag) .nil))))) (.same U)))
    ·exact CH tb hA12 A12_0234568a)
   have A12_02348a:A12 7 (bm 13 1309) ⟨29,AL [(6,Bg),(17,RQ),(20,(ls Ar s1_1)),(21,(i64 s0_0)),(25,(i64 p1)),(27,(i64 p1))],[(C0 s0_0),(CQ s1_0 s1_1),C8,D1,(V2 p0_0 p0_1 s2),(CI s2)]⟩:=(hA12 _ _ _).2 (by
    refine ya [1,5] ⟨?_,?_,trivial⟩
    ·refine yo 1 ?_
     exact zq tb U (P9 hA12 A12_012348a (by exact AU [0,1,2,3,5] U (by decide) rfl U (.raw U U (.raw U U (.pure (by intro x hx;cases hx) (.raw U U (.deep (AR Ag) .nil))))) (.same U)))
    ·refine yo 5 ?_
     exact zx B3 gc9 U U U (yd hA12 A12_023458a))
   have A12_0238a:A12 8 (bm 13 1293) ⟨29,AL [(2,Am),(6,Bg),(17,RQ),(20,(ls Ar s1_1)),(25,(i64 p1)),(27,(i64 p1))],[(C0 s0_0),(CQ s1_0 s1_1),C8,D1,(V2 p0_0 p0_1 s2),(CI s2)]⟩:=(hA12 _ _ _).2 (by
    refine ya [1,4] ⟨?_,?_,trivial⟩
    ·refine yo 1 ?_
     exact zq tb U (P9 hA12 A12_01238a (by exact AU [0,1,2,3,5] U (by decide) rfl U (.raw U U (.raw U U (.pure (by intro x hx;cases hx) (.raw U U (.deep (AR Ag) .nil))))) (.same U)))
    ·exact CH tb hA12 A12_02348a)
   have A12_0248a:A12 8 (bm 13 1301) ⟨29,AL [(6,Bg),(17,RQ),(19,P0),(21,(i64 s0_0)),(25,(i64 p1)),(27,(i64 p1))],[(C0 s0_0),(CQ s1_0 s1_1),C8,D1,(V2 p0_0 p0_1 s2),(CI s2)]⟩:=(hA12 _ _ _).2 (by
    refine ya [1,3] ⟨?_,?_,trivial⟩
    ·refine yo 1 ?_
     exact zq tb U (P9 hA12 A12_01248a (by exact AU [0,1,2,3,5] U (by decide) rfl U (.raw U U (.raw U U (.pure (by intro x hx;cases hx) (.raw U U (.deep (AR Ag) .nil))))) (.same U)))
    ·exact CH tb hA12 A12_02348a)
   have A12_028a:A12 9 (bm 13 1285) ⟨29,AL [(2,Am),(6,Bg),(17,RQ),(19,P0),(25,(i64 p1)),(27,(i64 p1))],[(C0 s0_0),(CQ s1_0 s1_1),C8,D1,(V2 p0_0 p0_1 s2),(CI s2)]⟩:=(hA12 _ _ _).2 (by
    refine ya [1,3,4] ⟨?_,?_,?_,trivial⟩
    ·refine yo 1 ?_
     exact zq tb U (P9 hA12 A12_0128a (by exact AU [0,1,2,3,5] U (by decide) rfl U (.raw U U (.raw U U (.pure (by intro x hx;cases hx) (.raw U U (.deep (AR Ag) .nil))))) (.same U)))
    ·exact CH tb hA12 A12_0238a
    ·exact CH tb hA12 A12_0248a)
   refine (hA12 _ _ _).2 ?_
   exact yw hA12 A12_028a (by exact A5 (L:=[(2,Am),(6,Bg),(17,RQ),(19,P0),(25,(i64 p1)),(27,(i64 p1))]) (st':=[(C0 s0_0),(CQ s1_0 s1_1),C8,D1,(V2 p0_0 p0_1 s2),(CI s2)]) (st1:=[(C0 s0_0),(CQ s1_0 s1_1),C8,D1,⟨0,44,3,[(Rf p0_0 p0_1 s2)]⟩,(CI s2)]) [0,1,2,5,4,3] U (.raw U U (.raw U U (.pure (by intro x hx;cases hx) .nil))) (by decide) rfl U (.raw U U (.raw U U (.pure (by intro x hx;cases hx) (.raw U U (.raw U U (.deep (AR Ag) .nil)))))) (.same U))
 refine AF U (zm tb 4 U ?_)
 rcases Sh.Ap h1 with ⟨b13,h1⟩ | ⟨b13,h1⟩
 ·refine zs b13 U ?_
  iterate 3 refine zs b13 rfl ?_
  exact zt b13 U (AE (M5 true (Sh.AA h1).symm _ (AH U)))
 ·refine zg tb b13 U ?_
  iterate 3 refine zg tb b13 rfl ?_
  exact zf b13 U (AE (M5 (!decide (p0_1=s0_0)) (Sh.AA h1).symm _ (AH U)))
theorem Li {N:Nat} {rec_impl_rewriteExpr_3:(List AD)→Int→(List Ab)→(List Ah)→(List Ab)→Int→Int→Int→Option (AD×Int)} (hrec_impl_rewriteExpr_3 :∀{s0:(List AD)} {s1_0:Int} {s2_0:(List Ab)} {s2_1:(List Ah)} {p0:(List Ab)} {p1_0:Int} {p1_1:Int} {p2:Int} {r:AD×Int},rec_impl_rewriteExpr_3 s0 s1_0 s2_0 s2_1 p0 p1_0 p1_1 p2=some r→Aa Tryz.prog 56 (dN p0 p1_0 p1_1 s0 p2) [(CI s0),(C0 s1_0),(CQ s2_0 s2_1)] (fun v st=>v=(.agg (Rf r.1.op r.1.num r.1.kids))∧st=[C8,(C0 r.2),(CQ s2_0 s2_1),(CI r.1.kids)])) {s0:(List AD)} {s1_0:Int} {s2_0:(List Ab)} {s2_1:(List Ah)} {p0:(List Ab)} {p1_0:Int} {p1_1:Int} {p2:Int} {r:AD×Int} (h0:F8 N rec_impl_rewriteExpr_3 s0 s1_0 s2_0 s2_1 p0 p1_0 p1_1 p2=some r):Aa Tryz.prog 56 (dN p0 p1_0 p1_1 s0 p2) [(CI s0),(C0 s1_0),(CQ s2_0 s2_1)] (fun v st=>v=(.agg (Rf r.1.op r.1.num r.1.kids))∧st=[C8,(C0 r.2),(CQ s2_0 s2_1),(CI r.1.kids)]):=by
 unfold F8 at h0
 refine Aa.wk (r0:=(.agg (Rf r.1.op r.1.num r.1.kids))) (st0:=[C8,(C0 r.2),(CQ s2_0 s2_1),(CI r.1.kids),⟨0,44,3,[(Rf r.1.op r.1.num r.1.kids)]⟩]) ?_ (FZ (L:=[(0,(.agg (Rf r.1.op r.1.num r.1.kids)))]) (st':=[C8,(C0 r.2),(CQ s2_0 s2_1),(CI r.1.kids)]) [0,1,2,3] U (by decide) rfl U (.pure (by intro x hx;cases hx) (.raw U (.raw U (.deep (AR Ag) trivial)))) (.same U))
 refine ai Tryz.func56 U U U U (sr U fun K1 hK1=>A7 (m:=3) Ac U U U U U (As (m:=4) Ac Hb U U (dn hK1 U (AB fun K2 hK2=>sr U fun K3 hK3=>zm tb 2 U (zz (B0 s0) (Cw US U U U) rfl (zq tb U (dn hK3 U (bs h0 fun o9 h1 h0=>?_))))))))
 have M9 :∀(l7:(List AD)) (f8:Int),o9=(l7,f8)→∀s,Wk 3 s ⟨67,AL [(2,(i64 p2)),(3,(.fn 39 [Aq,BD])),(5,Bg),(8,Fc)],(Ls l7 f8 s2_0 s2_1 p1_0 p1_1)⟩→K2 s:=by
  intro l7 f8 hq s hw
  subst o9
  try dsimp only at h0
  refine hK2 _ (AM hw (sr U fun K10 hK10=>zm tb 3 U (bs h0 fun q11 gq11 h0=>?_)))
  refine To (rowsP:=[(C0 f8),(CQ s2_0 s2_1),(CI l7)]) (rows0:=[(C0 f8),(CQ s2_0 s2_1),(CI l7)]) (rows1:=[(C0 f8),(CQ s2_0 s2_1),C8]) (rows2:=[(DU q11)]) (rows1':=[(C0 f8),(CQ s2_0 s2_1),C8]) (rows2':=[(DU q11)]) (st':=[C8,(C0 f8),(CQ s2_0 s2_1),(Mg p1_0 p1_1 l7),D1,(DU q11)]) (v':=(.agg (PL q11))) [1,2,0] Ac U (hb 39) (Qr gq11) rfl (by decide) rfl U (.raw U U (.raw U U (.deep (AR Ag) .nil))) rfl U (.raw U U (.raw U U (.pure (by intro x hx;cases hx) .nil))) (.deep (AR Ag) .nil) rfl U ?_
  refine Ay Ac Cz U U U U U U (show 0+3≤3 by decide) rfl (dn hK10 U ?_)
  obtain rfl:=Sh.AA h0
  exact AI (Exists.intro _ (And.intro ((A5 (L:=[(8,Fc)]) (st':=[C8,(C0 f8),(CQ s2_0 s2_1),(DU q11),⟨0,44,3,[(PM q11)]⟩]) (st1:=[C8,(C0 f8),(CQ s2_0 s2_1),(DU q11),⟨0,44,3,[(PL q11)]⟩]) [0,1,2,5,4] U (.pure (by intro x hx;cases hx) (.raw U U (.raw U U .nil))) (by decide) rfl U (.pure (by intro x hx;cases hx) (.raw U U (.raw U U (.deep (AR Ag) (.raw U U .nil))))) (.same U)).trans (AS (L:=[(8,Fc)]) (.same U))) (BM (x:=.tmp 8) (off:=0) (cs:=(PM q11)) (vs:=(PM q11)) Cz U U U (show 0+3≤3 by decide) rfl _ ⟨U,U⟩)))
 refine AP (Ak (σ:=Int×(List AD)×Int) (fun n v=>Bs N s0 s2_0 s2_1 p0 p1_0 p1_1 p2 rec_impl_rewriteExpr_3 n v.1 v.2.1 v.2.2=some o9) (fun (t4,l5,f6)=>⟨67,AL [(0,(ls AT p0)),(2,(i64 p2)),(3,(.fn 39 [(.ptr 1 0 0 0),(.ptr 2 0 0 0)])),(5,(.ptr 3 0 0 0)),(8,(.ptr 4 0 0 0)),(13,(i64 (Sh.len s0))),(14,(i64 t4))],[(ro 0 44 3 (Au 44) l5),(C0 f6),(CQ s2_0 s2_1),⟨0,44,3,[[(i64 p1_0),(i64 p1_1),(ow 0 0 l5)]]⟩,D1]⟩) N (0,s0,s1_0) h1 (AH U) (fun _ hv=>by rw[Bs] at hv;cases hv) ?_)
 rintro n ⟨t4,l5,f6⟩ h1
 try dsimp only at h1 ⊢
 rw[Bs] at h1
 refine zr tb U U (AB fun K13 hK13=>?_)
 refine ci h1 U ?_ ?_ <;> clear h1 <;> intro b14 h1
 ·refine AG (hK13 _ (AB fun K15 hK15=>AP ?_))
  iterate 2 refine zr tb rfl rfl ?_
  refine AB fun K18 hK18=>bs h1 fun o20 h2 h1=>?_
  have M20 :∀(scope19:Int),o20=scope19→∀s,Wk 3 s ⟨67,AL [(0,(Bf p0)),(2,(i64 p2)),(3,(.fn 39 [Aq,BD])),(5,Bg),(8,Fc),(9,(i64 t4)),(10,(i64 scope19)),(13,(B0 s0)),(14,(i64 t4))],(Ls l5 f6 s2_0 s2_1 p1_0 p1_1)⟩→K18 s:=by
   intro scope19 hq s hw
   subst o20
   try dsimp only at h1
   refine hK18 _ (AM hw ?_)
   refine Hh (by kernel_rfl) ?_
   refine bs h1 fun c21 gc21 h1=>bs h1 fun q22 gq22 h1=>Jo fun A23 hA23=>?_
   have A23_0123456789abcd:A23 0 (bm 14 16383) ⟨67,AL [(0,(Bf p0)),(2,(i64 p2)),(3,(.fn 39 [Aq,BD])),(5,Bg),(8,Fc),(13,(B0 s0)),(14,(i64 t4))],[(ro 0 44 3 (Au 44) (Sh.put l5 t4 q22.1)),(C0 q22.2),(CQ s2_0 s2_1),⟨0,44,3,[[(i64 p1_0),(i64 p1_1),(ow 0 0 (Sh.put l5 t4 q22.1))]]⟩,D1]⟩:=(hA23 _ _ _).2 (by
    refine G0 U (by kernel_rfl) ?_
    exact hK15 _ (AF U (zm tb 2 U (AE (xi (Sh.w (t4+1),Sh.put l5 t4 q22.1,q22.2) h1 (AS (L:=[(0,(Bf p0)),(2,(i64 p2)),(3,(.fn 39 [Aq,BD])),(5,Bg),(8,Fc),(13,(B0 s0)),(14,(Ka t4))]) (.same U)))))))
   have A23_0123456789abc:A23 1 (bm 14 8191) ⟨67,AL [(0,(Bf p0)),(2,(i64 p2)),(3,(.fn 39 [Aq,BD])),(5,Fc),(8,RL),(13,(B0 s0)),(14,(i64 t4)),(60,(ZG q22.1.op q22.1.num q22.1.kids)),(61,(NR t4))],[(R4 l5 t4 c21),(C0 q22.2),(CQ s2_0 s2_1),C8,(Mg p1_0 p1_1 l5),D1,(CI q22.1.kids)]⟩:=(hA23 _ _ _).2 (by
    refine xa [13] ⟨?_,trivial⟩
    ·refine xo 13 ?_
     refine ZZ (x':=[(i64 q22.1.op),(i64 q22.1.num),(ow 6 0 q22.1.kids)]) (st':=[⟨0,44,3,hole l5 (Au 44) t4 [(i64 q22.1.op),(i64 q22.1.num),(ow 6 0 q22.1.kids)]⟩,(C0 q22.2),(CQ s2_0 s2_1),C8,(Mg p1_0 p1_1 l5),D1,(CI q22.1.kids)]) Ac Cz U U gc21 U U U (show 0+3≤3 by decide) rfl U ?_
     refine Af (Wk.take (id:=0) (m:=6) (j:=2) (i:=t4) (c:=c21) (ys:=q22.1.kids) (encY:=(Au 44)) rfl gc21 U U U (by decide) (show 3≤6 by decide) Dz U U) ?_
     refine Af (Ew (id:=0) (i:=t4) (u:=q22.1) rfl (CX q22.1).symm U) (AE ⟨U,?_⟩)
     exact An (by refine Wk.trans (AS (L:=[(0,(.sl (List.map AT p0))),(2,(i64 p2)),(3,(.fn 39 [(.ptr 1 0 0 0),(.ptr 2 0 0 0)])),(5,(.ptr 4 0 0 0)),(8,(.ptr 5 0 0 0)),(13,(i64 (Sh.len s0))),(14,(i64 t4))]) (.same U)) ?_;refine Wk.trans (C9 (st:=[⟨0,44,3,List.map (Au 44) (Sh.put l5 t4 q22.1)⟩,(C0 q22.2),⟨0,30,2,[[(.sl (List.map AT s2_0)),(.sl (List.map Ar s2_1))]]⟩,⟨1,44,3,[]⟩,⟨0,44,3,[[(i64 p1_0),(i64 p1_1),(.own 0 0 (List.length l5))]]⟩,D1,⟨1,44,3,[]⟩]) (st':=[⟨0,44,3,List.map (Au 44) (Sh.put l5 t4 q22.1)⟩,(C0 q22.2),⟨0,30,2,[[(.sl (List.map AT s2_0)),(.sl (List.map Ar s2_1))]]⟩,⟨1,44,3,[]⟩,⟨0,44,3,[[(i64 p1_0),(i64 p1_1),(.own 0 0 (List.length (Sh.put l5 t4 q22.1)))]]⟩,D1,⟨1,44,3,[]⟩]) (by simp only[Sh.Az])) ?_;exact AU [0,1,2,4,5] U (by decide) rfl U (.deep (AR Ag) (.raw U U (.raw U U (.raw U U (.raw U U .nil))))) (.same U)) (Ax (by kernel_rfl) ((hA23 _ _ _).1 A23_0123456789abcd)) rfl)
   have A23_0123456789ab:A23 2 (bm 14 4095) ⟨67,AL [(0,(Bf p0)),(2,(i64 p2)),(3,(.fn 39 [Aq,BD])),(5,Fc),(8,RL),(13,(B0 s0)),(14,(i64 t4)),(50,(ow 0 0 l5)),(51,(i64 t4)),(60,(ZG q22.1.op q22.1.num q22.1.kids))],[(R4 l5 t4 c21),(C0 q22.2),(CQ s2_0 s2_1),C8,(Mg p1_0 p1_1 l5),D1,(CI q22.1.kids)]⟩:=(hA23 _ _ _).2 (by
    refine xa [12] ⟨?_,trivial⟩
    ·refine xo 12 ?_
     exact zz (NR t4) (LS Bw U U U U gc21) rfl (xd hA23 A23_0123456789abc))
   have A23_0123456789a:A23 3 (bm 14 2047) ⟨67,AL [(0,(Bf p0)),(2,(i64 p2)),(3,(.fn 39 [Aq,BD])),(5,Fc),(8,RL),(13,(B0 s0)),(14,(i64 t4)),(50,(ow 0 0 l5)),(51,(i64 t4)),(52,(Bf p0)),(57,(PT c21)),(58,(i64 scope19)),(59,(.fn 39 [Aq,BD]))],[(R4 l5 t4 c21),(C0 f6),(CQ s2_0 s2_1),(DU c21),(Mg p1_0 p1_1 l5),D1]⟩:=(hA23 _ _ _).2 (by
    refine xa [11] ⟨?_,trivial⟩
    ·refine xo 11 ?_
     refine H0 (rowsP:=[(DU c21),(C0 f6),(CQ s2_0 s2_1)]) (rows0:=[(DU c21),(C0 f6),(CQ s2_0 s2_1)]) (rows1:=[C8,(C0 q22.2),(CQ s2_0 s2_1)]) (rows2:=[(CI q22.1.kids)]) (rows1':=[C8,(C0 q22.2),(CQ s2_0 s2_1)]) (rows2':=[(CI q22.1.kids)]) (st':=[(R4 l5 t4 c21),(C0 q22.2),(CQ s2_0 s2_1),C8,(Mg p1_0 p1_1 l5),D1,(CI q22.1.kids)]) (v':=(ZG q22.1.op q22.1.num q22.1.kids)) [3,1,2] Ac (hb 56) (hrec_impl_rewriteExpr_3 gq22) rfl (by decide) rfl U (.deep (AR Ag) (.raw U U (.raw U U .nil))) rfl U (.pure (by intro x hx;cases hx) (.raw U U (.raw U U .nil))) (.deep (AR Ag) .nil) rfl U ?_
     exact xd hA23 A23_0123456789ab)
   have A23_012345679a:A23 4 (bm 14 1791) ⟨67,AL [(0,(Bf p0)),(2,(i64 p2)),(3,(.fn 39 [Aq,BD])),(5,Bg),(8,Fc),(13,(B0 s0)),(14,(i64 t4)),(50,(ow 0 0 l5)),(51,(i64 t4)),(52,(Bf p0)),(56,(NR t4)),(58,(i64 scope19)),(59,(.fn 39 [Aq,BD]))],(Ls l5 f6 s2_0 s2_1 p1_0 p1_1)⟩:=(hA23 _ _ _).2 (by
    refine xa [8] ⟨?_,trivial⟩
    ·refine xo 8 ?_
     exact Af (Bj (id:=0) (j:=2) (i:=t4) (c:=c21) (ys:=c21.kids) (encY:=(Au 44)) rfl gc21 (CX _) rfl U U U) (zz (.agg (PL c21)) (BM Cz U U (Be gc21) (show 0+3≤3 by decide) rfl) rfl (C4 hA23 A23_0123456789a (by exact Im (L:=[(0,(Bf p0)),(2,(i64 p2)),(3,(.fn 39 [Aq,BD])),(5,Fc),(8,RL),(13,(B0 s0)),(14,(i64 t4)),(50,(ow 0 0 l5)),(51,(i64 t4)),(52,(Bf p0)),(57,(PT c21)),(58,(i64 scope19)),(59,(.fn 39 [Aq,BD]))]) (st':=[(R4 l5 t4 c21),(C0 f6),(CQ s2_0 s2_1),(DU c21),(Mg p1_0 p1_1 l5),D1]) (st1:=[⟨0,44,3,hole l5 (Au 44) t4 (PL c21)⟩,(C0 f6),(CQ s2_0 s2_1),(DU c21),(Mg p1_0 p1_1 l5),D1]) [0,1,2,5,3,4] U (by decide) rfl U (.hol (AR Ag) (MQ Lt) rfl U (.raw U U (.raw U U (.deep (AR Ag) (.raw U U (.raw U U .nil)))))) (.same U)))))
   have A23_01234569a:A23 5 (bm 14 1663) ⟨67,AL [(0,(Bf p0)),(2,(i64 p2)),(3,(.fn 39 [Aq,BD])),(5,Bg),(8,Fc),(13,(B0 s0)),(14,(i64 t4)),(50,(ow 0 0 l5)),(51,(i64 t4)),(52,(Bf p0)),(54,(ow 0 0 l5)),(55,(i64 t4)),(58,(i64 scope19)),(59,(.fn 39 [Aq,BD]))],(Ls l5 f6 s2_0 s2_1 p1_0 p1_1)⟩:=(hA23 _ _ _).2 (by
    refine xa [7] ⟨?_,trivial⟩
    ·refine xo 7 ?_
     exact zz (NR t4) (Bb Bw U U U U gc21) rfl (xd hA23 A23_012345679a))
   have A23_0123469a:A23 6 (bm 14 1631) ⟨67,AL [(0,(Bf p0)),(2,(i64 p2)),(3,(.fn 39 [Aq,BD])),(5,Bg),(8,Fc),(13,(B0 s0)),(14,(i64 t4)),(50,(ow 0 0 l5)),(51,(i64 t4)),(52,(Bf p0)),(53,WA),(55,(i64 t4)),(58,(i64 scope19)),(59,(.fn 39 [Aq,BD]))],(Ls l5 f6 s2_0 s2_1 p1_0 p1_1)⟩:=(hA23 _ _ _).2 (by
    refine xa [5] ⟨?_,trivial⟩
    ·exact xq tb hA23 A23_01234569a)
   have A23_012369a:A23 7 (bm 14 1615) ⟨67,AL [(0,(Bf p0)),(2,(i64 p2)),(3,(.fn 39 [Aq,BD])),(5,Bg),(8,Fc),(13,(B0 s0)),(14,(i64 t4)),(50,(ow 0 0 l5)),(51,(i64 t4)),(52,(Bf p0)),(55,(i64 t4)),(58,(i64 scope19)),(59,(.fn 39 [Aq,BD]))],(Ls l5 f6 s2_0 s2_1 p1_0 p1_1)⟩:=(hA23 _ _ _).2 (by
    refine xa [4] ⟨?_,trivial⟩
    ·exact xq tb hA23 A23_0123469a)
   have A23_023456789ab:A23 3 (bm 14 4093) ⟨67,AL [(0,(Bf p0)),(2,(i64 p2)),(3,(.fn 39 [Aq,BD])),(5,Fc),(8,RL),(13,(B0 s0)),(14,(i64 t4)),(49,RQ),(51,(i64 t4)),(60,(ZG q22.1.op q22.1.num q22.1.kids))],[(R4 l5 t4 c21),(C0 q22.2),(CQ s2_0 s2_1),C8,(Mg p1_0 p1_1 l5),D1,(CI q22.1.kids)]⟩:=(hA23 _ _ _).2 (by
    refine xa [1] ⟨?_,trivial⟩
    ·exact xq tb hA23 A23_0123456789ab)
   have A23_023456789a:A23 4 (bm 14 2045) ⟨67,AL [(0,(Bf p0)),(2,(i64 p2)),(3,(.fn 39 [Aq,BD])),(5,Fc),(8,RL),(13,(B0 s0)),(14,(i64 t4)),(49,RQ),(51,(i64 t4)),(52,(Bf p0)),(57,(PT c21)),(58,(i64 scope19)),(59,(.fn 39 [Aq,BD]))],[(R4 l5 t4 c21),(C0 f6),(CQ s2_0 s2_1),(DU c21),(Mg p1_0 p1_1 l5),D1]⟩:=(hA23 _ _ _).2 (by
    refine xa [1,11] ⟨?_,?_,trivial⟩
    ·exact xq tb hA23 A23_0123456789a
    ·refine xo 11 ?_
     refine H0 (rowsP:=[(DU c21),(C0 f6),(CQ s2_0 s2_1)]) (rows0:=[(DU c21),(C0 f6),(CQ s2_0 s2_1)]) (rows1:=[C8,(C0 q22.2),(CQ s2_0 s2_1)]) (rows2:=[(CI q22.1.kids)]) (rows1':=[C8,(C0 q22.2),(CQ s2_0 s2_1)]) (rows2':=[(CI q22.1.kids)]) (st':=[(R4 l5 t4 c21),(C0 q22.2),(CQ s2_0 s2_1),C8,(Mg p1_0 p1_1 l5),D1,(CI q22.1.kids)]) (v':=(ZG q22.1.op q22.1.num q22.1.kids)) [3,1,2] Ac (hb 56) (hrec_impl_rewriteExpr_3 gq22) rfl (by decide) rfl U (.deep (AR Ag) (.raw U U (.raw U U .nil))) rfl U (.pure (by intro x hx;cases hx) (.raw U U (.raw U U .nil))) (.deep (AR Ag) .nil) rfl U ?_
     exact xd hA23 A23_023456789ab)
   have A23_02345679a:A23 5 (bm 14 1789) ⟨67,AL [(0,(Bf p0)),(2,(i64 p2)),(3,(.fn 39 [Aq,BD])),(5,Bg),(8,Fc),(13,(B0 s0)),(14,(i64 t4)),(49,WA),(51,(i64 t4)),(52,(Bf p0)),(56,(NR t4)),(58,(i64 scope19)),(59,(.fn 39 [Aq,BD]))],(Ls l5 f6 s2_0 s2_1 p1_0 p1_1)⟩:=(hA23 _ _ _).2 (by
    refine xa [1,8] ⟨?_,?_,trivial⟩
    ·exact xq tb hA23 A23_012345679a
    ·refine xo 8 ?_
     exact Af (Bj (id:=0) (j:=2) (i:=t4) (c:=c21) (ys:=c21.kids) (encY:=(Au 44)) rfl gc21 (CX _) rfl U U U) (zz (.agg (PL c21)) (BM Cz U U (Be gc21) (show 0+3≤3 by decide) rfl) rfl (C4 hA23 A23_023456789a (by exact Im (L:=[(0,(Bf p0)),(2,(i64 p2)),(3,(.fn 39 [Aq,BD])),(5,Fc),(8,RL),(13,(B0 s0)),(14,(i64 t4)),(49,RQ),(51,(i64 t4)),(52,(Bf p0)),(57,(PT c21)),(58,(i64 scope19)),(59,(.fn 39 [Aq,BD]))]) (st':=[(R4 l5 t4 c21),(C0 f6),(CQ s2_0 s2_1),(DU c21),(Mg p1_0 p1_1 l5),D1]) (st1:=[⟨0,44,3,hole l5 (Au 44) t4 (PL c21)⟩,(C0 f6),(CQ s2_0 s2_1),(DU c21),(Mg p1_0 p1_1 l5),D1]) [0,1,2,5,3,4] U (by decide) rfl U (.hol (AR Ag) (MQ Lt) rfl U (.raw U U (.raw U U (.deep (AR Ag) (.raw U U (.raw U U .nil)))))) (.same U)))))
   have A23_0234569a:A23 6 (bm 14 1661) ⟨67,AL [(0,(Bf p0)),(2,(i64 p2)),(3,(.fn 39 [Aq,BD])),(5,Bg),(8,Fc),(13,(B0 s0)),(14,(i64 t4)),(49,WA),(51,(i64 t4)),(52,(Bf p0)),(54,(ow 0 0 l5)),(55,(i64 t4)),(58,(i64 scope19)),(59,(.fn 39 [Aq,BD]))],(Ls l5 f6 s2_0 s2_1 p1_0 p1_1)⟩:=(hA23 _ _ _).2 (by
    refine xa [1,7] ⟨?_,?_,trivial⟩
    ·exact xq tb hA23 A23_01234569a
    ·refine xo 7 ?_
     exact zz (NR t4) (Bb Bw U U U U gc21) rfl (xd hA23 A23_02345679a))
   have A23_023469a:A23 7 (bm 14 1629) ⟨67,AL [(0,(Bf p0)),(2,(i64 p2)),(3,(.fn 39 [Aq,BD])),(5,Bg),(8,Fc),(13,(B0 s0)),(14,(i64 t4)),(49,WA),(51,(i64 t4)),(52,(Bf p0)),(53,WA),(55,(i64 t4)),(58,(i64 scope19)),(59,(.fn 39 [Aq,BD]))],(Ls l5 f6 s2_0 s2_1 p1_0 p1_1)⟩:=(hA23 _ _ _).2 (by
    refine xa [1,5] ⟨?_,?_,trivial⟩
    ·exact xq tb hA23 A23_0123469a
    ·exact xq tb hA23 A23_0234569a)
   have A23_02369a:A23 8 (bm 14 1613) ⟨67,AL [(0,(Bf p0)),(2,(i64 p2)),(3,(.fn 39 [Aq,BD])),(5,Bg),(8,Fc),(13,(B0 s0)),(14,(i64 t4)),(49,WA),(51,(i64 t4)),(52,(Bf p0)),(55,(i64 t4)),(58,(i64 scope19)),(59,(.fn 39 [Aq,BD]))],(Ls l5 f6 s2_0 s2_1 p1_0 p1_1)⟩:=(hA23 _ _ _).2 (by
    refine xa [1,4] ⟨?_,?_,trivial⟩
    ·exact xq tb hA23 A23_012369a
    ·exact xq tb hA23 A23_023469a)
   have A23_23456789ab:A23 4 (bm 14 4092) ⟨67,AL [(0,(Bf p0)),(2,(i64 p2)),(3,(.fn 39 [Aq,BD])),(5,Fc),(8,RL),(13,(B0 s0)),(14,(i64 t4)),(51,(i64 t4)),(60,(ZG q22.1.op q22.1.num q22.1.kids))],[(R4 l5 t4 c21),(C0 q22.2),(CQ s2_0 s2_1),C8,(Mg p1_0 p1_1 l5),D1,(CI q22.1.kids)]⟩:=(hA23 _ _ _).2 (by
    refine xa [0] ⟨?_,trivial⟩
    ·exact xq tb hA23 A23_023456789ab)
   have A23_23456789a:A23 5 (bm 14 2044) ⟨67,AL [(0,(Bf p0)),(2,(i64 p2)),(3,(.fn 39 [Aq,BD])),(5,Fc),(8,RL),(13,(B0 s0)),(14,(i64 t4)),(51,(i64 t4)),(52,(Bf p0)),(57,(PT c21)),(58,(i64 scope19)),(59,(.fn 39 [Aq,BD]))],[(R4 l5 t4 c21),(C0 f6),(CQ s2_0 s2_1),(DU c21),(Mg p1_0 p1_1 l5),D1]⟩:=(hA23 _ _ _).2 (by
    refine xa [0,11] ⟨?_,?_,trivial⟩
    ·exact xq tb hA23 A23_023456789a
    ·refine xo 11 ?_
     refine H0 (rowsP:=[(DU c21),(C0 f6),(CQ s2_0 s2_1)]) (rows0:=[(DU c21),(C0 f6),(CQ s2_0 s2_1)]) (rows1:=[C8,(C0 q22.2),(CQ s2_0 s2_1)]) (rows2:=[(CI q22.1.kids)]) (rows1':=[C8,(C0 q22.2),(CQ s2_0 s2_1)]) (rows2':=[(CI q22.1.kids)]) (st':=[(R4 l5 t4 c21),(C0 q22.2),(CQ s2_0 s2_1),C8,(Mg p1_0 p1_1 l5),D1,(CI q22.1.kids)]) (v':=(ZG q22.1.op q22.1.num q22.1.kids)) [3,1,2] Ac (hb 56) (hrec_impl_rewriteExpr_3 gq22) rfl (by decide) rfl U (.deep (AR Ag) (.raw U U (.raw U U .nil))) rfl U (.pure (by intro x hx;cases hx) (.raw U U (.raw U U .nil))) (.deep (AR Ag) .nil) rfl U ?_
     exact xd hA23 A23_23456789ab)
   have A23_2345679a:A23 6 (bm 14 1788) ⟨67,AL [(0,(Bf p0)),(2,(i64 p2)),(3,(.fn 39 [Aq,BD])),(5,Bg),(8,Fc),(13,(B0 s0)),(14,(i64 t4)),(51,(i64 t4)),(52,(Bf p0)),(56,(NR t4)),(58,(i64 scope19)),(59,(.fn 39 [Aq,BD]))],(Ls l5 f6 s2_0 s2_1 p1_0 p1_1)⟩:=(hA23 _ _ _).2 (by
    refine xa [0,8] ⟨?_,?_,trivial⟩
    ·exact xq tb hA23 A23_02345679a
    ·refine xo 8 ?_
     exact Af (Bj (id:=0) (j:=2) (i:=t4) (c:=c21) (ys:=c21.kids) (encY:=(Au 44)) rfl gc21 (CX _) rfl U U U) (zz (.agg (PL c21)) (BM Cz U U (Be gc21) (show 0+3≤3 by decide) rfl) rfl (C4 hA23 A23_23456789a (by exact Im (L:=[(0,(Bf p0)),(2,(i64 p2)),(3,(.fn 39 [Aq,BD])),(5,Fc),(8,RL),(13,(B0 s0)),(14,(i64 t4)),(51,(i64 t4)),(52,(Bf p0)),(57,(PT c21)),(58,(i64 scope19)),(59,(.fn 39 [Aq,BD]))]) (st':=[(R4 l5 t4 c21),(C0 f6),(CQ s2_0 s2_1),(DU c21),(Mg p1_0 p1_1 l5),D1]) (st1:=[⟨0,44,3,hole l5 (Au 44) t4 (PL c21)⟩,(C0 f6),(CQ s2_0 s2_1),(DU c21),(Mg p1_0 p1_1 l5),D1]) [0,1,2,5,3,4] U (by decide) rfl U (.hol (AR Ag) (MQ Lt) rfl U (.raw U U (.raw U U (.deep (AR Ag) (.raw U U (.raw U U .nil)))))) (.same U)))))
   have A23_234569a:A23 7 (bm 14 1660) ⟨67,AL [(0,(Bf p0)),(2,(i64 p2)),(3,(.fn 39 [Aq,BD])),(5,Bg),(8,Fc),(13,(B0 s0)),(14,(i64 t4)),(51,(i64 t4)),(52,(Bf p0)),(54,(ow 0 0 l5)),(55,(i64 t4)),(58,(i64 scope19)),(59,(.fn 39 [Aq,BD]))],(Ls l5 f6 s2_0 s2_1 p1_0 p1_1)⟩:=(hA23 _ _ _).2 (by
    refine xa [0,7] ⟨?_,?_,trivial⟩
    ·exact xq tb hA23 A23_0234569a
    ·refine xo 7 ?_
     exact zz (NR t4) (Bb Bw U U U U gc21) rfl (xd hA23 A23_2345679a))
   have A23_23469a:A23 8 (bm 14 1628) ⟨67,AL [(0,(Bf p0)),(2,(i64 p2)),(3,(.fn 39 [Aq,BD])),(5,Bg),(8,Fc),(13,(B0 s0)),(14,(i64 t4)),(51,(i64 t4)),(52,(Bf p0)),(53,WA),(55,(i64 t4)),(58,(i64 scope19)),(59,(.fn 39 [Aq,BD]))],(Ls l5 f6 s2_0 s2_1 p1_0 p1_1)⟩:=(hA23 _ _ _).2 (by
    refine xa [0,5] ⟨?_,?_,trivial⟩
    ·exact xq tb hA23 A23_023469a
    ·exact xq tb hA23 A23_234569a)
   have A23_2369a:A23 9 (bm 14 1612) ⟨67,AL [(0,(Bf p0)),(2,(i64 p2)),(3,(.fn 39 [Aq,BD])),(5,Bg),(8,Fc),(13,(B0 s0)),(14,(i64 t4)),(51,(i64 t4)),(52,(Bf p0)),(55,(i64 t4)),(58,(i64 scope19)),(59,(.fn 39 [Aq,BD]))],(Ls l5 f6 s2_0 s2_1 p1_0 p1_1)⟩:=(hA23 _ _ _).2 (by
    refine xa [0,4] ⟨?_,?_,trivial⟩
    ·exact xq tb hA23 A23_02369a
    ·exact xq tb hA23 A23_23469a)
   have A23_2369:A23 10 (bm 14 588) ⟨67,AL [(0,(Bf p0)),(2,(i64 p2)),(3,(.fn 39 [Aq,BD])),(5,Bg),(8,Fc),(13,(B0 s0)),(14,(i64 t4)),(51,(i64 t4)),(52,(Bf p0)),(55,(i64 t4)),(58,(i64 scope19))],(Ls l5 f6 s2_0 s2_1 p1_0 p1_1)⟩:=(hA23 _ _ _).2 (by
    refine Bq 10 (v:=(.fn 39 [Aq,BD])) rfl U (by kernel_rfl) (by kernel_rfl) (by kernel_rfl) rfl (CR U) ?_
    exact xt hA23 A23_2369a)
   have A23_236:A23 11 (bm 14 76) ⟨67,AL [(0,(Bf p0)),(2,(i64 p2)),(3,(.fn 39 [Aq,BD])),(5,Bg),(8,Fc),(10,(i64 scope19)),(13,(B0 s0)),(14,(i64 t4)),(51,(i64 t4)),(52,(Bf p0)),(55,(i64 t4))],(Ls l5 f6 s2_0 s2_1 p1_0 p1_1)⟩:=(hA23 _ _ _).2 (by
    refine Bq 9 (v:=(i64 scope19)) rfl U (by kernel_rfl) (by kernel_rfl) (by kernel_rfl) rfl (CR U) ?_
    exact xt hA23 A23_2369)
   have A23_23:A23 12 (bm 14 12) ⟨67,AL [(0,(Bf p0)),(2,(i64 p2)),(3,(.fn 39 [Aq,BD])),(5,Bg),(8,Fc),(9,(i64 t4)),(10,(i64 scope19)),(13,(B0 s0)),(14,(i64 t4)),(51,(i64 t4)),(52,(Bf p0))],(Ls l5 f6 s2_0 s2_1 p1_0 p1_1)⟩:=(hA23 _ _ _).2 (by
    refine Bq 6 (v:=(i64 t4)) rfl U (by kernel_rfl) (by kernel_rfl) (by kernel_rfl) rfl (CR U) ?_
    exact xt hA23 A23_236)
   have A23_2:A23 13 (bm 14 4) ⟨67,AL [(0,(Bf p0)),(2,(i64 p2)),(3,(.fn 39 [Aq,BD])),(5,Bg),(8,Fc),(9,(i64 t4)),(10,(i64 scope19)),(13,(B0 s0)),(14,(i64 t4)),(51,(i64 t4))],(Ls l5 f6 s2_0 s2_1 p1_0 p1_1)⟩:=(hA23 _ _ _).2 (by
    refine Bq 3 (v:=(Bf p0)) rfl U (by kernel_rfl) (by kernel_rfl) (by kernel_rfl) rfl (CR U) ?_
    exact xt hA23 A23_23)
   have A23_e:A23 14 (bm 14 0) ⟨67,AL [(0,(Bf p0)),(2,(i64 p2)),(3,(.fn 39 [Aq,BD])),(5,Bg),(8,Fc),(9,(i64 t4)),(10,(i64 scope19)),(13,(B0 s0)),(14,(i64 t4))],(Ls l5 f6 s2_0 s2_1 p1_0 p1_1)⟩:=(hA23 _ _ _).2 (by
    refine Bq 2 (v:=(i64 t4)) rfl U (by kernel_rfl) (by kernel_rfl) (by kernel_rfl) rfl (CR U) ?_
    exact xt hA23 A23_2)
   refine (hA23 _ _ _).2 ?_
   exact xt hA23 A23_e
  refine AP (AB fun K24 hK24=>bs h2 fun o26 h3 h2=>?_)
  have M26 :∀(t25:Bool),o26=t25→∀s,Wk 3 s ⟨67,AL [(0,(Bf p0)),(2,(i64 p2)),(3,(.fn 39 [Aq,BD])),(5,Bg),(8,Fc),(9,(i64 t4)),(10,(i64 p2)),(13,(B0 s0)),(14,(i64 t4)),(18,(.bool t25))],(Ls l5 f6 s2_0 s2_1 p1_0 p1_1)⟩→K24 s:=by
   intro t25 hq s hw
   subst o26
   try dsimp only at h2
   refine hK24 _ (AM hw ?_)
   refine ci h2 U ?_ ?_ <;> clear h2 <;> intro b27 h2
   ·exact AF U (zm tb 3 U (AE (M20 (Sh.w (p2+1)) (Sh.AA h2).symm _ (AH U))))
   ·refine AB fun K28 hK28=>bs h2 fun o30 h3 h2=>?_
    have M30 :∀(t29:Bool),o30=t29→∀s,Wk 3 s ⟨67,AL [(0,(Bf p0)),(2,(i64 p2)),(3,(.fn 39 [Aq,BD])),(5,Bg),(8,Fc),(9,(i64 t4)),(10,(i64 p2)),(13,(B0 s0)),(14,(i64 t4)),(28,(.bool t29))],(Ls l5 f6 s2_0 s2_1 p1_0 p1_1)⟩→K28 s:=by
     intro t29 hq s hw
     subst o30
     try dsimp only at h2
     refine hK28 _ (AM hw ?_)
     refine ci h2 U ?_ ?_ <;> clear h2 <;> intro b31 h2
     ·refine AF U (zm tb 5 U (bs h2 fun q32 gq32 h2=>BF (v':=(ow 5 0 q32)) Ac (hb 70) (NI gq32) rfl U ⟨(BZ fun _=>U),trivial⟩ U U (zm tb 2 U (bs h2 fun c33 gc33 h2=>zz (.ptr 5 0 (Int.toNat (Sh.w (t4 - 1))) 0) (Bb BJ U U U U gc33) rfl (zz (i64 c33) (CZ Ja U U (GZ gc33) rfl) rfl (bs h2 fun q34 gq34 h2=>zc (hb 105) (Ld gq34) rfl U U (zl tb U U (zm tb 2 U ?_))))))))
      exact AE (M20 (Sh.w (p2+(Sh.len q34))) (Sh.AA h2).symm _ (AU [0,1,2,3,4] U (by decide) rfl U (.deep (AR Ag) (.raw U U (.raw U U (.raw U U (.raw U U .nil))))) (.same U)))
     ·exact AG (M20 p2 (Sh.AA h2).symm _ (AH U))
    refine AF U (zm tb 4 U ?_)
    rcases Sh.Ap h3 with ⟨b35,h3⟩ | ⟨b35,h3⟩
    ·exact zg tb b35 U (zg tb b35 U (zt b35 U (zq tb U (AE (M30 (decide (0 < t4)) (Sh.AA h3).symm _ (AH U))))))
    ·exact zs b35 U (zs b35 U (zf b35 U (zq tb U (AE (M30 false (Sh.AA h3).symm _ (AH U))))))
  refine AF U (zm tb 4 U ?_)
  rcases Sh.Ap h3 with ⟨b36,h3⟩ | ⟨b36,h3⟩
  ·exact zg tb b36 U (zg tb b36 U (zt b36 U (zq tb U (AE (M26 (decide (t4=1)) (Sh.AA h3).symm _ (AH U))))))
  ·exact zs b36 U (zs b36 U (zf b36 U (zq tb U (AE (M26 false (Sh.AA h3).symm _ (AH U))))))
 ·exact Ao (M9 l5 f6 (Sh.AA h1).symm _ (AH U))

theorem Ln {N:Nat} :∀(n:Nat),∀{s0:(List AD)} {s1_0:Int} {s2_0:(List Ab)} {s2_1:(List Ah)} {p0:(List Ab)} {p1_0:Int} {p1_1:Int} {p2:Int} {r:AD×Int},CD N n s0 s1_0 s2_0 s2_1 p0 p1_0 p1_1 p2=some r→Aa Tryz.prog 56 (dN p0 p1_0 p1_1 s0 p2) [(CI s0),(C0 s1_0),(CQ s2_0 s2_1)] (fun v st=>v=(.agg (Rf r.1.op r.1.num r.1.kids))∧st=[C8,(C0 r.2),(CQ s2_0 s2_1),(CI r.1.kids)]):=by
 intro n
 induction n with
 | zero=>intro s0 s1_0 s2_0 s2_1 p0 p1_0 p1_1 p2 r h0;cases h0
 | succ n ih=>
  intro s0 s1_0 s2_0 s2_1 p0 p1_0 p1_1 p2 r h0
  rw[CD] at h0
  exact Li (fun h=>ih h) h0
theorem I3 {N:Nat} :∀{s0:(List AD)} {s1_0:Int} {s2_0:(List Ab)} {s2_1:(List Ah)} {p0:(List Ab)} {p1_0:Int} {p1_1:Int} {p2:Int} {r:AD×Int},IA N s0 s1_0 s2_0 s2_1 p0 p1_0 p1_1 p2=some r→Aa Tryz.prog 56 (dN p0 p1_0 p1_1 s0 p2) [(CI s0),(C0 s1_0),(CQ s2_0 s2_1)] (fun v st=>v=(.agg (Rf r.1.op r.1.num r.1.kids))∧st=[C8,(C0 r.2),(CQ s2_0 s2_1),(CI r.1.kids)]):=by
 intro s0 s1_0 s2_0 s2_1 p0 p1_0 p1_1 p2 r h0
 exact Ln N h0
end Go.Proofs.YtpahalfiiahddaaGreat

