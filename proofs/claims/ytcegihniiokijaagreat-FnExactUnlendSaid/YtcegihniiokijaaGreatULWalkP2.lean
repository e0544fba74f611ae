import Derived.Test.YtcegihniiokijaaGreatProg
import Derived.Test.YtcegihniiokijaaGreatGEncCToULDefs
import Derived.Test.YtcegihniiokijaaGreatCLWalk
import Derived.Test.YtcegihniiokijaaGreatULWalkP1
namespace Go.Proofs.YtcegihniiokijaaGreat
open Go Go.Abs RC
attribute [local irreducible] Go.Abs.Cc
set_option maxRecDepth 100000
set_option maxHeartbeats 4000000

theorem cP:GC Tryz.prog 102=true:=by kernel_rfl
theorem aA:GC Tryz.prog 49=true:=by kernel_rfl
theorem bL:HH Tryz.prog 102=some [(0,1),(1,1),(2,1)]:=by kernel_rfl
theorem aV:HH Tryz.prog 49=some [(0,1),(1,1)]:=by kernel_rfl
theorem QZ:CF Tryz.prog 47=some ⟨102,3,56,[.sl [],.sl [],.int .i64 0]⟩:=by kernel_rfl
theorem ZB:Aq Tryz.prog 102=true:=by kernel_rfl
theorem bf:Aq Tryz.prog 124=true:=by kernel_rfl
theorem Yp:Aq Tryz.prog 125=true:=by kernel_rfl
theorem TR:Aq Tryz.prog 126=true:=by kernel_rfl
theorem bE:Aq Tryz.prog 133=true:=by kernel_rfl
theorem bS:Aq Tryz.prog 134=true:=by kernel_rfl
theorem cC:Aq Tryz.prog 135=true:=by kernel_rfl
theorem Ty:Aq Tryz.prog 137=true:=by kernel_rfl
theorem X6:Aq Tryz.prog 140=true:=by kernel_rfl
theorem ba:Aq Tryz.prog 181=true:=by kernel_rfl
theorem Yo:Aq Tryz.prog 182=true:=by kernel_rfl
theorem bR:Aq Tryz.prog 183=true:=by kernel_rfl
theorem TV:Aq Tryz.prog 185=true:=by kernel_rfl
theorem bX:Aq Tryz.prog 186=true:=by kernel_rfl
theorem dg:Aq Tryz.prog 75=true:=by kernel_rfl
theorem dq:Program.underlying Tryz.prog 3=some (.int .i64):=by kernel_rfl
theorem WQ:CI Tryz.prog 47=true:=by kernel_rfl
theorem al:CP Tryz.prog 102=some (true,3):=by kernel_rfl
theorem dL:CP Tryz.prog 47=some (false,1):=by kernel_rfl
theorem S4:CP Tryz.prog 49=some (true,2):=by kernel_rfl
theorem X7:GG Tryz.prog 102=some [.zc,.zc,.int .i64 0]:=by kernel_rfl
theorem dr:GG Tryz.prog 3=some [.int .i64 0]:=by kernel_rfl
theorem Uf:GG Tryz.prog 49=some [.zc,.zc]:=by kernel_rfl

theorem Hw {p0:(List Ag)} {p1:Int} {r:Bool} (h0:Fb p0 p1=some r):Ae Tryz.prog 126 [(ls AG p0),(i64 p1)] [] (fun v st=>v=(.bool r)∧st=[]):=by
 unfold Fb at h0
 refine ai Tryz.func126 U U U U (zr tb U U (AE fun K2 hK2=>bs h0 fun o4 h1 h0=>?_))
 have M4 :∀(t3:Bool),o4=t3→∀s,Wk 0 s ⟨13,Ad [(4,(.bool t3))],[]⟩→K2 s:=by
  intro t3 hq s hw
  subst o4
  try dsimp only at h0
  refine hK2 _ (AS hw ?_)
  replace h0:=Sh.AA h0
  subst r
  exact AK (xr (AF (L:=[(4,(.bool t3))]) ⟨.rfl,trivial⟩))
 refine AJ U (zm tb 3 U ?_)
 rcases Sh.As h1 with ⟨b5,h1⟩ | ⟨b5,h1⟩
 ·exact zg tb b5 U (zg tb b5 U (A7 (v:=(i64 (Sh.len p0))) (Bb U U b5) rfl (Bo Oz U) (zg tb b5 U (zt b5 U (zq tb U (AB (M4 (decide (p1≤(Sh.len p0))) (Sh.AA h1).symm _ (AN U))))))))
 ·refine zs b5 U ?_
  iterate 3 refine zs b5 rfl ?_
  exact zf b5 U (zq tb U (AB (M4 false (Sh.AA h1).symm _ (AN U))))
theorem Kc {N:Nat} {p0:(List Ag)} {p1:(List Int)} {r:Bool} (h0:GJ N p0 p1=some r):Ae Tryz.prog 125 [(ls AG p0),(ls eI p1)] [] (fun v st=>v=(.bool r)∧st=[]):=by
 unfold GJ at h0
 refine ai Tryz.func125 U U U U (zr tb U U (AE fun K2 hK2=>sr U fun K3 hK3=>zq tb U (zl tb U U (zq tb U (dn hK3 U ?_)))))
 obtain⟨o5,h1,h0⟩:=Sh.A8 h0
 have M5 :∀(_:Unit),o5=Sum.inr ()→∀s,Wk 0 s ⟨18,Ad [],[]⟩→K2 s:=by
  intro _ hq s hw
  subst o5
  try dsimp only at h0
  refine hK2 _ (AS hw (zr tb U U ?_))
  replace h0:=Sh.AA h0
  subst r
  exact AK (xr (AF (L:=[(4,(.bool true))]) ⟨.rfl,trivial⟩))
 refine Aa (Au (σ:=Int) (fun n v=>Du p0 p1 n v=some o5) (fun t4=>⟨18,Ad [(0,(ls AG p0)),(7,(ls eI p1)),(8,(i64 (Sh.len p1))),(9,(i64 t4))],[]⟩) N 0 h1 (AN U) (fun _ hv=>by rw[Du] at hv;cases hv) ?_)
 rintro n t4 h1
 try dsimp only at h1 ⊢
 rw[Du] at h1
 refine zr tb U U (AE fun K8 hK8=>?_)
 refine ci h1 U ?_ ?_ <;> clear h1
 ·intro b9 h1
  refine AI (hK8 _ (AE fun K10 hK10=>Aa (sr U fun K11 hK11=>bs h1 fun c12 gc12 h1=>zx BN gc12 U U U (zm tb 2 U (dn hK11 U (sr U fun K13 hK13=>zm tb 2 U (bs h1 fun q14 gq14 h1=>zc TR (Hw gq14) rfl U U ?_)))))))
  refine zq tb U (dn hK13 U ?_)
  refine ci h1 U ?_ ?_ <;> clear h1
  ·intro b15 h1
   have b16:q14=false:=by simpa using b15
   refine zr tb U U ?_
   replace h1:=Sh.AA h1
   subst o5
   try dsimp only[id] at h0
   replace h0:=Sh.AA h0
   subst r
   exact AK (xr (AF (L:=[(4,(.bool false))]) ⟨.rfl,trivial⟩))
  ·intro b15 h1
   have b18:q14=true:=by simpa using b15
   exact AI (hK10 _ (AJ U (zm tb 2 U (AB (xi (Sh.w (t4+1)) h1 (AN U))))))
 ·intro b9 h1
  exact Ay (M5 () (Sh.AA h1).symm _ (AN U))
theorem Nj {N:Nat} {p0:(List Ag)} {r:Bool} (h0:F9 N p0=some r):Ae Tryz.prog 124 [(ls AG p0)] [] (fun v st=>v=(.bool r)∧st=[]):=by
 unfold F9 at h0
 refine ai Tryz.func124 U U U U (zr tb U U (AE fun K2 hK2=>sr U fun K3 hK3=>zq tb U (zl tb U U (zq tb U (dn hK3 U ?_)))))
 refine ci h0 U ?_ ?_ <;> clear h0
 ·intro b4 h0
  refine zr tb U U ?_
  replace h0:=Sh.AA h0
  subst r
  exact AK (xr (AF (L:=[(2,(.bool false))]) ⟨.rfl,trivial⟩))
 ·intro b4 h0
  refine AI (hK2 _ (AE fun K6 hK6=>sr U fun K7 hK7=>zq tb U (zl tb U U (zq tb U (dn hK7 U ?_)))))
  obtain⟨o9,h1,h0⟩:=Sh.A8 h0
  have M9 :∀(_:Unit),o9=Sum.inr ()→∀s,Wk 0 s ⟨106,Ad [],[]⟩→K6 s:=by
   intro _ hq s hw
   subst o9
   try dsimp only at h0
   refine hK6 _ (AS hw (zr tb U U ?_))
   replace h0:=Sh.AA h0
   subst r
   exact AK (xr (AF (L:=[(2,(.bool true))]) ⟨.rfl,trivial⟩))
  refine Aa (Au (σ:=Int) (fun n v=>C3 N p0 n v=some o9) (fun t8=>⟨106,Ad [(0,(ls AG p0)),(12,(ls AG p0)),(13,(i64 (Sh.len p0))),(14,(i64 t8))],[]⟩) N 0 h1 (AN U) (fun _ hv=>by rw[C3] at hv;cases hv) ?_)
  rintro n t8 h1
  try dsimp only at h1 ⊢
  rw[C3] at h1
  refine zr tb U U (AE fun K12 hK12=>?_)
  refine ci h1 U ?_ ?_ <;> clear h1
  ·intro b13 h1
   refine AI (hK12 _ (AE fun K14 hK14=>Aa (sr U fun K15 hK15=>zq tb U (bs h1 fun c16 gc16 h1=>zx DA gc16 U U U (zq tb U (Ap (m:=0) (st':=[⟨0,98,3,[[(i64 0),(i64 0),.zc]]⟩]) Ah B2 U U (zq tb U (A3 (st':=[⟨0,98,3,[(AG c16)]⟩]) Ah Hm U U U U U U (show 0+3≤3 by decide) rfl (dn hK15 U ?_)))))))))
   refine AE fun K17 hK17=>AE fun K18 hK18=>bs h1 fun o20 h2 h1=>?_
   have M20 :∀(t19:Bool),o20=t19→∀s,Wk 0 s ⟨106,Ad [(0,(ls AG p0)),(3,(i64 t8)),(4,(.ptr 0 0 0 0)),(12,(ls AG p0)),(13,(i64 (Sh.len p0))),(14,(i64 t8)),(52,(.bool t19))],[⟨0,98,3,[(AG c16)]⟩]⟩→K18 s:=by
    intro t19 hq s hw
    subst o20
    try dsimp only at h1
    refine hK18 _ (AS hw ?_)
    refine ci h1 U ?_ ?_ <;> clear h1
    ·intro b21 h1
     refine zr tb U U ?_
     replace h1:=Sh.AA h1
     subst o9
     try dsimp only[id] at h0
     replace h0:=Sh.AA h0
     subst r
     exact AK (xr (Ai [(2,(.bool false))] U))
    ·intro b21 h1
     refine AI (hK17 _ (AE fun K23 hK23=>sr U fun K24 hK24=>zm tb 2 U (zl tb U U (zq tb U (dn hK24 U ?_)))))
     obtain⟨o26,h2,h1⟩:=Sh.A8 h1
     have M26 :∀(_:Unit),o26=Sum.inr ()→∀s,Wk 0 s ⟨106,Ad [(0,(ls AG p0)),(3,(i64 t8)),(4,(.ptr 0 0 0 0)),(12,(ls AG p0)),(13,(i64 (Sh.len p0))),(14,(i64 t8))],[⟨0,98,3,[(AG c16)]⟩]⟩→K23 s:=by
      intro _ hq s hw
      subst o26
      try dsimp only at h1
      refine hK23 _ (AS hw (sr U fun K27 hK27=>zm tb 2 U (bs h1 fun l28 gl28 h1=>Tv (i:=0) (j:=t8) Ah DA U U U (fun _=>U) gl28 (zl tb U U (zq tb U (dn hK27 U ?_))))))
      obtain⟨o30,h2,h1⟩:=Sh.A8 h1
      have M30 :∀(_:Unit),o30=Sum.inr ()→∀s,Wk 0 s ⟨106,Ad [(0,(ls AG p0)),(12,(ls AG p0)),(13,(i64 (Sh.len p0))),(14,(i64 t8))],[]⟩→K14 s:=by
       intro _ hq s hw
       subst o30
       try dsimp only at h1
       exact hK14 _ (AS hw (AJ U (zm tb 2 U (AB (xi (Sh.w (t8+1)) h1 (AN U))))))
      refine Aa (Au (σ:=Int) (fun n v=>CX c16 l28 n v=some o30) (fun t29=>⟨106,Ad [(0,(ls AG p0)),(4,(.ptr 0 0 0 0)),(12,(ls AG p0)),(13,(i64 (Sh.len p0))),(14,(i64 t8)),(74,(ls AG l28)),(75,(i64 (Sh.len l28))),(76,(i64 t29))],[⟨0,98,3,[(AG c16)]⟩]⟩) N 0 h2 (AN U) (fun _ hv=>by rw[CX] at hv;cases hv) ?_)
      rintro n t29 h2
      try dsimp only at h2 ⊢
      rw[CX] at h2
      refine zr tb U U (AE fun K32 hK32=>?_)
      refine ci h2 U ?_ ?_ <;> clear h2
      ·intro b33 h2
       refine AI (hK32 _ (AE fun K34 hK34=>Aa (sr U fun K35 hK35=>bs h2 fun c36 gc36 h2=>zx DA gc36 U U U (zq tb U (Ap (m:=1) (st':=[⟨0,98,3,[(AG c16)]⟩,⟨0,98,3,[[(i64 0),(i64 0),.zc]]⟩]) Ah B2 U U (A3 (st':=[⟨0,98,3,[(AG c16)]⟩,⟨0,98,3,[(AG c36)]⟩]) Ah Hm U U U U U U (show 0+3≤3 by decide) rfl (dn hK35 U (AE fun K37 hK37=>bs h2 fun o39 h3 h2=>?_))))))))
       have M39 :∀(t38:Bool),o39=t38→∀s,Wk 0 s ⟨106,Ad [(0,(ls AG p0)),(4,(.ptr 0 0 0 0)),(12,(ls AG p0)),(13,(i64 (Sh.len p0))),(14,(i64 t8)),(74,(ls AG l28)),(75,(i64 (Sh.len l28))),(76,(i64 t29)),(103,(.bool t38))],[⟨0,98,3,[(AG c16)]⟩]⟩→K37 s:=by
        intro t38 hq s hw
        subst o39
        try dsimp only at h2
        refine hK37 _ (AS hw ?_)
        refine ci h2 U ?_ ?_ <;> clear h2
        ·intro b40 h2
         refine zr tb U U ?_
         replace h2:=Sh.AA h2
         subst o30
         try dsimp only[id] at h1
         replace h1:=Sh.AA h1
         subst o9
         try dsimp only[id] at h0
         replace h0:=Sh.AA h0
         subst r
         exact AK (xr (Ai [(2,(.bool false))] U))
        ·intro b40 h2
         exact AI (hK34 _ (AJ U (zm tb 2 U (AB (xi (Sh.w (t29+1)) h2 (AN U))))))
       refine AJ U (zm tb 2 U (zl tb U U (zm tb 2 U ?_)))
       rcases Sh.As h3 with ⟨b42,h3⟩ | ⟨b42,h3⟩
       ·refine zg tb b42 U (zg tb b42 U (A7 (v:=(i64 (Sh.len c36.cons))) (Bb U U b42) rfl (Bo Nn U) (zg tb b42 U (zt b42 U (zq tb U ?_)))))
        rcases Sh.As h3 with ⟨b43,h3⟩ | ⟨b43,h3⟩
        ·refine zg tb b43 U ?_
         iterate 4 refine zg tb b43 rfl ?_
         refine zt b43 U (zq tb U ?_)
         rcases Sh.As h3 with ⟨b44,h3⟩ | ⟨b44,h3⟩
         ·refine zg tb b44 U ?_
          iterate 4 refine zg tb b44 rfl ?_
          refine zt b44 U ?_
          exact AB (M39 (decide (c36.to=c16.to)) (Sh.AA h3).symm _ (AP (L:=[(0,(ls AG p0)),(4,(.ptr 0 0 0 0)),(12,(ls AG p0)),(13,(i64 (Sh.len p0))),(14,(i64 t8)),(74,(ls AG l28)),(75,(i64 (Sh.len l28))),(76,(i64 t29)),(103,(.bool (decide (c36.to=c16.to))))]) (st':=[⟨0,98,3,[(AG c16)]⟩]) (st1:=[⟨0,98,3,[(AG c16)]⟩]) [0] U .nil (by decide) rfl U (.raw U U .nil) ⟨.rfl,.rfl,.rfl,.rfl,.rfl,.rfl,.rfl,.rfl,.rfl,trivial⟩))
         ·refine zs b44 U ?_
          iterate 4 refine zs b44 rfl ?_
          refine zf b44 U ?_
          exact AB (M39 false (Sh.AA h3).symm _ (AP (L:=[(0,(ls AG p0)),(4,(.ptr 0 0 0 0)),(12,(ls AG p0)),(13,(i64 (Sh.len p0))),(14,(i64 t8)),(74,(ls AG l28)),(75,(i64 (Sh.len l28))),(76,(i64 t29)),(103,(.bool false))]) (st':=[⟨0,98,3,[(AG c16)]⟩]) (st1:=[⟨0,98,3,[(AG c16)]⟩]) [0] U .nil (by decide) rfl U (.raw U U .nil) ⟨.rfl,.rfl,.rfl,.rfl,.rfl,.rfl,.rfl,.rfl,.rfl,trivial⟩))
        ·refine zs b43 U ?_
         iterate 4 refine zs b43 rfl ?_
         refine zf b43 U (zq tb U ?_)
         iterate 5 refine zs rfl rfl ?_
         refine zf U U ?_
         exact AB (M39 false (Sh.AA h3).symm _ (AP (L:=[(0,(ls AG p0)),(4,(.ptr 0 0 0 0)),(12,(ls AG p0)),(13,(i64 (Sh.len p0))),(14,(i64 t8)),(74,(ls AG l28)),(75,(i64 (Sh.len l28))),(76,(i64 t29)),(103,(.bool false))]) (st':=[⟨0,98,3,[(AG c16)]⟩]) (st1:=[⟨0,98,3,[(AG c16)]⟩]) [0] U .nil (by decide) rfl U (.raw U U .nil) ⟨.rfl,.rfl,.rfl,.rfl,.rfl,.rfl,.rfl,.rfl,.rfl,trivial⟩))
       ·refine zs b42 U ?_
        iterate 3 refine zs b42 rfl ?_
        refine zf b42 U (zq tb U ?_)
        iterate 5 refine zs rfl rfl ?_
        refine zf U U (zq tb U ?_)
        iterate 5 refine zs rfl rfl ?_
        refine zf U U ?_
        exact AB (M39 false (Sh.AA h3).symm _ (AP (L:=[(0,(ls AG p0)),(4,(.ptr 0 0 0 0)),(12,(ls AG p0)),(13,(i64 (Sh.len p0))),(14,(i64 t8)),(74,(ls AG l28)),(75,(i64 (Sh.len l28))),(76,(i64 t29)),(103,(.bool false))]) (st':=[⟨0,98,3,[(AG c16)]⟩]) (st1:=[⟨0,98,3,[(AG c16)]⟩]) [0] U .nil (by decide) rfl U (.raw U U .nil) ⟨.rfl,.rfl,.rfl,.rfl,.rfl,.rfl,.rfl,.rfl,.rfl,trivial⟩))
      ·intro b33 h2
       exact Ay (M30 () (Sh.AA h2).symm _ (Ai _ U))
     refine Aa (Au (σ:=Int) (fun n v=>CY N c16 p0 n v=some o26) (fun t25=>⟨106,Ad [(0,(ls AG p0)),(3,(i64 t8)),(4,(.ptr 0 0 0 0)),(12,(ls AG p0)),(13,(i64 (Sh.len p0))),(14,(i64 t8)),(54,(ls Ar c16.cons)),(55,(i64 (Sh.len c16.cons))),(56,(i64 t25))],[⟨0,98,3,[(AG c16)]⟩]⟩) N 0 h2 (AN U) (fun _ hv=>by rw[CY] at hv;cases hv) ?_)
     rintro n t25 h2
     try dsimp only at h2 ⊢
     rw[CY] at h2
     refine zr tb U U (AE fun K46 hK46=>?_)
     refine ci h2 U ?_ ?_ <;> clear h2
     ·intro b47 h2
      refine AI (hK46 _ (AE fun K48 hK48=>Aa (sr U fun K49 hK49=>bs h2 fun c50 gc50 h2=>zx IC gc50 U U U (zq tb U (Ap (m:=1) (st':=[⟨0,98,3,[(AG c16)]⟩,⟨0,134,1,[[.zc]]⟩]) Ah Kd U U (A3 (st':=[⟨0,98,3,[(AG c16)]⟩,⟨0,134,1,[(Ar c50)]⟩]) Ah Ix U U U U U U (show 0+1≤1 by decide) rfl (dn hK49 U (AE fun K51 hK51=>bs h2 fun o53 h3 h2=>?_))))))))
      have M53 :∀(t52:Bool),o53=t52→∀s,Wk 0 s ⟨106,Ad [(0,(ls AG p0)),(3,(i64 t8)),(4,(.ptr 0 0 0 0)),(12,(ls AG p0)),(13,(i64 (Sh.len p0))),(14,(i64 t8)),(54,(ls Ar c16.cons)),(55,(i64 (Sh.len c16.cons))),(56,(i64 t25)),(70,(.bool t52))],[⟨0,98,3,[(AG c16)]⟩]⟩→K51 s:=by
       intro t52 hq s hw
       subst o53
       try dsimp only at h2
       refine hK51 _ (AS hw ?_)
       refine ci h2 U ?_ ?_ <;> clear h2
       ·intro b54 h2
        refine zr tb U U ?_
        replace h2:=Sh.AA h2
        subst o26
        try dsimp only[id] at h1
        replace h1:=Sh.AA h1
        subst o9
        try dsimp only[id] at h0
        replace h0:=Sh.AA h0
        subst r
        exact AK (xr (Ai [(2,(.bool false))] U))
       ·intro b54 h2
        exact AI (hK48 _ (AJ U (zm tb 2 U (AB (xi (Sh.w (t25+1)) h2 (AN U))))))
      refine AJ U (zm tb 2 U (zl tb U U (zm tb 2 U ?_)))
      rcases Sh.As h3 with ⟨b56,h3⟩ | ⟨b56,h3⟩
      ·refine zs b56 U ?_
       iterate 4 refine zs b56 rfl ?_
       refine zt b56 U ?_
       exact AB (M53 true (Sh.AA h3).symm _ (AP (L:=[(0,(ls AG p0)),(3,(i64 t8)),(4,(.ptr 0 0 0 0)),(12,(ls AG p0)),(13,(i64 (Sh.len p0))),(14,(i64 t8)),(54,(ls Ar c16.cons)),(55,(i64 (Sh.len c16.cons))),(56,(i64 t25)),(70,(.bool true))]) (st':=[⟨0,98,3,[(AG c16)]⟩]) (st1:=[⟨0,98,3,[(AG c16)]⟩]) [0] U .nil (by decide) rfl U (.raw U U .nil) ⟨.rfl,.rfl,.rfl,.rfl,.rfl,.rfl,.rfl,.rfl,.rfl,.rfl,trivial⟩))
      ·refine zg tb b56 U (zg tb b56 U (zg tb b56 U (bs h3 fun q57 gq57 h3=>zd b56 Yp (Kc gq57) rfl U U U (zg tb b56 U (zf b56 U ?_)))))
       exact AB (M53 (!q57) (Sh.AA h3).symm _ (AP (L:=[(0,(ls AG p0)),(3,(i64 t8)),(4,(.ptr 0 0 0 0)),(12,(ls AG p0)),(13,(i64 (Sh.len p0))),(14,(i64 t8)),(54,(ls Ar c16.cons)),(55,(i64 (Sh.len c16.cons))),(56,(i64 t25)),(70,(.bool (!q57)))]) (st':=[⟨0,98,3,[(AG c16)]⟩]) (st1:=[⟨0,98,3,[(AG c16)]⟩]) [0] U .nil (by decide) rfl U (.raw U U .nil) ⟨.rfl,.rfl,.rfl,.rfl,.rfl,.rfl,.rfl,.rfl,.rfl,.rfl,trivial⟩))
     ·intro b47 h2
      exact Ay (M26 () (Sh.AA h2).symm _ (AN U))
   refine AJ U (zm tb 3 U (bs h2 fun q58 gq58 h2=>zc TR (Hw gq58) rfl U U (zm tb 2 U ?_)))
   rcases Sh.As h2 with ⟨b59,h2⟩ | ⟨b59,h2⟩
   ·refine zs b59 U ?_
    iterate 4 refine zs b59 rfl ?_
    refine zt b59 U (zq tb U ?_)
    iterate 4 refine zs rfl rfl ?_
    refine zt U U (zq tb U ?_)
    iterate 5 refine zs rfl rfl ?_
    iterate 8 refine zn rfl ?_
    exact zs U U (zt U U (AB (M20 true (Sh.AA h2).symm _ (AN U))))
   ·refine zg tb b59 U (zg tb b59 U (zg tb b59 U (bs h2 fun q60 gq60 h2=>zd b59 TR (Hw gq60) rfl U U U (zg tb b59 U (zf b59 U (zq tb U ?_))))))
    rcases Sh.As h2 with ⟨b61,h2⟩ | ⟨b61,h2⟩
    ·refine zs b61 U ?_
     iterate 3 refine zs b61 rfl ?_
     refine zt b61 U (zq tb U ?_)
     iterate 5 refine zs rfl rfl ?_
     iterate 8 refine zn rfl ?_
     exact zs U U (zt U U (AB (M20 true (Sh.AA h2).symm _ (AN U))))
    ·refine zg tb b61 U (zg tb b61 U (A7 (v:=(i64 (Sh.len c16.cons))) (Bb U U b61) rfl (Bo Nn U) (zg tb b61 U (zf b61 U (zq tb U ?_)))))
     rcases Sh.As h2 with ⟨b62,h2⟩ | ⟨b62,h2⟩
     ·refine zs b62 U ?_
      iterate 4 refine zs b62 rfl ?_
      iterate 8 refine zn rfl ?_
      exact zs b62 U (zt b62 U (AB (M20 true (Sh.AA h2).symm _ (AN U))))
     ·refine zg tb b62 U (zg tb b62 U (A7 (v:=(i64 (Sh.len c16.cons))) (Bb U U b62) rfl (Bo Nn U) (zg tb b62 U (zg tb b62 U ?_))))
      rcases Sh.As h2 with ⟨b63,h2⟩ | ⟨b63,h2⟩
      ·refine zg tb b63 U ?_
       iterate 3 refine zg tb b63 rfl ?_
       rcases Sh.As h2 with ⟨b64,h2⟩ | ⟨b64,h2⟩
       ·exact zs b64 U (zs b64 U (zs b64 U (A7 (v:=(.bool true)) (Bb U U b63) rfl (EK U b64 U) (A7 (v:=(.bool true)) (Bb U U b62) rfl (EK U b63 U) (zf b62 U (AB (M20 true (Sh.AA h2).symm _ (AN U))))))))
       ·exact zg tb b64 U (zg tb b64 U (zg tb b64 U (A7 (v:=(.bool (!decide (c16.to=0)))) (Bb U U b63) rfl (EI U b64 U) (A7 (v:=(.bool (!decide (c16.to=0)))) (Bb U U b62) rfl (EK U b63 U) (zf b62 U (AB (M20 (!decide (c16.to=0)) (Sh.AA h2).symm _ (AN U))))))))
      ·refine zs b63 U ?_
       iterate 3 refine zs b63 rfl ?_
       iterate 3 refine zn rfl ?_
       exact zs b63 U (A7 (v:=(.bool false)) (Bb U U b62) rfl (EI U b63 U) (zf b62 U (AB (M20 false (Sh.AA h2).symm _ (AN U)))))
  ·intro b13 h1
   exact Ay (M9 () (Sh.AA h1).symm _ (AN U))
theorem OF {N:Nat} {p0:(List Ag)} {p1:(List Ba)} {r:Bool} (h0:Gi N p0 p1=some r):Ae Tryz.prog 75 [(ls AG p0),(ls BE p1)] [] (fun v st=>v=(.bool r)∧st=[]):=by
 unfold Gi at h0
 refine ai Tryz.func75 U U U U (zr tb U U (AE fun K2 hK2=>AE fun K3 hK3=>bs h0 fun o5 h1 h0=>?_))
 have M5 :∀(t4:Bool),o5=t4→∀s,Wk 0 s ⟨102,Ad [(0,(ls AG p0)),(1,(ls BE p1)),(36,(.bool t4))],[]⟩→K3 s:=by
  intro t4 hq s hw
  subst o5
  try dsimp only at h0
  refine hK3 _ (AS hw ?_)
  refine ci h0 U ?_ ?_ <;> clear h0
  ·intro b6 h0
   refine zr tb U U ?_
   replace h0:=Sh.AA h0
   subst r
   exact AK (xr (AF (L:=[(4,(.bool false))]) ⟨.rfl,trivial⟩))
  ·intro b6 h0
   refine AI (hK2 _ (AE fun K8 hK8=>sr U fun K9 hK9=>zq tb U (zl tb U U (zq tb U (dn hK9 U ?_)))))
   obtain⟨o11,h1,h0⟩:=Sh.A8 h0
   have M11 :∀(_:Unit),o11=Sum.inr ()→∀s,Wk 0 s ⟨102,Ad [],[]⟩→K8 s:=by
    intro _ hq s hw
    subst o11
    try dsimp only at h0
    refine hK8 _ (AS hw (zr tb U U ?_))
    replace h0:=Sh.AA h0
    subst r
    exact AK (xr (AF (L:=[(4,(.bool true))]) ⟨.rfl,trivial⟩))
   refine Aa (Au (σ:=Int) (fun n v=>Cr N p0 p1 n v=some o11) (fun t10=>⟨102,Ad [(0,(ls AG p0)),(37,(ls BE p1)),(38,(i64 (Sh.len p1))),(39,(i64 t10))],[]⟩) N 0 h1 (AN U) (fun _ hv=>by rw[Cr] at hv;cases hv) ?_)
   rintro n t10 h1
   try dsimp only at h1 ⊢
   rw[Cr] at h1
   refine zr tb U U (AE fun K14 hK14=>?_)
   refine ci h1 U ?_ ?_ <;> clear h1
   ·intro b15 h1
    refine AI (hK14 _ (AE fun K16 hK16=>Aa (sr U fun K17 hK17=>bs h1 fun c18 gc18 h1=>zx QZ gc18 U U U (zq tb U (Ap (m:=0) (st':=[⟨0,102,3,[[.zc,.zc,(i64 0)]]⟩]) Ah X7 U U (A3 (st':=[⟨0,102,3,[[(ls eI c18.params),(ls eI c18.At),(i64 c18.result)]]⟩]) Ah al U U U U U U (show 0+3≤3 by decide) rfl (dn hK17 U (AE fun K19 hK19=>AE fun K20 hK20=>?_))))))))
    refine bs h1 fun o22 h2 h1=>?_
    have M22 :∀(t21:Bool),o22=t21→∀s,Wk 0 s ⟨102,Ad [(0,(ls AG p0)),(6,(.ptr 0 0 0 0)),(37,(ls BE p1)),(38,(i64 (Sh.len p1))),(39,(i64 t10)),(60,(.bool t21))],[⟨0,102,3,[[(ls eI c18.params),(ls eI c18.At),(i64 c18.result)]]⟩]⟩→K20 s:=by
     intro t21 hq s hw
     subst o22
     try dsimp only at h1
     refine hK20 _ (AS hw ?_)
     refine ci h1 U ?_ ?_ <;> clear h1
     ·intro b23 h1
      refine zr tb U U ?_
      replace h1:=Sh.AA h1
      subst o11
      try dsimp only[id] at h0
      replace h0:=Sh.AA h0
      subst r
      exact AK (xr (Ai [(4,(.bool false))] U))
     ·intro b23 h1
      refine AI (hK19 _ (sr U fun K25 hK25=>zm tb 2 U (zl tb U U (zq tb U (dn hK25 U ?_)))))
      obtain⟨o27,h2,h1⟩:=Sh.A8 h1
      have M27 :∀(_:Unit),o27=Sum.inr ()→∀s,Wk 0 s ⟨102,Ad [(0,(ls AG p0)),(37,(ls BE p1)),(38,(i64 (Sh.len p1))),(39,(i64 t10))],[]⟩→K16 s:=by
       intro _ hq s hw
       subst o27
       try dsimp only at h1
       exact hK16 _ (AS hw (AJ U (zm tb 2 U (AB (xi (Sh.w (t10+1)) h1 (AN U))))))
      refine Aa (Au (σ:=Int) (fun n v=>Cq c18 n v=some o27) (fun t26=>⟨102,Ad [(0,(ls AG p0)),(6,(.ptr 0 0 0 0)),(37,(ls BE p1)),(38,(i64 (Sh.len p1))),(39,(i64 t10)),(62,(ls eI c18.At)),(63,(i64 (Sh.len c18.At))),(64,(i64 t26))],[⟨0,102,3,[[(ls eI c18.params),(ls eI c18.At),(i64 c18.result)]]⟩]⟩) N 0 h2 (AN U) (fun _ hv=>by rw[Cq] at hv;cases hv) ?_)
      rintro n t26 h2
      try dsimp only at h2 ⊢
      rw[Cq] at h2
      refine zr tb U U (AE fun K29 hK29=>?_)
      refine ci h2 U ?_ ?_ <;> clear h2
      ·intro b30 h2
       refine AI (hK29 _ (AE fun K31 hK31=>Aa (sr U fun K32 hK32=>zq tb U (bs h2 fun c33 gc33 h2=>zx BN gc33 U U U (zm tb 3 U (dn hK32 U (AE fun K34 hK34=>bs h2 fun o36 h3 h2=>?_)))))))
       have M36 :∀(t35:Bool),o36=t35→∀s,Wk 0 s ⟨102,Ad [(0,(ls AG p0)),(6,(.ptr 0 0 0 0)),(37,(ls BE p1)),(38,(i64 (Sh.len p1))),(39,(i64 t10)),(62,(ls eI c18.At)),(63,(i64 (Sh.len c18.At))),(64,(i64 t26)),(99,(.bool t35))],[⟨0,102,3,[[(ls eI c18.params),(ls eI c18.At),(i64 c18.result)]]⟩]⟩→K34 s:=by
        intro t35 hq s hw
        subst o36
        try dsimp only at h2
        refine hK34 _ (AS hw ?_)
        refine ci h2 U ?_ ?_ <;> clear h2
        ·intro b37 h2
         refine zr tb U U ?_
         replace h2:=Sh.AA h2
         subst o27
         try dsimp only[id] at h1
         replace h1:=Sh.AA h1
         subst o11
         try dsimp only[id] at h0
         replace h0:=Sh.AA h0
         subst r
         exact AK (xr (Ai [(4,(.bool false))] U))
        ·intro b37 h2
         exact AI (hK31 _ (AJ U (zm tb 2 U (AB (xi (Sh.w (t26+1)) h2 (AN U))))))
       refine AJ U (zm tb 3 U ?_)
       rcases Sh.As h3 with ⟨b39,h3⟩ | ⟨b39,h3⟩
       ·refine zs b39 U ?_
        iterate 4 refine zs b39 rfl ?_
        refine zt b39 U (zq tb U ?_)
        iterate 6 refine zs rfl rfl ?_
        refine zt U U (zq tb U ?_)
        iterate 3 refine zs rfl rfl ?_
        iterate 8 refine zn rfl ?_
        exact zs U U (zt U U (AB (M36 true (Sh.AA h3).symm _ (AN U))))
       ·refine zg tb b39 U (zg tb b39 U (zg tb b39 U (A7 (v:=(i64 (Sh.len c18.params))) (Bb U U b39) rfl (Bo Ga U) (zg tb b39 U (zf b39 U (zq tb U ?_))))))
        rcases Sh.As h3 with ⟨b40,h3⟩ | ⟨b40,h3⟩
        ·refine zs b40 U ?_
         iterate 5 refine zs b40 rfl ?_
         refine zt b40 U (zq tb U ?_)
         iterate 3 refine zs rfl rfl ?_
         iterate 8 refine zn rfl ?_
         exact zs U U (zt U U (AB (M36 true (Sh.AA h3).symm _ (AN U))))
        ·refine zg tb b40 U (zg tb b40 U (zg tb b40 U (bs h3 fun c41 gc41 h3=>A7 (v:=(.BF (eI c41) 0)) (Bb U U b40) rfl (CL BN U U gc41 U) (zg tb b40 U (zg tb b40 U (zf b40 U (zq tb U ?_)))))))
         rcases Sh.As h3 with ⟨b42,h3⟩ | ⟨b42,h3⟩
         ·refine zs b42 U (zs b42 U (zs b42 U ?_))
          iterate 8 refine zn rfl ?_
          exact zs b42 U (zt b42 U (AB (M36 true (Sh.AA h3).symm _ (AN U))))
         ·refine zg tb b42 U (zg tb b42 U (zg tb b42 U ?_))
          rcases Sh.As h3 with ⟨b43,h3⟩ | ⟨b43,h3⟩
          ·refine zg tb b43 U ?_
           iterate 4 refine zg tb b43 rfl ?_
           exact bs h3 fun c44 gc44 h3=>A7 (v:=(.BF (eI c44) 0)) (Bb U U b43) rfl (CL BN U U gc44 U) (zg tb b43 U (zg tb b43 U (A7 (v:=(.bool (decide (c33≤c44)))) (Bb U U b42) rfl (EK U b43 U) (zf b42 U (AB (M36 (decide (c33≤c44)) (Sh.AA h3).symm _ (AN U)))))))
          ·refine zs b43 U ?_
           iterate 7 refine zs b43 rfl ?_
           exact A7 (v:=(.bool false)) (Bb U U b42) rfl (EI U b43 U) (zf b42 U (AB (M36 false (Sh.AA h3).symm _ (AN U))))
      ·intro b30 h2
       exact Ay (M27 () (Sh.AA h2).symm _ (Ai _ U))
    refine AJ U (zm tb 2 U (zl tb U U (zm tb 2 U ?_)))
    rcases Sh.As h2 with ⟨b45,h2⟩ | ⟨b45,h2⟩
    ·refine zs b45 U ?_
     iterate 4 refine zs b45 rfl ?_
     refine zt b45 U (zq tb U ?_)
     iterate 5 refine zs rfl rfl ?_
     exact zt U U (AB (M22 true (Sh.AA h2).symm _ (AN U)))
    ·refine zg tb b45 U (zg tb b45 U (zg tb b45 U (bs h2 fun q46 gq46 h2=>zd b45 Yp (Kc gq46) rfl U U U (zg tb b45 U (zf b45 U (zq tb U ?_))))))
     rcases Sh.As h2 with ⟨b47,h2⟩ | ⟨b47,h2⟩
     ·refine zs b47 U ?_
      iterate 4 refine zs b47 rfl ?_
      exact zt b47 U (AB (M22 true (Sh.AA h2).symm _ (AN U)))
     ·exact zg tb b47 U (zg tb b47 U (zg tb b47 U (bs h2 fun q48 gq48 h2=>zd b47 TR (Hw gq48) rfl U U U (zg tb b47 U (zf b47 U (AB (M22 (!q48) (Sh.AA h2).symm _ (AN U))))))))
   ·intro b15 h1
    exact Ay (M11 () (Sh.AA h1).symm _ (AN U))
 refine AJ U (zq tb U (bs h1 fun q49 gq49 h1=>zc bf (Nj gq49) rfl U U (zm tb 2 U ?_)))
 rcases Sh.As h1 with ⟨b50,h1⟩ | ⟨b50,h1⟩
 ·refine zs b50 U (zs b50 U (zs b50 U (zt b50 U (zq tb U ?_))))
  iterate 3 refine zs rfl rfl ?_
  refine zt U U (zq tb U ?_)
  iterate 6 refine zs rfl rfl ?_
  refine zt U U (zq tb U ?_)
  iterate 5 refine zs rfl rfl ?_
  exact zt U U (AB (M5 true (Sh.AA h1).symm _ (AN U)))
 ·refine zg tb b50 U (A7 (v:=(i64 (Sh.len p1))) (Bb U U b50) rfl (Bo WQ U) (zg tb b50 U (zf b50 U (zq tb U ?_))))
  rcases Sh.As h1 with ⟨b51,h1⟩ | ⟨b51,h1⟩
  ·refine zs b51 U (zs b51 U (zs b51 U (zt b51 U (zq tb U ?_))))
   iterate 6 refine zs rfl rfl ?_
   refine zt U U (zq tb U ?_)
   iterate 5 refine zs rfl rfl ?_
   exact zt U U (AB (M5 true (Sh.AA h1).symm _ (AN U)))
  ·refine zg tb b51 U (A7 (v:=(i64 (Sh.len p1))) (Bb U U b51) rfl (Bo WQ U) (zg tb b51 U (zf b51 U (zq tb U ?_))))
   rcases Sh.As h1 with ⟨b52,h1⟩ | ⟨b52,h1⟩
   ·refine zs b52 U ?_
    iterate 5 refine zs b52 rfl ?_
    refine zt b52 U (zq tb U ?_)
    iterate 5 refine zs rfl rfl ?_
    exact zt U U (AB (M5 true (Sh.AA h1).symm _ (AN U)))
   ·refine zg tb b52 U (bs h1 fun c53 gc53 h1=>A7 (v:=(.BF (BE c53) 0)) (Bb U U b52) rfl (CL QZ U U gc53 U) (zg tb b52 U (zg tb b52 U (A7 (v:=(i64 (Sh.len c53.params))) (Bb U U b52) rfl (Bo Ga U) (zg tb b52 U (zf b52 U (zq tb U ?_)))))))
    rcases Sh.As h1 with ⟨b54,h1⟩ | ⟨b54,h1⟩
    ·refine zs b54 U ?_
     iterate 4 refine zs b54 rfl ?_
     exact zt b54 U (AB (M5 true (Sh.AA h1).symm _ (AN U)))
    ·refine zg tb b54 U (A7 (v:=(.BF (BE c53) 0)) (Bb U U b54) rfl (CL QZ U U gc53 U) ?_)
     iterate 3 refine zg tb b54 rfl ?_
     exact zf b54 U (AB (M5 (!decide (c53.result=0)) (Sh.AA h1).symm _ (AN U)))
noncomputable abbrev LH (p0:Aj):Go.Abs.Row:=⟨0,30,2,[[(ls AG p0.decls),(ls AT p0.AD)]]⟩
theorem NX {N:Nat} {p0:Aj} {r:A1×Bool} (h0:Fx N p0=some r):Ae Tryz.prog 34 [(.agg [(ls AG p0.decls),(ls AT p0.AD)])] [] (fun v st=>v=(.BZ [(.agg (AL r.1)),(.bool r.2)])∧st=[]):=by
 unfold Fx at h0
 refine El U (ai Tryz.func34 U U U U (sr U fun K1 hK1=>BI (m:=0) (st':=[(LH p0)]) Ah U U U U U (Ap (m:=1) (st':=[(LH p0),⟨0,49,2,[[.zc,.zc]]⟩]) Ah Uf U U (zq tb U (dn hK1 U (AE fun K2 hK2=>sr U fun K3 hK3=>zm tb 2 U (zl tb U U (zq tb U ?_))))))))
 refine dn hK3 U ?_
 refine ci h0 U ?_ ?_ <;> clear h0
 ·intro b4 h0
  refine sr U fun K5 hK5=>zz (.agg [.zc,.zc]) (GV aA aV Uf U U) rfl (A3 (st':=[(LH p0),⟨0,49,2,[[.zc,.zc]]⟩]) Ah S4 U U U U U U (show 0+2≤2 by decide) rfl (zq tb U (dn hK5 U ?_)))
  replace h0:=Sh.AA h0
  subst r
  exact AK (Exists.intro _ (And.intro ((((HE (id:=1) (cs:=[.zc,.zc]) (cs':=[(.sl (List.map AG [])),.zc]) (st':=[(LH p0),⟨0,49,2,[[(.sl (List.map AG [])),.zc]]⟩]) rfl ⟨le.zc,le.rfl,trivial⟩ U U).trans (HE (id:=1) (cs:=[(.sl (List.map AG [])),.zc]) (cs':=[(.sl (List.map AG [])),(.sl (List.map BE []))]) (st':=[(LH p0),⟨0,49,2,[[(.sl (List.map AG [])),(.sl (List.map BE []))]]⟩]) rfl ⟨le.rfl,le.zc,trivial⟩ U U)).trans (AP (L:=[(2,(.ptr 0 0 0 0)),(3,(.bool false))]) (st':=[⟨0,49,2,[[(.sl (List.map AG [])),(.sl (List.map BE []))]]⟩]) (st1:=[⟨0,49,2,[[(.sl (List.map AG [])),(.sl (List.map BE []))]]⟩]) [1] U .nil (by decide) rfl U (.raw U U .nil) ⟨.rfl,.rfl,trivial⟩)).trans (AF (L:=[(2,(.ptr 0 0 0 0)),(3,(.bool false))]) ⟨.rfl,.rfl,trivial⟩)) (Cb (x:=.tmp 2) (off:=0) (cs:=[(.sl (List.map AG [])),(.sl (List.map BE []))]) (vs:=[(.sl (List.map AG [])),(.sl (List.map BE []))]) S4 U U U (show 0+2≤2 by decide) rfl _ U)))
 ·intro b4 h0
  refine AI (hK2 _ (sr U fun K6 hK6=>zm tb 2 U (zz (.agg [(ls AG p0.decls),.zc]) (GV aA aV Uf U U) rfl (Ap (m:=2) (st':=[(LH p0),⟨0,49,2,[[.zc,.zc]]⟩,⟨0,49,2,[[.zc,.zc]]⟩]) Ah Uf U U (A3 (st':=[(LH p0),⟨0,49,2,[[.zc,.zc]]⟩,⟨0,49,2,[[(ls AG p0.decls),.zc]]⟩]) Ah S4 U U U U U U (show 0+2≤2 by decide) rfl (dn hK6 U (AE fun K7 hK7=>sr U fun K8 hK8=>zm tb 2 U (zl tb U U (zq tb U ?_)))))))))
  refine dn hK8 U (bs h0 fun o12 h1 h0=>?_)
  have M12 :∀(l11:(List Ba)),o12=l11→∀s,Wk 0 s ⟨41,Ad [(1,(.ptr 0 0 0 0)),(2,(.ptr 1 0 0 0)),(4,(.ptr 2 0 0 0))],[(LH p0),⟨0,49,2,[[.zc,.zc]]⟩,⟨0,49,2,[[(ls AG p0.decls),(ow 3 0 l11)]]⟩,(ro 0 102 3 BE l11)]⟩→K7 s:=by
   intro l11 hq s hw
   subst o12
   try dsimp only at h0
   refine hK7 _ (AS hw (AE fun K13 hK13=>?_))
   refine CJ 6 (by kernel_rfl) (by kernel_rfl) (by rfl) ?_
   iterate 5 refine yq tb rfl ?_
   refine bs h0 fun q14 gq14 h0=>SH (v':=(.bool q14)) Ah dg (OF gq14) rfl (.val U (.own U U (fun _=>U) .nil)) rfl U (BS (Az (Wk.E5 (L:=[(2,(.ptr 1 0 0 0)),(35,(.agg [(ls AG p0.decls),(ls BE l11)])),(40,(.bool q14))]) (st':=[(LH p0),⟨0,49,2,[[.zc,.zc]]⟩,⟨0,49,2,[[(ls AG p0.decls),(ow 3 0 l11)]]⟩,⟨1,102,3,[]⟩]) (id:=3) rfl (show 0≤3 by decide) (Ak fun _=>U) ⟨.rfl,(.agg ⟨.rfl,(.IA U),trivial⟩),.rfl,trivial⟩ U) (A3 (st':=[(LH p0),⟨0,49,2,[[(ls AG p0.decls),(ls BE l11)]]⟩,⟨0,49,2,[[(ls AG p0.decls),(ow 3 0 l11)]]⟩,⟨1,102,3,[]⟩]) Ah S4 U U U U U U (show 0+2≤2 by decide) rfl (zq tb U (dn hK13 U ?_)))))
   replace h0:=Sh.AA h0
   subst r
   exact AK (Exists.intro _ (And.intro ((AP (L:=[(2,(.ptr 0 0 0 0)),(3,(.bool q14))]) (st':=[⟨0,49,2,[[(ls AG p0.decls),(ls BE l11)]]⟩]) (st1:=[⟨0,49,2,[[(ls AG p0.decls),(ls BE l11)]]⟩]) [1] U .nil (by decide) rfl U (.raw U U .nil) ⟨.rfl,.rfl,trivial⟩).trans (AF (L:=[(2,(.ptr 0 0 0 0)),(3,(.bool q14))]) ⟨.rfl,.rfl,trivial⟩)) (Cb (x:=.tmp 2) (off:=0) (cs:=[(ls AG p0.decls),(ls BE l11)]) (vs:=[(ls AG p0.decls),(ls BE l11)]) S4 U U U (show 0+2≤2 by decide) rfl _ U)))
  refine Aa (Au (σ:=Int×(List Ba)) (fun n v=>CC p0 n v.1 v.2=some o12) (fun (t9,l10)=>⟨41,Ad [(1,(.ptr 0 0 0 0)),(2,(.ptr 1 0 0 0)),(4,(.ptr 2 0 0 0)),(16,(ls AT p0.AD)),(17,(i64 (Sh.len p0.AD))),(18,(i64 t9))],[(LH p0),⟨0,49,2,[[.zc,.zc]]⟩,⟨0,49,2,[[(ls AG p0.decls),(ow 3 0 l10)]]⟩,(ro 0 102 3 BE l10)]⟩) N (0,[]) h1 (by refine Wk.trans (IK (id:=2) (st':=[(LH p0),⟨0,49,2,[[.zc,.zc]]⟩,⟨0,49,2,[[(ls AG p0.decls),(.own 3 0 (List.length ([]:List Ba)))]]⟩,(ro 0 102 3 BE ([]:List Ba))]) (j:=1) rfl U 102 (size':=3) (by decide) rfl U U U) ?_;exact AN U) (fun _ hv=>by rw[CC] at hv;cases hv) ?_)
  rintro n ⟨t9,l10⟩ h1
  try dsimp only at h1 ⊢
  rw[CC] at h1
  refine zr tb U U (AE fun K16 hK16=>?_)
  refine ci h1 U ?_ ?_ <;> clear h1
  ·intro b17 h1
   refine AI (hK16 _ (AE fun K18 hK18=>Aa (sr U fun K19 hK19=>bs h1 fun c20 gc20 h1=>zx E7 gc20 U U U (zq tb U (Ap (m:=4) (st':=[(LH p0),⟨0,49,2,[[.zc,.zc]]⟩,⟨0,49,2,[[(ls AG p0.decls),(ow 3 0 l10)]]⟩,(ro 0 102 3 BE l10),⟨0,57,5,[[.zc,.zc,(i64 0),.zc,(i64 0)]]⟩]) Ah Lt U U (A3 (st':=[(LH p0),⟨0,49,2,[[.zc,.zc]]⟩,⟨0,49,2,[[(ls AG p0.decls),(ow 3 0 l10)]]⟩,(ro 0 102 3 BE l10),⟨0,57,5,[[(ls eI c20.params),(ls eI c20.At),(i64 c20.result),(ls Al c20.body.steps),(i64 c20.body.result)]]⟩]) Ah NJ U U U U U U (show 0+5≤5 by decide) rfl (dn hK19 U (AJ U (zm tb 8 U ?_)))))))))
   refine zz (.agg [(ls eI c20.params),(ls eI c20.At),(i64 c20.result)]) (GV cP bL X7 U U) rfl ?_
   refine DV (m:=5) (st':=[(LH p0),⟨0,49,2,[[.zc,.zc]]⟩,⟨0,49,2,[[(ls AG p0.decls),(ow 3 0 l10)]]⟩,(ro 0 102 3 BE l10),⟨0,57,5,[[(ls eI c20.params),(ls eI c20.At),(i64 c20.result),(ls Al c20.body.steps),(i64 c20.body.result)]]⟩,(ro 0 102 3 BE [(Ba.mk c20.params c20.At c20.result)])]) (l:=[(Ba.mk c20.params c20.At c20.result)]) (enc:=BE) Ah QZ (by decide) rfl U U U U U ?_
   refine bs h1 fun l21 gl21 h1=>Eg (st':=[(LH p0),⟨0,49,2,[[.zc,.zc]]⟩,⟨0,49,2,[[(ls AG p0.decls),(ow 3 0 l10)]]⟩,(ro 1 102 3 BE l21),⟨0,57,5,[[(ls eI c20.params),(ls eI c20.At),(i64 c20.result),(ls Al c20.body.steps),(i64 c20.body.result)]]⟩,(ro 0 102 3 BE [(Ba.mk c20.params c20.At c20.result)])]) (l2:=[(Ba.mk c20.params c20.At c20.result)]) Ah QZ U U U U (N0 U U) (fun _=>U) gl21 U (zq tb U (A3 (st':=[(LH p0),⟨0,49,2,[[.zc,.zc]]⟩,⟨0,49,2,[[(ls AG p0.decls),(ow 3 1 l21)]]⟩,(ro 1 102 3 BE l21),⟨0,57,5,[[(ls eI c20.params),(ls eI c20.At),(i64 c20.result),(ls Al c20.body.steps),(i64 c20.body.result)]]⟩,(ro 0 102 3 BE [(Ba.mk c20.params c20.At c20.result)])]) Ah dL U U U U U U (show 1+1≤2 by decide) rfl (dn hK18 U (AJ U (zm tb 2 U ?_)))))
   exact AB (xi (Sh.w (t9+1),l21) h1 (by refine Wk.trans (Cz (L:=[(1,(.ptr 0 0 0 0)),(2,(.ptr 1 0 0 0)),(4,(.ptr 2 0 0 0)),(16,(ls AT p0.AD)),(17,(i64 (Sh.len p0.AD))),(18,(i64 (Sh.w (t9+1))))]) (st':=[(LH p0),⟨0,49,2,[[.zc,.zc]]⟩,⟨0,49,2,[[(ls AG p0.decls),(ow 3 0 l21)]]⟩,(ro 0 102 3 BE l21),⟨0,57,5,[[(ls eI c20.params),(ls eI c20.At),(i64 c20.result),(ls Al c20.body.steps),(i64 c20.body.result)]]⟩,(ro 0 102 3 BE [(Ba.mk c20.params c20.At c20.result)])]) (.raw U U (.raw U U (.raw U U (.pure (Ak fun _=>U) (.raw U U (.pure (Ak fun _=>U) .nil)))))) ⟨.rfl,.rfl,.rfl,.rfl,.rfl,.rfl,trivial⟩) ?_;exact AP (L:=[(1,(.ptr 0 0 0 0)),(2,(.ptr 1 0 0 0)),(4,(.ptr 2 0 0 0)),(16,(ls AT p0.AD)),(17,(i64 (Sh.len p0.AD))),(18,(i64 (Sh.w (t9+1))))]) (st':=[(LH p0),⟨0,49,2,[[.zc,.zc]]⟩,⟨0,49,2,[[(ls AG p0.decls),(ow 3 0 l21)]]⟩,(ro 0 102 3 BE l21)]) (st1:=[(LH p0),⟨0,49,2,[[.zc,.zc]]⟩,⟨0,49,2,[[(ls AG p0.decls),(ow 3 0 l21)]]⟩,(ro 0 102 3 BE l21)]) [0,1,2,3] U .nil (by decide) rfl U (.raw U U (.raw U U (.raw U U (.pure (Ak fun _=>U) .nil)))) ⟨.rfl,.rfl,.rfl,.rfl,.rfl,.rfl,trivial⟩))
  ·intro b17 h1
   exact Ay (M12 l10 (Sh.AA h1).symm _ (AN U))
theorem MK {N:Nat} {rec_impl_countSteps:Int→Block→Option (Bool×Int)} (hrec_impl_countSteps :∀{s0_0:Int} {p0:Block} {r:Bool×Int},rec_impl_countSteps s0_0 p0=some r→Ae Tryz.prog 140 [(.agg [(ls Al p0.steps),(i64 p0.result)]),(.ptr 0 0 0 0)] [⟨0,3,1,[[(i64 s0_0)]]⟩] (fun v st=>v=(.bool r.1)∧st=[⟨0,3,1,[[(i64 r.2)]]⟩])) {s0_0:Int} {p0:Block} {r:Bool×Int} (h0:GR N rec_impl_countSteps s0_0 p0=some r):Ae Tryz.prog 140 [(.agg [(ls Al p0.steps),(i64 p0.result)]),(.ptr 0 0 0 0)] [⟨0,3,1,[[(i64 s0_0)]]⟩] (fun v st=>v=(.bool r.1)∧st=[⟨0,3,1,[[(i64 r.2)]]⟩]):=by
 unfold GR at h0
 refine ai Tryz.func140 U U U U (sr U fun K1 hK1=>BI (m:=1) (st':=[⟨0,3,1,[[(i64 s0_0)]]⟩,⟨0,55,2,[[(ls Al p0.steps),(i64 p0.result)]]⟩]) Ah U U U U U (zq tb U (dn hK1 U (AE fun K2 hK2=>sr U fun K3 hK3=>zm tb 2 U (zl tb U U (zq tb U (dn hK3 U ?_)))))))
 obtain⟨o7,h1,h0⟩:=Sh.A8 h0
 have M7 :∀(f6:Int),o7=Sum.inr f6→∀s,Wk 1 s ⟨38,Ad [],[⟨0,3,1,[[(i64 f6)]]⟩]⟩→K2 s:=by
  intro f6 hq s hw
  subst o7
  try dsimp only at h0
  refine hK2 _ (AS hw (zr tb U U ?_))
  replace h0:=Sh.AA h0
  subst r
  exact AK (xr (AF (L:=[(4,(.bool true))]) ⟨.rfl,trivial⟩))
 refine Aa (Au (σ:=Int×Int) (fun n v=>B7 N p0 rec_impl_countSteps n v.1 v.2=some o7) (fun (t4,f5)=>⟨38,Ad [(1,(.ptr 0 0 0 0)),(10,(ls Al p0.steps)),(11,(i64 (Sh.len p0.steps))),(12,(i64 t4))],[⟨0,3,1,[[(i64 f5)]]⟩]⟩) N (0,s0_0) h1 (AP (L:=[(1,(.ptr 0 0 0 0)),(10,(ls Al p0.steps)),(11,(i64 (Sh.len p0.steps))),(12,(i64 0))]) (st':=[⟨0,3,1,[[(i64 s0_0)]]⟩]) (st1:=[⟨0,3,1,[[(i64 s0_0)]]⟩]) [0] U (.raw U U .nil) (by decide) rfl U (.raw U U .nil) ⟨.rfl,.rfl,.rfl,.rfl,trivial⟩) (fun _ hv=>by rw[B7] at hv;cases hv) ?_)
 rintro n ⟨t4,f5⟩ h1
 try dsimp only at h1 ⊢
 rw[B7] at h1
 refine zr tb U U (AE fun K10 hK10=>?_)
 refine ci h1 U ?_ ?_ <;> clear h1
 ·intro b11 h1
  refine AI (hK10 _ (AE fun K12 hK12=>Aa (sr U fun K13 hK13=>bs h1 fun c14 gc14 h1=>zz (.BF [(i64 c14.op),(i64 c14.num),(i64 c14.Ax),(ls eI c14.args),(ls A2 c14.kids)] 0) (Di FD U U gc14 (Bw _) rfl) rfl (zq tb U (Ap (m:=1) (st':=[⟨0,3,1,[[(i64 f5)]]⟩,⟨0,71,5,[[(i64 0),(i64 0),(i64 0),.zc,.zc]]⟩]) Ah Np U U (A3 (st':=[⟨0,3,1,[[(i64 f5)]]⟩,⟨0,71,5,[[(i64 c14.op),(i64 c14.num),(i64 c14.Ax),(ls eI c14.args),(ls A2 c14.kids)]]⟩]) Ah KZ U U U U U U (show 0+5≤5 by decide) rfl (dn hK13 U (AE fun K15 hK15=>sr U fun K16 hK16=>?_))))))))
  refine zm tb 5 U (A3 (st':=[⟨0,3,1,[[(i64 (Sh.w (f5+1)))]]⟩,⟨0,71,5,[[(i64 c14.op),(i64 c14.num),(i64 c14.Ax),(ls eI c14.args),(ls A2 c14.kids)]]⟩]) Ah HN U U U U U U (show 0+1≤1 by decide) rfl (dn hK16 U (zr tb U U ?_)))
  refine ci h1 U ?_ ?_ <;> clear h1
  ·intro b18 h1
   refine zr tb U U ?_
   replace h1:=Sh.AA h1
   subst o7
   try dsimp only[id] at h0
   replace h0:=Sh.AA h0
   subst r
   exact AK (xr (AP (L:=[(4,(.bool false))]) (st':=[⟨0,3,1,[[(i64 (Sh.w (f5+1)))]]⟩]) (st1:=[⟨0,3,1,[[(i64 (Sh.w (f5+1)))]]⟩]) [0] U (.raw U U .nil) (by decide) rfl U (.raw U U .nil) ⟨.rfl,trivial⟩))
  ·intro b18 h1
   refine AI (hK15 _ (sr U fun K20 hK20=>zm tb 2 U (zl tb U U (zq tb U (dn hK20 U ?_)))))
   obtain⟨o24,h2,h1⟩:=Sh.A8 h1
   have M24 :∀(f23:Int),o24=Sum.inr f23→∀s,Wk 1 s ⟨38,Ad [(1,(.ptr 0 0 0 0)),(10,(ls Al p0.steps)),(11,(i64 (Sh.len p0.steps))),(12,(i64 t4))],[⟨0,3,1,[[(i64 f23)]]⟩]⟩→K12 s:=by
    intro f23 hq s hw
    subst o24
    try dsimp only at h1
    exact hK12 _ (AS hw (AJ U (zm tb 2 U (AB (xi (Sh.w (t4+1),f23) h1 (AN U))))))
   refine Aa (Au (σ:=Int×Int) (fun n v=>B3 c14 rec_impl_countSteps n v.1 v.2=some o24) (fun (t21,f22)=>⟨38,Ad [(1,(.ptr 0 0 0 0)),(10,(ls Al p0.steps)),(11,(i64 (Sh.len p0.steps))),(12,(i64 t4)),(26,(ls A2 c14.kids)),(27,(i64 (Sh.len c14.kids))),(28,(i64 t21))],[⟨0,3,1,[[(i64 f22)]]⟩]⟩) N (0,Sh.w (f5+1)) h2 (AP (L:=[(1,(.ptr 0 0 0 0)),(10,(ls Al p0.steps)),(11,(i64 (Sh.len p0.steps))),(12,(i64 t4)),(26,(ls A2 c14.kids)),(27,(i64 (Sh.len c14.kids))),(28,(i64 0))]) (st':=[⟨0,3,1,[[(i64 (Sh.w (f5+1)))]]⟩]) (st1:=[⟨0,3,1,[[(i64 (Sh.w (f5+1)))]]⟩]) [0] U (.raw U U .nil) (by decide) rfl U (.raw U U .nil) ⟨.rfl,.rfl,.rfl,.rfl,.rfl,.rfl,.rfl,trivial⟩) (fun _ hv=>by rw[B3] at hv;cases hv) ?_)
   rintro n ⟨t21,f22⟩ h2
   try dsimp only at h2 ⊢
   rw[B3] at h2
   refine zr tb U U (AE fun K26 hK26=>?_)
   refine ci h2 U ?_ ?_ <;> clear h2
   ·intro b27 h2
    refine AI (hK26 _ (AE fun K28 hK28=>Aa (sr U fun K29 hK29=>bs h2 fun c30 gc30 h2=>zx Hi gc30 U U U (zq tb U (Ap (m:=1) (st':=[⟨0,3,1,[[(i64 f22)]]⟩,⟨0,55,2,[[.zc,(i64 0)]]⟩]) Ah Kv U U (A3 (st':=[⟨0,3,1,[[(i64 f22)]]⟩,⟨0,55,2,[[(ls Al c30.steps),(i64 c30.result)]]⟩]) Ah JV U U U U U U (show 0+2≤2 by decide) rfl (dn hK29 U (sr U fun K31 hK31=>zm tb 2 U ?_))))))))
    refine bs h2 fun q32 gq32 h2=>?_
    refine LN (rowsP:=[⟨0,3,1,[[(i64 f22)]]⟩]) (rows0:=[⟨0,3,1,[[(i64 f22)]]⟩]) (rows1:=[⟨0,3,1,[[(i64 q32.2)]]⟩]) (rows2:=[]) (rows1':=[⟨0,3,1,[[(i64 q32.2)]]⟩]) (rows2':=[]) (st':=[⟨0,3,1,[[(i64 q32.2)]]⟩,⟨0,55,2,[[(ls Al c30.steps),(i64 c30.result)]]⟩]) (v':=(.bool q32.1)) [0] Ah X6 (hrec_impl_countSteps gq32) rfl (by decide) rfl U (.raw U U .nil) rfl U (.raw U U .nil) .nil U U ?_
    refine zq tb U (dn hK31 U ?_)
    refine ci h2 U ?_ ?_ <;> clear h2
    ·intro b33 h2
     have b34:q32.1=false:=by simpa using b33
     refine zr tb U U ?_
     replace h2:=Sh.AA h2
     subst o24
     try dsimp only[id] at h1
     replace h1:=Sh.AA h1
     subst o7
     try dsimp only[id] at h0
     replace h0:=Sh.AA h0
     subst r
     exact AK (xr (AP (L:=[(4,(.bool false))]) (st':=[⟨0,3,1,[[(i64 q32.2)]]⟩]) (st1:=[⟨0,3,1,[[(i64 q32.2)]]⟩]) [0] U (.raw U U .nil) (by decide) rfl U (.raw U U .nil) ⟨.rfl,trivial⟩))
    ·intro b33 h2
     have b36:q32.1=true:=by simpa using b33
     refine AI (hK28 _ (AJ U (zm tb 2 U ?_)))
     exact AB (xi (Sh.w (t21+1),q32.2) h2 (AP (L:=[(1,(.ptr 0 0 0 0)),(10,(ls Al p0.steps)),(11,(i64 (Sh.len p0.steps))),(12,(i64 t4)),(26,(ls A2 c14.kids)),(27,(i64 (Sh.len c14.kids))),(28,(i64 (Sh.w (t21+1))))]) (st':=[⟨0,3,1,[[(i64 q32.2)]]⟩]) (st1:=[⟨0,3,1,[[(i64 q32.2)]]⟩]) [0] U (.raw U U .nil) (by decide) rfl U (.raw U U .nil) ⟨.rfl,.rfl,.rfl,.rfl,.rfl,.rfl,.rfl,trivial⟩))
   ·intro b27 h2
    exact Ay (M24 f22 (Sh.AA h2).symm _ (AN U))
 ·intro b11 h1
  exact Ay (M7 f5 (Sh.AA h1).symm _ (AN U))

theorem MA {N:Nat} :∀(n:Nat),∀{s0_0:Int} {p0:Block} {r:Bool×Int},D7 N n s0_0 p0=some r→Ae Tryz.prog 140 [(.agg [(ls Al p0.steps),(i64 p0.result)]),(.ptr 0 0 0 0)] [⟨0,3,1,[[(i64 s0_0)]]⟩] (fun v st=>v=(.bool r.1)∧st=[⟨0,3,1,[[(i64 r.2)]]⟩]):=by
 intro n
 induction n with
 | zero=>intro s0_0 p0 r h0;cases h0
 | succ n ih=>
  intro s0_0 p0 r h0
  rw[D7] at h0
  exact MK (fun h=>ih h) h0
theorem Nf {N:Nat} :∀{s0_0:Int} {p0:Block} {r:Bool×Int},I7 N s0_0 p0=some r→Ae Tryz.prog 140 [(.agg [(ls Al p0.steps),(i64 p0.result)]),(.ptr 0 0 0 0)] [⟨0,3,1,[[(i64 s0_0)]]⟩] (fun v st=>v=(.bool r.1)∧st=[⟨0,3,1,[[(i64 r.2)]]⟩]):=by
 intro s0_0 p0 r h0
 exact MA N h0
noncomputable abbrev Ze (p0:Block):Go.Abs.Row:=⟨0,55,2,[[(ls Al p0.steps),(i64 p0.result)]]⟩
theorem Pc {N:Nat} {p0:Block} {r:Int} (h0:HZ N p0=some r):Ae Tryz.prog 88 [(.agg [(ls Al p0.steps),(i64 p0.result)])] [] (fun v st=>v=(i64 r)∧st=[]):=by
 unfold HZ at h0
 refine ai Tryz.func88 U U U U (sr U fun K1 hK1=>BI (m:=0) (st':=[(Ze p0)]) Ah U U U U U (zq tb U (dn hK1 U (sr U fun K2 hK2=>Ap (m:=1) (st':=[(Ze p0),⟨0,3,1,[[(i64 0)]]⟩]) Ah dr U U (A3 (st':=[(Ze p0),⟨0,3,1,[[(i64 0)]]⟩]) Ah HN U U U U U U (show 0+1≤1 by decide) rfl (dn hK2 U (AE fun K3 hK3=>sr U fun K4 hK4=>zq tb U ?_)))))))
 refine bs h0 fun q5 gq5 h0=>?_
 refine LN (rowsP:=[⟨0,3,1,[[(i64 0)]]⟩]) (rows0:=[⟨0,3,1,[[(i64 0)]]⟩]) (rows1:=[⟨0,3,1,[[(i64 q5.2)]]⟩]) (rows2:=[]) (rows1':=[⟨0,3,1,[[(i64 q5.2)]]⟩]) (rows2':=[]) (st':=[(Ze p0),⟨0,3,1,[[(i64 q5.2)]]⟩]) (v':=(.bool q5.1)) [1] Ah X6 (Nf gq5) rfl (by decide) rfl U (.raw U U .nil) rfl U (.raw U U .nil) .nil U U ?_
 refine zq tb U (dn hK4 U ?_)
 refine ci h0 U ?_ ?_ <;> clear h0
 ·intro b6 h0
  have b7:q5.1=false:=by simpa using b6
  refine zr tb U U ?_
  replace h0:=Sh.AA h0
  subst r
  exact AK (xr (Ai [(2,(i64 (-1)))] U))
 ·intro b6 h0
  have b9:q5.1=true:=by simpa using b6
  refine AI (hK3 _ (zr tb U U ?_))
  replace h0:=Sh.AA h0
  subst r
  exact AK (xr (Ai [(2,(i64 q5.2))] U))
theorem BY {p0:(List Int)} {r:(List Int)} (h0:Be p0=some r):Ae Tryz.prog 77 [(ls eI p0)] [] (fun v st=>v=(ow 0 0 r)∧st=[(ro 0 3 1 eI r)]):=by
 unfold Be at h0
 refine ai Tryz.func77 U U U U (zr tb U U (AE fun K2 hK2=>sr U fun K3 hK3=>zq tb U ?_))
 refine Q7 Ah Ga U (fun hn=>?_) ?_
 ·subst hn
  replace h0:some []=some r:=by rw[← h0];first | rfl | simp[Sh.app]
  refine dn hK3 U (Et (b:=true) rfl (fun _=>zr tb U U ?_) (fun q=>nomatch (show true=false from (U:true=true).symm.trans q)))
  replace h0:=Sh.AA h0
  subst r
  exact AK (Exists.intro _ (And.intro (((Fe (t:=2) rfl 3 (size:=1) (by decide)).trans (AF (L:=[(2,(.own 0 0 (List.length ([]:List Int))))]) ⟨.rfl,trivial⟩)).trans (AF (L:=[(2,(.own 0 0 (List.length ([]:List Int))))]) ⟨.rfl,trivial⟩)) (And.intro U U)))
 ·refine dn hK3 U (Et (b:=false) rfl (fun q=>nomatch (show false=true from (U:false=false).symm.trans q)) (fun _=>AI (hK2 _ (sr U fun K5 hK5=>?_))))
  refine DV (m:=0) (st':=[(ro 0 3 1 eI ([]:List Int))]) (l:=([]:List Int)) (enc:=eI) Ah BN (by decide) rfl U U U U U ?_
  refine zq tb U (bs h0 fun l6 gl6 h0=>Eg (st':=[(ro 1 3 1 eI l6)]) (l2:=p0) Ah BN U U U U Me (fun _=>U) gl6 U (zq tb U (dn hK5 U ?_)))
  replace h0:=Sh.AA h0
  subst r
  exact AK (xr (Cz (L:=[(2,(ow 0 0 l6))]) (st':=[(ro 0 3 1 eI l6)]) (.pure (Ak fun _=>U) .nil) ⟨.rfl,trivial⟩))
theorem Fu {p0:Int} {r:Bool} (h0:CG p0=some r):Ae Tryz.prog 54 [(i64 p0)] [] (fun v st=>v=(.bool r)∧st=[]):=by
 unfold CG at h0
 refine ai Tryz.func54 U U U U (zr tb U U (AE fun K2 hK2=>bs h0 fun o4 h1 h0=>?_))
 have M4 :∀(t3:Bool),o4=t3→∀s,Wk 0 s ⟨9,Ad [(2,(.bool t3))],[]⟩→K2 s:=by
  intro t3 hq s hw
  subst o4
  try dsimp only at h0
  refine hK2 _ (AS hw ?_)
  replace h0:=Sh.AA h0
  subst r
  exact AK (xr (AF (L:=[(2,(.bool t3))]) ⟨.rfl,trivial⟩))
 refine AJ U (zm tb 3 U ?_)
 rcases Sh.As h1 with ⟨b5,h1⟩ | ⟨b5,h1⟩
 ·exact zg tb b5 U (zg tb b5 U (zt b5 U (zq tb U (AB (M4 (decide (p0≤17)) (Sh.AA h1).symm _ (AN U))))))
 ·exact zs b5 U (zs b5 U (zf b5 U (zq tb U (AB (M4 false (Sh.AA h1).symm _ (AN U))))))
noncomputable abbrev E6:Go.Abs.Row:=⟨0,98,3,[[(i64 0),(i64 0),.zc]]⟩
theorem HT {p0:(List Ag)} {p1:Int} {r:Ag×Bool} (h0:Fm p0 p1=some r):Ae Tryz.prog 137 [(ls AG p0),(i64 p1)] [] (fun v st=>v=(.BZ [(.agg (AG r.1)),(.bool r.2)])∧st=[]):=by
 unfold Fm at h0
 refine El U (ai Tryz.func137 U U U U (sr U fun K1 hK1=>Ap (m:=0) (st':=[E6]) Ah B2 U U (zq tb U (dn hK1 U (AE fun K2 hK2=>AE fun K3 hK3=>bs h0 fun o5 h1 h0=>?_)))))
 have M5 :∀(t4:Bool),o5=t4→∀s,Wk 0 s ⟨30,Ad [(0,(ls AG p0)),(1,(i64 p1)),(4,(.ptr 0 0 0 0)),(23,(.bool t4))],[E6]⟩→K3 s:=by
  intro t4 hq s hw
  subst o5
  try dsimp only at h0
  refine hK3 _ (AS hw ?_)
  refine ci h0 U ?_ ?_ <;> clear h0
  ·intro b6 h0
   refine sr U fun K7 hK7=>zz (.agg [(i64 0),(i64 0),.zc]) (GV aW aJ B2 U U) rfl (A3 (st':=[E6]) Ah Hm U U U U U U (show 0+3≤3 by decide) rfl (zq tb U (dn hK7 U ?_)))
   replace h0:=Sh.AA h0
   subst r
   exact AK (Exists.intro _ (And.intro ((HE (id:=0) (cs:=[(i64 0),(i64 0),.zc]) (cs':=[(i64 0),(i64 0),(.sl (List.map Ar []))]) (st':=[⟨0,98,3,[[(i64 0),(i64 0),(.sl (List.map Ar []))]]⟩]) rfl ⟨le.rfl,le.rfl,le.zc,trivial⟩ U U).trans (AF (L:=[(4,(.ptr 0 0 0 0)),(5,(.bool false))]) ⟨.rfl,.rfl,trivial⟩)) (Cb (x:=.tmp 4) (off:=0) (cs:=[(i64 0),(i64 0),(.sl (List.map Ar []))]) (vs:=[(i64 0),(i64 0),(.sl (List.map Ar []))]) Hm U U U (show 0+3≤3 by decide) rfl _ U)))
  ·intro b6 h0
   refine AI (hK2 _ (sr U fun K8 hK8=>zm tb 3 U (bs h0 fun c9 gc9 h0=>zx DA gc9 U U U (zq tb U (A3 (st':=[⟨0,98,3,[(AG c9)]⟩]) Ah Hm U U U U U U (show 0+3≤3 by decide) rfl (zq tb U (dn hK8 U ?_)))))))
   replace h0:=Sh.AA h0
   subst r
   exact AK (Exists.intro _ (And.intro (AF (L:=[(4,(.ptr 0 0 0 0)),(5,(.bool true))]) ⟨.rfl,.rfl,trivial⟩) (Cb (x:=.tmp 4) (off:=0) (cs:=(AG c9)) (vs:=(AG c9)) Hm U U U (show 0+3≤3 by decide) rfl _ U)))
 refine AJ U (zm tb 3 U ?_)
 rcases Sh.As h1 with ⟨b10,h1⟩ | ⟨b10,h1⟩
 ·refine zs b10 U ?_
  iterate 3 refine zs b10 rfl ?_
  refine zt b10 U (zq tb U ?_)
  iterate 8 refine zs rfl rfl ?_
  exact zt U U (AB (M5 true (Sh.AA h1).symm _ (AN U)))
 ·refine zg tb b10 U (zg tb b10 U (A7 (v:=(i64 (Sh.len p0))) (Bb U U b10) rfl (Bo Oz U) (zg tb b10 U (zf b10 U (zq tb U ?_)))))
  rcases Sh.As h1 with ⟨b11,h1⟩ | ⟨b11,h1⟩
  ·refine zs b11 U ?_
   iterate 7 refine zs b11 rfl ?_
   exact zt b11 U (AB (M5 true (Sh.AA h1).symm _ (AN U)))
  ·exact zg tb b11 U (zg tb b11 U (zg tb b11 U (bs h1 fun c12 gc12 h1=>A7 (v:=(.BF (AG c12) 0)) (Bb U U b11) rfl (CL DA U U gc12 U) (zg tb b11 U (zg tb b11 U (A7 (v:=(i64 (Sh.len c12.cons))) (Bb U U b11) rfl (Bo Nn U) (zg tb b11 U (zf b11 U (AB (M5 (decide (0 < (Sh.len c12.cons))) (Sh.AA h1).symm _ (AN U)))))))))))
theorem Kx {p1:Int} {r:(List Int)} (h0:Es p1=some r):Ae Tryz.prog 183 [.zc,(i64 p1)] [] (fun v st=>v=(ow 0 0 r)∧st=[(ro 0 3 1 eI r)]):=by
 unfold Es at h0
 refine ai Tryz.func183 U U U U (zr tb U U (AE fun K2 hK2=>zr tb U U ?_))
 refine ci h0 U ?_ ?_ <;> clear h0
 ·intro b4 h0
  refine AJ U ?_
  cases h0
 ·intro b4 h0
  refine AI (hK2 _ (AE fun K5 hK5=>bs h0 fun o7 h1 h0=>?_))
  have M7 :∀(l6:(List Int)),o7=l6→∀s,Wk 0 s ⟨27,Ad [(0,(ow 0 0 l6))],[(ro 0 3 1 eI l6)]⟩→K5 s:=by
   intro l6 hq s hw
   subst o7
   try dsimp only at h0
   refine hK5 _ (AS hw (zr tb U U ?_))
   replace h0:=Sh.AA h0
   subst r
   exact AK (xr (AF (L:=[(4,(ow 0 0 l6))]) ⟨.rfl,trivial⟩))
  refine sr U fun K9 hK9=>zm tb 2 U (Uy Ga U (zq tb U (zz (i64 0) (VF Ga U) rfl (zm tb 3 U (dn hK9 U (zr tb U U ?_))))))
  refine ci h1 U ?_ ?_ <;> clear h1
  ·intro b11 h1
   refine AJ U (zm tb 2 U (Uy Ga U (Zk BN U U (zq tb U (bs h1 fun l12 gl12 h1=>ZE (u:=0) (enc:=eI) (m:=0) (st':=[(ro 0 3 1 eI l12)]) BN dq U U b11 U gl12 U U (zq tb U (zz (i64 0) (VF Ga U) rfl (bs h1 fun l13 gl13 h1=>Zj (st':=[(ro 1 3 1 eI l13)]) Ah BN U U U U gl13 U (zq tb U ?_)))))))))
   exact AB (M7 l13 (Sh.AA h1).symm _ (Cz (L:=[(0,(ow 0 0 l13))]) (st':=[(ro 0 3 1 eI l13)]) (.pure (Ak fun _=>U) .nil) ⟨.rfl,trivial⟩))
  ·intro b11 h1
   exact AI (M7 [] (Sh.AA h1).symm _ ((Fe (t:=0) rfl 3 (size:=1) (by decide)).trans (AF (L:=[(0,(.own 0 0 (List.length ([]:List Int))))]) ⟨.rfl,trivial⟩)))
theorem KI {N:Nat} {p0:(List (List Int))} {r:(List Int)} (h0:Db N p0=some r):Ae Tryz.prog 135 [(ls (eS eI) p0)] [] (fun v st=>v=(ow 0 0 r)∧st=[(ro 0 3 1 eI r)]):=by
 unfold Db at h0
 refine ai Tryz.func135 U U U U ?_
 iterate 2 refine zr tb rfl rfl ?_
 refine AE fun K3 hK3=>sr U fun K4 hK4=>zq tb U (zl tb U U (zq tb U (dn hK4 U (bs h0 fun o8 h1 h0=>?_))))
 have M8 :∀(size7:Int),o8=size7→∀s,Wk 0 s ⟨36,Ad [(0,(ls (eS eI) p0)),(3,(i64 size7))],[]⟩→K3 s:=by
  intro size7 hq s hw
  subst o8
  try dsimp only at h0
  refine hK3 _ (AS hw (sr U fun K9 hK9=>zq tb U (bs h0 fun q10 gq10 h0=>BW (v':=(ow 0 0 q10)) (st':=[(ro 0 3 1 eI q10)]) Ah bR (Kx gq10) rfl U ⟨(Bf fun _=>U),trivial⟩ U U (zq tb U (dn hK9 U (AE fun K11 hK11=>sr U fun K12 hK12=>zq tb U (zl tb U U (zq tb U ?_))))))))
  refine dn hK12 U (bs h0 fun o16 h1 h0=>?_)
  have M16 :∀(l15:(List Int)),o16=l15→∀s,Wk 0 s ⟨36,Ad [(6,(ow 0 0 l15))],[(ro 0 3 1 eI l15)]⟩→K11 s:=by
   intro l15 hq s hw
   subst o16
   try dsimp only at h0
   refine hK11 _ (AS hw (zr tb U U ?_))
   replace h0:=Sh.AA h0
   subst r
   exact AK (xr (AF (L:=[(2,(ow 0 0 l15))]) ⟨.rfl,trivial⟩))
  refine Aa (Au (σ:=Int×(List Int)) (fun n v=>Bi p0 n v.1 v.2=some o16) (fun (t13,l14)=>⟨36,Ad [(6,(ow 0 0 l14)),(25,(ls (eS eI) p0)),(26,(i64 (Sh.len p0))),(27,(i64 t13))],[(ro 0 3 1 eI l14)]⟩) N (0,q10) h1 (AN U) (fun _ hv=>by rw[Bi] at hv;cases hv) ?_)
  rintro n ⟨t13,l14⟩ h1
  try dsimp only at h1 ⊢
  rw[Bi] at h1
  refine zr tb U U (AE fun K19 hK19=>?_)
  refine ci h1 U ?_ ?_ <;> clear h1
  ·intro b20 h1
   refine AI (hK19 _ (AE fun K21 hK21=>Aa (sr U fun K22 hK22=>bs h1 fun c23 gc23 h1=>zx Mn gc23 U U U (zm tb 2 U (dn hK22 U (AJ U (zm tb 2 U (bs h1 fun l24 gl24 h1=>Eg (st':=[(ro 1 3 1 eI l24)]) (l2:=c23) Ah BN U U U U Me (fun _=>U) gl24 U ?_))))))))
   exact zq tb U (dn hK21 U (AJ U (zm tb 2 U (AB (xi (Sh.w (t13+1),l24) h1 (Cz (L:=[(6,(ow 0 0 l24)),(25,(ls (eS eI) p0)),(26,(i64 (Sh.len p0))),(27,(i64 (Sh.w (t13+1))))]) (st':=[(ro 0 3 1 eI l24)]) (.pure (Ak fun _=>U) .nil) ⟨.rfl,.rfl,.rfl,.rfl,trivial⟩))))))
  ·intro b20 h1
   exact Ay (M16 l14 (Sh.AA h1).symm _ (AN U))
 refine Aa (Au (σ:=Int×Int) (fun n v=>Bk p0 n v.1 v.2=some o8) (fun (size5,t6)=>⟨36,Ad [(0,(ls (eS eI) p0)),(3,(i64 size5)),(9,(ls (eS eI) p0)),(10,(i64 (Sh.len p0))),(11,(i64 t6))],[]⟩) N (0,0) h1 (AN U) (fun _ hv=>by rw[Bk] at hv;cases hv) ?_)
 rintro n ⟨size5,t6⟩ h1
 try dsimp only at h1 ⊢
 rw[Bk] at h1
 refine zr tb U U (AE fun K26 hK26=>?_)
 refine ci h1 U ?_ ?_ <;> clear h1
 ·intro b27 h1
  refine AI (hK26 _ (AE fun K28 hK28=>Aa (sr U fun K29 hK29=>bs h1 fun c30 gc30 h1=>zx Mn gc30 U U U (zm tb 2 U (dn hK29 U (sr U fun K31 hK31=>zm tb 2 U (zl tb U U (zm tb 2 U ?_))))))))
  refine dn hK31 U (zr tb U U ?_)
  refine ci h1 U ?_ ?_ <;> clear h1
  ·intro b33 h1
   refine AJ U ?_
   cases h1
  ·intro b33 h1
   exact AI (hK28 _ (AJ U (zm tb 2 U (AB (xi (Sh.w (size5+(Sh.len c30)),Sh.w (t6+1)) h1 (AN U))))))
 ·intro b27 h1
  exact Ay (M8 size5 (Sh.AA h1).symm _ (AN U))
theorem Gb {N:Nat} {rec_impl_signatures_blockType:A1→(List Int)→Block→Option (Int)} (hrec_impl_signatures_blockType :∀{p0:A1} {p1:(List Int)} {p2:Block} {r:Int},rec_impl_signatures_blockType p0 p1 p2=some r→Ae Tryz.prog 102 [(.agg (AL p0)),(ls eI p1),(.agg [(ls Al p2.steps),(i64 p2.result)])] [] (fun v st=>v=(i64 r)∧st=[])) {p0:A1} {p1:(List Int)} {p2:(List Block)} {p3:(List (List Int))} {r:Int×Bool} (h0:Bu N rec_impl_signatures_blockType p0 p1 p2 p3=some r):Ae Tryz.prog 138 [(.agg (AL p0)),(ls eI p1),(ls A2 p2),(ls (eS eI) p3)] [] (fun v st=>v=(.BZ [(i64 r.1),(.bool r.2)])∧st=[]):=by
 unfold Bu at h0
 refine ai Tryz.func138 U U U U (sr U fun K1 hK1=>BI (m:=0) (st':=[⟨0,49,2,[(AL p0)]⟩]) Ah U U U U U (zm tb 2 U (dn hK1 U (zr tb U U (AE fun K3 hK3=>sr U fun K4 hK4=>zq tb U (zl tb U U (zq tb U (dn hK4 U ?_))))))))
 obtain⟨o8,h1,h0⟩:=Sh.A8 h0
 have M8 :∀(result7:Int),o8=Sum.inr result7→∀s,Wk 0 s ⟨45,Ad [(10,(i64 result7))],[]⟩→K3 s:=by
  intro result7 hq s hw
  subst o8
  try dsimp only at h0
  refine hK3 _ (AS hw (zr tb U U ?_))
  replace h0:=Sh.AA h0
  subst r
  exact AK (xr (AF (L:=[(8,(i64 result7)),(9,(.bool true))]) ⟨.rfl,.rfl,trivial⟩))
 refine Aa (Au (σ:=Int×Int) (fun n v=>Bg N p0 p1 p2 p3 rec_impl_signatures_blockType n v.1 v.2=some o8) (fun (result5,t6)=>⟨45,Ad [(1,(ls eI p1)),(3,(ls (eS eI) p3)),(4,(.ptr 0 0 0 0)),(10,(i64 result5)),(14,(ls A2 p2)),(15,(i64 (Sh.len p2))),(16,(i64 t6))],[⟨0,49,2,[(AL p0)]⟩]⟩) N (-1,0) h1 (AN U) (fun _ hv=>by rw[Bg] at hv;cases hv) ?_)
 rintro n ⟨result5,t6⟩ h1
 try dsimp only at h1 ⊢
 rw[Bg] at h1
 refine zr tb U U (AE fun K11 hK11=>?_)
 refine ci h1 U ?_ ?_ <;> clear h1
 ·intro b12 h1
  refine AI (hK11 _ (AE fun K13 hK13=>Aa (sr U fun K14 hK14=>zq tb U (bs h1 fun c15 gc15 h1=>zx Hi gc15 U U U (zq tb U (Ap (m:=1) (st':=[⟨0,49,2,[(AL p0)]⟩,⟨0,55,2,[[.zc,(i64 0)]]⟩]) Ah Kv U U (zq tb U (A3 (st':=[⟨0,49,2,[(AL p0)]⟩,⟨0,55,2,[[(ls Al c15.steps),(i64 c15.result)]]⟩]) Ah JV U U U U U U (show 0+2≤2 by decide) rfl (dn hK14 U ?_)))))))))
  refine AE fun K16 hK16=>?_
  refine CJ 10 (by kernel_rfl) (by kernel_rfl) (by rfl) ?_
  iterate 4 refine yq tb rfl ?_
  refine bs h1 fun c17 gc17 h1=>yx Mn gc17 U U U (yq tb U ?_)
  refine VB (l:=[p1,c17]) (enc:=(eS eI)) Ah Mn (by decide) rfl U U U U (Ak fun _=>U) ?_
  refine bs h1 fun q18 gq18 h1=>?_
  refine CR (v:=(ls eI q18)) Ah cC (Ae.wk (KI gq18) (by refine Wk.trans (Wk.E5 (L:=[(0,(ls eI q18))]) (st':=[⟨1,3,1,[]⟩]) (id:=0) rfl (show 0≤0 by decide) (Ak fun _=>U) ⟨(.E5 U),trivial⟩ U) ?_;refine Wk.trans (AP (L:=[(0,(ls eI q18))]) (st':=[]) (st1:=[]) [] U .nil (by decide) rfl U .nil ⟨.rfl,trivial⟩) ?_;exact AF (L:=[(0,(ls eI q18))]) ⟨.rfl,trivial⟩)) rfl U U ?_
  refine yq tb U (bs h1 fun q19 gq19 h1=>CR (v:=(i64 q19)) Ah ZB (hrec_impl_signatures_blockType gq19) rfl U U (BS (zq tb U (dn hK16 U (AE fun K20 hK20=>AE fun K21 hK21=>bs h1 fun o23 h2 h1=>?_)))))
  have M23 :∀(t22:Bool),o23=t22→∀s,Wk 0 s ⟨45,Ad [(1,(ls eI p1)),(3,(ls (eS eI) p3)),(4,(.ptr 0 0 0 0)),(13,(i64 q19)),(14,(ls A2 p2)),(15,(i64 (Sh.len p2))),(16,(i64 t6)),(41,(.bool t22))],[⟨0,49,2,[(AL p0)]⟩]⟩→K21 s:=by
   intro t22 hq s hw
   subst o23
   try dsimp only at h1
   refine hK21 _ (AS hw ?_)
   refine ci h1 U ?_ ?_ <;> clear h1
   ·intro b24 h1
    refine zr tb U U ?_
    replace h1:=Sh.AA h1
    subst o8
    try dsimp only[id] at h0
    replace h0:=Sh.AA h0
    subst r
    exact AK (xr (Ai [(8,(i64 (-1))),(9,(.bool false))] U))
   ·intro b24 h1
    exact AI (hK20 _ (AJ U (zm tb 2 U (dn hK13 U (AJ U (zm tb 2 U (AB (xi (q19,Sh.w (t6+1)) h1 (AN U)))))))))
  refine AJ U (zm tb 3 U ?_)
  rcases Sh.As h2 with ⟨b26,h2⟩ | ⟨b26,h2⟩
  ·refine zs b26 U (zs b26 U (zs b26 U ?_))
   iterate 3 refine zn rfl ?_
   refine zs b26 U (zt b26 U ?_)
   exact AB (M23 true (Sh.AA h2).symm _ (AP (L:=[(1,(ls eI p1)),(3,(ls (eS eI) p3)),(4,(.ptr 0 0 0 0)),(13,(i64 q19)),(14,(ls A2 p2)),(15,(i64 (Sh.len p2))),(16,(i64 t6)),(41,(.bool true))]) (st':=[⟨0,49,2,[(AL p0)]⟩]) (st1:=[⟨0,49,2,[(AL p0)]⟩]) [0] U .nil (by decide) rfl U (.raw U U .nil) ⟨.rfl,.rfl,.rfl,.rfl,.rfl,.rfl,.rfl,.rfl,trivial⟩))
  ·refine zg tb b26 U (zg tb b26 U (zg tb b26 U ?_))
   rcases Sh.As h2 with ⟨b27,h2⟩ | ⟨b27,h2⟩
   ·refine zg tb b27 U (zg tb b27 U (zg tb b27 U (A7 (v:=(.bool (!decide (q19=result5)))) (Bb U U b26) rfl (EK U b27 U) (zf b26 U ?_))))
    exact AB (M23 (!decide (q19=result5)) (Sh.AA h2).symm _ (AP (L:=[(1,(ls eI p1)),(3,(ls (eS eI) p3)),(4,(.ptr 0 0 0 0)),(13,(i64 q19)),(14,(ls A2 p2)),(15,(i64 (Sh.len p2))),(16,(i64 t6)),(41,(.bool (!decide (q19=result5))))]) (st':=[⟨0,49,2,[(AL p0)]⟩]) (st1:=[⟨0,49,2,[(AL p0)]⟩]) [0] U .nil (by decide) rfl U (.raw U U .nil) ⟨.rfl,.rfl,.rfl,.rfl,.rfl,.rfl,.rfl,.rfl,trivial⟩))
   ·refine zs b27 U (zs b27 U (zs b27 U (A7 (v:=(.bool false)) (Bb U U b26) rfl (EI U b27 U) (zf b26 U ?_))))
    exact AB (M23 false (Sh.AA h2).symm _ (AP (L:=[(1,(ls eI p1)),(3,(ls (eS eI) p3)),(4,(.ptr 0 0 0 0)),(13,(i64 q19)),(14,(ls A2 p2)),(15,(i64 (Sh.len p2))),(16,(i64 t6)),(41,(.bool false))]) (st':=[⟨0,49,2,[(AL p0)]⟩]) (st1:=[⟨0,49,2,[(AL p0)]⟩]) [0] U .nil (by decide) rfl U (.raw U U .nil) ⟨.rfl,.rfl,.rfl,.rfl,.rfl,.rfl,.rfl,.rfl,trivial⟩))
 ·intro b12 h1
  exact Ay (M8 result5 (Sh.AA h1).symm _ (Ai _ U))
theorem On {N:Nat} {p0:(List Ag)} {r:Int} (h0:G4 N p0=some r):Ae Tryz.prog 181 [(ls AG p0)] [] (fun v st=>v=(i64 r)∧st=[]):=by
 unfold G4 at h0
 refine ai Tryz.func181 U U U U ?_
 iterate 2 refine zr tb rfl rfl ?_
 refine AE fun K3 hK3=>sr U fun K4 hK4=>zq tb U (zl tb U U (zq tb U (dn hK4 U (bs h0 fun o8 h1 h0=>?_))))
 have M8 :∀(n7:Int),o8=n7→∀s,Wk 0 s ⟨19,Ad [(3,(i64 n7))],[]⟩→K3 s:=by
  intro n7 hq s hw
  subst o8
  try dsimp only at h0
  refine hK3 _ (AS hw (zr tb U U ?_))
  replace h0:=Sh.AA h0
  subst r
  exact AK (xr (AF (L:=[(2,(i64 n7))]) ⟨.rfl,trivial⟩))
 refine Aa (Au (σ:=Int×Int) (fun n v=>DF p0 n v.1 v.2=some o8) (fun (n5,t6)=>⟨19,Ad [(3,(i64 n5)),(6,(ls AG p0)),(7,(i64 (Sh.len p0))),(8,(i64 t6))],[]⟩) N (0,0) h1 (AN U) (fun _ hv=>by rw[DF] at hv;cases hv) ?_)
 rintro n ⟨n5,t6⟩ h1
 try dsimp only at h1 ⊢
 rw[DF] at h1
 refine zr tb U U (AE fun K11 hK11=>?_)
 refine ci h1 U ?_ ?_ <;> clear h1
 ·intro b12 h1
  refine AI (hK11 _ (AE fun K13 hK13=>Aa (sr U fun K14 hK14=>bs h1 fun c15 gc15 h1=>zx DA gc15 U U U (zq tb U (Ap (m:=0) (st':=[E6]) Ah B2 U U (A3 (st':=[⟨0,98,3,[(AG c15)]⟩]) Ah Hm U U U U U U (show 0+3≤3 by decide) rfl (dn hK14 U (AJ U (zm tb 3 U ?_)))))))))
  exact zl tb U U (zm tb 2 U (dn hK13 U (AJ U (zm tb 2 U (AB (xi (Sh.w (n5+(Sh.len c15.cons)),Sh.w (t6+1)) h1 (Ai _ U)))))))
 ·intro b12 h1
  exact Ay (M8 n5 (Sh.AA h1).symm _ (AN U))
theorem Qi {N:Nat} {p0:(List Ag)} {p1:Int} {r:(List Int)} (h0:IQ N p0 p1=some r):Ae Tryz.prog 133 [(ls AG p0),(i64 p1)] [] (fun v st=>v=(ow 0 0 r)∧st=[(ro 0 3 1 eI r)]):=by
 unfold IQ at h0
 refine ai Tryz.func133 U U U U (zr tb U U (AE fun K2 hK2=>AE fun K3 hK3=>bs h0 fun o5 h1 h0=>?_))
 have M5 :∀(t4:Bool),o5=t4→∀s,Wk 0 s ⟨39,Ad [(0,(ls AG p0)),(1,(i64 p1)),(15,(.bool t4))],[]⟩→K3 s:=by
  intro t4 hq s hw
  subst o5
  try dsimp only at h0
  refine hK3 _ (AS hw ?_)
  refine ci h0 U ?_ ?_ <;> clear h0
  ·intro b6 h0
   refine zr tb U U ?_
   replace h0:=Sh.AA h0
   subst r
   exact AK (Exists.intro _ (And.intro (((Fe (t:=4) rfl 3 (size:=1) (by decide)).trans (AF (L:=[(4,(.own 0 0 (List.length ([]:List Int))))]) ⟨.rfl,trivial⟩)).trans (AF (L:=[(4,(.own 0 0 (List.length ([]:List Int))))]) ⟨.rfl,trivial⟩)) (And.intro U U)))
  ·intro b6 h0
   refine AI (hK2 _ (sr U fun K8 hK8=>zm tb 3 U (bs h0 fun l9 gl9 h0=>Tv (i:=0) (j:=Sh.w (p1 - 1)) Ah DA U U U (fun _=>U) gl9 (bs h0 fun q10 gq10 h0=>zc ba (On gq10) rfl U U (zq tb U (dn hK8 U (zr tb U U (AE fun K12 hK12=>sr U fun K13 hK13=>?_))))))))
   refine zm tb 3 U (bs h0 fun c14 gc14 h0=>zx DA gc14 U U U (zm tb 2 U (zl tb U U (zq tb U (dn hK13 U (bs h0 fun o18 h1 h0=>?_))))))
   have M18 :∀(l17:(List Int)),o18=l17→∀s,Wk 0 s ⟨39,Ad [(6,(ow 0 0 l17))],[(ro 0 3 1 eI l17)]⟩→K12 s:=by
    intro l17 hq s hw
    subst o18
    try dsimp only at h0
    refine hK12 _ (AS hw (zr tb U U ?_))
    replace h0:=Sh.AA h0
    subst r
    exact AK (xr (AF (L:=[(4,(ow 0 0 l17))]) ⟨.rfl,trivial⟩))
   refine Aa (Au (σ:=Int×(List Int)) (fun n v=>D3 c14 q10 n v.1 v.2=some o18) (fun (t15,l16)=>⟨39,Ad [(5,(i64 q10)),(6,(ow 0 0 l16)),(27,(i64 (Sh.len c14.cons))),(28,(i64 t15))],[(ro 0 3 1 eI l16)]⟩) N (0,[]) h1 ((Fe (t:=6) rfl 3 (size:=1) (by decide)).trans (AF (L:=[(5,(i64 q10)),(6,(.own 0 0 (List.length ([]:List Int)))),(27,(i64 (Sh.len c14.cons))),(28,(i64 0))]) ⟨.rfl,.rfl,.rfl,.rfl,trivial⟩)) (fun _ hv=>by rw[D3] at hv;cases hv) ?_)
   rintro n ⟨t15,l16⟩ h1
   try dsimp only at h1 ⊢
   rw[D3] at h1
   refine zr tb U U (AE fun K21 hK21=>?_)
   refine ci h1 U ?_ ?_ <;> clear h1
   ·intro b22 h1
    refine AI (hK21 _ (AE fun K23 hK23=>Aa (zr tb U U (AJ U (zm tb 4 U ?_)))))
    refine DV (m:=1) (st':=[(ro 0 3 1 eI l16),(ro 0 3 1 eI [Sh.w (q10+t15)])]) (l:=[Sh.w (q10+t15)]) (enc:=eI) Ah BN (by decide) rfl U U U U U ?_
    refine bs h1 fun l25 gl25 h1=>Eg (st':=[(ro 1 3 1 eI l25),(ro 0 3 1 eI [Sh.w (q10+t15)])]) (l2:=[Sh.w (q10+t15)]) Ah BN U U U U (N0 U U) (fun _=>U) gl25 U (zq tb U (dn hK23 U (AJ U (zm tb 2 U ?_))))
    exact AB (xi (Sh.w (t15+1),l25) h1 (by refine Wk.trans (Cz (L:=[(5,(i64 q10)),(6,(ow 0 0 l25)),(27,(i64 (Sh.len c14.cons))),(28,(i64 (Sh.w (t15+1))))]) (st':=[(ro 0 3 1 eI l25),(ro 0 3 1 eI [Sh.w (q10+t15)])]) (.pure (Ak fun _=>U) (.pure (Ak fun _=>U) .nil)) ⟨.rfl,.rfl,.rfl,.rfl,trivial⟩) ?_;exact AP (L:=[(5,(i64 q10)),(6,(ow 0 0 l25)),(27,(i64 (Sh.len c14.cons))),(28,(i64 (Sh.w (t15+1))))]) (st':=[(ro 0 3 1 eI l25)]) (st1:=[(ro 0 3 1 eI l25)]) [0] U .nil (by decide) rfl U (.pure (Ak fun _=>U) .nil) ⟨.rfl,.rfl,.rfl,.rfl,trivial⟩))
   ·intro b22 h1
    exact Ay (M18 l16 (Sh.AA h1).symm _ (AN U))
 refine AJ U (zm tb 3 U ?_)
 rcases Sh.As h1 with ⟨b26,h1⟩ | ⟨b26,h1⟩
 ·refine zs b26 U ?_
  iterate 3 refine zs b26 rfl ?_
  exact zt b26 U (AB (M5 true (Sh.AA h1).symm _ (AN U)))
 ·exact zg tb b26 U (zg tb b26 U (A7 (v:=(i64 (Sh.len p0))) (Bb U U b26) rfl (Bo Oz U) (zg tb b26 U (zf b26 U (AB (M5 (decide ((Sh.len p0) < p1)) (Sh.AA h1).symm _ (AN U)))))))
theorem Ml {N:Nat} {p0:(List Ag)} {p1:Int} {r:Int×BO} (h0:GN N p0 p1=some r):Ae Tryz.prog 182 [(ls AG p0),(i64 p1)] [] (fun v st=>v=(.BZ [(i64 r.1),(.agg (Ar r.2))])∧st=[]):=by
 unfold GN at h0
 refine El U (ai Tryz.func182 U U U U (sr U fun K1 hK1=>zq tb U (Ap (m:=0) (st':=[⟨0,134,1,[[.zc]]⟩]) Ah Kd U U (dn hK1 U (AE fun K2 hK2=>sr U fun K3 hK3=>zq tb U (zl tb U U (zq tb U (dn hK3 U ?_))))))))
 obtain⟨o6,h1,h0⟩:=Sh.A8 h0
 have M6 :∀(_:Unit),o6=Sum.inr ()→∀s,Wk 0 s ⟨38,Ad [(5,(.ptr 0 0 0 0))],[⟨0,134,1,[[.zc]]⟩]⟩→K2 s:=by
  intro _ hq s hw
  subst o6
  try dsimp only at h0
  refine hK2 _ (AS hw (sr U fun K7 hK7=>zz (.agg [.zc]) (GV YS Yv Kd U U) rfl (zq tb U (A3 (st':=[⟨0,134,1,[[.zc]]⟩]) Ah Ix U U U U U U (show 0+1≤1 by decide) rfl (dn hK7 U ?_)))))
  replace h0:=Sh.AA h0
  subst r
  exact AK (Exists.intro _ (And.intro ((HE (id:=0) (cs:=[.zc]) (cs':=[(.sl (List.map eI []))]) (st':=[⟨0,134,1,[[(.sl (List.map eI []))]]⟩]) rfl ⟨le.zc,trivial⟩ U U).trans (AF (L:=[(4,(i64 (-1))),(5,(.ptr 0 0 0 0))]) ⟨.rfl,.rfl,trivial⟩)) (Cb (x:=.tmp 5) (off:=0) (cs:=[(.sl (List.map eI []))]) (vs:=[(.sl (List.map eI []))]) Ix U U U (show 0+1≤1 by decide) rfl _ U)))
 refine Aa (Au (σ:=Int×Int) (fun n v=>D0 p0 n v.1 v.2=some o6) (fun (c4,t5)=>⟨38,Ad [(1,(i64 c4)),(5,(.ptr 0 0 0 0)),(8,(ls AG p0)),(9,(i64 (Sh.len p0))),(10,(i64 t5))],[⟨0,134,1,[[.zc]]⟩]⟩) N (p1,0) h1 (AN U) (fun _ hv=>by rw[D0] at hv;cases hv) ?_)
 rintro n ⟨c4,t5⟩ h1
 try dsimp only at h1 ⊢
 rw[D0] at h1
 refine zr tb U U (AE fun K9 hK9=>?_)
 refine ci h1 U ?_ ?_ <;> clear h1
 ·intro b10 h1
  refine AI (hK9 _ (AE fun K11 hK11=>Aa (sr U fun K12 hK12=>zq tb U (bs h1 fun c13 gc13 h1=>zx DA gc13 U U U (zq tb U (Ap (m:=1) (st':=[⟨0,134,1,[[.zc]]⟩,E6]) Ah B2 U U (zq tb U (A3 (st':=[⟨0,134,1,[[.zc]]⟩,⟨0,98,3,[(AG c13)]⟩]) Ah Hm U U U U U U (show 0+3≤3 by decide) rfl (dn hK12 U ?_)))))))))
  refine AE fun K14 hK14=>AE fun K15 hK15=>bs h1 fun o17 h2 h1=>?_
  have M17 :∀(t16:Bool),o17=t16→∀s,Wk 0 s ⟨38,Ad [(1,(i64 c4)),(5,(.ptr 0 0 0 0)),(6,(i64 t5)),(7,(.ptr 1 0 0 0)),(8,(ls AG p0)),(9,(i64 (Sh.len p0))),(10,(i64 t5)),(23,(.bool t16))],[⟨0,134,1,[[.zc]]⟩,⟨0,98,3,[(AG c13)]⟩]⟩→K15 s:=by
   intro t16 hq s hw
   subst o17
   try dsimp only at h1
   refine hK15 _ (AS hw ?_)
   refine ci h1 U ?_ ?_ <;> clear h1
   ·intro b18 h1
    refine AE fun K19 hK19=>?_
    refine CJ 8 (by kernel_rfl) (by kernel_rfl) (by rfl) ?_
    iterate 5 refine yq tb rfl ?_
    refine bs h1 fun c20 gc20 h1=>yx IC gc20 U U U ?_
    iterate 2 refine yq tb rfl ?_
    refine BS (A3 (st':=[⟨0,134,1,[(Ar c20)]⟩,⟨0,98,3,[(AG c13)]⟩]) Ah Ix U U U U U U (show 0+1≤1 by decide) rfl (dn hK19 U ?_))
    replace h1:=Sh.AA h1
    subst o6
    try dsimp only[id] at h0
    replace h0:=Sh.AA h0
    subst r
    exact AK (Exists.intro _ (And.intro ((AP (L:=[(4,(i64 (Sh.w (t5+1)))),(5,(.ptr 0 0 0 0))]) (st':=[⟨0,134,1,[(Ar c20)]⟩]) (st1:=[⟨0,134,1,[(Ar c20)]⟩]) [0] U .nil (by decide) rfl U (.raw U U .nil) ⟨.rfl,.rfl,trivial⟩).trans (AF (L:=[(4,(i64 (Sh.w (t5+1)))),(5,(.ptr 0 0 0 0))]) ⟨.rfl,.rfl,trivial⟩)) (Cb (x:=.tmp 5) (off:=0) (cs:=(Ar c20)) (vs:=(Ar c20)) Ix U U U (show 0+1≤1 by decide) rfl _ U)))
   ·intro b18 h1
    refine AI (hK14 _ (AJ U (zm tb 3 U (zl tb U U (zm tb 2 U (dn hK11 U (AJ U (zm tb 2 U ?_))))))))
    exact AB (xi (Sh.w (c4 - (Sh.len c13.cons)),Sh.w (t5+1)) h1 (AP (L:=[(1,(i64 (Sh.w (c4 - (Sh.len c13.cons))))),(5,(.ptr 0 0 0 0)),(8,(ls AG p0)),(9,(i64 (Sh.len p0))),(10,(i64 (Sh.w (t5+1))))]) (st':=[⟨0,134,1,[[.zc]]⟩]) (st1:=[⟨0,134,1,[[.zc]]⟩]) [0] U .nil (by decide) rfl U (.raw U U .nil) ⟨.rfl,.rfl,.rfl,.rfl,.rfl,trivial⟩))
  refine AJ U (zm tb 3 U ?_)
  rcases Sh.As h2 with ⟨b21,h2⟩ | ⟨b21,h2⟩
  ·exact zg tb b21 U (zg tb b21 U (zg tb b21 U (A7 (v:=(i64 (Sh.len c13.cons))) (Bb U U b21) rfl (Bo Nn U) (zg tb b21 U (zt b21 U (AB (M17 (decide (c4 < (Sh.len c13.cons))) (Sh.AA h2).symm _ (AN U))))))))
  ·refine zs b21 U ?_
   iterate 4 refine zs b21 rfl ?_
   exact zf b21 U (AB (M17 false (Sh.AA h2).symm _ (AN U)))
 ·intro b10 h1
  exact Ay (M6 () (Sh.AA h1).symm _ (AN U))
theorem PA {N:Nat} {p0:(List Ag)} {p1:Int} {r:(List Int)} (h0:FL N p0 p1=some r):Ae Tryz.prog 134 [(ls AG p0),(i64 p1)] [] (fun v st=>v=(ls eI r)∧st=[]):=by
 unfold FL at h0
 refine ai Tryz.func134 U U U U (zr tb U U (sr U fun K2 hK2=>zm tb 2 U (bs h0 fun q3 gq3 h0=>zc (v':=(.BZ [(i64 q3.1),(.agg (Ar q3.2))])) Yo (Ml gq3) rfl U U (zm tb 3 U (Ap (m:=0) (st':=[⟨0,134,1,[[.zc]]⟩]) Ah Kd U U (zq tb U (A3 (st':=[⟨0,134,1,[(Ar q3.2)]⟩]) Ah Ix U U U U U U (show 0+1≤1 by decide) rfl (dn hK2 U (zr tb U U ?_)))))))))
 replace h0:=Sh.AA h0
 subst r
 exact AK (xr (Ai [(4,(ls eI q3.2.fields))] U))
theorem JK {N:Nat} {p0:A1} {p1:Int} {r:(List (List Int))} (h0:Ca N p0 p1=some r):Ae Tryz.prog 84 [(.agg (AL p0)),(i64 p1)] [] (fun v st=>v=(ow 0 0 r)∧st=[(ro 0 37 1 (eS eI) r)]):=by
 unfold Ca at h0
 refine ai Tryz.func84 U U U U (sr U fun K1 hK1=>BI (m:=0) (st':=[⟨0,49,2,[(AL p0)]⟩]) Ah U U U U U (zq tb U (dn hK1 U (zr tb U U (AE fun K3 hK3=>sr U fun K4 hK4=>zm tb 3 U (bs h0 fun q5 gq5 h0=>BW (v':=(ow 1 0 q5)) (st':=[⟨0,49,2,[(AL p0)]⟩,(ro 0 3 1 eI q5)]) Ah bE (Qi gq5) rfl U ⟨(Bf fun _=>U),trivial⟩ U U (zz (i64 (Sh.len q5)) (Ek Ga U U U) rfl ?_)))))))
 refine zq tb U (dn hK4 U (bs h0 fun o9 h1 h0=>?_))
 have M9 :∀(l8:(List (List Int))),o9=l8→∀s,Wk 0 s ⟨26,Ad [(5,(ow 0 0 l8))],[(ro 0 37 1 (eS eI) l8)]⟩→K3 s:=by
  intro l8 hq s hw
  subst o9
  try dsimp only at h0
  refine hK3 _ (AS hw (zr tb U U ?_))
  replace h0:=Sh.AA h0
  subst r
  exact AK (xr (AF (L:=[(4,(ow 0 0 l8))]) ⟨.rfl,trivial⟩))
 refine Aa (Au (σ:=Int×(List (List Int))) (fun n v=>BV N p0 q5 n v.1 v.2=some o9) (fun (t6,l7)=>⟨26,Ad [(2,(.ptr 0 0 0 0)),(5,(ow 2 0 l7)),(11,(ow 1 0 q5)),(12,(i64 (Sh.len q5))),(13,(i64 t6))],[⟨0,49,2,[(AL p0)]⟩,(ro 0 3 1 eI q5),(ro 0 37 1 (eS eI) l7)]⟩) N (0,[]) h1 ((Fe (t:=5) rfl 37 (size:=1) (by decide)).trans (AF (L:=[(2,(.ptr 0 0 0 0)),(5,(.own 2 0 (List.length ([]:List (List Int))))),(11,(ow 1 0 q5)),(12,(i64 (Sh.len q5))),(13,(i64 0))]) ⟨.rfl,.rfl,.rfl,.rfl,.rfl,trivial⟩)) (fun _ hv=>by rw[BV] at hv;cases hv) ?_)
 rintro n ⟨t6,l7⟩ h1
 try dsimp only at h1 ⊢
 rw[BV] at h1
 refine zr tb U U (AE fun K12 hK12=>?_)
 refine ci h1 U ?_ ?_ <;> clear h1
 ·intro b13 h1
  refine AI (hK12 _ (AE fun K14 hK14=>Aa (sr U fun K15 hK15=>bs h1 fun c16 gc16 h1=>zz (.ptr 1 0 (Int.toNat t6) 0) (B8 BN U U U U gc16) rfl (zz (i64 c16) (Cf HN U U (ER gc16) rfl) rfl (zq tb U (dn hK15 U (AJ U (zm tb 4 U (bs h1 fun q17 gq17 h1=>?_)))))))))
  refine zc bS (PA gq17) rfl U U ?_
  refine DV (m:=3) (st':=[⟨0,49,2,[(AL p0)]⟩,(ro 0 3 1 eI q5),(ro 0 37 1 (eS eI) l7),(ro 0 37 1 (eS eI) [q17])]) (l:=[q17]) (enc:=(eS eI)) Ah Mn (by decide) rfl U U U U U ?_
  refine bs h1 fun l18 gl18 h1=>Eg (st':=[⟨0,49,2,[(AL p0)]⟩,(ro 0 3 1 eI q5),(ro 1 37 1 (eS eI) l18),(ro 0 37 1 (eS eI) [q17])]) (l2:=[q17]) Ah Mn U U U U (N0 U U) (fun _=>U) gl18 U (zq tb U (dn hK14 U (AJ U (zm tb 2 U ?_))))
  exact AB (xi (Sh.w (t6+1),l18) h1 (by refine Wk.trans (Cz (L:=[(2,(.ptr 0 0 0 0)),(5,(ow 2 0 l18)),(11,(ow 1 0 q5)),(12,(i64 (Sh.len q5))),(13,(i64 (Sh.w (t6+1))))]) (st':=[⟨0,49,2,[(AL p0)]⟩,(ro 0 3 1 eI q5),(ro 0 37 1 (eS eI) l18),(ro 0 37 1 (eS eI) [q17])]) (.raw U U (.pure (Ak fun _=>U) (.pure (Ak fun _=>U) (.pure (Ak fun _=>U) .nil)))) ⟨.rfl,.rfl,.rfl,.rfl,.rfl,trivial⟩) ?_;exact AP (L:=[(2,(.ptr 0 0 0 0)),(5,(ow 2 0 l18)),(11,(ow 1 0 q5)),(12,(i64 (Sh.len q5))),(13,(i64 (Sh.w (t6+1))))]) (st':=[⟨0,49,2,[(AL p0)]⟩,(ro 0 3 1 eI q5),(ro 0 37 1 (eS eI) l18)]) (st1:=[⟨0,49,2,[(AL p0)]⟩,(ro 0 3 1 eI q5),(ro 0 37 1 (eS eI) l18)]) [0,1,2] U .nil (by decide) rfl U (.raw U U (.pure (Ak fun _=>U) (.pure (Ak fun _=>U) .nil))) ⟨.rfl,.rfl,.rfl,.rfl,.rfl,trivial⟩))
 ·intro b13 h1
  exact Ay (M9 l7 (Sh.AA h1).symm _ (AP (L:=[(5,(ow 0 0 l7))]) (st':=[(ro 0 37 1 (eS eI) l7)]) (st1:=[(ro 0 37 1 (eS eI) l7)]) [2] U .nil (by decide) rfl U (.pure (Ak fun _=>U) .nil) ⟨.rfl,trivial⟩))
theorem Ej {N:Nat} {p0:(List Int)} {p1:(List Int)} {r:Bool} (h0:CA N p0 p1=some r):Ae Tryz.prog 185 [(ls eI p0),(ls eI p1)] [] (fun v st=>v=(.bool r)∧st=[]):=by
 unfold CA at h0
 refine ai Tryz.func185 U U U U (zr tb U U (AE fun K2 hK2=>sr U fun K3 hK3=>zq tb U (zl tb U U (zq tb U (zl tb U U (zq tb U (dn hK3 U ?_)))))))
 refine ci h0 U ?_ ?_ <;> clear h0
 ·intro b4 h0
  have b5:decide ((Sh.len p0)=(Sh.len p1))=false:=by simpa using b4
  refine zr tb U U ?_
  replace h0:=Sh.AA h0
  subst r
  exact AK (xr (AF (L:=[(4,(.bool false))]) ⟨.rfl,trivial⟩))
 ·intro b4 h0
  have b7:decide ((Sh.len p0)=(Sh.len p1))=true:=by simpa using b4
  refine AI (hK2 _ (AE fun K8 hK8=>sr U fun K9 hK9=>zq tb U (zl tb U U (zq tb U (dn hK9 U ?_)))))
  obtain⟨o11,h1,h0⟩:=Sh.A8 h0
  have M11 :∀(_:Unit),o11=Sum.inr ()→∀s,Wk 0 s ⟨26,Ad [],[]⟩→K8 s:=by
   intro _ hq s hw
   subst o11
   try dsimp only at h0
   refine hK8 _ (AS hw (zr tb U U ?_))
   replace h0:=Sh.AA h0
   subst r
   exact AK (xr (AF (L:=[(4,(.bool true))]) ⟨.rfl,trivial⟩))
  refine Aa (Au (σ:=Int) (fun n v=>B1 p0 p1 n v=some o11) (fun t10=>⟨26,Ad [(0,(ls eI p0)),(1,(ls eI p1)),(12,(i64 (Sh.len p0))),(13,(i64 t10))],[]⟩) N 0 h1 (AN U) (fun _ hv=>by rw[B1] at hv;cases hv) ?_)
  rintro n t10 h1
  try dsimp only at h1 ⊢
  rw[B1] at h1
  refine zr tb U U (AE fun K14 hK14=>?_)
  refine ci h1 U ?_ ?_ <;> clear h1
  ·intro b15 h1
   refine AI (hK14 _ (AE fun K16 hK16=>Aa (zr tb U U (AE fun K18 hK18=>?_))))
   refine Bz (by kernel_rfl) (by kernel_rfl) (by rfl) ?_
   iterate 2 refine yq tb rfl ?_
   refine bs h1 fun c19 gc19 h1=>yx BN gc19 U U U ?_
   iterate 3 refine yq tb rfl ?_
   refine bs h1 fun c20 gc20 h1=>yx BN gc20 U U U ?_
   iterate 2 refine yq tb rfl ?_
   refine BS (hK18 _ ?_)
   refine ci h1 U ?_ ?_ <;> clear h1
   ·intro b21 h1
    have b22:decide (c19=c20)=false:=by simpa using b21
    refine zr tb U U ?_
    replace h1:=Sh.AA h1
    subst o11
    try dsimp only[id] at h0
    replace h0:=Sh.AA h0
    subst r
    exact AK (xr (AF (L:=[(4,(.bool false))]) ⟨.rfl,trivial⟩))
   ·intro b21 h1
    have b24:decide (c19=c20)=true:=by simpa using b21
    exact AI (hK16 _ (AJ U (zm tb 2 U (AB (xi (Sh.w (t10+1)) h1 (AN U))))))
  ·intro b15 h1
   exact Ay (M11 () (Sh.AA h1).symm _ (AN U))
theorem QB {N:Nat} {p0:(List Ag)} {p1:Int} {p2:Int} {r:Int} (h0:Hj N p0 p1 p2=some r):Ae Tryz.prog 186 [(ls AG p0),(i64 p1),(i64 p2)] [] (fun v st=>v=(i64 r)∧st=[]):=by
 unfold Hj at h0
 refine ai Tryz.func186 U U U U (zr tb U U (AE fun K2 hK2=>sr U fun K3 hK3=>zq tb U (zl tb U U (zq tb U (dn hK3 U ?_)))))
 obtain⟨o5,h1,h0⟩:=Sh.A8 h0
 have M5 :∀(_:Unit),o5=Sum.inr ()→∀s,Wk 0 s ⟨35,Ad [],[]⟩→K2 s:=by
  intro _ hq s hw
  subst o5
  try dsimp only at h0
  refine hK2 _ (AS hw (zr tb U U ?_))
  replace h0:=Sh.AA h0
  subst r
  exact AK (xr (AF (L:=[(6,(i64 (-1)))]) ⟨.rfl,trivial⟩))
 refine Aa (Au (σ:=Int) (fun n v=>Dd p0 p1 p2 n v=some o5) (fun t4=>⟨35,Ad [(1,(i64 p1)),(2,(i64 p2)),(9,(ls AG p0)),(10,(i64 (Sh.len p0))),(11,(i64 t4))],[]⟩) N 0 h1 (AN U) (fun _ hv=>by rw[Dd] at hv;cases hv) ?_)
 rintro n t4 h1
 try dsimp only at h1 ⊢
 rw[Dd] at h1
 refine zr tb U U (AE fun K8 hK8=>?_)
 refine ci h1 U ?_ ?_ <;> clear h1
 ·intro b9 h1
  refine AI (hK8 _ (AE fun K10 hK10=>Aa (sr U fun K11 hK11=>zq tb U (bs h1 fun c12 gc12 h1=>zx DA gc12 U U U (zq tb U (Ap (m:=0) (st':=[E6]) Ah B2 U U (zq tb U (A3 (st':=[⟨0,98,3,[(AG c12)]⟩]) Ah Hm U U U U U U (show 0+3≤3 by decide) rfl (dn hK11 U ?_)))))))))
  refine AE fun K13 hK13=>bs h1 fun o15 h2 h1=>?_
  have M15 :∀(t14:Bool),o15=t14→∀s,Wk 0 s ⟨35,Ad [(1,(i64 p1)),(2,(i64 p2)),(7,(i64 t4)),(9,(ls AG p0)),(10,(i64 (Sh.len p0))),(11,(i64 t4)),(31,(.bool t14))],[]⟩→K13 s:=by
   intro t14 hq s hw
   subst o15
   try dsimp only at h1
   refine hK13 _ (AS hw ?_)
   refine ci h1 U ?_ ?_ <;> clear h1
   ·intro b16 h1
    refine zr tb U U ?_
    replace h1:=Sh.AA h1
    subst o5
    try dsimp only[id] at h0
    replace h0:=Sh.AA h0
    subst r
    exact AK (xr (AF (L:=[(6,(i64 (Sh.w (t4+1))))]) ⟨.rfl,trivial⟩))
   ·intro b16 h1
    exact AI (hK10 _ (AJ U (zm tb 2 U (AB (xi (Sh.w (t4+1)) h1 (AN U))))))
  refine AJ U (zm tb 2 U (zl tb U U (zm tb 2 U ?_)))
  rcases Sh.As h2 with ⟨b18,h2⟩ | ⟨b18,h2⟩
  ·refine zg tb b18 U ?_
   iterate 3 refine zg tb b18 rfl ?_
   refine zt b18 U (zq tb U ?_)
   rcases Sh.As h2 with ⟨b19,h2⟩ | ⟨b19,h2⟩
   ·refine zg tb b19 U ?_
    iterate 3 refine zg tb b19 rfl ?_
    exact zt b19 U (AB (M15 (decide (c12.to=p2)) (Sh.AA h2).symm _ (Ai _ U)))
   ·refine zs b19 U ?_
    iterate 3 refine zs b19 rfl ?_
    exact zf b19 U (AB (M15 false (Sh.AA h2).symm _ (Ai _ U)))
  ·refine zs b18 U ?_
   iterate 3 refine zs b18 rfl ?_
   refine zf b18 U (zq tb U ?_)
   iterate 4 refine zs rfl rfl ?_
   exact zf U U (AB (M15 false (Sh.AA h2).symm _ (Ai _ U)))
 ·intro b9 h1
  exact Ay (M5 () (Sh.AA h1).symm _ (AN U))
noncomputable abbrev Xy (c34:Int) (p2:Int) (p3:(List Int)):List (Nat×Go.Abs.AV):=[(2,(i64 p2)),(3,(ls eI p3)),(12,(.ptr 0 0 0 0)),(47,(.ptr 1 0 0 0)),(50,(.BF (eI c34) 0))]
noncomputable abbrev XQ (c34:Int) (p2:Int) (p3:(List Int)):List (Nat×Go.Abs.AV):=[(2,(i64 p2)),(3,(ls eI p3)),(12,(.ptr 0 0 0 0)),(47,(.ptr 1 0 0 0)),(51,(i64 c34))]
noncomputable abbrev X2 (c34:Int) (p0:A1) (p2:Int) (p3:(List Int)):List (Nat×Go.Abs.AV):=[(2,(i64 p2)),(3,(ls eI p3)),(12,(.ptr 0 0 0 0)),(48,(ls AG p0.decls)),(50,(.BF (eI c34) 0))]
noncomputable abbrev YF (c34:Int) (p0:A1) (p2:Int) (p3:(List Int)):List (Nat×Go.Abs.AV):=[(2,(i64 p2)),(3,(ls eI p3)),(12,(.ptr 0 0 0 0)),(48,(ls AG p0.decls)),(51,(i64 c34))]
noncomputable abbrev YQ (p2:Int) (p3:(List Int)):List (Nat×Go.Abs.AV):=[(2,(i64 p2)),(3,(ls eI p3)),(12,(.ptr 0 0 0 0)),(47,(.ptr 1 0 0 0)),(49,(ls eI p3))]
noncomputable abbrev an (p1:Int) (p2:Int) (p3:(List Int)):List (Nat×Go.Abs.AV):=[(1,(i64 p1)),(2,(i64 p2)),(3,(ls eI p3)),(4,(.ptr 0 0 0 0)),(11,(i64 0)),(18,(i64 p1)),(32,(.bool true))]
noncomputable abbrev Zm (p0:A1) (p2:Int) (p3:(List Int)):List (Nat×Go.Abs.AV):=[(2,(i64 p2)),(3,(ls eI p3)),(12,(.ptr 0 0 0 0)),(48,(ls AG p0.decls)),(49,(ls eI p3))]
noncomputable abbrev Wu (c34:Int) (p0:A1) (p2:Int) (p3:(List Int)):List (Nat×Go.Abs.AV):=[(2,(i64 p2)),(3,(ls eI p3)),(48,(ls AG p0.decls)),(50,(.BF (eI c34) 0))]
theorem I2 {N:Nat} {p0:A1} {p1:Int} {p2:Int} {p3:(List Int)} {r:Int×Bool} (h0:Av N p0 p1 p2 p3=some r):Ae Tryz.prog 139 [(.agg (AL p0)),(i64 p1),(i64 p2),(ls eI p3)] [] (fun v st=>v=(.BZ [(i64 r.1),(.bool r.2)])∧st=[]):=by
 unfold Av at h0
 refine ai Tryz.func139 U U U U (sr U fun K1 hK1=>BI (m:=0) (st':=[⟨0,49,2,[(AL p0)]⟩]) Ah U U U U U (zm tb 2 U (dn hK1 U (zr tb U U (AE fun K3 hK3=>?_)))))
 obtain⟨o5,h1,h0⟩:=Sh.A8 h0
 have M5 :∀(l4:(List Int)),o5=Sum.inr l4→∀s,Wk 0 s ⟨149,Ad [(2,(i64 p2)),(3,(ls eI p3)),(10,(ow 0 0 l4)),(11,(i64 0))],[(ro 0 3 1 eI l4)]⟩→K3 s:=by
  intro l4 hq s hw
  subst o5
  try dsimp only at h0
  refine hK3 _ (AS hw (AE fun K6 hK6=>bs h0 fun o8 h1 h0=>?_))
  have M8 :∀(t7:Bool),o8=t7→∀s,Wk 0 s ⟨149,Ad [(8,(i64 0)),(9,(.bool t7))],[]⟩→K6 s:=by
   intro t7 hq s hw
   subst o8
   try dsimp only at h0
   refine hK6 _ (AS hw ?_)
   replace h0:=Sh.AA h0
   subst r
   exact AK (xr (AF (L:=[(8,(i64 0)),(9,(.bool t7))]) ⟨.rfl,.rfl,trivial⟩))
  refine AJ U (zm tb 4 U ?_)
  rcases Sh.As h1 with ⟨b9,h1⟩ | ⟨b9,h1⟩
  ·exact zg tb b9 U (zg tb b9 U (Az (Wk.E5 (L:=[(141,(i64 0)),(144,(.bool (decide (p2=0)))),(145,(ls eI p3)),(146,(ls eI l4))]) (st':=[⟨1,3,1,[]⟩]) (id:=0) rfl (show 0≤0 by decide) (Ak fun _=>U) ⟨.rfl,.rfl,.rfl,(.E5 U),trivial⟩ U) (bs h1 fun q10 gq10 h1=>zd b9 TV (Ej gq10) rfl U U U (zt b9 U (zm tb 2 U (AB (M8 q10 (Sh.AA h1).symm _ (Ai _ U))))))))
  ·exact zs b9 U (zs b9 U (zs b9 U (zf b9 U (zm tb 2 U (AB (M8 false (Sh.AA h1).symm _ (Ai _ U)))))))
 refine zr tb U U (Aa (zr tb U U ?_))
 refine ci h1 U ?_ ?_ <;> clear h1
 ·intro b13 h1
  refine AE fun K14 hK14=>bs h1 fun o16 h2 h1=>?_
  have M16 :∀(t15:Bool),o16=t15→∀s,Wk 0 s ⟨149,Ad [(8,(i64 0)),(9,(.bool t15))],[]⟩→K14 s:=by
   intro t15 hq s hw
   subst o16
   try dsimp only at h1
   refine hK14 _ (AS hw ?_)
   replace h1:=Sh.AA h1
   subst o5
   try dsimp only[id] at h0
   replace h0:=Sh.AA h0
   subst r
   exact AK (xr (AF (L:=[(8,(i64 0)),(9,(.bool t15))]) ⟨.rfl,.rfl,trivial⟩))
  refine AJ U (zm tb 3 U ?_)
  rcases Sh.As h2 with ⟨b17,h2⟩ | ⟨b17,h2⟩
  ·refine zg tb b17 U (zg tb b17 U (zt b17 U (zq tb U ?_)))
   rcases Sh.As h2 with ⟨b18,h2⟩ | ⟨b18,h2⟩
   ·exact zg tb b18 U (A7 (v:=(i64 (Sh.len p3))) (Bb U U b18) rfl (Bo Ga U) (zg tb b18 U (zt b18 U (zm tb 2 U (AB (M16 (decide ((Sh.len p3)=0)) (Sh.AA h2).symm _ (Ai _ U)))))))
   ·exact zs b18 U (zs b18 U (zs b18 U (zf b18 U (zm tb 2 U (AB (M16 false (Sh.AA h2).symm _ (Ai _ U)))))))
  ·refine zs b17 U (zs b17 U (zf b17 U (zq tb U ?_)))
   iterate 3 refine zs rfl rfl ?_
   exact zf U U (zm tb 2 U (AB (M16 false (Sh.AA h2).symm _ (Ai _ U))))
 ·intro b13 h1
  refine AE fun K19 hK19=>bs h1 fun o21 h2 h1=>?_
  have M21 :∀(t20:Bool),o21=t20→∀s,Wk 0 s ⟨149,Ad [(1,(i64 p1)),(2,(i64 p2)),(3,(ls eI p3)),(4,(.ptr 0 0 0 0)),(11,(i64 0)),(18,(i64 p1)),(32,(.bool t20))],[⟨0,49,2,[(AL p0)]⟩]⟩→K19 s:=by
   intro t20 hq s hw
   subst o21
   try dsimp only at h1
   refine hK19 _ (AS hw ?_)
   refine ci h1 U ?_ ?_ <;> clear h1
   ·intro b22 h1
    refine AJ U ?_
    refine DV (m:=1) (st':=[⟨0,49,2,[(AL p0)]⟩,(ro 0 3 1 eI [(0:Int),0])]) (l:=[(0:Int),0]) (enc:=eI) Ah BN (by decide) rfl U U U U U ?_
    refine zq tb U ?_
    exact AB (M5 [(0:Int),0] (Sh.AA h1).symm _ (AP (L:=[(2,(i64 p2)),(3,(ls eI p3)),(10,(ow 0 0 [(0:Int),0])),(11,(i64 0))]) (st':=[(ro 0 3 1 eI [(0:Int),0])]) (st1:=[(ro 0 3 1 eI [(0:Int),0])]) [1] U .nil (by decide) rfl U (.pure (Ak fun _=>U) .nil) ⟨.rfl,.rfl,.rfl,.rfl,trivial⟩))
   ·intro b22 h1
    refine zr tb U U ?_
    refine ci h1 U ?_ ?_ <;> clear h1
    ·intro b24 h1
     refine AJ U ?_
     refine DV (m:=1) (st':=[⟨0,49,2,[(AL p0)]⟩,(ro 0 3 1 eI [(0:Int)])]) (l:=[(0:Int)]) (enc:=eI) Ah BN (by decide) rfl U U U U U ?_
     refine zq tb U ?_
     exact AB (M5 [(0:Int)] (Sh.AA h1).symm _ (AP (L:=[(2,(i64 p2)),(3,(ls eI p3)),(10,(ow 0 0 [(0:Int)])),(11,(i64 0))]) (st':=[(ro 0 3 1 eI [(0:Int)])]) (st1:=[(ro 0 3 1 eI [(0:Int)])]) [1] U .nil (by decide) rfl U (.pure (Ak fun _=>U) .nil) ⟨.rfl,.rfl,.rfl,.rfl,trivial⟩))
    ·intro b24 h1
     refine zr tb U U ?_
     refine ci h1 U ?_ ?_ <;> clear h1
     ·intro b26 h1
      refine AE fun K27 hK27=>sr U fun K28 hK28=>zq tb U (zl tb U U (zq tb U (dn hK28 U ?_)))
      refine ci h1 U ?_ ?_ <;> clear h1
      ·intro b29 h1
       have b30:decide ((Sh.len p3)=2)=false:=by simpa using b29
       refine zr tb U U ?_
       replace h1:=Sh.AA h1
       subst o5
       try dsimp only[id] at h0
       replace h0:=Sh.AA h0
       subst r
       exact AK (xr (Ai [(8,(i64 (-1))),(9,(.bool false))] U))
      ·intro b29 h1
       have b32:decide ((Sh.len p3)=2)=true:=by simpa using b29
       refine AI (hK27 _ (AE fun K33 hK33=>?_))
       refine KP (by kernel_rfl) ?_
       refine bs h1 fun c34 gc34 h1=>bs h1 fun q35 gq35 h1=>NT fun A36 hA36=>?_
       have A36_0123456789ab:A36 0 #[true,true,true,true,true,true,true,true,true,true,true,true] ⟨149,Ad [(2,(i64 p2)),(3,(ls eI p3)),(12,(.ptr 0 0 0 0)),(13,(.bool q35.2))],[⟨0,98,3,[(AG q35.1)]⟩]⟩:=(hA36 _ _ _).2 (by
        refine LW U (by kernel_rfl) ?_
        refine hK33 _ (AE fun K37 hK37=>bs h1 fun o39 h2 h1=>?_)
        have M39 :∀(t38:Bool),o39=t38→∀s,Wk 0 s ⟨149,Ad [(8,(i64 q35.1.to)),(9,(.bool t38))],[]⟩→K37 s:=by
         intro t38 hq s hw
         subst o39
         try dsimp only at h1
         refine hK37 _ (AS hw ?_)
         replace h1:=Sh.AA h1
         subst o5
         try dsimp only[id] at h0
         replace h0:=Sh.AA h0
         subst r
         exact AK (xr (AF (L:=[(8,(i64 q35.1.to)),(9,(.bool t38))]) ⟨.rfl,.rfl,trivial⟩))
        refine Bz (by kernel_rfl) (by kernel_rfl) (by rfl) ?_
        iterate 4 refine yq tb rfl ?_
        rcases Sh.As h2 with ⟨b40,h2⟩ | ⟨b40,h2⟩
        ·refine yg tb b40 U (bs h2 fun c41 gc41 h2=>H3 (v:=(.BF (eI c41) 0)) (Bb U U b40) rfl (CL BN U U gc41 U) ?_)
         iterate 4 refine yg tb b40 rfl ?_
         refine yt b40 U (yq tb U ?_)
         rcases Sh.As h2 with ⟨b42,h2⟩ | ⟨b42,h2⟩
         ·refine yg tb b42 U (yg tb b42 U (yt b42 U ?_))
          iterate 2 refine yq tb rfl ?_
          exact BS (M39 (decide (p2=0)) (Sh.AA h2).symm _ (Ai _ U))
         ·refine ys b42 U (ys b42 U (yf b42 U ?_))
          iterate 2 refine yq tb rfl ?_
          exact BS (M39 false (Sh.AA h2).symm _ (Ai _ U))
        ·refine ys b40 U ?_
         iterate 5 refine ys b40 rfl ?_
         refine yf b40 U (yq tb U ?_)
         iterate 2 refine ys rfl rfl ?_
         refine yf U U ?_
         iterate 2 refine yq tb rfl ?_
         exact BS (M39 false (Sh.AA h2).symm _ (by refine Wk.trans (AP (L:=[(8,(i64 q35.1.to)),(9,(.bool false))]) (st':=[]) (st1:=[]) [] U .nil (by decide) rfl U .nil ⟨.rfl,.rfl,trivial⟩) ?_;exact AF (L:=[(8,(i64 q35.1.to)),(9,(.bool false))]) ⟨.rfl,.rfl,trivial⟩)))
       have A36_0123456789a:A36 1 #[true,true,true,true,true,true,true,true,true,true,true,false] ⟨149,Ad [(2,(i64 p2)),(3,(ls eI p3)),(12,(.ptr 0 0 0 0)),(54,(.bool q35.2))],[⟨0,98,3,[(AG q35.1)]⟩]⟩:=(hA36 _ _ _).2 (by
        refine ET 11 (v:=(.bool q35.2)) rfl U (by kernel_rfl) (by kernel_rfl) (by kernel_rfl) rfl (Ss U) ?_
        exact AH (AF (L:=[(2,(i64 p2)),(3,(ls eI p3)),(12,(.ptr 0 0 0 0)),(13,(.bool q35.2))]) ⟨.rfl,.rfl,.rfl,.rfl,trivial⟩) (AR (by kernel_rfl) ((hA36 _ _ _).1 A36_0123456789ab)) rfl)
       have A36_0123456789:A36 2 #[true,true,true,true,true,true,true,true,true,true,false,false] ⟨149,Ad [(2,(i64 p2)),(3,(ls eI p3)),(12,(.ptr 0 0 0 0)),(53,(.agg (AG q35.1))),(54,(.bool q35.2))],[E6]⟩:=(hA36 _ _ _).2 (by
        refine An [10] U (by kernel_rfl) (by decide) ⟨?_,trivial⟩
        ·refine A5.of (i:=10) rfl U (by rfl) ?_
         refine A3 (st':=[⟨0,98,3,[(AG q35.1)]⟩]) Ah Hm U U U U U U (show 0+3≤3 by decide) rfl (AB ⟨U,?_⟩)
         exact AH (AF (L:=[(2,(i64 p2)),(3,(ls eI p3)),(12,(.ptr 0 0 0 0)),(54,(.bool q35.2))]) ⟨.rfl,.rfl,.rfl,.rfl,trivial⟩) (AR (by kernel_rfl) ((hA36 _ _ _).1 A36_0123456789a)) rfl)
       have A36_012345678:A36 3 #[true,true,true,true,true,true,true,true,true,false,false,false] ⟨149,Ad [(2,(i64 p2)),(3,(ls eI p3)),(53,(.agg (AG q35.1))),(54,(.bool q35.2))],[]⟩:=(hA36 _ _ _).2 (by
        refine An [9] U (by kernel_rfl) (by decide) ⟨?_,trivial⟩
        ·refine A5.of (i:=9) rfl U (by rfl) ?_
         refine Ap (m:=0) (st':=[E6]) Ah B2 U U (AB ⟨U,?_⟩)
         exact AH (AF (L:=[(2,(i64 p2)),(3,(ls eI p3)),(12,(.ptr 0 0 0 0)),(53,(.agg (AG q35.1))),(54,(.bool q35.2))]) ⟨.rfl,.rfl,.rfl,.rfl,.rfl,trivial⟩) (AR (by kernel_rfl) ((hA36 _ _ _).1 A36_0123456789)) rfl)
       have A36_012345679a:A36 2 #[true,true,true,true,true,true,true,true,false,true,true,false] ⟨149,Ad [(2,(i64 p2)),(3,(ls eI p3)),(12,(.ptr 0 0 0 0)),(46,(.BZ [(.agg (AG q35.1)),(.bool q35.2)]))],[⟨0,98,3,[(AG q35.1)]⟩]⟩:=(hA36 _ _ _).2 (by
        refine An [8] U (by kernel_rfl) (by decide) ⟨?_,trivial⟩
        ·refine A5.of (i:=8) rfl U (by rfl) ?_
         refine zq tb U (AB ⟨U,?_⟩)
         exact AH (AF (L:=[(2,(i64 p2)),(3,(ls eI p3)),(12,(.ptr 0 0 0 0)),(54,(.bool q35.2))]) ⟨.rfl,.rfl,.rfl,.rfl,trivial⟩) (AR (by kernel_rfl) ((hA36 _ _ _).1 A36_0123456789a)) rfl)
       have A36_012345679:A36 3 #[true,true,true,true,true,true,true,true,false,true,false,false] ⟨149,Ad [(2,(i64 p2)),(3,(ls eI p3)),(12,(.ptr 0 0 0 0)),(46,(.BZ [(.agg (AG q35.1)),(.bool q35.2)])),(53,(.agg (AG q35.1)))],[E6]⟩:=(hA36 _ _ _).2 (by
        refine An [8,10] U (by kernel_rfl) (by decide) ⟨?_,?_,trivial⟩
        ·refine A5.of (i:=8) rfl U (by rfl) ?_
         refine zq tb U (AB ⟨U,?_⟩)
         exact AH (AF (L:=[(2,(i64 p2)),(3,(ls eI p3)),(12,(.ptr 0 0 0 0)),(53,(.agg (AG q35.1))),(54,(.bool q35.2))]) ⟨.rfl,.rfl,.rfl,.rfl,.rfl,trivial⟩) (AR (by kernel_rfl) ((hA36 _ _ _).1 A36_0123456789)) rfl
        ·refine A5.of (i:=10) rfl U (by rfl) ?_
         refine A3 (st':=[⟨0,98,3,[(AG q35.1)]⟩]) Ah Hm U U U U U U (show 0+3≤3 by decide) rfl (AB ⟨U,?_⟩)
         exact AH (AF (L:=[(2,(i64 p2)),(3,(ls eI p3)),(12,(.ptr 0 0 0 0)),(46,(.BZ [(.agg (AG q35.1)),(.bool q35.2)]))]) ⟨.rfl,.rfl,.rfl,.rfl,trivial⟩) (AR (by kernel_rfl) ((hA36 _ _ _).1 A36_012345679a)) rfl)
       have A36_01234567:A36 4 #[true,true,true,true,true,true,true,true,false,false,false,false] ⟨149,Ad [(2,(i64 p2)),(3,(ls eI p3)),(46,(.BZ [(.agg (AG q35.1)),(.bool q35.2)])),(53,(.agg (AG q35.1)))],[]⟩:=(hA36 _ _ _).2 (by
        refine An [8,9] U (by kernel_rfl) (by decide) ⟨?_,?_,trivial⟩
        ·refine A5.of (i:=8) rfl U (by rfl) ?_
         refine zq tb U (AB ⟨U,?_⟩)
         exact AH (AF (L:=[(2,(i64 p2)),(3,(ls eI p3)),(53,(.agg (AG q35.1))),(54,(.bool q35.2))]) ⟨.rfl,.rfl,.rfl,.rfl,trivial⟩) (AR (by kernel_rfl) ((hA36 _ _ _).1 A36_012345678)) rfl
        ·refine A5.of (i:=9) rfl U (by rfl) ?_
         refine Ap (m:=0) (st':=[E6]) Ah B2 U U (AB ⟨U,?_⟩)
         exact AH (AF (L:=[(2,(i64 p2)),(3,(ls eI p3)),(12,(.ptr 0 0 0 0)),(46,(.BZ [(.agg (AG q35.1)),(.bool q35.2)])),(53,(.agg (AG q35.1)))]) ⟨.rfl,.rfl,.rfl,.rfl,.rfl,trivial⟩) (AR (by kernel_rfl) ((hA36 _ _ _).1 A36_012345679)) rfl)
       have A36_012345689:A36 3 #[true,true,true,true,true,true,true,false,true,true,false,false] ⟨149,Ad [(2,(i64 p2)),(3,(ls eI p3)),(12,(.ptr 0 0 0 0)),(46,(.BZ [(.agg (AG q35.1)),(.bool q35.2)])),(54,(.bool q35.2))],[E6]⟩:=(hA36 _ _ _).2 (by
        refine An [7] U (by kernel_rfl) (by decide) ⟨?_,trivial⟩
        ·refine A5.of (i:=7) rfl U (by rfl) ?_
         refine zq tb U (AB ⟨U,?_⟩)
         exact AH (AF (L:=[(2,(i64 p2)),(3,(ls eI p3)),(12,(.ptr 0 0 0 0)),(53,(.agg (AG q35.1))),(54,(.bool q35.2))]) ⟨.rfl,.rfl,.rfl,.rfl,.rfl,trivial⟩) (AR (by kernel_rfl) ((hA36 _ _ _).1 A36_0123456789)) rfl)
       have A36_01234568:A36 4 #[true,true,true,true,true,true,true,false,true,false,false,false] ⟨149,Ad [(2,(i64 p2)),(3,(ls eI p3)),(46,(.BZ [(.agg (AG q35.1)),(.bool q35.2)])),(54,(.bool q35.2))],[]⟩:=(hA36 _ _ _).2 (by
        refine An [7,9] U (by kernel_rfl) (by decide) ⟨?_,?_,trivial⟩
        ·refine A5.of (i:=7) rfl U (by rfl) ?_
         refine zq tb U (AB ⟨U,?_⟩)
         exact AH (AF (L:=[(2,(i64 p2)),(3,(ls eI p3)),(53,(.agg (AG q35.1))),(54,(.bool q35.2))]) ⟨.rfl,.rfl,.rfl,.rfl,trivial⟩) (AR (by kernel_rfl) ((hA36 _ _ _).1 A36_012345678)) rfl
        ·refine A5.of (i:=9) rfl U (by rfl) ?_
         refine Ap (m:=0) (st':=[E6]) Ah B2 U U (AB ⟨U,?_⟩)
         exact AH (AF (L:=[(2,(i64 p2)),(3,(ls eI p3)),(12,(.ptr 0 0 0 0)),(46,(.BZ [(.agg (AG q35.1)),(.bool q35.2)])),(54,(.bool q35.2))]) ⟨.rfl,.rfl,.rfl,.rfl,.rfl,trivial⟩) (AR (by kernel_rfl) ((hA36 _ _ _).1 A36_012345689)) rfl)
       have A36_01234569:A36 4 #[true,true,true,true,true,true,true,false,false,true,false,false] ⟨149,Ad [(2,(i64 p2)),(3,(ls eI p3)),(12,(.ptr 0 0 0 0)),(46,(.BZ [(.agg (AG q35.1)),(.bool q35.2)]))],[E6]⟩:=(hA36 _ _ _).2 (by
        refine An [7,8] U (by kernel_rfl) (by decide) ⟨?_,?_,trivial⟩
        ·refine A5.of (i:=7) rfl U (by rfl) ?_
         refine zq tb U (AB ⟨U,?_⟩)
         exact AH (AF (L:=[(2,(i64 p2)),(3,(ls eI p3)),(12,(.ptr 0 0 0 0)),(46,(.BZ [(.agg (AG q35.1)),(.bool q35.2)])),(53,(.agg (AG q35.1)))]) ⟨.rfl,.rfl,.rfl,.rfl,.rfl,trivial⟩) (AR (by kernel_rfl) ((hA36 _ _ _).1 A36_012345679)) rfl
        ·refine A5.of (i:=8) rfl U (by rfl) ?_
         refine zq tb U (AB ⟨U,?_⟩)
         exact AH (AF (L:=[(2,(i64 p2)),(3,(ls eI p3)),(12,(.ptr 0 0 0 0)),(46,(.BZ [(.agg (AG q35.1)),(.bool q35.2)])),(54,(.bool q35.2))]) ⟨.rfl,.rfl,.rfl,.rfl,.rfl,trivial⟩) (AR (by kernel_rfl) ((hA36 _ _ _).1 A36_012345689)) rfl)
       have A36_0123456:A36 5 #[true,true,true,true,true,true,true,false,false,false,false,false] ⟨149,Ad [(2,(i64 p2)),(3,(ls eI p3)),(46,(.BZ [(.agg (AG q35.1)),(.bool q35.2)]))],[]⟩:=(hA36 _ _ _).2 (by
        refine An [7,8,9] U (by kernel_rfl) (by decide) ⟨?_,?_,?_,trivial⟩
        ·refine A5.of (i:=7) rfl U (by rfl) ?_
         refine zq tb U (AB ⟨U,?_⟩)
         exact AH (AF (L:=[(2,(i64 p2)),(3,(ls eI p3)),(46,(.BZ [(.agg (AG q35.1)),(.bool q35.2)])),(53,(.agg (AG q35.1)))]) ⟨.rfl,.rfl,.rfl,.rfl,trivial⟩) (AR (by kernel_rfl) ((hA36 _ _ _).1 A36_01234567)) rfl
        ·refine A5.of (i:=8) rfl U (by rfl) ?_
         refine zq tb U (AB ⟨U,?_⟩)
         exact AH (AF (L:=[(2,(i64 p2)),(3,(ls eI p3)),(46,(.BZ [(.agg (AG q35.1)),(.bool q35.2)])),(54,(.bool q35.2))]) ⟨.rfl,.rfl,.rfl,.rfl,trivial⟩) (AR (by kernel_rfl) ((hA36 _ _ _).1 A36_01234568)) rfl
        ·refine A5.of (i:=9) rfl U (by rfl) ?_
         refine Ap (m:=0) (st':=[E6]) Ah B2 U U (AB ⟨U,?_⟩)
         exact AH (AF (L:=[(2,(i64 p2)),(3,(ls eI p3)),(12,(.ptr 0 0 0 0)),(46,(.BZ [(.agg (AG q35.1)),(.bool q35.2)]))]) ⟨.rfl,.rfl,.rfl,.rfl,trivial⟩) (AR (by kernel_rfl) ((hA36 _ _ _).1 A36_01234569)) rfl)
       have A36_012345:A36 6 #[true,true,true,true,true,true,false,false,false,false,false,false] ⟨149,Ad [(2,(i64 p2)),(3,(ls eI p3)),(52,(.BZ [(.agg (AG q35.1)),(.bool q35.2)]))],[]⟩:=(hA36 _ _ _).2 (by
        refine ET 6 (v:=(.BZ [(.agg (AG q35.1)),(.bool q35.2)])) rfl U (by kernel_rfl) (by kernel_rfl) (by kernel_rfl) rfl (F8 U) ?_
        exact AH (AF (L:=[(2,(i64 p2)),(3,(ls eI p3)),(46,(.BZ [(.agg (AG q35.1)),(.bool q35.2)]))]) ⟨.rfl,.rfl,.rfl,trivial⟩) (AR (by kernel_rfl) ((hA36 _ _ _).1 A36_0123456)) rfl)
       have A36_0123459:A36 5 #[true,true,true,true,true,true,false,false,false,true,false,false] ⟨149,Ad [(2,(i64 p2)),(3,(ls eI p3)),(12,(.ptr 0 0 0 0)),(52,(.BZ [(.agg (AG q35.1)),(.bool q35.2)]))],[E6]⟩:=(hA36 _ _ _).2 (by
        refine ET 6 (v:=(.BZ [(.agg (AG q35.1)),(.bool q35.2)])) rfl U (by kernel_rfl) (by kernel_rfl) (by kernel_rfl) rfl (F8 U) ?_
        exact AH (AF (L:=[(2,(i64 p2)),(3,(ls eI p3)),(12,(.ptr 0 0 0 0)),(46,(.BZ [(.agg (AG q35.1)),(.bool q35.2)]))]) ⟨.rfl,.rfl,.rfl,.rfl,trivial⟩) (AR (by kernel_rfl) ((hA36 _ _ _).1 A36_01234569)) rfl)
       have A36_012349:A36 6 #[true,true,true,true,true,false,false,false,false,true,false,false] ⟨149,Ad (YF c34 p0 p2 p3),[E6]⟩:=(hA36 _ _ _).2 (by
        refine An [5] U (by kernel_rfl) (by decide) ⟨?_,trivial⟩
        ·refine A5.of (i:=5) rfl U (by rfl) ?_
         refine zc (v':=(.BZ [(.agg (AG q35.1)),(.bool q35.2)])) Ty (HT gq35) rfl U U (AB ⟨U,?_⟩)
         exact AH (AF (L:=[(2,(i64 p2)),(3,(ls eI p3)),(12,(.ptr 0 0 0 0)),(52,(.BZ [(.agg (AG q35.1)),(.bool q35.2)]))]) ⟨.rfl,.rfl,.rfl,.rfl,trivial⟩) (AR (by kernel_rfl) ((hA36 _ _ _).1 A36_0123459)) rfl)
       have A36_01234:A36 7 #[true,true,true,true,true,false,false,false,false,false,false,false] ⟨149,Ad [(2,(i64 p2)),(3,(ls eI p3)),(48,(ls AG p0.decls)),(51,(i64 c34))],[]⟩:=(hA36 _ _ _).2 (by
        refine An [5,9] U (by kernel_rfl) (by decide) ⟨?_,?_,trivial⟩
        ·refine A5.of (i:=5) rfl U (by rfl) ?_
         refine zc (v':=(.BZ [(.agg (AG q35.1)),(.bool q35.2)])) Ty (HT gq35) rfl U U (AB ⟨U,?_⟩)
         exact AH (AF (L:=[(2,(i64 p2)),(3,(ls eI p3)),(52,(.BZ [(.agg (AG q35.1)),(.bool q35.2)]))]) ⟨.rfl,.rfl,.rfl,trivial⟩) (AR (by kernel_rfl) ((hA36 _ _ _).1 A36_012345)) rfl
        ·refine A5.of (i:=9) rfl U (by rfl) ?_
         refine Ap (m:=0) (st':=[E6]) Ah B2 U U (AB ⟨U,?_⟩)
         exact AH (AF (L:=(YF c34 p0 p2 p3)) ⟨.rfl,.rfl,.rfl,.rfl,.rfl,trivial⟩) (AR (by kernel_rfl) ((hA36 _ _ _).1 A36_012349)) rfl)
       have A36_01239:A36 7 #[true,true,true,true,false,false,false,false,false,true,false,false] ⟨149,Ad (X2 c34 p0 p2 p3),[E6]⟩:=(hA36 _ _ _).2 (by
        refine An [4] U (by kernel_rfl) (by decide) ⟨?_,trivial⟩
        ·refine A5.of (i:=4) rfl U (by rfl) ?_
         refine zq tb U (AB ⟨U,?_⟩)
         exact AH (AF (L:=(YF c34 p0 p2 p3)) ⟨.rfl,.rfl,.rfl,.rfl,.rfl,trivial⟩) (AR (by kernel_rfl) ((hA36 _ _ _).1 A36_012349)) rfl)
       have A36_0123:A36 8 #[true,true,true,true,false,false,false,false,false,false,false,false] ⟨149,Ad (Wu c34 p0 p2 p3),[]⟩:=(hA36 _ _ _).2 (by
        refine An [4,9] U (by kernel_rfl) (by decide) ⟨?_,?_,trivial⟩
        ·refine A5.of (i:=4) rfl U (by rfl) ?_
         refine zq tb U (AB ⟨U,?_⟩)
         exact AH (AF (L:=[(2,(i64 p2)),(3,(ls eI p3)),(48,(ls AG p0.decls)),(51,(i64 c34))]) ⟨.rfl,.rfl,.rfl,.rfl,trivial⟩) (AR (by kernel_rfl) ((hA36 _ _ _).1 A36_01234)) rfl
        ·refine A5.of (i:=9) rfl U (by rfl) ?_
         refine Ap (m:=0) (st':=[E6]) Ah B2 U U (AB ⟨U,?_⟩)
         exact AH (AF (L:=(X2 c34 p0 p2 p3)) ⟨.rfl,.rfl,.rfl,.rfl,.rfl,trivial⟩) (AR (by kernel_rfl) ((hA36 _ _ _).1 A36_01239)) rfl)
       have A36_0129:A36 8 #[true,true,true,false,false,false,false,false,false,true,false,false] ⟨149,Ad (Zm p0 p2 p3),[E6]⟩:=(hA36 _ _ _).2 (by
        refine An [3] U (by kernel_rfl) (by decide) ⟨?_,trivial⟩
        ·refine A5.of (i:=3) rfl U (by rfl) ?_
         refine zx BN gc34 U U U (AB ⟨U,?_⟩)
         exact AH (AF (L:=(X2 c34 p0 p2 p3)) ⟨.rfl,.rfl,.rfl,.rfl,.rfl,trivial⟩) (AR (by kernel_rfl) ((hA36 _ _ _).1 A36_01239)) rfl)
       have A36_012:A36 9 #[true,true,true,false,false,false,false,false,false,false,false,false] ⟨149,Ad [(2,(i64 p2)),(3,(ls eI p3)),(48,(ls AG p0.decls)),(49,(ls eI p3))],[]⟩:=(hA36 _ _ _).2 (by
        refine An [3,9] U (by kernel_rfl) (by decide) ⟨?_,?_,trivial⟩
        ·refine A5.of (i:=3) rfl U (by rfl) ?_
         refine zx BN gc34 U U U (AB ⟨U,?_⟩)
         exact AH (AF (L:=(Wu c34 p0 p2 p3)) ⟨.rfl,.rfl,.rfl,.rfl,trivial⟩) (AR (by kernel_rfl) ((hA36 _ _ _).1 A36_0123)) rfl
        ·refine A5.of (i:=9) rfl U (by rfl) ?_
         refine Ap (m:=0) (st':=[E6]) Ah B2 U U (AB ⟨U,?_⟩)
         exact AH (AF (L:=(Zm p0 p2 p3)) ⟨.rfl,.rfl,.rfl,.rfl,.rfl,trivial⟩) (AR (by kernel_rfl) ((hA36 _ _ _).1 A36_0129)) rfl)
       have A36_02349:A36 7 #[true,false,true,true,true,false,false,false,false,true,false,false] ⟨149,Ad (XQ c34 p2 p3),[E6,⟨0,49,2,[(AL p0)]⟩]⟩:=(hA36 _ _ _).2 (by
        refine An [1] U (by kernel_rfl) (by decide) ⟨?_,trivial⟩
        ·refine A5.of (i:=1) rfl U (by rfl) ?_
         refine zq tb U (AB ⟨U,?_⟩)
         exact AH (by refine Wk.trans (AP (L:=(YF c34 p0 p2 p3)) (st':=[E6]) (st1:=[E6]) [0] U .nil (by decide) rfl U (.raw U U .nil) ⟨.rfl,.rfl,.rfl,.rfl,.rfl,trivial⟩) ?_;exact AF (L:=(YF c34 p0 p2 p3)) ⟨.rfl,.rfl,.rfl,.rfl,.rfl,trivial⟩) (AR (by kernel_rfl) ((hA36 _ _ _).1 A36_012349)) rfl)
       have A36_0234:A36 8 #[true,false,true,true,true,false,false,false,false,false,false,false] ⟨149,Ad [(2,(i64 p2)),(3,(ls eI p3)),(47,(.ptr 0 0 0 0)),(51,(i64 c34))],[⟨0,49,2,[(AL p0)]⟩]⟩:=(hA36 _ _ _).2 (by
        refine An [1,9] U (by kernel_rfl) (by decide) ⟨?_,?_,trivial⟩
        ·refine A5.of (i:=1) rfl U (by rfl) ?_
         refine zq tb U (AB ⟨U,?_⟩)
         exact AH (by refine Wk.trans (AP (L:=[(2,(i64 p2)),(3,(ls eI p3)),(48,(ls AG p0.decls)),(51,(i64 c34))]) (st':=[]) (st1:=[]) [] U .nil (by decide) rfl U .nil ⟨.rfl,.rfl,.rfl,.rfl,trivial⟩) ?_;exact AF (L:=[(2,(i64 p2)),(3,(ls eI p3)),(48,(ls AG p0.decls)),(51,(i64 c34))]) ⟨.rfl,.rfl,.rfl,.rfl,trivial⟩) (AR (by kernel_rfl) ((hA36 _ _ _).1 A36_01234)) rfl
        ·refine A5.of (i:=9) rfl U (by rfl) ?_
         refine Ap (m:=1) (st':=[⟨0,49,2,[(AL p0)]⟩,E6]) Ah B2 U U (AB ⟨U,?_⟩)
         exact AH (by refine Wk.trans (AP (L:=(XQ c34 p2 p3)) (st':=[E6,⟨0,49,2,[(AL p0)]⟩]) (st1:=[E6,⟨0,49,2,[(AL p0)]⟩]) [1,0] U .nil (by decide) rfl U (.raw U U (.raw U U .nil)) ⟨.rfl,.rfl,.rfl,.rfl,.rfl,trivial⟩) ?_;exact AF (L:=(XQ c34 p2 p3)) ⟨.rfl,.rfl,.rfl,.rfl,.rfl,trivial⟩) (AR (by kernel_rfl) ((hA36 _ _ _).1 A36_02349)) rfl)
       have A36_0239:A36 8 #[true,false,true,true,false,false,false,false,false,true,false,false] ⟨149,Ad (Xy c34 p2 p3),[E6,⟨0,49,2,[(AL p0)]⟩]⟩:=(hA36 _ _ _).2 (by
        refine An [1,4] U (by kernel_rfl) (by decide) ⟨?_,?_,trivial⟩
        ·refine A5.of (i:=1) rfl U (by rfl) ?_
         refine zq tb U (AB ⟨U,?_⟩)
         exact AH (by refine Wk.trans (AP (L:=(X2 c34 p0 p2 p3)) (st':=[E6]) (st1:=[E6]) [0] U .nil (by decide) rfl U (.raw U U .nil) ⟨.rfl,.rfl,.rfl,.rfl,.rfl,trivial⟩) ?_;exact AF (L:=(X2 c34 p0 p2 p3)) ⟨.rfl,.rfl,.rfl,.rfl,.rfl,trivial⟩) (AR (by kernel_rfl) ((hA36 _ _ _).1 A36_01239)) rfl
        ·refine A5.of (i:=4) rfl U (by rfl) ?_
         refine zq tb U (AB ⟨U,?_⟩)
         exact AH (AF (L:=(XQ c34 p2 p3)) ⟨.rfl,.rfl,.rfl,.rfl,.rfl,trivial⟩) (AR (by kernel_rfl) ((hA36 _ _ _).1 A36_02349)) rfl)
       have A36_023:A36 9 #[true,false,true,true,false,false,false,false,false,false,false,false] ⟨149,Ad [(2,(i64 p2)),(3,(ls eI p3)),(47,(.ptr 0 0 0 0)),(50,(.BF (eI c34) 0))],[⟨0,49,2,[(AL p0)]⟩]⟩:=(hA36 _ _ _).2 (by
        refine An [1,4,9] U (by kernel_rfl) (by decide) ⟨?_,?_,?_,trivial⟩
        ·refine A5.of (i:=1) rfl U (by rfl) ?_
         refine zq tb U (AB ⟨U,?_⟩)
         exact AH (by refine Wk.trans (AP (L:=(Wu c34 p0 p2 p3)) (st':=[]) (st1:=[]) [] U .nil (by decide) rfl U .nil ⟨.rfl,.rfl,.rfl,.rfl,trivial⟩) ?_;exact AF (L:=(Wu c34 p0 p2 p3)) ⟨.rfl,.rfl,.rfl,.rfl,trivial⟩) (AR (by kernel_rfl) ((hA36 _ _ _).1 A36_0123)) rfl
        ·refine A5.of (i:=4) rfl U (by rfl) ?_
         refine zq tb U (AB ⟨U,?_⟩)
         exact AH (AF (L:=[(2,(i64 p2)),(3,(ls eI p3)),(47,(.ptr 0 0 0 0)),(51,(i64 c34))]) ⟨.rfl,.rfl,.rfl,.rfl,trivial⟩) (AR (by kernel_rfl) ((hA36 _ _ _).1 A36_0234)) rfl
        ·refine A5.of (i:=9) rfl U (by rfl) ?_
         refine Ap (m:=1) (st':=[⟨0,49,2,[(AL p0)]⟩,E6]) Ah B2 U U (AB ⟨U,?_⟩)
         exact AH (by refine Wk.trans (AP (L:=(Xy c34 p2 p3)) (st':=[E6,⟨0,49,2,[(AL p0)]⟩]) (st1:=[E6,⟨0,49,2,[(AL p0)]⟩]) [1,0] U .nil (by decide) rfl U (.raw U U (.raw U U .nil)) ⟨.rfl,.rfl,.rfl,.rfl,.rfl,trivial⟩) ?_;exact AF (L:=(Xy c34 p2 p3)) ⟨.rfl,.rfl,.rfl,.rfl,.rfl,trivial⟩) (AR (by kernel_rfl) ((hA36 _ _ _).1 A36_0239)) rfl)
       have A36_029:A36 9 #[true,false,true,false,false,false,false,false,false,true,false,false] ⟨149,Ad (YQ p2 p3),[E6,⟨0,49,2,[(AL p0)]⟩]⟩:=(hA36 _ _ _).2 (by
        refine An [1,3] U (by kernel_rfl) (by decide) ⟨?_,?_,trivial⟩
        ·refine A5.of (i:=1) rfl U (by rfl) ?_
         refine zq tb U (AB ⟨U,?_⟩)
         exact AH (by refine Wk.trans (AP (L:=(Zm p0 p2 p3)) (st':=[E6]) (st1:=[E6]) [0] U .nil (by decide) rfl U (.raw U U .nil) ⟨.rfl,.rfl,.rfl,.rfl,.rfl,trivial⟩) ?_;exact AF (L:=(Zm p0 p2 p3)) ⟨.rfl,.rfl,.rfl,.rfl,.rfl,trivial⟩) (AR (by kernel_rfl) ((hA36 _ _ _).1 A36_0129)) rfl
        ·refine A5.of (i:=3) rfl U (by rfl) ?_
         refine zx BN gc34 U U U (AB ⟨U,?_⟩)
         exact AH (AF (L:=(Xy c34 p2 p3)) ⟨.rfl,.rfl,.rfl,.rfl,.rfl,trivial⟩) (AR (by kernel_rfl) ((hA36 _ _ _).1 A36_0239)) rfl)
       have A36_02:A36 10 #[true,false,true,false,false,false,false,false,false,false,false,false] ⟨149,Ad [(2,(i64 p2)),(3,(ls eI p3)),(47,(.ptr 0 0 0 0)),(49,(ls eI p3))],[⟨0,49,2,[(AL p0)]⟩]⟩:=(hA36 _ _ _).2 (by
        refine An [1,3,9] U (by kernel_rfl) (by decide) ⟨?_,?_,?_,trivial⟩
        ·refine A5.of (i:=1) rfl U (by rfl) ?_
         refine zq tb U (AB ⟨U,?_⟩)
         exact AH (by refine Wk.trans (AP (L:=[(2,(i64 p2)),(3,(ls eI p3)),(48,(ls AG p0.decls)),(49,(ls eI p3))]) (st':=[]) (st1:=[]) [] U .nil (by decide) rfl U .nil ⟨.rfl,.rfl,.rfl,.rfl,trivial⟩) ?_;exact AF (L:=[(2,(i64 p2)),(3,(ls eI p3)),(48,(ls AG p0.decls)),(49,(ls eI p3))]) ⟨.rfl,.rfl,.rfl,.rfl,trivial⟩) (AR (by kernel_rfl) ((hA36 _ _ _).1 A36_012)) rfl
        ·refine A5.of (i:=3) rfl U (by rfl) ?_
         refine zx BN gc34 U U U (AB ⟨U,?_⟩)
         exact AH (AF (L:=[(2,(i64 p2)),(3,(ls eI p3)),(47,(.ptr 0 0 0 0)),(50,(.BF (eI c34) 0))]) ⟨.rfl,.rfl,.rfl,.rfl,trivial⟩) (AR (by kernel_rfl) ((hA36 _ _ _).1 A36_023)) rfl
        ·refine A5.of (i:=9) rfl U (by rfl) ?_
         refine Ap (m:=1) (st':=[⟨0,49,2,[(AL p0)]⟩,E6]) Ah B2 U U (AB ⟨U,?_⟩)
         exact AH (by refine Wk.trans (AP (L:=(YQ p2 p3)) (st':=[E6,⟨0,49,2,[(AL p0)]⟩]) (st1:=[E6,⟨0,49,2,[(AL p0)]⟩]) [1,0] U .nil (by decide) rfl U (.raw U U (.raw U U .nil)) ⟨.rfl,.rfl,.rfl,.rfl,.rfl,trivial⟩) ?_;exact AF (L:=(YQ p2 p3)) ⟨.rfl,.rfl,.rfl,.rfl,.rfl,trivial⟩) (AR (by kernel_rfl) ((hA36 _ _ _).1 A36_029)) rfl)
       have A36_2349:A36 8 #[false,false,true,true,true,false,false,false,false,true,false,false] ⟨149,Ad [(2,(i64 p2)),(3,(ls eI p3)),(4,(.ptr 0 0 0 0)),(12,(.ptr 1 0 0 0)),(51,(i64 c34))],[⟨0,49,2,[(AL p0)]⟩,E6]⟩:=(hA36 _ _ _).2 (by
        refine An [0] U (by kernel_rfl) (by decide) ⟨?_,trivial⟩
        ·refine A5.of (i:=0) rfl U (by rfl) ?_
         refine zq tb U (AB ⟨U,?_⟩)
         exact AH (by refine Wk.trans (AP (L:=(XQ c34 p2 p3)) (st':=[E6,⟨0,49,2,[(AL p0)]⟩]) (st1:=[E6,⟨0,49,2,[(AL p0)]⟩]) [1,0] U .nil (by decide) rfl U (.raw U U (.raw U U .nil)) ⟨.rfl,.rfl,.rfl,.rfl,.rfl,trivial⟩) ?_;exact AF (L:=(XQ c34 p2 p3)) ⟨.rfl,.rfl,.rfl,.rfl,.rfl,trivial⟩) (AR (by kernel_rfl) ((hA36 _ _ _).1 A36_02349)) rfl)
       have A36_234:A36 9 #[false,false,true,true,true,false,false,false,false,false,false,false] ⟨149,Ad [(2,(i64 p2)),(3,(ls eI p3)),(4,(.ptr 0 0 0 0)),(51,(i64 c34))],[⟨0,49,2,[(AL p0)]⟩]⟩:=(hA36 _ _ _).2 (by
        refine An [0,9] U (by kernel_rfl) (by decide) ⟨?_,?_,trivial⟩
        ·refine A5.of (i:=0) rfl U (by rfl) ?_
         refine zq tb U (AB ⟨U,?_⟩)
         exact AH (AF (L:=[(2,(i64 p2)),(3,(ls eI p3)),(47,(.ptr 0 0 0 0)),(51,(i64 c34))]) ⟨.rfl,.rfl,.rfl,.rfl,trivial⟩) (AR (by kernel_rfl) ((hA36 _ _ _).1 A36_0234)) rfl
        ·refine A5.of (i:=9) rfl U (by rfl) ?_
         refine Ap (m:=1) (st':=[⟨0,49,2,[(AL p0)]⟩,E6]) Ah B2 U U (AB ⟨U,?_⟩)
         exact AH (AF (L:=[(2,(i64 p2)),(3,(ls eI p3)),(4,(.ptr 0 0 0 0)),(12,(.ptr 1 0 0 0)),(51,(i64 c34))]) ⟨.rfl,.rfl,.rfl,.rfl,.rfl,trivial⟩) (AR (by kernel_rfl) ((hA36 _ _ _).1 A36_2349)) rfl)
       have A36_239:A36 9 #[false,false,true,true,false,false,false,false,false,true,false,false] ⟨149,Ad [(2,(i64 p2)),(3,(ls eI p3)),(4,(.ptr 0 0 0 0)),(12,(.ptr 1 0 0 0)),(50,(.BF (eI c34) 0))],[⟨0,49,2,[(AL p0)]⟩,E6]⟩:=(hA36 _ _ _).2 (by
        refine An [0,4] U (by kernel_rfl) (by decide) ⟨?_,?_,trivial⟩
        ·refine A5.of (i:=0) rfl U (by rfl) ?_
         refine zq tb U (AB ⟨U,?_⟩)
         exact AH (by refine Wk.trans (AP (L:=(Xy c34 p2 p3)) (st':=[E6,⟨0,49,2,[(AL p0)]⟩]) (st1:=[E6,⟨0,49,2,[(AL p0)]⟩]) [1,0] U .nil (by decide) rfl U (.raw U U (.raw U U .nil)) ⟨.rfl,.rfl,.rfl,.rfl,.rfl,trivial⟩) ?_;exact AF (L:=(Xy c34 p2 p3)) ⟨.rfl,.rfl,.rfl,.rfl,.rfl,trivial⟩) (AR (by kernel_rfl) ((hA36 _ _ _).1 A36_0239)) rfl
        ·refine A5.of (i:=4) rfl U (by rfl) ?_
         refine zq tb U (AB ⟨U,?_⟩)
         exact AH (AF (L:=[(2,(i64 p2)),(3,(ls eI p3)),(4,(.ptr 0 0 0 0)),(12,(.ptr 1 0 0 0)),(51,(i64 c34))]) ⟨.rfl,.rfl,.rfl,.rfl,.rfl,trivial⟩) (AR (by kernel_rfl) ((hA36 _ _ _).1 A36_2349)) rfl)
       have A36_23:A36 10 #[false,false,true,true,false,false,false,false,false,false,false,false] ⟨149,Ad [(2,(i64 p2)),(3,(ls eI p3)),(4,(.ptr 0 0 0 0)),(50,(.BF (eI c34) 0))],[⟨0,49,2,[(AL p0)]⟩]⟩:=(hA36 _ _ _).2 (by
        refine An [0,4,9] U (by kernel_rfl) (by decide) ⟨?_,?_,?_,trivial⟩
        ·refine A5.of (i:=0) rfl U (by rfl) ?_
         refine zq tb U (AB ⟨U,?_⟩)
         exact AH (AF (L:=[(2,(i64 p2)),(3,(ls eI p3)),(47,(.ptr 0 0 0 0)),(50,(.BF (eI c34) 0))]) ⟨.rfl,.rfl,.rfl,.rfl,trivial⟩) (AR (by kernel_rfl) ((hA36 _ _ _).1 A36_023)) rfl
        ·refine A5.of (i:=4) rfl U (by rfl) ?_
         refine zq tb U (AB ⟨U,?_⟩)
         exact AH (AF (L:=[(2,(i64 p2)),(3,(ls eI p3)),(4,(.ptr 0 0 0 0)),(51,(i64 c34))]) ⟨.rfl,.rfl,.rfl,.rfl,trivial⟩) (AR (by kernel_rfl) ((hA36 _ _ _).1 A36_234)) rfl
        ·refine A5.of (i:=9) rfl U (by rfl) ?_
         refine Ap (m:=1) (st':=[⟨0,49,2,[(AL p0)]⟩,E6]) Ah B2 U U (AB ⟨U,?_⟩)
         exact AH (AF (L:=[(2,(i64 p2)),(3,(ls eI p3)),(4,(.ptr 0 0 0 0)),(12,(.ptr 1 0 0 0)),(50,(.BF (eI c34) 0))]) ⟨.rfl,.rfl,.rfl,.rfl,.rfl,trivial⟩) (AR (by kernel_rfl) ((hA36 _ _ _).1 A36_239)) rfl)
       have A36_29:A36 10 #[false,false,true,false,false,false,false,false,false,true,false,false] ⟨149,Ad [(2,(i64 p2)),(3,(ls eI p3)),(4,(.ptr 0 0 0 0)),(12,(.ptr 1 0 0 0)),(49,(ls eI p3))],[⟨0,49,2,[(AL p0)]⟩,E6]⟩:=(hA36 _ _ _).2 (by
        refine An [0,3] U (by kernel_rfl) (by decide) ⟨?_,?_,trivial⟩
        ·refine A5.of (i:=0) rfl U (by rfl) ?_
         refine zq tb U (AB ⟨U,?_⟩)
         exact AH (by refine Wk.trans (AP (L:=(YQ p2 p3)) (st':=[E6,⟨0,49,2,[(AL p0)]⟩]) (st1:=[E6,⟨0,49,2,[(AL p0)]⟩]) [1,0] U .nil (by decide) rfl U (.raw U U (.raw U U .nil)) ⟨.rfl,.rfl,.rfl,.rfl,.rfl,trivial⟩) ?_;exact AF (L:=(YQ p2 p3)) ⟨.rfl,.rfl,.rfl,.rfl,.rfl,trivial⟩) (AR (by kernel_rfl) ((hA36 _ _ _).1 A36_029)) rfl
        ·refine A5.of (i:=3) rfl U (by rfl) ?_
         refine zx BN gc34 U U U (AB ⟨U,?_⟩)
         exact AH (AF (L:=[(2,(i64 p2)),(3,(ls eI p3)),(4,(.ptr 0 0 0 0)),(12,(.ptr 1 0 0 0)),(50,(.BF (eI c34) 0))]) ⟨.rfl,.rfl,.rfl,.rfl,.rfl,trivial⟩) (AR (by kernel_rfl) ((hA36 _ _ _).1 A36_239)) rfl)
       have A36_2:A36 11 #[false,false,true,false,false,false,false,false,false,false,false,false] ⟨149,Ad [(2,(i64 p2)),(3,(ls eI p3)),(4,(.ptr 0 0 0 0)),(49,(ls eI p3))],[⟨0,49,2,[(AL p0)]⟩]⟩:=(hA36 _ _ _).2 (by
        refine An [0,3,9] U (by kernel_rfl) (by decide) ⟨?_,?_,?_,trivial⟩
        ·refine A5.of (i:=0) rfl U (by rfl) ?_
         refine zq tb U (AB ⟨U,?_⟩)
         exact AH (AF (L:=[(2,(i64 p2)),(3,(ls eI p3)),(47,(.ptr 0 0 0 0)),(49,(ls eI p3))]) ⟨.rfl,.rfl,.rfl,.rfl,trivial⟩) (AR (by kernel_rfl) ((hA36 _ _ _).1 A36_02)) rfl
        ·refine A5.of (i:=3) rfl U (by rfl) ?_
         refine zx BN gc34 U U U (AB ⟨U,?_⟩)
         exact AH (AF (L:=[(2,(i64 p2)),(3,(ls eI p3)),(4,(.ptr 0 0 0 0)),(50,(.BF (eI c34) 0))]) ⟨.rfl,.rfl,.rfl,.rfl,trivial⟩) (AR (by kernel_rfl) ((hA36 _ _ _).1 A36_23)) rfl
        ·refine A5.of (i:=9) rfl U (by rfl) ?_
         refine Ap (m:=1) (st':=[⟨0,49,2,[(AL p0)]⟩,E6]) Ah B2 U U (AB ⟨U,?_⟩)
         exact AH (AF (L:=[(2,(i64 p2)),(3,(ls eI p3)),(4,(.ptr 0 0 0 0)),(12,(.ptr 1 0 0 0)),(49,(ls eI p3))]) ⟨.rfl,.rfl,.rfl,.rfl,.rfl,trivial⟩) (AR (by kernel_rfl) ((hA36 _ _ _).1 A36_29)) rfl)
       have A36_e:A36 12 #[false,false,false,false,false,false,false,false,false,false,false,false] ⟨149,Ad [(2,(i64 p2)),(3,(ls eI p3)),(4,(.ptr 0 0 0 0))],[⟨0,49,2,[(AL p0)]⟩]⟩:=(hA36 _ _ _).2 (by
        refine ET 2 (v:=(ls eI p3)) rfl U (by kernel_rfl) (by kernel_rfl) (by kernel_rfl) rfl (F8 U) ?_
        exact AH (AF (L:=[(2,(i64 p2)),(3,(ls eI p3)),(4,(.ptr 0 0 0 0)),(49,(ls eI p3))]) ⟨.rfl,.rfl,.rfl,.rfl,trivial⟩) (AR (by kernel_rfl) ((hA36 _ _ _).1 A36_2)) rfl)
       refine (hA36 _ _ _).2 ?_
       exact AH (AF (L:=[(2,(i64 p2)),(3,(ls eI p3)),(4,(.ptr 0 0 0 0))]) ⟨.rfl,.rfl,.rfl,trivial⟩) (AR (by kernel_rfl) ((hA36 _ _ _).1 A36_e)) rfl
     ·intro b26 h1
      refine zr tb U U ?_
      refine ci h1 U ?_ ?_ <;> clear h1
      ·intro b38 h1
       refine sr U fun K39 hK39=>zm tb 3 U (bs h1 fun q40 gq40 h1=>zc (v':=(.BZ [(i64 q40.1),(.agg (Ar q40.2))])) Yo (Ml gq40) rfl U U (zm tb 3 U (Ap (m:=1) (st':=[⟨0,49,2,[(AL p0)]⟩,⟨0,134,1,[[.zc]]⟩]) Ah Kd U U (zq tb U (A3 (st':=[⟨0,49,2,[(AL p0)]⟩,⟨0,134,1,[(Ar q40.2)]⟩]) Ah Ix U U U U U U (show 0+1≤1 by decide) rfl (dn hK39 U (AE fun K41 hK41=>bs h1 fun o43 h2 h1=>?_)))))))
       have M43 :∀(t42:Bool),o43=t42→∀s,Wk 0 s ⟨149,Ad [(8,(i64 q40.1)),(9,(.bool t42))],[]⟩→K41 s:=by
        intro t42 hq s hw
        subst o43
        try dsimp only at h1
        refine hK41 _ (AS hw ?_)
        replace h1:=Sh.AA h1
        subst o5
        try dsimp only[id] at h0
        replace h0:=Sh.AA h0
        subst r
        exact AK (xr (AF (L:=[(8,(i64 q40.1)),(9,(.bool t42))]) ⟨.rfl,.rfl,trivial⟩))
       refine AJ U (zm tb 4 U ?_)
       rcases Sh.As h2 with ⟨b44,h2⟩ | ⟨b44,h2⟩
       ·exact zg tb b44 U (zg tb b44 U (zg tb b44 U (bs h2 fun q45 gq45 h2=>zd b44 TV (Ej gq45) rfl U U U (zt b44 U (zm tb 2 U (AB (M43 q45 (Sh.AA h2).symm _ (Ai _ U))))))))
       ·refine zs b44 U ?_
        iterate 3 refine zs b44 rfl ?_
        exact zf b44 U (zm tb 2 U (AB (M43 false (Sh.AA h2).symm _ (Ai _ U))))
      ·intro b38 h1
       refine AE fun K46 hK46=>bs h1 fun o48 h2 h1=>?_
       have M48 :∀(t47:Bool),o48=t47→∀s,Wk 0 s ⟨149,Ad [(1,(i64 p1)),(2,(i64 p2)),(3,(ls eI p3)),(4,(.ptr 0 0 0 0)),(88,(.bool t47))],[⟨0,49,2,[(AL p0)]⟩]⟩→K46 s:=by
        intro t47 hq s hw
        subst o48
        try dsimp only at h1
        refine hK46 _ (AS hw ?_)
        refine ci h1 U ?_ ?_ <;> clear h1
        ·intro b49 h1
         refine AE fun K50 hK50=>AE fun K51 hK51=>bs h1 fun o53 h2 h1=>?_
         have M53 :∀(t52:Bool),o53=t52→∀s,Wk 0 s ⟨149,Ad [(1,(i64 p1)),(2,(i64 p2)),(3,(ls eI p3)),(4,(.ptr 0 0 0 0)),(99,(.bool t52))],[⟨0,49,2,[(AL p0)]⟩]⟩→K51 s:=by
          intro t52 hq s hw
          subst o53
          try dsimp only at h1
          refine hK51 _ (AS hw ?_)
          refine ci h1 U ?_ ?_ <;> clear h1
          ·intro b54 h1
           refine zr tb U U ?_
           replace h1:=Sh.AA h1
           subst o5
           try dsimp only[id] at h0
           replace h0:=Sh.AA h0
           subst r
           exact AK (xr (Ai [(8,(i64 (-1))),(9,(.bool false))] U))
          ·intro b54 h1
           refine AI (hK50 _ (AE fun K56 hK56=>?_))
           refine Bz (by kernel_rfl) (by kernel_rfl) (by rfl) ?_
           iterate 3 refine yq tb rfl ?_
           refine bs h1 fun c57 gc57 h1=>yx QZ gc57 U U U ?_
           iterate 5 refine yq tb rfl ?_
           refine yx QZ gc57 U U U ?_
           iterate 4 refine yq tb rfl ?_
           refine BS (hK56 _ (AE fun K58 hK58=>zr tb U U ?_))
           refine ci h1 U ?_ ?_ <;> clear h1
           ·intro b60 h1
            refine sr U fun K61 hK61=>zm tb 3 U (bs h1 fun q62 gq62 h1=>zc TV (Ej gq62) rfl U U (zm tb 2 U (dn hK61 U ?_)))
            replace h1:=Sh.AA h1
            subst o5
            try dsimp only[id] at h0
            replace h0:=Sh.AA h0
            subst r
            exact AK (xr (Ai [(8,(i64 c57.result)),(9,(.bool q62))] U))
           ·intro b60 h1
            refine AI (hK58 _ (sr U fun K63 hK63=>zq tb U (zl tb U U (zm tb 2 U (dn hK63 U (AE fun K64 hK64=>zr tb U U ?_))))))
            refine ci h1 U ?_ ?_ <;> clear h1
            ·intro b66 h1
             refine zr tb U U ?_
             replace h1:=Sh.AA h1
             subst o5
             try dsimp only[id] at h0
             replace h0:=Sh.AA h0
             subst r
             exact AK (xr (Ai [(8,(i64 (-1))),(9,(.bool false))] U))
            ·intro b66 h1
             refine AI (hK64 _ (AE fun K68 hK68=>?_))
             refine Bz (by kernel_rfl) (by kernel_rfl) (by rfl) ?_
             iterate 4 refine yq tb rfl ?_
             refine bs h1 fun c69 gc69 h1=>yx BN gc69 U U U ?_
             iterate 2 refine yq tb rfl ?_
             refine bs h1 fun q70 gq70 h1=>CR (v:=(i64 q70)) Ah bX (QB gq70) rfl U U (yq tb U (BS (hK68 _ (AE fun K71 hK71=>bs h1 fun o73 h2 h1=>?_))))
             have M73 :∀(t72:Bool),o73=t72→∀s,Wk 0 s ⟨149,Ad [(8,(i64 q70)),(9,(.bool t72))],[]⟩→K71 s:=by
              intro t72 hq s hw
              subst o73
              try dsimp only at h1
              refine hK71 _ (AS hw ?_)
              replace h1:=Sh.AA h1
              subst o5
              try dsimp only[id] at h0
              replace h0:=Sh.AA h0
              subst r
              exact AK (xr (AF (L:=[(8,(i64 q70)),(9,(.bool t72))]) ⟨.rfl,.rfl,trivial⟩))
             refine AJ U (zm tb 4 U ?_)
             rcases Sh.As h2 with ⟨b74,h2⟩ | ⟨b74,h2⟩
             ·exact zg tb b74 U (zg tb b74 U (zg tb b74 U (bs h2 fun l75 gl75 h2=>Tv (i:=0) (j:=Sh.w ((Sh.len c57.params) - 1)) (Bb U U b74) BN U U U (fun _=>U) gl75 (bs h2 fun q76 gq76 h2=>zd b74 TV (Ej gq76) rfl U U U (zt b74 U (zm tb 2 U (AB (M73 q76 (Sh.AA h2).symm _ (Ai _ U)))))))))
             ·refine zs b74 U ?_
              iterate 4 refine zs b74 rfl ?_
              exact zf b74 U (zm tb 2 U (AB (M73 false (Sh.AA h2).symm _ (Ai _ U))))
         refine AJ U (zm tb 3 U ?_)
         rcases Sh.As h2 with ⟨b77,h2⟩ | ⟨b77,h2⟩
         ·refine zs b77 U ?_
          iterate 4 refine zs b77 rfl ?_
          exact zt b77 U (AB (M53 true (Sh.AA h2).symm _ (AN U)))
         ·exact zg tb b77 U (zg tb b77 U (zg tb b77 U (A7 (v:=(i64 (Sh.len p0.funcs))) (Bb U U b77) rfl (Bo WQ U) (zg tb b77 U (zf b77 U (AB (M53 (decide ((Sh.len p0.funcs)≤p2)) (Sh.AA h2).symm _ (AN U))))))))
        ·intro b49 h1
         refine zr tb U U ?_
         replace h1:=Sh.AA h1
         subst o5
         try dsimp only[id] at h0
         replace h0:=Sh.AA h0
         subst r
         exact AK (xr (Ai [(8,(i64 (-1))),(9,(.bool false))] U))
       refine zr tb U U ?_
       refine ci h2 U ?_ ?_ <;> clear h2
       ·intro b80 h2
        exact AI (M48 true (Sh.AA h2).symm _ (AF (L:=[(1,(i64 p1)),(2,(i64 p2)),(3,(ls eI p3)),(4,(.ptr 0 0 0 0)),(88,(.bool true))]) ⟨.rfl,.rfl,.rfl,.rfl,(.of (congrArg AV.bool b80)),trivial⟩))
       ·intro b80 h2
        exact AJ U (zm tb 2 U (AB (M48 (decide (p1=10)) (Sh.AA h2).symm _ (AN U))))
  refine zr tb U U ?_
  refine ci h2 U ?_ ?_ <;> clear h2
  ·intro b82 h2
   exact AI (M21 true (Sh.AA h2).symm _ (AF (L:=(an p1 p2 p3)) ⟨.rfl,.rfl,.rfl,.rfl,.rfl,.rfl,(.of (congrArg AV.bool b82)),trivial⟩))
  ·intro b82 h2
   refine zr tb U U ?_
   refine ci h2 U ?_ ?_ <;> clear h2
   ·intro b84 h2
    exact AI (M21 true (Sh.AA h2).symm _ (AF (L:=(an p1 p2 p3)) ⟨.rfl,.rfl,.rfl,.rfl,.rfl,.rfl,(.of (congrArg AV.bool b84)),trivial⟩))
   ·intro b84 h2
    refine zr tb U U ?_
    refine ci h2 U ?_ ?_ <;> clear h2
    ·intro b86 h2
     exact AI (M21 true (Sh.AA h2).symm _ (AF (L:=(an p1 p2 p3)) ⟨.rfl,.rfl,.rfl,.rfl,.rfl,.rfl,(.of (congrArg AV.bool b86)),trivial⟩))
    ·intro b86 h2
     exact AJ U (zm tb 2 U (AB (M21 (decide (p1=4)) (Sh.AA h2).symm _ (AN U))))
end Go.Proofs.YtcegihniiokijaaGreat

