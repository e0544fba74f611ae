import Derived.Test.YtobjlimoekffaaaGreatProg
import Derived.Test.YtobjlimoekffaaaGreatGEncCToGCDefs
import Derived.Test.YtobjlimoekffaaaGreatGCWalkP0
namespace Go.Proofs.YtobjlimoekffaaaGreat
open Go Go.Abs RC
attribute [local irreducible] Go.Abs.DB
set_option maxRecDepth 100000
set_option maxHeartbeats 4000000

theorem Yd:JS Tryz.prog 138=true:=by kernel_rfl
theorem bQ:JS Tryz.prog 172=true:=by kernel_rfl
theorem ZX:KD Tryz.prog 138=some [(0,1),(1,1)]:=by kernel_rfl
theorem bY:KD Tryz.prog 172=some [(0,1),(1,1),(2,1)]:=by kernel_rfl
theorem ML:Cn Tryz.prog 136=some ⟨172,3,56,[.sl [],.sl [],.int .i64 0]⟩:=by kernel_rfl
theorem IQ:Cn Tryz.prog 92=some ⟨4,1,1,[.bool false]⟩:=by kernel_rfl
theorem XH:Cn Tryz.prog 95=some ⟨26,1,24,[.sl []]⟩:=by kernel_rfl
theorem cg:AZ Tryz.prog 117=true:=by kernel_rfl
theorem Tl:AZ Tryz.prog 118=true:=by kernel_rfl
theorem cM:AZ Tryz.prog 122=true:=by kernel_rfl
theorem Ze:AZ Tryz.prog 123=true:=by kernel_rfl
theorem cB:AZ Tryz.prog 124=true:=by kernel_rfl
theorem YX:AZ Tryz.prog 128=true:=by kernel_rfl
theorem bJ:AZ Tryz.prog 137=true:=by kernel_rfl
theorem Y9:AZ Tryz.prog 138=true:=by kernel_rfl
theorem Tt:AZ Tryz.prog 139=true:=by kernel_rfl
theorem Za:AZ Tryz.prog 140=true:=by kernel_rfl
theorem dx:AZ Tryz.prog 25=true:=by kernel_rfl
theorem eC:AZ Tryz.prog 26=true:=by kernel_rfl
theorem dD:AZ Tryz.prog 27=true:=by kernel_rfl
theorem db:AZ Tryz.prog 43=true:=by kernel_rfl
theorem di:AZ Tryz.prog 49=true:=by kernel_rfl
theorem eg:AZ Tryz.prog 51=true:=by kernel_rfl
theorem eQ:AZ Tryz.prog 52=true:=by kernel_rfl
theorem dX:AZ Tryz.prog 53=true:=by kernel_rfl
theorem dP:AZ Tryz.prog 54=true:=by kernel_rfl
theorem dK:AZ Tryz.prog 55=true:=by kernel_rfl
theorem aY:AZ Tryz.prog 56=true:=by kernel_rfl
theorem dG:AZ Tryz.prog 58=true:=by kernel_rfl
theorem bA:AZ Tryz.prog 59=true:=by kernel_rfl
theorem eo:AZ Tryz.prog 60=true:=by kernel_rfl
theorem eu:AZ Tryz.prog 81=true:=by kernel_rfl
theorem ae:AZ Tryz.prog 82=true:=by kernel_rfl
theorem eY:AZ Tryz.prog 83=true:=by kernel_rfl
theorem fR:AZ Tryz.prog 84=true:=by kernel_rfl
theorem dH:AZ Tryz.prog 86=true:=by kernel_rfl
theorem dk:AZ Tryz.prog 87=true:=by kernel_rfl
theorem af:AZ Tryz.prog 88=true:=by kernel_rfl
theorem fE:AZ Tryz.prog 90=true:=by kernel_rfl
theorem SQ:Df Tryz.prog 102=true:=by kernel_rfl
theorem Tj:Df Tryz.prog 136=true:=by kernel_rfl
theorem TZ:Df Tryz.prog 39=true:=by kernel_rfl
theorem XL:Df Tryz.prog 40=true:=by kernel_rfl
theorem cW:CY Tryz.prog 136=some (false,1):=by kernel_rfl
theorem QH:CY Tryz.prog 138=some (true,2):=by kernel_rfl
theorem bW:CY Tryz.prog 172=some (true,3):=by kernel_rfl
theorem Qu:CY Tryz.prog 4=some (false,1):=by kernel_rfl
theorem SD:GR Tryz.prog 138=some [.zc,.zc]:=by kernel_rfl
theorem Yy:GR Tryz.prog 172=some [.zc,.zc,.int .i64 0]:=by kernel_rfl

theorem OR {N:Nat} {p0:(List Bool)} {p1:(List Int)} {r:Bool} (h0:GS N p0 p1=some r):AY Tryz.prog 117 [(ls eB p0),(ls eI p1)] [] (fun v st=>v=(.bool r)∧st=[]):=by
 unfold GS at h0
 refine ai Tryz.func117 U U U U (zr tb U U (AB fun K2 hK2=>zr tb U U ?_))
 obtain⟨o5,h1,h0⟩:=Sh.A1 h0
 have M5 :∀(_:Unit),o5=Sum.inr ()→∀s,Wk 0 s ⟨28,AS [],[]⟩→K2 s:=by
  intro _ hq s hw
  subst o5
  try dsimp only at h0
  refine hK2 _ (AI hw (zr tb U U ?_))
  replace h0:=Sh.AA h0
  subst r
  exact AH (xr (AM (L:=[(4,(.bool true))]) ⟨.rfl,trivial⟩))
 refine AJ (AX (σ:=Int) (fun n v=>Ci p0 p1 n v=some o5) (fun i4=>⟨28,AS [(0,(ls eB p0)),(1,(ls eI p1)),(5,(i64 i4))],[]⟩) N 0 h1 (AE U) (fun _ hv=>by rw[Ci] at hv;cases hv) ?_)
 rintro n i4 h1
 try dsimp only at h1 ⊢
 rw[Ci] at h1
 refine AB fun K7 hK7=>sr U fun K8 hK8=>zm tb 2 U (zl tb U U (zq tb U (dn hK8 U ?_)))
 refine ci h1 U ?_ ?_ <;> clear h1
 ·intro b9 h1
  refine AG (hK7 _ (AB fun K10 hK10=>AJ (AB fun K11 hK11=>bs h1 fun o13 h2 h1=>?_)))
  have M13 :∀(t12:Bool),o13=t12→∀s,Wk 0 s ⟨28,AS [(0,(ls eB p0)),(1,(ls eI p1)),(5,(i64 i4)),(27,(.bool t12))],[]⟩→K11 s:=by
   intro t12 hq s hw
   subst o13
   try dsimp only at h1
   refine hK11 _ (AI hw ?_)
   refine ci h1 U ?_ ?_ <;> clear h1
   ·intro b14 h1
    refine zr tb U U ?_
    replace h1:=Sh.AA h1
    subst o5
    try dsimp only[id] at h0
    replace h0:=Sh.AA h0
    subst r
    exact AH (xr (AM (L:=[(4,(.bool false))]) ⟨.rfl,trivial⟩))
   ·intro b14 h1
    exact AG (hK10 _ (AF U (zm tb 3 U (AD (xi (Sh.w (i4+1)) h1 (AE U))))))
  refine AF U (zm tb 2 U (bs h2 fun c16 gc16 h2=>zx A2 gc16 U U U (zq tb U (bs h2 fun q17 gq17 h2=>zc XQ (GP gq17) rfl U U (zq tb U ?_)))))
  rcases Sh.AP h2 with ⟨b18,h2⟩ | ⟨b18,h2⟩
  ·exact zg tb b18 U (zg tb b18 U (zg tb b18 U (A5 (v:=(.Bi (eI c16) 0)) (A9 U U b18) rfl (Bh A2 U U gc16 U) (zg tb b18 U (zg tb b18 U (bs h2 fun c19 gc19 h2=>A5 (v:=(.Bi (eB c19) 0)) (A9 U U b18) rfl (Bh IQ U U gc19 U) (zg tb b18 U (zg tb b18 U (zt b18 U (AD (M13 (!c19) (Sh.AA h2).symm _ (AE U))))))))))))
  ·refine zs b18 U ?_
   iterate 8 refine zs b18 rfl ?_
   exact zf b18 U (AD (M13 false (Sh.AA h2).symm _ (AE U)))
 ·intro b9 h1
  exact Ac (M5 () (Sh.AA h1).symm _ (AE U))
theorem Np {N:Nat} {p0:(List Cell)} {r:Bool} (h0:GV N p0=some r):AY Tryz.prog 83 [(ls Aj p0)] [] (fun v st=>v=(.bool r)∧st=[]):=by
 unfold GV at h0
 refine ai Tryz.func83 U U U U (zr tb U U (sr U fun K2 hK2=>zq tb U (zl tb U U (bs h0 fun l3 gl3 h0=>GU (m:=0) (enc:=eB) (u:=false) Aa IQ U U U gl3 U U (zq tb U (dn hK2 U (zr tb U U (AB fun K5 hK5=>zr tb U U ?_))))))))
 refine bs h0 fun o11 h1 h0=>?_
 have M11 :∀(many10:Int),o11=many10→∀s,Wk 0 s ⟨40,AS [(0,(ls Aj p0)),(4,(i64 many10))],[]⟩→K5 s:=by
  intro many10 hq s hw
  subst o11
  try dsimp only at h0
  refine hK5 _ (AI hw (sr U fun K12 hK12=>zm tb 2 U (zl tb U U (zm tb 2 U (dn hK12 U ?_)))))
  replace h0:=Sh.AA h0
  subst r
  exact AH (xr (AM (L:=[(2,(.bool (decide (many10=(Sh.len p0)))))]) ⟨.rfl,trivial⟩))
 refine AJ (AX (σ:=Int×Bool×(List Bool)) (fun n v=>Co N p0 n v.1 v.2.1 v.2.2=some o11) (fun (many7,more8,l9)=>⟨40,AS [(0,(ls Aj p0)),(3,(ow 0 0 l9)),(4,(i64 many7)),(5,(.bool more8))],[(ro 0 4 1 eB l9)]⟩) N (0,true,l3) h1 (AE U) (fun _ hv=>by rw[Co] at hv;cases hv) ?_)
 rintro n ⟨many7,more8,l9⟩ h1
 try dsimp only at h1 ⊢
 rw[Co] at h1
 refine AB fun K13 hK13=>zr tb U U ?_
 refine ci h1 U ?_ ?_ <;> clear h1
 ·intro b15 h1
  refine AG (hK13 _ (AJ ?_))
  iterate 2 refine zr tb rfl rfl ?_
  refine bs h1 fun o25 h2 h1=>?_
  have M25 :∀(many22:Int) (more23:Bool) (l24:(List Bool)),o25=(many22,more23,l24)→∀s,Wk 0 s ⟨40,AS [(0,(ls Aj p0)),(3,(ow 0 0 l24)),(4,(i64 many22)),(5,(.bool more23))],[(ro 0 4 1 eB l24)]⟩→(∃v,Co N p0 n v.1 v.2.1 v.2.2=some o11∧Wk 0 s ((fun (many7,more8,l9)=>⟨40,AS [(0,(ls Aj p0)),(3,(ow 0 0 l9)),(4,(i64 many7)),(5,(.bool more8))],[(ro 0 4 1 eB l9)]⟩) v)):=by
   intro many22 more23 l24 hq s hw
   subst o25
   try dsimp only at h1
   exact Exists.intro (many22,more23,l24) (And.intro h1 (hw.trans (AM (L:=[(0,(ls Aj p0)),(3,(ow 0 0 l24)),(4,(i64 many22)),(5,(.bool more23))]) ⟨.rfl,.rfl,.rfl,.rfl,trivial⟩)))
  refine AJ (AX (σ:=Int×Bool×Int×(List Bool)) (fun n v=>Cj N p0 n v.1 v.2.1 v.2.2.1 v.2.2.2=some o25) (fun (many18,more19,i20,l21)=>⟨40,AS [(0,(ls Aj p0)),(3,(ow 0 0 l21)),(4,(i64 many18)),(5,(.bool more19)),(6,(i64 i20))],[(ro 0 4 1 eB l21)]⟩) N (many7,false,0,l9) h2 (AE U) (fun _ hv=>by rw[Cj] at hv;cases hv) ?_)
  rintro n ⟨many18,more19,i20,l21⟩ h2
  try dsimp only at h2 ⊢
  rw[Cj] at h2
  refine AB fun K26 hK26=>sr U fun K27 hK27=>zm tb 2 U (zl tb U U (zq tb U (dn hK27 U ?_)))
  refine ci h2 U ?_ ?_ <;> clear h2
  ·intro b28 h2
   refine AG (hK26 _ (AB fun K29 hK29=>bs h2 fun o33 h3 h2=>?_))
   have M33 :∀(many30:Int) (more31:Bool) (l32:(List Bool)),o33=(many30,more31,l32)→∀s,Wk 0 s ⟨40,AS [(0,(ls Aj p0)),(3,(ow 0 0 l32)),(4,(i64 many30)),(5,(.bool more31)),(6,(i64 i20))],[(ro 0 4 1 eB l32)]⟩→K29 s:=by
    intro many30 more31 l32 hq s hw
    subst o33
    try dsimp only at h2
    exact hK29 _ (AI hw (AF U (zm tb 3 U (AD (xi (many30,more31,Sh.w (i20+1),l32) h2 (AE U))))))
   refine AJ (AB fun K34 hK34=>bs h3 fun o36 h4 h3=>?_)
   have M36 :∀(t35:Bool),o36=t35→∀s,Wk 0 s ⟨40,AS [(0,(ls Aj p0)),(3,(ow 0 0 l21)),(4,(i64 many18)),(5,(.bool more19)),(6,(i64 i20)),(30,(.bool t35))],[(ro 0 4 1 eB l21)]⟩→K34 s:=by
    intro t35 hq s hw
    subst o36
    try dsimp only at h3
    refine hK34 _ (AI hw ?_)
    refine ci h3 U ?_ ?_ <;> clear h3
    ·intro b37 h3
     refine sr U fun K38 hK38=>zm tb 2 U (bs h3 fun c39 gc39 h3=>zz (.ptr 0 0 (Int.toNat i20) 0) (BD IQ U U U U gc39) rfl (Cz (u':=true) Aa Qu U U gc39 U U U (show 0+1≤1 by decide) rfl U (dn hK38 U (zr tb U U (AF U (zq tb U ?_))))))
     exact AD (M33 (Sh.w (many18+1)) true (Sh.put l21 i20 true) (Sh.AA h3).symm _ (AM (L:=[(0,(.sl (List.map Aj p0))),(3,(.own 0 0 (List.length (Sh.put l21 i20 true)))),(4,(i64 (Sh.w (many18+1)))),(5,(.bool true)),(6,(i64 i20))]) ⟨.rfl,(.len (by simp only[Sh.Af])),.rfl,.rfl,.rfl,trivial⟩))
    ·intro b37 h3
     exact AG (M33 many18 more19 l21 (Sh.AA h3).symm _ (AE U))
   refine AF U (zm tb 2 U (bs h4 fun c41 gc41 h4=>zz (.ptr 0 0 (Int.toNat i20) 0) (BD IQ U U U U gc41) rfl (zz (.bool c41) (Bf Qu U U (Bp gc41) rfl) rfl (zm tb 2 U ?_))))
   rcases Sh.AP h4 with ⟨b42,h4⟩ | ⟨b42,h4⟩
   ·exact zg tb b42 U (zg tb b42 U (zg tb b42 U (bs h4 fun c43 gc43 h4=>A5 (v:=(.Bi (Aj c43) 0)) (A9 U U b42) rfl (Bh FI U U gc43 U) (zg tb b42 U (zg tb b42 U (bs h4 fun q44 gq44 h4=>JG (v':=(.bool q44)) (A9 U U b42) cg (OR gq44) rfl (.own U U (fun _=>U) (.val U .nil)) rfl trivial U U (zt b42 U (AD (M36 q44 (Sh.AA h4).symm _ (AE U))))))))))
   ·refine zs b42 U ?_
    iterate 6 refine zs b42 rfl ?_
    exact zf b42 U (AD (M36 false (Sh.AA h4).symm _ (AE U)))
  ·intro b28 h2
   exact Ac (M25 many18 more19 l21 (Sh.AA h2).symm _ (AE U))
 ·intro b15 h1
  exact Ac (M11 many7 (Sh.AA h1).symm _ (AR _ U))
theorem N9 {N:Nat} {p0:(List Cell)} {r:Bool} (h0:El N p0=some r):AY Tryz.prog 52 [(ls Aj p0)] [] (fun v st=>v=(.bool r)∧st=[]):=by
 unfold El at h0
 refine ai Tryz.func52 U U U U (zr tb U U (AB fun K2 hK2=>AB fun K3 hK3=>bs h0 fun o5 h1 h0=>?_))
 have M5 :∀(t4:Bool),o5=t4→∀s,Wk 0 s ⟨60,AS [(0,(ls Aj p0)),(18,(.bool t4))],[]⟩→K3 s:=by
  intro t4 hq s hw
  subst o5
  try dsimp only at h0
  refine hK3 _ (AI hw ?_)
  refine ci h0 U ?_ ?_ <;> clear h0
  ·intro b6 h0
   refine zr tb U U ?_
   replace h0:=Sh.AA h0
   subst r
   exact AH (xr (AM (L:=[(2,(.bool false))]) ⟨.rfl,trivial⟩))
  ·intro b6 h0
   refine AG (hK2 _ (AB fun K8 hK8=>zr tb U U ?_))
   obtain⟨o11,h1,h0⟩:=Sh.A1 h0
   have M11 :∀(_:Unit),o11=Sum.inr ()→∀s,Wk 0 s ⟨60,AS [(0,(ls Aj p0))],[]⟩→K8 s:=by
    intro _ hq s hw
    subst o11
    try dsimp only at h0
    refine hK8 _ (AI hw (sr U fun K12 hK12=>zq tb U (bs h0 fun q13 gq13 h0=>BN (v':=(ow 0 0 q13)) Aa ae (Ls gq13) rfl U ⟨(BB fun _=>U),trivial⟩ U U (zq tb U (dn hK12 U (AB fun K14 hK14=>zr tb U U ?_))))))
    obtain⟨o17,h1,h0⟩:=Sh.A1 h0
    have M17 :∀(_:Unit),o17=Sum.inr ()→∀s,Wk 0 s ⟨60,AS [(0,(ls Aj p0))],[]⟩→K14 s:=by
     intro _ hq s hw
     subst o17
     try dsimp only at h0
     refine hK14 _ (AI hw (sr U fun K18 hK18=>zq tb U (bs h0 fun q19 gq19 h0=>zc eY (Np gq19) rfl U U (zq tb U (dn hK18 U ?_)))))
     replace h0:=Sh.AA h0
     subst r
     exact AH (xr (AM (L:=[(2,(.bool q19))]) ⟨.rfl,trivial⟩))
    refine AJ (AX (σ:=Int) (fun n v=>Cp p0 q13 n v=some o17) (fun i16=>⟨60,AS [(0,(ls Aj p0)),(4,(ow 0 0 q13)),(5,(i64 i16))],[(ro 0 3 1 eI q13)]⟩) N 0 h1 (AE U) (fun _ hv=>by rw[Cp] at hv;cases hv) ?_)
    rintro n i16 h1
    try dsimp only at h1 ⊢
    rw[Cp] at h1
    refine AB fun K20 hK20=>sr U fun K21 hK21=>zm tb 2 U (zl tb U U (zq tb U (dn hK21 U ?_)))
    refine ci h1 U ?_ ?_ <;> clear h1
    ·intro b22 h1
     refine AG (hK20 _ (AB fun K23 hK23=>AJ (AB fun K24 hK24=>bs h1 fun o26 h2 h1=>?_)))
     have M26 :∀(t25:Bool),o26=t25→∀s,Wk 0 s ⟨60,AS [(0,(ls Aj p0)),(4,(ow 0 0 q13)),(5,(i64 i16)),(57,(.bool t25))],[(ro 0 3 1 eI q13)]⟩→K24 s:=by
      intro t25 hq s hw
      subst o26
      try dsimp only at h1
      refine hK24 _ (AI hw ?_)
      refine ci h1 U ?_ ?_ <;> clear h1
      ·intro b27 h1
       refine zr tb U U ?_
       replace h1:=Sh.AA h1
       subst o17
       try dsimp only[id] at h0
       replace h0:=Sh.AA h0
       subst r
       exact AH (xr (AR [(2,(.bool false))] U))
      ·intro b27 h1
       exact AG (hK23 _ (AF U (zm tb 3 U (AD (xi (Sh.w (i16+1)) h1 (AE U))))))
     refine B1 (by kernel_rfl) (by kernel_rfl) (by rfl) ?_
     iterate 2 refine yq tb rfl ?_
     refine bs h2 fun c29 gc29 h2=>yx FI gc29 U U U ?_
     iterate 4 refine yq tb rfl ?_
     rcases Sh.AP h2 with ⟨b30,h2⟩ | ⟨b30,h2⟩
     ·refine yg tb b30 U (yg tb b30 U (Dk (v:=(.Bi (Aj c29) 0)) (A9 U U b30) rfl (Bh FI U U gc29 U) ?_))
      iterate 4 refine yg tb b30 rfl ?_
      exact bs h2 fun c31 gc31 h2=>Dk (v:=(.ptr 0 0 (Int.toNat i16) 0)) (A9 U U b30) rfl (BD A2 U U U U gc31) (Dk (v:=(i64 c31)) (A9 U U b30) rfl (Bf EF U U (Bp gc31) rfl) (yg tb b30 U (yt b30 U (BP (M26 (decide (c29.count < c31)) (Sh.AA h2).symm _ (AE U))))))
     ·refine ys b30 U ?_
      iterate 9 refine ys b30 rfl ?_
      exact yf b30 U (BP (M26 false (Sh.AA h2).symm _ (AE U)))
    ·intro b22 h1
     exact Ac (M17 () (Sh.AA h1).symm _ (AR _ U))
   refine AJ (AX (σ:=Int) (fun n v=>Cm N p0 n v=some o11) (fun i10=>⟨60,AS [(0,(ls Aj p0)),(3,(i64 i10))],[]⟩) N 0 h1 (AE U) (fun _ hv=>by rw[Cm] at hv;cases hv) ?_)
   rintro n i10 h1
   try dsimp only at h1 ⊢
   rw[Cm] at h1
   refine AB fun K32 hK32=>sr U fun K33 hK33=>zm tb 2 U (zl tb U U (zq tb U (dn hK33 U ?_)))
   refine ci h1 U ?_ ?_ <;> clear h1
   ·intro b34 h1
    refine AG (hK32 _ (AB fun K35 hK35=>AJ (sr U fun K36 hK36=>zm tb 3 U (bs h1 fun c37 gc37 h1=>zx FI gc37 U U U (zq tb U (bs h1 fun q38 gq38 h1=>zc eu (N8 gq38) rfl U U (zq tb U (dn hK36 U ?_))))))))
    refine ci h1 U ?_ ?_ <;> clear h1
    ·intro b39 h1
     have b40:q38=false:=by simpa using b39
     refine zr tb U U ?_
     replace h1:=Sh.AA h1
     subst o11
     try dsimp only[id] at h0
     replace h0:=Sh.AA h0
     subst r
     exact AH (xr (AM (L:=[(2,(.bool false))]) ⟨.rfl,trivial⟩))
    ·intro b39 h1
     have b42:q38=true:=by simpa using b39
     exact AG (hK35 _ (AF U (zm tb 3 U (AD (xi (Sh.w (i10+1)) h1 (AE U))))))
   ·intro b34 h1
    exact Ac (M11 () (Sh.AA h1).symm _ (AE U))
 refine AF U (zq tb U (zl tb U U (zm tb 2 U ?_)))
 rcases Sh.AP h1 with ⟨b43,h1⟩ | ⟨b43,h1⟩
 ·refine zg tb b43 U (zg tb b43 U (A5 (v:=(i64 (Sh.len p0))) (A9 U U b43) rfl (BL TZ U) (zg tb b43 U (bs h1 fun c44 gc44 h1=>A5 (v:=(.Bi (Aj c44) 0)) (A9 U U b43) rfl (Bh FI U U gc44 U) ?_))))
  iterate 3 refine zg tb b43 rfl ?_
  exact zt b43 U (AD (M5 (decide (c44.count=0)) (Sh.AA h1).symm _ (AE U)))
 ·refine zs b43 U ?_
  iterate 7 refine zs b43 rfl ?_
  exact zf b43 U (AD (M5 false (Sh.AA h1).symm _ (AE U)))
theorem OF {N:Nat} {p0:(List Cell)} {p1:Ai} {r:Bool} (h0:Ga N p0 p1=some r):AY Tryz.prog 84 [(ls Aj p0),(.agg (Ax p1))] [] (fun v st=>v=(.bool r)∧st=[]):=by
 unfold Ga at h0
 refine ai Tryz.func84 U U U U (sr U fun K1 hK1=>A8 (m:=0) Aa U U U U U (zq tb U (dn hK1 U (AB fun K2 hK2=>zr tb U U ?_))))
 obtain⟨o5,h1,h0⟩:=Sh.A1 h0
 have M5 :∀(_:Unit),o5=Sum.inr ()→∀s,Wk 0 s ⟨50,AS [],[]⟩→K2 s:=by
  intro _ hq s hw
  subst o5
  try dsimp only at h0
  refine hK2 _ (AI hw (zr tb U U ?_))
  replace h0:=Sh.AA h0
  subst r
  exact AH (xr (AM (L:=[(4,(.bool true))]) ⟨.rfl,trivial⟩))
 refine AJ (AX (σ:=Int) (fun n v=>DK p0 p1 n v=some o5) (fun r4=>⟨50,AS [(0,(ls Aj p0)),(3,(.ptr 0 0 0 0)),(5,(i64 r4))],[⟨0,94,6,[(Ax p1)]⟩]⟩) N 0 h1 (AE U) (fun _ hv=>by rw[DK] at hv;cases hv) ?_)
 rintro n r4 h1
 try dsimp only at h1 ⊢
 rw[DK] at h1
 refine AB fun K7 hK7=>sr U fun K8 hK8=>zm tb 3 U (zl tb U U (zq tb U (dn hK8 U ?_)))
 refine ci h1 U ?_ ?_ <;> clear h1
 ·intro b9 h1
  refine AG (hK7 _ (AB fun K10 hK10=>AJ (sr U fun K11 hK11=>zm tb 3 U (bs h1 fun c12 gc12 h1=>zx A2 gc12 U U U (zm tb 2 U (dn hK11 U (AB fun K13 hK13=>bs h1 fun o15 h2 h1=>?_)))))))
  have M15 :∀(t14:Bool),o15=t14→∀s,Wk 0 s ⟨50,AS [(0,(ls Aj p0)),(3,(.ptr 0 0 0 0)),(5,(i64 r4)),(49,(.bool t14))],[⟨0,94,6,[(Ax p1)]⟩]⟩→K13 s:=by
   intro t14 hq s hw
   subst o15
   try dsimp only at h1
   refine hK13 _ (AI hw ?_)
   refine ci h1 U ?_ ?_ <;> clear h1
   ·intro b16 h1
    refine zr tb U U ?_
    replace h1:=Sh.AA h1
    subst o5
    try dsimp only[id] at h0
    replace h0:=Sh.AA h0
    subst r
    exact AH (xr (AR [(4,(.bool false))] U))
   ·intro b16 h1
    exact AG (hK10 _ (AF U (zm tb 3 U (AD (xi (Sh.w (r4+1)) h1 (AE U))))))
  refine AF U (zq tb U (bs h2 fun q18 gq18 h2=>zc Ee (Aw gq18) rfl U U (zm tb 2 U ?_)))
  rcases Sh.AP h2 with ⟨b19,h2⟩ | ⟨b19,h2⟩
  ·refine zg tb b19 U (bs h2 fun q20 gq20 h2=>zd b19 XQ (GP gq20) rfl U U U (zg tb b19 U (zt b19 U (zq tb U ?_))))
   rcases Sh.AP h2 with ⟨b21,h2⟩ | ⟨b21,h2⟩
   ·refine zs b21 U ?_
    iterate 6 refine zs b21 rfl ?_
    refine zt b21 U (zq tb U ?_)
    iterate 7 refine zs rfl rfl ?_
    iterate 4 refine zn rfl ?_
    exact zs U U (zt U U (AD (M15 true (Sh.AA h2).symm _ (AE U))))
   ·refine zg tb b21 U (zg tb b21 U (zg tb b21 U (bs h2 fun c22 gc22 h2=>A5 (v:=(.Bi (eI c22) 0)) (A9 U U b21) rfl (Bh A2 U U gc22 U) (zg tb b21 U (bs h2 fun q23 gq23 h2=>zd b21 Ee (Aw gq23) rfl U U U (zg tb b21 U (zf b21 U (zq tb U ?_))))))))
    rcases Sh.AP h2 with ⟨b24,h2⟩ | ⟨b24,h2⟩
    ·refine zs b24 U ?_
     iterate 6 refine zs b24 rfl ?_
     iterate 4 refine zn rfl ?_
     exact zs b24 U (zt b24 U (AD (M15 true (Sh.AA h2).symm _ (AE U))))
    ·refine zg tb b24 U (zg tb b24 U (zg tb b24 U (A5 (v:=(.Bi (eI c22) 0)) (A9 U U b24) rfl (Bh A2 U U gc22 U) ?_)))
     iterate 3 refine zg tb b24 rfl ?_
     rcases Sh.AP h2 with ⟨b25,h2⟩ | ⟨b25,h2⟩
     ·exact zg tb b25 U (zg tb b25 U (bs h2 fun q26 gq26 h2=>zd b25 VG (Gb gq26) rfl U U U (zg tb b25 U (A5 (v:=(.bool (!q26))) (A9 U U b24) rfl (Br U b25 U) (zf b24 U (AD (M15 (!q26) (Sh.AA h2).symm _ (AE U))))))))
     ·refine zs b25 U ?_
      iterate 3 refine zs b25 rfl ?_
      exact A5 (v:=(.bool false)) (A9 U U b24) rfl (CE U b25 U) (zf b24 U (AD (M15 false (Sh.AA h2).symm _ (AE U))))
  ·refine zs b19 U (zs b19 U (zs b19 U (zf b19 U (zq tb U ?_))))
   iterate 3 refine zg tb rfl rfl ?_
   refine bs h2 fun c27 gc27 h2=>A5 (v:=(.Bi (eI c27) 0)) (A9 U U U) rfl (Bh A2 U U gc27 U) (zg tb U U (bs h2 fun q28 gq28 h2=>zd U Ee (Aw gq28) rfl U U U (zg tb U U (zf U U (zq tb U ?_)))))
   rcases Sh.AP h2 with ⟨b29,h2⟩ | ⟨b29,h2⟩
   ·refine zs b29 U ?_
    iterate 6 refine zs b29 rfl ?_
    iterate 4 refine zn rfl ?_
    exact zs b29 U (zt b29 U (AD (M15 true (Sh.AA h2).symm _ (AE U))))
   ·refine zg tb b29 U (zg tb b29 U (zg tb b29 U (A5 (v:=(.Bi (eI c27) 0)) (A9 U U b29) rfl (Bh A2 U U gc27 U) ?_)))
    iterate 3 refine zg tb b29 rfl ?_
    rcases Sh.AP h2 with ⟨b30,h2⟩ | ⟨b30,h2⟩
    ·exact zg tb b30 U (zg tb b30 U (bs h2 fun q31 gq31 h2=>zd b30 VG (Gb gq31) rfl U U U (zg tb b30 U (A5 (v:=(.bool (!q31))) (A9 U U b29) rfl (Br U b30 U) (zf b29 U (AD (M15 (!q31) (Sh.AA h2).symm _ (AE U))))))))
    ·refine zs b30 U ?_
     iterate 3 refine zs b30 rfl ?_
     exact A5 (v:=(.bool false)) (A9 U U b29) rfl (CE U b30 U) (zf b29 U (AD (M15 false (Sh.AA h2).symm _ (AE U))))
 ·intro b9 h1
  exact Ac (M5 () (Sh.AA h1).symm _ (AR _ U))
theorem NF {N:Nat} {p0:Au} {p1:Av} {p2:Int} {r:Bool} (h0:F4 N p0 p1 p2=some r):AY Tryz.prog 53 [(.agg (Ao p0)),(.agg (Ah p1)),(i64 p2)] [] (fun v st=>v=(.bool r)∧st=[]):=by
 unfold F4 at h0
 refine ai Tryz.func53 U U U U (sr U fun K1 hK1=>A8 (m:=0) Aa U U U U U (A8 (m:=1) Aa U U U U U (zq tb U (dn hK1 U (sr U fun K2 hK2=>zm tb 3 U (bs h0 fun c3 gc3 h0=>zx Gf gc3 U U U (zq tb U (BF (m:=2) Aa SL U U ?_))))))))
 refine A7 Aa QO U U U U U U (show 0+6≤6 by decide) rfl (dn hK2 U (AB fun K4 hK4=>sr U fun K5 hK5=>zm tb 4 U (zl tb U U (zq tb U (bs h0 fun q6 gq6 h0=>zc Ee (Aw gq6) rfl U U (zq tb U (dn hK5 U ?_)))))))
 refine ci h0 U ?_ ?_ <;> clear h0
 ·intro b7 h0
  have b8:q6=false:=by simpa using b7
  refine zr tb U U ?_
  replace h0:=Sh.AA h0
  subst r
  exact AH (xr (AR [(6,(.bool false))] U))
 ·intro b7 h0
  have b10:q6=true:=by simpa using b7
  refine AG (hK4 _ (sr U fun K11 hK11=>zm tb 4 U (bs h0 fun c12 gc12 h0=>zx IC gc12 U U U (zq tb U (BF (m:=3) Aa RF U U (A7 Aa QQ U U U U U U (show 0+5≤5 by decide) rfl (dn hK11 U (AB fun K13 hK13=>AB fun K14 hK14=>bs h0 fun o16 h1 h0=>?_))))))))
  have M16 :∀(t15:Bool),o16=t15→∀s,Wk 0 s ⟨98,AS [(2,(i64 p2)),(4,(.ptr 0 0 0 0)),(7,(.ptr 1 0 0 0)),(66,(.bool t15))],[⟨0,42,7,[(Ah p1)]⟩,⟨0,94,6,[(Ax c3)]⟩]⟩→K14 s:=by
   intro t15 hq s hw
   subst o16
   try dsimp only at h0
   refine hK14 _ (AI hw ?_)
   refine ci h0 U ?_ ?_ <;> clear h0
   ·intro b17 h0
    refine zr tb U U ?_
    replace h0:=Sh.AA h0
    subst r
    exact AH (xr (AR [(6,(.bool false))] U))
   ·intro b17 h0
    refine AG (hK13 _ (AB fun K19 hK19=>zr tb U U ?_))
    refine ci h0 U ?_ ?_ <;> clear h0
    ·intro b21 h0
     refine zr tb U U ?_
     replace h0:=Sh.AA h0
     subst r
     exact AH (xr (AR [(6,(.bool (decide (c3.dst=0))))] U))
    ·intro b21 h0
     refine AG (hK19 _ (AB fun K23 hK23=>bs h0 fun o25 h1 h0=>?_))
     have M25 :∀(t24:Bool),o25=t24→∀s,Wk 0 s ⟨98,AS [(6,(.bool t24))],[]⟩→K23 s:=by
      intro t24 hq s hw
      subst o25
      try dsimp only at h0
      refine hK23 _ (AI hw ?_)
      replace h0:=Sh.AA h0
      subst r
      exact AH (xr (AM (L:=[(6,(.bool t24))]) ⟨.rfl,trivial⟩))
     refine B1 (by kernel_rfl) (by kernel_rfl) (by rfl) ?_
     iterate 6 refine yq tb rfl ?_
     refine bs h1 fun c26 gc26 h1=>yx Gf gc26 U U U ?_
     iterate 2 refine yq tb rfl ?_
     refine yl tb U U (yq tb U (bs h1 fun q27 gq27 h1=>E0 (v:=(.bool q27)) Aa Ee (Aw gq27) rfl U U (yq tb U ?_)))
     rcases Sh.AP h1 with ⟨b28,h1⟩ | ⟨b28,h1⟩
     ·refine yg tb b28 U ?_
      iterate 3 refine yg tb b28 rfl ?_
      refine Dk (v:=(.Bi (Ax c26) 0)) (A9 U U b28) rfl (Bh Gf U U gc26 U) ?_
      iterate 4 refine yg tb b28 rfl ?_
      refine bs h1 fun c29 gc29 h1=>Dk (v:=(.Bi (eI c29) 0)) (A9 U U b28) rfl (Bh A2 U U gc29 U) ?_
      iterate 2 refine yg tb b28 rfl ?_
      exact yt b28 U (yq tb U (BP (M25 (decide (c29=0)) (Sh.AA h1).symm _ (AR _ U))))
     ·refine ys b28 U ?_
      iterate 11 refine ys b28 rfl ?_
      exact yf b28 U (yq tb U (BP (M25 false (Sh.AA h1).symm _ (AR _ U))))
  refine AF U (zm tb 4 U (zl tb U U (zq tb U (bs h1 fun q30 gq30 h1=>zc Ee (Aw gq30) rfl U U (zm tb 2 U ?_)))))
  rcases Sh.AP h1 with ⟨b31,h1⟩ | ⟨b31,h1⟩
  ·refine zs b31 U ?_
   iterate 5 refine zs b31 rfl ?_
   refine zt b31 U (zq tb U ?_)
   iterate 6 refine zs rfl rfl ?_
   refine zt U U (zq tb U ?_)
   iterate 6 refine zs rfl rfl ?_
   refine zt U U (zq tb U ?_)
   iterate 5 refine zs rfl rfl ?_
   refine zt U U ?_
   exact AD (M16 true (Sh.AA h1).symm _ (AN (L:=[(2,(i64 p2)),(4,(.ptr 0 0 0 0)),(7,(.ptr 1 0 0 0)),(66,(.bool true))]) (st':=[⟨0,42,7,[(Ah p1)]⟩,⟨0,94,6,[(Ax c3)]⟩]) (st1:=[⟨0,42,7,[(Ah p1)]⟩,⟨0,94,6,[(Ax c3)]⟩]) [1,2] U .nil (by decide) rfl U (.raw U U (.raw U U .nil)) ⟨.rfl,.rfl,.rfl,.rfl,trivial⟩))
  ·refine zg tb b31 U (zg tb b31 U (A5 (v:=(i64 (Sh.len c3.Ab))) (A9 U U b31) rfl (BL EE U) ?_))
   iterate 3 refine zg tb b31 rfl ?_
   refine zf b31 U (zq tb U ?_)
   rcases Sh.AP h1 with ⟨b32,h1⟩ | ⟨b32,h1⟩
   ·refine zs b32 U ?_
    iterate 5 refine zs b32 rfl ?_
    refine zt b32 U (zq tb U ?_)
    iterate 6 refine zs rfl rfl ?_
    refine zt U U (zq tb U ?_)
    iterate 5 refine zs rfl rfl ?_
    refine zt U U ?_
    exact AD (M16 true (Sh.AA h1).symm _ (AN (L:=[(2,(i64 p2)),(4,(.ptr 0 0 0 0)),(7,(.ptr 1 0 0 0)),(66,(.bool true))]) (st':=[⟨0,42,7,[(Ah p1)]⟩,⟨0,94,6,[(Ax c3)]⟩]) (st1:=[⟨0,42,7,[(Ah p1)]⟩,⟨0,94,6,[(Ax c3)]⟩]) [1,2] U .nil (by decide) rfl U (.raw U U (.raw U U .nil)) ⟨.rfl,.rfl,.rfl,.rfl,trivial⟩))
   ·refine zg tb b32 U (zg tb b32 U (A5 (v:=(i64 (Sh.len c3.own))) (A9 U U b32) rfl (BL EE U) ?_))
    iterate 3 refine zg tb b32 rfl ?_
    refine zf b32 U (zq tb U ?_)
    rcases Sh.AP h1 with ⟨b33,h1⟩ | ⟨b33,h1⟩
    ·refine zs b33 U ?_
     iterate 5 refine zs b33 rfl ?_
     refine zt b33 U (zq tb U ?_)
     iterate 5 refine zs rfl rfl ?_
     refine zt U U ?_
     exact AD (M16 true (Sh.AA h1).symm _ (AN (L:=[(2,(i64 p2)),(4,(.ptr 0 0 0 0)),(7,(.ptr 1 0 0 0)),(66,(.bool true))]) (st':=[⟨0,42,7,[(Ah p1)]⟩,⟨0,94,6,[(Ax c3)]⟩]) (st1:=[⟨0,42,7,[(Ah p1)]⟩,⟨0,94,6,[(Ax c3)]⟩]) [1,2] U .nil (by decide) rfl U (.raw U U (.raw U U .nil)) ⟨.rfl,.rfl,.rfl,.rfl,trivial⟩))
    ·refine zg tb b33 U (zg tb b33 U (A5 (v:=(i64 (Sh.len c3.held))) (A9 U U b33) rfl (BL EE U) ?_))
     iterate 3 refine zg tb b33 rfl ?_
     refine zf b33 U (zq tb U ?_)
     rcases Sh.AP h1 with ⟨b34,h1⟩ | ⟨b34,h1⟩
     ·refine zs b34 U ?_
      iterate 4 refine zs b34 rfl ?_
      refine zt b34 U ?_
      exact AD (M16 true (Sh.AA h1).symm _ (AN (L:=[(2,(i64 p2)),(4,(.ptr 0 0 0 0)),(7,(.ptr 1 0 0 0)),(66,(.bool true))]) (st':=[⟨0,42,7,[(Ah p1)]⟩,⟨0,94,6,[(Ax c3)]⟩]) (st1:=[⟨0,42,7,[(Ah p1)]⟩,⟨0,94,6,[(Ax c3)]⟩]) [1,2] U .nil (by decide) rfl U (.raw U U (.raw U U .nil)) ⟨.rfl,.rfl,.rfl,.rfl,trivial⟩))
     ·refine zg tb b34 U (zg tb b34 U (zg tb b34 U (bs h1 fun q35 gq35 h1=>zd b34 fR (OF gq35) rfl U U U (zg tb b34 U (zf b34 U ?_)))))
      exact AD (M16 (!q35) (Sh.AA h1).symm _ (AN (L:=[(2,(i64 p2)),(4,(.ptr 0 0 0 0)),(7,(.ptr 1 0 0 0)),(66,(.bool (!q35)))]) (st':=[⟨0,42,7,[(Ah p1)]⟩,⟨0,94,6,[(Ax c3)]⟩]) (st1:=[⟨0,42,7,[(Ah p1)]⟩,⟨0,94,6,[(Ax c3)]⟩]) [1,2] U .nil (by decide) rfl U (.raw U U (.raw U U .nil)) ⟨.rfl,.rfl,.rfl,.rfl,trivial⟩))
theorem Oj {N:Nat} {p0:Av} {r:Bool} (h0:F6 N p0=some r):AY Tryz.prog 54 [(.agg (Ah p0))] [] (fun v st=>v=(.bool r)∧st=[]):=by
 unfold F6 at h0
 refine ai Tryz.func54 U U U U (sr U fun K1 hK1=>A8 (m:=0) Aa U U U U U (zq tb U (dn hK1 U (sr U fun K2 hK2=>zm tb 2 U (zl tb U U (bs h0 fun l3 gl3 h0=>GU (m:=1) (enc:=eI) (u:=0) Aa A2 U U U gl3 U U (zq tb U (dn hK2 U ?_))))))))
 refine AB fun K4 hK4=>zr tb U U ?_
 obtain⟨o9,h1,h0⟩:=Sh.A1 h0
 have M9 :∀(l8:(List Int)),o9=Sum.inr l8→∀s,Wk 0 s ⟨100,AS [(1,(.ptr 0 0 0 0)),(3,(ow 1 0 l8))],[⟨0,42,7,[(Ah p0)]⟩,(ro 0 3 1 eI l8)]⟩→K4 s:=by
  intro l8 hq s hw
  subst o9
  try dsimp only at h0
  refine hK4 _ (AI hw (AB fun K10 hK10=>zr tb U U ?_))
  obtain⟨o13,h1,h0⟩:=Sh.A1 h0
  have M13 :∀(_:Unit),o13=Sum.inr ()→∀s,Wk 0 s ⟨100,AS [],[]⟩→K10 s:=by
   intro _ hq s hw
   subst o13
   try dsimp only at h0
   refine hK10 _ (AI hw (zr tb U U ?_))
   replace h0:=Sh.AA h0
   subst r
   exact AH (xr (AM (L:=[(2,(.bool true))]) ⟨.rfl,trivial⟩))
  refine AJ (AX (σ:=Int) (fun n v=>Dy l8 p0 n v=some o13) (fun i12=>⟨100,AS [(1,(.ptr 0 0 0 0)),(3,(ow 1 0 l8)),(7,(i64 i12))],[⟨0,42,7,[(Ah p0)]⟩,(ro 0 3 1 eI l8)]⟩) N 0 h1 (AE U) (fun _ hv=>by rw[Dy] at hv;cases hv) ?_)
  rintro n i12 h1
  try dsimp only at h1 ⊢
  rw[Dy] at h1
  refine AB fun K15 hK15=>sr U fun K16 hK16=>zm tb 2 U (zz (i64 (Sh.len l8)) (Dj EE U U U) rfl (zq tb U (dn hK16 U ?_)))
  refine ci h1 U ?_ ?_ <;> clear h1
  ·intro b17 h1
   refine AG (hK15 _ (AB fun K18 hK18=>AJ (AB fun K19 hK19=>bs h1 fun o21 h2 h1=>?_)))
   have M21 :∀(t20:Bool),o21=t20→∀s,Wk 0 s ⟨100,AS [(1,(.ptr 0 0 0 0)),(3,(ow 1 0 l8)),(7,(i64 i12)),(99,(.bool t20))],[⟨0,42,7,[(Ah p0)]⟩,(ro 0 3 1 eI l8)]⟩→K19 s:=by
    intro t20 hq s hw
    subst o21
    try dsimp only at h1
    refine hK19 _ (AI hw ?_)
    refine ci h1 U ?_ ?_ <;> clear h1
    ·intro b22 h1
     refine zr tb U U ?_
     replace h1:=Sh.AA h1
     subst o13
     try dsimp only[id] at h0
     replace h0:=Sh.AA h0
     subst r
     exact AH (xr (AR [(2,(.bool false))] U))
    ·intro b22 h1
     exact AG (hK18 _ (AF U (zm tb 3 U (AD (xi (Sh.w (i12+1)) h1 (AE U))))))
   refine AF U (zm tb 3 U (bs h2 fun c24 gc24 h2=>zx FI gc24 U U U (zm tb 4 U ?_)))
   rcases Sh.AP h2 with ⟨b25,h2⟩ | ⟨b25,h2⟩
   ·refine zg tb b25 U (zg tb b25 U (bs h2 fun c26 gc26 h2=>A5 (v:=(.ptr 1 0 (Int.toNat i12) 0)) (A9 U U b25) rfl (BD A2 U U U U gc26) (A5 (v:=(i64 c26)) (A9 U U b25) rfl (Bf EF U U (Bp gc26) rfl) (zg tb b25 U (zt b25 U (zq tb U ?_))))))
    rcases Sh.AP h2 with ⟨b27,h2⟩ | ⟨b27,h2⟩
    ·refine zs b27 U ?_
     iterate 7 refine zs b27 rfl ?_
     iterate 5 refine zn rfl ?_
     exact zs b27 U (zt b27 U (AD (M21 true (Sh.AA h2).symm _ (AE U))))
    ·refine zg tb b27 U (zg tb b27 U (zg tb b27 U (A5 (v:=(.Bi (Aj c24) 0)) (A9 U U b27) rfl (Bh FI U U gc24 U) ?_)))
     iterate 4 refine zg tb b27 rfl ?_
     rcases Sh.AP h2 with ⟨b28,h2⟩ | ⟨b28,h2⟩
     ·exact zg tb b28 U (zg tb b28 U (A5 (v:=(.ptr 1 0 (Int.toNat i12) 0)) (A9 U U b28) rfl (BD A2 U U U U gc26) (A5 (v:=(i64 c26)) (A9 U U b28) rfl (Bf EF U U (Bp gc26) rfl) (zg tb b28 U (A5 (v:=(.bool (!decide (c26=0)))) (A9 U U b27) rfl (Br U b28 U) (zf b27 U (AD (M21 (!decide (c26=0)) (Sh.AA h2).symm _ (AE U)))))))))
     ·refine zs b28 U ?_
      iterate 4 refine zs b28 rfl ?_
      exact A5 (v:=(.bool false)) (A9 U U b27) rfl (CE U b28 U) (zf b27 U (AD (M21 false (Sh.AA h2).symm _ (AE U))))
   ·refine zs b25 U ?_
    iterate 4 refine zs b25 rfl ?_
    refine zf b25 U (zq tb U ?_)
    iterate 3 refine zg tb rfl rfl ?_
    refine A5 (v:=(.Bi (Aj c24) 0)) (A9 U U U) rfl (Bh FI U U gc24 U) ?_
    iterate 4 refine zg tb rfl rfl ?_
    rcases Sh.AP h2 with ⟨b29,h2⟩ | ⟨b29,h2⟩
    ·exact zg tb b29 U (zg tb b29 U (bs h2 fun c30 gc30 h2=>A5 (v:=(.ptr 1 0 (Int.toNat i12) 0)) (A9 U U b29) rfl (BD A2 U U U U gc30) (A5 (v:=(i64 c30)) (A9 U U b29) rfl (Bf EF U U (Bp gc30) rfl) (zg tb b29 U (A5 (v:=(.bool (!decide (c30=0)))) (A9 U U U) rfl (Br U b29 U) (zf U U (AD (M21 (!decide (c30=0)) (Sh.AA h2).symm _ (AE U)))))))))
    ·refine zs b29 U ?_
     iterate 4 refine zs b29 rfl ?_
     exact A5 (v:=(.bool false)) (A9 U U U) rfl (CE U b29 U) (zf U U (AD (M21 false (Sh.AA h2).symm _ (AE U))))
  ·intro b17 h1
   exact Ac (M13 () (Sh.AA h1).symm _ (AR _ U))
 refine AJ (AX (σ:=Int×(List Int)) (fun n v=>Bs N p0 n v.1 v.2=some o9) (fun (i6,l7)=>⟨100,AS [(1,(.ptr 0 0 0 0)),(3,(ow 1 0 l7)),(4,(i64 i6))],[⟨0,42,7,[(Ah p0)]⟩,(ro 0 3 1 eI l7)]⟩) N (0,l3) h1 (AE U) (fun _ hv=>by rw[Bs] at hv;cases hv) ?_)
 rintro n ⟨i6,l7⟩ h1
 try dsimp only at h1 ⊢
 rw[Bs] at h1
 refine AB fun K31 hK31=>sr U fun K32 hK32=>zm tb 3 U (zl tb U U (zq tb U (dn hK32 U ?_)))
 refine ci h1 U ?_ ?_ <;> clear h1
 ·intro b33 h1
  refine AG (hK31 _ (AB fun K34 hK34=>AJ (zr tb U U ?_)))
  obtain⟨o39,h2,h1⟩:=Sh.A1 h1
  have M39 :∀(l38:(List Int)),o39=Sum.inr l38→∀s,Wk 0 s ⟨100,AS [(1,(.ptr 0 0 0 0)),(3,(ow 1 0 l38)),(4,(i64 i6))],[⟨0,42,7,[(Ah p0)]⟩,(ro 0 3 1 eI l38)]⟩→K34 s:=by
   intro l38 hq s hw
   subst o39
   try dsimp only at h1
   exact hK34 _ (AI hw (AF U (zm tb 3 U (AD (xi (Sh.w (i6+1),l38) h1 (AE U))))))
  refine AJ (AX (σ:=Int×(List Int)) (fun n v=>Bn i6 p0 n v.1 v.2=some o39) (fun (r36,l37)=>⟨100,AS [(1,(.ptr 0 0 0 0)),(3,(ow 1 0 l37)),(4,(i64 i6)),(5,(i64 r36))],[⟨0,42,7,[(Ah p0)]⟩,(ro 0 3 1 eI l37)]⟩) N (0,l7) h2 (AE U) (fun _ hv=>by rw[Bn] at hv;cases hv) ?_)
  rintro n ⟨r36,l37⟩ h2
  try dsimp only at h2 ⊢
  rw[Bn] at h2
  refine AB fun K40 hK40=>sr U fun K41 hK41=>zm tb 4 U (bs h2 fun c42 gc42 h2=>zx Gf gc42 U U U (zm tb 2 U (zl tb U U (zq tb U (dn hK41 U ?_)))))
  refine ci h2 U ?_ ?_ <;> clear h2
  ·intro b43 h2
   refine AG (hK40 _ (AB fun K44 hK44=>?_))
   obtain⟨o46,h3,h2⟩:=Sh.A1 h2
   have M46 :∀(l45:(List Int)),o46=Sum.inr l45→∀s,Wk 0 s ⟨100,AS [(1,(.ptr 0 0 0 0)),(3,(ow 1 0 l45)),(4,(i64 i6)),(5,(i64 r36))],[⟨0,42,7,[(Ah p0)]⟩,(ro 0 3 1 eI l45)]⟩→K44 s:=by
    intro l45 hq s hw
    subst o46
    try dsimp only at h2
    exact hK44 _ (AI hw (AF U (zm tb 3 U (AD (xi (Sh.w (r36+1),l45) h2 (AE U))))))
   refine AJ (sr U fun K47 hK47=>zm tb 3 U (zx Gf gc42 U U U (zm tb 3 U (bs h3 fun c48 gc48 h3=>zx A2 gc48 U U U (zm tb 2 U (dn hK47 U (zr tb U U ?_)))))))
   refine ci h3 U ?_ ?_ <;> clear h3
   ·intro b50 h3
    have b51:decide (c48=0)=false:=by simpa using b50
    refine AB fun K52 hK52=>AB fun K53 hK53=>bs h3 fun o55 h4 h3=>?_
    have M55 :∀(t54:Bool),o55=t54→∀s,Wk 0 s ⟨100,AS [(1,(.ptr 0 0 0 0)),(3,(ow 1 0 l37)),(4,(i64 i6)),(5,(i64 r36)),(6,(i64 c48)),(53,(.bool t54))],[⟨0,42,7,[(Ah p0)]⟩,(ro 0 3 1 eI l37)]⟩→K53 s:=by
     intro t54 hq s hw
     subst o55
     try dsimp only at h3
     refine hK53 _ (AI hw ?_)
     refine ci h3 U ?_ ?_ <;> clear h3
     ·intro b56 h3
      refine zr tb U U ?_
      replace h3:=Sh.AA h3
      subst o46
      try dsimp only[id] at h2
      replace h2:=Sh.AA h2
      subst o39
      try dsimp only[id] at h1
      replace h1:=Sh.AA h1
      subst o9
      try dsimp only[id] at h0
      replace h0:=Sh.AA h0
      subst r
      exact AH (xr (AR [(2,(.bool false))] U))
     ·intro b56 h3
      refine AG (hK52 _ (AF U (zm tb 6 U (bs h3 fun c58 gc58 h3=>zz (.ptr 1 0 (Int.toNat (Sh.w (c48 - 1000))) 0) (BD A2 U U U U gc58) rfl (zz (i64 c58) (Bf EF U U (Bp gc58) rfl) rfl (zq tb U (zz (.ptr 1 0 (Int.toNat (Sh.w (c48 - 1000))) 0) (BD A2 U U U U gc58) rfl (Cz (u':=Sh.w (c58+1)) Aa EF U U gc58 U U U (show 0+1≤1 by decide) rfl U ?_))))))))
      exact AD (M46 (Sh.put l37 (Sh.w (c48 - 1000)) (Sh.w (c58+1))) (Sh.AA h3).symm _ (AM (L:=[(1,(.ptr 0 0 0 0)),(3,(.own 1 0 (List.length (Sh.put l37 (Sh.w (c48 - 1000)) (Sh.w (c58+1)))))),(4,(i64 i6)),(5,(i64 r36))]) ⟨.rfl,(.len (by simp only[Sh.Af])),.rfl,.rfl,trivial⟩))
    refine AF U (zq tb U (bs h4 fun q59 gq59 h4=>zc XQ (GP gq59) rfl U U (zm tb 2 U ?_)))
    rcases Sh.AP h4 with ⟨b60,h4⟩ | ⟨b60,h4⟩
    ·refine zs b60 U ?_
     iterate 7 refine zs b60 rfl ?_
     exact zt b60 U (AD (M55 true (Sh.AA h4).symm _ (AE U)))
    ·refine zg tb b60 U ?_
     iterate 3 refine zg tb b60 rfl ?_
     exact A5 (v:=(i64 (Sh.len p0.heap))) (A9 U U b60) rfl (BL TZ U) (zg tb b60 U (bs h4 fun q61 gq61 h4=>zd b60 Ee (Aw gq61) rfl U U U (zg tb b60 U (zf b60 U (AD (M55 (!q61) (Sh.AA h4).symm _ (AE U)))))))
   ·intro b50 h3
    have b62:decide (c48=0)=true:=by simpa using b50
    exact AG (M46 l37 (Sh.AA h3).symm _ (AE U))
  ·intro b43 h2
   exact Ac (M39 l37 (Sh.AA h2).symm _ (AE U))
 ·intro b33 h1
  exact Ac (M9 l7 (Sh.AA h1).symm _ (AE U))
theorem Oh {N:Nat} {p0:Av} {r:(List Int)} (h0:G7 N p0=some r):AY Tryz.prog 86 [(.agg (Ah p0))] [] (fun v st=>v=(ow 0 0 r)∧st=[(ro 0 3 1 eI r)]):=by
 unfold G7 at h0
 refine ai Tryz.func86 U U U U (sr U fun K1 hK1=>A8 (m:=0) Aa U U U U U (zq tb U (dn hK1 U (sr U fun K2 hK2=>zm tb 2 U (zl tb U U (bs h0 fun l3 gl3 h0=>GU (m:=1) (enc:=eI) (u:=0) Aa A2 U U U gl3 U U (zq tb U (dn hK2 U ?_))))))))
 refine AB fun K4 hK4=>zr tb U U (bs h0 fun o9 h1 h0=>?_)
 have M9 :∀(l8:(List Int)),o9=l8→∀s,Wk 0 s ⟨60,AS [(3,(ow 0 0 l8))],[(ro 0 3 1 eI l8)]⟩→K4 s:=by
  intro l8 hq s hw
  subst o9
  try dsimp only at h0
  refine hK4 _ (AI hw (zr tb U U ?_))
  replace h0:=Sh.AA h0
  subst r
  exact AH (xr (AM (L:=[(2,(ow 0 0 l8))]) ⟨.rfl,trivial⟩))
 refine AJ (AX (σ:=Int×(List Int)) (fun n v=>CC N p0 n v.1 v.2=some o9) (fun (i6,l7)=>⟨60,AS [(1,(.ptr 0 0 0 0)),(3,(ow 1 0 l7)),(4,(i64 i6))],[⟨0,42,7,[(Ah p0)]⟩,(ro 0 3 1 eI l7)]⟩) N (0,l3) h1 (AE U) (fun _ hv=>by rw[CC] at hv;cases hv) ?_)
 rintro n ⟨i6,l7⟩ h1
 try dsimp only at h1 ⊢
 rw[CC] at h1
 refine AB fun K11 hK11=>sr U fun K12 hK12=>zm tb 3 U (zl tb U U (zq tb U (dn hK12 U ?_)))
 refine ci h1 U ?_ ?_ <;> clear h1
 ·intro b13 h1
  refine AG (hK11 _ (AB fun K14 hK14=>AJ (sr U fun K15 hK15=>zm tb 3 U (bs h1 fun c16 gc16 h1=>zx Gf gc16 U U U (zq tb U (BF (m:=2) Aa SL U U (A7 Aa QO U U U U U U (show 0+6≤6 by decide) rfl (dn hK15 U (zr tb U U ?_)))))))))
  refine bs h1 fun o21 h2 h1=>?_
  have M21 :∀(l20:(List Int)),o21=l20→∀s,Wk 0 s ⟨60,AS [(1,(.ptr 0 0 0 0)),(3,(ow 1 0 l20)),(4,(i64 i6))],[⟨0,42,7,[(Ah p0)]⟩,(ro 0 3 1 eI l20)]⟩→K14 s:=by
   intro l20 hq s hw
   subst o21
   try dsimp only at h1
   exact hK14 _ (AI hw (AF U (zm tb 3 U (AD (xi (Sh.w (i6+1),l20) h1 (AE U))))))
  refine AJ (AX (σ:=Int×(List Int)) (fun n v=>Bv c16 n v.1 v.2=some o21) (fun (r18,l19)=>⟨60,AS [(1,(.ptr 0 0 0 0)),(3,(ow 1 0 l19)),(4,(i64 i6)),(5,(.ptr 2 0 0 0)),(6,(i64 r18))],[⟨0,42,7,[(Ah p0)]⟩,(ro 0 3 1 eI l19),⟨0,94,6,[(Ax c16)]⟩]⟩) N (0,l7) h2 (AE U) (fun _ hv=>by rw[Bv] at hv;cases hv) ?_)
  rintro n ⟨r18,l19⟩ h2
  try dsimp only at h2 ⊢
  rw[Bv] at h2
  refine AB fun K22 hK22=>sr U fun K23 hK23=>zm tb 3 U (zl tb U U (zq tb U (dn hK23 U ?_)))
  refine ci h2 U ?_ ?_ <;> clear h2
  ·intro b24 h2
   refine AG (hK22 _ (AB fun K25 hK25=>bs h2 fun o27 h3 h2=>?_))
   have M27 :∀(l26:(List Int)),o27=l26→∀s,Wk 0 s ⟨60,AS [(1,(.ptr 0 0 0 0)),(3,(ow 1 0 l26)),(4,(i64 i6)),(5,(.ptr 2 0 0 0)),(6,(i64 r18))],[⟨0,42,7,[(Ah p0)]⟩,(ro 0 3 1 eI l26),⟨0,94,6,[(Ax c16)]⟩]⟩→K25 s:=by
    intro l26 hq s hw
    subst o27
    try dsimp only at h2
    exact hK25 _ (AI hw (AF U (zm tb 3 U (AD (xi (Sh.w (r18+1),l26) h2 (AE U))))))
   refine AJ (sr U fun K28 hK28=>zm tb 3 U (bs h3 fun c29 gc29 h3=>zx A2 gc29 U U U (zm tb 2 U (dn hK28 U ?_))))
   refine ci h3 U ?_ ?_ <;> clear h3
   ·intro b30 h3
    refine Cw 23 (by kernel_rfl) (by kernel_rfl) (by rfl) ?_
    iterate 4 refine yq tb rfl ?_
    refine bs h3 fun c31 gc31 h3=>yx A2 gc31 U U U ?_
    iterate 6 refine yq tb rfl ?_
    refine yx A2 gc31 U U U ?_
    iterate 2 refine yq tb rfl ?_
    refine bs h3 fun c32 gc32 h3=>yz (.ptr 1 0 (Int.toNat (Sh.w (c31 - 1000))) 0) (BD A2 U U U U gc32) rfl (yz (i64 c32) (Bf EF U U (Bp gc32) rfl) rfl ?_)
    iterate 3 refine yq tb rfl ?_
    refine yx A2 gc29 U U U ?_
    iterate 2 refine yq tb rfl ?_
    refine yz (.ptr 1 0 (Int.toNat (Sh.w (c31 - 1000))) 0) (BD A2 U U U U gc32) rfl (BP (Cz (u':=Sh.w (c32+c29)) Aa EF U U gc32 U U U (show 0+1≤1 by decide) rfl U ?_))
    exact AD (M27 (Sh.put l19 (Sh.w (c31 - 1000)) (Sh.w (c32+c29))) (Sh.AA h3).symm _ (AM (L:=[(1,(.ptr 0 0 0 0)),(3,(.own 1 0 (List.length (Sh.put l19 (Sh.w (c31 - 1000)) (Sh.w (c32+c29)))))),(4,(i64 i6)),(5,(.ptr 2 0 0 0)),(6,(i64 r18))]) ⟨.rfl,(.len (by simp only[Sh.Af])),.rfl,.rfl,.rfl,trivial⟩))
   ·intro b30 h3
    exact AG (M27 l19 (Sh.AA h3).symm _ (AE U))
  ·intro b24 h2
   exact Ac (M21 l19 (Sh.AA h2).symm _ (AN (L:=[(1,(.ptr 0 0 0 0)),(3,(ow 1 0 l19)),(4,(i64 i6))]) (st':=[⟨0,42,7,[(Ah p0)]⟩,(ro 0 3 1 eI l19)]) (st1:=[⟨0,42,7,[(Ah p0)]⟩,(ro 0 3 1 eI l19)]) [0,1] U .nil (by decide) rfl U (.raw U U (.pure (AL fun _=>U) .nil)) ⟨.rfl,.rfl,.rfl,trivial⟩))
 ·intro b13 h1
  exact Ac (M9 l7 (Sh.AA h1).symm _ (AN (L:=[(3,(ow 0 0 l7))]) (st':=[(ro 0 3 1 eI l7)]) (st1:=[(ro 0 3 1 eI l7)]) [1] U .nil (by decide) rfl U (.pure (AL fun _=>U) .nil) ⟨.rfl,trivial⟩))
theorem L8 {N:Nat} {p0:Av} {r:Bool} (h0:E7 N p0=some r):AY Tryz.prog 55 [(.agg (Ah p0))] [] (fun v st=>v=(.bool r)∧st=[]):=by
 unfold E7 at h0
 refine ai Tryz.func55 U U U U (sr U fun K1 hK1=>A8 (m:=0) Aa U U U U U (zq tb U (dn hK1 U (sr U fun K2 hK2=>zm tb 2 U (bs h0 fun q3 gq3 h0=>BN (v':=(ow 1 0 q3)) Aa ae (Ls gq3) rfl U ⟨(BB fun _=>U),trivial⟩ U U (zq tb U (dn hK2 U (sr U fun K4 hK4=>?_))))))))
 refine zq tb U (bs h0 fun q5 gq5 h0=>BN (v':=(ow 2 0 q5)) Aa dH (Oh gq5) rfl U ⟨(BB fun _=>U),trivial⟩ U U (zq tb U (dn hK4 U (AB fun K6 hK6=>zr tb U U ?_))))
 obtain⟨o9,h1,h0⟩:=Sh.A1 h0
 have M9 :∀(_:Unit),o9=Sum.inr ()→∀s,Wk 0 s ⟨43,AS [],[]⟩→K6 s:=by
  intro _ hq s hw
  subst o9
  try dsimp only at h0
  refine hK6 _ (AI hw (zr tb U U ?_))
  replace h0:=Sh.AA h0
  subst r
  exact AH (xr (AM (L:=[(2,(.bool true))]) ⟨.rfl,trivial⟩))
 refine AJ (AX (σ:=Int) (fun n v=>Cd p0 q3 q5 n v=some o9) (fun i8=>⟨43,AS [(1,(.ptr 0 0 0 0)),(3,(ow 1 0 q3)),(4,(ow 2 0 q5)),(5,(i64 i8))],[⟨0,42,7,[(Ah p0)]⟩,(ro 0 3 1 eI q3),(ro 0 3 1 eI q5)]⟩) N 0 h1 (AE U) (fun _ hv=>by rw[Cd] at hv;cases hv) ?_)
 rintro n i8 h1
 try dsimp only at h1 ⊢
 rw[Cd] at h1
 refine AB fun K11 hK11=>sr U fun K12 hK12=>zm tb 3 U (zl tb U U (zq tb U (dn hK12 U ?_)))
 refine ci h1 U ?_ ?_ <;> clear h1
 ·intro b13 h1
  refine AG (hK11 _ (AB fun K14 hK14=>AJ (AB fun K15 hK15=>bs h1 fun o17 h2 h1=>?_)))
  have M17 :∀(t16:Bool),o17=t16→∀s,Wk 0 s ⟨43,AS [(1,(.ptr 0 0 0 0)),(3,(ow 1 0 q3)),(4,(ow 2 0 q5)),(5,(i64 i8)),(42,(.bool t16))],[⟨0,42,7,[(Ah p0)]⟩,(ro 0 3 1 eI q3),(ro 0 3 1 eI q5)]⟩→K15 s:=by
   intro t16 hq s hw
   subst o17
   try dsimp only at h1
   refine hK15 _ (AI hw ?_)
   refine ci h1 U ?_ ?_ <;> clear h1
   ·intro b18 h1
    refine zr tb U U ?_
    replace h1:=Sh.AA h1
    subst o9
    try dsimp only[id] at h0
    replace h0:=Sh.AA h0
    subst r
    exact AH (xr (AR [(2,(.bool false))] U))
   ·intro b18 h1
    exact AG (hK14 _ (AF U (zm tb 3 U (AD (xi (Sh.w (i8+1)) h1 (AE U))))))
  refine B1 (by kernel_rfl) (by kernel_rfl) (by rfl) ?_
  iterate 3 refine yq tb rfl ?_
  refine bs h2 fun c20 gc20 h2=>yx FI gc20 U U U ?_
  iterate 4 refine yq tb rfl ?_
  rcases Sh.AP h2 with ⟨b21,h2⟩ | ⟨b21,h2⟩
  ·refine yg tb b21 U ?_
   iterate 2 refine yg tb b21 rfl ?_
   refine Dk (v:=(.Bi (Aj c20) 0)) (A9 U U b21) rfl (Bh FI U U gc20 U) ?_
   iterate 4 refine yg tb b21 rfl ?_
   refine bs h2 fun c22 gc22 h2=>Dk (v:=(.ptr 1 0 (Int.toNat i8) 0)) (A9 U U b21) rfl (BD A2 U U U U gc22) (Dk (v:=(i64 c22)) (A9 U U b21) rfl (Bf EF U U (Bp gc22) rfl) ?_)
   iterate 2 refine yg tb b21 rfl ?_
   refine bs h2 fun c23 gc23 h2=>Dk (v:=(.ptr 2 0 (Int.toNat i8) 0)) (A9 U U b21) rfl (BD A2 U U U U gc23) (Dk (v:=(i64 c23)) (A9 U U b21) rfl (Bf EF U U (Bp gc23) rfl) ?_)
   iterate 2 refine yg tb b21 rfl ?_
   exact yt b21 U (BP (M17 (!decide (c20.count=(Sh.w (c22+c23)))) (Sh.AA h2).symm _ (AE U)))
  ·refine ys b21 U ?_
   iterate 15 refine ys b21 rfl ?_
   exact yf b21 U (BP (M17 false (Sh.AA h2).symm _ (AE U)))
 ·intro b13 h1
  exact Ac (M9 () (Sh.AA h1).symm _ (AR _ U))
theorem NP {N:Nat} {p0:Au} {p1:Av} {r:Bool} (h0:B2 N p0 p1=some r):AY Tryz.prog 25 [(.agg (Ao p0)),(.agg (Ah p1))] [] (fun v st=>v=(.bool r)∧st=[]):=by
 unfold B2 at h0
 refine ai Tryz.func25 U U U U (sr U fun K1 hK1=>A8 (m:=0) Aa U U U U U (A8 (m:=1) Aa U U U U U (zq tb U (dn hK1 U (AB fun K2 hK2=>AB fun K3 hK3=>bs h0 fun o5 h1 h0=>?_)))))
 have M5 :∀(t4:Bool),o5=t4→∀s,Wk 0 s ⟨90,AS [(2,(.ptr 0 0 0 0)),(3,(.ptr 1 0 0 0)),(24,(.bool t4))],[⟨0,37,2,[(Ao p0)]⟩,⟨0,42,7,[(Ah p1)]⟩]⟩→K3 s:=by
  intro t4 hq s hw
  subst o5
  try dsimp only at h0
  refine hK3 _ (AI hw ?_)
  refine ci h0 U ?_ ?_ <;> clear h0
  ·intro b6 h0
   refine zr tb U U ?_
   replace h0:=Sh.AA h0
   subst r
   exact AH (xr (AR [(4,(.bool false))] U))
  ·intro b6 h0
   refine AG (hK2 _ (AB fun K8 hK8=>AB fun K9 hK9=>bs h0 fun o11 h1 h0=>?_))
   have M11 :∀(t10:Bool),o11=t10→∀s,Wk 0 s ⟨90,AS [(2,(.ptr 0 0 0 0)),(3,(.ptr 1 0 0 0)),(52,(.bool t10))],[⟨0,37,2,[(Ao p0)]⟩,⟨0,42,7,[(Ah p1)]⟩]⟩→K9 s:=by
    intro t10 hq s hw
    subst o11
    try dsimp only at h0
    refine hK9 _ (AI hw ?_)
    refine ci h0 U ?_ ?_ <;> clear h0
    ·intro b12 h0
     refine zr tb U U ?_
     replace h0:=Sh.AA h0
     subst r
     exact AH (xr (AR [(4,(.bool false))] U))
    ·intro b12 h0
     refine AG (hK8 _ (AB fun K14 hK14=>AB fun K15 hK15=>bs h0 fun o17 h1 h0=>?_))
     have M17 :∀(t16:Bool),o17=t16→∀s,Wk 0 s ⟨90,AS [(2,(.ptr 0 0 0 0)),(3,(.ptr 1 0 0 0)),(71,(.bool t16))],[⟨0,37,2,[(Ao p0)]⟩,⟨0,42,7,[(Ah p1)]⟩]⟩→K15 s:=by
      intro t16 hq s hw
      subst o17
      try dsimp only at h0
      refine hK15 _ (AI hw ?_)
      refine ci h0 U ?_ ?_ <;> clear h0
      ·intro b18 h0
       refine zr tb U U ?_
       replace h0:=Sh.AA h0
       subst r
       exact AH (xr (AR [(4,(.bool false))] U))
      ·intro b18 h0
       refine AG (hK14 _ (AB fun K20 hK20=>zr tb U U ?_))
       obtain⟨o23,h1,h0⟩:=Sh.A1 h0
       have M23 :∀(_:Unit),o23=Sum.inr ()→∀s,Wk 0 s ⟨90,AS [(3,(.ptr 0 0 0 0))],[⟨0,42,7,[(Ah p1)]⟩]⟩→K20 s:=by
        intro _ hq s hw
        subst o23
        try dsimp only at h0
        refine hK20 _ (AI hw (AB fun K24 hK24=>bs h0 fun o26 h1 h0=>?_))
        have M26 :∀(t25:Bool),o26=t25→∀s,Wk 0 s ⟨90,AS [(4,(.bool t25))],[]⟩→K24 s:=by
         intro t25 hq s hw
         subst o26
         try dsimp only at h0
         refine hK24 _ (AI hw ?_)
         replace h0:=Sh.AA h0
         subst r
         exact AH (xr (AM (L:=[(4,(.bool t25))]) ⟨.rfl,trivial⟩))
        refine AF U (zq tb U (bs h1 fun q27 gq27 h1=>zc dP (Oj gq27) rfl U U (zq tb U ?_)))
        rcases Sh.AP h1 with ⟨b28,h1⟩ | ⟨b28,h1⟩
        ·exact zg tb b28 U (bs h1 fun q29 gq29 h1=>zd b28 dK (L8 gq29) rfl U U U (zt b28 U (zq tb U (AD (M26 q29 (Sh.AA h1).symm _ (AR _ U))))))
        ·exact zs b28 U (zs b28 U (zf b28 U (zq tb U (AD (M26 false (Sh.AA h1).symm _ (AR _ U))))))
       refine AJ (AX (σ:=Int) (fun n v=>CS N p0 p1 n v=some o23) (fun k22=>⟨90,AS [(2,(.ptr 0 0 0 0)),(3,(.ptr 1 0 0 0)),(5,(i64 k22))],[⟨0,37,2,[(Ao p0)]⟩,⟨0,42,7,[(Ah p1)]⟩]⟩) N 0 h1 (AE U) (fun _ hv=>by rw[CS] at hv;cases hv) ?_)
       rintro n k22 h1
       try dsimp only at h1 ⊢
       rw[CS] at h1
       refine AB fun K30 hK30=>sr U fun K31 hK31=>zm tb 3 U (zl tb U U (zq tb U (dn hK31 U ?_)))
       refine ci h1 U ?_ ?_ <;> clear h1
       ·intro b32 h1
        refine AG (hK30 _ (AB fun K33 hK33=>AJ (sr U fun K34 hK34=>zm tb 3 U (bs h1 fun q35 gq35 h1=>zc dX (NF gq35) rfl U U (zq tb U (dn hK34 U ?_))))))
        refine ci h1 U ?_ ?_ <;> clear h1
        ·intro b36 h1
         have b37:q35=false:=by simpa using b36
         refine zr tb U U ?_
         replace h1:=Sh.AA h1
         subst o23
         try dsimp only[id] at h0
         replace h0:=Sh.AA h0
         subst r
         exact AH (xr (AR [(4,(.bool false))] U))
        ·intro b36 h1
         have b39:q35=true:=by simpa using b36
         exact AG (hK33 _ (AF U (zm tb 3 U (AD (xi (Sh.w (k22+1)) h1 (AE U))))))
       ·intro b32 h1
        exact Ac (M23 () (Sh.AA h1).symm _ (AN (L:=[(3,(.ptr 0 0 0 0))]) (st':=[⟨0,42,7,[(Ah p1)]⟩]) (st1:=[⟨0,42,7,[(Ah p1)]⟩]) [1] U .nil (by decide) rfl U (.raw U U .nil) ⟨.rfl,trivial⟩))
     refine AF U (zm tb 2 U (zl tb U U (zm tb 5 U ?_)))
     rcases Sh.AP h1 with ⟨b40,h1⟩ | ⟨b40,h1⟩
     ·refine zs b40 U ?_
      iterate 3 refine zs b40 rfl ?_
      refine zt b40 U (zq tb U ?_)
      iterate 4 refine zs rfl rfl ?_
      exact zt U U (AD (M17 true (Sh.AA h1).symm _ (AE U)))
     ·refine zg tb b40 U (zg tb b40 U (bs h1 fun q41 gq41 h1=>zd b40 eg (NC gq41) rfl U U U (zg tb b40 U (zf b40 U (zq tb U ?_)))))
      rcases Sh.AP h1 with ⟨b42,h1⟩ | ⟨b42,h1⟩
      ·refine zs b42 U ?_
       iterate 3 refine zs b42 rfl ?_
       exact zt b42 U (AD (M17 true (Sh.AA h1).symm _ (AE U)))
      ·exact zg tb b42 U (zg tb b42 U (bs h1 fun q43 gq43 h1=>zd b42 eQ (N9 gq43) rfl U U U (zg tb b42 U (zf b42 U (AD (M17 (!q43) (Sh.AA h1).symm _ (AE U)))))))
   refine AF U (zm tb 2 U (bs h1 fun q44 gq44 h1=>zc Ee (Aw gq44) rfl U U (zm tb 2 U ?_)))
   rcases Sh.AP h1 with ⟨b45,h1⟩ | ⟨b45,h1⟩
   ·refine zs b45 U ?_
    iterate 3 refine zs b45 rfl ?_
    iterate 3 refine zn rfl ?_
    refine zs b45 U (zt b45 U (zq tb U ?_))
    iterate 4 refine zs rfl rfl ?_
    refine zt U U (zq tb U ?_)
    iterate 6 refine zs rfl rfl ?_
    exact zt U U (AD (M11 true (Sh.AA h1).symm _ (AE U)))
   ·refine zg tb b45 U ?_
    iterate 3 refine zg tb b45 rfl ?_
    rcases Sh.AP h1 with ⟨b46,h1⟩ | ⟨b46,h1⟩
    ·refine zg tb b46 U (zg tb b46 U (zg tb b46 U (A5 (v:=(.bool (!decide (p1.status=0)))) (A9 U U b45) rfl (Br U b46 U) (zf b45 U (zq tb U ?_)))))
     rcases Sh.AP h1 with ⟨b47,h1⟩ | ⟨b47,h1⟩
     ·refine zs b47 U ?_
      iterate 3 refine zs b47 rfl ?_
      refine zt b47 U (zq tb U ?_)
      iterate 6 refine zs rfl rfl ?_
      exact zt U U (AD (M11 true (Sh.AA h1).symm _ (AE U)))
     ·refine zg tb b47 U (zg tb b47 U (bs h1 fun q48 gq48 h1=>zd b47 Ee (Aw gq48) rfl U U U (zg tb b47 U (zf b47 U (zq tb U ?_)))))
      rcases Sh.AP h1 with ⟨b49,h1⟩ | ⟨b49,h1⟩
      ·refine zs b49 U ?_
       iterate 5 refine zs b49 rfl ?_
       exact zt b49 U (AD (M11 true (Sh.AA h1).symm _ (AE U)))
      ·refine zg tb b49 U ?_
       iterate 3 refine zg tb b49 rfl ?_
       exact bs h1 fun q50 gq50 h1=>zd b49 Ee (Aw gq50) rfl U U U (zg tb b49 U (zf b49 U (AD (M11 (!q50) (Sh.AA h1).symm _ (AE U)))))
    ·refine zs b46 U (zs b46 U (zs b46 U (A5 (v:=(.bool false)) (A9 U U b45) rfl (CE U b46 U) (zf b45 U (zq tb U (zg tb U U (zg tb U U (bs h1 fun q51 gq51 h1=>zd U Ee (Aw gq51) rfl U U U (zg tb U U (zf U U ?_))))))))))
     refine zq tb U ?_
     rcases Sh.AP h1 with ⟨b52,h1⟩ | ⟨b52,h1⟩
     ·refine zs b52 U ?_
      iterate 5 refine zs b52 rfl ?_
      exact zt b52 U (AD (M11 true (Sh.AA h1).symm _ (AE U)))
     ·refine zg tb b52 U ?_
      iterate 3 refine zg tb b52 rfl ?_
      exact bs h1 fun q53 gq53 h1=>zd b52 Ee (Aw gq53) rfl U U U (zg tb b52 U (zf b52 U (AD (M11 (!q53) (Sh.AA h1).symm _ (AE U)))))
 refine AF U (zq tb U (bs h1 fun q54 gq54 h1=>zc di (NB gq54) rfl U U (zm tb 2 U ?_)))
 rcases Sh.AP h1 with ⟨b55,h1⟩ | ⟨b55,h1⟩
 ·refine zs b55 U ?_
  iterate 3 refine zs b55 rfl ?_
  refine zt b55 U (zq tb U ?_)
  iterate 8 refine zs rfl rfl ?_
  exact zt U U (AD (M5 true (Sh.AA h1).symm _ (AE U)))
 ·refine zg tb b55 U (zg tb b55 U (bs h1 fun q56 gq56 h1=>zd b55 Ee (Aw gq56) rfl U U U (zg tb b55 U (zf b55 U (zq tb U ?_)))))
  rcases Sh.AP h1 with ⟨b57,h1⟩ | ⟨b57,h1⟩
  ·refine zs b57 U ?_
   iterate 7 refine zs b57 rfl ?_
   exact zt b57 U (AD (M5 true (Sh.AA h1).symm _ (AE U)))
  ·refine zg tb b57 U ?_
   iterate 4 refine zg tb b57 rfl ?_
   exact A5 (v:=(i64 (Sh.len p1.AT))) (A9 U U b57) rfl (BL XL U) (zg tb b57 U (zg tb b57 U (zf b57 U (AD (M5 ((decide (p1.status=0)) != (decide ((Sh.len p1.AT)=0))) (Sh.AA h1).symm _ (AE U))))))
theorem H7 {N:Nat} {p0:(List Int)} {p1:Int} {r:(List Int)} (h0:FG N p0 p1=some r):AY Tryz.prog 118 [(ls eI p0),(i64 p1)] [] (fun v st=>v=(ow 0 0 r)∧st=[(ro 0 3 1 eI r)]):=by
 unfold FG at h0
 refine ai Tryz.func118 U U U U (zr tb U U (sr U fun K2 hK2=>?_))
 refine DO (m:=0) (l:=([]:List Int)) (enc:=eI) Aa A2 (by decide) rfl U U U U U ?_
 refine zq tb U (dn hK2 U (zr tb U U (AB fun K4 hK4=>zr tb U U (bs h0 fun o11 h1 h0=>?_))))
 have M11 :∀(done9:Bool) (l10:(List Int)),o11=(done9,l10)→∀s,Wk 0 s ⟨49,AS [(1,(i64 p1)),(5,(ow 0 0 l10)),(6,(.bool done9))],[(ro 0 3 1 eI l10)]⟩→K4 s:=by
  intro done9 l10 hq s hw
  subst o11
  try dsimp only at h0
  refine hK4 _ (AI hw (AB fun K12 hK12=>bs h0 fun o14 h1 h0=>?_))
  have M14 :∀(l13:(List Int)),o14=l13→∀s,Wk 0 s ⟨49,AS [(5,(ow 0 0 l13))],[(ro 0 3 1 eI l13)]⟩→K12 s:=by
   intro l13 hq s hw
   subst o14
   try dsimp only at h0
   refine hK12 _ (AI hw (zr tb U U ?_))
   replace h0:=Sh.AA h0
   subst r
   exact AH (xr (AM (L:=[(4,(ow 0 0 l13))]) ⟨.rfl,trivial⟩))
  refine zr tb U U ?_
  refine ci h1 U ?_ ?_ <;> clear h1
  ·intro b17 h1
   have b18:done9=false:=by simpa using b17
   refine AF U (zm tb 2 U ?_)
   refine DO (m:=1) (l:=[p1]) (enc:=eI) Aa A2 (by decide) rfl U U U U U ?_
   refine bs h1 fun l19 gl19 h1=>Ex (l2:=[p1]) Aa A2 U U U U (J0 U U) (fun _=>U) gl19 U (zq tb U ?_)
   exact AD (M14 l19 (Sh.AA h1).symm _ (by refine Wk.trans (Cf (L:=[(5,(ow 0 0 l19))]) (st':=[(ro 0 3 1 eI l19),(ro 0 3 1 eI [p1])]) (.pure (AL fun _=>U) (.pure (AL fun _=>U) .nil)) ⟨.rfl,trivial⟩) ?_;exact AN (L:=[(5,(ow 0 0 l19))]) (st':=[(ro 0 3 1 eI l19)]) (st1:=[(ro 0 3 1 eI l19)]) [0] U .nil (by decide) rfl U (.pure (AL fun _=>U) .nil) ⟨.rfl,trivial⟩))
  ·intro b17 h1
   have b20:done9=true:=by simpa using b17
   exact AG (M14 l10 (Sh.AA h1).symm _ (AE U))
 refine AJ (AX (σ:=Bool×Int×(List Int)) (fun n v=>B3 p0 p1 n v.1 v.2.1 v.2.2=some o11) (fun (done6,i7,l8)=>⟨49,AS [(0,(ls eI p0)),(1,(i64 p1)),(5,(ow 0 0 l8)),(6,(.bool done6)),(7,(i64 i7))],[(ro 0 3 1 eI l8)]⟩) N (false,0,[]) h1 (AE U) (fun _ hv=>by rw[B3] at hv;cases hv) ?_)
 rintro n ⟨done6,i7,l8⟩ h1
 try dsimp only at h1 ⊢
 rw[B3] at h1
 refine AB fun K21 hK21=>sr U fun K22 hK22=>zm tb 2 U (zl tb U U (zq tb U (dn hK22 U ?_)))
 refine ci h1 U ?_ ?_ <;> clear h1
 ·intro b23 h1
  refine AG (hK21 _ (AB fun K24 hK24=>AJ (AB fun K25 hK25=>bs h1 fun o28 h2 h1=>?_)))
  have M28 :∀(done26:Bool) (l27:(List Int)),o28=(done26,l27)→∀s,Wk 0 s ⟨49,AS [(0,(ls eI p0)),(1,(i64 p1)),(5,(ow 0 0 l27)),(6,(.bool done26)),(7,(i64 i7))],[(ro 0 3 1 eI l27)]⟩→K25 s:=by
   intro done26 l27 hq s hw
   subst o28
   try dsimp only at h1
   refine hK25 _ (AI hw (AF U (zm tb 3 U (bs h1 fun c29 gc29 h1=>zx A2 gc29 U U U (zq tb U ?_)))))
   refine DO (m:=1) (l:=[c29]) (enc:=eI) Aa A2 (by decide) rfl U U U U U ?_
   refine bs h1 fun l30 gl30 h1=>Ex (l2:=[c29]) Aa A2 U U U U (J0 U U) (fun _=>U) gl30 U (zq tb U (dn hK24 U (AF U (zm tb 3 U ?_))))
   exact AD (xi (done26,Sh.w (i7+1),l30) h1 (by refine Wk.trans (Cf (L:=[(0,(ls eI p0)),(1,(i64 p1)),(5,(ow 0 0 l30)),(6,(.bool done26)),(7,(i64 (Sh.w (i7+1))))]) (st':=[(ro 0 3 1 eI l30),(ro 0 3 1 eI [c29])]) (.pure (AL fun _=>U) (.pure (AL fun _=>U) .nil)) ⟨.rfl,.rfl,.rfl,.rfl,.rfl,trivial⟩) ?_;exact AN (L:=[(0,(ls eI p0)),(1,(i64 p1)),(5,(ow 0 0 l30)),(6,(.bool done26)),(7,(i64 (Sh.w (i7+1))))]) (st':=[(ro 0 3 1 eI l30)]) (st1:=[(ro 0 3 1 eI l30)]) [0] U .nil (by decide) rfl U (.pure (AL fun _=>U) .nil) ⟨.rfl,.rfl,.rfl,.rfl,.rfl,trivial⟩))
  refine AB fun K31 hK31=>bs h2 fun o33 h3 h2=>?_
  have M33 :∀(t32:Bool),o33=t32→∀s,Wk 0 s ⟨49,AS [(0,(ls eI p0)),(1,(i64 p1)),(5,(ow 0 0 l8)),(6,(.bool done6)),(7,(i64 i7)),(24,(.bool t32))],[(ro 0 3 1 eI l8)]⟩→K31 s:=by
   intro t32 hq s hw
   subst o33
   try dsimp only at h2
   refine hK31 _ (AI hw ?_)
   refine ci h2 U ?_ ?_ <;> clear h2
   ·intro b34 h2
    refine AB fun K35 hK35=>bs h2 fun o37 h3 h2=>?_
    have M37 :∀(l36:(List Int)),o37=l36→∀s,Wk 0 s ⟨49,AS [(0,(ls eI p0)),(1,(i64 p1)),(5,(ow 0 0 l36)),(7,(i64 i7))],[(ro 0 3 1 eI l36)]⟩→K35 s:=by
     intro l36 hq s hw
     subst o37
     try dsimp only at h2
     exact hK35 _ (AI hw (AF U (zq tb U (AD (M28 true l36 (Sh.AA h2).symm _ (AE U))))))
    refine sr U fun K38 hK38=>zm tb 2 U (bs h3 fun c39 gc39 h3=>zx A2 gc39 U U U (zm tb 3 U (dn hK38 U ?_)))
    refine ci h3 U ?_ ?_ <;> clear h3
    ·intro b40 h3
     refine AF U (zm tb 2 U ?_)
     refine DO (m:=1) (l:=[p1]) (enc:=eI) Aa A2 (by decide) rfl U U U U U ?_
     refine bs h3 fun l41 gl41 h3=>Ex (l2:=[p1]) Aa A2 U U U U (J0 U U) (fun _=>U) gl41 U (zq tb U ?_)
     exact AD (M37 l41 (Sh.AA h3).symm _ (by refine Wk.trans (Cf (L:=[(0,(ls eI p0)),(1,(i64 p1)),(5,(ow 0 0 l41)),(7,(i64 i7))]) (st':=[(ro 0 3 1 eI l41),(ro 0 3 1 eI [p1])]) (.pure (AL fun _=>U) (.pure (AL fun _=>U) .nil)) ⟨.rfl,.rfl,.rfl,.rfl,trivial⟩) ?_;exact AN (L:=[(0,(ls eI p0)),(1,(i64 p1)),(5,(ow 0 0 l41)),(7,(i64 i7))]) (st':=[(ro 0 3 1 eI l41)]) (st1:=[(ro 0 3 1 eI l41)]) [0] U .nil (by decide) rfl U (.pure (AL fun _=>U) .nil) ⟨.rfl,.rfl,.rfl,.rfl,trivial⟩))
    ·intro b40 h3
     exact AG (M37 l8 (Sh.AA h3).symm _ (AE U))
   ·intro b34 h2
    exact AG (M28 done6 l8 (Sh.AA h2).symm _ (AE U))
  refine AF U (zm tb 3 U ?_)
  rcases Sh.AP h3 with ⟨b42,h3⟩ | ⟨b42,h3⟩
  ·refine zg tb b42 U (zg tb b42 U (bs h3 fun c43 gc43 h3=>A5 (v:=(.Bi (eI c43) 0)) (A9 U U b42) rfl (Bh A2 U U gc43 U) ?_))
   iterate 3 refine zg tb b42 rfl ?_
   exact zt b42 U (AD (M33 (decide (p1≤c43)) (Sh.AA h3).symm _ (AE U)))
  ·refine zs b42 U ?_
   iterate 5 refine zs b42 rfl ?_
   exact zf b42 U (AD (M33 false (Sh.AA h3).symm _ (AE U)))
 ·intro b23 h1
  exact Ac (M11 done6 l8 (Sh.AA h1).symm _ (AE U))
theorem Qf {N:Nat} {p0:(List Ag)} {p1:Int} {r:(List Int)} (h0:IP N p0 p1=some r):AY Tryz.prog 87 [(ls AU p0),(i64 p1)] [] (fun v st=>v=(ow 0 0 r)∧st=[(ro 0 3 1 eI r)]):=by
 unfold IP at h0
 refine ai Tryz.func87 U U U U (zr tb U U (sr U fun K2 hK2=>zm tb 2 U (bs h0 fun c3 gc3 h0=>zx IB gc3 U U U (zq tb U (BF (m:=0) Aa PX U U (A7 Aa N3 U U U U U U (show 0+6≤6 by decide) rfl (dn hK2 U (AB fun K4 hK4=>zr tb U U ?_))))))))
 refine AJ (AB fun K6 hK6=>bs h0 fun o8 h1 h0=>?_)
 have M8 :∀(t7:Bool),o8=t7→∀s,Wk 0 s ⟨52,AS [(1,(i64 p1)),(5,(.ptr 0 0 0 0)),(13,(i64 c3.op)),(14,(.bool t7))],[⟨0,132,6,[(AU c3)]⟩]⟩→K6 s:=by
  intro t7 hq s hw
  subst o8
  try dsimp only at h0
  refine hK6 _ (AI hw ?_)
  refine ci h0 U ?_ ?_ <;> clear h0
  ·intro b9 h0
   refine sr U fun K10 hK10=>?_
   refine DO (m:=1) (l:=([]:List Int)) (enc:=eI) Aa A2 (by decide) rfl U U U U U ?_
   refine zq tb U (dn hK10 U ?_)
   replace h0:=Sh.AA h0
   subst r
   exact AH (xr (AN (L:=[(4,(.own 0 0 (List.length ([]:List Int))))]) (st':=[(ro 0 3 1 eI ([]:List Int))]) (st1:=[(ro 0 3 1 eI ([]:List Int))]) [1] U .nil (by decide) rfl U (.pure (AL fun _=>U) .nil) ⟨.rfl,trivial⟩))
  ·intro b9 h0
   refine zr tb U U ?_
   refine ci h0 U ?_ ?_ <;> clear h0
   ·intro b12 h0
    refine sr U fun K13 hK13=>zm tb 2 U ?_
    refine DO (m:=1) (l:=[c3.num]) (enc:=eI) Aa A2 (by decide) rfl U U U U U ?_
    refine zq tb U (dn hK13 U ?_)
    replace h0:=Sh.AA h0
    subst r
    exact AH (xr (AN (L:=[(4,(ow 0 0 [c3.num]))]) (st':=[(ro 0 3 1 eI [c3.num])]) (st1:=[(ro 0 3 1 eI [c3.num])]) [1] U .nil (by decide) rfl U (.pure (AL fun _=>U) .nil) ⟨.rfl,trivial⟩))
   ·intro b12 h0
    refine zr tb U U ?_
    refine ci h0 U ?_ ?_ <;> clear h0
    ·intro b15 h0
     refine sr U fun K16 hK16=>zm tb 2 U ?_
     refine DO (m:=1) (l:=[Sh.w (p1+1)]) (enc:=eI) Aa A2 (by decide) rfl U U U U U ?_
     refine zm tb 2 U (Al (Wk.EW (L:=[(27,(ls eI [Sh.w (p1+1)])),(29,(i64 c3.num))]) (st':=[⟨0,132,6,[(AU c3)]⟩,⟨1,3,1,[]⟩]) (id:=1) rfl (show 0≤1 by decide) (AL fun _=>U) ⟨(.EW U),.rfl,trivial⟩ U) (bs h0 fun q17 gq17 h0=>BN (v':=(ow 2 0 q17)) Aa Tl (H7 gq17) rfl U ⟨(BB fun _=>U),trivial⟩ U U (zq tb U (dn hK16 U ?_))))
     replace h0:=Sh.AA h0
     subst r
     exact AH (xr (AN (L:=[(4,(ow 0 0 q17))]) (st':=[(ro 0 3 1 eI q17)]) (st1:=[(ro 0 3 1 eI q17)]) [2] U .nil (by decide) rfl U (.pure (AL fun _=>U) .nil) ⟨.rfl,trivial⟩))
    ·intro b15 h0
     refine zr tb U U ?_
     refine ci h0 U ?_ ?_ <;> clear h0
     ·intro b19 h0
      refine sr U fun K20 hK20=>?_
      refine DO (m:=1) (l:=([]:List Int)) (enc:=eI) Aa A2 (by decide) rfl U U U U U ?_
      refine zq tb U (dn hK20 U (AB fun K21 hK21=>zr tb U U (bs h0 fun o26 h1 h0=>?_)))
      have M26 :∀(l25:(List Int)),o26=l25→∀s,Wk 0 s ⟨52,AS [(6,(ow 0 0 l25))],[(ro 0 3 1 eI l25)]⟩→K21 s:=by
       intro l25 hq s hw
       subst o26
       try dsimp only at h0
       refine hK21 _ (AI hw (zr tb U U ?_))
       replace h0:=Sh.AA h0
       subst r
       exact AH (xr (AM (L:=[(4,(ow 0 0 l25))]) ⟨.rfl,trivial⟩))
      refine AJ (AX (σ:=Int×(List Int)) (fun n v=>D9 N c3 n v.1 v.2=some o26) (fun (k23,l24)=>⟨52,AS [(5,(.ptr 0 0 0 0)),(6,(ow 1 0 l24)),(7,(i64 k23))],[⟨0,132,6,[(AU c3)]⟩,(ro 0 3 1 eI l24)]⟩) N (0,[]) h1 (AE U) (fun _ hv=>by rw[D9] at hv;cases hv) ?_)
      rintro n ⟨k23,l24⟩ h1
      try dsimp only at h1 ⊢
      rw[D9] at h1
      refine AB fun K28 hK28=>sr U fun K29 hK29=>zm tb 3 U (zl tb U U (zq tb U (dn hK29 U ?_)))
      refine ci h1 U ?_ ?_ <;> clear h1
      ·intro b30 h1
       refine AG (hK28 _ (AB fun K31 hK31=>AJ (AF U (zm tb 4 U (bs h1 fun c32 gc32 h1=>zx A2 gc32 U U U (zq tb U (Al (Wk.EW (L:=[(5,(.ptr 0 0 0 0)),(7,(i64 k23)),(41,(ls eI l24)),(46,(i64 c32))]) (st':=[⟨0,132,6,[(AU c3)]⟩,⟨1,3,1,[]⟩]) (id:=1) rfl (show 0≤1 by decide) (AL fun _=>U) ⟨.rfl,.rfl,(.EW U),.rfl,trivial⟩ U) (bs h1 fun q33 gq33 h1=>BN (v':=(ow 2 0 q33)) Aa Tl (H7 gq33) rfl U ⟨(BB fun _=>U),trivial⟩ U U (zq tb U ?_)))))))))
       refine dn hK31 U (AF U (zm tb 3 U ?_))
       exact AD (xi (Sh.w (k23+1),q33) h1 (AN (L:=[(5,(.ptr 0 0 0 0)),(6,(ow 1 0 q33)),(7,(i64 (Sh.w (k23+1))))]) (st':=[⟨0,132,6,[(AU c3)]⟩,(ro 0 3 1 eI q33)]) (st1:=[⟨0,132,6,[(AU c3)]⟩,(ro 0 3 1 eI q33)]) [0,2] U .nil (by decide) rfl U (.raw U U (.pure (AL fun _=>U) .nil)) ⟨.rfl,.rfl,.rfl,trivial⟩))
      ·intro b30 h1
       exact Ac (M26 l24 (Sh.AA h1).symm _ (AN (L:=[(6,(ow 0 0 l24))]) (st':=[(ro 0 3 1 eI l24)]) (st1:=[(ro 0 3 1 eI l24)]) [1] U .nil (by decide) rfl U (.pure (AL fun _=>U) .nil) ⟨.rfl,trivial⟩))
     ·intro b19 h0
      refine AG (hK4 _ (sr U fun K34 hK34=>zm tb 2 U ?_))
      refine DO (m:=1) (l:=[Sh.w (p1+1)]) (enc:=eI) Aa A2 (by decide) rfl U U U U U ?_
      refine zq tb U (dn hK34 U ?_)
      replace h0:=Sh.AA h0
      subst r
      exact AH (xr (AN (L:=[(4,(ow 0 0 [Sh.w (p1+1)]))]) (st':=[(ro 0 3 1 eI [Sh.w (p1+1)])]) (st1:=[(ro 0 3 1 eI [Sh.w (p1+1)])]) [1] U .nil (by decide) rfl U (.pure (AL fun _=>U) .nil) ⟨.rfl,trivial⟩))
 refine zr tb U U ?_
 refine ci h1 U ?_ ?_ <;> clear h1
 ·intro b36 h1
  exact AG (M8 true (Sh.AA h1).symm _ (AM (L:=[(1,(i64 p1)),(5,(.ptr 0 0 0 0)),(13,(i64 c3.op)),(14,(.bool true))]) ⟨.rfl,.rfl,.rfl,(.of (congrArg AV.bool b36)),trivial⟩))
 ·intro b36 h1
  exact AF U (zm tb 2 U (AD (M8 (decide (c3.op=24)) (Sh.AA h1).symm _ (AE U))))
theorem KX {p0:(List Int)} {r:(List Int)} (h0:GF p0=some r):AY Tryz.prog 56 [(ls eI p0)] [] (fun v st=>v=(ow 0 0 r)∧st=[(ro 0 3 1 eI r)]):=by
 unfold GF at h0
 refine ai Tryz.func56 U U U U (zr tb U U (sr U fun K2 hK2=>?_))
 refine DO (m:=0) (l:=([]:List Int)) (enc:=eI) Aa A2 (by decide) rfl U U U U U ?_
 refine zq tb U (bs h0 fun l3 gl3 h0=>Ex (l2:=p0) Aa A2 U U U U TW (fun _=>U) gl3 U (zq tb U (dn hK2 U ?_)))
 replace h0:=Sh.AA h0
 subst r
 exact AH (xr (Cf (L:=[(2,(ow 0 0 l3))]) (st':=[(ro 0 3 1 eI l3)]) (.pure (AL fun _=>U) .nil) ⟨.rfl,trivial⟩))
theorem MT {N:Nat} {p0:(List Int)} {p1:(List Int)} {r:(List Int)} (h0:IF N p0 p1=some r):AY Tryz.prog 88 [(ls eI p0),(ls eI p1)] [] (fun v st=>v=(ow 0 0 r)∧st=[(ro 0 3 1 eI r)]):=by
 unfold IF at h0
 refine ai Tryz.func88 U U U U (zr tb U U (sr U fun K2 hK2=>zq tb U (bs h0 fun q3 gq3 h0=>BN (v':=(ow 0 0 q3)) Aa aY (KX gq3) rfl U ⟨(BB fun _=>U),trivial⟩ U U (zq tb U (dn hK2 U (AB fun K4 hK4=>zr tb U U (bs h0 fun o9 h1 h0=>?_)))))))
 have M9 :∀(l8:(List Int)),o9=l8→∀s,Wk 0 s ⟨22,AS [(5,(ow 0 0 l8))],[(ro 0 3 1 eI l8)]⟩→K4 s:=by
  intro l8 hq s hw
  subst o9
  try dsimp only at h0
  refine hK4 _ (AI hw (zr tb U U ?_))
  replace h0:=Sh.AA h0
  subst r
  exact AH (xr (AM (L:=[(4,(ow 0 0 l8))]) ⟨.rfl,trivial⟩))
 refine AJ (AX (σ:=Int×(List Int)) (fun n v=>Ea N p1 n v.1 v.2=some o9) (fun (i6,l7)=>⟨22,AS [(1,(ls eI p1)),(5,(ow 0 0 l7)),(6,(i64 i6))],[(ro 0 3 1 eI l7)]⟩) N (0,q3) h1 (AE U) (fun _ hv=>by rw[Ea] at hv;cases hv) ?_)
 rintro n ⟨i6,l7⟩ h1
 try dsimp only at h1 ⊢
 rw[Ea] at h1
 refine AB fun K11 hK11=>sr U fun K12 hK12=>zm tb 2 U (zl tb U U (zq tb U (dn hK12 U ?_)))
 refine ci h1 U ?_ ?_ <;> clear h1
 ·intro b13 h1
  refine AG (hK11 _ (AB fun K14 hK14=>AJ (AF U (zm tb 3 U (bs h1 fun c15 gc15 h1=>zx A2 gc15 U U U (zq tb U (Al (Wk.EW (L:=[(1,(ls eI p1)),(6,(i64 i6)),(15,(ls eI l7)),(19,(i64 c15))]) (st':=[⟨1,3,1,[]⟩]) (id:=0) rfl (show 0≤0 by decide) (AL fun _=>U) ⟨.rfl,.rfl,(.EW U),.rfl,trivial⟩ U) (bs h1 fun q16 gq16 h1=>BN (v':=(ow 1 0 q16)) Aa Tl (H7 gq16) rfl U ⟨(BB fun _=>U),trivial⟩ U U (zq tb U ?_)))))))))
  refine dn hK14 U (AF U (zm tb 3 U ?_))
  exact AD (xi (Sh.w (i6+1),q16) h1 (AN (L:=[(1,(ls eI p1)),(5,(ow 0 0 q16)),(6,(i64 (Sh.w (i6+1))))]) (st':=[(ro 0 3 1 eI q16)]) (st1:=[(ro 0 3 1 eI q16)]) [1] U .nil (by decide) rfl U (.pure (AL fun _=>U) .nil) ⟨.rfl,.rfl,.rfl,trivial⟩))
 ·intro b13 h1
  exact Ac (M9 l7 (Sh.AA h1).symm _ (AE U))
theorem Ku {N:Nat} {p0:(List Int)} {p1:Int} {r:(List Int)} (h0:EX N p0 p1=some r):AY Tryz.prog 59 [(ls eI p0),(i64 p1)] [] (fun v st=>v=(ow 0 0 r)∧st=[(ro 0 3 1 eI r)]):=by
 unfold EX at h0
 refine ai Tryz.func59 U U U U (zr tb U U (sr U fun K2 hK2=>?_))
 refine DO (m:=0) (l:=([]:List Int)) (enc:=eI) Aa A2 (by decide) rfl U U U U U ?_
 refine zq tb U (dn hK2 U (AB fun K3 hK3=>zr tb U U (bs h0 fun o8 h1 h0=>?_)))
 have M8 :∀(l7:(List Int)),o8=l7→∀s,Wk 0 s ⟨28,AS [(5,(ow 0 0 l7))],[(ro 0 3 1 eI l7)]⟩→K3 s:=by
  intro l7 hq s hw
  subst o8
  try dsimp only at h0
  refine hK3 _ (AI hw (zr tb U U ?_))
  replace h0:=Sh.AA h0
  subst r
  exact AH (xr (AM (L:=[(4,(ow 0 0 l7))]) ⟨.rfl,trivial⟩))
 refine AJ (AX (σ:=Int×(List Int)) (fun n v=>DY p0 p1 n v.1 v.2=some o8) (fun (i5,l6)=>⟨28,AS [(0,(ls eI p0)),(1,(i64 p1)),(5,(ow 0 0 l6)),(6,(i64 i5))],[(ro 0 3 1 eI l6)]⟩) N (0,[]) h1 (AE U) (fun _ hv=>by rw[DY] at hv;cases hv) ?_)
 rintro n ⟨i5,l6⟩ h1
 try dsimp only at h1 ⊢
 rw[DY] at h1
 refine AB fun K10 hK10=>sr U fun K11 hK11=>zm tb 2 U (zl tb U U (zq tb U (dn hK11 U ?_)))
 refine ci h1 U ?_ ?_ <;> clear h1
 ·intro b12 h1
  refine AG (hK10 _ (AB fun K13 hK13=>bs h1 fun o15 h2 h1=>?_))
  have M15 :∀(l14:(List Int)),o15=l14→∀s,Wk 0 s ⟨28,AS [(0,(ls eI p0)),(1,(i64 p1)),(5,(ow 0 0 l14)),(6,(i64 i5))],[(ro 0 3 1 eI l14)]⟩→K13 s:=by
   intro l14 hq s hw
   subst o15
   try dsimp only at h1
   exact hK13 _ (AI hw (AF U (zm tb 3 U (AD (xi (Sh.w (i5+1),l14) h1 (AE U))))))
  refine AJ (sr U fun K16 hK16=>zm tb 2 U (bs h2 fun c17 gc17 h2=>zx A2 gc17 U U U (zm tb 3 U (dn hK16 U ?_))))
  refine ci h2 U ?_ ?_ <;> clear h2
  ·intro b18 h2
   have b19:decide (c17=p1)=false:=by simpa using b18
   refine AF U (zm tb 3 U (zx A2 gc17 U U U (zq tb U ?_)))
   refine DO (m:=1) (l:=[c17]) (enc:=eI) Aa A2 (by decide) rfl U U U U U ?_
   refine bs h2 fun l20 gl20 h2=>Ex (l2:=[c17]) Aa A2 U U U U (J0 U U) (fun _=>U) gl20 U (zq tb U ?_)
   exact AD (M15 l20 (Sh.AA h2).symm _ (by refine Wk.trans (Cf (L:=[(0,(ls eI p0)),(1,(i64 p1)),(5,(ow 0 0 l20)),(6,(i64 i5))]) (st':=[(ro 0 3 1 eI l20),(ro 0 3 1 eI [c17])]) (.pure (AL fun _=>U) (.pure (AL fun _=>U) .nil)) ⟨.rfl,.rfl,.rfl,.rfl,trivial⟩) ?_;exact AN (L:=[(0,(ls eI p0)),(1,(i64 p1)),(5,(ow 0 0 l20)),(6,(i64 i5))]) (st':=[(ro 0 3 1 eI l20)]) (st1:=[(ro 0 3 1 eI l20)]) [0] U .nil (by decide) rfl U (.pure (AL fun _=>U) .nil) ⟨.rfl,.rfl,.rfl,.rfl,trivial⟩))
  ·intro b18 h2
   have b21:decide (c17=p1)=true:=by simpa using b18
   exact AG (M15 l6 (Sh.AA h2).symm _ (AE U))
 ·intro b12 h1
  exact Ac (M8 l6 (Sh.AA h1).symm _ (AE U))
theorem Qa {N:Nat} {p0:Ag} {r:(List Int)} (h0:Il N p0=some r):AY Tryz.prog 90 [(.agg (AU p0))] [] (fun v st=>v=(ow 0 0 r)∧st=[(ro 0 3 1 eI r)]):=by
 unfold Il at h0
 refine ai Tryz.func90 U U U U (sr U fun K1 hK1=>A8 (m:=0) Aa U U U U U (zq tb U (dn hK1 U (sr U fun K2 hK2=>?_))))
 refine DO (m:=1) (l:=([]:List Int)) (enc:=eI) Aa A2 (by decide) rfl U U U U U ?_
 refine zq tb U (dn hK2 U (AB fun K3 hK3=>bs h0 fun o5 h1 h0=>?_))
 have M5 :∀(l4:(List Int)),o5=l4→∀s,Wk 0 s ⟨29,AS [(3,(ow 0 0 l4))],[(ro 0 3 1 eI l4)]⟩→K3 s:=by
  intro l4 hq s hw
  subst o5
  try dsimp only at h0
  refine hK3 _ (AI hw (zr tb U U ?_))
  replace h0:=Sh.AA h0
  subst r
  exact AH (xr (AM (L:=[(2,(ow 0 0 l4))]) ⟨.rfl,trivial⟩))
 refine AB fun K7 hK7=>bs h1 fun o9 h2 h1=>?_
 have M9 :∀(t8:Bool),o9=t8→∀s,Wk 0 s ⟨29,AS [(1,(.ptr 0 0 0 0)),(3,(.own 1 0 (List.length ([]:List Int)))),(13,(.bool t8))],[⟨0,132,6,[(AU p0)]⟩,(ro 0 3 1 eI ([]:List Int))]⟩→K7 s:=by
  intro t8 hq s hw
  subst o9
  try dsimp only at h1
  refine hK7 _ (AI hw ?_)
  refine ci h1 U ?_ ?_ <;> clear h1
  ·intro b10 h1
   refine zr tb U U (TY fun K12 hK12=>bs h1 fun o16 h2 h1=>?_)
   have M16 :∀(l15:(List Int)),o16=l15→∀s,Wk 0 s ⟨29,AS [(3,(ow 0 0 l15))],[(ro 0 3 1 eI l15)]⟩→K12 s:=by
    intro l15 hq s hw
    subst o16
    try dsimp only at h1
    exact hK12 _ (M5 l15 (Sh.AA h1).symm _ (hw.trans (AM (L:=[(3,(ow 0 0 l15))]) ⟨.rfl,trivial⟩)))
   refine AJ (AX (σ:=Int×(List Int)) (fun n v=>EB N p0 n v.1 v.2=some o16) (fun (k13,l14)=>⟨29,AS [(1,(.ptr 0 0 0 0)),(3,(ow 1 0 l14)),(4,(i64 k13))],[⟨0,132,6,[(AU p0)]⟩,(ro 0 3 1 eI l14)]⟩) N (0,[]) h2 (AE U) (fun _ hv=>by rw[EB] at hv;cases hv) ?_)
   rintro n ⟨k13,l14⟩ h2
   try dsimp only at h2 ⊢
   rw[EB] at h2
   refine AB fun K17 hK17=>sr U fun K18 hK18=>zm tb 3 U (zl tb U U (zq tb U (dn hK18 U ?_)))
   refine ci h2 U ?_ ?_ <;> clear h2
   ·intro b19 h2
    refine AG (hK17 _ (AB fun K20 hK20=>AJ (AF U (zm tb 4 U (bs h2 fun c21 gc21 h2=>zx A2 gc21 U U U (zq tb U (Al (Wk.EW (L:=[(1,(.ptr 0 0 0 0)),(4,(i64 k13)),(21,(ls eI l14)),(26,(i64 c21))]) (st':=[⟨0,132,6,[(AU p0)]⟩,⟨1,3,1,[]⟩]) (id:=1) rfl (show 0≤1 by decide) (AL fun _=>U) ⟨.rfl,.rfl,(.EW U),.rfl,trivial⟩ U) (bs h2 fun q22 gq22 h2=>BN (v':=(ow 2 0 q22)) Aa Tl (H7 gq22) rfl U ⟨(BB fun _=>U),trivial⟩ U U (zq tb U ?_)))))))))
    refine dn hK20 U (AF U (zm tb 3 U ?_))
    exact AD (xi (Sh.w (k13+1),q22) h2 (AN (L:=[(1,(.ptr 0 0 0 0)),(3,(ow 1 0 q22)),(4,(i64 (Sh.w (k13+1))))]) (st':=[⟨0,132,6,[(AU p0)]⟩,(ro 0 3 1 eI q22)]) (st1:=[⟨0,132,6,[(AU p0)]⟩,(ro 0 3 1 eI q22)]) [0,2] U .nil (by decide) rfl U (.raw U U (.pure (AL fun _=>U) .nil)) ⟨.rfl,.rfl,.rfl,trivial⟩))
   ·intro b19 h2
    exact Ac (M16 l14 (Sh.AA h2).symm _ (AN (L:=[(3,(ow 0 0 l14))]) (st':=[(ro 0 3 1 eI l14)]) (st1:=[(ro 0 3 1 eI l14)]) [1] U .nil (by decide) rfl U (.pure (AL fun _=>U) .nil) ⟨.rfl,trivial⟩))
  ·intro b10 h1
   exact AG (M5 [] (Sh.AA h1).symm _ (AN (L:=[(3,(.own 0 0 (List.length ([]:List Int))))]) (st':=[(ro 0 3 1 eI ([]:List Int))]) (st1:=[(ro 0 3 1 eI ([]:List Int))]) [1] U .nil (by decide) rfl U (.pure (AL fun _=>U) .nil) ⟨.rfl,trivial⟩))
 refine AF U (zm tb 4 U ?_)
 rcases Sh.AP h2 with ⟨b23,h2⟩ | ⟨b23,h2⟩
 ·exact zg tb b23 U (zg tb b23 U (zg tb b23 U (zt b23 U (AD (M9 (!decide (p0.op=15)) (Sh.AA h2).symm _ (AE U))))))
 ·exact zs b23 U (zs b23 U (zs b23 U (zf b23 U (AD (M9 false (Sh.AA h2).symm _ (AE U))))))
theorem Ot {N:Nat} {p0:(List Ag)} {p1:Int} {r:(List (List Int))} (h0:HD N p0 p1=some r):AY Tryz.prog 58 [(ls AU p0),(i64 p1)] [] (fun v st=>v=(ow 0 0 r)∧st=[(ro 0 26 1 (eS eI) r)]):=by
 unfold HD at h0
 refine ai Tryz.func58 U U U U (zr tb U U (sr U fun K2 hK2=>zq tb U (zl tb U U (bs h0 fun l3 gl3 h0=>GU (m:=0) (enc:=(eS eI)) (u:=[]) Aa XH U U U gl3 U U (zq tb U (dn hK2 U (AB fun K4 hK4=>sr U fun K5 hK5=>zq tb U ?_)))))))
 refine zl tb U U (zm tb 2 U (dn hK5 U (bs h0 fun o9 h1 h0=>?_)))
 have M9 :∀(l8:(List (List Int))),o9=l8→∀s,Wk 0 s ⟨64,AS [(5,(ow 0 0 l8))],[(ro 0 26 1 (eS eI) l8)]⟩→K4 s:=by
  intro l8 hq s hw
  subst o9
  try dsimp only at h0
  refine hK4 _ (AI hw (zr tb U U ?_))
  replace h0:=Sh.AA h0
  subst r
  exact AH (xr (AM (L:=[(4,(ow 0 0 l8))]) ⟨.rfl,trivial⟩))
 refine AJ (AX (σ:=Int×(List (List Int))) (fun n v=>Dt N p0 p1 n v.1 v.2=some o9) (fun (at6,l7)=>⟨64,AS [(0,(ls AU p0)),(1,(i64 p1)),(5,(ow 0 0 l7)),(6,(i64 at6))],[(ro 0 26 1 (eS eI) l7)]⟩) N (Sh.w ((Sh.len p0) - 1),l3) h1 (AE U) (fun _ hv=>by rw[Dt] at hv;cases hv) ?_)
 rintro n ⟨at6,l7⟩ h1
 try dsimp only at h1 ⊢
 rw[Dt] at h1
 refine AB fun K11 hK11=>zr tb U U ?_
 refine ci h1 U ?_ ?_ <;> clear h1
 ·intro b13 h1
  refine AG (hK11 _ (AB fun K14 hK14=>AJ (sr U fun K15 hK15=>?_)))
  refine DO (m:=1) (l:=([]:List Int)) (enc:=eI) Aa A2 (by decide) rfl U U U U U ?_
  refine zq tb U (dn hK15 U (sr U fun K16 hK16=>zm tb 2 U (bs h1 fun q17 gq17 h1=>BN (v':=(ow 2 0 q17)) Aa dk (Qf gq17) rfl U ⟨(BB fun _=>U),trivial⟩ U U (zq tb U (dn hK16 U (AB fun K18 hK18=>zr tb U U (bs h1 fun o23 h2 h1=>?_)))))))
  have M23 :∀(l22:(List Int)),o23=l22→∀s,Wk 0 s ⟨64,AS [(0,(ls AU p0)),(1,(i64 p1)),(5,(ow 0 0 l7)),(6,(i64 at6)),(7,(ow 1 0 l22))],[(ro 0 26 1 (eS eI) l7),(ro 0 3 1 eI l22)]⟩→K18 s:=by
   intro l22 hq s hw
   subst o23
   try dsimp only at h1
   refine hK18 _ (AI hw (AB fun K24 hK24=>bs h1 fun o26 h2 h1=>?_))
   have M26 :∀(l25:(List Int)),o26=l25→∀s,Wk 0 s ⟨64,AS [(0,(ls AU p0)),(1,(i64 p1)),(5,(ow 0 0 l7)),(6,(i64 at6)),(7,(ow 1 0 l25))],[(ro 0 26 1 (eS eI) l7),(ro 0 3 1 eI l25)]⟩→K24 s:=by
    intro l25 hq s hw
    subst o26
    try dsimp only at h1
    refine hK24 _ (AI hw (AF U (zm tb 5 U (bs h1 fun c27 gc27 h1=>zx IB gc27 U U U (zq tb U (bs h1 fun q28 gq28 h1=>BN (v':=(ow 2 0 q28)) Aa fE (Qa gq28) rfl U ⟨(BB fun _=>U),trivial⟩ U U (Al (Wk.EW (L:=[(0,(ls AU p0)),(1,(i64 p1)),(5,(ow 0 0 l7)),(6,(i64 at6)),(53,(ow 0 0 l7)),(54,(i64 at6)),(55,(ls eI l25)),(60,(ow 2 0 q28))]) (st':=[(ro 0 26 1 (eS eI) l7),⟨1,3,1,[]⟩,(ro 0 3 1 eI q28)]) (id:=1) rfl (show 0≤1 by decide) (AL fun _=>U) ⟨.rfl,.rfl,.rfl,.rfl,.rfl,.rfl,(.EW U),.rfl,trivial⟩ U) (Al (Wk.EW (L:=[(0,(ls AU p0)),(1,(i64 p1)),(5,(ow 0 0 l7)),(6,(i64 at6)),(53,(ow 0 0 l7)),(54,(i64 at6)),(55,(ls eI l25)),(60,(ls eI q28))]) (st':=[(ro 0 26 1 (eS eI) l7),⟨1,3,1,[]⟩,⟨1,3,1,[]⟩]) (id:=2) rfl (show 0≤2 by decide) (AL fun _=>U) ⟨.rfl,.rfl,.rfl,.rfl,.rfl,.rfl,.rfl,(.EW U),trivial⟩ U) (bs h1 fun q29 gq29 h1=>BN (v':=(ow 3 0 q29)) Aa af (MT gq29) rfl U ⟨(BB fun _=>U),trivial⟩ U U ?_)))))))))
    refine bs h1 fun c30 gc30 h1=>zz (.ptr 0 0 (Int.toNat at6) 0) (BD XH U U U U gc30) rfl (Al (Wk.EW (L:=[(0,(ls AU p0)),(1,(i64 p1)),(5,(ow 0 0 l7)),(6,(i64 at6)),(61,(ls eI q29)),(62,(.ptr 0 0 (Int.toNat at6) 0))]) (st':=[(ro 0 26 1 (eS eI) l7),⟨1,3,1,[]⟩,⟨1,3,1,[]⟩,⟨1,3,1,[]⟩]) (id:=3) rfl (show 0≤3 by decide) (AL fun _=>U) ⟨.rfl,.rfl,.rfl,.rfl,(.EW U),.rfl,trivial⟩ U) (Cz (u':=q29) Aa Hn U U gc30 U U U (show 0+1≤1 by decide) rfl U (dn hK14 U (AF U (zm tb 3 U ?_)))))
    exact AD (xi (Sh.w (at6 - 1),Sh.put l7 at6 q29) h1 (by refine Wk.trans (AN (L:=[(0,(.sl (List.map AU p0))),(1,(i64 p1)),(5,(.own 0 0 (List.length l7))),(6,(i64 (Sh.w (at6 - 1))))]) (st':=[⟨0,26,1,List.map (eS eI) (Sh.put l7 at6 q29)⟩]) (st1:=[⟨0,26,1,List.map (eS eI) (Sh.put l7 at6 q29)⟩]) [0] U .nil (by decide) rfl U (.pure (AL fun _=>U) .nil) ⟨.rfl,.rfl,.rfl,.rfl,trivial⟩) ?_;exact AM (L:=[(0,(.sl (List.map AU p0))),(1,(i64 p1)),(5,(.own 0 0 (List.length (Sh.put l7 at6 q29)))),(6,(i64 (Sh.w (at6 - 1))))]) ⟨.rfl,.rfl,(.len (by simp only[Sh.Af])),.rfl,trivial⟩))
   refine sr U fun K31 hK31=>zm tb 2 U (bs h2 fun c32 gc32 h2=>zx IB gc32 U U U (zm tb 2 U (bs h2 fun q33 gq33 h2=>zc ak (NW gq33) rfl U U (dn hK31 U ?_))))
   refine ci h2 U ?_ ?_ <;> clear h2
   ·intro b34 h2
    refine AF U (zm tb 3 U (zx IB gc32 U U U (zm tb 2 U (Al (Wk.EW (L:=[(0,(ls AU p0)),(1,(i64 p1)),(5,(ow 0 0 l7)),(6,(i64 at6)),(46,(ls eI l22)),(51,(i64 c32.dst))]) (st':=[(ro 0 26 1 (eS eI) l7),⟨1,3,1,[]⟩]) (id:=1) rfl (show 0≤1 by decide) (AL fun _=>U) ⟨.rfl,.rfl,.rfl,.rfl,(.EW U),.rfl,trivial⟩ U) (bs h2 fun q35 gq35 h2=>BN (v':=(ow 2 0 q35)) Aa bA (Ku gq35) rfl U ⟨(BB fun _=>U),trivial⟩ U U (zq tb U ?_))))))
    exact AD (M26 q35 (Sh.AA h2).symm _ (AN (L:=[(0,(ls AU p0)),(1,(i64 p1)),(5,(ow 0 0 l7)),(6,(i64 at6)),(7,(ow 1 0 q35))]) (st':=[(ro 0 26 1 (eS eI) l7),(ro 0 3 1 eI q35)]) (st1:=[(ro 0 26 1 (eS eI) l7),(ro 0 3 1 eI q35)]) [0,2] U .nil (by decide) rfl U (.pure (AL fun _=>U) (.pure (AL fun _=>U) .nil)) ⟨.rfl,.rfl,.rfl,.rfl,.rfl,trivial⟩))
   ·intro b34 h2
    exact AG (M26 l22 (Sh.AA h2).symm _ (AE U))
  refine AJ (AX (σ:=Int×(List Int)) (fun n v=>DI N l7 q17 n v.1 v.2=some o23) (fun (k20,l21)=>⟨64,AS [(0,(ls AU p0)),(1,(i64 p1)),(5,(ow 0 0 l7)),(6,(i64 at6)),(7,(ow 1 0 l21)),(8,(ow 2 0 q17)),(9,(i64 k20))],[(ro 0 26 1 (eS eI) l7),(ro 0 3 1 eI l21),(ro 0 3 1 eI q17)]⟩) N (0,[]) h2 (AE U) (fun _ hv=>by rw[DI] at hv;cases hv) ?_)
  rintro n ⟨k20,l21⟩ h2
  try dsimp only at h2 ⊢
  rw[DI] at h2
  refine AB fun K36 hK36=>sr U fun K37 hK37=>zm tb 2 U (zz (i64 (Sh.len q17)) (Dj EE U U U) rfl (zq tb U (dn hK37 U ?_)))
  refine ci h2 U ?_ ?_ <;> clear h2
  ·intro b38 h2
   refine AG (hK36 _ (AB fun K39 hK39=>AJ (AF U (zm tb 4 U (bs h2 fun c40 gc40 h2=>zz (.ptr 2 0 (Int.toNat k20) 0) (BD A2 U U U U gc40) rfl (zz (i64 c40) (Bf EF U U (Bp gc40) rfl) rfl (bs h2 fun c41 gc41 h2=>zz (.ptr 0 0 (Int.toNat c40) 0) (BD XH U U U U gc41) rfl (zz (ls eI c41) (Bf Hn U U (Bp gc41) rfl) rfl (Al (Wk.EW (L:=[(0,(ls AU p0)),(1,(i64 p1)),(5,(ow 0 0 l7)),(6,(i64 at6)),(8,(ow 2 0 q17)),(9,(i64 k20)),(31,(ls eI l21)),(38,(ls eI c41))]) (st':=[(ro 0 26 1 (eS eI) l7),⟨1,3,1,[]⟩,(ro 0 3 1 eI q17)]) (id:=1) rfl (show 0≤1 by decide) (AL fun _=>U) ⟨.rfl,.rfl,.rfl,.rfl,.rfl,.rfl,(.EW U),.rfl,trivial⟩ U) ?_)))))))))
   refine bs h2 fun q42 gq42 h2=>BN (v':=(ow 3 0 q42)) Aa af (MT gq42) rfl U ⟨(BB fun _=>U),trivial⟩ U U (zq tb U (dn hK39 U (AF U (zm tb 3 U ?_))))
   exact AD (xi (Sh.w (k20+1),q42) h2 (AN (L:=[(0,(ls AU p0)),(1,(i64 p1)),(5,(ow 0 0 l7)),(6,(i64 at6)),(7,(ow 1 0 q42)),(8,(ow 2 0 q17)),(9,(i64 (Sh.w (k20+1))))]) (st':=[(ro 0 26 1 (eS eI) l7),(ro 0 3 1 eI q42),(ro 0 3 1 eI q17)]) (st1:=[(ro 0 26 1 (eS eI) l7),(ro 0 3 1 eI q42),(ro 0 3 1 eI q17)]) [0,3,2] U .nil (by decide) rfl U (.pure (AL fun _=>U) (.pure (AL fun _=>U) (.pure (AL fun _=>U) .nil))) ⟨.rfl,.rfl,.rfl,.rfl,.rfl,.rfl,.rfl,trivial⟩))
  ·intro b38 h2
   exact Ac (M23 l21 (Sh.AA h2).symm _ (AN (L:=[(0,(ls AU p0)),(1,(i64 p1)),(5,(ow 0 0 l7)),(6,(i64 at6)),(7,(ow 1 0 l21))]) (st':=[(ro 0 26 1 (eS eI) l7),(ro 0 3 1 eI l21)]) (st1:=[(ro 0 26 1 (eS eI) l7),(ro 0 3 1 eI l21)]) [0,1] U .nil (by decide) rfl U (.pure (AL fun _=>U) (.pure (AL fun _=>U) .nil)) ⟨.rfl,.rfl,.rfl,.rfl,.rfl,trivial⟩))
 ·intro b13 h1
  exact Ac (M9 l7 (Sh.AA h1).symm _ (AE U))
theorem Px {N:Nat} {p0:Ai} {p1:(List Int)} {r:(List Int)} (h0:Hj N p0 p1=some r):AY Tryz.prog 60 [(.agg (Ax p0)),(ls eI p1)] [] (fun v st=>v=(ow 0 0 r)∧st=[(ro 0 3 1 eI r)]):=by
 unfold Hj at h0
 refine ai Tryz.func60 U U U U (sr U fun K1 hK1=>A8 (m:=0) Aa U U U U U (zq tb U (dn hK1 U (sr U fun K2 hK2=>?_))))
 refine DO (m:=1) (l:=([]:List Int)) (enc:=eI) Aa A2 (by decide) rfl U U U U U ?_
 refine zq tb U (dn hK2 U (AB fun K3 hK3=>zr tb U U (bs h0 fun o8 h1 h0=>?_)))
 have M8 :∀(l7:(List Int)),o8=l7→∀s,Wk 0 s ⟨26,AS [(5,(ow 0 0 l7))],[(ro 0 3 1 eI l7)]⟩→K3 s:=by
  intro l7 hq s hw
  subst o8
  try dsimp only at h0
  refine hK3 _ (AI hw (zr tb U U ?_))
  replace h0:=Sh.AA h0
  subst r
  exact AH (xr (AM (L:=[(4,(ow 0 0 l7))]) ⟨.rfl,trivial⟩))
 refine AJ (AX (σ:=Int×(List Int)) (fun n v=>Dd p0 p1 n v.1 v.2=some o8) (fun (k5,l6)=>⟨26,AS [(1,(ls eI p1)),(2,(.ptr 0 0 0 0)),(5,(ow 1 0 l6)),(6,(i64 k5))],[⟨0,94,6,[(Ax p0)]⟩,(ro 0 3 1 eI l6)]⟩) N (0,[]) h1 (AE U) (fun _ hv=>by rw[Dd] at hv;cases hv) ?_)
 rintro n ⟨k5,l6⟩ h1
 try dsimp only at h1 ⊢
 rw[Dd] at h1
 refine AB fun K10 hK10=>sr U fun K11 hK11=>zm tb 2 U (zl tb U U (zq tb U (dn hK11 U ?_)))
 refine ci h1 U ?_ ?_ <;> clear h1
 ·intro b12 h1
  refine AG (hK10 _ (AB fun K13 hK13=>AJ ?_))
  refine Cw 10 (by kernel_rfl) (by kernel_rfl) (by rfl) ?_
  iterate 5 refine yq tb rfl ?_
  refine bs h1 fun c14 gc14 h1=>yx A2 gc14 U U U (yq tb U (bs h1 fun c15 gc15 h1=>yx A2 gc15 U U U (yq tb U ?_)))
  refine ef (l:=[c15]) (enc:=eI) Aa A2 (by decide) rfl U U U U (AL fun _=>U) ?_
  exact BP (bs h1 fun l16 gl16 h1=>Ex (l2:=[c15]) Aa A2 U U U U TW (fun _=>U) gl16 U (zq tb U (dn hK13 U (AF U (zm tb 3 U (AD (xi (Sh.w (k5+1),l16) h1 (Cf (L:=[(1,(ls eI p1)),(2,(.ptr 0 0 0 0)),(5,(ow 1 0 l16)),(6,(i64 (Sh.w (k5+1))))]) (st':=[⟨0,94,6,[(Ax p0)]⟩,(ro 0 3 1 eI l16)]) (.raw U U (.pure (AL fun _=>U) .nil)) ⟨.rfl,.rfl,.rfl,.rfl,trivial⟩))))))))
 ·intro b12 h1
  exact Ac (M8 l6 (Sh.AA h1).symm _ (AN (L:=[(5,(ow 0 0 l6))]) (st':=[(ro 0 3 1 eI l6)]) (st1:=[(ro 0 3 1 eI l6)]) [1] U .nil (by decide) rfl U (.pure (AL fun _=>U) .nil) ⟨.rfl,trivial⟩))
theorem OT {N:Nat} {p0:Au} {p1:Av} {r:(List Int)} (h0:Gk N p0 p1=some r):AY Tryz.prog 27 [(.agg (Ao p0)),(.agg (Ah p1))] [] (fun v st=>v=(ow 0 0 r)∧st=[(ro 0 3 1 eI r)]):=by
 unfold Gk at h0
 refine ai Tryz.func27 U U U U (sr U fun K1 hK1=>A8 (m:=0) Aa U U U U U (A8 (m:=1) Aa U U U U U (zq tb U (dn hK1 U (sr U fun K2 hK2=>?_)))))
 refine DO (m:=2) (l:=([]:List Int)) (enc:=eI) Aa A2 (by decide) rfl U U U U U ?_
 refine zq tb U (dn hK2 U (AB fun K3 hK3=>zr tb U U (bs h0 fun o8 h1 h0=>?_)))
 have M8 :∀(l7:(List Int)),o8=l7→∀s,Wk 0 s ⟨57,AS [(5,(ow 0 0 l7))],[(ro 0 3 1 eI l7)]⟩→K3 s:=by
  intro l7 hq s hw
  subst o8
  try dsimp only at h0
  refine hK3 _ (AI hw (zr tb U U ?_))
  replace h0:=Sh.AA h0
  subst r
  exact AH (xr (AM (L:=[(4,(ow 0 0 l7))]) ⟨.rfl,trivial⟩))
 refine AJ (AX (σ:=Int×(List Int)) (fun n v=>DL N p0 p1 n v.1 v.2=some o8) (fun (k5,l6)=>⟨57,AS [(2,(.ptr 0 0 0 0)),(3,(.ptr 1 0 0 0)),(5,(ow 2 0 l6)),(6,(i64 k5))],[⟨0,37,2,[(Ao p0)]⟩,⟨0,42,7,[(Ah p1)]⟩,(ro 0 3 1 eI l6)]⟩) N (0,[]) h1 (AE U) (fun _ hv=>by rw[DL] at hv;cases hv) ?_)
 rintro n ⟨k5,l6⟩ h1
 try dsimp only at h1 ⊢
 rw[DL] at h1
 refine AB fun K10 hK10=>sr U fun K11 hK11=>zm tb 3 U (zl tb U U (zq tb U (dn hK11 U ?_)))
 refine ci h1 U ?_ ?_ <;> clear h1
 ·intro b12 h1
  refine AG (hK10 _ (AB fun K13 hK13=>AJ (sr U fun K14 hK14=>zm tb 3 U (bs h1 fun c15 gc15 h1=>zx Gf gc15 U U U (zq tb U (BF (m:=3) Aa SL U U (A7 Aa QO U U U U U U (show 0+6≤6 by decide) rfl (dn hK14 U (AB fun K16 hK16=>?_)))))))))
  refine Cw 14 (by kernel_rfl) (by kernel_rfl) (by rfl) ?_
  iterate 4 refine yq tb rfl ?_
  refine bs h1 fun c17 gc17 h1=>yx IC gc17 U U U ?_
  iterate 4 refine yq tb rfl ?_
  refine bs h1 fun q18 gq18 h1=>?_
  refine E0 (v:=(ls (eS eI) q18)) Aa dG (AY.wk (Ot gq18) (by refine Wk.trans (Wk.EW (L:=[(0,(ls (eS eI) q18))]) (st':=[⟨1,26,1,[]⟩]) (id:=0) rfl (show 0≤0 by decide) (AL fun _=>U) ⟨(.EW U),trivial⟩ U) ?_;refine Wk.trans (AN (L:=[(0,(ls (eS eI) q18))]) (st':=[]) (st1:=[]) [] U .nil (by decide) rfl U .nil ⟨.rfl,trivial⟩) ?_;exact AM (L:=[(0,(ls (eS eI) q18))]) ⟨.rfl,trivial⟩)) rfl U U ?_
  iterate 2 refine yq tb rfl ?_
  refine bs h1 fun c19 gc19 h1=>yx XH gc19 U U U (yq tb U (BP (zq tb U (dn hK16 U (AB fun K20 hK20=>bs h1 fun o22 h2 h1=>?_)))))
  have M22 :∀(live21:(List Int)),o22=live21→∀s,Wk 0 s ⟨57,AS [(2,(.ptr 0 0 0 0)),(3,(.ptr 1 0 0 0)),(5,(ow 2 0 l6)),(6,(i64 k5)),(7,(.ptr 3 0 0 0)),(8,(ls eI live21))],[⟨0,37,2,[(Ao p0)]⟩,⟨0,42,7,[(Ah p1)]⟩,(ro 0 3 1 eI l6),⟨0,94,6,[(Ax c15)]⟩]⟩→K20 s:=by
   intro live21 hq s hw
   subst o22
   try dsimp only at h1
   refine hK20 _ (AI hw (AF U (zm tb 3 U (bs h1 fun q23 gq23 h1=>BN (v':=(ow 4 0 q23)) Aa eo (Px gq23) rfl U ⟨(BB fun _=>U),trivial⟩ U U (bs h1 fun l24 gl24 h1=>Ex (l2:=q23) Aa A2 U U U U (J0 U U) (fun _=>U) gl24 U (zq tb U (dn hK13 U (AF U (zm tb 3 U ?_)))))))))
   exact AD (xi (Sh.w (k5+1),l24) h1 (by refine Wk.trans (Cf (L:=[(2,(.ptr 0 0 0 0)),(3,(.ptr 1 0 0 0)),(5,(ow 2 0 l24)),(6,(i64 (Sh.w (k5+1))))]) (st':=[⟨0,37,2,[(Ao p0)]⟩,⟨0,42,7,[(Ah p1)]⟩,(ro 0 3 1 eI l24),⟨0,94,6,[(Ax c15)]⟩,(ro 0 3 1 eI q23)]) (.raw U U (.raw U U (.pure (AL fun _=>U) (.raw U U (.pure (AL fun _=>U) .nil))))) ⟨.rfl,.rfl,.rfl,.rfl,trivial⟩) ?_;exact AN (L:=[(2,(.ptr 0 0 0 0)),(3,(.ptr 1 0 0 0)),(5,(ow 2 0 l24)),(6,(i64 (Sh.w (k5+1))))]) (st':=[⟨0,37,2,[(Ao p0)]⟩,⟨0,42,7,[(Ah p1)]⟩,(ro 0 3 1 eI l24)]) (st1:=[⟨0,37,2,[(Ao p0)]⟩,⟨0,42,7,[(Ah p1)]⟩,(ro 0 3 1 eI l24)]) [0,1,2] U .nil (by decide) rfl U (.raw U U (.raw U U (.pure (AL fun _=>U) .nil))) ⟨.rfl,.rfl,.rfl,.rfl,trivial⟩))
  refine sr U fun K25 hK25=>zm tb 3 U (zl tb U U (zm tb 2 U (dn hK25 U ?_)))
  refine ci h2 U ?_ ?_ <;> clear h2
  ·intro b26 h2
   refine AF U (zm tb 5 U (bs h2 fun c27 gc27 h2=>zx Gf gc27 U U U (zm tb 2 U (bs h2 fun q28 gq28 h2=>BN (v':=(ow 4 0 q28)) Aa bA (Ku gq28) rfl U ⟨(BB fun _=>U),trivial⟩ U U (zq tb U ?_)))))
   exact AD (M22 q28 (Sh.AA h2).symm _ (by refine Wk.trans (Wk.EW (L:=[(2,(.ptr 0 0 0 0)),(3,(.ptr 1 0 0 0)),(5,(ow 2 0 l6)),(6,(i64 k5)),(7,(.ptr 3 0 0 0)),(8,(ls eI q28))]) (st':=[⟨0,37,2,[(Ao p0)]⟩,⟨0,42,7,[(Ah p1)]⟩,(ro 0 3 1 eI l6),⟨0,94,6,[(Ax c15)]⟩,⟨1,3,1,[]⟩]) (id:=4) rfl (show 0≤4 by decide) (AL fun _=>U) ⟨.rfl,.rfl,.rfl,.rfl,.rfl,(.EW U),trivial⟩ U) ?_;exact AN (L:=[(2,(.ptr 0 0 0 0)),(3,(.ptr 1 0 0 0)),(5,(ow 2 0 l6)),(6,(i64 k5)),(7,(.ptr 3 0 0 0)),(8,(ls eI q28))]) (st':=[⟨0,37,2,[(Ao p0)]⟩,⟨0,42,7,[(Ah p1)]⟩,(ro 0 3 1 eI l6),⟨0,94,6,[(Ax c15)]⟩]) (st1:=[⟨0,37,2,[(Ao p0)]⟩,⟨0,42,7,[(Ah p1)]⟩,(ro 0 3 1 eI l6),⟨0,94,6,[(Ax c15)]⟩]) [0,1,2,3] U .nil (by decide) rfl U (.raw U U (.raw U U (.pure (AL fun _=>U) (.raw U U .nil)))) ⟨.rfl,.rfl,.rfl,.rfl,.rfl,.rfl,trivial⟩))
  ·intro b26 h2
   exact AG (M22 c19 (Sh.AA h2).symm _ (AE U))
 ·intro b12 h1
  exact Ac (M8 l6 (Sh.AA h1).symm _ (AN (L:=[(5,(ow 0 0 l6))]) (st':=[(ro 0 3 1 eI l6)]) (st1:=[(ro 0 3 1 eI l6)]) [2] U .nil (by decide) rfl U (.pure (AL fun _=>U) .nil) ⟨.rfl,trivial⟩))
theorem Pp {N:Nat} {p0:(List Cell)} {p1:(List Int)} {r:(List Int)} (h0:FK N p0 p1=some r):AY Tryz.prog 26 [(ls Aj p0),(ls eI p1)] [] (fun v st=>v=(ow 0 0 r)∧st=[(ro 0 3 1 eI r)]):=by
 unfold FK at h0
 refine ai Tryz.func26 U U U U (zr tb U U (sr U fun K2 hK2=>zq tb U (zl tb U U (bs h0 fun l3 gl3 h0=>GU (m:=0) (enc:=eB) (u:=false) Aa IQ U U U gl3 U U (zq tb U (dn hK2 U (sr U fun K4 hK4=>zq tb U (bs h0 fun q5 gq5 h0=>?_))))))))
 refine BN (v':=(ow 1 0 q5)) Aa aY (KX gq5) rfl U ⟨(BB fun _=>U),trivial⟩ U U (zq tb U (dn hK4 U (AB fun K6 hK6=>bs h0 fun o10 h1 h0=>?_)))
 have M10 :∀(l9:(List Bool)),o10=l9→∀s,Wk 0 s ⟨68,AS [(0,(ls Aj p0)),(5,(ow 0 0 l9))],[(ro 0 4 1 eB l9)]⟩→K6 s:=by
  intro l9 hq s hw
  subst o10
  try dsimp only at h0
  refine hK6 _ (AI hw (sr U fun K11 hK11=>?_))
  refine DO (m:=1) (l:=([]:List Int)) (enc:=eI) Aa A2 (by decide) rfl U U U U U ?_
  refine zq tb U (dn hK11 U (AB fun K12 hK12=>zr tb U U (bs h0 fun o17 h1 h0=>?_)))
  have M17 :∀(l16:(List Int)),o17=l16→∀s,Wk 0 s ⟨68,AS [(8,(ow 0 0 l16))],[(ro 0 3 1 eI l16)]⟩→K12 s:=by
   intro l16 hq s hw
   subst o17
   try dsimp only at h0
   refine hK12 _ (AI hw (zr tb U U ?_))
   replace h0:=Sh.AA h0
   subst r
   exact AH (xr (AM (L:=[(4,(ow 0 0 l16))]) ⟨.rfl,trivial⟩))
  refine AJ (AX (σ:=Int×(List Int)) (fun n v=>DZ l9 p0 n v.1 v.2=some o17) (fun (i14,l15)=>⟨68,AS [(0,(ls Aj p0)),(5,(ow 0 0 l9)),(8,(ow 1 0 l15)),(9,(i64 i14))],[(ro 0 4 1 eB l9),(ro 0 3 1 eI l15)]⟩) N (0,[]) h1 (AE U) (fun _ hv=>by rw[DZ] at hv;cases hv) ?_)
  rintro n ⟨i14,l15⟩ h1
  try dsimp only at h1 ⊢
  rw[DZ] at h1
  refine AB fun K19 hK19=>sr U fun K20 hK20=>zm tb 2 U (zl tb U U (zq tb U (dn hK20 U ?_)))
  refine ci h1 U ?_ ?_ <;> clear h1
  ·intro b21 h1
   refine AG (hK19 _ (AB fun K22 hK22=>bs h1 fun o24 h2 h1=>?_))
   have M24 :∀(l23:(List Int)),o24=l23→∀s,Wk 0 s ⟨68,AS [(0,(ls Aj p0)),(5,(ow 0 0 l9)),(8,(ow 1 0 l23)),(9,(i64 i14))],[(ro 0 4 1 eB l9),(ro 0 3 1 eI l23)]⟩→K22 s:=by
    intro l23 hq s hw
    subst o24
    try dsimp only at h1
    exact hK22 _ (AI hw (AF U (zm tb 3 U (AD (xi (Sh.w (i14+1),l23) h1 (AE U))))))
   refine AJ (sr U fun K25 hK25=>zm tb 2 U (bs h2 fun c26 gc26 h2=>zz (.ptr 0 0 (Int.toNat i14) 0) (BD IQ U U U U gc26) rfl (zz (.bool c26) (Bf Qu U U (Bp gc26) rfl) rfl (dn hK25 U ?_))))
   refine ci h2 U ?_ ?_ <;> clear h2
   ·intro b27 h2
    refine AF U (zm tb 2 U ?_)
    refine DO (m:=2) (l:=[i14]) (enc:=eI) Aa A2 (by decide) rfl U U U U U ?_
    refine bs h2 fun l28 gl28 h2=>Ex (l2:=[i14]) Aa A2 U U U U (J0 U U) (fun _=>U) gl28 U (zq tb U ?_)
    exact AD (M24 l28 (Sh.AA h2).symm _ (by refine Wk.trans (Cf (L:=[(0,(ls Aj p0)),(5,(ow 0 0 l9)),(8,(ow 1 0 l28)),(9,(i64 i14))]) (st':=[(ro 0 4 1 eB l9),(ro 0 3 1 eI l28),(ro 0 3 1 eI [i14])]) (.pure (AL fun _=>U) (.pure (AL fun _=>U) (.pure (AL fun _=>U) .nil))) ⟨.rfl,.rfl,.rfl,.rfl,trivial⟩) ?_;exact AN (L:=[(0,(ls Aj p0)),(5,(ow 0 0 l9)),(8,(ow 1 0 l28)),(9,(i64 i14))]) (st':=[(ro 0 4 1 eB l9),(ro 0 3 1 eI l28)]) (st1:=[(ro 0 4 1 eB l9),(ro 0 3 1 eI l28)]) [0,1] U .nil (by decide) rfl U (.pure (AL fun _=>U) (.pure (AL fun _=>U) .nil)) ⟨.rfl,.rfl,.rfl,.rfl,trivial⟩))
   ·intro b27 h2
    exact AG (M24 l15 (Sh.AA h2).symm _ (AE U))
  ·intro b21 h1
   exact Ac (M17 l15 (Sh.AA h1).symm _ (AN (L:=[(8,(ow 0 0 l15))]) (st':=[(ro 0 3 1 eI l15)]) (st1:=[(ro 0 3 1 eI l15)]) [1] U .nil (by decide) rfl U (.pure (AL fun _=>U) .nil) ⟨.rfl,trivial⟩))
 refine AJ (AX (σ:=(List Bool)×(List Int)) (fun n v=>C0 p0 n v.1 v.2=some o10) (fun (l7,l8)=>⟨68,AS [(0,(ls Aj p0)),(5,(ow 0 0 l7)),(6,(ow 1 0 l8))],[(ro 0 4 1 eB l7),(ro 0 3 1 eI l8)]⟩) N (l3,q5) h1 (AE U) (fun _ hv=>by rw[C0] at hv;cases hv) ?_)
 rintro n ⟨l7,l8⟩ h1
 try dsimp only at h1 ⊢
 rw[C0] at h1
 refine AB fun K29 hK29=>sr U fun K30 hK30=>zq tb U (zz (i64 (Sh.len l8)) (Dj EE U U U) rfl (zq tb U (dn hK30 U ?_)))
 refine ci h1 U ?_ ?_ <;> clear h1
 ·intro b31 h1
  refine AG (hK29 _ (AJ (sr U fun K32 hK32=>zm tb 2 U (zz (i64 (Sh.len l8)) (Dj EE U U U) rfl (zq tb U (bs h1 fun c33 gc33 h1=>zz (.ptr 1 0 (Int.toNat (Sh.w ((Sh.len l8) - 1))) 0) (BD A2 U U U U gc33) rfl (zz (i64 c33) (Bf EF U U (Bp gc33) rfl) rfl (zq tb U (dn hK32 U (sr U fun K34 hK34=>?_))))))))))
  refine zm tb 2 U (zz (i64 (Sh.len l8)) (Dj EE U U U) rfl (zq tb U (bs h1 fun l35 gl35 h1=>Ud Aa A2 U U U U gl35 U (zq tb U (dn hK34 U (AB fun K36 hK36=>bs h1 fun o38 h2 h1=>?_))))))
  have M38 :∀(t37:Bool),o38=t37→∀s,Wk 0 s ⟨68,AS [(0,(ls Aj p0)),(5,(ow 0 0 l7)),(6,(ow 1 0 l35)),(7,(i64 c33)),(39,(.bool t37))],[(ro 0 4 1 eB l7),(ro 0 3 1 eI l35)]⟩→K36 s:=by
   intro t37 hq s hw
   subst o38
   try dsimp only at h1
   refine hK36 _ (AI hw ?_)
   refine ci h1 U ?_ ?_ <;> clear h1
   ·intro b39 h1
    refine sr U fun K40 hK40=>zm tb 3 U (bs h1 fun c41 gc41 h1=>zz (.ptr 0 0 (Int.toNat (Sh.w (c33 - 1000))) 0) (BD IQ U U U U gc41) rfl (Cz (u':=true) Aa Qu U U gc41 U U U (show 0+1≤1 by decide) rfl U (dn hK40 U (AF U (zm tb 4 U (bs h1 fun c42 gc42 h1=>zx FI gc42 U U U (zm tb 2 U (bs h1 fun l43 gl43 h1=>?_))))))))
    refine Ex (l2:=c42.fields) Aa A2 U U U U TW (fun _=>U) gl43 U (zq tb U ?_)
    exact AD (xi (Sh.put l7 (Sh.w (c33 - 1000)) true,l43) h1 (by refine Wk.trans (Cf (L:=[(0,(.sl (List.map Aj p0))),(5,(.own 0 0 (List.length l7))),(6,(.own 1 0 (List.length l43)))]) (st':=[⟨0,4,1,List.map eB (Sh.put l7 (Sh.w (c33 - 1000)) true)⟩,⟨0,3,1,List.map eI l43⟩]) (.pure (AL fun _=>U) (.pure (AL fun _=>U) .nil)) ⟨.rfl,.rfl,.rfl,trivial⟩) ?_;exact AM (L:=[(0,(.sl (List.map Aj p0))),(5,(.own 0 0 (List.length (Sh.put l7 (Sh.w (c33 - 1000)) true)))),(6,(.own 1 0 (List.length l43)))]) ⟨.rfl,(.len (by simp only[Sh.Af])),.rfl,trivial⟩))
   ·intro b39 h1
    exact AG (xi (l7,l35) h1 (AE U))
  refine AF U (zm tb 2 U (bs h2 fun q44 gq44 h2=>zc VG (Gb gq44) rfl U U (zq tb U ?_)))
  rcases Sh.AP h2 with ⟨b45,h2⟩ | ⟨b45,h2⟩
  ·exact zg tb b45 U (zg tb b45 U (zg tb b45 U (bs h2 fun c46 gc46 h2=>A5 (v:=(.ptr 0 0 (Int.toNat (Sh.w (c33 - 1000))) 0)) (A9 U U b45) rfl (BD IQ U U U U gc46) (A5 (v:=(.bool c46)) (A9 U U b45) rfl (Bf Qu U U (Bp gc46) rfl) (zg tb b45 U (zt b45 U (AD (M38 (!c46) (Sh.AA h2).symm _ (Cf (L:=[(0,(ls Aj p0)),(5,(ow 0 0 l7)),(6,(ow 1 0 l35)),(7,(i64 c33)),(39,(.bool (!c46)))]) (st':=[(ro 0 4 1 eB l7),(ro 0 3 1 eI l35)]) (.pure (AL fun _=>U) (.pure (AL fun _=>U) .nil)) ⟨.rfl,.rfl,.rfl,.rfl,.rfl,trivial⟩)))))))))
  ·refine zs b45 U ?_
   iterate 5 refine zs b45 rfl ?_
   exact zf b45 U (AD (M38 false (Sh.AA h2).symm _ (Cf (L:=[(0,(ls Aj p0)),(5,(ow 0 0 l7)),(6,(ow 1 0 l35)),(7,(i64 c33)),(39,(.bool false))]) (st':=[(ro 0 4 1 eB l7),(ro 0 3 1 eI l35)]) (.pure (AL fun _=>U) (.pure (AL fun _=>U) .nil)) ⟨.rfl,.rfl,.rfl,.rfl,.rfl,trivial⟩)))
 ·intro b31 h1
  exact Ac (M10 l7 (Sh.AA h1).symm _ (AN (L:=[(0,(ls Aj p0)),(5,(ow 0 0 l7))]) (st':=[(ro 0 4 1 eB l7)]) (st1:=[(ro 0 4 1 eB l7)]) [0] U .nil (by decide) rfl U (.pure (AL fun _=>U) .nil) ⟨.rfl,.rfl,trivial⟩))
theorem Sd {N:Nat} {p0:(List Int)} {p1:Int} {r:Bool} (h0:J4 N p0 p1=some r):AY Tryz.prog 43 [(ls eI p0),(i64 p1)] [] (fun v st=>v=(.bool r)∧st=[]):=by
 unfold J4 at h0
 refine ai Tryz.func43 U U U U (zr tb U U (AB fun K2 hK2=>zr tb U U ?_))
 obtain⟨o5,h1,h0⟩:=Sh.A1 h0
 have M5 :∀(_:Unit),o5=Sum.inr ()→∀s,Wk 0 s ⟨18,AS [],[]⟩→K2 s:=by
  intro _ hq s hw
  subst o5
  try dsimp only at h0
  refine hK2 _ (AI hw (zr tb U U ?_))
  replace h0:=Sh.AA h0
  subst r
  exact AH (xr (AM (L:=[(4,(.bool false))]) ⟨.rfl,trivial⟩))
 refine AJ (AX (σ:=Int) (fun n v=>Ey p0 p1 n v=some o5) (fun i4=>⟨18,AS [(0,(ls eI p0)),(1,(i64 p1)),(5,(i64 i4))],[]⟩) N 0 h1 (AE U) (fun _ hv=>by rw[Ey] at hv;cases hv) ?_)
 rintro n i4 h1
 try dsimp only at h1 ⊢
 rw[Ey] at h1
 refine AB fun K7 hK7=>sr U fun K8 hK8=>zm tb 2 U (zl tb U U (zq tb U (dn hK8 U ?_)))
 refine ci h1 U ?_ ?_ <;> clear h1
 ·intro b9 h1
  refine AG (hK7 _ (AB fun K10 hK10=>AJ (sr U fun K11 hK11=>zm tb 2 U (bs h1 fun c12 gc12 h1=>zx A2 gc12 U U U (zm tb 3 U (dn hK11 U ?_))))))
  refine ci h1 U ?_ ?_ <;> clear h1
  ·intro b13 h1
   refine zr tb U U ?_
   replace h1:=Sh.AA h1
   subst o5
   try dsimp only[id] at h0
   replace h0:=Sh.AA h0
   subst r
   exact AH (xr (AM (L:=[(4,(.bool true))]) ⟨.rfl,trivial⟩))
  ·intro b13 h1
   exact AG (hK10 _ (AF U (zm tb 3 U (AD (xi (Sh.w (i4+1)) h1 (AE U))))))
 ·intro b9 h1
  exact Ac (M5 () (Sh.AA h1).symm _ (AE U))
theorem QC {N:Nat} {p0:Au} {p1:Av} {r:(List Int)} (h0:Hm N p0 p1=some r):AY Tryz.prog 18 [(.agg (Ao p0)),(.agg (Ah p1))] [] (fun v st=>v=(ow 0 0 r)∧st=[(ro 0 3 1 eI r)]):=by
 unfold Hm at h0
 refine ai Tryz.func18 U U U U (sr U fun K1 hK1=>A8 (m:=0) Aa U U U U U (A8 (m:=1) Aa U U U U U (zq tb U (dn hK1 U (AB fun K2 hK2=>sr U fun K3 hK3=>zm tb 2 U (bs h0 fun q4 gq4 h0=>zc dx (NP gq4) rfl U U (zq tb U ?_)))))))
 refine dn hK3 U ?_
 refine ci h0 U ?_ ?_ <;> clear h0
 ·intro b5 h0
  have b6:q4=false:=by simpa using b5
  refine zr tb U U ?_
  replace h0:=Sh.AA h0
  subst r
  exact AH (Exists.intro _ (And.intro ((((EM (t:=4) rfl 3 (size:=1) (by decide)).trans (AM (L:=[(4,(.own 2 0 (List.length ([]:List Int))))]) ⟨.rfl,trivial⟩)).trans (AN (L:=[(4,(.own 0 0 (List.length ([]:List Int))))]) (st':=[(ro 0 3 1 eI ([]:List Int))]) (st1:=[(ro 0 3 1 eI ([]:List Int))]) [2] U .nil (by decide) rfl U (.pure (AL fun _=>U) .nil) ⟨.rfl,trivial⟩)).trans (AM (L:=[(4,(.own 0 0 (List.length ([]:List Int))))]) ⟨.rfl,trivial⟩)) (And.intro U U)))
 ·intro b5 h0
  have b8:q4=true:=by simpa using b5
  refine AG (hK2 _ (AB fun K9 hK9=>?_))
  refine Cw 6 (by kernel_rfl) (by kernel_rfl) (by rfl) ?_
  iterate 4 refine yq tb rfl ?_
  refine bs h0 fun q10 gq10 h0=>?_
  refine E0 (v:=(ls eI q10)) Aa dD (AY.wk (OT gq10) (by refine Wk.trans (Wk.EW (L:=[(0,(ls eI q10))]) (st':=[⟨1,3,1,[]⟩]) (id:=0) rfl (show 0≤0 by decide) (AL fun _=>U) ⟨(.EW U),trivial⟩ U) ?_;refine Wk.trans (AN (L:=[(0,(ls eI q10))]) (st':=[]) (st1:=[]) [] U .nil (by decide) rfl U .nil ⟨.rfl,trivial⟩) ?_;exact AM (L:=[(0,(ls eI q10))]) ⟨.rfl,trivial⟩)) rfl U U ?_
  refine bs h0 fun q11 gq11 h0=>?_
  refine E0 (v:=(ls eI q11)) Aa eC (AY.wk (Pp gq11) (by refine Wk.trans (Wk.EW (L:=[(0,(ls eI q11))]) (st':=[⟨1,3,1,[]⟩]) (id:=0) rfl (show 0≤0 by decide) (AL fun _=>U) ⟨(.EW U),trivial⟩ U) ?_;refine Wk.trans (AN (L:=[(0,(ls eI q11))]) (st':=[]) (st1:=[]) [] U .nil (by decide) rfl U .nil ⟨.rfl,trivial⟩) ?_;exact AM (L:=[(0,(ls eI q11))]) ⟨.rfl,trivial⟩)) rfl U U ?_
  refine BP (zq tb U (dn hK9 U (sr U fun K12 hK12=>?_)))
  refine DO (m:=2) (l:=([]:List Int)) (enc:=eI) Aa A2 (by decide) rfl U U U U U ?_
  refine zq tb U (dn hK12 U (AB fun K13 hK13=>zr tb U U (bs h0 fun o18 h1 h0=>?_)))
  have M18 :∀(l17:(List Int)),o18=l17→∀s,Wk 0 s ⟨44,AS [(6,(ow 0 0 l17))],[(ro 0 3 1 eI l17)]⟩→K13 s:=by
   intro l17 hq s hw
   subst o18
   try dsimp only at h0
   refine hK13 _ (AI hw (zr tb U U ?_))
   replace h0:=Sh.AA h0
   subst r
   exact AH (xr (AM (L:=[(4,(ow 0 0 l17))]) ⟨.rfl,trivial⟩))
  refine AJ (AX (σ:=Int×(List Int)) (fun n v=>Da N p1 q11 n v.1 v.2=some o18) (fun (i15,l16)=>⟨44,AS [(3,(.ptr 0 0 0 0)),(5,(ls eI q11)),(6,(ow 1 0 l16)),(7,(i64 i15))],[⟨0,42,7,[(Ah p1)]⟩,(ro 0 3 1 eI l16)]⟩) N (0,[]) h1 (AN (L:=[(3,(.ptr 0 0 0 0)),(5,(ls eI q11)),(6,(.own 1 0 (List.length ([]:List Int)))),(7,(i64 0))]) (st':=[⟨0,42,7,[(Ah p1)]⟩,(ro 0 3 1 eI ([]:List Int))]) (st1:=[⟨0,42,7,[(Ah p1)]⟩,(ro 0 3 1 eI ([]:List Int))]) [1,2] U .nil (by decide) rfl U (.raw U U (.pure (AL fun _=>U) .nil)) ⟨.rfl,.rfl,.rfl,.rfl,trivial⟩) (fun _ hv=>by rw[Da] at hv;cases hv) ?_)
  rintro n ⟨i15,l16⟩ h1
  try dsimp only at h1 ⊢
  rw[Da] at h1
  refine AB fun K20 hK20=>sr U fun K21 hK21=>zm tb 3 U (zl tb U U (zq tb U (dn hK21 U ?_)))
  refine ci h1 U ?_ ?_ <;> clear h1
  ·intro b22 h1
   refine AG (hK20 _ (AB fun K23 hK23=>bs h1 fun o25 h2 h1=>?_))
   have M25 :∀(l24:(List Int)),o25=l24→∀s,Wk 0 s ⟨44,AS [(3,(.ptr 0 0 0 0)),(5,(ls eI q11)),(6,(ow 1 0 l24)),(7,(i64 i15))],[⟨0,42,7,[(Ah p1)]⟩,(ro 0 3 1 eI l24)]⟩→K23 s:=by
    intro l24 hq s hw
    subst o25
    try dsimp only at h1
    exact hK23 _ (AI hw (AF U (zm tb 3 U (AD (xi (Sh.w (i15+1),l24) h1 (AE U))))))
   refine AJ (AB fun K26 hK26=>bs h2 fun o28 h3 h2=>?_)
   have M28 :∀(t27:Bool),o28=t27→∀s,Wk 0 s ⟨44,AS [(3,(.ptr 0 0 0 0)),(5,(ls eI q11)),(6,(ow 1 0 l16)),(7,(i64 i15)),(38,(.bool t27))],[⟨0,42,7,[(Ah p1)]⟩,(ro 0 3 1 eI l16)]⟩→K26 s:=by
    intro t27 hq s hw
    subst o28
    try dsimp only at h2
    refine hK26 _ (AI hw ?_)
    refine ci h2 U ?_ ?_ <;> clear h2
    ·intro b29 h2
     refine AF U (zm tb 2 U ?_)
     refine DO (m:=2) (l:=[i15]) (enc:=eI) Aa A2 (by decide) rfl U U U U U ?_
     refine bs h2 fun l30 gl30 h2=>Ex (l2:=[i15]) Aa A2 U U U U (J0 U U) (fun _=>U) gl30 U (zq tb U ?_)
     exact AD (M25 l30 (Sh.AA h2).symm _ (by refine Wk.trans (Cf (L:=[(3,(.ptr 0 0 0 0)),(5,(ls eI q11)),(6,(ow 1 0 l30)),(7,(i64 i15))]) (st':=[⟨0,42,7,[(Ah p1)]⟩,(ro 0 3 1 eI l30),(ro 0 3 1 eI [i15])]) (.raw U U (.pure (AL fun _=>U) (.pure (AL fun _=>U) .nil))) ⟨.rfl,.rfl,.rfl,.rfl,trivial⟩) ?_;exact AN (L:=[(3,(.ptr 0 0 0 0)),(5,(ls eI q11)),(6,(ow 1 0 l30)),(7,(i64 i15))]) (st':=[⟨0,42,7,[(Ah p1)]⟩,(ro 0 3 1 eI l30)]) (st1:=[⟨0,42,7,[(Ah p1)]⟩,(ro 0 3 1 eI l30)]) [0,1] U .nil (by decide) rfl U (.raw U U (.pure (AL fun _=>U) .nil)) ⟨.rfl,.rfl,.rfl,.rfl,trivial⟩))
    ·intro b29 h2
     exact AG (M25 l16 (Sh.AA h2).symm _ (AE U))
   refine AF U (zm tb 3 U (bs h3 fun c31 gc31 h3=>zx FI gc31 U U U (zm tb 4 U ?_)))
   rcases Sh.AP h3 with ⟨b32,h3⟩ | ⟨b32,h3⟩
   ·exact zg tb b32 U (zg tb b32 U (bs h3 fun q33 gq33 h3=>zd b32 db (Sd gq33) rfl U U U (zg tb b32 U (zt b32 U (AD (M28 (!q33) (Sh.AA h3).symm _ (AE U)))))))
   ·refine zs b32 U ?_
    iterate 3 refine zs b32 rfl ?_
    exact zf b32 U (AD (M28 false (Sh.AA h3).symm _ (AE U)))
  ·intro b22 h1
   exact Ac (M18 l16 (Sh.AA h1).symm _ (AN (L:=[(6,(ow 0 0 l16))]) (st':=[(ro 0 3 1 eI l16)]) (st1:=[(ro 0 3 1 eI l16)]) [1] U .nil (by decide) rfl U (.pure (AL fun _=>U) .nil) ⟨.rfl,trivial⟩))
theorem H3 {p0:(List An)} {p1:Int} {r:Bool} (h0:Fl p0 p1=some r):AY Tryz.prog 139 [(ls Ad p0),(i64 p1)] [] (fun v st=>v=(.bool r)∧st=[]):=by
 unfold Fl at h0
 refine ai Tryz.func139 U U U U (zr tb U U (AB fun K2 hK2=>bs h0 fun o4 h1 h0=>?_))
 have M4 :∀(t3:Bool),o4=t3→∀s,Wk 0 s ⟨13,AS [(4,(.bool t3))],[]⟩→K2 s:=by
  intro t3 hq s hw
  subst o4
  try dsimp only at h0
  refine hK2 _ (AI hw ?_)
  replace h0:=Sh.AA h0
  subst r
  exact AH (xr (AM (L:=[(4,(.bool t3))]) ⟨.rfl,trivial⟩))
 refine AF U (zm tb 3 U ?_)
 rcases Sh.AP h1 with ⟨b5,h1⟩ | ⟨b5,h1⟩
 ·exact zg tb b5 U (zg tb b5 U (A5 (v:=(i64 (Sh.len p0))) (A9 U U b5) rfl (BL Uu U) (zg tb b5 U (zt b5 U (zq tb U (AD (M4 (decide (p1≤(Sh.len p0))) (Sh.AA h1).symm _ (AE U))))))))
 ·refine zs b5 U ?_
  iterate 3 refine zs b5 rfl ?_
  exact zf b5 U (zq tb U (AD (M4 false (Sh.AA h1).symm _ (AE U))))
theorem KY {N:Nat} {p0:(List An)} {p1:(List Int)} {r:Bool} (h0:GD N p0 p1=some r):AY Tryz.prog 138 [(ls Ad p0),(ls eI p1)] [] (fun v st=>v=(.bool r)∧st=[]):=by
 unfold GD at h0
 refine ai Tryz.func138 U U U U (zr tb U U (AB fun K2 hK2=>sr U fun K3 hK3=>zq tb U (zl tb U U (zq tb U (dn hK3 U ?_)))))
 obtain⟨o5,h1,h0⟩:=Sh.A1 h0
 have M5 :∀(_:Unit),o5=Sum.inr ()→∀s,Wk 0 s ⟨18,AS [],[]⟩→K2 s:=by
  intro _ hq s hw
  subst o5
  try dsimp only at h0
  refine hK2 _ (AI hw (zr tb U U ?_))
  replace h0:=Sh.AA h0
  subst r
  exact AH (xr (AM (L:=[(4,(.bool true))]) ⟨.rfl,trivial⟩))
 refine AJ (AX (σ:=Int) (fun n v=>Dx p0 p1 n v=some o5) (fun t4=>⟨18,AS [(0,(ls Ad p0)),(7,(ls eI p1)),(8,(i64 (Sh.len p1))),(9,(i64 t4))],[]⟩) N 0 h1 (AE U) (fun _ hv=>by rw[Dx] at hv;cases hv) ?_)
 rintro n t4 h1
 try dsimp only at h1 ⊢
 rw[Dx] at h1
 refine zr tb U U (AB fun K8 hK8=>?_)
 refine ci h1 U ?_ ?_ <;> clear h1
 ·intro b9 h1
  refine AG (hK8 _ (AB fun K10 hK10=>AJ (sr U fun K11 hK11=>bs h1 fun c12 gc12 h1=>zx A2 gc12 U U U (zm tb 2 U (dn hK11 U (sr U fun K13 hK13=>zm tb 2 U (bs h1 fun q14 gq14 h1=>zc Tt (H3 gq14) rfl U U ?_)))))))
  refine zq tb U (dn hK13 U ?_)
  refine ci h1 U ?_ ?_ <;> clear h1
  ·intro b15 h1
   have b16:q14=false:=by simpa using b15
   refine zr tb U U ?_
   replace h1:=Sh.AA h1
   subst o5
   try dsimp only[id] at h0
   replace h0:=Sh.AA h0
   subst r
   exact AH (xr (AM (L:=[(4,(.bool false))]) ⟨.rfl,trivial⟩))
  ·intro b15 h1
   have b18:q14=true:=by simpa using b15
   exact AG (hK10 _ (AF U (zm tb 2 U (AD (xi (Sh.w (t4+1)) h1 (AE U))))))
 ·intro b9 h1
  exact Ac (M5 () (Sh.AA h1).symm _ (AE U))
theorem NI {N:Nat} {p0:(List An)} {r:Bool} (h0:GG N p0=some r):AY Tryz.prog 137 [(ls Ad p0)] [] (fun v st=>v=(.bool r)∧st=[]):=by
 unfold GG at h0
 refine ai Tryz.func137 U U U U (zr tb U U (AB fun K2 hK2=>sr U fun K3 hK3=>zq tb U (zl tb U U (zq tb U (dn hK3 U ?_)))))
 refine ci h0 U ?_ ?_ <;> clear h0
 ·intro b4 h0
  refine zr tb U U ?_
  replace h0:=Sh.AA h0
  subst r
  exact AH (xr (AM (L:=[(2,(.bool false))]) ⟨.rfl,trivial⟩))
 ·intro b4 h0
  refine AG (hK2 _ (AB fun K6 hK6=>sr U fun K7 hK7=>zq tb U (zl tb U U (zq tb U (dn hK7 U ?_)))))
  obtain⟨o9,h1,h0⟩:=Sh.A1 h0
  have M9 :∀(_:Unit),o9=Sum.inr ()→∀s,Wk 0 s ⟨106,AS [],[]⟩→K6 s:=by
   intro _ hq s hw
   subst o9
   try dsimp only at h0
   refine hK6 _ (AI hw (zr tb U U ?_))
   replace h0:=Sh.AA h0
   subst r
   exact AH (xr (AM (L:=[(2,(.bool true))]) ⟨.rfl,trivial⟩))
  refine AJ (AX (σ:=Int) (fun n v=>C8 N p0 n v=some o9) (fun t8=>⟨106,AS [(0,(ls Ad p0)),(12,(ls Ad p0)),(13,(i64 (Sh.len p0))),(14,(i64 t8))],[]⟩) N 0 h1 (AE U) (fun _ hv=>by rw[C8] at hv;cases hv) ?_)
  rintro n t8 h1
  try dsimp only at h1 ⊢
  rw[C8] at h1
  refine zr tb U U (AB fun K12 hK12=>?_)
  refine ci h1 U ?_ ?_ <;> clear h1
  ·intro b13 h1
   refine AG (hK12 _ (AB fun K14 hK14=>AJ (sr U fun K15 hK15=>zq tb U (bs h1 fun c16 gc16 h1=>zx HX gc16 U U U (zq tb U (BF (m:=0) Aa Nu U U (zq tb U (A7 Aa MS U U U U U U (show 0+3≤3 by decide) rfl (dn hK15 U ?_)))))))))
   refine AB fun K17 hK17=>AB fun K18 hK18=>bs h1 fun o20 h2 h1=>?_
   have M20 :∀(t19:Bool),o20=t19→∀s,Wk 0 s ⟨106,AS [(0,(ls Ad p0)),(3,(i64 t8)),(4,(.ptr 0 0 0 0)),(12,(ls Ad p0)),(13,(i64 (Sh.len p0))),(14,(i64 t8)),(52,(.bool t19))],[⟨0,104,3,[(Ad c16)]⟩]⟩→K18 s:=by
    intro t19 hq s hw
    subst o20
    try dsimp only at h1
    refine hK18 _ (AI hw ?_)
    refine ci h1 U ?_ ?_ <;> clear h1
    ·intro b21 h1
     refine zr tb U U ?_
     replace h1:=Sh.AA h1
     subst o9
     try dsimp only[id] at h0
     replace h0:=Sh.AA h0
     subst r
     exact AH (xr (AR [(2,(.bool false))] U))
    ·intro b21 h1
     refine AG (hK17 _ (AB fun K23 hK23=>sr U fun K24 hK24=>zm tb 2 U (zl tb U U (zq tb U (dn hK24 U ?_)))))
     obtain⟨o26,h2,h1⟩:=Sh.A1 h1
     have M26 :∀(_:Unit),o26=Sum.inr ()→∀s,Wk 0 s ⟨106,AS [(0,(ls Ad p0)),(3,(i64 t8)),(4,(.ptr 0 0 0 0)),(12,(ls Ad p0)),(13,(i64 (Sh.len p0))),(14,(i64 t8))],[⟨0,104,3,[(Ad c16)]⟩]⟩→K23 s:=by
      intro _ hq s hw
      subst o26
      try dsimp only at h1
      refine hK23 _ (AI hw (sr U fun K27 hK27=>zm tb 2 U (bs h1 fun l28 gl28 h1=>XF (i:=0) (j:=t8) Aa HX U U U (fun _=>U) gl28 (zl tb U U (zq tb U (dn hK27 U ?_))))))
      obtain⟨o30,h2,h1⟩:=Sh.A1 h1
      have M30 :∀(_:Unit),o30=Sum.inr ()→∀s,Wk 0 s ⟨106,AS [(0,(ls Ad p0)),(12,(ls Ad p0)),(13,(i64 (Sh.len p0))),(14,(i64 t8))],[]⟩→K14 s:=by
       intro _ hq s hw
       subst o30
       try dsimp only at h1
       exact hK14 _ (AI hw (AF U (zm tb 2 U (AD (xi (Sh.w (t8+1)) h1 (AE U))))))
      refine AJ (AX (σ:=Int) (fun n v=>CU c16 l28 n v=some o30) (fun t29=>⟨106,AS [(0,(ls Ad p0)),(4,(.ptr 0 0 0 0)),(12,(ls Ad p0)),(13,(i64 (Sh.len p0))),(14,(i64 t8)),(74,(ls Ad l28)),(75,(i64 (Sh.len l28))),(76,(i64 t29))],[⟨0,104,3,[(Ad c16)]⟩]⟩) N 0 h2 (AE U) (fun _ hv=>by rw[CU] at hv;cases hv) ?_)
      rintro n t29 h2
      try dsimp only at h2 ⊢
      rw[CU] at h2
      refine zr tb U U (AB fun K32 hK32=>?_)
      refine ci h2 U ?_ ?_ <;> clear h2
      ·intro b33 h2
       refine AG (hK32 _ (AB fun K34 hK34=>AJ (sr U fun K35 hK35=>bs h2 fun c36 gc36 h2=>zx HX gc36 U U U (zq tb U (BF (m:=1) Aa Nu U U (A7 Aa MS U U U U U U (show 0+3≤3 by decide) rfl (dn hK35 U (AB fun K37 hK37=>bs h2 fun o39 h3 h2=>?_))))))))
       have M39 :∀(t38:Bool),o39=t38→∀s,Wk 0 s ⟨106,AS [(0,(ls Ad p0)),(4,(.ptr 0 0 0 0)),(12,(ls Ad p0)),(13,(i64 (Sh.len p0))),(14,(i64 t8)),(74,(ls Ad l28)),(75,(i64 (Sh.len l28))),(76,(i64 t29)),(103,(.bool t38))],[⟨0,104,3,[(Ad c16)]⟩]⟩→K37 s:=by
        intro t38 hq s hw
        subst o39
        try dsimp only at h2
        refine hK37 _ (AI hw ?_)
        refine ci h2 U ?_ ?_ <;> clear h2
        ·intro b40 h2
         refine zr tb U U ?_
         replace h2:=Sh.AA h2
         subst o30
         try dsimp only[id] at h1
         replace h1:=Sh.AA h1
         subst o9
         try dsimp only[id] at h0
         replace h0:=Sh.AA h0
         subst r
         exact AH (xr (AR [(2,(.bool false))] U))
        ·intro b40 h2
         exact AG (hK34 _ (AF U (zm tb 2 U (AD (xi (Sh.w (t29+1)) h2 (AE U))))))
       refine AF U (zm tb 2 U (zl tb U U (zm tb 2 U ?_)))
       rcases Sh.AP h3 with ⟨b42,h3⟩ | ⟨b42,h3⟩
       ·refine zg tb b42 U (zg tb b42 U (A5 (v:=(i64 (Sh.len c36.cons))) (A9 U U b42) rfl (BL SQ U) (zg tb b42 U (zt b42 U (zq tb U ?_)))))
        rcases Sh.AP h3 with ⟨b43,h3⟩ | ⟨b43,h3⟩
        ·refine zg tb b43 U ?_
         iterate 4 refine zg tb b43 rfl ?_
         refine zt b43 U (zq tb U ?_)
         rcases Sh.AP h3 with ⟨b44,h3⟩ | ⟨b44,h3⟩
         ·refine zg tb b44 U ?_
          iterate 4 refine zg tb b44 rfl ?_
          refine zt b44 U ?_
          exact AD (M39 (decide (c36.to=c16.to)) (Sh.AA h3).symm _ (AN (L:=[(0,(ls Ad p0)),(4,(.ptr 0 0 0 0)),(12,(ls Ad p0)),(13,(i64 (Sh.len p0))),(14,(i64 t8)),(74,(ls Ad l28)),(75,(i64 (Sh.len l28))),(76,(i64 t29)),(103,(.bool (decide (c36.to=c16.to))))]) (st':=[⟨0,104,3,[(Ad c16)]⟩]) (st1:=[⟨0,104,3,[(Ad c16)]⟩]) [0] U .nil (by decide) rfl U (.raw U U .nil) ⟨.rfl,.rfl,.rfl,.rfl,.rfl,.rfl,.rfl,.rfl,.rfl,trivial⟩))
         ·refine zs b44 U ?_
          iterate 4 refine zs b44 rfl ?_
          refine zf b44 U ?_
          exact AD (M39 false (Sh.AA h3).symm _ (AN (L:=[(0,(ls Ad p0)),(4,(.ptr 0 0 0 0)),(12,(ls Ad p0)),(13,(i64 (Sh.len p0))),(14,(i64 t8)),(74,(ls Ad l28)),(75,(i64 (Sh.len l28))),(76,(i64 t29)),(103,(.bool false))]) (st':=[⟨0,104,3,[(Ad c16)]⟩]) (st1:=[⟨0,104,3,[(Ad c16)]⟩]) [0] U .nil (by decide) rfl U (.raw U U .nil) ⟨.rfl,.rfl,.rfl,.rfl,.rfl,.rfl,.rfl,.rfl,.rfl,trivial⟩))
        ·refine zs b43 U ?_
         iterate 4 refine zs b43 rfl ?_
         refine zf b43 U (zq tb U ?_)
         iterate 5 refine zs rfl rfl ?_
         refine zf U U ?_
         exact AD (M39 false (Sh.AA h3).symm _ (AN (L:=[(0,(ls Ad p0)),(4,(.ptr 0 0 0 0)),(12,(ls Ad p0)),(13,(i64 (Sh.len p0))),(14,(i64 t8)),(74,(ls Ad l28)),(75,(i64 (Sh.len l28))),(76,(i64 t29)),(103,(.bool false))]) (st':=[⟨0,104,3,[(Ad c16)]⟩]) (st1:=[⟨0,104,3,[(Ad c16)]⟩]) [0] U .nil (by decide) rfl U (.raw U U .nil) ⟨.rfl,.rfl,.rfl,.rfl,.rfl,.rfl,.rfl,.rfl,.rfl,trivial⟩))
       ·refine zs b42 U ?_
        iterate 3 refine zs b42 rfl ?_
        refine zf b42 U (zq tb U ?_)
        iterate 5 refine zs rfl rfl ?_
        refine zf U U (zq tb U ?_)
        iterate 5 refine zs rfl rfl ?_
        refine zf U U ?_
        exact AD (M39 false (Sh.AA h3).symm _ (AN (L:=[(0,(ls Ad p0)),(4,(.ptr 0 0 0 0)),(12,(ls Ad p0)),(13,(i64 (Sh.len p0))),(14,(i64 t8)),(74,(ls Ad l28)),(75,(i64 (Sh.len l28))),(76,(i64 t29)),(103,(.bool false))]) (st':=[⟨0,104,3,[(Ad c16)]⟩]) (st1:=[⟨0,104,3,[(Ad c16)]⟩]) [0] U .nil (by decide) rfl U (.raw U U .nil) ⟨.rfl,.rfl,.rfl,.rfl,.rfl,.rfl,.rfl,.rfl,.rfl,trivial⟩))
      ·intro b33 h2
       exact Ac (M30 () (Sh.AA h2).symm _ (AR _ U))
     refine AJ (AX (σ:=Int) (fun n v=>CO N c16 p0 n v=some o26) (fun t25=>⟨106,AS [(0,(ls Ad p0)),(3,(i64 t8)),(4,(.ptr 0 0 0 0)),(12,(ls Ad p0)),(13,(i64 (Sh.len p0))),(14,(i64 t8)),(54,(ls D5 c16.cons)),(55,(i64 (Sh.len c16.cons))),(56,(i64 t25))],[⟨0,104,3,[(Ad c16)]⟩]⟩) N 0 h2 (AE U) (fun _ hv=>by rw[CO] at hv;cases hv) ?_)
     rintro n t25 h2
     try dsimp only at h2 ⊢
     rw[CO] at h2
     refine zr tb U U (AB fun K46 hK46=>?_)
     refine ci h2 U ?_ ?_ <;> clear h2
     ·intro b47 h2
      refine AG (hK46 _ (AB fun K48 hK48=>AJ (sr U fun K49 hK49=>bs h2 fun c50 gc50 h2=>zx Ke gc50 U U U (zq tb U (BF (m:=1) Aa P5 U U (A7 Aa Lf U U U U U U (show 0+1≤1 by decide) rfl (dn hK49 U (AB fun K51 hK51=>bs h2 fun o53 h3 h2=>?_))))))))
      have M53 :∀(t52:Bool),o53=t52→∀s,Wk 0 s ⟨106,AS [(0,(ls Ad p0)),(3,(i64 t8)),(4,(.ptr 0 0 0 0)),(12,(ls Ad p0)),(13,(i64 (Sh.len p0))),(14,(i64 t8)),(54,(ls D5 c16.cons)),(55,(i64 (Sh.len c16.cons))),(56,(i64 t25)),(70,(.bool t52))],[⟨0,104,3,[(Ad c16)]⟩]⟩→K51 s:=by
       intro t52 hq s hw
       subst o53
       try dsimp only at h2
       refine hK51 _ (AI hw ?_)
       refine ci h2 U ?_ ?_ <;> clear h2
       ·intro b54 h2
        refine zr tb U U ?_
        replace h2:=Sh.AA h2
        subst o26
        try dsimp only[id] at h1
        replace h1:=Sh.AA h1
        subst o9
        try dsimp only[id] at h0
        replace h0:=Sh.AA h0
        subst r
        exact AH (xr (AR [(2,(.bool false))] U))
       ·intro b54 h2
        exact AG (hK48 _ (AF U (zm tb 2 U (AD (xi (Sh.w (t25+1)) h2 (AE U))))))
      refine AF U (zm tb 2 U (zl tb U U (zm tb 2 U ?_)))
      rcases Sh.AP h3 with ⟨b56,h3⟩ | ⟨b56,h3⟩
      ·refine zs b56 U ?_
       iterate 4 refine zs b56 rfl ?_
       refine zt b56 U ?_
       exact AD (M53 true (Sh.AA h3).symm _ (AN (L:=[(0,(ls Ad p0)),(3,(i64 t8)),(4,(.ptr 0 0 0 0)),(12,(ls Ad p0)),(13,(i64 (Sh.len p0))),(14,(i64 t8)),(54,(ls D5 c16.cons)),(55,(i64 (Sh.len c16.cons))),(56,(i64 t25)),(70,(.bool true))]) (st':=[⟨0,104,3,[(Ad c16)]⟩]) (st1:=[⟨0,104,3,[(Ad c16)]⟩]) [0] U .nil (by decide) rfl U (.raw U U .nil) ⟨.rfl,.rfl,.rfl,.rfl,.rfl,.rfl,.rfl,.rfl,.rfl,.rfl,trivial⟩))
      ·refine zg tb b56 U (zg tb b56 U (zg tb b56 U (bs h3 fun q57 gq57 h3=>zd b56 Y9 (KY gq57) rfl U U U (zg tb b56 U (zf b56 U ?_)))))
       exact AD (M53 (!q57) (Sh.AA h3).symm _ (AN (L:=[(0,(ls Ad p0)),(3,(i64 t8)),(4,(.ptr 0 0 0 0)),(12,(ls Ad p0)),(13,(i64 (Sh.len p0))),(14,(i64 t8)),(54,(ls D5 c16.cons)),(55,(i64 (Sh.len c16.cons))),(56,(i64 t25)),(70,(.bool (!q57)))]) (st':=[⟨0,104,3,[(Ad c16)]⟩]) (st1:=[⟨0,104,3,[(Ad c16)]⟩]) [0] U .nil (by decide) rfl U (.raw U U .nil) ⟨.rfl,.rfl,.rfl,.rfl,.rfl,.rfl,.rfl,.rfl,.rfl,.rfl,trivial⟩))
     ·intro b47 h2
      exact Ac (M26 () (Sh.AA h2).symm _ (AE U))
   refine AF U (zm tb 3 U (bs h2 fun q58 gq58 h2=>zc Tt (H3 gq58) rfl U U (zm tb 2 U ?_)))
   rcases Sh.AP h2 with ⟨b59,h2⟩ | ⟨b59,h2⟩
   ·refine zs b59 U ?_
    iterate 4 refine zs b59 rfl ?_
    refine zt b59 U (zq tb U ?_)
    iterate 4 refine zs rfl rfl ?_
    refine zt U U (zq tb U ?_)
    iterate 5 refine zs rfl rfl ?_
    iterate 8 refine zn rfl ?_
    exact zs U U (zt U U (AD (M20 true (Sh.AA h2).symm _ (AE U))))
   ·refine zg tb b59 U (zg tb b59 U (zg tb b59 U (bs h2 fun q60 gq60 h2=>zd b59 Tt (H3 gq60) rfl U U U (zg tb b59 U (zf b59 U (zq tb U ?_))))))
    rcases Sh.AP h2 with ⟨b61,h2⟩ | ⟨b61,h2⟩
    ·refine zs b61 U ?_
     iterate 3 refine zs b61 rfl ?_
     refine zt b61 U (zq tb U ?_)
     iterate 5 refine zs rfl rfl ?_
     iterate 8 refine zn rfl ?_
     exact zs U U (zt U U (AD (M20 true (Sh.AA h2).symm _ (AE U))))
    ·refine zg tb b61 U (zg tb b61 U (A5 (v:=(i64 (Sh.len c16.cons))) (A9 U U b61) rfl (BL SQ U) (zg tb b61 U (zf b61 U (zq tb U ?_)))))
     rcases Sh.AP h2 with ⟨b62,h2⟩ | ⟨b62,h2⟩
     ·refine zs b62 U ?_
      iterate 4 refine zs b62 rfl ?_
      iterate 8 refine zn rfl ?_
      exact zs b62 U (zt b62 U (AD (M20 true (Sh.AA h2).symm _ (AE U))))
     ·refine zg tb b62 U (zg tb b62 U (A5 (v:=(i64 (Sh.len c16.cons))) (A9 U U b62) rfl (BL SQ U) (zg tb b62 U (zg tb b62 U ?_))))
      rcases Sh.AP h2 with ⟨b63,h2⟩ | ⟨b63,h2⟩
      ·refine zg tb b63 U ?_
       iterate 3 refine zg tb b63 rfl ?_
       rcases Sh.AP h2 with ⟨b64,h2⟩ | ⟨b64,h2⟩
       ·exact zs b64 U (zs b64 U (zs b64 U (A5 (v:=(.bool true)) (A9 U U b63) rfl (Br U b64 U) (A5 (v:=(.bool true)) (A9 U U b62) rfl (Br U b63 U) (zf b62 U (AD (M20 true (Sh.AA h2).symm _ (AE U))))))))
       ·exact zg tb b64 U (zg tb b64 U (zg tb b64 U (A5 (v:=(.bool (!decide (c16.to=0)))) (A9 U U b63) rfl (CE U b64 U) (A5 (v:=(.bool (!decide (c16.to=0)))) (A9 U U b62) rfl (Br U b63 U) (zf b62 U (AD (M20 (!decide (c16.to=0)) (Sh.AA h2).symm _ (AE U))))))))
      ·refine zs b63 U ?_
       iterate 3 refine zs b63 rfl ?_
       iterate 3 refine zn rfl ?_
       exact zs b63 U (A5 (v:=(.bool false)) (A9 U U b62) rfl (CE U b63 U) (zf b62 U (AD (M20 false (Sh.AA h2).symm _ (AE U)))))
  ·intro b13 h1
   exact Ac (M9 () (Sh.AA h1).symm _ (AE U))
theorem OU {N:Nat} {p0:(List An)} {p1:(List Bu)} {r:Bool} (h0:Gp N p0 p1=some r):AY Tryz.prog 122 [(ls Ad p0),(ls BO p1)] [] (fun v st=>v=(.bool r)∧st=[]):=by
 unfold Gp at h0
 refine ai Tryz.func122 U U U U (zr tb U U (AB fun K2 hK2=>AB fun K3 hK3=>bs h0 fun o5 h1 h0=>?_))
 have M5 :∀(t4:Bool),o5=t4→∀s,Wk 0 s ⟨102,AS [(0,(ls Ad p0)),(1,(ls BO p1)),(36,(.bool t4))],[]⟩→K3 s:=by
  intro t4 hq s hw
  subst o5
  try dsimp only at h0
  refine hK3 _ (AI hw ?_)
  refine ci h0 U ?_ ?_ <;> clear h0
  ·intro b6 h0
   refine zr tb U U ?_
   replace h0:=Sh.AA h0
   subst r
   exact AH (xr (AM (L:=[(4,(.bool false))]) ⟨.rfl,trivial⟩))
  ·intro b6 h0
   refine AG (hK2 _ (AB fun K8 hK8=>sr U fun K9 hK9=>zq tb U (zl tb U U (zq tb U (dn hK9 U ?_)))))
   obtain⟨o11,h1,h0⟩:=Sh.A1 h0
   have M11 :∀(_:Unit),o11=Sum.inr ()→∀s,Wk 0 s ⟨102,AS [],[]⟩→K8 s:=by
    intro _ hq s hw
    subst o11
    try dsimp only at h0
    refine hK8 _ (AI hw (zr tb U U ?_))
    replace h0:=Sh.AA h0
    subst r
    exact AH (xr (AM (L:=[(4,(.bool true))]) ⟨.rfl,trivial⟩))
   refine AJ (AX (σ:=Int) (fun n v=>Cr N p0 p1 n v=some o11) (fun t10=>⟨102,AS [(0,(ls Ad p0)),(37,(ls BO p1)),(38,(i64 (Sh.len p1))),(39,(i64 t10))],[]⟩) N 0 h1 (AE U) (fun _ hv=>by rw[Cr] at hv;cases hv) ?_)
   rintro n t10 h1
   try dsimp only at h1 ⊢
   rw[Cr] at h1
   refine zr tb U U (AB fun K14 hK14=>?_)
   refine ci h1 U ?_ ?_ <;> clear h1
   ·intro b15 h1
    refine AG (hK14 _ (AB fun K16 hK16=>AJ (sr U fun K17 hK17=>bs h1 fun c18 gc18 h1=>zx ML gc18 U U U (zq tb U (BF (m:=0) Aa Yy U U (A7 Aa bW U U U U U U (show 0+3≤3 by decide) rfl (dn hK17 U (AB fun K19 hK19=>AB fun K20 hK20=>?_))))))))
    refine bs h1 fun o22 h2 h1=>?_
    have M22 :∀(t21:Bool),o22=t21→∀s,Wk 0 s ⟨102,AS [(0,(ls Ad p0)),(6,(.ptr 0 0 0 0)),(37,(ls BO p1)),(38,(i64 (Sh.len p1))),(39,(i64 t10)),(60,(.bool t21))],[⟨0,172,3,[[(ls eI c18.params),(ls eI c18.BH),(i64 c18.result)]]⟩]⟩→K20 s:=by
     intro t21 hq s hw
     subst o22
     try dsimp only at h1
     refine hK20 _ (AI hw ?_)
     refine ci h1 U ?_ ?_ <;> clear h1
     ·intro b23 h1
      refine zr tb U U ?_
      replace h1:=Sh.AA h1
      subst o11
      try dsimp only[id] at h0
      replace h0:=Sh.AA h0
      subst r
      exact AH (xr (AR [(4,(.bool false))] U))
     ·intro b23 h1
      refine AG (hK19 _ (sr U fun K25 hK25=>zm tb 2 U (zl tb U U (zq tb U (dn hK25 U ?_)))))
      obtain⟨o27,h2,h1⟩:=Sh.A1 h1
      have M27 :∀(_:Unit),o27=Sum.inr ()→∀s,Wk 0 s ⟨102,AS [(0,(ls Ad p0)),(37,(ls BO p1)),(38,(i64 (Sh.len p1))),(39,(i64 t10))],[]⟩→K16 s:=by
       intro _ hq s hw
       subst o27
       try dsimp only at h1
       exact hK16 _ (AI hw (AF U (zm tb 2 U (AD (xi (Sh.w (t10+1)) h1 (AE U))))))
      refine AJ (AX (σ:=Int) (fun n v=>Cl c18 n v=some o27) (fun t26=>⟨102,AS [(0,(ls Ad p0)),(6,(.ptr 0 0 0 0)),(37,(ls BO p1)),(38,(i64 (Sh.len p1))),(39,(i64 t10)),(62,(ls eI c18.BH)),(63,(i64 (Sh.len c18.BH))),(64,(i64 t26))],[⟨0,172,3,[[(ls eI c18.params),(ls eI c18.BH),(i64 c18.result)]]⟩]⟩) N 0 h2 (AE U) (fun _ hv=>by rw[Cl] at hv;cases hv) ?_)
      rintro n t26 h2
      try dsimp only at h2 ⊢
      rw[Cl] at h2
      refine zr tb U U (AB fun K29 hK29=>?_)
      refine ci h2 U ?_ ?_ <;> clear h2
      ·intro b30 h2
       refine AG (hK29 _ (AB fun K31 hK31=>AJ (sr U fun K32 hK32=>zq tb U (bs h2 fun c33 gc33 h2=>zx A2 gc33 U U U (zm tb 3 U (dn hK32 U (AB fun K34 hK34=>bs h2 fun o36 h3 h2=>?_)))))))
       have M36 :∀(t35:Bool),o36=t35→∀s,Wk 0 s ⟨102,AS [(0,(ls Ad p0)),(6,(.ptr 0 0 0 0)),(37,(ls BO p1)),(38,(i64 (Sh.len p1))),(39,(i64 t10)),(62,(ls eI c18.BH)),(63,(i64 (Sh.len c18.BH))),(64,(i64 t26)),(99,(.bool t35))],[⟨0,172,3,[[(ls eI c18.params),(ls eI c18.BH),(i64 c18.result)]]⟩]⟩→K34 s:=by
        intro t35 hq s hw
        subst o36
        try dsimp only at h2
        refine hK34 _ (AI hw ?_)
        refine ci h2 U ?_ ?_ <;> clear h2
        ·intro b37 h2
         refine zr tb U U ?_
         replace h2:=Sh.AA h2
         subst o27
         try dsimp only[id] at h1
         replace h1:=Sh.AA h1
         subst o11
         try dsimp only[id] at h0
         replace h0:=Sh.AA h0
         subst r
         exact AH (xr (AR [(4,(.bool false))] U))
        ·intro b37 h2
         exact AG (hK31 _ (AF U (zm tb 2 U (AD (xi (Sh.w (t26+1)) h2 (AE U))))))
       refine AF U (zm tb 3 U ?_)
       rcases Sh.AP h3 with ⟨b39,h3⟩ | ⟨b39,h3⟩
       ·refine zs b39 U ?_
        iterate 4 refine zs b39 rfl ?_
        refine zt b39 U (zq tb U ?_)
        iterate 6 refine zs rfl rfl ?_
        refine zt U U (zq tb U ?_)
        iterate 3 refine zs rfl rfl ?_
        iterate 8 refine zn rfl ?_
        exact zs U U (zt U U (AD (M36 true (Sh.AA h3).symm _ (AE U))))
       ·refine zg tb b39 U (zg tb b39 U (zg tb b39 U (A5 (v:=(i64 (Sh.len c18.params))) (A9 U U b39) rfl (BL EE U) (zg tb b39 U (zf b39 U (zq tb U ?_))))))
        rcases Sh.AP h3 with ⟨b40,h3⟩ | ⟨b40,h3⟩
        ·refine zs b40 U ?_
         iterate 5 refine zs b40 rfl ?_
         refine zt b40 U (zq tb U ?_)
         iterate 3 refine zs rfl rfl ?_
         iterate 8 refine zn rfl ?_
         exact zs U U (zt U U (AD (M36 true (Sh.AA h3).symm _ (AE U))))
        ·refine zg tb b40 U (zg tb b40 U (zg tb b40 U (bs h3 fun c41 gc41 h3=>A5 (v:=(.Bi (eI c41) 0)) (A9 U U b40) rfl (Bh A2 U U gc41 U) (zg tb b40 U (zg tb b40 U (zf b40 U (zq tb U ?_)))))))
         rcases Sh.AP h3 with ⟨b42,h3⟩ | ⟨b42,h3⟩
         ·refine zs b42 U (zs b42 U (zs b42 U ?_))
          iterate 8 refine zn rfl ?_
          exact zs b42 U (zt b42 U (AD (M36 true (Sh.AA h3).symm _ (AE U))))
         ·refine zg tb b42 U (zg tb b42 U (zg tb b42 U ?_))
          rcases Sh.AP h3 with ⟨b43,h3⟩ | ⟨b43,h3⟩
          ·refine zg tb b43 U ?_
           iterate 4 refine zg tb b43 rfl ?_
           exact bs h3 fun c44 gc44 h3=>A5 (v:=(.Bi (eI c44) 0)) (A9 U U b43) rfl (Bh A2 U U gc44 U) (zg tb b43 U (zg tb b43 U (A5 (v:=(.bool (decide (c33≤c44)))) (A9 U U b42) rfl (Br U b43 U) (zf b42 U (AD (M36 (decide (c33≤c44)) (Sh.AA h3).symm _ (AE U)))))))
          ·refine zs b43 U ?_
           iterate 7 refine zs b43 rfl ?_
           exact A5 (v:=(.bool false)) (A9 U U b42) rfl (CE U b43 U) (zf b42 U (AD (M36 false (Sh.AA h3).symm _ (AE U))))
      ·intro b30 h2
       exact Ac (M27 () (Sh.AA h2).symm _ (AR _ U))
    refine AF U (zm tb 2 U (zl tb U U (zm tb 2 U ?_)))
    rcases Sh.AP h2 with ⟨b45,h2⟩ | ⟨b45,h2⟩
    ·refine zs b45 U ?_
     iterate 4 refine zs b45 rfl ?_
     refine zt b45 U (zq tb U ?_)
     iterate 5 refine zs rfl rfl ?_
     exact zt U U (AD (M22 true (Sh.AA h2).symm _ (AE U)))
    ·refine zg tb b45 U (zg tb b45 U (zg tb b45 U (bs h2 fun q46 gq46 h2=>zd b45 Y9 (KY gq46) rfl U U U (zg tb b45 U (zf b45 U (zq tb U ?_))))))
     rcases Sh.AP h2 with ⟨b47,h2⟩ | ⟨b47,h2⟩
     ·refine zs b47 U ?_
      iterate 4 refine zs b47 rfl ?_
      exact zt b47 U (AD (M22 true (Sh.AA h2).symm _ (AE U)))
     ·exact zg tb b47 U (zg tb b47 U (zg tb b47 U (bs h2 fun q48 gq48 h2=>zd b47 Tt (H3 gq48) rfl U U U (zg tb b47 U (zf b47 U (AD (M22 (!q48) (Sh.AA h2).symm _ (AE U))))))))
   ·intro b15 h1
    exact Ac (M11 () (Sh.AA h1).symm _ (AE U))
 refine AF U (zq tb U (bs h1 fun q49 gq49 h1=>zc bJ (NI gq49) rfl U U (zm tb 2 U ?_)))
 rcases Sh.AP h1 with ⟨b50,h1⟩ | ⟨b50,h1⟩
 ·refine zs b50 U (zs b50 U (zs b50 U (zt b50 U (zq tb U ?_))))
  iterate 3 refine zs rfl rfl ?_
  refine zt U U (zq tb U ?_)
  iterate 6 refine zs rfl rfl ?_
  refine zt U U (zq tb U ?_)
  iterate 5 refine zs rfl rfl ?_
  exact zt U U (AD (M5 true (Sh.AA h1).symm _ (AE U)))
 ·refine zg tb b50 U (A5 (v:=(i64 (Sh.len p1))) (A9 U U b50) rfl (BL Tj U) (zg tb b50 U (zf b50 U (zq tb U ?_))))
  rcases Sh.AP h1 with ⟨b51,h1⟩ | ⟨b51,h1⟩
  ·refine zs b51 U (zs b51 U (zs b51 U (zt b51 U (zq tb U ?_))))
   iterate 6 refine zs rfl rfl ?_
   refine zt U U (zq tb U ?_)
   iterate 5 refine zs rfl rfl ?_
   exact zt U U (AD (M5 true (Sh.AA h1).symm _ (AE U)))
  ·refine zg tb b51 U (A5 (v:=(i64 (Sh.len p1))) (A9 U U b51) rfl (BL Tj U) (zg tb b51 U (zf b51 U (zq tb U ?_))))
   rcases Sh.AP h1 with ⟨b52,h1⟩ | ⟨b52,h1⟩
   ·refine zs b52 U ?_
    iterate 5 refine zs b52 rfl ?_
    refine zt b52 U (zq tb U ?_)
    iterate 5 refine zs rfl rfl ?_
    exact zt U U (AD (M5 true (Sh.AA h1).symm _ (AE U)))
   ·refine zg tb b52 U (bs h1 fun c53 gc53 h1=>A5 (v:=(.Bi (BO c53) 0)) (A9 U U b52) rfl (Bh ML U U gc53 U) (zg tb b52 U (zg tb b52 U (A5 (v:=(i64 (Sh.len c53.params))) (A9 U U b52) rfl (BL EE U) (zg tb b52 U (zf b52 U (zq tb U ?_)))))))
    rcases Sh.AP h1 with ⟨b54,h1⟩ | ⟨b54,h1⟩
    ·refine zs b54 U ?_
     iterate 4 refine zs b54 rfl ?_
     exact zt b54 U (AD (M5 true (Sh.AA h1).symm _ (AE U)))
    ·refine zg tb b54 U (A5 (v:=(.Bi (BO c53) 0)) (A9 U U b54) rfl (Bh ML U U gc53 U) ?_)
     iterate 3 refine zg tb b54 rfl ?_
     exact zf b54 U (AD (M5 (!decide (c53.result=0)) (Sh.AA h1).symm _ (AE U)))
theorem OJ {N:Nat} {p0:Au} {r:CR×Bool} (h0:H5 N p0=some r):AY Tryz.prog 93 [(.agg (Ao p0))] [] (fun v st=>v=(.DX [(.agg (BI r.1)),(.bool r.2)])∧st=[]):=by
 unfold H5 at h0
 refine J1 U (ai Tryz.func93 U U U U (sr U fun K1 hK1=>A8 (m:=0) Aa U U U U U (BF (m:=1) Aa SD U U (zq tb U (dn hK1 U (AB fun K2 hK2=>sr U fun K3 hK3=>zm tb 2 U (zl tb U U (zq tb U ?_))))))))
 refine dn hK3 U ?_
 refine ci h0 U ?_ ?_ <;> clear h0
 ·intro b4 h0
  refine sr U fun K5 hK5=>zz (.agg [.zc,.zc]) (PM Yd ZX SD U U) rfl (A7 Aa QH U U U U U U (show 0+2≤2 by decide) rfl (zq tb U (dn hK5 U ?_)))
  replace h0:=Sh.AA h0
  subst r
  exact AH (Exists.intro _ (And.intro ((((LX (id:=1) (cs:=[.zc,.zc]) (cs':=[(.sl (List.map Ad [])),.zc]) (st':=[⟨0,37,2,[(Ao p0)]⟩,⟨0,138,2,[[(.sl (List.map Ad [])),.zc]]⟩]) rfl ⟨le.zc,le.rfl,trivial⟩ U U).trans (LX (id:=1) (cs:=[(.sl (List.map Ad [])),.zc]) (cs':=[(.sl (List.map Ad [])),(.sl (List.map BO []))]) (st':=[⟨0,37,2,[(Ao p0)]⟩,⟨0,138,2,[[(.sl (List.map Ad [])),(.sl (List.map BO []))]]⟩]) rfl ⟨le.rfl,le.zc,trivial⟩ U U)).trans (AN (L:=[(2,(.ptr 0 0 0 0)),(3,(.bool false))]) (st':=[⟨0,138,2,[[(.sl (List.map Ad [])),(.sl (List.map BO []))]]⟩]) (st1:=[⟨0,138,2,[[(.sl (List.map Ad [])),(.sl (List.map BO []))]]⟩]) [1] U .nil (by decide) rfl U (.raw U U .nil) ⟨.rfl,.rfl,trivial⟩)).trans (AM (L:=[(2,(.ptr 0 0 0 0)),(3,(.bool false))]) ⟨.rfl,.rfl,trivial⟩)) (Fc (x:=.tmp 2) (off:=0) (cs:=[(.sl (List.map Ad [])),(.sl (List.map BO []))]) (vs:=[(.sl (List.map Ad [])),(.sl (List.map BO []))]) QH U U U (show 0+2≤2 by decide) rfl _ U)))
 ·intro b4 h0
  refine AG (hK2 _ (sr U fun K6 hK6=>zm tb 2 U (zz (.agg [(ls Ad p0.decls),.zc]) (PM Yd ZX SD U U) rfl (BF (m:=2) Aa SD U U (A7 Aa QH U U U U U U (show 0+2≤2 by decide) rfl (dn hK6 U (AB fun K7 hK7=>sr U fun K8 hK8=>zm tb 2 U (zl tb U U (zq tb U ?_)))))))))
  refine dn hK8 U (bs h0 fun o12 h1 h0=>?_)
  have M12 :∀(l11:(List Bu)),o12=l11→∀s,Wk 0 s ⟨41,AS [(1,(.ptr 0 0 0 0)),(2,(.ptr 1 0 0 0)),(4,(.ptr 2 0 0 0))],[⟨0,37,2,[(Ao p0)]⟩,⟨0,138,2,[[.zc,.zc]]⟩,⟨0,138,2,[[(ls Ad p0.decls),(ow 3 0 l11)]]⟩,(ro 0 172 3 BO l11)]⟩→K7 s:=by
   intro l11 hq s hw
   subst o12
   try dsimp only at h0
   refine hK7 _ (AI hw (AB fun K13 hK13=>?_))
   refine Cw 6 (by kernel_rfl) (by kernel_rfl) (by rfl) ?_
   iterate 5 refine yq tb rfl ?_
   refine bs h0 fun q14 gq14 h0=>Q9 (v':=(.bool q14)) Aa cM (OU gq14) rfl (.val U (.own U U (fun _=>U) .nil)) rfl U (BP (Al (Wk.EW (L:=[(2,(.ptr 1 0 0 0)),(35,(.agg [(ls Ad p0.decls),(ls BO l11)])),(40,(.bool q14))]) (st':=[⟨0,37,2,[(Ao p0)]⟩,⟨0,138,2,[[.zc,.zc]]⟩,⟨0,138,2,[[(ls Ad p0.decls),(ow 3 0 l11)]]⟩,⟨1,172,3,[]⟩]) (id:=3) rfl (show 0≤3 by decide) (AL fun _=>U) ⟨.rfl,(.agg ⟨.rfl,(.Iz U),trivial⟩),.rfl,trivial⟩ U) (A7 Aa QH U U U U U U (show 0+2≤2 by decide) rfl (zq tb U (dn hK13 U ?_)))))
   replace h0:=Sh.AA h0
   subst r
   exact AH (Exists.intro _ (And.intro ((AN (L:=[(2,(.ptr 0 0 0 0)),(3,(.bool q14))]) (st':=[⟨0,138,2,[[(ls Ad p0.decls),(ls BO l11)]]⟩]) (st1:=[⟨0,138,2,[[(ls Ad p0.decls),(ls BO l11)]]⟩]) [1] U .nil (by decide) rfl U (.raw U U .nil) ⟨.rfl,.rfl,trivial⟩).trans (AM (L:=[(2,(.ptr 0 0 0 0)),(3,(.bool q14))]) ⟨.rfl,.rfl,trivial⟩)) (Fc (x:=.tmp 2) (off:=0) (cs:=[(ls Ad p0.decls),(ls BO l11)]) (vs:=[(ls Ad p0.decls),(ls BO l11)]) QH U U U (show 0+2≤2 by decide) rfl _ U)))
  refine AJ (AX (σ:=Int×(List Bu)) (fun n v=>CJ p0 n v.1 v.2=some o12) (fun (t9,l10)=>⟨41,AS [(1,(.ptr 0 0 0 0)),(2,(.ptr 1 0 0 0)),(4,(.ptr 2 0 0 0)),(16,(ls Az p0.procs)),(17,(i64 (Sh.len p0.procs))),(18,(i64 t9))],[⟨0,37,2,[(Ao p0)]⟩,⟨0,138,2,[[.zc,.zc]]⟩,⟨0,138,2,[[(ls Ad p0.decls),(ow 3 0 l10)]]⟩,(ro 0 172 3 BO l10)]⟩) N (0,[]) h1 (by refine Wk.trans (Wk.aI (id:=2) (st':=[⟨0,37,2,[(Ao p0)]⟩,⟨0,138,2,[[.zc,.zc]]⟩,⟨0,138,2,[[(ls Ad p0.decls),(.own 3 0 (List.length ([]:List Bu)))]]⟩,(ro 0 172 3 BO ([]:List Bu))]) (j:=1) rfl U 172 (size':=3) (by decide) rfl U U U) ?_;exact AE U) (fun _ hv=>by rw[CJ] at hv;cases hv) ?_)
  rintro n ⟨t9,l10⟩ h1
  try dsimp only at h1 ⊢
  rw[CJ] at h1
  refine zr tb U U (AB fun K16 hK16=>?_)
  refine ci h1 U ?_ ?_ <;> clear h1
  ·intro b17 h1
   refine AG (hK16 _ (AB fun K18 hK18=>AJ (sr U fun K19 hK19=>bs h1 fun c20 gc20 h1=>zx IC gc20 U U U (zq tb U (BF (m:=4) Aa RF U U (A7 Aa QQ U U U U U U (show 0+5≤5 by decide) rfl (dn hK19 U (AF U (zm tb 8 U ?_)))))))))
   refine zz (.agg [(ls eI c20.params),(ls eI c20.BH),(i64 c20.result)]) (PM bQ bY Yy U U) rfl ?_
   refine DO (m:=5) (l:=[(Bu.mk c20.params c20.BH c20.result)]) (enc:=BO) Aa ML (by decide) rfl U U U U U ?_
   refine bs h1 fun l21 gl21 h1=>Ex (l2:=[(Bu.mk c20.params c20.BH c20.result)]) Aa ML U U U U (J0 U U) (fun _=>U) gl21 U (zq tb U (A7 Aa cW U U U U U U (show 1+1≤2 by decide) rfl (dn hK18 U (AF U (zm tb 2 U ?_)))))
   exact AD (xi (Sh.w (t9+1),l21) h1 (by refine Wk.trans (Cf (L:=[(1,(.ptr 0 0 0 0)),(2,(.ptr 1 0 0 0)),(4,(.ptr 2 0 0 0)),(16,(ls Az p0.procs)),(17,(i64 (Sh.len p0.procs))),(18,(i64 (Sh.w (t9+1))))]) (st':=[⟨0,37,2,[(Ao p0)]⟩,⟨0,138,2,[[.zc,.zc]]⟩,⟨0,138,2,[[(ls Ad p0.decls),(ow 3 0 l21)]]⟩,(ro 0 172 3 BO l21),⟨0,99,5,[(Az c20)]⟩,(ro 0 172 3 BO [(Bu.mk c20.params c20.BH c20.result)])]) (.raw U U (.raw U U (.raw U U (.pure (AL fun _=>U) (.raw U U (.pure (AL fun _=>U) .nil)))))) ⟨.rfl,.rfl,.rfl,.rfl,.rfl,.rfl,trivial⟩) ?_;exact AN (L:=[(1,(.ptr 0 0 0 0)),(2,(.ptr 1 0 0 0)),(4,(.ptr 2 0 0 0)),(16,(ls Az p0.procs)),(17,(i64 (Sh.len p0.procs))),(18,(i64 (Sh.w (t9+1))))]) (st':=[⟨0,37,2,[(Ao p0)]⟩,⟨0,138,2,[[.zc,.zc]]⟩,⟨0,138,2,[[(ls Ad p0.decls),(ow 3 0 l21)]]⟩,(ro 0 172 3 BO l21)]) (st1:=[⟨0,37,2,[(Ao p0)]⟩,⟨0,138,2,[[.zc,.zc]]⟩,⟨0,138,2,[[(ls Ad p0.decls),(ow 3 0 l21)]]⟩,(ro 0 172 3 BO l21)]) [0,1,2,3] U .nil (by decide) rfl U (.raw U U (.raw U U (.raw U U (.pure (AL fun _=>U) .nil)))) ⟨.rfl,.rfl,.rfl,.rfl,.rfl,.rfl,trivial⟩))
  ·intro b17 h1
   exact Ac (M12 l10 (Sh.AA h1).symm _ (AE U))
theorem Ix {p0:Int} {r:Bool} (h0:Et p0=some r):AY Tryz.prog 102 [(i64 p0)] [] (fun v st=>v=(.bool r)∧st=[]):=by
 unfold Et at h0
 refine ai Tryz.func102 U U U U (zr tb U U (AB fun K2 hK2=>bs h0 fun o4 h1 h0=>?_))
 have M4 :∀(t3:Bool),o4=t3→∀s,Wk 0 s ⟨17,AS [(2,(.bool t3))],[]⟩→K2 s:=by
  intro t3 hq s hw
  subst o4
  try dsimp only at h0
  refine hK2 _ (AI hw ?_)
  replace h0:=Sh.AA h0
  subst r
  exact AH (xr (AM (L:=[(2,(.bool t3))]) ⟨.rfl,trivial⟩))
 refine AF U (zm tb 3 U ?_)
 rcases Sh.AP h1 with ⟨b5,h1⟩ | ⟨b5,h1⟩
 ·refine zg tb b5 U (zg tb b5 U (zt b5 U (zq tb U ?_)))
  rcases Sh.AP h1 with ⟨b6,h1⟩ | ⟨b6,h1⟩
  ·exact zs b6 U (zs b6 U (zt b6 U (zq tb U (zs U U (zs U U (zt U U (zq tb U (AD (M4 true (Sh.AA h1).symm _ (AE U))))))))))
  ·refine zg tb b6 U (zg tb b6 U (zf b6 U (zq tb U ?_)))
   rcases Sh.AP h1 with ⟨b7,h1⟩ | ⟨b7,h1⟩
   ·exact zs b7 U (zs b7 U (zt b7 U (zq tb U (AD (M4 true (Sh.AA h1).symm _ (AE U))))))
   ·exact zg tb b7 U (zg tb b7 U (zf b7 U (zq tb U (AD (M4 (decide (p0=19)) (Sh.AA h1).symm _ (AE U))))))
 ·refine zs b5 U (zs b5 U (zf b5 U (zq tb U (zg tb U U (zg tb U U (zf U U (zq tb U ?_)))))))
  rcases Sh.AP h1 with ⟨b8,h1⟩ | ⟨b8,h1⟩
  ·exact zs b8 U (zs b8 U (zt b8 U (zq tb U (AD (M4 true (Sh.AA h1).symm _ (AE U))))))
  ·exact zg tb b8 U (zg tb b8 U (zf b8 U (zq tb U (AD (M4 (decide (p0=19)) (Sh.AA h1).symm _ (AE U))))))
theorem Ff {s0_0:Int} {s1_0:(List Int)} {s1_1:(List Int)} {s1_2:Int} {s1_3:Int} {s1_4:(List Ag)} {p0:Int} {r:Bool} (h0:B0 s0_0 s1_0 s1_1 s1_2 s1_3 s1_4 p0=some r):AY Tryz.prog 123 [(i64 p0),(.ptr 0 0 0 0),(.ptr 1 0 0 0)] [⟨0,3,1,[[(i64 s0_0)]]⟩,⟨0,99,5,[[(ls eI s1_0),(ls eI s1_1),(i64 s1_2),(i64 s1_3),(ls AU s1_4)]]⟩] (fun v st=>v=(.bool r)∧st=[⟨0,3,1,[[(i64 s0_0)]]⟩,⟨0,99,5,[[(ls eI s1_0),(ls eI s1_1),(i64 s1_2),(i64 s1_3),(ls AU s1_4)]]⟩]):=by
 unfold B0 at h0
 refine ai Tryz.func123 U U U U (zr tb U U (AB fun K2 hK2=>bs h0 fun o4 h1 h0=>?_))
 have M4 :∀(t3:Bool),o4=t3→∀s,Wk 2 s ⟨15,AS [(4,(.bool t3))],[⟨0,3,1,[[(i64 s0_0)]]⟩,⟨0,99,5,[[(ls eI s1_0),(ls eI s1_1),(i64 s1_2),(i64 s1_3),(ls AU s1_4)]]⟩]⟩→K2 s:=by
  intro t3 hq s hw
  subst o4
  try dsimp only at h0
  refine hK2 _ (AI hw ?_)
  replace h0:=Sh.AA h0
  subst r
  exact AH (xr (AM (L:=[(4,(.bool t3))]) ⟨.rfl,trivial⟩))
 refine AF U (zm tb 4 U ?_)
 rcases Sh.AP h1 with ⟨b5,h1⟩ | ⟨b5,h1⟩
 ·exact zg tb b5 U (zg tb b5 U (zg tb b5 U (A5 (v:=(i64 (Sh.len s1_4))) (A9 U U b5) rfl (BL QV U) (zg tb b5 U (zt b5 U (zq tb U (AD (M4 (decide (p0 < (Sh.len s1_4))) (Sh.AA h1).symm _ (AE U)))))))))
 ·refine zs b5 U ?_
  iterate 4 refine zs b5 rfl ?_
  exact zf b5 U (zq tb U (AD (M4 false (Sh.AA h1).symm _ (AE U))))
theorem Ia {s1_0:Int} {s2_0:(List Int)} {s2_1:(List Int)} {s2_2:Int} {s2_3:Int} {s2_4:(List Ag)} {p0:Int} {r:Bool} (h0:Ds s1_0 s2_0 s2_1 s2_2 s2_3 s2_4 p0=some r):AY Tryz.prog 124 [(i64 p0),(.ptr 0 0 0 0)] [⟨0,127,1,[[(.fn 123 [(.ptr 1 0 0 0),(.ptr 2 0 0 0)])]]⟩,⟨0,3,1,[[(i64 s1_0)]]⟩,⟨0,99,5,[[(ls eI s2_0),(ls eI s2_1),(i64 s2_2),(i64 s2_3),(ls AU s2_4)]]⟩] (fun v st=>v=(.bool r)∧st=[⟨0,127,1,[[(.fn 123 [(.ptr 1 0 0 0),(.ptr 2 0 0 0)])]]⟩,⟨0,3,1,[[(i64 s1_0)]]⟩,⟨0,99,5,[[(ls eI s2_0),(ls eI s2_1),(i64 s2_2),(i64 s2_3),(ls AU s2_4)]]⟩]):=by
 unfold Ds at h0
 refine ai Tryz.func124 U U U U (zr tb U U (sr U fun K2 hK2=>zm tb 2 U (bs h0 fun q3 gq3 h0=>?_)))
 refine OH (rowsP:=[⟨0,3,1,[[(i64 s1_0)]]⟩,⟨0,99,5,[[(ls eI s2_0),(ls eI s2_1),(i64 s2_2),(i64 s2_3),(ls AU s2_4)]]⟩]) (rows0:=[⟨0,3,1,[[(i64 s1_0)]]⟩,⟨0,99,5,[[(ls eI s2_0),(ls eI s2_1),(i64 s2_2),(i64 s2_3),(ls AU s2_4)]]⟩]) (rows1:=[⟨0,3,1,[[(i64 s1_0)]]⟩,⟨0,99,5,[[(ls eI s2_0),(ls eI s2_1),(i64 s2_2),(i64 s2_3),(ls AU s2_4)]]⟩]) (rows2:=[]) (rows1':=[⟨0,3,1,[[(i64 s1_0)]]⟩,⟨0,99,5,[[(ls eI s2_0),(ls eI s2_1),(i64 s2_2),(i64 s2_3),(ls AU s2_4)]]⟩]) (rows2':=[]) (st':=[⟨0,127,1,[[(.fn 123 [(.ptr 1 0 0 0),(.ptr 2 0 0 0)])]]⟩,⟨0,3,1,[[(i64 s1_0)]]⟩,⟨0,99,5,[[(ls eI s2_0),(ls eI s2_1),(i64 s2_2),(i64 s2_3),(ls AU s2_4)]]⟩]) (v':=(.bool q3)) [1,2] Aa U Ze (Ff gq3) rfl (by decide) rfl U (.raw U U (.raw U U .nil)) rfl U (.raw U U (.raw U U .nil)) .nil U U ?_
 refine zm tb 2 U (dn hK2 U ?_)
 replace h0:=Sh.AA h0
 subst r
 exact AH (xr (AM (L:=[(3,(.bool (!q3)))]) ⟨.rfl,trivial⟩))
theorem Jh {N:Nat} {s1_0:Int} {s2_0:(List Int)} {s2_1:(List Int)} {s2_2:Int} {s2_3:Int} {s2_4:(List Ag)} {p0:(List Int)} {r:Int} (h0:Ep N s1_0 s2_0 s2_1 s2_2 s2_3 s2_4 p0=some r):AY Tryz.prog 128 [(ls eI p0),(.fn 124 [(.ptr 0 0 0 0)])] [⟨0,127,1,[[(.fn 123 [(.ptr 1 0 0 0),(.ptr 2 0 0 0)])]]⟩,⟨0,3,1,[[(i64 s1_0)]]⟩,⟨0,99,5,[[(ls eI s2_0),(ls eI s2_1),(i64 s2_2),(i64 s2_3),(ls AU s2_4)]]⟩] (fun v st=>v=(i64 r)∧st=[⟨0,127,1,[[(.fn 123 [(.ptr 1 0 0 0),(.ptr 2 0 0 0)])]]⟩,⟨0,3,1,[[(i64 s1_0)]]⟩,⟨0,99,5,[[(ls eI s2_0),(ls eI s2_1),(i64 s2_2),(i64 s2_3),(ls AU s2_4)]]⟩]):=by
 unfold Ep at h0
 refine ai Tryz.func128 U U U U (zr tb U U (AB fun K2 hK2=>sr U fun K3 hK3=>zq tb U (zl tb U U (zq tb U (dn hK3 U ?_)))))
 obtain⟨o5,h1,h0⟩:=Sh.A1 h0
 have M5 :∀(_:Unit),o5=Sum.inr ()→∀s,Wk 3 s ⟨19,AS [],[⟨0,127,1,[[(.fn 123 [(.ptr 1 0 0 0),(.ptr 2 0 0 0)])]]⟩,⟨0,3,1,[[(i64 s1_0)]]⟩,⟨0,99,5,[[(ls eI s2_0),(ls eI s2_1),(i64 s2_2),(i64 s2_3),(ls AU s2_4)]]⟩]⟩→K2 s:=by
  intro _ hq s hw
  subst o5
  try dsimp only at h0
  refine hK2 _ (AI hw (zr tb U U ?_))
  replace h0:=Sh.AA h0
  subst r
  exact AH (xr (AM (L:=[(4,(i64 (-1)))]) ⟨.rfl,trivial⟩))
 refine AJ (AX (σ:=Int) (fun n v=>BZ s1_0 s2_0 s2_1 s2_2 s2_3 s2_4 p0 n v=some o5) (fun t4=>⟨19,AS [(0,(ls eI p0)),(1,(.fn 124 [(.ptr 0 0 0 0)])),(7,(i64 (Sh.len p0))),(8,(i64 t4))],[⟨0,127,1,[[(.fn 123 [(.ptr 1 0 0 0),(.ptr 2 0 0 0)])]]⟩,⟨0,3,1,[[(i64 s1_0)]]⟩,⟨0,99,5,[[(ls eI s2_0),(ls eI s2_1),(i64 s2_2),(i64 s2_3),(ls AU s2_4)]]⟩]⟩) N 0 h1 (AE U) (fun _ hv=>by rw[BZ] at hv;cases hv) ?_)
 rintro n t4 h1
 try dsimp only at h1 ⊢
 rw[BZ] at h1
 refine zr tb U U (AB fun K8 hK8=>?_)
 refine ci h1 U ?_ ?_ <;> clear h1
 ·intro b9 h1
  refine AG (hK8 _ (AB fun K10 hK10=>AJ (zr tb U U (sr U fun K12 hK12=>zm tb 3 U (bs h1 fun c13 gc13 h1=>zx A2 gc13 U U U (zq tb U (bs h1 fun q14 gq14 h1=>?_)))))))
  refine OH (rowsP:=[⟨0,127,1,[[(.fn 123 [(.ptr 1 0 0 0),(.ptr 2 0 0 0)])]]⟩,⟨0,3,1,[[(i64 s1_0)]]⟩,⟨0,99,5,[[(ls eI s2_0),(ls eI s2_1),(i64 s2_2),(i64 s2_3),(ls AU s2_4)]]⟩]) (rows0:=[⟨0,127,1,[[(.fn 123 [(.ptr 1 0 0 0),(.ptr 2 0 0 0)])]]⟩,⟨0,3,1,[[(i64 s1_0)]]⟩,⟨0,99,5,[[(ls eI s2_0),(ls eI s2_1),(i64 s2_2),(i64 s2_3),(ls AU s2_4)]]⟩]) (rows1:=[⟨0,127,1,[[(.fn 123 [(.ptr 1 0 0 0),(.ptr 2 0 0 0)])]]⟩,⟨0,3,1,[[(i64 s1_0)]]⟩,⟨0,99,5,[[(ls eI s2_0),(ls eI s2_1),(i64 s2_2),(i64 s2_3),(ls AU s2_4)]]⟩]) (rows2:=[]) (rows1':=[⟨0,127,1,[[(.fn 123 [(.ptr 1 0 0 0),(.ptr 2 0 0 0)])]]⟩,⟨0,3,1,[[(i64 s1_0)]]⟩,⟨0,99,5,[[(ls eI s2_0),(ls eI s2_1),(i64 s2_2),(i64 s2_3),(ls AU s2_4)]]⟩]) (rows2':=[]) (st':=[⟨0,127,1,[[(.fn 123 [(.ptr 1 0 0 0),(.ptr 2 0 0 0)])]]⟩,⟨0,3,1,[[(i64 s1_0)]]⟩,⟨0,99,5,[[(ls eI s2_0),(ls eI s2_1),(i64 s2_2),(i64 s2_3),(ls AU s2_4)]]⟩]) (v':=(.bool q14)) [0,1,2] Aa U cB (Ia gq14) rfl (by decide) rfl U (.raw U U (.raw U U (.raw U U .nil))) rfl U (.raw U U (.raw U U (.raw U U .nil))) .nil U U ?_
  refine dn hK12 U ?_
  refine ci h1 U ?_ ?_ <;> clear h1
  ·intro b15 h1
   refine zr tb U U ?_
   replace h1:=Sh.AA h1
   subst o5
   try dsimp only[id] at h0
   replace h0:=Sh.AA h0
   subst r
   exact AH (xr (AM (L:=[(4,(i64 t4))]) ⟨.rfl,trivial⟩))
  ·intro b15 h1
   exact AG (hK10 _ (AF U (zm tb 2 U (AD (xi (Sh.w (t4+1)) h1 (AE U))))))
 ·intro b9 h1
  exact Ac (M5 () (Sh.AA h1).symm _ (AE U))
theorem Fv {N:Nat} {s1_0:Int} {s2_0:(List Int)} {s2_1:(List Int)} {s2_2:Int} {s2_3:Int} {s2_4:(List Ag)} {p0:(List Int)} {r:Bool} (h0:B6 N s1_0 s2_0 s2_1 s2_2 s2_3 s2_4 p0=some r):AY Tryz.prog 97 [(ls eI p0),(.fn 124 [(.ptr 0 0 0 0)])] [⟨0,127,1,[[(.fn 123 [(.ptr 1 0 0 0),(.ptr 2 0 0 0)])]]⟩,⟨0,3,1,[[(i64 s1_0)]]⟩,⟨0,99,5,[[(ls eI s2_0),(ls eI s2_1),(i64 s2_2),(i64 s2_3),(ls AU s2_4)]]⟩] (fun v st=>v=(.bool r)∧st=[⟨0,127,1,[[(.fn 123 [(.ptr 1 0 0 0),(.ptr 2 0 0 0)])]]⟩,⟨0,3,1,[[(i64 s1_0)]]⟩,⟨0,99,5,[[(ls eI s2_0),(ls eI s2_1),(i64 s2_2),(i64 s2_3),(ls AU s2_4)]]⟩]):=by
 unfold B6 at h0
 refine ai Tryz.func97 U U U U (zr tb U U (sr U fun K2 hK2=>zm tb 2 U (bs h0 fun q3 gq3 h0=>?_)))
 refine Mo (rowsP:=[⟨0,127,1,[[(.fn 123 [(.ptr 1 0 0 0),(.ptr 2 0 0 0)])]]⟩,⟨0,3,1,[[(i64 s1_0)]]⟩,⟨0,99,5,[[(ls eI s2_0),(ls eI s2_1),(i64 s2_2),(i64 s2_3),(ls AU s2_4)]]⟩]) (rows0:=[⟨0,127,1,[[(.fn 123 [(.ptr 1 0 0 0),(.ptr 2 0 0 0)])]]⟩,⟨0,3,1,[[(i64 s1_0)]]⟩,⟨0,99,5,[[(ls eI s2_0),(ls eI s2_1),(i64 s2_2),(i64 s2_3),(ls AU s2_4)]]⟩]) (rows1:=[⟨0,127,1,[[(.fn 123 [(.ptr 1 0 0 0),(.ptr 2 0 0 0)])]]⟩,⟨0,3,1,[[(i64 s1_0)]]⟩,⟨0,99,5,[[(ls eI s2_0),(ls eI s2_1),(i64 s2_2),(i64 s2_3),(ls AU s2_4)]]⟩]) (rows2:=[]) (rows1':=[⟨0,127,1,[[(.fn 123 [(.ptr 1 0 0 0),(.ptr 2 0 0 0)])]]⟩,⟨0,3,1,[[(i64 s1_0)]]⟩,⟨0,99,5,[[(ls eI s2_0),(ls eI s2_1),(i64 s2_2),(i64 s2_3),(ls AU s2_4)]]⟩]) (rows2':=[]) (st':=[⟨0,127,1,[[(.fn 123 [(.ptr 1 0 0 0),(.ptr 2 0 0 0)])]]⟩,⟨0,3,1,[[(i64 s1_0)]]⟩,⟨0,99,5,[[(ls eI s2_0),(ls eI s2_1),(i64 s2_2),(i64 s2_3),(ls AU s2_4)]]⟩]) (v':=(i64 q3)) [0,1,2] Aa YX (Jh gq3) rfl (by decide) rfl U (.raw U U (.raw U U (.raw U U .nil))) rfl U (.raw U U (.raw U U (.raw U U .nil))) .nil U U ?_
 refine zm tb 2 U (dn hK2 U ?_)
 replace h0:=Sh.AA h0
 subst r
 exact AH (xr (AM (L:=[(4,(.bool (decide (0≤q3))))]) ⟨.rfl,trivial⟩))
theorem KZ {N:Nat} {p0:(List An)} {r:Int} (h0:GH N p0=some r):AY Tryz.prog 140 [(ls Ad p0)] [] (fun v st=>v=(i64 r)∧st=[]):=by
 unfold GH at h0
 refine ai Tryz.func140 U U U U ?_
 iterate 2 refine zr tb rfl rfl ?_
 refine AB fun K3 hK3=>sr U fun K4 hK4=>zq tb U (zl tb U U (zq tb U (dn hK4 U (bs h0 fun o8 h1 h0=>?_))))
 have M8 :∀(n7:Int),o8=n7→∀s,Wk 0 s ⟨19,AS [(3,(i64 n7))],[]⟩→K3 s:=by
  intro n7 hq s hw
  subst o8
  try dsimp only at h0
  refine hK3 _ (AI hw (zr tb U U ?_))
  replace h0:=Sh.AA h0
  subst r
  exact AH (xr (AM (L:=[(2,(i64 n7))]) ⟨.rfl,trivial⟩))
 refine AJ (AX (σ:=Int×Int) (fun n v=>DC p0 n v.1 v.2=some o8) (fun (n5,t6)=>⟨19,AS [(3,(i64 n5)),(6,(ls Ad p0)),(7,(i64 (Sh.len p0))),(8,(i64 t6))],[]⟩) N (0,0) h1 (AE U) (fun _ hv=>by rw[DC] at hv;cases hv) ?_)
 rintro n ⟨n5,t6⟩ h1
 try dsimp only at h1 ⊢
 rw[DC] at h1
 refine zr tb U U (AB fun K11 hK11=>?_)
 refine ci h1 U ?_ ?_ <;> clear h1
 ·intro b12 h1
  refine AG (hK11 _ (AB fun K13 hK13=>AJ (sr U fun K14 hK14=>bs h1 fun c15 gc15 h1=>zx HX gc15 U U U (zq tb U (BF (m:=0) Aa Nu U U (A7 Aa MS U U U U U U (show 0+3≤3 by decide) rfl (dn hK14 U (AF U (zm tb 3 U ?_)))))))))
  exact zl tb U U (zm tb 2 U (dn hK13 U (AF U (zm tb 2 U (AD (xi (Sh.w (n5+(Sh.len c15.cons)),Sh.w (t6+1)) h1 (AR _ U)))))))
 ·intro b12 h1
  exact Ac (M8 n5 (Sh.AA h1).symm _ (AE U))
theorem Qe {N:Nat} {p0:(List An)} {p1:Int} {r:(List Int)} (h0:IZ N p0 p1=some r):AY Tryz.prog 141 [(ls Ad p0),(i64 p1)] [] (fun v st=>v=(ow 0 0 r)∧st=[(ro 0 3 1 eI r)]):=by
 unfold IZ at h0
 refine ai Tryz.func141 U U U U (zr tb U U (AB fun K2 hK2=>AB fun K3 hK3=>bs h0 fun o5 h1 h0=>?_))
 have M5 :∀(t4:Bool),o5=t4→∀s,Wk 0 s ⟨39,AS [(0,(ls Ad p0)),(1,(i64 p1)),(15,(.bool t4))],[]⟩→K3 s:=by
  intro t4 hq s hw
  subst o5
  try dsimp only at h0
  refine hK3 _ (AI hw ?_)
  refine ci h0 U ?_ ?_ <;> clear h0
  ·intro b6 h0
   refine zr tb U U ?_
   replace h0:=Sh.AA h0
   subst r
   exact AH (Exists.intro _ (And.intro (((EM (t:=4) rfl 3 (size:=1) (by decide)).trans (AM (L:=[(4,(.own 0 0 (List.length ([]:List Int))))]) ⟨.rfl,trivial⟩)).trans (AM (L:=[(4,(.own 0 0 (List.length ([]:List Int))))]) ⟨.rfl,trivial⟩)) (And.intro U U)))
  ·intro b6 h0
   refine AG (hK2 _ (sr U fun K8 hK8=>zm tb 3 U (bs h0 fun l9 gl9 h0=>XF (i:=0) (j:=Sh.w (p1 - 1)) Aa HX U U U (fun _=>U) gl9 (bs h0 fun q10 gq10 h0=>zc Za (KZ gq10) rfl U U (zq tb U (dn hK8 U (zr tb U U (AB fun K12 hK12=>sr U fun K13 hK13=>?_))))))))
   refine zm tb 3 U (bs h0 fun c14 gc14 h0=>zx HX gc14 U U U (zm tb 2 U (zl tb U U (zq tb U (dn hK13 U (bs h0 fun o18 h1 h0=>?_))))))
   have M18 :∀(l17:(List Int)),o18=l17→∀s,Wk 0 s ⟨39,AS [(6,(ow 0 0 l17))],[(ro 0 3 1 eI l17)]⟩→K12 s:=by
    intro l17 hq s hw
    subst o18
    try dsimp only at h0
    refine hK12 _ (AI hw (zr tb U U ?_))
    replace h0:=Sh.AA h0
    subst r
    exact AH (xr (AM (L:=[(4,(ow 0 0 l17))]) ⟨.rfl,trivial⟩))
   refine AJ (AX (σ:=Int×(List Int)) (fun n v=>D6 c14 q10 n v.1 v.2=some o18) (fun (t15,l16)=>⟨39,AS [(5,(i64 q10)),(6,(ow 0 0 l16)),(27,(i64 (Sh.len c14.cons))),(28,(i64 t15))],[(ro 0 3 1 eI l16)]⟩) N (0,[]) h1 ((EM (t:=6) rfl 3 (size:=1) (by decide)).trans (AM (L:=[(5,(i64 q10)),(6,(.own 0 0 (List.length ([]:List Int)))),(27,(i64 (Sh.len c14.cons))),(28,(i64 0))]) ⟨.rfl,.rfl,.rfl,.rfl,trivial⟩)) (fun _ hv=>by rw[D6] at hv;cases hv) ?_)
   rintro n ⟨t15,l16⟩ h1
   try dsimp only at h1 ⊢
   rw[D6] at h1
   refine zr tb U U (AB fun K21 hK21=>?_)
   refine ci h1 U ?_ ?_ <;> clear h1
   ·intro b22 h1
    refine AG (hK21 _ (AB fun K23 hK23=>AJ (zr tb U U (AF U (zm tb 4 U ?_)))))
    refine DO (m:=1) (l:=[Sh.w (q10+t15)]) (enc:=eI) Aa A2 (by decide) rfl U U U U U ?_
    refine bs h1 fun l25 gl25 h1=>Ex (l2:=[Sh.w (q10+t15)]) Aa A2 U U U U (J0 U U) (fun _=>U) gl25 U (zq tb U (dn hK23 U (AF U (zm tb 2 U ?_))))
    exact AD (xi (Sh.w (t15+1),l25) h1 (by refine Wk.trans (Cf (L:=[(5,(i64 q10)),(6,(ow 0 0 l25)),(27,(i64 (Sh.len c14.cons))),(28,(i64 (Sh.w (t15+1))))]) (st':=[(ro 0 3 1 eI l25),(ro 0 3 1 eI [Sh.w (q10+t15)])]) (.pure (AL fun _=>U) (.pure (AL fun _=>U) .nil)) ⟨.rfl,.rfl,.rfl,.rfl,trivial⟩) ?_;exact AN (L:=[(5,(i64 q10)),(6,(ow 0 0 l25)),(27,(i64 (Sh.len c14.cons))),(28,(i64 (Sh.w (t15+1))))]) (st':=[(ro 0 3 1 eI l25)]) (st1:=[(ro 0 3 1 eI l25)]) [0] U .nil (by decide) rfl U (.pure (AL fun _=>U) .nil) ⟨.rfl,.rfl,.rfl,.rfl,trivial⟩))
   ·intro b22 h1
    exact Ac (M18 l16 (Sh.AA h1).symm _ (AE U))
 refine AF U (zm tb 3 U ?_)
 rcases Sh.AP h1 with ⟨b26,h1⟩ | ⟨b26,h1⟩
 ·refine zs b26 U ?_
  iterate 3 refine zs b26 rfl ?_
  exact zt b26 U (AD (M5 true (Sh.AA h1).symm _ (AE U)))
 ·exact zg tb b26 U (zg tb b26 U (A5 (v:=(i64 (Sh.len p0))) (A9 U U b26) rfl (BL Uu U) (zg tb b26 U (zf b26 U (AD (M5 (decide ((Sh.len p0) < p1)) (Sh.AA h1).symm _ (AE U)))))))
end Go.Proofs.YtobjlimoekffaaaGreat

