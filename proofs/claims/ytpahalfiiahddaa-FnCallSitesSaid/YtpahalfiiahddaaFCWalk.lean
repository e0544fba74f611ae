import Derived.Test.YtpahalfiiahddaaProg
import Derived.Test.YtpahalfiiahddaaGHADefsToFCDefs
import Derived.Test.YtpahalfiiahddaaFCWalkP4
namespace Go.Proofs.Ytpahalfiiahddaa
open Go Go.Abs RC
attribute [local irreducible] Go.Abs.Co
set_option maxRecDepth 100000
set_option maxHeartbeats 4000000

noncomputable abbrev G3 (z0:List Ac) (z1:List Ar):Go.Abs.Row:=⟨0,31,2,[[(ls AI z0),(ls AH z1)]]⟩
noncomputable abbrev L0 (z0:Int) (z1:Int) (z2:List AP):Go.Abs.Row:=⟨0,50,3,[[(i64 z0),(i64 z1),(ls AA z2)]]⟩
theorem VJ:DS Try.prog 60=some ⟨4,1,1,[.bool false]⟩:=by kernel_rfl
theorem Yc:Au Try.prog 10=true:=by kernel_rfl
theorem Yu:Au Try.prog 14=true:=by kernel_rfl
theorem Yw:Au Try.prog 15=true:=by kernel_rfl
theorem YL:Au Try.prog 16=true:=by kernel_rfl
theorem YW:Au Try.prog 22=true:=by kernel_rfl
theorem XE:Au Try.prog 24=true:=by kernel_rfl
theorem YO:Au Try.prog 33=true:=by kernel_rfl
theorem Yv:Au Try.prog 34=true:=by kernel_rfl
theorem Yo:Au Try.prog 42=true:=by kernel_rfl
theorem Jm:Au Try.prog 44=true:=by kernel_rfl
theorem Ym:Au Try.prog 53=true:=by kernel_rfl
theorem Ya:Au Try.prog 66=true:=by kernel_rfl
theorem XA:Au Try.prog 67=true:=by kernel_rfl
theorem XI:Au Try.prog 69=true:=by kernel_rfl
theorem VT:Au Try.prog 71=true:=by kernel_rfl
theorem ZF:Au Try.prog 74=true:=by kernel_rfl
theorem Yp:Au Try.prog 75=true:=by kernel_rfl
theorem Ye:Au Try.prog 8=true:=by kernel_rfl
theorem Ys:Au Try.prog 98=true:=by kernel_rfl
theorem ZT:D7 Try.prog 4=some (false,1):=by kernel_rfl
theorem ZK:D7 Try.prog 60=some (false,1):=by kernel_rfl
theorem ZA:Ge Try.prog 60=some [.zc]:=by kernel_rfl

theorem MZ {N:Nat} {p0:(List Ac)} {p1:Int} {r:Bool} (h0:Fz N p0 p1=some r):Aj Try.prog 98 [(ls AI p0),(i64 p1)] [] (fun v st=>v=(.bool r)∧st=[]):=by
 unfold Fz at h0
 refine ai Try.func98 U U U U (zr tb U U (sr U fun K2 hK2=>zm tb 2 U (bs h0 fun c3 gc3 h0=>zx EH gc3 U U U (zq tb U (A0 (m:=0) AK ET U U (Az AK Hc U U U U U U (show 0+3≤3 by decide) rfl (dn hK2 U (AJ fun K4 hK4=>sr U fun K5 hK5=>?_))))))))
 refine zm tb 2 U (zl tb U U (zq tb U (dn hK5 U ?_)))
 refine ci h0 U ?_ ?_ <;> clear h0
 ·intro b6 h0
  refine AJ fun K7 hK7=>AJ fun K8 hK8=>bs h0 fun o10 h1 h0=>?_
  have M10 :∀(t9:Bool),o10=t9→∀s,Wk 0 s ⟨100,Ab [(0,(ls AI p0)),(5,(.ptr 0 0 0 0)),(29,(.bool t9))],[⟨0,80,3,[(AI c3)]⟩]⟩→K8 s:=by
   intro t9 hq s hw
   subst o10
   try dsimp only at h0
   refine hK8 _ (AS hw ?_)
   refine ci h0 U ?_ ?_ <;> clear h0
   ·intro b11 h0
    refine zr tb U U ?_
    replace h0:=Sh.AE h0
    subst r
    exact AZ (xr (Ax [(4,(.bool false))] U))
   ·intro b11 h0
    refine AU (hK7 _ (AJ fun K13 hK13=>zr tb U U ?_))
    obtain⟨o16,h1,h0⟩:=Sh.Bh h0
    have M16 :∀(_:Unit),o16=Sum.inr ()→∀s,Wk 0 s ⟨100,Ab [],[]⟩→K13 s:=by
     intro _ hq s hw
     subst o16
     try dsimp only at h0
     refine hK13 _ (AS hw (zr tb U U ?_))
     replace h0:=Sh.AE h0
     subst r
     exact AZ (xr (Ah (L:=[(4,(.bool true))]) ⟨.rfl,trivial⟩))
    refine Ae (A5 (σ:=Int) (fun n v=>DT N c3 p0 n v=some o16) (fun i15=>⟨100,Ab [(0,(ls AI p0)),(5,(.ptr 0 0 0 0)),(6,(i64 i15))],[⟨0,80,3,[(AI c3)]⟩]⟩) N 0 h1 (AG U) (fun _ hv=>by rw[DT] at hv;cases hv) ?_)
    rintro n i15 h1
    try dsimp only at h1 ⊢
    rw[DT] at h1
    refine AJ fun K18 hK18=>sr U fun K19 hK19=>zm tb 3 U (zl tb U U (zq tb U (dn hK19 U ?_)))
    refine ci h1 U ?_ ?_ <;> clear h1
    ·intro b20 h1
     refine AU (hK18 _ (AJ fun K21 hK21=>Ae (AJ fun K22 hK22=>bs h1 fun o24 h2 h1=>?_)))
     have M24 :∀(t23:Bool),o24=t23→∀s,Wk 0 s ⟨100,Ab [(0,(ls AI p0)),(5,(.ptr 0 0 0 0)),(6,(i64 i15)),(55,(.bool t23))],[⟨0,80,3,[(AI c3)]⟩]⟩→K22 s:=by
      intro t23 hq s hw
      subst o24
      try dsimp only at h1
      refine hK22 _ (AS hw ?_)
      refine ci h1 U ?_ ?_ <;> clear h1
      ·intro b25 h1
       refine zr tb U U ?_
       replace h1:=Sh.AE h1
       subst o16
       try dsimp only[id] at h0
       replace h0:=Sh.AE h0
       subst r
       exact AZ (xr (Ax [(4,(.bool false))] U))
      ·intro b25 h1
       exact AU (hK21 _ (AN U (zm tb 3 U (AB (xi (Sh.w (i15+1)) h1 (AG U))))))
     refine AN U (zm tb 3 U (bs h2 fun c27 gc27 h2=>zx J5 gc27 U U U (zm tb 2 U (zl tb U U (zm tb 2 U ?_)))))
     rcases Sh.An h2 with ⟨b28,h2⟩ | ⟨b28,h2⟩
     ·refine zs b28 U ?_
      iterate 8 refine zs b28 rfl ?_
      exact zt b28 U (AB (M24 true (Sh.AE h2).symm _ (AG U)))
     ·refine zg tb b28 U ?_
      iterate 3 refine zg tb b28 rfl ?_
      exact B3 (v:=(.Al (BK c27) 0)) (B0 U U b28) rfl (CV J5 U U gc27 U) (zg tb b28 U (zg tb b28 U (bs h2 fun q29 gq29 h2=>zd b28 XA (JV gq29) rfl U U U (zg tb b28 U (zf b28 U (AB (M24 (!q29) (Sh.AE h2).symm _ (AG U))))))))
    ·intro b20 h1
     exact BE (M16 () (Sh.AE h1).symm _ (Ax _ U))
  refine AN U (zm tb 2 U (zl tb U U (zm tb 2 U ?_)))
  rcases Sh.An h1 with ⟨b30,h1⟩ | ⟨b30,h1⟩
  ·refine zs b30 U (zs b30 U (zs b30 U (zt b30 U (zq tb U ?_))))
   iterate 3 refine zs rfl rfl ?_
   exact zt U U (AB (M10 true (Sh.AE h1).symm _ (AG U)))
  ·refine zg tb b30 U (zg tb b30 U (zg tb b30 U (zf b30 U (zq tb U ?_))))
   rcases Sh.An h1 with ⟨b31,h1⟩ | ⟨b31,h1⟩
   ·exact zs b31 U (zs b31 U (zs b31 U (zt b31 U (AB (M10 true (Sh.AE h1).symm _ (AG U))))))
   ·exact zg tb b31 U (zg tb b31 U (zg tb b31 U (zf b31 U (AB (M10 (!decide (c3.to=0)) (Sh.AE h1).symm _ (AG U))))))
 ·intro b6 h0
  refine AU (hK4 _ (AJ fun K32 hK32=>zr tb U U ?_))
  obtain⟨o35,h1,h0⟩:=Sh.Bh h0
  have M35 :∀(_:Unit),o35=Sum.inr ()→∀s,Wk 0 s ⟨100,Ab [(0,(ls AI p0)),(5,(.ptr 0 0 0 0))],[⟨0,80,3,[(AI c3)]⟩]⟩→K32 s:=by
   intro _ hq s hw
   subst o35
   try dsimp only at h0
   refine hK32 _ (AS hw (AJ fun K36 hK36=>bs h0 fun o38 h1 h0=>?_))
   have M38 :∀(t37:Bool),o38=t37→∀s,Wk 0 s ⟨100,Ab [(4,(.bool t37))],[]⟩→K36 s:=by
    intro t37 hq s hw
    subst o38
    try dsimp only at h0
    refine hK36 _ (AS hw ?_)
    replace h0:=Sh.AE h0
    subst r
    exact AZ (xr (Ah (L:=[(4,(.bool t37))]) ⟨.rfl,trivial⟩))
   refine AN U (zm tb 3 U (zl tb U U (bs h1 fun q39 gq39 h1=>zc Kk (CN gq39) rfl U U (zq tb U ?_))))
   rcases Sh.An h1 with ⟨b40,h1⟩ | ⟨b40,h1⟩
   ·exact zg tb b40 U (zg tb b40 U (zg tb b40 U (B3 (v:=(i64 (Sh.len p0))) (B0 U U b40) rfl (B9 RR U) (bs h1 fun q41 gq41 h1=>zd b40 Kk (CN gq41) rfl U U U (zt b40 U (zq tb U (AB (M38 q41 (Sh.AE h1).symm _ (Ax _ U)))))))))
   ·refine zs b40 U ?_
    iterate 4 refine zs b40 rfl ?_
    exact zf b40 U (zq tb U (AB (M38 false (Sh.AE h1).symm _ (Ax _ U))))
  refine Ae (A5 (σ:=Int) (fun n v=>DV c3 p0 p1 n v=some o35) (fun i34=>⟨100,Ab [(0,(ls AI p0)),(1,(i64 p1)),(5,(.ptr 0 0 0 0)),(7,(i64 i34))],[⟨0,80,3,[(AI c3)]⟩]⟩) N 0 h1 (AG U) (fun _ hv=>by rw[DV] at hv;cases hv) ?_)
  rintro n i34 h1
  try dsimp only at h1 ⊢
  rw[DV] at h1
  refine AJ fun K42 hK42=>zr tb U U ?_
  refine ci h1 U ?_ ?_ <;> clear h1
  ·intro b44 h1
   refine AU (hK42 _ (AJ fun K45 hK45=>Ae (AJ fun K46 hK46=>bs h1 fun o48 h2 h1=>?_)))
   have M48 :∀(t47:Bool),o48=t47→∀s,Wk 0 s ⟨100,Ab [(0,(ls AI p0)),(1,(i64 p1)),(5,(.ptr 0 0 0 0)),(7,(i64 i34)),(87,(.bool t47))],[⟨0,80,3,[(AI c3)]⟩]⟩→K46 s:=by
    intro t47 hq s hw
    subst o48
    try dsimp only at h1
    refine hK46 _ (AS hw ?_)
    refine ci h1 U ?_ ?_ <;> clear h1
    ·intro b49 h1
     refine zr tb U U ?_
     replace h1:=Sh.AE h1
     subst o35
     try dsimp only[id] at h0
     replace h0:=Sh.AE h0
     subst r
     exact AZ (xr (Ax [(4,(.bool false))] U))
    ·intro b49 h1
     exact AU (hK45 _ (AN U (zm tb 3 U (AB (xi (Sh.w (i34+1)) h1 (AG U))))))
   refine CI (by kernel_rfl) (by kernel_rfl) (by rfl) ?_
   iterate 2 refine yq tb rfl ?_
   refine bs h2 fun c51 gc51 h2=>yx EH gc51 U U U ?_
   iterate 2 refine yq tb rfl ?_
   refine yl tb U U ?_
   iterate 2 refine yq tb rfl ?_
   rcases Sh.An h2 with ⟨b52,h2⟩ | ⟨b52,h2⟩
   ·refine yg tb b52 U (yg tb b52 U (A9 (v:=(.Al (AI c51) 0)) (B0 U U b52) rfl (CV EH U U gc51 U) ?_))
    iterate 5 refine yg tb b52 rfl ?_
    refine yt b52 U (yq tb U ?_)
    rcases Sh.An h2 with ⟨b53,h2⟩ | ⟨b53,h2⟩
    ·refine yg tb b53 U (yg tb b53 U (A9 (v:=(.Al (AI c51) 0)) (B0 U U b53) rfl (CV EH U U gc51 U) ?_))
     iterate 5 refine yg tb b53 rfl ?_
     exact yt b53 U (AR (M48 (decide (c51.to=c3.to)) (Sh.AE h2).symm _ (AG U)))
    ·refine ys b53 U ?_
     iterate 7 refine ys b53 rfl ?_
     exact yf b53 U (AR (M48 false (Sh.AE h2).symm _ (AG U)))
   ·refine ys b52 U ?_
    iterate 7 refine ys b52 rfl ?_
    refine yf b52 U (yq tb U ?_)
    iterate 8 refine ys rfl rfl ?_
    exact yf U U (AR (M48 false (Sh.AE h2).symm _ (AG U)))
  ·intro b44 h1
   exact BE (M35 () (Sh.AE h1).symm _ (AG U))
theorem Lx {N:Nat} {p0:(List Ac)} {r:Bool} (h0:Fh N p0=some r):Aj Try.prog 66 [(ls AI p0)] [] (fun v st=>v=(.bool r)∧st=[]):=by
 unfold Fh at h0
 refine ai Try.func66 U U U U (zr tb U U (AJ fun K2 hK2=>sr U fun K3 hK3=>zq tb U (zl tb U U (zq tb U (dn hK3 U ?_)))))
 refine ci h0 U ?_ ?_ <;> clear h0
 ·intro b4 h0
  refine zr tb U U ?_
  replace h0:=Sh.AE h0
  subst r
  exact AZ (xr (Ah (L:=[(2,(.bool false))]) ⟨.rfl,trivial⟩))
 ·intro b4 h0
  refine AU (hK2 _ (AJ fun K6 hK6=>zr tb U U ?_))
  obtain⟨o9,h1,h0⟩:=Sh.Bh h0
  have M9 :∀(_:Unit),o9=Sum.inr ()→∀s,Wk 0 s ⟨17,Ab [],[]⟩→K6 s:=by
   intro _ hq s hw
   subst o9
   try dsimp only at h0
   refine hK6 _ (AS hw (zr tb U U ?_))
   replace h0:=Sh.AE h0
   subst r
   exact AZ (xr (Ah (L:=[(2,(.bool true))]) ⟨.rfl,trivial⟩))
  refine Ae (A5 (σ:=Int) (fun n v=>C7 N p0 n v=some o9) (fun i8=>⟨17,Ab [(0,(ls AI p0)),(3,(i64 i8))],[]⟩) N 0 h1 (AG U) (fun _ hv=>by rw[C7] at hv;cases hv) ?_)
  rintro n i8 h1
  try dsimp only at h1 ⊢
  rw[C7] at h1
  refine AJ fun K11 hK11=>sr U fun K12 hK12=>zm tb 2 U (zl tb U U (zq tb U (dn hK12 U ?_)))
  refine ci h1 U ?_ ?_ <;> clear h1
  ·intro b13 h1
   refine AU (hK11 _ (AJ fun K14 hK14=>Ae (sr U fun K15 hK15=>zm tb 2 U (bs h1 fun q16 gq16 h1=>zc Ys (MZ gq16) rfl U U (zq tb U (dn hK15 U ?_))))))
   refine ci h1 U ?_ ?_ <;> clear h1
   ·intro b17 h1
    have b18:q16=false:=by simpa using b17
    refine zr tb U U ?_
    replace h1:=Sh.AE h1
    subst o9
    try dsimp only[id] at h0
    replace h0:=Sh.AE h0
    subst r
    exact AZ (xr (Ah (L:=[(2,(.bool false))]) ⟨.rfl,trivial⟩))
   ·intro b17 h1
    have b20:q16=true:=by simpa using b17
    exact AU (hK14 _ (AN U (zm tb 3 U (AB (xi (Sh.w (i8+1)) h1 (AG U))))))
  ·intro b13 h1
   exact BE (M9 () (Sh.AE h1).symm _ (AG U))
theorem MN {N:Nat} {p0:Ai} {r:Bool} (h0:E6 N p0=some r):Aj Try.prog 42 [(.agg [(ls AI p0.decls),(ls AH p0.funcs)])] [] (fun v st=>v=(.bool r)∧st=[]):=by
 unfold E6 at h0
 refine ai Try.func42 U U U U (sr U fun K1 hK1=>Bj (m:=0) AK U U U U U (zq tb U (dn hK1 U (AJ fun K2 hK2=>AJ fun K3 hK3=>bs h0 fun o5 h1 h0=>?_))))
 have M5 :∀(t4:Bool),o5=t4→∀s,Wk 0 s ⟨64,Ab [(1,(.ptr 0 0 0 0)),(15,(.bool t4))],[(G3 p0.decls p0.funcs)]⟩→K3 s:=by
  intro t4 hq s hw
  subst o5
  try dsimp only at h0
  refine hK3 _ (AS hw ?_)
  refine ci h0 U ?_ ?_ <;> clear h0
  ·intro b6 h0
   refine zr tb U U ?_
   replace h0:=Sh.AE h0
   subst r
   exact AZ (xr (Ax [(2,(.bool false))] U))
  ·intro b6 h0
   refine AU (hK2 _ (AJ fun K8 hK8=>zr tb U U ?_))
   obtain⟨o11,h1,h0⟩:=Sh.Bh h0
   have M11 :∀(_:Unit),o11=Sum.inr ()→∀s,Wk 0 s ⟨64,Ab [(1,(.ptr 0 0 0 0))],[(G3 p0.decls p0.funcs)]⟩→K8 s:=by
    intro _ hq s hw
    subst o11
    try dsimp only at h0
    refine hK8 _ (AS hw (AJ fun K12 hK12=>bs h0 fun o14 h1 h0=>?_))
    have M14 :∀(t13:Bool),o14=t13→∀s,Wk 0 s ⟨64,Ab [(2,(.bool t13))],[]⟩→K12 s:=by
     intro t13 hq s hw
     subst o14
     try dsimp only at h0
     refine hK12 _ (AS hw ?_)
     replace h0:=Sh.AE h0
     subst r
     exact AZ (xr (Ah (L:=[(2,(.bool t13))]) ⟨.rfl,trivial⟩))
    refine AN U (zm tb 2 U (bs h1 fun c15 gc15 h1=>zx C3 gc15 U U U (zm tb 2 U (zl tb U U (zm tb 2 U ?_)))))
    rcases Sh.An h1 with ⟨b16,h1⟩ | ⟨b16,h1⟩
    ·refine zg tb b16 U (zg tb b16 U (B3 (v:=(.Al (AH c15) 0)) (B0 U U b16) rfl (CV C3 U U gc15 U) ?_))
     iterate 3 refine zg tb b16 rfl ?_
     exact zt b16 U (zq tb U (AB (M14 (decide (c15.result=0)) (Sh.AE h1).symm _ (Ax _ U))))
    ·refine zs b16 U ?_
     iterate 5 refine zs b16 rfl ?_
     exact zf b16 U (zq tb U (AB (M14 false (Sh.AE h1).symm _ (Ax _ U))))
   refine Ae (A5 (σ:=Int) (fun n v=>Cy N p0 n v=some o11) (fun i10=>⟨64,Ab [(1,(.ptr 0 0 0 0)),(3,(i64 i10))],[(G3 p0.decls p0.funcs)]⟩) N 0 h1 (AG U) (fun _ hv=>by rw[Cy] at hv;cases hv) ?_)
   rintro n i10 h1
   try dsimp only at h1 ⊢
   rw[Cy] at h1
   refine AJ fun K17 hK17=>sr U fun K18 hK18=>zm tb 3 U (zl tb U U (zq tb U (dn hK18 U ?_)))
   refine ci h1 U ?_ ?_ <;> clear h1
   ·intro b19 h1
    refine AU (hK17 _ (AJ fun K20 hK20=>Ae (sr U fun K21 hK21=>zm tb 3 U (bs h1 fun c22 gc22 h1=>zx C3 gc22 U U U (zq tb U (A0 (m:=1) AK Jq U U (Az AK IE U U U U U U (show 0+5≤5 by decide) rfl (dn hK21 U (AJ fun K23 hK23=>?_)))))))))
    refine bs h1 fun o25 h2 h1=>?_
    have M25 :∀(t24:Bool),o25=t24→∀s,Wk 0 s ⟨64,Ab [(1,(.ptr 0 0 0 0)),(3,(i64 i10)),(48,(.bool t24))],[(G3 p0.decls p0.funcs)]⟩→K23 s:=by
     intro t24 hq s hw
     subst o25
     try dsimp only at h1
     refine hK23 _ (AS hw ?_)
     refine ci h1 U ?_ ?_ <;> clear h1
     ·intro b26 h1
      refine zr tb U U ?_
      replace h1:=Sh.AE h1
      subst o11
      try dsimp only[id] at h0
      replace h0:=Sh.AE h0
      subst r
      exact AZ (xr (Ax [(2,(.bool false))] U))
     ·intro b26 h1
      exact AU (hK20 _ (AN U (zm tb 3 U (AB (xi (Sh.w (i10+1)) h1 (AG U))))))
    refine AN U (zm tb 2 U (zl tb U U (zm tb 2 U ?_)))
    rcases Sh.An h2 with ⟨b28,h2⟩ | ⟨b28,h2⟩
    ·refine zs b28 U ?_
     iterate 5 refine zs b28 rfl ?_
     refine zt b28 U (zq tb U ?_)
     iterate 7 refine zs rfl rfl ?_
     refine zt U U ?_
     exact AB (M25 true (Sh.AE h2).symm _ (AT (L:=[(1,(.ptr 0 0 0 0)),(3,(i64 i10)),(48,(.bool true))]) (st':=[(G3 p0.decls p0.funcs)]) [0] U (by decide) rfl U (.raw U U .nil) ⟨.rfl,.rfl,.rfl,trivial⟩))
    ·refine zg tb b28 U ?_
     iterate 3 refine zg tb b28 rfl ?_
     refine bs h2 fun q29 gq29 h2=>zd b28 XA (JV gq29) rfl U U U (zg tb b28 U (zf b28 U (zq tb U ?_)))
     rcases Sh.An h2 with ⟨b30,h2⟩ | ⟨b30,h2⟩
     ·refine zs b30 U ?_
      iterate 6 refine zs b30 rfl ?_
      refine zt b30 U ?_
      exact AB (M25 true (Sh.AE h2).symm _ (AT (L:=[(1,(.ptr 0 0 0 0)),(3,(i64 i10)),(48,(.bool true))]) (st':=[(G3 p0.decls p0.funcs)]) [0] U (by decide) rfl U (.raw U U .nil) ⟨.rfl,.rfl,.rfl,trivial⟩))
     ·refine zg tb b30 U ?_
      iterate 3 refine zg tb b30 rfl ?_
      refine B3 (v:=(i64 (Sh.len p0.decls))) (B0 U U b30) rfl (B9 RR U) (bs h2 fun q31 gq31 h2=>zd b30 Kk (CN gq31) rfl U U U (zg tb b30 U (zf b30 U ?_)))
      exact AB (M25 (!q31) (Sh.AE h2).symm _ (AT (L:=[(1,(.ptr 0 0 0 0)),(3,(i64 i10)),(48,(.bool (!q31)))]) (st':=[(G3 p0.decls p0.funcs)]) [0] U (by decide) rfl U (.raw U U .nil) ⟨.rfl,.rfl,.rfl,trivial⟩))
   ·intro b19 h1
    exact BE (M11 () (Sh.AE h1).symm _ (AG U))
 refine AN U (zm tb 2 U (bs h1 fun q32 gq32 h1=>zc Ya (Lx gq32) rfl U U (zm tb 2 U ?_)))
 rcases Sh.An h1 with ⟨b33,h1⟩ | ⟨b33,h1⟩
 ·refine zs b33 U ?_
  iterate 4 refine zs b33 rfl ?_
  exact zt b33 U (AB (M5 true (Sh.AE h1).symm _ (AG U)))
 ·exact zg tb b33 U (zg tb b33 U (B3 (v:=(i64 (Sh.len p0.funcs))) (B0 U U b33) rfl (B9 Oi U) (bs h1 fun q34 gq34 h1=>zd b33 Kk (CN gq34) rfl U U U (zg tb b33 U (zf b33 U (AB (M5 (!q34) (Sh.AE h1).symm _ (AG U))))))))
theorem Jz {N:Nat} {rec_spec_typeOf:Ai→(List Int)→AP→Option (Int)} (hrec_spec_typeOf :∀{p0:Ai} {p1:(List Int)} {p2:AP} {r:Int},rec_spec_typeOf p0 p1 p2=some r→Aj Try.prog 44 [(.agg [(ls AI p0.decls),(ls AH p0.funcs)]),(ls eI p1),(.agg [(i64 p2.op),(i64 p2.num),(ls AA p2.kids)])] [] (fun v st=>v=(i64 r)∧st=[])) {p0:Ai} {p1:(List Int)} {p2:(List AP)} {p3:Int} {r:Bool} (h0:GB N rec_spec_typeOf p0 p1 p2 p3=some r):Aj Try.prog 69 [(.agg [(ls AI p0.decls),(ls AH p0.funcs)]),(ls eI p1),(ls AA p2),(i64 p3)] [] (fun v st=>v=(.bool r)∧st=[]):=by
 unfold GB at h0
 refine ai Try.func69 U U U U (sr U fun K1 hK1=>Bj (m:=0) AK U U U U U (zq tb U (dn hK1 U (AJ fun K2 hK2=>sr U fun K3 hK3=>zq tb U (zl tb U U (zm tb 2 U (dn hK3 U ?_)))))))
 refine ci h0 U ?_ ?_ <;> clear h0
 ·intro b4 h0
  have b5:decide ((Sh.len p2)=p3)=false:=by simpa using b4
  refine zr tb U U ?_
  replace h0:=Sh.AE h0
  subst r
  exact AZ (xr (Ax [(8,(.bool false))] U))
 ·intro b4 h0
  have b7:decide ((Sh.len p2)=p3)=true:=by simpa using b4
  refine AU (hK2 _ (AJ fun K8 hK8=>zr tb U U ?_))
  obtain⟨o11,h1,h0⟩:=Sh.Bh h0
  have M11 :∀(_:Unit),o11=Sum.inr ()→∀s,Wk 0 s ⟨27,Ab [],[]⟩→K8 s:=by
   intro _ hq s hw
   subst o11
   try dsimp only at h0
   refine hK8 _ (AS hw (zr tb U U ?_))
   replace h0:=Sh.AE h0
   subst r
   exact AZ (xr (Ah (L:=[(8,(.bool true))]) ⟨.rfl,trivial⟩))
  refine Ae (A5 (σ:=Int) (fun n v=>D5 p0 p1 p2 p3 rec_spec_typeOf n v=some o11) (fun i10=>⟨27,Ab [(1,(ls eI p1)),(2,(ls AA p2)),(3,(i64 p3)),(4,(.ptr 0 0 0 0)),(9,(i64 i10))],[(G3 p0.decls p0.funcs)]⟩) N 0 h1 (AG U) (fun _ hv=>by rw[D5] at hv;cases hv) ?_)
  rintro n i10 h1
  try dsimp only at h1 ⊢
  rw[D5] at h1
  refine AJ fun K13 hK13=>zr tb U U ?_
  refine ci h1 U ?_ ?_ <;> clear h1
  ·intro b15 h1
   refine AU (hK13 _ (AJ fun K16 hK16=>Ae (AJ fun K17 hK17=>?_)))
   refine CI (by kernel_rfl) (by kernel_rfl) (by rfl) ?_
   iterate 4 refine yq tb rfl ?_
   refine bs h1 fun c18 gc18 h1=>yz (.Al [(i64 c18.op),(i64 c18.num),(ls AA c18.kids)] 0) (CG BW U U gc18 (Ao _) rfl) rfl (yq tb U (bs h1 fun q19 gq19 h1=>BX (v:=(i64 q19)) AK Jm (hrec_spec_typeOf gq19) rfl U U (yq tb U (AR (hK17 _ ?_)))))
   refine ci h1 U ?_ ?_ <;> clear h1
   ·intro b20 h1
    have b21:decide (q19=0)=false:=by simpa using b20
    refine zr tb U U ?_
    replace h1:=Sh.AE h1
    subst o11
    try dsimp only[id] at h0
    replace h0:=Sh.AE h0
    subst r
    exact AZ (xr (Ax [(8,(.bool false))] U))
   ·intro b20 h1
    have b23:decide (q19=0)=true:=by simpa using b20
    exact AU (hK16 _ (AN U (zm tb 3 U (AB (xi (Sh.w (i10+1)) h1 (AG U))))))
  ·intro b15 h1
   exact BE (M11 () (Sh.AE h1).symm _ (Ax _ U))
theorem JB {N:Nat} {rec_spec_typeOf:Ai→(List Int)→AP→Option (Int)} (hrec_spec_typeOf :∀{p0:Ai} {p1:(List Int)} {p2:AP} {r:Int},rec_spec_typeOf p0 p1 p2=some r→Aj Try.prog 44 [(.agg [(ls AI p0.decls),(ls AH p0.funcs)]),(ls eI p1),(.agg [(i64 p2.op),(i64 p2.num),(ls AA p2.kids)])] [] (fun v st=>v=(i64 r)∧st=[])) {p0:Ai} {p1:(List Int)} {p2:(List AP)} {p3:(List Int)} {r:Bool} (h0:Gf N rec_spec_typeOf p0 p1 p2 p3=some r):Aj Try.prog 71 [(.agg [(ls AI p0.decls),(ls AH p0.funcs)]),(ls eI p1),(ls AA p2),(ls eI p3)] [] (fun v st=>v=(.bool r)∧st=[]):=by
 unfold Gf at h0
 refine ai Try.func71 U U U U (sr U fun K1 hK1=>Bj (m:=0) AK U U U U U (zq tb U (dn hK1 U (AJ fun K2 hK2=>sr U fun K3 hK3=>zq tb U (zl tb U U (zq tb U (zl tb U U (zq tb U ?_))))))))
 refine dn hK3 U ?_
 refine ci h0 U ?_ ?_ <;> clear h0
 ·intro b4 h0
  have b5:decide ((Sh.len p2)=(Sh.len p3))=false:=by simpa using b4
  refine zr tb U U ?_
  replace h0:=Sh.AE h0
  subst r
  exact AZ (xr (Ax [(8,(.bool false))] U))
 ·intro b4 h0
  have b7:decide ((Sh.len p2)=(Sh.len p3))=true:=by simpa using b4
  refine AU (hK2 _ (AJ fun K8 hK8=>zr tb U U ?_))
  obtain⟨o11,h1,h0⟩:=Sh.Bh h0
  have M11 :∀(_:Unit),o11=Sum.inr ()→∀s,Wk 0 s ⟨33,Ab [],[]⟩→K8 s:=by
   intro _ hq s hw
   subst o11
   try dsimp only at h0
   refine hK8 _ (AS hw (zr tb U U ?_))
   replace h0:=Sh.AE h0
   subst r
   exact AZ (xr (Ah (L:=[(8,(.bool true))]) ⟨.rfl,trivial⟩))
  refine Ae (A5 (σ:=Int) (fun n v=>Eb p0 p1 p2 p3 rec_spec_typeOf n v=some o11) (fun i10=>⟨33,Ab [(1,(ls eI p1)),(2,(ls AA p2)),(3,(ls eI p3)),(4,(.ptr 0 0 0 0)),(9,(i64 i10))],[(G3 p0.decls p0.funcs)]⟩) N 0 h1 (AG U) (fun _ hv=>by rw[Eb] at hv;cases hv) ?_)
  rintro n i10 h1
  try dsimp only at h1 ⊢
  rw[Eb] at h1
  refine AJ fun K13 hK13=>sr U fun K14 hK14=>zm tb 2 U (zl tb U U (zq tb U (dn hK14 U ?_)))
  refine ci h1 U ?_ ?_ <;> clear h1
  ·intro b15 h1
   refine AU (hK13 _ (AJ fun K16 hK16=>Ae (AJ fun K17 hK17=>?_)))
   refine CI (by kernel_rfl) (by kernel_rfl) (by rfl) ?_
   iterate 4 refine yq tb rfl ?_
   refine bs h1 fun c18 gc18 h1=>yz (.Al [(i64 c18.op),(i64 c18.num),(ls AA c18.kids)] 0) (CG BW U U gc18 (Ao _) rfl) rfl (yq tb U (bs h1 fun q19 gq19 h1=>BX (v:=(i64 q19)) AK Jm (hrec_spec_typeOf gq19) rfl U U ?_))
   iterate 2 refine yq tb rfl ?_
   refine bs h1 fun c20 gc20 h1=>yx BF gc20 U U U ?_
   iterate 2 refine yq tb rfl ?_
   refine AR (hK17 _ ?_)
   refine ci h1 U ?_ ?_ <;> clear h1
   ·intro b21 h1
    have b22:decide (q19=c20)=false:=by simpa using b21
    refine zr tb U U ?_
    replace h1:=Sh.AE h1
    subst o11
    try dsimp only[id] at h0
    replace h0:=Sh.AE h0
    subst r
    exact AZ (xr (Ax [(8,(.bool false))] U))
   ·intro b21 h1
    have b24:decide (q19=c20)=true:=by simpa using b21
    exact AU (hK16 _ (AN U (zm tb 3 U (AB (xi (Sh.w (i10+1)) h1 (AG U))))))
  ·intro b15 h1
   exact BE (M11 () (Sh.AE h1).symm _ (Ax _ U))
theorem Ml {N:Nat} {rec_spec_typeOf:Ai→(List Int)→AP→Option (Int)} (hrec_spec_typeOf :∀{p0:Ai} {p1:(List Int)} {p2:AP} {r:Int},rec_spec_typeOf p0 p1 p2=some r→Aj Try.prog 44 [(.agg [(ls AI p0.decls),(ls AH p0.funcs)]),(ls eI p1),(.agg [(i64 p2.op),(i64 p2.num),(ls AA p2.kids)])] [] (fun v st=>v=(i64 r)∧st=[])) {p0:Ai} {p1:(List Int)} {p2:AP} {r:Int} (h0:HH N rec_spec_typeOf p0 p1 p2=some r):Aj Try.prog 74 [(.agg [(ls AI p0.decls),(ls AH p0.funcs)]),(ls eI p1),(.agg [(i64 p2.op),(i64 p2.num),(ls AA p2.kids)])] [] (fun v st=>v=(i64 r)∧st=[]):=by
 unfold HH at h0
 refine ai Try.func74 U U U U (sr U fun K1 hK1=>Bj (m:=0) AK U U U U U (Bj (m:=1) AK U U U U U (zq tb U (dn hK1 U (sr U fun K2 hK2=>zm tb 4 U (bs h0 fun q3 gq3 h0=>CC (v':=(ow 2 0 q3)) AK Rx (HL gq3) rfl U ⟨(Bs fun _=>U),trivial⟩ U U (zq tb U (dn hK2 U ?_))))))))
 refine AJ fun K4 hK4=>AJ fun K5 hK5=>bs h0 fun o7 h1 h0=>?_
 have M7 :∀(t6:Bool),o7=t6→∀s,Wk 0 s ⟨79,Ab [(1,(ls eI p1)),(3,(.ptr 0 0 0 0)),(5,(.ptr 1 0 0 0)),(7,(ow 2 0 q3)),(38,(.bool t6))],[(G3 p0.decls p0.funcs),(L0 p2.op p2.num p2.kids),(ro 0 3 1 eI q3)]⟩→K5 s:=by
  intro t6 hq s hw
  subst o7
  try dsimp only at h0
  refine hK5 _ (AS hw ?_)
  refine ci h0 U ?_ ?_ <;> clear h0
  ·intro b8 h0
   refine zr tb U U ?_
   replace h0:=Sh.AE h0
   subst r
   exact AZ (xr (Ax [(6,(i64 (-1)))] U))
  ·intro b8 h0
   refine AU (hK4 _ (AJ fun K10 hK10=>?_))
   refine C2 14 (by kernel_rfl) (by kernel_rfl) (by rfl) ?_
   iterate 5 refine yq tb rfl ?_
   refine bs h0 fun c11 gc11 h0=>yz (.ptr 2 0 (Int.toNat 0) 0) (Br BF U U U U gc11) rfl (yz (i64 c11) (B5 Fx U U (By gc11) rfl) rfl (bs h0 fun q12 gq12 h0=>BX (v:=(ls eI q12)) AK QJ (Dx gq12) rfl U U (bs h0 fun q13 gq13 h0=>?_)))
   refine BX (v:=(ls eI q13)) AK NP (Aj.wk (Dq gq13) (by refine Wk.trans (Wk.BH (L:=[(0,(ls eI q13))]) (st':=[⟨1,3,1,[]⟩]) (id:=0) rfl (show 0≤0 by decide) (AD fun _=>U) ⟨(.BH U),trivial⟩ U) ?_;exact AT (L:=[(0,(ls eI q13))]) (st':=[]) [] U (by decide) rfl U .nil ⟨.rfl,trivial⟩)) rfl U U ?_
   iterate 2 refine yq tb rfl ?_
   refine bs h0 fun c14 gc14 h0=>yz (.Al [(i64 c14.op),(i64 c14.num),(ls AA c14.kids)] 0) (CG BW U U gc14 (Ao _) rfl) rfl (yq tb U (bs h0 fun q15 gq15 h0=>BX (v:=(i64 q15)) AK Jm (hrec_spec_typeOf gq15) rfl U U (AR (zq tb U (dn hK10 U (AJ fun K16 hK16=>zr tb U U ?_))))))
   obtain⟨o19,h1,h0⟩:=Sh.Bh h0
   have M19 :∀(_:Unit),o19=Sum.inr ()→∀s,Wk 0 s ⟨79,Ab [(8,(i64 q15))],[]⟩→K16 s:=by
    intro _ hq s hw
    subst o19
    try dsimp only at h0
    refine hK16 _ (AS hw (zr tb U U ?_))
    replace h0:=Sh.AE h0
    subst r
    exact AZ (xr (Ah (L:=[(6,(i64 q15))]) ⟨.rfl,trivial⟩))
   refine Ae (A5 (σ:=Int) (fun n v=>Cw N p0 p1 p2 q15 q3 rec_spec_typeOf n v=some o19) (fun i18=>⟨79,Ab [(1,(ls eI p1)),(3,(.ptr 0 0 0 0)),(5,(.ptr 1 0 0 0)),(7,(ow 2 0 q3)),(8,(i64 q15)),(9,(i64 i18))],[(G3 p0.decls p0.funcs),(L0 p2.op p2.num p2.kids),(ro 0 3 1 eI q3)]⟩) N 1 h1 (AG U) (fun _ hv=>by rw[Cw] at hv;cases hv) ?_)
   rintro n i18 h1
   try dsimp only at h1 ⊢
   rw[Cw] at h1
   refine AJ fun K21 hK21=>sr U fun K22 hK22=>zm tb 2 U (zz (i64 (Sh.len q3)) (Ch Ek U U U) rfl (zq tb U (dn hK22 U ?_)))
   refine ci h1 U ?_ ?_ <;> clear h1
   ·intro b23 h1
    refine AU (hK21 _ (AJ fun K24 hK24=>Ae (AJ fun K25 hK25=>?_)))
    refine C2 18 (by kernel_rfl) (by kernel_rfl) (by rfl) ?_
    iterate 6 refine yq tb rfl ?_
    refine bs h1 fun c26 gc26 h1=>yz (.ptr 2 0 (Int.toNat i18) 0) (Br BF U U U U gc26) rfl (yz (i64 c26) (B5 Fx U U (By gc26) rfl) rfl (bs h1 fun q27 gq27 h1=>BX (v:=(ls eI q27)) AK QJ (Dx gq27) rfl U U (bs h1 fun q28 gq28 h1=>?_)))
    refine BX (v:=(ls eI q28)) AK NP (Aj.wk (Dq gq28) (by refine Wk.trans (Wk.BH (L:=[(0,(ls eI q28))]) (st':=[⟨1,3,1,[]⟩]) (id:=0) rfl (show 0≤0 by decide) (AD fun _=>U) ⟨(.BH U),trivial⟩ U) ?_;exact AT (L:=[(0,(ls eI q28))]) (st':=[]) [] U (by decide) rfl U .nil ⟨.rfl,trivial⟩)) rfl U U ?_
    iterate 4 refine yq tb rfl ?_
    refine bs h1 fun c29 gc29 h1=>yz (.Al [(i64 c29.op),(i64 c29.num),(ls AA c29.kids)] 0) (CG BW U U gc29 (Ao _) rfl) rfl (yq tb U (bs h1 fun q30 gq30 h1=>BX (v:=(i64 q30)) AK Jm (hrec_spec_typeOf gq30) rfl U U (yq tb U (AR (zq tb U (dn hK25 U ?_))))))
    refine ci h1 U ?_ ?_ <;> clear h1
    ·intro b31 h1
     have b32:decide (q30=q15)=false:=by simpa using b31
     refine zr tb U U ?_
     replace h1:=Sh.AE h1
     subst o19
     try dsimp only[id] at h0
     replace h0:=Sh.AE h0
     subst r
     exact AZ (xr (Ax [(6,(i64 (-1)))] U))
    ·intro b31 h1
     have b34:decide (q30=q15)=true:=by simpa using b31
     exact AU (hK24 _ (AN U (zm tb 3 U (AB (xi (Sh.w (i18+1)) h1 (AG U))))))
   ·intro b23 h1
    exact BE (M19 () (Sh.AE h1).symm _ (Ax _ U))
 refine CI (by kernel_rfl) (by kernel_rfl) (by rfl) ?_
 refine yq tb U (yz (i64 (Sh.len q3)) (Ch Ek U U U) rfl ?_)
 iterate 2 refine yq tb rfl ?_
 rcases Sh.An h1 with ⟨b35,h1⟩ | ⟨b35,h1⟩
 ·refine ys b35 U ?_
  iterate 6 refine ys b35 rfl ?_
  refine yt b35 U (yq tb U ?_)
  iterate 10 refine ys rfl rfl ?_
  exact yt U U (AR (M7 true (Sh.AE h1).symm _ (AG U)))
 ·refine yg tb b35 U (yg tb b35 U (A9 (v:=(i64 (Sh.len p2.kids))) (B0 U U b35) rfl (B9 RW U) (yg tb b35 U (A9 (v:=(i64 (Sh.len q3))) (B0 U U b35) rfl (Ch Ek U U U) ?_))))
  iterate 2 refine yg tb b35 rfl ?_
  refine yf b35 U (yq tb U ?_)
  rcases Sh.An h1 with ⟨b36,h1⟩ | ⟨b36,h1⟩
  ·refine ys b36 U ?_
   iterate 9 refine ys b36 rfl ?_
   exact yt b36 U (AR (M7 true (Sh.AE h1).symm _ (AG U)))
  ·refine yg tb b36 U ?_
   iterate 3 refine yg tb b36 rfl ?_
   refine bs h1 fun c37 gc37 h1=>A9 (v:=(.Al [(i64 c37.op),(i64 c37.num),(ls AA c37.kids)] 0)) (B0 U U b36) rfl (CG BW U U gc37 (Ao _) rfl) (yg tb b36 U (bs h1 fun q38 gq38 h1=>BX (v:=(i64 q38)) (B0 U U b36) Jm (hrec_spec_typeOf gq38) rfl U U ?_))
   iterate 3 refine yg tb b36 rfl ?_
   exact yf b36 U (AR (M7 (!decide (q38=p2.num)) (Sh.AE h1).symm _ (AG U)))
theorem NQ {N:Nat} {rec_spec_typeOf:Ai→(List Int)→AP→Option (Int)} (hrec_spec_typeOf :∀{p0:Ai} {p1:(List Int)} {p2:AP} {r:Int},rec_spec_typeOf p0 p1 p2=some r→Aj Try.prog 44 [(.agg [(ls AI p0.decls),(ls AH p0.funcs)]),(ls eI p1),(.agg [(i64 p2.op),(i64 p2.num),(ls AA p2.kids)])] [] (fun v st=>v=(i64 r)∧st=[])) {p0:Ai} {p1:(List Int)} {p2:AP} {r:Int} (h0:EJ N rec_spec_typeOf p0 p1 p2=some r):Aj Try.prog 75 [(.agg [(ls AI p0.decls),(ls AH p0.funcs)]),(ls eI p1),(.agg [(i64 p2.op),(i64 p2.num),(ls AA p2.kids)])] [] (fun v st=>v=(i64 r)∧st=[]):=by
 unfold EJ at h0
 refine ai Try.func75 U U U U (sr U fun K1 hK1=>Bj (m:=0) AK U U U U U (Bj (m:=1) AK U U U U U (zq tb U (dn hK1 U (AJ fun K2 hK2=>sr U fun K3 hK3=>zm tb 4 U (zl tb U U (zq tb U (bs h0 fun q4 gq4 h0=>?_))))))))
 refine zc Kk (CN gq4) rfl U U (zq tb U (dn hK3 U ?_))
 refine ci h0 U ?_ ?_ <;> clear h0
 ·intro b5 h0
  have b6:q4=false:=by simpa using b5
  refine zr tb U U ?_
  replace h0:=Sh.AE h0
  subst r
  exact AZ (xr (Ax [(6,(i64 (-1)))] U))
 ·intro b5 h0
  have b8:q4=true:=by simpa using b5
  refine AU (hK2 _ (sr U fun K9 hK9=>zm tb 4 U (bs h0 fun c10 gc10 h0=>zx C3 gc10 U U U (zq tb U (A0 (m:=2) AK Jq U U (Az AK IE U U U U U U (show 0+5≤5 by decide) rfl (dn hK9 U (sr U fun K11 hK11=>zm tb 2 U (zl tb U U ?_)))))))))
  refine zq tb U (dn hK11 U (AJ fun K12 hK12=>zr tb U U ?_))
  refine ci h0 U ?_ ?_ <;> clear h0
  ·intro b14 h0
   refine AJ fun K15 hK15=>sr U fun K16 hK16=>zm tb 6 U (bs h0 fun q17 gq17 h0=>zc VT (JB hrec_spec_typeOf gq17) rfl U U (zq tb U (dn hK16 U ?_)))
   refine ci h0 U ?_ ?_ <;> clear h0
   ·intro b18 h0
    have b19:q17=false:=by simpa using b18
    refine zr tb U U ?_
    replace h0:=Sh.AE h0
    subst r
    exact AZ (xr (Ax [(6,(i64 (-1)))] U))
   ·intro b18 h0
    have b21:q17=true:=by simpa using b18
    refine AU (hK15 _ (zr tb U U ?_))
    replace h0:=Sh.AE h0
    subst r
    exact AZ (xr (Ax [(6,(i64 c10.result))] U))
  ·intro b14 h0
   refine AU (hK12 _ (AJ fun K23 hK23=>AJ fun K24 hK24=>bs h0 fun o26 h1 h0=>?_))
   have M26 :∀(t25:Bool),o26=t25→∀s,Wk 0 s ⟨65,Ab [(3,(.ptr 0 0 0 0)),(7,(.ptr 1 0 0 0)),(8,(i64 (Sh.len c10.params))),(53,(.bool t25))],[(G3 p0.decls p0.funcs),⟨0,52,5,[[(ls eI c10.params),(i64 c10.result),(i64 c10.body.op),(i64 c10.body.num),(ls AA c10.body.kids)]]⟩]⟩→K24 s:=by
    intro t25 hq s hw
    subst o26
    try dsimp only at h0
    refine hK24 _ (AS hw ?_)
    refine ci h0 U ?_ ?_ <;> clear h0
    ·intro b27 h0
     refine zr tb U U ?_
     replace h0:=Sh.AE h0
     subst r
     exact AZ (xr (Ax [(6,(i64 (-1)))] U))
    ·intro b27 h0
     refine AU (hK23 _ (AJ fun K29 hK29=>?_))
     refine CI (by kernel_rfl) (by kernel_rfl) (by rfl) ?_
     iterate 6 refine yq tb rfl ?_
     refine bs h0 fun c30 gc30 h0=>yx BF gc30 U U U ?_
     iterate 3 refine yq tb rfl ?_
     refine bs h0 fun q31 gq31 h0=>BX (v:=(i64 q31)) AK WD (J8 gq31) rfl U U (yq tb U (AR (hK29 _ ?_)))
     replace h0:=Sh.AE h0
     subst r
     exact AZ (xr (Ax [(6,(i64 q31))] U))
   refine C2 14 (by kernel_rfl) (by kernel_rfl) (by rfl) ?_
   iterate 3 refine yq tb rfl ?_
   rcases Sh.An h1 with ⟨b32,h1⟩ | ⟨b32,h1⟩
   ·refine ys b32 U ?_
    iterate 10 refine ys b32 rfl ?_
    refine AR (zt b32 U ?_)
    exact AB (M26 true (Sh.AE h1).symm _ (AT (L:=[(3,(.ptr 0 0 0 0)),(7,(.ptr 1 0 0 0)),(8,(i64 (Sh.len c10.params))),(53,(.bool true))]) (st':=[(G3 p0.decls p0.funcs),⟨0,52,5,[[(ls eI c10.params),(i64 c10.result),(i64 c10.body.op),(i64 c10.body.num),(ls AA c10.body.kids)]]⟩]) [0,2] U (by decide) rfl U (.raw U U (.raw U U .nil)) ⟨.rfl,.rfl,.rfl,.rfl,trivial⟩))
   ·refine yg tb b32 U ?_
    iterate 7 refine yg tb b32 rfl ?_
    refine bs h1 fun l33 gl33 h1=>TR (i:=0) (j:=Sh.w ((Sh.len c10.params) - 1)) (B0 U U b32) BF U U U (fun _=>U) gl33 (bs h1 fun q34 gq34 h1=>BX (v:=(.bool q34)) (B0 U U b32) VT (JB hrec_spec_typeOf gq34) rfl U U (yg tb b32 U (AR (zf b32 U ?_))))
    exact AB (M26 (!q34) (Sh.AE h1).symm _ (AT (L:=[(3,(.ptr 0 0 0 0)),(7,(.ptr 1 0 0 0)),(8,(i64 (Sh.len c10.params))),(53,(.bool (!q34)))]) (st':=[(G3 p0.decls p0.funcs),⟨0,52,5,[[(ls eI c10.params),(i64 c10.result),(i64 c10.body.op),(i64 c10.body.num),(ls AA c10.body.kids)]]⟩]) [0,2] U (by decide) rfl U (.raw U U (.raw U U .nil)) ⟨.rfl,.rfl,.rfl,.rfl,trivial⟩))
theorem Mz {N:Nat} {rec_spec_typeOf:Ai→(List Int)→AP→Option (Int)} (hrec_spec_typeOf :∀{p0:Ai} {p1:(List Int)} {p2:AP} {r:Int},rec_spec_typeOf p0 p1 p2=some r→Aj Try.prog 44 [(.agg [(ls AI p0.decls),(ls AH p0.funcs)]),(ls eI p1),(.agg [(i64 p2.op),(i64 p2.num),(ls AA p2.kids)])] [] (fun v st=>v=(i64 r)∧st=[])) {p0:Ai} {p1:(List Int)} {p2:AP} {r:Int} (h0:Bd N rec_spec_typeOf p0 p1 p2=some r):Aj Try.prog 44 [(.agg [(ls AI p0.decls),(ls AH p0.funcs)]),(ls eI p1),(.agg [(i64 p2.op),(i64 p2.num),(ls AA p2.kids)])] [] (fun v st=>v=(i64 r)∧st=[]):=by
 unfold Bd at h0
 refine ai Try.func44 U U U U (sr U fun K1 hK1=>Bj (m:=0) AK U U U U U (Bj (m:=1) AK U U U U U (zq tb U (dn hK1 U (zr tb U U (AJ fun K3 hK3=>?_))))))
 obtain⟨o4,h1,h0⟩:=Sh.Bh h0
 have M4 :∀(_:Unit),o4=Sum.inr ()→∀s,Wk 0 s ⟨215,Ab [],[]⟩→K3 s:=by
  intro _ hq s hw
  subst o4
  try dsimp only at h0
  refine hK3 _ (AS hw (zr tb U U ?_))
  replace h0:=Sh.AE h0
  subst r
  exact AZ (xr (Ah (L:=[(6,(i64 (-1)))]) ⟨.rfl,trivial⟩))
 refine zr tb U U (Ae (zr tb U U ?_))
 refine ci h1 U ?_ ?_ <;> clear h1
 ·intro b8 h1
  refine AJ fun K9 hK9=>bs h1 fun o11 h2 h1=>?_
  have M11 :∀(t10:Bool),o11=t10→∀s,Wk 0 s ⟨215,Ab [(26,(.bool t10))],[]⟩→K9 s:=by
   intro t10 hq s hw
   subst o11
   try dsimp only at h1
   refine hK9 _ (AS hw ?_)
   refine ci h1 U ?_ ?_ <;> clear h1
   ·intro b12 h1
    refine zr tb U U ?_
    replace h1:=Sh.AE h1
    subst o4
    try dsimp only[id] at h0
    replace h0:=Sh.AE h0
    subst r
    exact AZ (xr (Ah (L:=[(6,(i64 0))]) ⟨.rfl,trivial⟩))
   ·intro b12 h1
    exact AU (M4 () (Sh.AE h1).symm _ (AG U))
  refine AN U (zm tb 2 U (zl tb U U (zm tb 2 U ?_)))
  rcases Sh.An h2 with ⟨b14,h2⟩ | ⟨b14,h2⟩
  ·exact zg tb b14 U (zg tb b14 U (bs h2 fun q15 gq15 h2=>zd b14 Kk (CN gq15) rfl U U U (zt b14 U (AB (M11 q15 (Sh.AE h2).symm _ (Ax _ U))))))
  ·exact zs b14 U (zs b14 U (zs b14 U (zf b14 U (AB (M11 false (Sh.AE h2).symm _ (Ax _ U))))))
 ·intro b8 h1
  refine zr tb U U ?_
  refine ci h1 U ?_ ?_ <;> clear h1
  ·intro b17 h1
   refine AJ fun K18 hK18=>bs h1 fun o20 h2 h1=>?_
   have M20 :∀(t19:Bool),o20=t19→∀s,Wk 0 s ⟨215,Ab [(1,(ls eI p1)),(5,(.ptr 0 0 0 0)),(40,(.bool t19))],[(L0 p2.op p2.num p2.kids)]⟩→K18 s:=by
    intro t19 hq s hw
    subst o20
    try dsimp only at h1
    refine hK18 _ (AS hw ?_)
    refine ci h1 U ?_ ?_ <;> clear h1
    ·intro b21 h1
     refine sr U fun K22 hK22=>zm tb 3 U (bs h1 fun c23 gc23 h1=>zx BF gc23 U U U (zm tb 2 U (dn hK22 U ?_)))
     replace h1:=Sh.AE h1
     subst o4
     try dsimp only[id] at h0
     replace h0:=Sh.AE h0
     subst r
     exact AZ (xr (Ax [(6,(i64 c23))] U))
    ·intro b21 h1
     exact AU (M4 () (Sh.AE h1).symm _ (Ax _ U))
   refine AN U (zm tb 2 U (zl tb U U (zm tb 2 U ?_)))
   rcases Sh.An h2 with ⟨b24,h2⟩ | ⟨b24,h2⟩
   ·refine zg tb b24 U (zg tb b24 U (zg tb b24 U (B3 (v:=(i64 (Sh.len p1))) (B0 U U b24) rfl (B9 Ek U) (zg tb b24 U (bs h2 fun q25 gq25 h2=>zd b24 Kk (CN gq25) rfl U U U (zt b24 U ?_))))))
    exact AB (M20 q25 (Sh.AE h2).symm _ (AT (L:=[(1,(ls eI p1)),(5,(.ptr 0 0 0 0)),(40,(.bool q25))]) (st':=[(L0 p2.op p2.num p2.kids)]) [1] U (by decide) rfl U (.raw U U .nil) ⟨.rfl,.rfl,.rfl,trivial⟩))
   ·refine zs b24 U ?_
    iterate 5 refine zs b24 rfl ?_
    refine zf b24 U ?_
    exact AB (M20 false (Sh.AE h2).symm _ (AT (L:=[(1,(ls eI p1)),(5,(.ptr 0 0 0 0)),(40,(.bool false))]) (st':=[(L0 p2.op p2.num p2.kids)]) [1] U (by decide) rfl U (.raw U U .nil) ⟨.rfl,.rfl,.rfl,trivial⟩))
  ·intro b17 h1
   refine AJ fun K26 hK26=>bs h1 fun o28 h2 h1=>?_
   have M28 :∀(t27:Bool),o28=t27→∀s,Wk 0 s ⟨215,Ab [(1,(ls eI p1)),(3,(.ptr 0 0 0 0)),(5,(.ptr 1 0 0 0)),(7,(.bool (decide (p2.num=0)))),(15,(i64 p2.op)),(46,(.bool t27))],[(G3 p0.decls p0.funcs),(L0 p2.op p2.num p2.kids)]⟩→K26 s:=by
    intro t27 hq s hw
    subst o28
    try dsimp only at h1
    refine hK26 _ (AS hw ?_)
    refine ci h1 U ?_ ?_ <;> clear h1
    ·intro b29 h1
     refine AJ fun K30 hK30=>bs h1 fun o32 h2 h1=>?_
     have M32 :∀(t31:Bool),o32=t31→∀s,Wk 0 s ⟨215,Ab [(58,(.bool t31))],[]⟩→K30 s:=by
      intro t31 hq s hw
      subst o32
      try dsimp only at h1
      refine hK30 _ (AS hw ?_)
      refine ci h1 U ?_ ?_ <;> clear h1
      ·intro b33 h1
       refine zr tb U U ?_
       replace h1:=Sh.AE h1
       subst o4
       try dsimp only[id] at h0
       replace h0:=Sh.AE h0
       subst r
       exact AZ (xr (Ah (L:=[(6,(i64 0))]) ⟨.rfl,trivial⟩))
      ·intro b33 h1
       exact AU (M4 () (Sh.AE h1).symm _ (AG U))
     refine AN U (zm tb 2 U ?_)
     rcases Sh.An h2 with ⟨b35,h2⟩ | ⟨b35,h2⟩
     ·refine zg tb b35 U ?_
      iterate 3 refine zg tb b35 rfl ?_
      exact bs h2 fun q36 gq36 h2=>zd b35 XI (Jz hrec_spec_typeOf gq36) rfl U U U (zt b35 U (AB (M32 q36 (Sh.AE h2).symm _ (Ax _ U))))
     ·refine zs b35 U ?_
      iterate 4 refine zs b35 rfl ?_
      exact zf b35 U (AB (M32 false (Sh.AE h2).symm _ (Ax _ U)))
    ·intro b29 h1
     refine zr tb U U ?_
     refine ci h1 U ?_ ?_ <;> clear h1
     ·intro b38 h1
      refine AJ fun K39 hK39=>bs h1 fun o41 h2 h1=>?_
      have M41 :∀(t40:Bool),o41=t40→∀s,Wk 0 s ⟨215,Ab [(68,(.bool t40))],[]⟩→K39 s:=by
       intro t40 hq s hw
       subst o41
       try dsimp only at h1
       refine hK39 _ (AS hw ?_)
       refine ci h1 U ?_ ?_ <;> clear h1
       ·intro b42 h1
        refine zr tb U U ?_
        replace h1:=Sh.AE h1
        subst o4
        try dsimp only[id] at h0
        replace h0:=Sh.AE h0
        subst r
        exact AZ (xr (Ah (L:=[(6,(i64 0))]) ⟨.rfl,trivial⟩))
       ·intro b42 h1
        exact AU (M4 () (Sh.AE h1).symm _ (AG U))
      refine AN U (zm tb 2 U ?_)
      rcases Sh.An h2 with ⟨b44,h2⟩ | ⟨b44,h2⟩
      ·refine zg tb b44 U ?_
       iterate 3 refine zg tb b44 rfl ?_
       exact bs h2 fun q45 gq45 h2=>zd b44 XI (Jz hrec_spec_typeOf gq45) rfl U U U (zt b44 U (AB (M41 q45 (Sh.AE h2).symm _ (Ax _ U))))
      ·refine zs b44 U ?_
       iterate 4 refine zs b44 rfl ?_
       exact zf b44 U (AB (M41 false (Sh.AE h2).symm _ (Ax _ U)))
     ·intro b38 h1
      refine zr tb U U ?_
      refine ci h1 U ?_ ?_ <;> clear h1
      ·intro b47 h1
       refine AJ fun K48 hK48=>bs h1 fun o50 h2 h1=>?_
       have M50 :∀(t49:Bool),o50=t49→∀s,Wk 0 s ⟨215,Ab [(3,(.ptr 0 0 0 0)),(5,(.ptr 1 0 0 0)),(88,(.bool t49))],[(G3 p0.decls p0.funcs),(L0 p2.op p2.num p2.kids)]⟩→K48 s:=by
        intro t49 hq s hw
        subst o50
        try dsimp only at h1
        refine hK48 _ (AS hw ?_)
        refine ci h1 U ?_ ?_ <;> clear h1
        ·intro b51 h1
         refine sr U fun K52 hK52=>zm tb 4 U (bs h1 fun q53 gq53 h1=>zc Vi (Hz gq53) rfl U U (zq tb U (dn hK52 U ?_)))
         replace h1:=Sh.AE h1
         subst o4
         try dsimp only[id] at h0
         replace h0:=Sh.AE h0
         subst r
         exact AZ (xr (Ax [(6,(i64 q53))] U))
        ·intro b51 h1
         exact AU (M4 () (Sh.AE h1).symm _ (Ax _ U))
       refine C2 17 (by kernel_rfl) (by kernel_rfl) (by rfl) ?_
       iterate 4 refine yq tb rfl ?_
       refine bs h2 fun q54 gq54 h2=>BX (v:=(i64 q54)) AK Vi (Hz gq54) rfl U U ?_
       iterate 2 refine yq tb rfl ?_
       rcases Sh.An h2 with ⟨b55,h2⟩ | ⟨b55,h2⟩
       ·refine yg tb b55 U ?_
        iterate 7 refine yg tb b55 rfl ?_
        exact bs h2 fun q56 gq56 h2=>BX (v:=(ls eI q56)) (B0 U U b55) QJ (Dx gq56) rfl U U (bs h2 fun q57 gq57 h2=>BX (v:=(.bool q57)) (B0 U U b55) VT (JB hrec_spec_typeOf gq57) rfl U U (AR (zt b55 U (AB (M50 q57 (Sh.AE h2).symm _ (AG U))))))
       ·refine ys b55 U ?_
        iterate 9 refine ys b55 rfl ?_
        exact AR (zf b55 U (AB (M50 false (Sh.AE h2).symm _ (AG U))))
      ·intro b47 h1
       refine zr tb U U ?_
       refine ci h1 U ?_ ?_ <;> clear h1
       ·intro b59 h1
        refine AJ fun K60 hK60=>bs h1 fun o62 h2 h1=>?_
        have M62 :∀(t61:Bool),o62=t61→∀s,Wk 0 s ⟨215,Ab [(1,(ls eI p1)),(3,(.ptr 0 0 0 0)),(5,(.ptr 1 0 0 0)),(102,(.bool t61))],[(G3 p0.decls p0.funcs),(L0 p2.op p2.num p2.kids)]⟩→K60 s:=by
         intro t61 hq s hw
         subst o62
         try dsimp only at h1
         refine hK60 _ (AS hw ?_)
         refine ci h1 U ?_ ?_ <;> clear h1
         ·intro b63 h1
          refine AJ fun K64 hK64=>?_
          refine CI (by kernel_rfl) (by kernel_rfl) (by rfl) ?_
          iterate 4 refine yq tb rfl ?_
          refine bs h1 fun c65 gc65 h1=>yz (.Al [(i64 c65.op),(i64 c65.num),(ls AA c65.kids)] 0) (CG BW U U gc65 (Ao _) rfl) rfl (yq tb U (bs h1 fun q66 gq66 h1=>BX (v:=(i64 q66)) AK Jm (hrec_spec_typeOf gq66) rfl U U (yq tb U (AR (hK64 _ (zr tb U U ?_))))))
          refine ci h1 U ?_ ?_ <;> clear h1
          ·intro b68 h1
           refine AJ fun K69 hK69=>?_
           refine C2 10 (by kernel_rfl) (by kernel_rfl) (by rfl) ?_
           iterate 3 refine yq tb rfl ?_
           refine Eu (l:=[q66]) (enc:=eI) AK BF (by decide) rfl U U U U (AD fun _=>U) ?_
           refine bs h1 fun q70 gq70 h1=>?_
           refine BX (v:=(ls eI q70)) AK NP (Aj.wk (Dq gq70) (by refine Wk.trans (Wk.BH (L:=[(0,(ls eI q70))]) (st':=[⟨1,3,1,[]⟩]) (id:=0) rfl (show 0≤0 by decide) (AD fun _=>U) ⟨(.BH U),trivial⟩ U) ?_;exact AT (L:=[(0,(ls eI q70))]) (st':=[]) [] U (by decide) rfl U .nil ⟨.rfl,trivial⟩)) rfl U U ?_
           iterate 2 refine yq tb rfl ?_
           refine bs h1 fun c71 gc71 h1=>yz (.Al [(i64 c71.op),(i64 c71.num),(ls AA c71.kids)] 0) (CG BW U U gc71 (Ao _) rfl) rfl (yq tb U (bs h1 fun q72 gq72 h1=>BX (v:=(i64 q72)) AK Jm (hrec_spec_typeOf gq72) rfl U U (AR (zq tb U (dn hK69 U ?_)))))
           replace h1:=Sh.AE h1
           subst o4
           try dsimp only[id] at h0
           replace h0:=Sh.AE h0
           subst r
           exact AZ (xr (Ax [(6,(i64 q72))] U))
          ·intro b68 h1
           exact AU (M4 () (Sh.AE h1).symm _ (Ax _ U))
         ·intro b63 h1
          exact AU (M4 () (Sh.AE h1).symm _ (Ax _ U))
        refine AN U (zm tb 2 U ?_)
        rcases Sh.An h2 with ⟨b73,h2⟩ | ⟨b73,h2⟩
        ·exact zg tb b73 U (zg tb b73 U (B3 (v:=(i64 (Sh.len p2.kids))) (B0 U U b73) rfl (B9 RW U) (zg tb b73 U (zt b73 U (AB (M62 (decide ((Sh.len p2.kids)=2)) (Sh.AE h2).symm _ (AG U)))))))
        ·refine zs b73 U ?_
         iterate 3 refine zs b73 rfl ?_
         exact zf b73 U (AB (M62 false (Sh.AE h2).symm _ (AG U)))
       ·intro b59 h1
        refine zr tb U U ?_
        refine ci h1 U ?_ ?_ <;> clear h1
        ·intro b75 h1
         refine AJ fun K76 hK76=>bs h1 fun o78 h2 h1=>?_
         have M78 :∀(t77:Bool),o78=t77→∀s,Wk 0 s ⟨215,Ab [(1,(ls eI p1)),(3,(.ptr 0 0 0 0)),(5,(.ptr 1 0 0 0)),(140,(.bool t77))],[(G3 p0.decls p0.funcs),(L0 p2.op p2.num p2.kids)]⟩→K76 s:=by
          intro t77 hq s hw
          subst o78
          try dsimp only at h1
          refine hK76 _ (AS hw ?_)
          refine ci h1 U ?_ ?_ <;> clear h1
          ·intro b79 h1
           refine AJ fun K80 hK80=>?_
           refine CI (by kernel_rfl) (by kernel_rfl) (by rfl) ?_
           iterate 4 refine yq tb rfl ?_
           refine bs h1 fun c81 gc81 h1=>yz (.Al [(i64 c81.op),(i64 c81.num),(ls AA c81.kids)] 0) (CG BW U U gc81 (Ao _) rfl) rfl (yq tb U (bs h1 fun q82 gq82 h1=>BX (v:=(i64 q82)) AK Jm (hrec_spec_typeOf gq82) rfl U U (yq tb U (AR (hK80 _ (AJ fun K83 hK83=>?_))))))
           refine CI (by kernel_rfl) (by kernel_rfl) (by rfl) ?_
           iterate 4 refine yq tb rfl ?_
           refine bs h1 fun c84 gc84 h1=>yz (.Al [(i64 c84.op),(i64 c84.num),(ls AA c84.kids)] 0) (CG BW U U gc84 (Ao _) rfl) rfl (yq tb U (bs h1 fun q85 gq85 h1=>BX (v:=(i64 q85)) AK Jm (hrec_spec_typeOf gq85) rfl U U ?_))
           iterate 2 refine yq tb rfl ?_
           refine AR (hK83 _ ?_)
           refine ci h1 U ?_ ?_ <;> clear h1
           ·intro b86 h1
            refine zr tb U U ?_
            replace h1:=Sh.AE h1
            subst o4
            try dsimp only[id] at h0
            replace h0:=Sh.AE h0
            subst r
            exact AZ (xr (Ax [(6,(i64 q82))] U))
           ·intro b86 h1
            exact AU (M4 () (Sh.AE h1).symm _ (Ax _ U))
          ·intro b79 h1
           exact AU (M4 () (Sh.AE h1).symm _ (Ax _ U))
         refine CI (by kernel_rfl) (by kernel_rfl) (by rfl) ?_
         iterate 2 refine yq tb rfl ?_
         rcases Sh.An h2 with ⟨b88,h2⟩ | ⟨b88,h2⟩
         ·refine yg tb b88 U (yg tb b88 U (A9 (v:=(i64 (Sh.len p2.kids))) (B0 U U b88) rfl (B9 RW U) (yg tb b88 U (yt b88 U (yq tb U ?_)))))
          rcases Sh.An h2 with ⟨b89,h2⟩ | ⟨b89,h2⟩
          ·refine yg tb b89 U ?_
           iterate 3 refine yg tb b89 rfl ?_
           exact bs h2 fun c90 gc90 h2=>A9 (v:=(.Al [(i64 c90.op),(i64 c90.num),(ls AA c90.kids)] 0)) (B0 U U b89) rfl (CG BW U U gc90 (Ao _) rfl) (yg tb b89 U (bs h2 fun q91 gq91 h2=>BX (v:=(i64 q91)) (B0 U U b89) Jm (hrec_spec_typeOf gq91) rfl U U (yg tb b89 U (yt b89 U (AR (M78 (decide (q91=0)) (Sh.AE h2).symm _ (AG U)))))))
          ·refine ys b89 U ?_
           iterate 7 refine ys b89 rfl ?_
           exact yf b89 U (AR (M78 false (Sh.AE h2).symm _ (AG U)))
         ·refine ys b88 U ?_
          iterate 3 refine ys b88 rfl ?_
          refine yf b88 U (yq tb U ?_)
          iterate 8 refine ys rfl rfl ?_
          exact yf U U (AR (M78 false (Sh.AE h2).symm _ (AG U)))
        ·intro b75 h1
         refine zr tb U U ?_
         refine ci h1 U ?_ ?_ <;> clear h1
         ·intro b93 h1
          refine sr U fun K94 hK94=>zm tb 3 U (bs h1 fun q95 gq95 h1=>zc ZF (Ml hrec_spec_typeOf gq95) rfl U U (zq tb U (dn hK94 U ?_)))
          replace h1:=Sh.AE h1
          subst o4
          try dsimp only[id] at h0
          replace h0:=Sh.AE h0
          subst r
          exact AZ (xr (Ax [(6,(i64 q95))] U))
         ·intro b93 h1
          refine AJ fun K96 hK96=>bs h1 fun o98 h2 h1=>?_
          have M98 :∀(t97:Bool),o98=t97→∀s,Wk 0 s ⟨215,Ab [(1,(ls eI p1)),(3,(.ptr 0 0 0 0)),(5,(.ptr 1 0 0 0)),(7,(.bool (decide (p2.num=0)))),(15,(i64 p2.op)),(164,(.bool t97))],[(G3 p0.decls p0.funcs),(L0 p2.op p2.num p2.kids)]⟩→K96 s:=by
           intro t97 hq s hw
           subst o98
           try dsimp only at h1
           refine hK96 _ (AS hw ?_)
           refine ci h1 U ?_ ?_ <;> clear h1
           ·intro b99 h1
            refine sr U fun K100 hK100=>zm tb 3 U (bs h1 fun q101 gq101 h1=>zc Yp (NQ hrec_spec_typeOf gq101) rfl U U (zq tb U (dn hK100 U ?_)))
            replace h1:=Sh.AE h1
            subst o4
            try dsimp only[id] at h0
            replace h0:=Sh.AE h0
            subst r
            exact AZ (xr (Ax [(6,(i64 q101))] U))
           ·intro b99 h1
            refine zr tb U U ?_
            refine ci h1 U ?_ ?_ <;> clear h1
            ·intro b103 h1
             refine AJ fun K104 hK104=>bs h1 fun o106 h2 h1=>?_
             have M106 :∀(t105:Bool),o106=t105→∀s,Wk 0 s ⟨215,Ab [(1,(ls eI p1)),(3,(.ptr 0 0 0 0)),(5,(.ptr 1 0 0 0)),(179,(.bool t105))],[(G3 p0.decls p0.funcs),(L0 p2.op p2.num p2.kids)]⟩→K104 s:=by
              intro t105 hq s hw
              subst o106
              try dsimp only at h1
              refine hK104 _ (AS hw ?_)
              refine ci h1 U ?_ ?_ <;> clear h1
              ·intro b107 h1
               refine AJ fun K108 hK108=>?_
               refine CI (by kernel_rfl) (by kernel_rfl) (by rfl) ?_
               iterate 4 refine yq tb rfl ?_
               refine bs h1 fun c109 gc109 h1=>yz (.Al [(i64 c109.op),(i64 c109.num),(ls AA c109.kids)] 0) (CG BW U U gc109 (Ao _) rfl) rfl (yq tb U (bs h1 fun q110 gq110 h1=>BX (v:=(i64 q110)) AK Jm (hrec_spec_typeOf gq110) rfl U U (yq tb U (AR (hK108 _ (AJ fun K111 hK111=>bs h1 fun o113 h2 h1=>?_))))))
               have M113 :∀(t112:Bool),o113=t112→∀s,Wk 0 s ⟨215,Ab [(3,(.ptr 0 0 0 0)),(10,(i64 q110)),(207,(.bool t112))],[(G3 p0.decls p0.funcs)]⟩→K111 s:=by
                intro t112 hq s hw
                subst o113
                try dsimp only at h1
                refine hK111 _ (AS hw ?_)
                refine ci h1 U ?_ ?_ <;> clear h1
                ·intro b114 h1
                 refine sr U fun K115 hK115=>zm tb 4 U (bs h1 fun c116 gc116 h1=>zx EH gc116 U U U (zm tb 3 U (dn hK115 U ?_)))
                 replace h1:=Sh.AE h1
                 subst o4
                 try dsimp only[id] at h0
                 replace h0:=Sh.AE h0
                 subst r
                 exact AZ (xr (Ax [(6,(i64 c116.to))] U))
                ·intro b114 h1
                 exact AU (M4 () (Sh.AE h1).symm _ (Ax _ U))
               refine CI (by kernel_rfl) (by kernel_rfl) (by rfl) ?_
               iterate 3 refine yq tb rfl ?_
               refine bs h2 fun q117 gq117 h2=>BX (v:=(.bool q117)) AK UB (Gy gq117) rfl U U (yq tb U ?_)
               rcases Sh.An h2 with ⟨b118,h2⟩ | ⟨b118,h2⟩
               ·refine yg tb b118 U ?_
                iterate 3 refine yg tb b118 rfl ?_
                refine bs h2 fun c119 gc119 h2=>A9 (v:=(.Al [(i64 c119.op),(i64 c119.num),(ls AA c119.kids)] 0)) (B0 U U b118) rfl (CG BW U U gc119 (Ao _) rfl) (yg tb b118 U (bs h2 fun q120 gq120 h2=>BX (v:=(i64 q120)) (B0 U U b118) Jm (hrec_spec_typeOf gq120) rfl U U ?_))
                iterate 4 refine yg tb b118 rfl ?_
                refine bs h2 fun c121 gc121 h2=>A9 (v:=(.Al (AI c121) 0)) (B0 U U b118) rfl (CV EH U U gc121 U) ?_
                iterate 3 refine yg tb b118 rfl ?_
                refine yt b118 U ?_
                exact AR (M113 (decide (q120=c121.from_)) (Sh.AE h2).symm _ (AT (L:=[(3,(.ptr 0 0 0 0)),(10,(i64 q110)),(207,(.bool (decide (q120=c121.from_))))]) (st':=[(G3 p0.decls p0.funcs)]) [0] U (by decide) rfl U (.raw U U .nil) ⟨.rfl,.rfl,.rfl,trivial⟩))
               ·refine ys b118 U ?_
                iterate 14 refine ys b118 rfl ?_
                refine yf b118 U ?_
                exact AR (M113 false (Sh.AE h2).symm _ (AT (L:=[(3,(.ptr 0 0 0 0)),(10,(i64 q110)),(207,(.bool false))]) (st':=[(G3 p0.decls p0.funcs)]) [0] U (by decide) rfl U (.raw U U .nil) ⟨.rfl,.rfl,.rfl,trivial⟩))
              ·intro b107 h1
               exact AU (M4 () (Sh.AE h1).symm _ (Ax _ U))
             refine AN U (zm tb 2 U ?_)
             rcases Sh.An h2 with ⟨b122,h2⟩ | ⟨b122,h2⟩
             ·exact zg tb b122 U (zg tb b122 U (B3 (v:=(i64 (Sh.len p2.kids))) (B0 U U b122) rfl (B9 RW U) (zg tb b122 U (zt b122 U (AB (M106 (decide ((Sh.len p2.kids)=2)) (Sh.AE h2).symm _ (AG U)))))))
             ·refine zs b122 U ?_
              iterate 3 refine zs b122 rfl ?_
              exact zf b122 U (AB (M106 false (Sh.AE h2).symm _ (AG U)))
            ·intro b103 h1
             exact AU (M4 () (Sh.AE h1).symm _ (Ax _ U))
          refine zr tb U U ?_
          refine ci h2 U ?_ ?_ <;> clear h2
          ·intro b124 h2
           exact AU (M98 true (Sh.AE h2).symm _ (Ah (L:=[(1,(ls eI p1)),(3,(.ptr 0 0 0 0)),(5,(.ptr 1 0 0 0)),(7,(.bool (decide (p2.num=0)))),(15,(i64 p2.op)),(164,(.bool true))]) ⟨.rfl,.rfl,.rfl,.rfl,.rfl,(.of (congrArg AV.bool b124)),trivial⟩))
          ·intro b124 h2
           exact AN U (zm tb 2 U (AB (M98 (decide (p2.op=10)) (Sh.AE h2).symm _ (AG U))))
   refine zr tb U U ?_
   refine ci h2 U ?_ ?_ <;> clear h2
   ·intro b126 h2
    exact AU (M28 true (Sh.AE h2).symm _ (Ah (L:=[(1,(ls eI p1)),(3,(.ptr 0 0 0 0)),(5,(.ptr 1 0 0 0)),(7,(.bool (decide (p2.num=0)))),(15,(i64 p2.op)),(46,(.bool true))]) ⟨.rfl,.rfl,.rfl,.rfl,.rfl,(.of (congrArg AV.bool b126)),trivial⟩))
   ·intro b126 h2
    refine zr tb U U ?_
    refine ci h2 U ?_ ?_ <;> clear h2
    ·intro b128 h2
     exact AU (M28 true (Sh.AE h2).symm _ (Ah (L:=[(1,(ls eI p1)),(3,(.ptr 0 0 0 0)),(5,(.ptr 1 0 0 0)),(7,(.bool (decide (p2.num=0)))),(15,(i64 p2.op)),(46,(.bool true))]) ⟨.rfl,.rfl,.rfl,.rfl,.rfl,(.of (congrArg AV.bool b128)),trivial⟩))
    ·intro b128 h2
     refine zr tb U U ?_
     refine ci h2 U ?_ ?_ <;> clear h2
     ·intro b130 h2
      exact AU (M28 true (Sh.AE h2).symm _ (Ah (L:=[(1,(ls eI p1)),(3,(.ptr 0 0 0 0)),(5,(.ptr 1 0 0 0)),(7,(.bool (decide (p2.num=0)))),(15,(i64 p2.op)),(46,(.bool true))]) ⟨.rfl,.rfl,.rfl,.rfl,.rfl,(.of (congrArg AV.bool b130)),trivial⟩))
     ·intro b130 h2
      exact AN U (zm tb 2 U (AB (M28 (decide (p2.op=4)) (Sh.AE h2).symm _ (AG U))))

theorem NO {N:Nat} :∀(n:Nat),∀{p0:Ai} {p1:(List Int)} {p2:AP} {r:Int},Cg N n p0 p1 p2=some r→Aj Try.prog 44 [(.agg [(ls AI p0.decls),(ls AH p0.funcs)]),(ls eI p1),(.agg [(i64 p2.op),(i64 p2.num),(ls AA p2.kids)])] [] (fun v st=>v=(i64 r)∧st=[]):=by
 intro n
 induction n with
 | zero=>intro p0 p1 p2 r h0;cases h0
 | succ n ih=>
  intro p0 p1 p2 r h0
  rw[Cg] at h0
  exact Mz (fun h=>ih h) h0
theorem O1 {N:Nat} :∀{p0:Ai} {p1:(List Int)} {p2:AP} {r:Int},Ic N p0 p1 p2=some r→Aj Try.prog 44 [(.agg [(ls AI p0.decls),(ls AH p0.funcs)]),(ls eI p1),(.agg [(i64 p2.op),(i64 p2.num),(ls AA p2.kids)])] [] (fun v st=>v=(i64 r)∧st=[]):=by
 intro p0 p1 p2 r h0
 exact NO N h0
theorem Kn {N:Nat} {p0:Ai} {r:Bool} (h0:DP N p0=some r):Aj Try.prog 22 [(.agg [(ls AI p0.decls),(ls AH p0.funcs)])] [] (fun v st=>v=(.bool r)∧st=[]):=by
 unfold DP at h0
 refine ai Try.func22 U U U U (sr U fun K1 hK1=>Bj (m:=0) AK U U U U U (zq tb U (dn hK1 U (AJ fun K2 hK2=>sr U fun K3 hK3=>zq tb U (bs h0 fun q4 gq4 h0=>zc Yo (MN gq4) rfl U U (zq tb U (dn hK3 U ?_)))))))
 refine ci h0 U ?_ ?_ <;> clear h0
 ·intro b5 h0
  have b6:q4=false:=by simpa using b5
  refine zr tb U U ?_
  replace h0:=Sh.AE h0
  subst r
  exact AZ (xr (Ax [(2,(.bool false))] U))
 ·intro b5 h0
  have b8:q4=true:=by simpa using b5
  refine AU (hK2 _ (AJ fun K9 hK9=>zr tb U U ?_))
  obtain⟨o12,h1,h0⟩:=Sh.Bh h0
  have M12 :∀(_:Unit),o12=Sum.inr ()→∀s,Wk 0 s ⟨45,Ab [],[]⟩→K9 s:=by
   intro _ hq s hw
   subst o12
   try dsimp only at h0
   refine hK9 _ (AS hw (zr tb U U ?_))
   replace h0:=Sh.AE h0
   subst r
   exact AZ (xr (Ah (L:=[(2,(.bool true))]) ⟨.rfl,trivial⟩))
  refine Ae (A5 (σ:=Int) (fun n v=>Bx N p0 n v=some o12) (fun i11=>⟨45,Ab [(1,(.ptr 0 0 0 0)),(3,(i64 i11))],[(G3 p0.decls p0.funcs)]⟩) N 0 h1 (AG U) (fun _ hv=>by rw[Bx] at hv;cases hv) ?_)
  rintro n i11 h1
  try dsimp only at h1 ⊢
  rw[Bx] at h1
  refine AJ fun K14 hK14=>sr U fun K15 hK15=>zm tb 3 U (zl tb U U (zq tb U (dn hK15 U ?_)))
  refine ci h1 U ?_ ?_ <;> clear h1
  ·intro b16 h1
   refine AU (hK14 _ (AJ fun K17 hK17=>Ae (AJ fun K18 hK18=>bs h1 fun o20 h2 h1=>?_)))
   have M20 :∀(t19:Bool),o20=t19→∀s,Wk 0 s ⟨45,Ab [(1,(.ptr 0 0 0 0)),(3,(i64 i11)),(44,(.bool t19))],[(G3 p0.decls p0.funcs)]⟩→K18 s:=by
    intro t19 hq s hw
    subst o20
    try dsimp only at h1
    refine hK18 _ (AS hw ?_)
    refine ci h1 U ?_ ?_ <;> clear h1
    ·intro b21 h1
     refine zr tb U U ?_
     replace h1:=Sh.AE h1
     subst o12
     try dsimp only[id] at h0
     replace h0:=Sh.AE h0
     subst r
     exact AZ (xr (Ax [(2,(.bool false))] U))
    ·intro b21 h1
     exact AU (hK17 _ (AN U (zm tb 3 U (AB (xi (Sh.w (i11+1)) h1 (AG U))))))
   refine CI (by kernel_rfl) (by kernel_rfl) (by rfl) ?_
   iterate 3 refine yq tb rfl ?_
   refine bs h2 fun c23 gc23 h2=>yx C3 gc23 U U U ?_
   iterate 2 refine yq tb rfl ?_
   refine bs h2 fun q24 gq24 h2=>BX (v:=(i64 q24)) AK VW (H5 gq24) rfl U U ?_
   iterate 2 refine yq tb rfl ?_
   rcases Sh.An h2 with ⟨b25,h2⟩ | ⟨b25,h2⟩
   ·refine ys b25 U ?_
    iterate 20 refine ys b25 rfl ?_
    exact yt b25 U (AR (M20 true (Sh.AE h2).symm _ (AG U)))
   ·refine yg tb b25 U ?_
    iterate 3 refine yg tb b25 rfl ?_
    refine A9 (v:=(.Al (AH c23) 0)) (B0 U U b25) rfl (CV C3 U U gc23 U) ?_
    iterate 5 refine yg tb b25 rfl ?_
    refine A9 (v:=(.Al (AH c23) 0)) (B0 U U b25) rfl (CV C3 U U gc23 U) ?_
    iterate 2 refine yg tb b25 rfl ?_
    refine bs h2 fun q26 gq26 h2=>BX (v:=(i64 q26)) (B0 U U b25) Jm (O1 gq26) rfl U U ?_
    iterate 3 refine yg tb b25 rfl ?_
    refine A9 (v:=(.Al (AH c23) 0)) (B0 U U b25) rfl (CV C3 U U gc23 U) ?_
    iterate 3 refine yg tb b25 rfl ?_
    exact yf b25 U (AR (M20 (!decide (q26=c23.result)) (Sh.AE h2).symm _ (AG U)))
  ·intro b16 h1
   exact BE (M12 () (Sh.AE h1).symm _ (Ax _ U))
theorem ML {N:Nat} {rec_spec_callsIn:AP→Int→Option (Int)} (hrec_spec_callsIn :∀{p0:AP} {p1:Int} {r:Int},rec_spec_callsIn p0 p1=some r→Aj Try.prog 24 [(.agg [(i64 p0.op),(i64 p0.num),(ls AA p0.kids)]),(i64 p1)] [] (fun v st=>v=(i64 r)∧st=[])) {p0:AP} {p1:Int} {r:Int} (h0:HI N rec_spec_callsIn p0 p1=some r):Aj Try.prog 24 [(.agg [(i64 p0.op),(i64 p0.num),(ls AA p0.kids)]),(i64 p1)] [] (fun v st=>v=(i64 r)∧st=[]):=by
 unfold HI at h0
 refine ai Try.func24 U U U U (sr U fun K1 hK1=>Bj (m:=0) AK U U U U U (zq tb U (dn hK1 U (zr tb U U (AJ fun K3 hK3=>bs h0 fun o5 h1 h0=>?_)))))
 have M5 :∀(n4:Int),o5=n4→∀s,Wk 0 s ⟨33,Ab [(1,(i64 p1)),(2,(.ptr 0 0 0 0)),(5,(i64 n4))],[(L0 p0.op p0.num p0.kids)]⟩→K3 s:=by
  intro n4 hq s hw
  subst o5
  try dsimp only at h0
  refine hK3 _ (AS hw (AJ fun K6 hK6=>zr tb U U (bs h0 fun o11 h1 h0=>?_)))
  have M11 :∀(n10:Int),o11=n10→∀s,Wk 0 s ⟨33,Ab [(5,(i64 n10))],[]⟩→K6 s:=by
   intro n10 hq s hw
   subst o11
   try dsimp only at h0
   refine hK6 _ (AS hw (zr tb U U ?_))
   replace h0:=Sh.AE h0
   subst r
   exact AZ (xr (Ah (L:=[(4,(i64 n10))]) ⟨.rfl,trivial⟩))
  refine Ae (A5 (σ:=Int×Int) (fun n v=>C0 p0 p1 rec_spec_callsIn n v.1 v.2=some o11) (fun (n8,k9)=>⟨33,Ab [(1,(i64 p1)),(2,(.ptr 0 0 0 0)),(5,(i64 n8)),(6,(i64 k9))],[(L0 p0.op p0.num p0.kids)]⟩) N (n4,0) h1 (AG U) (fun _ hv=>by rw[C0] at hv;cases hv) ?_)
  rintro n ⟨n8,k9⟩ h1
  try dsimp only at h1 ⊢
  rw[C0] at h1
  refine AJ fun K13 hK13=>sr U fun K14 hK14=>zm tb 3 U (zl tb U U (zq tb U (dn hK14 U ?_)))
  refine ci h1 U ?_ ?_ <;> clear h1
  ·intro b15 h1
   refine AU (hK13 _ (AJ fun K16 hK16=>Ae (AN U (zm tb 4 U (bs h1 fun c17 gc17 h1=>zz (.Al [(i64 c17.op),(i64 c17.num),(ls AA c17.kids)] 0) (CG BW U U gc17 (Ao _) rfl) rfl (zm tb 2 U (bs h1 fun q18 gq18 h1=>zc XE (hrec_spec_callsIn gq18) rfl U U (zm tb 2 U (dn hK16 U ?_)))))))))
   exact AN U (zm tb 3 U (AB (xi (Sh.w (n8+q18),Sh.w (k9+1)) h1 (AG U))))
  ·intro b15 h1
   exact BE (M11 n8 (Sh.AE h1).symm _ (Ax _ U))
 refine AJ fun K19 hK19=>bs h1 fun o21 h2 h1=>?_
 have M21 :∀(t20:Bool),o21=t20→∀s,Wk 0 s ⟨33,Ab [(1,(i64 p1)),(2,(.ptr 0 0 0 0)),(5,(i64 0)),(15,(.bool t20))],[(L0 p0.op p0.num p0.kids)]⟩→K19 s:=by
  intro t20 hq s hw
  subst o21
  try dsimp only at h1
  refine hK19 _ (AS hw ?_)
  refine ci h1 U ?_ ?_ <;> clear h1
  ·intro b22 h1
   exact AN U (zq tb U (AB (M5 1 (Sh.AE h1).symm _ (AG U))))
  ·intro b22 h1
   exact AU (M5 0 (Sh.AE h1).symm _ (AG U))
 refine AN U (zm tb 4 U ?_)
 rcases Sh.An h2 with ⟨b23,h2⟩ | ⟨b23,h2⟩
 ·refine zg tb b23 U ?_
  iterate 3 refine zg tb b23 rfl ?_
  exact zt b23 U (AB (M21 (decide (p0.num=p1)) (Sh.AE h2).symm _ (AG U)))
 ·refine zs b23 U ?_
  iterate 3 refine zs b23 rfl ?_
  exact zf b23 U (AB (M21 false (Sh.AE h2).symm _ (AG U)))

theorem Mh {N:Nat} :∀(n:Nat),∀{p0:AP} {p1:Int} {r:Int},EM N n p0 p1=some r→Aj Try.prog 24 [(.agg [(i64 p0.op),(i64 p0.num),(ls AA p0.kids)]),(i64 p1)] [] (fun v st=>v=(i64 r)∧st=[]):=by
 intro n
 induction n with
 | zero=>intro p0 p1 r h0;cases h0
 | succ n ih=>
  intro p0 p1 r h0
  rw[EM] at h0
  exact ML (fun h=>ih h) h0
theorem N1 {N:Nat} :∀{p0:AP} {p1:Int} {r:Int},Jd N p0 p1=some r→Aj Try.prog 24 [(.agg [(i64 p0.op),(i64 p0.num),(ls AA p0.kids)]),(i64 p1)] [] (fun v st=>v=(i64 r)∧st=[]):=by
 intro p0 p1 r h0
 exact Mh N h0
theorem I2 {N:Nat} {p0:Ai} {p1:Int} {r:Int} (h0:E8 N p0 p1=some r):Aj Try.prog 8 [(.agg [(ls AI p0.decls),(ls AH p0.funcs)]),(i64 p1)] [] (fun v st=>v=(i64 r)∧st=[]):=by
 unfold E8 at h0
 refine ai Try.func8 U U U U (sr U fun K1 hK1=>Bj (m:=0) AK U U U U U (zq tb U (dn hK1 U (AJ fun K2 hK2=>AJ fun K3 hK3=>bs h0 fun o5 h1 h0=>?_))))
 have M5 :∀(t4:Bool),o5=t4→∀s,Wk 0 s ⟨37,Ab [(1,(i64 p1)),(2,(.ptr 0 0 0 0)),(18,(.bool t4))],[(G3 p0.decls p0.funcs)]⟩→K3 s:=by
  intro t4 hq s hw
  subst o5
  try dsimp only at h0
  refine hK3 _ (AS hw ?_)
  refine ci h0 U ?_ ?_ <;> clear h0
  ·intro b6 h0
   refine zr tb U U ?_
   replace h0:=Sh.AE h0
   subst r
   exact AZ (xr (Ax [(4,(i64 (-1)))] U))
  ·intro b6 h0
   refine AU (hK2 _ (zr tb U U (AJ fun K9 hK9=>zr tb U U (bs h0 fun o14 h1 h0=>?_))))
   have M14 :∀(n13:Int),o14=n13→∀s,Wk 0 s ⟨37,Ab [(5,(i64 n13))],[]⟩→K9 s:=by
    intro n13 hq s hw
    subst o14
    try dsimp only at h0
    refine hK9 _ (AS hw (zr tb U U ?_))
    replace h0:=Sh.AE h0
    subst r
    exact AZ (xr (Ah (L:=[(4,(i64 n13))]) ⟨.rfl,trivial⟩))
   refine Ae (A5 (σ:=Int×Int) (fun n v=>Cv N p0 p1 n v.1 v.2=some o14) (fun (n11,i12)=>⟨37,Ab [(1,(i64 p1)),(2,(.ptr 0 0 0 0)),(5,(i64 n11)),(6,(i64 i12))],[(G3 p0.decls p0.funcs)]⟩) N (0,0) h1 (AG U) (fun _ hv=>by rw[Cv] at hv;cases hv) ?_)
   rintro n ⟨n11,i12⟩ h1
   try dsimp only at h1 ⊢
   rw[Cv] at h1
   refine AJ fun K16 hK16=>sr U fun K17 hK17=>zm tb 3 U (zl tb U U (zq tb U (dn hK17 U ?_)))
   refine ci h1 U ?_ ?_ <;> clear h1
   ·intro b18 h1
    refine AU (hK16 _ (AJ fun K19 hK19=>Ae (AN U (zm tb 4 U (bs h1 fun c20 gc20 h1=>zx C3 gc20 U U U (zm tb 3 U (bs h1 fun q21 gq21 h1=>zc XE (N1 gq21) rfl U U (zm tb 2 U (dn hK19 U ?_)))))))))
    exact AN U (zm tb 3 U (AB (xi (Sh.w (n11+q21),Sh.w (i12+1)) h1 (AG U))))
   ·intro b18 h1
    exact BE (M14 n11 (Sh.AE h1).symm _ (Ax _ U))
 refine AN U (zq tb U (bs h1 fun q22 gq22 h1=>zc YW (Kn gq22) rfl U U (zm tb 2 U ?_)))
 rcases Sh.An h1 with ⟨b23,h1⟩ | ⟨b23,h1⟩
 ·refine zs b23 U ?_
  iterate 6 refine zs b23 rfl ?_
  exact zt b23 U (AB (M5 true (Sh.AE h1).symm _ (AG U)))
 ·exact zg tb b23 U (zg tb b23 U (zg tb b23 U (B3 (v:=(i64 (Sh.len p0.funcs))) (B0 U U b23) rfl (B9 Oi U) (zg tb b23 U (bs h1 fun q24 gq24 h1=>zd b23 Kk (CN gq24) rfl U U U (zg tb b23 U (zf b23 U (AB (M5 (!q24) (Sh.AE h1).symm _ (AG U))))))))))
theorem Ld {s1:(List Bool)} {p0:AP} {r:(List Bool)} (h0:GR s1 p0=some r):Aj Try.prog 53 [(.agg [(i64 p0.op),(i64 p0.num),(ls AA p0.kids)]),(.ptr 0 0 0 0)] [⟨0,60,1,[[(ow 1 0 s1)]]⟩,(ro 0 4 1 eB s1)] (fun v st=>v=(.CA [])∧st=[⟨0,60,1,[[(ow 1 0 r)]]⟩,(ro 0 4 1 eB r)]):=by
 unfold GR at h0
 refine ai Try.func53 U U U U (sr U fun K1 hK1=>Bj (m:=2) AK U U U U U (dn hK1 U (AJ fun K2 hK2=>bs h0 fun o4 h1 h0=>?_)))
 have M4 :∀(t3:Bool),o4=t3→∀s,Wk 2 s ⟨15,Ab [(1,(.ptr 0 0 0 0)),(2,(.ptr 2 0 0 0)),(10,(.bool t3))],[⟨0,60,1,[[(ow 1 0 s1)]]⟩,(ro 0 4 1 eB s1),(L0 p0.op p0.num p0.kids)]⟩→K2 s:=by
  intro t3 hq s hw
  subst o4
  try dsimp only at h0
  refine hK2 _ (AS hw ?_)
  refine ci h0 U ?_ ?_ <;> clear h0
  ·intro b5 h0
   refine AN U (zm tb 3 U (bs h0 fun c6 gc6 h0=>zz (.ptr 1 0 (Int.toNat p0.num) 0) (Br VJ U U U U gc6) rfl (HM (u':=true) AK ZT U U gc6 U U U (show 0+1≤1 by decide) rfl U ?_)))
   replace h0:=Sh.AE h0
   subst r
   exact AB (Exists.intro _ (And.intro (((Iv (st:=[⟨0,60,1,[[(.own 1 0 (List.length s1))]]⟩,⟨0,4,1,List.map eB (Sh.put s1 p0.num true)⟩,⟨0,50,3,[[(i64 p0.op),(i64 p0.num),(.sl (List.map AA p0.kids))]]⟩]) (st':=[⟨0,60,1,[[(.own 1 0 (List.length (Sh.put s1 p0.num true)))]]⟩,⟨0,4,1,List.map eB (Sh.put s1 p0.num true)⟩,⟨0,50,3,[[(i64 p0.op),(i64 p0.num),(.sl (List.map AA p0.kids))]]⟩]) (by simp only[Sh.FX])).trans (AT (L:=[]) (st':=[⟨0,60,1,[[(.own 1 0 (List.length (Sh.put s1 p0.num true)))]]⟩,⟨0,4,1,List.map eB (Sh.put s1 p0.num true)⟩]) [0,1] U (by decide) rfl U (.raw U U (.pure (AD fun _=>U) .nil)) trivial)).trans (Ah (L:=[]) trivial)) (And.intro U U)))
  ·intro b5 h0
   replace h0:=Sh.AE h0
   subst r
   exact AU (xi _ ((AT (L:=[]) (st':=[⟨0,60,1,[[(ow 1 0 s1)]]⟩,(ro 0 4 1 eB s1)]) [0,1] U (by decide) rfl U (.raw U U (.pure (AD fun _=>U) .nil)) trivial).trans (Ah (L:=[]) trivial)) (And.intro U U))
 refine AN U (zm tb 4 U ?_)
 rcases Sh.An h1 with ⟨b7,h1⟩ | ⟨b7,h1⟩
 ·exact zs b7 U (zs b7 U (zs b7 U (zt b7 U (AB (M4 true (Sh.AE h1).symm _ (AG U))))))
 ·exact zg tb b7 U (zg tb b7 U (zg tb b7 U (zf b7 U (AB (M4 (decide (p0.op=10)) (Sh.AE h1).symm _ (AG U))))))
theorem My {N:Nat} {rec_impl_walk_3:(List Bool)→AP→Option ((List Bool))} (hrec_impl_walk_3 :∀{s1:(List Bool)} {p0:AP} {r:(List Bool)},rec_impl_walk_3 s1 p0=some r→Aj Try.prog 27 [(.agg [(i64 p0.op),(i64 p0.num),(ls AA p0.kids)]),(.fn 53 [(.ptr 0 0 0 0)])] [⟨0,60,1,[[(ow 1 0 s1)]]⟩,(ro 0 4 1 eB s1)] (fun v st=>v=(.CA [])∧st=[⟨0,60,1,[[(ow 1 0 r)]]⟩,(ro 0 4 1 eB r)])) {s1:(List Bool)} {p0:AP} {r:(List Bool)} (h0:Hn N rec_impl_walk_3 s1 p0=some r):Aj Try.prog 27 [(.agg [(i64 p0.op),(i64 p0.num),(ls AA p0.kids)]),(.fn 53 [(.ptr 0 0 0 0)])] [⟨0,60,1,[[(ow 1 0 s1)]]⟩,(ro 0 4 1 eB s1)] (fun v st=>v=(.CA [])∧st=[⟨0,60,1,[[(ow 1 0 r)]]⟩,(ro 0 4 1 eB r)]):=by
 unfold Hn at h0
 refine ai Try.func27 U U U U (sr U fun K1 hK1=>Bj (m:=2) AK U U U U U (dn hK1 U (sr U fun K2 hK2=>zm tb 2 U (bs h0 fun q3 gq3 h0=>?_))))
 refine QF (rowsP:=[⟨0,60,1,[[(ow 1 0 s1)]]⟩,(ro 0 4 1 eB s1)]) (rows0:=[⟨0,60,1,[[(ow 1 0 s1)]]⟩,(ro 0 4 1 eB s1)]) (rows1:=[⟨0,60,1,[[(ow 1 0 q3)]]⟩,(ro 0 4 1 eB q3)]) (rows2:=[]) (rows1':=[⟨0,60,1,[[(ow 1 0 q3)]]⟩,(ro 0 4 1 eB q3)]) (rows2':=[]) (st':=[⟨0,60,1,[[(ow 1 0 q3)]]⟩,(ro 0 4 1 eB q3),(L0 p0.op p0.num p0.kids)]) (v':=(.CA [])) [0,1] AK U Ym (Ld gq3) rfl (by decide) rfl U (.raw U U (.pure (AD fun _=>U) .nil)) rfl U (.raw U U (.pure (AD fun _=>U) .nil)) .nil U U ?_
 refine dn hK2 U (sr U fun K4 hK4=>zm tb 2 U (zl tb U U (zq tb U (dn hK4 U (OC fun K5 hK5=>bs h0 fun o9 h1 h0=>?_)))))
 have M9 :∀(l8:(List Bool)),o9=l8→∀s,Wk 2 s ⟨20,Ab [],[⟨0,60,1,[[(ow 1 0 l8)]]⟩,(ro 0 4 1 eB l8)]⟩→K5 s:=by
  intro l8 hq s hw
  subst o9
  try dsimp only at h0
  refine hK5 _ ?_
  replace h0:=Sh.AE h0
  subst r
  exact Exists.intro _ (And.intro (hw.trans (Ah (L:=[]) trivial)) (And.intro U U))
 refine Ae (A5 (σ:=Int×(List Bool)) (fun n v=>DH p0 rec_impl_walk_3 n v.1 v.2=some o9) (fun (t6,l7)=>⟨20,Ab [(1,(.fn 53 [(.ptr 0 0 0 0)])),(10,(ls AA p0.kids)),(11,(i64 (Sh.len p0.kids))),(12,(i64 t6))],[⟨0,60,1,[[(ow 1 0 l7)]]⟩,(ro 0 4 1 eB l7)]⟩) N (0,q3) h1 (AT (L:=[(1,(.fn 53 [(.ptr 0 0 0 0)])),(10,(ls AA p0.kids)),(11,(i64 (Sh.len p0.kids))),(12,(i64 0))]) (st':=[⟨0,60,1,[[(ow 1 0 q3)]]⟩,(ro 0 4 1 eB q3)]) [0,1] U (by decide) rfl U (.raw U U (.pure (AD fun _=>U) .nil)) ⟨.rfl,.rfl,.rfl,.rfl,trivial⟩) (fun _ hv=>by rw[DH] at hv;cases hv) ?_)
 rintro n ⟨t6,l7⟩ h1
 try dsimp only at h1 ⊢
 rw[DH] at h1
 refine zr tb U U (AJ fun K11 hK11=>?_)
 refine ci h1 U ?_ ?_ <;> clear h1
 ·intro b12 h1
  refine AU (hK11 _ (AJ fun K13 hK13=>Ae (sr U fun K14 hK14=>bs h1 fun c15 gc15 h1=>zz (.Al [(i64 c15.op),(i64 c15.num),(ls AA c15.kids)] 0) (CG BW U U gc15 (Ao _) rfl) rfl (zq tb U (A0 (m:=2) AK Dw U U (Az AK BP U U U U U U (show 0+3≤3 by decide) rfl (dn hK14 U (AN U (zm tb 2 U ?_)))))))))
  refine bs h1 fun q16 gq16 h1=>?_
  refine Mc (rowsP:=[⟨0,60,1,[[(.own 1 0 (List.length l7))]]⟩,⟨0,4,1,List.map eB l7⟩]) (rows0:=[⟨0,60,1,[[(.own 1 0 (List.length l7))]]⟩,⟨0,4,1,List.map eB l7⟩]) (rows1:=[⟨0,60,1,[[(.own 1 0 (List.length q16))]]⟩,⟨0,4,1,List.map eB q16⟩]) (rows2:=[]) (rows1':=[⟨0,60,1,[[(.own 1 0 (List.length q16))]]⟩,⟨0,4,1,List.map eB q16⟩]) (rows2':=[]) (st':=[⟨0,60,1,[[(.own 1 0 (List.length q16))]]⟩,⟨0,4,1,List.map eB q16⟩,⟨0,50,3,[[(i64 c15.op),(i64 c15.num),(.sl (List.map AA c15.kids))]]⟩]) (v':=(.CA [])) [0,1] AK UJ (hrec_impl_walk_3 gq16) rfl (by decide) rfl U (.raw U U (.pure (AD fun _=>U) .nil)) rfl U (.raw U U (.pure (AD fun _=>U) .nil)) .nil U U (fun hln=>?_)
  have ln17:List.length q16=List.length l7:=by simpa only[List.length_map] using hln 1 _ _ rfl rfl rfl
  refine dn hK13 U (AN U (zm tb 2 U ?_))
  exact AB (xi (Sh.w (t6+1),q16) h1 (AT (L:=[(1,(.fn 53 [(.ptr 0 0 0 0)])),(10,(ls AA p0.kids)),(11,(i64 (Sh.len p0.kids))),(12,(i64 (Sh.w (t6+1))))]) (st':=[⟨0,60,1,[[(ow 1 0 q16)]]⟩,(ro 0 4 1 eB q16)]) [0,1] U (by decide) rfl U (.raw U U (.pure (AD fun _=>U) .nil)) ⟨.rfl,.rfl,.rfl,.rfl,trivial⟩))
 ·intro b12 h1
  exact BE (M9 l7 (Sh.AE h1).symm _ (AG U))

theorem Nd {N:Nat} :∀(n:Nat),∀{s1:(List Bool)} {p0:AP} {r:(List Bool)},Ec N n s1 p0=some r→Aj Try.prog 27 [(.agg [(i64 p0.op),(i64 p0.num),(ls AA p0.kids)]),(.fn 53 [(.ptr 0 0 0 0)])] [⟨0,60,1,[[(ow 1 0 s1)]]⟩,(ro 0 4 1 eB s1)] (fun v st=>v=(.CA [])∧st=[⟨0,60,1,[[(ow 1 0 r)]]⟩,(ro 0 4 1 eB r)]):=by
 intro n
 induction n with
 | zero=>intro s1 p0 r h0;cases h0
 | succ n ih=>
  intro s1 p0 r h0
  rw[Ec] at h0
  exact My (fun h=>ih h) h0
theorem PC {N:Nat} :∀{s1:(List Bool)} {p0:AP} {r:(List Bool)},KT N s1 p0=some r→Aj Try.prog 27 [(.agg [(i64 p0.op),(i64 p0.num),(ls AA p0.kids)]),(.fn 53 [(.ptr 0 0 0 0)])] [⟨0,60,1,[[(ow 1 0 s1)]]⟩,(ro 0 4 1 eB s1)] (fun v st=>v=(.CA [])∧st=[⟨0,60,1,[[(ow 1 0 r)]]⟩,(ro 0 4 1 eB r)]):=by
 intro s1 p0 r h0
 exact Nd N h0
theorem MW {N:Nat} {p0:Ai} {p1:Int} {r:(List Bool)} (h0:Fq N p0 p1=some r):Aj Try.prog 34 [(.agg [(ls AI p0.decls),(ls AH p0.funcs)]),(i64 p1)] [] (fun v st=>v=(ow 0 0 r)∧st=[(ro 0 4 1 eB r)]):=by
 unfold Fq at h0
 refine ai Try.func34 U U U U (sr U fun K1 hK1=>Bj (m:=0) AK U U U U U (zq tb U (dn hK1 U (sr U fun K2 hK2=>zm tb 2 U (zl tb U U (bs h0 fun l3 gl3 h0=>Qd (m:=1) (enc:=eB) (u:=false) AK VJ U U U gl3 U U (A0 (m:=2) AK ZA U U (Az AK ZK U U U U U U (show 0+1≤1 by decide) rfl ?_))))))))
 refine dn hK2 U (sr U fun K4 hK4=>zm tb 3 U (bs h0 fun c5 gc5 h0=>zx C3 gc5 U U U (zm tb 2 U (zz (.fn 53 [(.ptr 2 0 0 0)]) (VP U) rfl (bs h0 fun q6 gq6 h0=>?_)))))
 refine Mc (rowsP:=[⟨0,60,1,[[(.own 1 0 (List.length l3))]]⟩,⟨0,4,1,List.map eB l3⟩]) (rows0:=[⟨0,60,1,[[(.own 1 0 (List.length l3))]]⟩,⟨0,4,1,List.map eB l3⟩]) (rows1:=[⟨0,60,1,[[(.own 1 0 (List.length q6))]]⟩,⟨0,4,1,List.map eB q6⟩]) (rows2:=[]) (rows1':=[⟨0,60,1,[[(.own 1 0 (List.length q6))]]⟩,⟨0,4,1,List.map eB q6⟩]) (rows2':=[]) (st':=[⟨0,31,2,[[(.sl (List.map AI p0.decls)),(.sl (List.map AH p0.funcs))]]⟩,⟨0,4,1,List.map eB q6⟩,⟨0,60,1,[[(.own 1 0 (List.length q6))]]⟩]) (v':=(.CA [])) [2,1] AK UJ (PC gq6) rfl (by decide) rfl U (.raw U U (.pure (AD fun _=>U) .nil)) rfl U (.raw U U (.pure (AD fun _=>U) .nil)) .nil U U (fun hln=>?_)
 have ln7:List.length q6=List.length l3:=by simpa only[List.length_map] using hln 1 _ _ rfl rfl rfl
 refine dn hK4 U (zr tb U U ?_)
 replace h0:=Sh.AE h0
 subst r
 exact AZ (xr (AT (L:=[(4,(ow 0 0 q6))]) (st':=[(ro 0 4 1 eB q6)]) [1] U (by decide) rfl U (.pure (AD fun _=>U) .nil) ⟨.rfl,trivial⟩))
theorem MP {N:Nat} {p0:(List Bool)} {r:(List Int)} (h0:E7 N p0=some r):Aj Try.prog 33 [(ls eB p0)] [] (fun v st=>v=(ow 0 0 r)∧st=[(ro 0 3 1 eI r)]):=by
 unfold E7 at h0
 refine ai Try.func33 U U U U ?_
 iterate 2 refine zr tb rfl rfl ?_
 refine AJ fun K3 hK3=>sr U fun K4 hK4=>zq tb U (zl tb U U (zq tb U (dn hK4 U (bs h0 fun o8 h1 h0=>?_))))
 have M8 :∀(l7:(List Int)),o8=l7→∀s,Wk 0 s ⟨20,Ab [(3,(ow 0 0 l7))],[(ro 0 3 1 eI l7)]⟩→K3 s:=by
  intro l7 hq s hw
  subst o8
  try dsimp only at h0
  refine hK3 _ (AS hw (zr tb U U ?_))
  replace h0:=Sh.AE h0
  subst r
  exact AZ (xr (Ah (L:=[(2,(ow 0 0 l7))]) ⟨.rfl,trivial⟩))
 refine Ae (A5 (σ:=Int×(List Int)) (fun n v=>Cu p0 n v.1 v.2=some o8) (fun (t5,l6)=>⟨20,Ab [(3,(ow 0 0 l6)),(6,(ls eB p0)),(7,(i64 (Sh.len p0))),(8,(i64 t5))],[(ro 0 3 1 eI l6)]⟩) N (0,[]) h1 ((HW (t:=3) rfl 3 (size:=1) (by decide)).trans (Ah (L:=[(3,(.own 0 0 (List.length ([]:List Int)))),(6,(ls eB p0)),(7,(i64 (Sh.len p0))),(8,(i64 0))]) ⟨.rfl,.rfl,.rfl,.rfl,trivial⟩)) (fun _ hv=>by rw[Cu] at hv;cases hv) ?_)
 rintro n ⟨t5,l6⟩ h1
 try dsimp only at h1 ⊢
 rw[Cu] at h1
 refine zr tb U U (AJ fun K11 hK11=>?_)
 refine ci h1 U ?_ ?_ <;> clear h1
 ·intro b12 h1
  refine AU (hK11 _ (AJ fun K13 hK13=>bs h1 fun o15 h2 h1=>?_))
  have M15 :∀(l14:(List Int)),o15=l14→∀s,Wk 0 s ⟨20,Ab [(3,(ow 0 0 l14)),(6,(ls eB p0)),(7,(i64 (Sh.len p0))),(8,(i64 t5))],[(ro 0 3 1 eI l14)]⟩→K13 s:=by
   intro l14 hq s hw
   subst o15
   try dsimp only at h1
   exact hK13 _ (AS hw (AN U (zm tb 2 U (AB (xi (Sh.w (t5+1),l14) h1 (AG U))))))
  refine Ae (sr U fun K16 hK16=>zq tb U (bs h2 fun c17 gc17 h2=>zx VJ gc17 U U U (zm tb 3 U (dn hK16 U (zr tb U U ?_)))))
  refine ci h2 U ?_ ?_ <;> clear h2
  ·intro b19 h2
   refine AN U (zm tb 2 U ?_)
   refine A8 (m:=1) (l:=[t5]) (enc:=eI) AK BF (by decide) rfl U U U U U ?_
   refine bs h2 fun l20 gl20 h2=>CL (l2:=[t5]) AK BF U U U U (EP U U) (fun _=>U) gl20 U (zq tb U ?_)
   exact AB (M15 l20 (Sh.AE h2).symm _ (by refine Wk.trans (FD (L:=[(3,(ow 0 0 l20)),(6,(ls eB p0)),(7,(i64 (Sh.len p0))),(8,(i64 t5))]) (st':=[(ro 0 3 1 eI l20),(ro 0 3 1 eI [t5])]) (.pure (AD fun _=>U) (.pure (AD fun _=>U) .nil)) ⟨.rfl,.rfl,.rfl,.rfl,trivial⟩) ?_;exact AT (L:=[(3,(ow 0 0 l20)),(6,(ls eB p0)),(7,(i64 (Sh.len p0))),(8,(i64 t5))]) (st':=[(ro 0 3 1 eI l20)]) [0] U (by decide) rfl U (.pure (AD fun _=>U) .nil) ⟨.rfl,.rfl,.rfl,.rfl,trivial⟩))
  ·intro b19 h2
   exact AU (M15 l6 (Sh.AE h2).symm _ (AG U))
 ·intro b12 h1
  exact BE (M8 l6 (Sh.AE h1).symm _ (AG U))
theorem Mq {N:Nat} {p0:Ai} {p1:Int} {r:(List Int)} (h0:Fs N p0 p1=some r):Aj Try.prog 16 [(.agg [(ls AI p0.decls),(ls AH p0.funcs)]),(i64 p1)] [] (fun v st=>v=(ow 0 0 r)∧st=[(ro 0 3 1 eI r)]):=by
 unfold Fs at h0
 refine ai Try.func16 U U U U (sr U fun K1 hK1=>Bj (m:=0) AK U U U U U (zq tb U (dn hK1 U (AJ fun K2 hK2=>AJ fun K3 hK3=>bs h0 fun o5 h1 h0=>?_))))
 have M5 :∀(t4:Bool),o5=t4→∀s,Wk 0 s ⟨23,Ab [(1,(i64 p1)),(2,(.ptr 0 0 0 0)),(18,(.bool t4))],[(G3 p0.decls p0.funcs)]⟩→K3 s:=by
  intro t4 hq s hw
  subst o5
  try dsimp only at h0
  refine hK3 _ (AS hw ?_)
  refine ci h0 U ?_ ?_ <;> clear h0
  ·intro b6 h0
   refine zr tb U U ?_
   replace h0:=Sh.AE h0
   subst r
   exact AZ (Exists.intro _ (And.intro ((((HW (t:=4) rfl 3 (size:=1) (by decide)).trans (Ah (L:=[(4,(.own 1 0 (List.length ([]:List Int))))]) ⟨.rfl,trivial⟩)).trans (AT (L:=[(4,(.own 0 0 (List.length ([]:List Int))))]) (st':=[(ro 0 3 1 eI ([]:List Int))]) [1] U (by decide) rfl U (.pure (AD fun _=>U) .nil) ⟨.rfl,trivial⟩)).trans (Ah (L:=[(4,(.own 0 0 (List.length ([]:List Int))))]) ⟨.rfl,trivial⟩)) (And.intro U U)))
  ·intro b6 h0
   refine AU (hK2 _ (sr U fun K8 hK8=>zm tb 2 U (bs h0 fun q9 gq9 h0=>CC (v':=(ow 1 0 q9)) AK Yv (MW gq9) rfl U ⟨(Bs fun _=>U),trivial⟩ U U (Af (Wk.BH (L:=[(21,(ls eB q9))]) (st':=[(G3 p0.decls p0.funcs),⟨1,4,1,[]⟩]) (id:=1) rfl (show 0≤1 by decide) (AD fun _=>U) ⟨(.BH U),trivial⟩ U) (bs h0 fun q10 gq10 h0=>CC (v':=(ow 2 0 q10)) AK YO (MP gq10) rfl U ⟨(Bs fun _=>U),trivial⟩ U U (zq tb U (dn hK8 U ?_)))))))
   replace h0:=Sh.AE h0
   subst r
   exact AZ (xr (AT (L:=[(4,(ow 0 0 q10))]) (st':=[(ro 0 3 1 eI q10)]) [2] U (by decide) rfl U (.pure (AD fun _=>U) .nil) ⟨.rfl,trivial⟩))
 refine AN U (zq tb U (bs h1 fun q11 gq11 h1=>zc XH (Hs gq11) rfl U U (zm tb 2 U ?_)))
 rcases Sh.An h1 with ⟨b12,h1⟩ | ⟨b12,h1⟩
 ·refine zs b12 U (zs b12 U (zt b12 U (zq tb U ?_)))
  iterate 5 refine zs rfl rfl ?_
  exact zt U U (AB (M5 true (Sh.AE h1).symm _ (AG U)))
 ·refine zg tb b12 U (zg tb b12 U (zf b12 U (zq tb U ?_)))
  rcases Sh.An h1 with ⟨b13,h1⟩ | ⟨b13,h1⟩
  ·refine zs b13 U ?_
   iterate 4 refine zs b13 rfl ?_
   exact zt b13 U (AB (M5 true (Sh.AE h1).symm _ (AG U)))
  ·exact zg tb b13 U (zg tb b13 U (zg tb b13 U (B3 (v:=(i64 (Sh.len p0.funcs))) (B0 U U b13) rfl (B9 Oi U) (zg tb b13 U (zf b13 U (AB (M5 (decide ((Sh.len p0.funcs)≤p1)) (Sh.AE h1).symm _ (AG U))))))))
theorem Qo {N:Nat} {p0:(List Int)} {p1:Int} {r:Bool} (h0:Is N p0 p1=some r):Aj Try.prog 15 [(ls eI p0),(i64 p1)] [] (fun v st=>v=(.bool r)∧st=[]):=by
 unfold Is at h0
 refine ai Try.func15 U U U U (zr tb U U (AJ fun K2 hK2=>zr tb U U ?_))
 obtain⟨o5,h1,h0⟩:=Sh.Bh h0
 have M5 :∀(_:Unit),o5=Sum.inr ()→∀s,Wk 0 s ⟨18,Ab [],[]⟩→K2 s:=by
  intro _ hq s hw
  subst o5
  try dsimp only at h0
  refine hK2 _ (AS hw (zr tb U U ?_))
  replace h0:=Sh.AE h0
  subst r
  exact AZ (xr (Ah (L:=[(4,(.bool false))]) ⟨.rfl,trivial⟩))
 refine Ae (A5 (σ:=Int) (fun n v=>EW p0 p1 n v=some o5) (fun i4=>⟨18,Ab [(0,(ls eI p0)),(1,(i64 p1)),(5,(i64 i4))],[]⟩) N 0 h1 (AG U) (fun _ hv=>by rw[EW] at hv;cases hv) ?_)
 rintro n i4 h1
 try dsimp only at h1 ⊢
 rw[EW] at h1
 refine AJ fun K7 hK7=>sr U fun K8 hK8=>zm tb 2 U (zl tb U U (zq tb U (dn hK8 U ?_)))
 refine ci h1 U ?_ ?_ <;> clear h1
 ·intro b9 h1
  refine AU (hK7 _ (AJ fun K10 hK10=>Ae (sr U fun K11 hK11=>zm tb 2 U (bs h1 fun c12 gc12 h1=>zx BF gc12 U U U (zm tb 3 U (dn hK11 U ?_))))))
  refine ci h1 U ?_ ?_ <;> clear h1
  ·intro b13 h1
   refine zr tb U U ?_
   replace h1:=Sh.AE h1
   subst o5
   try dsimp only[id] at h0
   replace h0:=Sh.AE h0
   subst r
   exact AZ (xr (Ah (L:=[(4,(.bool true))]) ⟨.rfl,trivial⟩))
  ·intro b13 h1
   exact AU (hK10 _ (AN U (zm tb 3 U (AB (xi (Sh.w (i4+1)) h1 (AG U))))))
 ·intro b9 h1
  exact BE (M5 () (Sh.AE h1).symm _ (AG U))
theorem LD {N:Nat} {p0:(List Int)} {r:Bool} (h0:GK N p0=some r):Aj Try.prog 5 [(ls Cr p0)] [] (fun v st=>v=(.bool r)∧st=[]):=by
 unfold GK at h0
 refine ai Try.func5 U U U U (zr tb U U (AJ fun K2 hK2=>sr U fun K3 hK3=>zq tb U (zl tb U U (zq tb U (dn hK3 U ?_)))))
 refine ci h0 U ?_ ?_ <;> clear h0
 ·intro b4 h0
  refine zr tb U U ?_
  replace h0:=Sh.AE h0
  subst r
  exact AZ (xr (Ah (L:=[(2,(.bool true))]) ⟨.rfl,trivial⟩))
 ·intro b4 h0
  refine AU (hK2 _ (sr U fun K6 hK6=>zq tb U (bs h0 fun q7 gq7 h0=>zc (v':=(.CA [(.agg [(ls AI q7.1.decls),(ls AH q7.1.funcs)]),(i64 q7.2)])) Yu (KL gq7) rfl U U (zm tb 3 U (A0 (m:=0) AK NS U U (Az AK Ee U U U U U U (show 0+2≤2 by decide) rfl (zq tb U (dn hK6 U (sr U fun K8 hK8=>zm tb 2 U ?_)))))))))
  refine bs h0 fun q9 gq9 h0=>zc Yc (Mp gq9) rfl U U (zq tb U (dn hK8 U (AJ fun K10 hK10=>AJ fun K11 hK11=>bs h0 fun o13 h1 h0=>?_)))
  have M13 :∀(t12:Bool),o13=t12→∀s,Wk 0 s ⟨44,Ab [(3,(.ptr 0 0 0 0)),(4,(i64 q7.2)),(5,(i64 q9)),(26,(.bool t12))],[(G3 q7.1.decls q7.1.funcs)]⟩→K11 s:=by
   intro t12 hq s hw
   subst o13
   try dsimp only at h0
   refine hK11 _ (AS hw ?_)
   refine ci h0 U ?_ ?_ <;> clear h0
   ·intro b14 h0
    refine sr U fun K15 hK15=>zm tb 3 U (bs h0 fun q16 gq16 h0=>zc Ye (I2 gq16) rfl U U (zm tb 2 U (dn hK15 U ?_)))
    replace h0:=Sh.AE h0
    subst r
    exact AZ (xr (Ax [(2,(.bool (decide (q9=q16))))] U))
   ·intro b14 h0
    refine AU (hK10 _ (AJ fun K17 hK17=>zr tb U U ?_))
    obtain⟨o20,h1,h0⟩:=Sh.Bh h0
    have M20 :∀(_:Unit),o20=Sum.inr ()→∀s,Wk 0 s ⟨44,Ab [],[]⟩→K17 s:=by
     intro _ hq s hw
     subst o20
     try dsimp only at h0
     refine hK17 _ (AS hw (zr tb U U ?_))
     replace h0:=Sh.AE h0
     subst r
     exact AZ (xr (Ah (L:=[(2,(.bool false))]) ⟨.rfl,trivial⟩))
    refine Ae (A5 (σ:=Int) (fun n v=>Cn N q7 n v=some o20) (fun g19=>⟨44,Ab [(3,(.ptr 0 0 0 0)),(4,(i64 q7.2)),(6,(i64 g19))],[(G3 q7.1.decls q7.1.funcs)]⟩) N 0 h1 (AG U) (fun _ hv=>by rw[Cn] at hv;cases hv) ?_)
    rintro n g19 h1
    try dsimp only at h1 ⊢
    rw[Cn] at h1
    refine AJ fun K22 hK22=>sr U fun K23 hK23=>zm tb 3 U (zl tb U U (zq tb U (dn hK23 U ?_)))
    refine ci h1 U ?_ ?_ <;> clear h1
    ·intro b24 h1
     refine AU (hK22 _ (AJ fun K25 hK25=>Ae (sr U fun K26 hK26=>zm tb 2 U (bs h1 fun q27 gq27 h1=>CC (v':=(ow 1 0 q27)) AK YL (Mq gq27) rfl U ⟨(Bs fun _=>U),trivial⟩ U U (zq tb U (Af (Wk.BH (L:=[(3,(.ptr 0 0 0 0)),(4,(i64 q7.2)),(6,(i64 g19)),(41,(ls eI q27)),(42,(i64 q7.2))]) (st':=[(G3 q7.1.decls q7.1.funcs),⟨1,3,1,[]⟩]) (id:=1) rfl (show 0≤1 by decide) (AD fun _=>U) ⟨.rfl,.rfl,.rfl,(.BH U),.rfl,trivial⟩ U) (bs h1 fun q28 gq28 h1=>zc Yw (Qo gq28) rfl U U (dn hK26 U ?_))))))))
     refine ci h1 U ?_ ?_ <;> clear h1
     ·intro b29 h1
      refine zr tb U U ?_
      replace h1:=Sh.AE h1
      subst o20
      try dsimp only[id] at h0
      replace h0:=Sh.AE h0
      subst r
      exact AZ (xr (Ax [(2,(.bool true))] U))
     ·intro b29 h1
      refine AU (hK25 _ (AN U (zm tb 3 U ?_)))
      exact AB (xi (Sh.w (g19+1)) h1 (AT (L:=[(3,(.ptr 0 0 0 0)),(4,(i64 q7.2)),(6,(i64 (Sh.w (g19+1))))]) (st':=[(G3 q7.1.decls q7.1.funcs)]) [0] U (by decide) rfl U (.raw U U .nil) ⟨.rfl,.rfl,.rfl,trivial⟩))
    ·intro b24 h1
     exact BE (M20 () (Sh.AE h1).symm _ (Ax _ U))
  refine AN U (zm tb 3 U (bs h1 fun q31 gq31 h1=>zc Ye (I2 gq31) rfl U U (zm tb 2 U ?_)))
  rcases Sh.An h1 with ⟨b32,h1⟩ | ⟨b32,h1⟩
  ·exact zs b32 U (zs b32 U (zt b32 U (AB (M13 true (Sh.AE h1).symm _ (AG U)))))
  ·exact zg tb b32 U (zg tb b32 U (zf b32 U (AB (M13 (decide (q9 < 1)) (Sh.AE h1).symm _ (AG U)))))
end Go.Proofs.Ytpahalfiiahddaa

