import Derived.Test.YtpahalfiiahddaaProg
import Derived.Test.YtpahalfiiahddaaGAbsXToSSDefs
import Derived.Test.YtpahalfiiahddaaGHADefsToFIDefs
import Derived.Test.YtpahalfiiahddaaFIWalkP4
namespace Go.Proofs.Ytpahalfiiahddaa
open Go Go.Abs RC
attribute [local irreducible] Go.Abs.Cw
set_option maxRecDepth 100000
set_option maxHeartbeats 4000000

noncomputable abbrev Fy (z0:List Ac) (z1:List Ar):Go.Abs.Row:=⟨0,31,2,[[(ls AI z0),(ls AJ z1)]]⟩
noncomputable abbrev Od (z0:Int) (z1:Int) (z2:List AP):Go.Abs.Row:=⟨0,50,3,[[(i64 z0),(i64 z1),(ls AD z2)]]⟩
theorem YG:Aq Try.prog 12=true:=by kernel_rfl
theorem ZL:Aq Try.prog 13=true:=by kernel_rfl
theorem ZC:Aq Try.prog 15=true:=by kernel_rfl
theorem Xz:Aq Try.prog 16=true:=by kernel_rfl
theorem ZU:Aq Try.prog 17=true:=by kernel_rfl
theorem YE:Aq Try.prog 19=true:=by kernel_rfl
theorem Zq:Aq Try.prog 22=true:=by kernel_rfl
theorem Ze:Aq Try.prog 31=true:=by kernel_rfl
theorem Zw:Aq Try.prog 32=true:=by kernel_rfl
theorem Zu:Aq Try.prog 42=true:=by kernel_rfl
theorem KM:Aq Try.prog 44=true:=by kernel_rfl
theorem Wf:Aq Try.prog 49=true:=by kernel_rfl
theorem Zc:Aq Try.prog 51=true:=by kernel_rfl
theorem Zm:Aq Try.prog 52=true:=by kernel_rfl
theorem Zv:Aq Try.prog 66=true:=by kernel_rfl
theorem X8:Aq Try.prog 67=true:=by kernel_rfl
theorem X1:Aq Try.prog 69=true:=by kernel_rfl
theorem Wh:Aq Try.prog 71=true:=by kernel_rfl
theorem Zb:Aq Try.prog 74=true:=by kernel_rfl
theorem Zr:Aq Try.prog 75=true:=by kernel_rfl
theorem YF:Aq Try.prog 83=true:=by kernel_rfl
theorem ZA:Aq Try.prog 98=true:=by kernel_rfl

theorem Ie {N:Nat} {p0:Af} {p1:Int} {r:(List Int)} (h0:Ey N p0 p1=some r):Ai Try.prog 19 [(.agg [(ls AI p0.decls),(ls AJ p0.funcs)]),(i64 p1)] [] (fun v st=>v=(ow 0 0 r)∧st=[(ro 0 3 1 eI r)]):=by
 unfold Ey at h0
 refine ai Try.func19 U U U U (sr U fun K1 hK1=>Bl (m:=0) AM U U U U U (zq tb U (dn hK1 U (AH fun K2 hK2=>AH fun K3 hK3=>bs h0 fun o5 h1 h0=>?_))))
 have M5 :∀(t4:Bool),o5=t4→∀s,Wk 0 s ⟨63,Aa [(1,(i64 p1)),(2,(.ptr 0 0 0 0)),(22,(.bool t4))],[(Fy p0.decls p0.funcs)]⟩→K3 s:=by
  intro t4 hq s hw
  subst o5
  try dsimp only at h0
  refine hK3 _ (AN hw ?_)
  refine ci h0 U ?_ ?_ <;> clear h0
  ·intro b6 h0
   refine zr tb U U ?_
   replace h0:=Sh.AE h0
   subst r
   exact AU (Exists.intro _ (And.intro ((((Gz (t:=4) rfl 3 (size:=1) (by decide)).trans (Ah (L:=[(4,(.own 1 0 (List.length ([]:List Int))))]) (.same U))).trans (AS (L:=[(4,(.own 0 0 (List.length ([]:List Int))))]) (st':=[(ro 0 3 1 eI ([]:List Int))]) [1] U (by decide) rfl U (.pure (AB fun _=>U) .nil) (.same U))).trans (Ah (L:=[(4,(.own 0 0 (List.length ([]:List Int))))]) (.same U))) (And.intro U U)))
  ·intro b6 h0
   refine AR (hK2 _ (sr U fun K8 hK8=>zm tb 2 U (zl tb U U (bs h0 fun l9 gl9 h0=>OI (m:=1) (enc:=eB) (u:=false) AM QF U U U gl9 U U (zq tb U (dn hK8 U (sr U fun K10 hK10=>zm tb 2 U (bs h0 fun c11 gc11 h0=>zz (.ptr 1 0 (Int.toNat p1) 0) (Bn QF U U U U gc11) rfl ?_))))))))
   refine Gf (u':=true) AM XB U U gc11 U U U (show 0+1≤1 by decide) rfl U (dn hK10 U (AH fun K12 hK12=>sr U fun K13 hK13=>zq tb U ?_))
   refine A3 (m:=2) (l:=[p1]) (enc:=eI) AM A4 (by decide) rfl U U U U U ?_
   refine zq tb U (dn hK13 U (bs h0 fun o17 h1 h0=>?_))
   have M17 :∀(l16:(List Bool)),o17=l16→∀s,Wk 0 s ⟨63,Aa [(5,(ow 0 0 l16))],[(ro 0 4 1 eB l16)]⟩→K12 s:=by
    intro l16 hq s hw
    subst o17
    try dsimp only at h0
    refine hK12 _ (AN hw (sr U fun K18 hK18=>zq tb U (Ad (Wk.A7 (L:=[(61,(ls eB l16))]) (st':=[⟨1,4,1,[]⟩]) (id:=0) rfl (show 0≤0 by decide) (AB fun _=>U) ⟨(.A7 U),trivial⟩ U) (bs h0 fun q19 gq19 h0=>Bz (v':=(ow 1 0 q19)) AM Vo (Hi gq19) rfl U ⟨(Bi fun _=>U),trivial⟩ U U (zq tb U (dn hK18 U ?_))))))
    replace h0:=Sh.AE h0
    subst r
    exact AU (xr (AS (L:=[(4,(ow 0 0 q19))]) (st':=[(ro 0 3 1 eI q19)]) [1] U (by decide) rfl U (.pure (AB fun _=>U) .nil) (.same U)))
   refine Ab (Ay (σ:=(List Int)×(List Bool)×(List Int)) (fun n v=>Db N p0 n v.2.1 v.2.2=some o17) (fun (Gh2064_0,l14,l15)=>⟨63,Aa [(2,(.ptr 0 0 0 0)),(5,(.own 1 0 (List.length l14))),(6,(.own 2 0 (List.length l15)))],[⟨0,31,2,[[(.sl (List.map AI p0.decls)),(.sl (List.map AJ p0.funcs))]]⟩,⟨0,4,1,List.map eB l14⟩,⟨0,3,1,List.map eI (Gh2064_0 ++ l15)⟩]⟩) N (([]:List Int),Sh.put l9 p1 true,[p1]) h1 (Ah (L:=[(2,(.ptr 0 0 0 0)),(5,(.own 1 0 (List.length (Sh.put l9 p1 true)))),(6,(.own 2 0 (List.length [p1])))]) ⟨.rfl,(.len (by simp only[Sh.FK])),.rfl,trivial⟩) (fun _ hv=>by rw[Db] at hv;cases hv) ?_)
   rintro n ⟨Gh2064_0,l14,l15⟩ h1
   try dsimp only at h1 ⊢
   rw[Db] at h1
   refine AH fun K20 hK20=>sr U fun K21 hK21=>zq tb U (zz (i64 (Sh.len l15)) (WA Em U U) rfl (zq tb U (dn hK21 U ?_)))
   refine ci h1 U ?_ ?_ <;> clear h1
   ·intro b22 h1
    refine AR (hK20 _ (AH fun K23 hK23=>Ab (AH fun K24 hK24=>?_)))
    refine CC (by kernel_rfl) (by kernel_rfl) (by rfl) ?_
    iterate 2 refine yq tb rfl ?_
    refine bs h1 fun c25 gc25 h1=>yz (.ptr 2 0 (List.length Gh2064_0+Int.toNat 0) 0) (XS A4 U U U gc25) rfl (yz (i64 c25) (B1 F6 U U (We gc25) rfl) rfl (bs h1 fun q26 gq26 h1=>?_))
    refine BS (v:=(ls eB q26)) AM Xs (Ai.wk (Ja gq26) (by refine Wk.trans (Wk.A7 (L:=[(0,(ls eB q26))]) (st':=[⟨1,4,1,[]⟩]) (id:=0) rfl (show 0≤0 by decide) (AB fun _=>U) ⟨(.A7 U),trivial⟩ U) ?_;exact AS [] U (by decide) rfl U .nil (.same U))) rfl U U ?_
    refine bs h1 fun q27 gq27 h1=>?_
    refine BS (v:=(ls eI q27)) AM Vo (Ai.wk (Hi gq27) (by refine Wk.trans (Wk.A7 (L:=[(0,(ls eI q27))]) (st':=[⟨1,3,1,[]⟩]) (id:=0) rfl (show 0≤0 by decide) (AB fun _=>U) ⟨(.A7 U),trivial⟩ U) ?_;exact AS [] U (by decide) rfl U .nil (.same U))) rfl U U ?_
    refine yl tb U U (yq tb U (Ax (hK24 _ (bs h1 fun o33 h2 h1=>?_))))
    have M33 :∀(Gx2094_0:List Int) (l31:(List Bool)) (l32:(List Int)),o33=(l31,l32)→∀s,Wk 0 s ⟨63,Aa [(2,(.ptr 0 0 0 0)),(5,(ow 1 0 l31)),(6,(ow 2 0 l32))],[(Fy p0.decls p0.funcs),(ro 0 4 1 eB l31),(ro 0 3 1 eI (Gx2094_0 ++ l32))]⟩→K23 s:=by
     intro Gx2094_0 l31 l32 hq s hw
     subst o33
     try dsimp only at h1
     exact hK23 _ (AN hw (AL U (zq tb U (bs h1 fun l34 gl34 h1=>Ws (stf:=fun G154=>[(Fy p0.decls p0.funcs),(ro 0 4 1 eB l31),(ro 1 3 1 eI (G154 ++ l34))]) A4 gl34 U U U (fun _=>U) fun G154=>zq tb U (AA (xi (G154,l31,l34) h1 (EW (L:=[(2,(.ptr 0 0 0 0)),(5,(ow 1 0 l31)),(6,(ow 2 0 l34))]) (st':=[(Fy p0.decls p0.funcs),(ro 0 4 1 eB l31),(ro 0 3 1 eI (G154 ++ l34))]) (.raw U U (.pure (AB fun _=>U) (.pure (AB fun _=>U) .nil))) (.same U))))))))
    refine Ab (Ay (σ:=(List Int)×Int×(List Bool)×(List Int)) (fun n v=>CS q27 n v.2.1 v.2.2.1 v.2.2.2=some o33) (fun (Gh2091_0,t28,l29,l30)=>⟨63,Aa [(2,(.ptr 0 0 0 0)),(5,(ow 1 0 l29)),(6,(ow 2 0 l30)),(42,(ls eI q27)),(43,(i64 (Sh.len q27))),(44,(i64 t28))],[(Fy p0.decls p0.funcs),(ro 0 4 1 eB l29),(ro 0 3 1 eI (Gh2091_0 ++ l30))]⟩) N (Gh2064_0,0,l14,l15) h2 (AG U) (fun _ hv=>by rw[CS] at hv;cases hv) ?_)
    rintro n ⟨Gh2091_0,t28,l29,l30⟩ h2
    try dsimp only at h2 ⊢
    rw[CS] at h2
    refine zr tb U U (AH fun K36 hK36=>?_)
    refine ci h2 U ?_ ?_ <;> clear h2
    ·intro b37 h2
     refine AR (hK36 _ (AH fun K38 hK38=>bs h2 fun o41 h3 h2=>?_))
     have M41 :∀(Gj2095_0:List Int) (l39:(List Bool)) (l40:(List Int)),o41=(l39,l40)→∀s,Wk 0 s ⟨63,Aa [(2,(.ptr 0 0 0 0)),(5,(ow 1 0 l39)),(6,(ow 2 0 l40)),(42,(ls eI q27)),(43,(i64 (Sh.len q27))),(44,(i64 t28))],[(Fy p0.decls p0.funcs),(ro 0 4 1 eB l39),(ro 0 3 1 eI (Gj2095_0 ++ l40))]⟩→K38 s:=by
      intro Gj2095_0 l39 l40 hq s hw
      subst o41
      try dsimp only at h2
      exact hK38 _ (AN hw (AL U (zm tb 2 U (AA (xi (Gj2095_0,Sh.w (t28+1),l39,l40) h2 (AG U))))))
     refine Ab (sr U fun K42 hK42=>bs h3 fun c43 gc43 h3=>zx A4 gc43 U U U (zm tb 2 U (dn hK42 U (sr U fun K44 hK44=>zm tb 2 U (bs h3 fun c45 gc45 h3=>zz (.ptr 1 0 (Int.toNat c43) 0) (Bn QF U U U U gc45) rfl (zz (.bool c45) (B1 XB U U (Bs gc45) rfl) rfl (zq tb U ?_)))))))
     refine dn hK44 U ?_
     refine ci h3 U ?_ ?_ <;> clear h3
     ·intro b46 h3
      have b47:c45=false:=by simpa using b46
      refine sr U fun K48 hK48=>zm tb 2 U (zz (.ptr 1 0 (Int.toNat c43) 0) (Bn QF U U U U gc45) rfl (Gf (u':=true) AM XB U U gc45 U U U (show 0+1≤1 by decide) rfl U (dn hK48 U (AL U (zm tb 2 U ?_)))))
      refine A3 (m:=3) (l:=[c43]) (enc:=eI) AM A4 (by decide) rfl U U U U U ?_
      refine bs h3 fun l49 gl49 h3=>Vr (stf:=fun G156=>[(Fy p0.decls p0.funcs),(ro 0 4 1 eB (Sh.put l29 c43 true)),(ro 1 3 1 eI (G156 ++ l49)),(ro 0 3 1 eI [c43])]) A4 U U U U gl49 (fun _=>U) fun G156=>zq tb U ?_
      exact AA (M41 G156 (Sh.put l29 c43 true) l49 (Sh.AE h3).symm _ (by refine Wk.trans (EW (L:=[(2,(.ptr 0 0 0 0)),(5,(.own 1 0 (List.length l29))),(6,(.own 2 0 (List.length l49))),(42,(.sl (List.map eI q27))),(43,(i64 (Sh.len q27))),(44,(i64 t28))]) (st':=[⟨0,31,2,[[(.sl (List.map AI p0.decls)),(.sl (List.map AJ p0.funcs))]]⟩,⟨0,4,1,List.map eB (Sh.put l29 c43 true)⟩,⟨0,3,1,List.map eI (G156 ++ l49)⟩,⟨0,3,1,List.map eI [c43]⟩]) (.raw U U (.pure (AB fun _=>U) (.pure (AB fun _=>U) (.pure (AB fun _=>U) .nil)))) (.same U)) ?_;refine Wk.trans (AS (L:=[(2,(.ptr 0 0 0 0)),(5,(.own 1 0 (List.length l29))),(6,(.own 2 0 (List.length l49))),(42,(.sl (List.map eI q27))),(43,(i64 (Sh.len q27))),(44,(i64 t28))]) (st':=[⟨0,31,2,[[(.sl (List.map AI p0.decls)),(.sl (List.map AJ p0.funcs))]]⟩,⟨0,4,1,List.map eB (Sh.put l29 c43 true)⟩,⟨0,3,1,List.map eI (G156 ++ l49)⟩]) [0,1,2] U (by decide) rfl U (.raw U U (.pure (AB fun _=>U) (.pure (AB fun _=>U) .nil))) (.same U)) ?_;exact Ah (L:=[(2,(.ptr 0 0 0 0)),(5,(.own 1 0 (List.length (Sh.put l29 c43 true)))),(6,(.own 2 0 (List.length l49))),(42,(.sl (List.map eI q27))),(43,(i64 (Sh.len q27))),(44,(i64 t28))]) ⟨.rfl,(.len (by simp only[Sh.FK])),.rfl,.rfl,.rfl,.rfl,trivial⟩))
     ·intro b46 h3
      have b50:c45=true:=by simpa using b46
      exact AR (M41 Gh2091_0 l29 l30 (Sh.AE h3).symm _ (AG U))
    ·intro b37 h2
     exact A5 (M33 Gh2091_0 l29 l30 (Sh.AE h2).symm _ (AG U))
   ·intro b22 h1
    exact A5 (M17 l14 (Sh.AE h1).symm _ (AS [1] U (by decide) rfl U (.pure (AB fun _=>U) .nil) (.same U)))
 refine AL U (zq tb U (bs h1 fun q51 gq51 h1=>zc Uw (FN gq51) rfl U U (zm tb 2 U ?_)))
 rcases Sh.Am h1 with ⟨b52,h1⟩ | ⟨b52,h1⟩
 ·refine zs b52 U (zs b52 U (zt b52 U (zq tb U ?_)))
  iterate 5 refine zs rfl rfl ?_
  exact zt U U (AA (M5 true (Sh.AE h1).symm _ (AG U)))
 ·refine zg tb b52 U (zg tb b52 U (zf b52 U (zq tb U ?_)))
  rcases Sh.Am h1 with ⟨b53,h1⟩ | ⟨b53,h1⟩
  ·refine zs b53 U ?_
   iterate 4 refine zs b53 rfl ?_
   exact zt b53 U (AA (M5 true (Sh.AE h1).symm _ (AG U)))
  ·exact zg tb b53 U (zg tb b53 U (zg tb b53 U (B3 (v:=(i64 (Sh.len p0.funcs))) (Bw U U b53) rfl (B6 NU U) (zg tb b53 U (zf b53 U (AA (M5 (decide ((Sh.len p0.funcs)≤p1)) (Sh.AE h1).symm _ (AG U))))))))
theorem J1 {N:Nat} {p0:(List Int)} {p1:Int} {r:Int} (h0:FM N p0 p1=some r):Ai Try.prog 52 [(ls eI p0),(i64 p1)] [] (fun v st=>v=(i64 r)∧st=[]):=by
 unfold FM at h0
 refine ai Try.func52 U U U U (zr tb U U (AH fun K2 hK2=>sr U fun K3 hK3=>zq tb U (zl tb U U (zq tb U (dn hK3 U ?_)))))
 obtain⟨o5,h1,h0⟩:=Sh.BZ h0
 have M5 :∀(_:Unit),o5=Sum.inr ()→∀s,Wk 0 s ⟨19,Aa [],[]⟩→K2 s:=by
  intro _ hq s hw
  subst o5
  try dsimp only at h0
  refine hK2 _ (AN hw (zr tb U U ?_))
  replace h0:=Sh.AE h0
  subst r
  exact AU (xr (Ah (L:=[(4,(i64 (-1)))]) (.same U)))
 refine Ab (Ay (σ:=Int) (fun n v=>Bo p0 p1 n v=some o5) (fun t4=>⟨19,Aa [(0,(ls eI p0)),(1,(i64 p1)),(7,(i64 (Sh.len p0))),(8,(i64 t4))],[]⟩) N 0 h1 (AG U) (fun _ hv=>by rw[Bo] at hv;cases hv) ?_)
 rintro n t4 h1
 try dsimp only at h1 ⊢
 rw[Bo] at h1
 refine zr tb U U (AH fun K8 hK8=>?_)
 refine ci h1 U ?_ ?_ <;> clear h1
 ·intro b9 h1
  refine AR (hK8 _ (AH fun K10 hK10=>Ab (zr tb U U (sr U fun K12 hK12=>zm tb 3 U (bs h1 fun c13 gc13 h1=>zx A4 gc13 U U U (zm tb 2 U (dn hK12 U ?_)))))))
  refine ci h1 U ?_ ?_ <;> clear h1
  ·intro b14 h1
   refine zr tb U U ?_
   replace h1:=Sh.AE h1
   subst o5
   try dsimp only[id] at h0
   replace h0:=Sh.AE h0
   subst r
   exact AU (xr (Ah (L:=[(4,(i64 t4))]) (.same U)))
  ·intro b14 h1
   exact AR (hK10 _ (AL U (zm tb 2 U (AA (xi (Sh.w (t4+1)) h1 (AG U))))))
 ·intro b9 h1
  exact A5 (M5 () (Sh.AE h1).symm _ (AG U))
theorem I8 {N:Nat} {p0:(List Int)} {p1:Int} {r:Bool} (h0:D6 N p0 p1=some r):Ai Try.prog 32 [(ls eI p0),(i64 p1)] [] (fun v st=>v=(.bool r)∧st=[]):=by
 unfold D6 at h0
 refine ai Try.func32 U U U U (zr tb U U (sr U fun K2 hK2=>zm tb 2 U (bs h0 fun q3 gq3 h0=>zc Zm (J1 gq3) rfl U U (zm tb 2 U (dn hK2 U ?_)))))
 replace h0:=Sh.AE h0
 subst r
 exact AU (xr (Ah (L:=[(4,(.bool (decide (0≤q3))))]) (.same U)))
theorem NP {N:Nat} {p0:Af} {p1:Int} {r:Bool} (h0:EC N p0 p1=some r):Ai Try.prog 13 [(.agg [(ls AI p0.decls),(ls AJ p0.funcs)]),(i64 p1)] [] (fun v st=>v=(.bool r)∧st=[]):=by
 unfold EC at h0
 refine ai Try.func13 U U U U (sr U fun K1 hK1=>Bl (m:=0) AM U U U U U (zq tb U (dn hK1 U (AH fun K2 hK2=>AH fun K3 hK3=>bs h0 fun o5 h1 h0=>?_))))
 have M5 :∀(t4:Bool),o5=t4→∀s,Wk 0 s ⟨35,Aa [(1,(i64 p1)),(2,(.ptr 0 0 0 0)),(20,(.bool t4))],[(Fy p0.decls p0.funcs)]⟩→K3 s:=by
  intro t4 hq s hw
  subst o5
  try dsimp only at h0
  refine hK3 _ (AN hw ?_)
  refine ci h0 U ?_ ?_ <;> clear h0
  ·intro b6 h0
   refine zr tb U U ?_
   replace h0:=Sh.AE h0
   subst r
   exact AU (xr (As [(4,(.bool false))] U))
  ·intro b6 h0
   refine AR (hK2 _ (AH fun K8 hK8=>sr U fun K9 hK9=>zm tb 2 U (bs h0 fun q10 gq10 h0=>Bz (v':=(ow 1 0 q10)) AM Xz (JQ gq10) rfl U ⟨(Bi fun _=>U),trivial⟩ U U (zz (i64 (Sh.len q10)) (CW Em U U U) rfl (zq tb U (dn hK9 U ?_))))))
   obtain⟨o12,h1,h0⟩:=Sh.BZ h0
   have M12 :∀(_:Unit),o12=Sum.inr ()→∀s,Wk 0 s ⟨35,Aa [],[]⟩→K8 s:=by
    intro _ hq s hw
    subst o12
    try dsimp only at h0
    refine hK8 _ (AN hw (zr tb U U ?_))
    replace h0:=Sh.AE h0
    subst r
    exact AU (xr (Ah (L:=[(4,(.bool true))]) (.same U)))
   refine Ab (Ay (σ:=Int) (fun n v=>CG N p0 p1 q10 n v=some o12) (fun t11=>⟨35,Aa [(1,(i64 p1)),(2,(.ptr 0 0 0 0)),(23,(ow 1 0 q10)),(24,(i64 (Sh.len q10))),(25,(i64 t11))],[(Fy p0.decls p0.funcs),(ro 0 3 1 eI q10)]⟩) N 0 h1 (AG U) (fun _ hv=>by rw[CG] at hv;cases hv) ?_)
   rintro n t11 h1
   try dsimp only at h1 ⊢
   rw[CG] at h1
   refine zr tb U U (AH fun K15 hK15=>?_)
   refine ci h1 U ?_ ?_ <;> clear h1
   ·intro b16 h1
    refine AR (hK15 _ (AH fun K17 hK17=>Ab (sr U fun K18 hK18=>bs h1 fun c19 gc19 h1=>zz (.ptr 1 0 (Int.toNat t11) 0) (Bn A4 U U U U gc19) rfl (zz (i64 c19) (B1 F6 U U (Bs gc19) rfl) rfl (zq tb U (dn hK18 U (sr U fun K20 hK20=>zm tb 2 U (bs h1 fun q21 gq21 h1=>?_))))))))
    refine Bz (v':=(ow 2 0 q21)) AM YE (Ie gq21) rfl U ⟨(Bi fun _=>U),trivial⟩ U U (zq tb U (Ad (Wk.A7 (L:=[(1,(i64 p1)),(2,(.ptr 0 0 0 0)),(23,(ow 1 0 q10)),(24,(i64 (Sh.len q10))),(25,(i64 t11)),(31,(ls eI q21)),(32,(i64 p1))]) (st':=[(Fy p0.decls p0.funcs),(ro 0 3 1 eI q10),⟨1,3,1,[]⟩]) (id:=2) rfl (show 0≤2 by decide) (AB fun _=>U) ⟨.rfl,.rfl,.rfl,.rfl,.rfl,(.A7 U),.rfl,trivial⟩ U) (bs h1 fun q22 gq22 h1=>zc Zw (I8 gq22) rfl U U (dn hK20 U ?_))))
    refine ci h1 U ?_ ?_ <;> clear h1
    ·intro b23 h1
     refine zr tb U U ?_
     replace h1:=Sh.AE h1
     subst o12
     try dsimp only[id] at h0
     replace h0:=Sh.AE h0
     subst r
     exact AU (xr (As [(4,(.bool false))] U))
    ·intro b23 h1
     refine AR (hK17 _ (AL U (zm tb 2 U ?_)))
     exact AA (xi (Sh.w (t11+1)) h1 (AS [0,1] U (by decide) rfl U (.raw U U (.pure (AB fun _=>U) .nil)) (.same U)))
   ·intro b16 h1
    exact A5 (M12 () (Sh.AE h1).symm _ (As _ U))
 refine AL U (zq tb U (bs h1 fun q25 gq25 h1=>zc Uw (FN gq25) rfl U U (zm tb 2 U ?_)))
 rcases Sh.Am h1 with ⟨b26,h1⟩ | ⟨b26,h1⟩
 ·refine zs b26 U (zs b26 U (zt b26 U (zq tb U ?_)))
  iterate 5 refine zs rfl rfl ?_
  exact zt U U (AA (M5 true (Sh.AE h1).symm _ (AG U)))
 ·refine zg tb b26 U (zg tb b26 U (zf b26 U (zq tb U ?_)))
  rcases Sh.Am h1 with ⟨b27,h1⟩ | ⟨b27,h1⟩
  ·refine zs b27 U ?_
   iterate 4 refine zs b27 rfl ?_
   exact zt b27 U (AA (M5 true (Sh.AE h1).symm _ (AG U)))
  ·exact zg tb b27 U (zg tb b27 U (zg tb b27 U (B3 (v:=(i64 (Sh.len p0.funcs))) (Bw U U b27) rfl (B6 NU U) (zg tb b27 U (zf b27 U (AA (M5 (decide ((Sh.len p0.funcs)≤p1)) (Sh.AE h1).symm _ (AG U))))))))
theorem Jw {N:Nat} {p0:(List Ac)} {p1:(List Int)} {r:Bool} (h0:Fw N p0 p1=some r):Ai Try.prog 67 [(ls AI p0),(ls eI p1)] [] (fun v st=>v=(.bool r)∧st=[]):=by
 unfold Fw at h0
 refine ai Try.func67 U U U U (zr tb U U (AH fun K2 hK2=>zr tb U U ?_))
 obtain⟨o5,h1,h0⟩:=Sh.BZ h0
 have M5 :∀(_:Unit),o5=Sum.inr ()→∀s,Wk 0 s ⟨20,Aa [],[]⟩→K2 s:=by
  intro _ hq s hw
  subst o5
  try dsimp only at h0
  refine hK2 _ (AN hw (zr tb U U ?_))
  replace h0:=Sh.AE h0
  subst r
  exact AU (xr (Ah (L:=[(4,(.bool true))]) (.same U)))
 refine Ab (Ay (σ:=Int) (fun n v=>Du p0 p1 n v=some o5) (fun i4=>⟨20,Aa [(0,(ls AI p0)),(1,(ls eI p1)),(5,(i64 i4))],[]⟩) N 0 h1 (AG U) (fun _ hv=>by rw[Du] at hv;cases hv) ?_)
 rintro n i4 h1
 try dsimp only at h1 ⊢
 rw[Du] at h1
 refine AH fun K7 hK7=>sr U fun K8 hK8=>zm tb 2 U (zl tb U U (zq tb U (dn hK8 U ?_)))
 refine ci h1 U ?_ ?_ <;> clear h1
 ·intro b9 h1
  refine AR (hK7 _ (AH fun K10 hK10=>Ab (sr U fun K11 hK11=>zm tb 2 U (bs h1 fun c12 gc12 h1=>zx A4 gc12 U U U (zm tb 2 U (zl tb U U (bs h1 fun q13 gq13 h1=>zc LB (CN gq13) rfl U U (zq tb U ?_))))))))
  refine dn hK11 U ?_
  refine ci h1 U ?_ ?_ <;> clear h1
  ·intro b14 h1
   have b15:q13=false:=by simpa using b14
   refine zr tb U U ?_
   replace h1:=Sh.AE h1
   subst o5
   try dsimp only[id] at h0
   replace h0:=Sh.AE h0
   subst r
   exact AU (xr (Ah (L:=[(4,(.bool false))]) (.same U)))
  ·intro b14 h1
   have b17:q13=true:=by simpa using b14
   exact AR (hK10 _ (AL U (zm tb 3 U (AA (xi (Sh.w (i4+1)) h1 (AG U))))))
 ·intro b9 h1
  exact A5 (M5 () (Sh.AE h1).symm _ (AG U))
theorem Mq {N:Nat} {p0:(List Ac)} {p1:Int} {r:Bool} (h0:GK N p0 p1=some r):Ai Try.prog 98 [(ls AI p0),(i64 p1)] [] (fun v st=>v=(.bool r)∧st=[]):=by
 unfold GK at h0
 refine ai Try.func98 U U U U (zr tb U U (sr U fun K2 hK2=>zm tb 2 U (bs h0 fun c3 gc3 h0=>zx ER gc3 U U U (zq tb U (A1 (m:=0) AM Eh U U (Az AM Ht U U U U U U (show 0+3≤3 by decide) rfl (dn hK2 U (AH fun K4 hK4=>sr U fun K5 hK5=>?_))))))))
 refine zm tb 2 U (zl tb U U (zq tb U (dn hK5 U ?_)))
 refine ci h0 U ?_ ?_ <;> clear h0
 ·intro b6 h0
  refine AH fun K7 hK7=>AH fun K8 hK8=>bs h0 fun o10 h1 h0=>?_
  have M10 :∀(t9:Bool),o10=t9→∀s,Wk 0 s ⟨100,Aa [(0,(ls AI p0)),(5,(.ptr 0 0 0 0)),(29,(.bool t9))],[⟨0,80,3,[(AI c3)]⟩]⟩→K8 s:=by
   intro t9 hq s hw
   subst o10
   try dsimp only at h0
   refine hK8 _ (AN hw ?_)
   refine ci h0 U ?_ ?_ <;> clear h0
   ·intro b11 h0
    refine zr tb U U ?_
    replace h0:=Sh.AE h0
    subst r
    exact AU (xr (As [(4,(.bool false))] U))
   ·intro b11 h0
    refine AR (hK7 _ (AH fun K13 hK13=>zr tb U U ?_))
    obtain⟨o16,h1,h0⟩:=Sh.BZ h0
    have M16 :∀(_:Unit),o16=Sum.inr ()→∀s,Wk 0 s ⟨100,Aa [],[]⟩→K13 s:=by
     intro _ hq s hw
     subst o16
     try dsimp only at h0
     refine hK13 _ (AN hw (zr tb U U ?_))
     replace h0:=Sh.AE h0
     subst r
     exact AU (xr (Ah (L:=[(4,(.bool true))]) (.same U)))
    refine Ab (Ay (σ:=Int) (fun n v=>Dd N c3 p0 n v=some o16) (fun i15=>⟨100,Aa [(0,(ls AI p0)),(5,(.ptr 0 0 0 0)),(6,(i64 i15))],[⟨0,80,3,[(AI c3)]⟩]⟩) N 0 h1 (AG U) (fun _ hv=>by rw[Dd] at hv;cases hv) ?_)
    rintro n i15 h1
    try dsimp only at h1 ⊢
    rw[Dd] at h1
    refine AH fun K18 hK18=>sr U fun K19 hK19=>zm tb 3 U (zl tb U U (zq tb U (dn hK19 U ?_)))
    refine ci h1 U ?_ ?_ <;> clear h1
    ·intro b20 h1
     refine AR (hK18 _ (AH fun K21 hK21=>Ab (AH fun K22 hK22=>bs h1 fun o24 h2 h1=>?_)))
     have M24 :∀(t23:Bool),o24=t23→∀s,Wk 0 s ⟨100,Aa [(0,(ls AI p0)),(5,(.ptr 0 0 0 0)),(6,(i64 i15)),(55,(.bool t23))],[⟨0,80,3,[(AI c3)]⟩]⟩→K22 s:=by
      intro t23 hq s hw
      subst o24
      try dsimp only at h1
      refine hK22 _ (AN hw ?_)
      refine ci h1 U ?_ ?_ <;> clear h1
      ·intro b25 h1
       refine zr tb U U ?_
       replace h1:=Sh.AE h1
       subst o16
       try dsimp only[id] at h0
       replace h0:=Sh.AE h0
       subst r
       exact AU (xr (As [(4,(.bool false))] U))
      ·intro b25 h1
       exact AR (hK21 _ (AL U (zm tb 3 U (AA (xi (Sh.w (i15+1)) h1 (AG U))))))
     refine AL U (zm tb 3 U (bs h2 fun c27 gc27 h2=>zx J9 gc27 U U U (zm tb 2 U (zl tb U U (zm tb 2 U ?_)))))
     rcases Sh.Am h2 with ⟨b28,h2⟩ | ⟨b28,h2⟩
     ·refine zs b28 U ?_
      iterate 8 refine zs b28 rfl ?_
      exact zt b28 U (AA (M24 true (Sh.AE h2).symm _ (AG U)))
     ·refine zg tb b28 U ?_
      iterate 3 refine zg tb b28 rfl ?_
      exact B3 (v:=(.Al (BJ c27) 0)) (Bw U U b28) rfl (CZ J9 U U gc27 U) (zg tb b28 U (zg tb b28 U (bs h2 fun q29 gq29 h2=>zd b28 X8 (Jw gq29) rfl U U U (zg tb b28 U (zf b28 U (AA (M24 (!q29) (Sh.AE h2).symm _ (AG U))))))))
    ·intro b20 h1
     exact A5 (M16 () (Sh.AE h1).symm _ (As _ U))
  refine AL U (zm tb 2 U (zl tb U U (zm tb 2 U ?_)))
  rcases Sh.Am h1 with ⟨b30,h1⟩ | ⟨b30,h1⟩
  ·refine zs b30 U (zs b30 U (zs b30 U (zt b30 U (zq tb U ?_))))
   iterate 3 refine zs rfl rfl ?_
   exact zt U U (AA (M10 true (Sh.AE h1).symm _ (AG U)))
  ·refine zg tb b30 U (zg tb b30 U (zg tb b30 U (zf b30 U (zq tb U ?_))))
   rcases Sh.Am h1 with ⟨b31,h1⟩ | ⟨b31,h1⟩
   ·exact zs b31 U (zs b31 U (zs b31 U (zt b31 U (AA (M10 true (Sh.AE h1).symm _ (AG U))))))
   ·exact zg tb b31 U (zg tb b31 U (zg tb b31 U (zf b31 U (AA (M10 (!decide (c3.to=0)) (Sh.AE h1).symm _ (AG U))))))
 ·intro b6 h0
  refine AR (hK4 _ (AH fun K32 hK32=>zr tb U U ?_))
  obtain⟨o35,h1,h0⟩:=Sh.BZ h0
  have M35 :∀(_:Unit),o35=Sum.inr ()→∀s,Wk 0 s ⟨100,Aa [(0,(ls AI p0)),(5,(.ptr 0 0 0 0))],[⟨0,80,3,[(AI c3)]⟩]⟩→K32 s:=by
   intro _ hq s hw
   subst o35
   try dsimp only at h0
   refine hK32 _ (AN hw (AH fun K36 hK36=>bs h0 fun o38 h1 h0=>?_))
   have M38 :∀(t37:Bool),o38=t37→∀s,Wk 0 s ⟨100,Aa [(4,(.bool t37))],[]⟩→K36 s:=by
    intro t37 hq s hw
    subst o38
    try dsimp only at h0
    refine hK36 _ (AN hw ?_)
    replace h0:=Sh.AE h0
    subst r
    exact AU (xr (Ah (L:=[(4,(.bool t37))]) (.same U)))
   refine AL U (zm tb 3 U (zl tb U U (bs h1 fun q39 gq39 h1=>zc LB (CN gq39) rfl U U (zq tb U ?_))))
   rcases Sh.Am h1 with ⟨b40,h1⟩ | ⟨b40,h1⟩
   ·exact zg tb b40 U (zg tb b40 U (zg tb b40 U (B3 (v:=(i64 (Sh.len p0))) (Bw U U b40) rfl (B6 R9 U) (bs h1 fun q41 gq41 h1=>zd b40 LB (CN gq41) rfl U U U (zt b40 U (zq tb U (AA (M38 q41 (Sh.AE h1).symm _ (As _ U)))))))))
   ·refine zs b40 U ?_
    iterate 4 refine zs b40 rfl ?_
    exact zf b40 U (zq tb U (AA (M38 false (Sh.AE h1).symm _ (As _ U))))
  refine Ab (Ay (σ:=Int) (fun n v=>Df c3 p0 p1 n v=some o35) (fun i34=>⟨100,Aa [(0,(ls AI p0)),(1,(i64 p1)),(5,(.ptr 0 0 0 0)),(7,(i64 i34))],[⟨0,80,3,[(AI c3)]⟩]⟩) N 0 h1 (AG U) (fun _ hv=>by rw[Df] at hv;cases hv) ?_)
  rintro n i34 h1
  try dsimp only at h1 ⊢
  rw[Df] at h1
  refine AH fun K42 hK42=>zr tb U U ?_
  refine ci h1 U ?_ ?_ <;> clear h1
  ·intro b44 h1
   refine AR (hK42 _ (AH fun K45 hK45=>Ab (AH fun K46 hK46=>bs h1 fun o48 h2 h1=>?_)))
   have M48 :∀(t47:Bool),o48=t47→∀s,Wk 0 s ⟨100,Aa [(0,(ls AI p0)),(1,(i64 p1)),(5,(.ptr 0 0 0 0)),(7,(i64 i34)),(87,(.bool t47))],[⟨0,80,3,[(AI c3)]⟩]⟩→K46 s:=by
    intro t47 hq s hw
    subst o48
    try dsimp only at h1
    refine hK46 _ (AN hw ?_)
    refine ci h1 U ?_ ?_ <;> clear h1
    ·intro b49 h1
     refine zr tb U U ?_
     replace h1:=Sh.AE h1
     subst o35
     try dsimp only[id] at h0
     replace h0:=Sh.AE h0
     subst r
     exact AU (xr (As [(4,(.bool false))] U))
    ·intro b49 h1
     exact AR (hK45 _ (AL U (zm tb 3 U (AA (xi (Sh.w (i34+1)) h1 (AG U))))))
   refine CC (by kernel_rfl) (by kernel_rfl) (by rfl) ?_
   iterate 2 refine yq tb rfl ?_
   refine bs h2 fun c51 gc51 h2=>yx ER gc51 U U U ?_
   iterate 2 refine yq tb rfl ?_
   refine yl tb U U ?_
   iterate 2 refine yq tb rfl ?_
   rcases Sh.Am h2 with ⟨b52,h2⟩ | ⟨b52,h2⟩
   ·refine yg tb b52 U (yg tb b52 U (HN (v:=(.Al (AI c51) 0)) (Bw U U b52) rfl (CZ ER U U gc51 U) ?_))
    iterate 5 refine yg tb b52 rfl ?_
    refine yt b52 U (yq tb U ?_)
    rcases Sh.Am h2 with ⟨b53,h2⟩ | ⟨b53,h2⟩
    ·refine yg tb b53 U (yg tb b53 U (HN (v:=(.Al (AI c51) 0)) (Bw U U b53) rfl (CZ ER U U gc51 U) ?_))
     iterate 5 refine yg tb b53 rfl ?_
     exact yt b53 U (Ax (M48 (decide (c51.to=c3.to)) (Sh.AE h2).symm _ (AG U)))
    ·refine ys b53 U ?_
     iterate 7 refine ys b53 rfl ?_
     exact yf b53 U (Ax (M48 false (Sh.AE h2).symm _ (AG U)))
   ·refine ys b52 U ?_
    iterate 7 refine ys b52 rfl ?_
    refine yf b52 U (yq tb U ?_)
    iterate 8 refine ys rfl rfl ?_
    exact yf U U (Ax (M48 false (Sh.AE h2).symm _ (AG U)))
  ·intro b44 h1
   exact A5 (M35 () (Sh.AE h1).symm _ (AG U))
theorem Ma {N:Nat} {p0:(List Ac)} {r:Bool} (h0:Fx N p0=some r):Ai Try.prog 66 [(ls AI p0)] [] (fun v st=>v=(.bool r)∧st=[]):=by
 unfold Fx at h0
 refine ai Try.func66 U U U U (zr tb U U (AH fun K2 hK2=>sr U fun K3 hK3=>zq tb U (zl tb U U (zq tb U (dn hK3 U ?_)))))
 refine ci h0 U ?_ ?_ <;> clear h0
 ·intro b4 h0
  refine zr tb U U ?_
  replace h0:=Sh.AE h0
  subst r
  exact AU (xr (Ah (L:=[(2,(.bool false))]) (.same U)))
 ·intro b4 h0
  refine AR (hK2 _ (AH fun K6 hK6=>zr tb U U ?_))
  obtain⟨o9,h1,h0⟩:=Sh.BZ h0
  have M9 :∀(_:Unit),o9=Sum.inr ()→∀s,Wk 0 s ⟨17,Aa [],[]⟩→K6 s:=by
   intro _ hq s hw
   subst o9
   try dsimp only at h0
   refine hK6 _ (AN hw (zr tb U U ?_))
   replace h0:=Sh.AE h0
   subst r
   exact AU (xr (Ah (L:=[(2,(.bool true))]) (.same U)))
  refine Ab (Ay (σ:=Int) (fun n v=>DK N p0 n v=some o9) (fun i8=>⟨17,Aa [(0,(ls AI p0)),(3,(i64 i8))],[]⟩) N 0 h1 (AG U) (fun _ hv=>by rw[DK] at hv;cases hv) ?_)
  rintro n i8 h1
  try dsimp only at h1 ⊢
  rw[DK] at h1
  refine AH fun K11 hK11=>sr U fun K12 hK12=>zm tb 2 U (zl tb U U (zq tb U (dn hK12 U ?_)))
  refine ci h1 U ?_ ?_ <;> clear h1
  ·intro b13 h1
   refine AR (hK11 _ (AH fun K14 hK14=>Ab (sr U fun K15 hK15=>zm tb 2 U (bs h1 fun q16 gq16 h1=>zc ZA (Mq gq16) rfl U U (zq tb U (dn hK15 U ?_))))))
   refine ci h1 U ?_ ?_ <;> clear h1
   ·intro b17 h1
    have b18:q16=false:=by simpa using b17
    refine zr tb U U ?_
    replace h1:=Sh.AE h1
    subst o9
    try dsimp only[id] at h0
    replace h0:=Sh.AE h0
    subst r
    exact AU (xr (Ah (L:=[(2,(.bool false))]) (.same U)))
   ·intro b17 h1
    have b20:q16=true:=by simpa using b17
    exact AR (hK14 _ (AL U (zm tb 3 U (AA (xi (Sh.w (i8+1)) h1 (AG U))))))
  ·intro b13 h1
   exact A5 (M9 () (Sh.AE h1).symm _ (AG U))
theorem Mu {N:Nat} {p0:Af} {r:Bool} (h0:FQ N p0=some r):Ai Try.prog 42 [(.agg [(ls AI p0.decls),(ls AJ p0.funcs)])] [] (fun v st=>v=(.bool r)∧st=[]):=by
 unfold FQ at h0
 refine ai Try.func42 U U U U (sr U fun K1 hK1=>Bl (m:=0) AM U U U U U (zq tb U (dn hK1 U (AH fun K2 hK2=>AH fun K3 hK3=>bs h0 fun o5 h1 h0=>?_))))
 have M5 :∀(t4:Bool),o5=t4→∀s,Wk 0 s ⟨64,Aa [(1,(.ptr 0 0 0 0)),(15,(.bool t4))],[(Fy p0.decls p0.funcs)]⟩→K3 s:=by
  intro t4 hq s hw
  subst o5
  try dsimp only at h0
  refine hK3 _ (AN hw ?_)
  refine ci h0 U ?_ ?_ <;> clear h0
  ·intro b6 h0
   refine zr tb U U ?_
   replace h0:=Sh.AE h0
   subst r
   exact AU (xr (As [(2,(.bool false))] U))
  ·intro b6 h0
   refine AR (hK2 _ (AH fun K8 hK8=>zr tb U U ?_))
   obtain⟨o11,h1,h0⟩:=Sh.BZ h0
   have M11 :∀(_:Unit),o11=Sum.inr ()→∀s,Wk 0 s ⟨64,Aa [(1,(.ptr 0 0 0 0))],[(Fy p0.decls p0.funcs)]⟩→K8 s:=by
    intro _ hq s hw
    subst o11
    try dsimp only at h0
    refine hK8 _ (AN hw (AH fun K12 hK12=>bs h0 fun o14 h1 h0=>?_))
    have M14 :∀(t13:Bool),o14=t13→∀s,Wk 0 s ⟨64,Aa [(2,(.bool t13))],[]⟩→K12 s:=by
     intro t13 hq s hw
     subst o14
     try dsimp only at h0
     refine hK12 _ (AN hw ?_)
     replace h0:=Sh.AE h0
     subst r
     exact AU (xr (Ah (L:=[(2,(.bool t13))]) (.same U)))
    refine AL U (zm tb 2 U (bs h1 fun c15 gc15 h1=>zx DD gc15 U U U (zm tb 2 U (zl tb U U (zm tb 2 U ?_)))))
    rcases Sh.Am h1 with ⟨b16,h1⟩ | ⟨b16,h1⟩
    ·refine zg tb b16 U (zg tb b16 U (B3 (v:=(.Al (AJ c15) 0)) (Bw U U b16) rfl (CZ DD U U gc15 U) ?_))
     iterate 3 refine zg tb b16 rfl ?_
     exact zt b16 U (zq tb U (AA (M14 (decide (c15.result=0)) (Sh.AE h1).symm _ (As _ U))))
    ·refine zs b16 U ?_
     iterate 5 refine zs b16 rfl ?_
     exact zf b16 U (zq tb U (AA (M14 false (Sh.AE h1).symm _ (As _ U))))
   refine Ab (Ay (σ:=Int) (fun n v=>C6 N p0 n v=some o11) (fun i10=>⟨64,Aa [(1,(.ptr 0 0 0 0)),(3,(i64 i10))],[(Fy p0.decls p0.funcs)]⟩) N 0 h1 (AG U) (fun _ hv=>by rw[C6] at hv;cases hv) ?_)
   rintro n i10 h1
   try dsimp only at h1 ⊢
   rw[C6] at h1
   refine AH fun K17 hK17=>sr U fun K18 hK18=>zm tb 3 U (zl tb U U (zq tb U (dn hK18 U ?_)))
   refine ci h1 U ?_ ?_ <;> clear h1
   ·intro b19 h1
    refine AR (hK17 _ (AH fun K20 hK20=>Ab (sr U fun K21 hK21=>zm tb 3 U (bs h1 fun c22 gc22 h1=>zx DD gc22 U U U (zq tb U (A1 (m:=1) AM LD U U (Az AM Iy U U U U U U (show 0+5≤5 by decide) rfl (dn hK21 U (AH fun K23 hK23=>?_)))))))))
    refine bs h1 fun o25 h2 h1=>?_
    have M25 :∀(t24:Bool),o25=t24→∀s,Wk 0 s ⟨64,Aa [(1,(.ptr 0 0 0 0)),(3,(i64 i10)),(48,(.bool t24))],[(Fy p0.decls p0.funcs)]⟩→K23 s:=by
     intro t24 hq s hw
     subst o25
     try dsimp only at h1
     refine hK23 _ (AN hw ?_)
     refine ci h1 U ?_ ?_ <;> clear h1
     ·intro b26 h1
      refine zr tb U U ?_
      replace h1:=Sh.AE h1
      subst o11
      try dsimp only[id] at h0
      replace h0:=Sh.AE h0
      subst r
      exact AU (xr (As [(2,(.bool false))] U))
     ·intro b26 h1
      exact AR (hK20 _ (AL U (zm tb 3 U (AA (xi (Sh.w (i10+1)) h1 (AG U))))))
    refine AL U (zm tb 2 U (zl tb U U (zm tb 2 U ?_)))
    rcases Sh.Am h2 with ⟨b28,h2⟩ | ⟨b28,h2⟩
    ·refine zs b28 U ?_
     iterate 5 refine zs b28 rfl ?_
     refine zt b28 U (zq tb U ?_)
     iterate 7 refine zs rfl rfl ?_
     refine zt U U ?_
     exact AA (M25 true (Sh.AE h2).symm _ (AS [0] U (by decide) rfl U (.raw U U .nil) (.same U)))
    ·refine zg tb b28 U ?_
     iterate 3 refine zg tb b28 rfl ?_
     refine bs h2 fun q29 gq29 h2=>zd b28 X8 (Jw gq29) rfl U U U (zg tb b28 U (zf b28 U (zq tb U ?_)))
     rcases Sh.Am h2 with ⟨b30,h2⟩ | ⟨b30,h2⟩
     ·refine zs b30 U ?_
      iterate 6 refine zs b30 rfl ?_
      refine zt b30 U ?_
      exact AA (M25 true (Sh.AE h2).symm _ (AS [0] U (by decide) rfl U (.raw U U .nil) (.same U)))
     ·refine zg tb b30 U ?_
      iterate 3 refine zg tb b30 rfl ?_
      refine B3 (v:=(i64 (Sh.len p0.decls))) (Bw U U b30) rfl (B6 R9 U) (bs h2 fun q31 gq31 h2=>zd b30 LB (CN gq31) rfl U U U (zg tb b30 U (zf b30 U ?_)))
      exact AA (M25 (!q31) (Sh.AE h2).symm _ (AS [0] U (by decide) rfl U (.raw U U .nil) (.same U)))
   ·intro b19 h1
    exact A5 (M11 () (Sh.AE h1).symm _ (AG U))
 refine AL U (zm tb 2 U (bs h1 fun q32 gq32 h1=>zc Zv (Ma gq32) rfl U U (zm tb 2 U ?_)))
 rcases Sh.Am h1 with ⟨b33,h1⟩ | ⟨b33,h1⟩
 ·refine zs b33 U ?_
  iterate 4 refine zs b33 rfl ?_
  exact zt b33 U (AA (M5 true (Sh.AE h1).symm _ (AG U)))
 ·exact zg tb b33 U (zg tb b33 U (B3 (v:=(i64 (Sh.len p0.funcs))) (Bw U U b33) rfl (B6 NU U) (bs h1 fun q34 gq34 h1=>zd b33 LB (CN gq34) rfl U U U (zg tb b33 U (zf b33 U (AA (M5 (!q34) (Sh.AE h1).symm _ (AG U))))))))
theorem KG {N:Nat} {rec_spec_typeOf:Af→(List Int)→AP→Option (Int)} (hrec_spec_typeOf :∀{p0:Af} {p1:(List Int)} {p2:AP} {r:Int},rec_spec_typeOf p0 p1 p2=some r→Ai Try.prog 44 [(.agg [(ls AI p0.decls),(ls AJ p0.funcs)]),(ls eI p1),(.agg [(i64 p2.op),(i64 p2.num),(ls AD p2.kids)])] [] (fun v st=>v=(i64 r)∧st=[])) {p0:Af} {p1:(List Int)} {p2:(List AP)} {p3:Int} {r:Bool} (h0:GX N rec_spec_typeOf p0 p1 p2 p3=some r):Ai Try.prog 69 [(.agg [(ls AI p0.decls),(ls AJ p0.funcs)]),(ls eI p1),(ls AD p2),(i64 p3)] [] (fun v st=>v=(.bool r)∧st=[]):=by
 unfold GX at h0
 refine ai Try.func69 U U U U (sr U fun K1 hK1=>Bl (m:=0) AM U U U U U (zq tb U (dn hK1 U (AH fun K2 hK2=>sr U fun K3 hK3=>zq tb U (zl tb U U (zm tb 2 U (dn hK3 U ?_)))))))
 refine ci h0 U ?_ ?_ <;> clear h0
 ·intro b4 h0
  have b5:decide ((Sh.len p2)=p3)=false:=by simpa using b4
  refine zr tb U U ?_
  replace h0:=Sh.AE h0
  subst r
  exact AU (xr (As [(8,(.bool false))] U))
 ·intro b4 h0
  have b7:decide ((Sh.len p2)=p3)=true:=by simpa using b4
  refine AR (hK2 _ (AH fun K8 hK8=>zr tb U U ?_))
  obtain⟨o11,h1,h0⟩:=Sh.BZ h0
  have M11 :∀(_:Unit),o11=Sum.inr ()→∀s,Wk 0 s ⟨27,Aa [],[]⟩→K8 s:=by
   intro _ hq s hw
   subst o11
   try dsimp only at h0
   refine hK8 _ (AN hw (zr tb U U ?_))
   replace h0:=Sh.AE h0
   subst r
   exact AU (xr (Ah (L:=[(8,(.bool true))]) (.same U)))
  refine Ab (Ay (σ:=Int) (fun n v=>EH p0 p1 p2 p3 rec_spec_typeOf n v=some o11) (fun i10=>⟨27,Aa [(1,(ls eI p1)),(2,(ls AD p2)),(3,(i64 p3)),(4,(.ptr 0 0 0 0)),(9,(i64 i10))],[(Fy p0.decls p0.funcs)]⟩) N 0 h1 (AG U) (fun _ hv=>by rw[EH] at hv;cases hv) ?_)
  rintro n i10 h1
  try dsimp only at h1 ⊢
  rw[EH] at h1
  refine AH fun K13 hK13=>zr tb U U ?_
  refine ci h1 U ?_ ?_ <;> clear h1
  ·intro b15 h1
   refine AR (hK13 _ (AH fun K16 hK16=>Ab (AH fun K17 hK17=>?_)))
   refine CC (by kernel_rfl) (by kernel_rfl) (by rfl) ?_
   iterate 4 refine yq tb rfl ?_
   refine bs h1 fun c18 gc18 h1=>yz (.Al [(i64 c18.op),(i64 c18.num),(ls AD c18.kids)] 0) (CK BV U U gc18 (Ap _) rfl) rfl (yq tb U (bs h1 fun q19 gq19 h1=>BS (v:=(i64 q19)) AM KM (hrec_spec_typeOf gq19) rfl U U (yq tb U (Ax (hK17 _ ?_)))))
   refine ci h1 U ?_ ?_ <;> clear h1
   ·intro b20 h1
    have b21:decide (q19=0)=false:=by simpa using b20
    refine zr tb U U ?_
    replace h1:=Sh.AE h1
    subst o11
    try dsimp only[id] at h0
    replace h0:=Sh.AE h0
    subst r
    exact AU (xr (As [(8,(.bool false))] U))
   ·intro b20 h1
    have b23:decide (q19=0)=true:=by simpa using b20
    exact AR (hK16 _ (AL U (zm tb 3 U (AA (xi (Sh.w (i10+1)) h1 (AG U))))))
  ·intro b15 h1
   exact A5 (M11 () (Sh.AE h1).symm _ (As _ U))
theorem JG {N:Nat} {rec_spec_typeOf:Af→(List Int)→AP→Option (Int)} (hrec_spec_typeOf :∀{p0:Af} {p1:(List Int)} {p2:AP} {r:Int},rec_spec_typeOf p0 p1 p2=some r→Ai Try.prog 44 [(.agg [(ls AI p0.decls),(ls AJ p0.funcs)]),(ls eI p1),(.agg [(i64 p2.op),(i64 p2.num),(ls AD p2.kids)])] [] (fun v st=>v=(i64 r)∧st=[])) {p0:Af} {p1:(List Int)} {p2:(List AP)} {p3:(List Int)} {r:Bool} (h0:G1 N rec_spec_typeOf p0 p1 p2 p3=some r):Ai Try.prog 71 [(.agg [(ls AI p0.decls),(ls AJ p0.funcs)]),(ls eI p1),(ls AD p2),(ls eI p3)] [] (fun v st=>v=(.bool r)∧st=[]):=by
 unfold G1 at h0
 refine ai Try.func71 U U U U (sr U fun K1 hK1=>Bl (m:=0) AM U U U U U (zq tb U (dn hK1 U (AH fun K2 hK2=>sr U fun K3 hK3=>zq tb U (zl tb U U (zq tb U (zl tb U U (zq tb U ?_))))))))
 refine dn hK3 U ?_
 refine ci h0 U ?_ ?_ <;> clear h0
 ·intro b4 h0
  have b5:decide ((Sh.len p2)=(Sh.len p3))=false:=by simpa using b4
  refine zr tb U U ?_
  replace h0:=Sh.AE h0
  subst r
  exact AU (xr (As [(8,(.bool false))] U))
 ·intro b4 h0
  have b7:decide ((Sh.len p2)=(Sh.len p3))=true:=by simpa using b4
  refine AR (hK2 _ (AH fun K8 hK8=>zr tb U U ?_))
  obtain⟨o11,h1,h0⟩:=Sh.BZ h0
  have M11 :∀(_:Unit),o11=Sum.inr ()→∀s,Wk 0 s ⟨33,Aa [],[]⟩→K8 s:=by
   intro _ hq s hw
   subst o11
   try dsimp only at h0
   refine hK8 _ (AN hw (zr tb U U ?_))
   replace h0:=Sh.AE h0
   subst r
   exact AU (xr (Ah (L:=[(8,(.bool true))]) (.same U)))
  refine Ab (Ay (σ:=Int) (fun n v=>Ev p0 p1 p2 p3 rec_spec_typeOf n v=some o11) (fun i10=>⟨33,Aa [(1,(ls eI p1)),(2,(ls AD p2)),(3,(ls eI p3)),(4,(.ptr 0 0 0 0)),(9,(i64 i10))],[(Fy p0.decls p0.funcs)]⟩) N 0 h1 (AG U) (fun _ hv=>by rw[Ev] at hv;cases hv) ?_)
  rintro n i10 h1
  try dsimp only at h1 ⊢
  rw[Ev] at h1
  refine AH fun K13 hK13=>sr U fun K14 hK14=>zm tb 2 U (zl tb U U (zq tb U (dn hK14 U ?_)))
  refine ci h1 U ?_ ?_ <;> clear h1
  ·intro b15 h1
   refine AR (hK13 _ (AH fun K16 hK16=>Ab (AH fun K17 hK17=>?_)))
   refine CC (by kernel_rfl) (by kernel_rfl) (by rfl) ?_
   iterate 4 refine yq tb rfl ?_
   refine bs h1 fun c18 gc18 h1=>yz (.Al [(i64 c18.op),(i64 c18.num),(ls AD c18.kids)] 0) (CK BV U U gc18 (Ap _) rfl) rfl (yq tb U (bs h1 fun q19 gq19 h1=>BS (v:=(i64 q19)) AM KM (hrec_spec_typeOf gq19) rfl U U ?_))
   iterate 2 refine yq tb rfl ?_
   refine bs h1 fun c20 gc20 h1=>yx A4 gc20 U U U ?_
   iterate 2 refine yq tb rfl ?_
   refine Ax (hK17 _ ?_)
   refine ci h1 U ?_ ?_ <;> clear h1
   ·intro b21 h1
    have b22:decide (q19=c20)=false:=by simpa using b21
    refine zr tb U U ?_
    replace h1:=Sh.AE h1
    subst o11
    try dsimp only[id] at h0
    replace h0:=Sh.AE h0
    subst r
    exact AU (xr (As [(8,(.bool false))] U))
   ·intro b21 h1
    have b24:decide (q19=c20)=true:=by simpa using b21
    exact AR (hK16 _ (AL U (zm tb 3 U (AA (xi (Sh.w (i10+1)) h1 (AG U))))))
  ·intro b15 h1
   exact A5 (M11 () (Sh.AE h1).symm _ (As _ U))
theorem ND {N:Nat} {rec_spec_typeOf:Af→(List Int)→AP→Option (Int)} (hrec_spec_typeOf :∀{p0:Af} {p1:(List Int)} {p2:AP} {r:Int},rec_spec_typeOf p0 p1 p2=some r→Ai Try.prog 44 [(.agg [(ls AI p0.decls),(ls AJ p0.funcs)]),(ls eI p1),(.agg [(i64 p2.op),(i64 p2.num),(ls AD p2.kids)])] [] (fun v st=>v=(i64 r)∧st=[])) {p0:Af} {p1:(List Int)} {p2:AP} {r:Int} (h0:HY N rec_spec_typeOf p0 p1 p2=some r):Ai Try.prog 74 [(.agg [(ls AI p0.decls),(ls AJ p0.funcs)]),(ls eI p1),(.agg [(i64 p2.op),(i64 p2.num),(ls AD p2.kids)])] [] (fun v st=>v=(i64 r)∧st=[]):=by
 unfold HY at h0
 refine ai Try.func74 U U U U (sr U fun K1 hK1=>Bl (m:=0) AM U U U U U (Bl (m:=1) AM U U U U U (zq tb U (dn hK1 U (sr U fun K2 hK2=>zm tb 4 U (bs h0 fun q3 gq3 h0=>Bz (v':=(ow 2 0 q3)) AM Sc (Hc gq3) rfl U ⟨(Bi fun _=>U),trivial⟩ U U (zq tb U (dn hK2 U ?_))))))))
 refine AH fun K4 hK4=>AH fun K5 hK5=>bs h0 fun o7 h1 h0=>?_
 have M7 :∀(t6:Bool),o7=t6→∀s,Wk 0 s ⟨79,Aa [(1,(ls eI p1)),(3,(.ptr 0 0 0 0)),(5,(.ptr 1 0 0 0)),(7,(ow 2 0 q3)),(38,(.bool t6))],[(Fy p0.decls p0.funcs),(Od p2.op p2.num p2.kids),(ro 0 3 1 eI q3)]⟩→K5 s:=by
  intro t6 hq s hw
  subst o7
  try dsimp only at h0
  refine hK5 _ (AN hw ?_)
  refine ci h0 U ?_ ?_ <;> clear h0
  ·intro b8 h0
   refine zr tb U U ?_
   replace h0:=Sh.AE h0
   subst r
   exact AU (xr (As [(6,(i64 (-1)))] U))
  ·intro b8 h0
   refine AR (hK4 _ (AH fun K10 hK10=>?_))
   refine CL 14 (by kernel_rfl) (by kernel_rfl) (by rfl) ?_
   iterate 5 refine yq tb rfl ?_
   refine bs h0 fun c11 gc11 h0=>yz (.ptr 2 0 (Int.toNat 0) 0) (Bn A4 U U U U gc11) rfl (yz (i64 c11) (B1 F6 U U (Bs gc11) rfl) rfl (bs h0 fun q12 gq12 h0=>BS (v:=(ls eI q12)) AM Qb (EE gq12) rfl U U (bs h0 fun q13 gq13 h0=>?_)))
   refine BS (v:=(ls eI q13)) AM Nh (Ai.wk (D8 gq13) (by refine Wk.trans (Wk.A7 (L:=[(0,(ls eI q13))]) (st':=[⟨1,3,1,[]⟩]) (id:=0) rfl (show 0≤0 by decide) (AB fun _=>U) ⟨(.A7 U),trivial⟩ U) ?_;exact AS [] U (by decide) rfl U .nil (.same U))) rfl U U ?_
   iterate 2 refine yq tb rfl ?_
   refine bs h0 fun c14 gc14 h0=>yz (.Al [(i64 c14.op),(i64 c14.num),(ls AD c14.kids)] 0) (CK BV U U gc14 (Ap _) rfl) rfl (yq tb U (bs h0 fun q15 gq15 h0=>BS (v:=(i64 q15)) AM KM (hrec_spec_typeOf gq15) rfl U U (Ax (zq tb U (dn hK10 U (AH fun K16 hK16=>zr tb U U ?_))))))
   obtain⟨o19,h1,h0⟩:=Sh.BZ h0
   have M19 :∀(_:Unit),o19=Sum.inr ()→∀s,Wk 0 s ⟨79,Aa [(8,(i64 q15))],[]⟩→K16 s:=by
    intro _ hq s hw
    subst o19
    try dsimp only at h0
    refine hK16 _ (AN hw (zr tb U U ?_))
    replace h0:=Sh.AE h0
    subst r
    exact AU (xr (Ah (L:=[(6,(i64 q15))]) (.same U)))
   refine Ab (Ay (σ:=Int) (fun n v=>C2 N p0 p1 p2 q15 q3 rec_spec_typeOf n v=some o19) (fun i18=>⟨79,Aa [(1,(ls eI p1)),(3,(.ptr 0 0 0 0)),(5,(.ptr 1 0 0 0)),(7,(ow 2 0 q3)),(8,(i64 q15)),(9,(i64 i18))],[(Fy p0.decls p0.funcs),(Od p2.op p2.num p2.kids),(ro 0 3 1 eI q3)]⟩) N 1 h1 (AG U) (fun _ hv=>by rw[C2] at hv;cases hv) ?_)
   rintro n i18 h1
   try dsimp only at h1 ⊢
   rw[C2] at h1
   refine AH fun K21 hK21=>sr U fun K22 hK22=>zm tb 2 U (zz (i64 (Sh.len q3)) (CW Em U U U) rfl (zq tb U (dn hK22 U ?_)))
   refine ci h1 U ?_ ?_ <;> clear h1
   ·intro b23 h1
    refine AR (hK21 _ (AH fun K24 hK24=>Ab (AH fun K25 hK25=>?_)))
    refine CL 18 (by kernel_rfl) (by kernel_rfl) (by rfl) ?_
    iterate 6 refine yq tb rfl ?_
    refine bs h1 fun c26 gc26 h1=>yz (.ptr 2 0 (Int.toNat i18) 0) (Bn A4 U U U U gc26) rfl (yz (i64 c26) (B1 F6 U U (Bs gc26) rfl) rfl (bs h1 fun q27 gq27 h1=>BS (v:=(ls eI q27)) AM Qb (EE gq27) rfl U U (bs h1 fun q28 gq28 h1=>?_)))
    refine BS (v:=(ls eI q28)) AM Nh (Ai.wk (D8 gq28) (by refine Wk.trans (Wk.A7 (L:=[(0,(ls eI q28))]) (st':=[⟨1,3,1,[]⟩]) (id:=0) rfl (show 0≤0 by decide) (AB fun _=>U) ⟨(.A7 U),trivial⟩ U) ?_;exact AS [] U (by decide) rfl U .nil (.same U))) rfl U U ?_
    iterate 4 refine yq tb rfl ?_
    refine bs h1 fun c29 gc29 h1=>yz (.Al [(i64 c29.op),(i64 c29.num),(ls AD c29.kids)] 0) (CK BV U U gc29 (Ap _) rfl) rfl (yq tb U (bs h1 fun q30 gq30 h1=>BS (v:=(i64 q30)) AM KM (hrec_spec_typeOf gq30) rfl U U (yq tb U (Ax (zq tb U (dn hK25 U ?_))))))
    refine ci h1 U ?_ ?_ <;> clear h1
    ·intro b31 h1
     have b32:decide (q30=q15)=false:=by simpa using b31
     refine zr tb U U ?_
     replace h1:=Sh.AE h1
     subst o19
     try dsimp only[id] at h0
     replace h0:=Sh.AE h0
     subst r
     exact AU (xr (As [(6,(i64 (-1)))] U))
    ·intro b31 h1
     have b34:decide (q30=q15)=true:=by simpa using b31
     exact AR (hK24 _ (AL U (zm tb 3 U (AA (xi (Sh.w (i18+1)) h1 (AG U))))))
   ·intro b23 h1
    exact A5 (M19 () (Sh.AE h1).symm _ (As _ U))
 refine CC (by kernel_rfl) (by kernel_rfl) (by rfl) ?_
 refine yq tb U (yz (i64 (Sh.len q3)) (CW Em U U U) rfl ?_)
 iterate 2 refine yq tb rfl ?_
 rcases Sh.Am h1 with ⟨b35,h1⟩ | ⟨b35,h1⟩
 ·refine ys b35 U ?_
  iterate 6 refine ys b35 rfl ?_
  refine yt b35 U (yq tb U ?_)
  iterate 10 refine ys rfl rfl ?_
  exact yt U U (Ax (M7 true (Sh.AE h1).symm _ (AG U)))
 ·refine yg tb b35 U (yg tb b35 U (HN (v:=(i64 (Sh.len p2.kids))) (Bw U U b35) rfl (B6 R6 U) (yg tb b35 U (HN (v:=(i64 (Sh.len q3))) (Bw U U b35) rfl (CW Em U U U) ?_))))
  iterate 2 refine yg tb b35 rfl ?_
  refine yf b35 U (yq tb U ?_)
  rcases Sh.Am h1 with ⟨b36,h1⟩ | ⟨b36,h1⟩
  ·refine ys b36 U ?_
   iterate 9 refine ys b36 rfl ?_
   exact yt b36 U (Ax (M7 true (Sh.AE h1).symm _ (AG U)))
  ·refine yg tb b36 U ?_
   iterate 3 refine yg tb b36 rfl ?_
   refine bs h1 fun c37 gc37 h1=>HN (v:=(.Al [(i64 c37.op),(i64 c37.num),(ls AD c37.kids)] 0)) (Bw U U b36) rfl (CK BV U U gc37 (Ap _) rfl) (yg tb b36 U (bs h1 fun q38 gq38 h1=>BS (v:=(i64 q38)) (Bw U U b36) KM (hrec_spec_typeOf gq38) rfl U U ?_))
   iterate 3 refine yg tb b36 rfl ?_
   exact yf b36 U (Ax (M7 (!decide (q38=p2.num)) (Sh.AE h1).symm _ (AG U)))
theorem Nl {N:Nat} {rec_spec_typeOf:Af→(List Int)→AP→Option (Int)} (hrec_spec_typeOf :∀{p0:Af} {p1:(List Int)} {p2:AP} {r:Int},rec_spec_typeOf p0 p1 p2=some r→Ai Try.prog 44 [(.agg [(ls AI p0.decls),(ls AJ p0.funcs)]),(ls eI p1),(.agg [(i64 p2.op),(i64 p2.num),(ls AD p2.kids)])] [] (fun v st=>v=(i64 r)∧st=[])) {p0:Af} {p1:(List Int)} {p2:AP} {r:Int} (h0:EV N rec_spec_typeOf p0 p1 p2=some r):Ai Try.prog 75 [(.agg [(ls AI p0.decls),(ls AJ p0.funcs)]),(ls eI p1),(.agg [(i64 p2.op),(i64 p2.num),(ls AD p2.kids)])] [] (fun v st=>v=(i64 r)∧st=[]):=by
 unfold EV at h0
 refine ai Try.func75 U U U U (sr U fun K1 hK1=>Bl (m:=0) AM U U U U U (Bl (m:=1) AM U U U U U (zq tb U (dn hK1 U (AH fun K2 hK2=>sr U fun K3 hK3=>zm tb 4 U (zl tb U U (zq tb U (bs h0 fun q4 gq4 h0=>?_))))))))
 refine zc LB (CN gq4) rfl U U (zq tb U (dn hK3 U ?_))
 refine ci h0 U ?_ ?_ <;> clear h0
 ·intro b5 h0
  have b6:q4=false:=by simpa using b5
  refine zr tb U U ?_
  replace h0:=Sh.AE h0
  subst r
  exact AU (xr (As [(6,(i64 (-1)))] U))
 ·intro b5 h0
  have b8:q4=true:=by simpa using b5
  refine AR (hK2 _ (sr U fun K9 hK9=>zm tb 4 U (bs h0 fun c10 gc10 h0=>zx DD gc10 U U U (zq tb U (A1 (m:=2) AM LD U U (Az AM Iy U U U U U U (show 0+5≤5 by decide) rfl (dn hK9 U (sr U fun K11 hK11=>zm tb 2 U (zl tb U U ?_)))))))))
  refine zq tb U (dn hK11 U (AH fun K12 hK12=>zr tb U U ?_))
  refine ci h0 U ?_ ?_ <;> clear h0
  ·intro b14 h0
   refine AH fun K15 hK15=>sr U fun K16 hK16=>zm tb 6 U (bs h0 fun q17 gq17 h0=>zc Wh (JG hrec_spec_typeOf gq17) rfl U U (zq tb U (dn hK16 U ?_)))
   refine ci h0 U ?_ ?_ <;> clear h0
   ·intro b18 h0
    have b19:q17=false:=by simpa using b18
    refine zr tb U U ?_
    replace h0:=Sh.AE h0
    subst r
    exact AU (xr (As [(6,(i64 (-1)))] U))
   ·intro b18 h0
    have b21:q17=true:=by simpa using b18
    refine AR (hK15 _ (zr tb U U ?_))
    replace h0:=Sh.AE h0
    subst r
    exact AU (xr (As [(6,(i64 c10.result))] U))
  ·intro b14 h0
   refine AR (hK12 _ (AH fun K23 hK23=>AH fun K24 hK24=>bs h0 fun o26 h1 h0=>?_))
   have M26 :∀(t25:Bool),o26=t25→∀s,Wk 0 s ⟨65,Aa [(3,(.ptr 0 0 0 0)),(7,(.ptr 1 0 0 0)),(8,(i64 (Sh.len c10.params))),(53,(.bool t25))],[(Fy p0.decls p0.funcs),⟨0,52,5,[[(ls eI c10.params),(i64 c10.result),(i64 c10.body.op),(i64 c10.body.num),(ls AD c10.body.kids)]]⟩]⟩→K24 s:=by
    intro t25 hq s hw
    subst o26
    try dsimp only at h0
    refine hK24 _ (AN hw ?_)
    refine ci h0 U ?_ ?_ <;> clear h0
    ·intro b27 h0
     refine zr tb U U ?_
     replace h0:=Sh.AE h0
     subst r
     exact AU (xr (As [(6,(i64 (-1)))] U))
    ·intro b27 h0
     refine AR (hK23 _ (AH fun K29 hK29=>?_))
     refine CC (by kernel_rfl) (by kernel_rfl) (by rfl) ?_
     iterate 6 refine yq tb rfl ?_
     refine bs h0 fun c30 gc30 h0=>yx A4 gc30 U U U ?_
     iterate 3 refine yq tb rfl ?_
     refine bs h0 fun q31 gq31 h0=>BS (v:=(i64 q31)) AM WV (J8 gq31) rfl U U (yq tb U (Ax (hK29 _ ?_)))
     replace h0:=Sh.AE h0
     subst r
     exact AU (xr (As [(6,(i64 q31))] U))
   refine CL 14 (by kernel_rfl) (by kernel_rfl) (by rfl) ?_
   iterate 3 refine yq tb rfl ?_
   rcases Sh.Am h1 with ⟨b32,h1⟩ | ⟨b32,h1⟩
   ·refine ys b32 U ?_
    iterate 10 refine ys b32 rfl ?_
    refine Ax (zt b32 U ?_)
    exact AA (M26 true (Sh.AE h1).symm _ (AS [0,2] U (by decide) rfl U (.raw U U (.raw U U .nil)) (.same U)))
   ·refine yg tb b32 U ?_
    iterate 7 refine yg tb b32 rfl ?_
    refine bs h1 fun l33 gl33 h1=>T4 (i:=0) (j:=Sh.w ((Sh.len c10.params) - 1)) (Bw U U b32) A4 U U U (fun _=>U) gl33 (bs h1 fun q34 gq34 h1=>BS (v:=(.bool q34)) (Bw U U b32) Wh (JG hrec_spec_typeOf gq34) rfl U U (yg tb b32 U (Ax (zf b32 U ?_))))
    exact AA (M26 (!q34) (Sh.AE h1).symm _ (AS [0,2] U (by decide) rfl U (.raw U U (.raw U U .nil)) (.same U)))
theorem NZ {N:Nat} {rec_spec_typeOf:Af→(List Int)→AP→Option (Int)} (hrec_spec_typeOf :∀{p0:Af} {p1:(List Int)} {p2:AP} {r:Int},rec_spec_typeOf p0 p1 p2=some r→Ai Try.prog 44 [(.agg [(ls AI p0.decls),(ls AJ p0.funcs)]),(ls eI p1),(.agg [(i64 p2.op),(i64 p2.num),(ls AD p2.kids)])] [] (fun v st=>v=(i64 r)∧st=[])) {p0:Af} {p1:(List Int)} {p2:AP} {r:Int} (h0:Be N rec_spec_typeOf p0 p1 p2=some r):Ai Try.prog 44 [(.agg [(ls AI p0.decls),(ls AJ p0.funcs)]),(ls eI p1),(.agg [(i64 p2.op),(i64 p2.num),(ls AD p2.kids)])] [] (fun v st=>v=(i64 r)∧st=[]):=by
 unfold Be at h0
 refine ai Try.func44 U U U U (sr U fun K1 hK1=>Bl (m:=0) AM U U U U U (Bl (m:=1) AM U U U U U (zq tb U (dn hK1 U (zr tb U U (AH fun K3 hK3=>?_))))))
 obtain⟨o4,h1,h0⟩:=Sh.BZ h0
 have M4 :∀(_:Unit),o4=Sum.inr ()→∀s,Wk 0 s ⟨215,Aa [],[]⟩→K3 s:=by
  intro _ hq s hw
  subst o4
  try dsimp only at h0
  refine hK3 _ (AN hw (zr tb U U ?_))
  replace h0:=Sh.AE h0
  subst r
  exact AU (xr (Ah (L:=[(6,(i64 (-1)))]) (.same U)))
 refine zr tb U U (Ab (zr tb U U ?_))
 refine ci h1 U ?_ ?_ <;> clear h1
 ·intro b8 h1
  refine AH fun K9 hK9=>bs h1 fun o11 h2 h1=>?_
  have M11 :∀(t10:Bool),o11=t10→∀s,Wk 0 s ⟨215,Aa [(26,(.bool t10))],[]⟩→K9 s:=by
   intro t10 hq s hw
   subst o11
   try dsimp only at h1
   refine hK9 _ (AN hw ?_)
   refine ci h1 U ?_ ?_ <;> clear h1
   ·intro b12 h1
    refine zr tb U U ?_
    replace h1:=Sh.AE h1
    subst o4
    try dsimp only[id] at h0
    replace h0:=Sh.AE h0
    subst r
    exact AU (xr (Ah (L:=[(6,(i64 0))]) (.same U)))
   ·intro b12 h1
    exact AR (M4 () (Sh.AE h1).symm _ (AG U))
  refine AL U (zm tb 2 U (zl tb U U (zm tb 2 U ?_)))
  rcases Sh.Am h2 with ⟨b14,h2⟩ | ⟨b14,h2⟩
  ·exact zg tb b14 U (zg tb b14 U (bs h2 fun q15 gq15 h2=>zd b14 LB (CN gq15) rfl U U U (zt b14 U (AA (M11 q15 (Sh.AE h2).symm _ (As _ U))))))
  ·exact zs b14 U (zs b14 U (zs b14 U (zf b14 U (AA (M11 false (Sh.AE h2).symm _ (As _ U))))))
 ·intro b8 h1
  refine zr tb U U ?_
  refine ci h1 U ?_ ?_ <;> clear h1
  ·intro b17 h1
   refine AH fun K18 hK18=>bs h1 fun o20 h2 h1=>?_
   have M20 :∀(t19:Bool),o20=t19→∀s,Wk 0 s ⟨215,Aa [(1,(ls eI p1)),(5,(.ptr 0 0 0 0)),(40,(.bool t19))],[(Od p2.op p2.num p2.kids)]⟩→K18 s:=by
    intro t19 hq s hw
    subst o20
    try dsimp only at h1
    refine hK18 _ (AN hw ?_)
    refine ci h1 U ?_ ?_ <;> clear h1
    ·intro b21 h1
     refine sr U fun K22 hK22=>zm tb 3 U (bs h1 fun c23 gc23 h1=>zx A4 gc23 U U U (zm tb 2 U (dn hK22 U ?_)))
     replace h1:=Sh.AE h1
     subst o4
     try dsimp only[id] at h0
     replace h0:=Sh.AE h0
     subst r
     exact AU (xr (As [(6,(i64 c23))] U))
    ·intro b21 h1
     exact AR (M4 () (Sh.AE h1).symm _ (As _ U))
   refine AL U (zm tb 2 U (zl tb U U (zm tb 2 U ?_)))
   rcases Sh.Am h2 with ⟨b24,h2⟩ | ⟨b24,h2⟩
   ·refine zg tb b24 U (zg tb b24 U (zg tb b24 U (B3 (v:=(i64 (Sh.len p1))) (Bw U U b24) rfl (B6 Em U) (zg tb b24 U (bs h2 fun q25 gq25 h2=>zd b24 LB (CN gq25) rfl U U U (zt b24 U ?_))))))
    exact AA (M20 q25 (Sh.AE h2).symm _ (AS [1] U (by decide) rfl U (.raw U U .nil) (.same U)))
   ·refine zs b24 U ?_
    iterate 5 refine zs b24 rfl ?_
    refine zf b24 U ?_
    exact AA (M20 false (Sh.AE h2).symm _ (AS [1] U (by decide) rfl U (.raw U U .nil) (.same U)))
  ·intro b17 h1
   refine AH fun K26 hK26=>bs h1 fun o28 h2 h1=>?_
   have M28 :∀(t27:Bool),o28=t27→∀s,Wk 0 s ⟨215,Aa [(1,(ls eI p1)),(3,(.ptr 0 0 0 0)),(5,(.ptr 1 0 0 0)),(7,(.bool (decide (p2.num=0)))),(15,(i64 p2.op)),(46,(.bool t27))],[(Fy p0.decls p0.funcs),(Od p2.op p2.num p2.kids)]⟩→K26 s:=by
    intro t27 hq s hw
    subst o28
    try dsimp only at h1
    refine hK26 _ (AN hw ?_)
    refine ci h1 U ?_ ?_ <;> clear h1
    ·intro b29 h1
     refine AH fun K30 hK30=>bs h1 fun o32 h2 h1=>?_
     have M32 :∀(t31:Bool),o32=t31→∀s,Wk 0 s ⟨215,Aa [(58,(.bool t31))],[]⟩→K30 s:=by
      intro t31 hq s hw
      subst o32
      try dsimp only at h1
      refine hK30 _ (AN hw ?_)
      refine ci h1 U ?_ ?_ <;> clear h1
      ·intro b33 h1
       refine zr tb U U ?_
       replace h1:=Sh.AE h1
       subst o4
       try dsimp only[id] at h0
       replace h0:=Sh.AE h0
       subst r
       exact AU (xr (Ah (L:=[(6,(i64 0))]) (.same U)))
      ·intro b33 h1
       exact AR (M4 () (Sh.AE h1).symm _ (AG U))
     refine AL U (zm tb 2 U ?_)
     rcases Sh.Am h2 with ⟨b35,h2⟩ | ⟨b35,h2⟩
     ·refine zg tb b35 U ?_
      iterate 3 refine zg tb b35 rfl ?_
      exact bs h2 fun q36 gq36 h2=>zd b35 X1 (KG hrec_spec_typeOf gq36) rfl U U U (zt b35 U (AA (M32 q36 (Sh.AE h2).symm _ (As _ U))))
     ·refine zs b35 U ?_
      iterate 4 refine zs b35 rfl ?_
      exact zf b35 U (AA (M32 false (Sh.AE h2).symm _ (As _ U)))
    ·intro b29 h1
     refine zr tb U U ?_
     refine ci h1 U ?_ ?_ <;> clear h1
     ·intro b38 h1
      refine AH fun K39 hK39=>bs h1 fun o41 h2 h1=>?_
      have M41 :∀(t40:Bool),o41=t40→∀s,Wk 0 s ⟨215,Aa [(68,(.bool t40))],[]⟩→K39 s:=by
       intro t40 hq s hw
       subst o41
       try dsimp only at h1
       refine hK39 _ (AN hw ?_)
       refine ci h1 U ?_ ?_ <;> clear h1
       ·intro b42 h1
        refine zr tb U U ?_
        replace h1:=Sh.AE h1
        subst o4
        try dsimp only[id] at h0
        replace h0:=Sh.AE h0
        subst r
        exact AU (xr (Ah (L:=[(6,(i64 0))]) (.same U)))
       ·intro b42 h1
        exact AR (M4 () (Sh.AE h1).symm _ (AG U))
      refine AL U (zm tb 2 U ?_)
      rcases Sh.Am h2 with ⟨b44,h2⟩ | ⟨b44,h2⟩
      ·refine zg tb b44 U ?_
       iterate 3 refine zg tb b44 rfl ?_
       exact bs h2 fun q45 gq45 h2=>zd b44 X1 (KG hrec_spec_typeOf gq45) rfl U U U (zt b44 U (AA (M41 q45 (Sh.AE h2).symm _ (As _ U))))
      ·refine zs b44 U ?_
       iterate 4 refine zs b44 rfl ?_
       exact zf b44 U (AA (M41 false (Sh.AE h2).symm _ (As _ U)))
     ·intro b38 h1
      refine zr tb U U ?_
      refine ci h1 U ?_ ?_ <;> clear h1
      ·intro b47 h1
       refine AH fun K48 hK48=>bs h1 fun o50 h2 h1=>?_
       have M50 :∀(t49:Bool),o50=t49→∀s,Wk 0 s ⟨215,Aa [(3,(.ptr 0 0 0 0)),(5,(.ptr 1 0 0 0)),(88,(.bool t49))],[(Fy p0.decls p0.funcs),(Od p2.op p2.num p2.kids)]⟩→K48 s:=by
        intro t49 hq s hw
        subst o50
        try dsimp only at h1
        refine hK48 _ (AN hw ?_)
        refine ci h1 U ?_ ?_ <;> clear h1
        ·intro b51 h1
         refine sr U fun K52 hK52=>zm tb 4 U (bs h1 fun q53 gq53 h1=>zc Wv (II gq53) rfl U U (zq tb U (dn hK52 U ?_)))
         replace h1:=Sh.AE h1
         subst o4
         try dsimp only[id] at h0
         replace h0:=Sh.AE h0
         subst r
         exact AU (xr (As [(6,(i64 q53))] U))
        ·intro b51 h1
         exact AR (M4 () (Sh.AE h1).symm _ (As _ U))
       refine CL 17 (by kernel_rfl) (by kernel_rfl) (by rfl) ?_
       iterate 4 refine yq tb rfl ?_
       refine bs h2 fun q54 gq54 h2=>BS (v:=(i64 q54)) AM Wv (II gq54) rfl U U ?_
       iterate 2 refine yq tb rfl ?_
       rcases Sh.Am h2 with ⟨b55,h2⟩ | ⟨b55,h2⟩
       ·refine yg tb b55 U ?_
        iterate 7 refine yg tb b55 rfl ?_
        exact bs h2 fun q56 gq56 h2=>BS (v:=(ls eI q56)) (Bw U U b55) Qb (EE gq56) rfl U U (bs h2 fun q57 gq57 h2=>BS (v:=(.bool q57)) (Bw U U b55) Wh (JG hrec_spec_typeOf gq57) rfl U U (Ax (zt b55 U (AA (M50 q57 (Sh.AE h2).symm _ (AG U))))))
       ·refine ys b55 U ?_
        iterate 9 refine ys b55 rfl ?_
        exact Ax (zf b55 U (AA (M50 false (Sh.AE h2).symm _ (AG U))))
      ·intro b47 h1
       refine zr tb U U ?_
       refine ci h1 U ?_ ?_ <;> clear h1
       ·intro b59 h1
        refine AH fun K60 hK60=>bs h1 fun o62 h2 h1=>?_
        have M62 :∀(t61:Bool),o62=t61→∀s,Wk 0 s ⟨215,Aa [(1,(ls eI p1)),(3,(.ptr 0 0 0 0)),(5,(.ptr 1 0 0 0)),(102,(.bool t61))],[(Fy p0.decls p0.funcs),(Od p2.op p2.num p2.kids)]⟩→K60 s:=by
         intro t61 hq s hw
         subst o62
         try dsimp only at h1
         refine hK60 _ (AN hw ?_)
         refine ci h1 U ?_ ?_ <;> clear h1
         ·intro b63 h1
          refine AH fun K64 hK64=>?_
          refine CC (by kernel_rfl) (by kernel_rfl) (by rfl) ?_
          iterate 4 refine yq tb rfl ?_
          refine bs h1 fun c65 gc65 h1=>yz (.Al [(i64 c65.op),(i64 c65.num),(ls AD c65.kids)] 0) (CK BV U U gc65 (Ap _) rfl) rfl (yq tb U (bs h1 fun q66 gq66 h1=>BS (v:=(i64 q66)) AM KM (hrec_spec_typeOf gq66) rfl U U (yq tb U (Ax (hK64 _ (zr tb U U ?_))))))
          refine ci h1 U ?_ ?_ <;> clear h1
          ·intro b68 h1
           refine AH fun K69 hK69=>?_
           refine CL 10 (by kernel_rfl) (by kernel_rfl) (by rfl) ?_
           iterate 3 refine yq tb rfl ?_
           refine E9 (l:=[q66]) (enc:=eI) AM A4 (by decide) rfl U U U U (AB fun _=>U) ?_
           refine bs h1 fun q70 gq70 h1=>?_
           refine BS (v:=(ls eI q70)) AM Nh (Ai.wk (D8 gq70) (by refine Wk.trans (Wk.A7 (L:=[(0,(ls eI q70))]) (st':=[⟨1,3,1,[]⟩]) (id:=0) rfl (show 0≤0 by decide) (AB fun _=>U) ⟨(.A7 U),trivial⟩ U) ?_;exact AS [] U (by decide) rfl U .nil (.same U))) rfl U U ?_
           iterate 2 refine yq tb rfl ?_
           refine bs h1 fun c71 gc71 h1=>yz (.Al [(i64 c71.op),(i64 c71.num),(ls AD c71.kids)] 0) (CK BV U U gc71 (Ap _) rfl) rfl (yq tb U (bs h1 fun q72 gq72 h1=>BS (v:=(i64 q72)) AM KM (hrec_spec_typeOf gq72) rfl U U (Ax (zq tb U (dn hK69 U ?_)))))
           replace h1:=Sh.AE h1
           subst o4
           try dsimp only[id] at h0
           replace h0:=Sh.AE h0
           subst r
           exact AU (xr (As [(6,(i64 q72))] U))
          ·intro b68 h1
           exact AR (M4 () (Sh.AE h1).symm _ (As _ U))
         ·intro b63 h1
          exact AR (M4 () (Sh.AE h1).symm _ (As _ U))
        refine AL U (zm tb 2 U ?_)
        rcases Sh.Am h2 with ⟨b73,h2⟩ | ⟨b73,h2⟩
        ·exact zg tb b73 U (zg tb b73 U (B3 (v:=(i64 (Sh.len p2.kids))) (Bw U U b73) rfl (B6 R6 U) (zg tb b73 U (zt b73 U (AA (M62 (decide ((Sh.len p2.kids)=2)) (Sh.AE h2).symm _ (AG U)))))))
        ·refine zs b73 U ?_
         iterate 3 refine zs b73 rfl ?_
         exact zf b73 U (AA (M62 false (Sh.AE h2).symm _ (AG U)))
       ·intro b59 h1
        refine zr tb U U ?_
        refine ci h1 U ?_ ?_ <;> clear h1
        ·intro b75 h1
         refine AH fun K76 hK76=>bs h1 fun o78 h2 h1=>?_
         have M78 :∀(t77:Bool),o78=t77→∀s,Wk 0 s ⟨215,Aa [(1,(ls eI p1)),(3,(.ptr 0 0 0 0)),(5,(.ptr 1 0 0 0)),(140,(.bool t77))],[(Fy p0.decls p0.funcs),(Od p2.op p2.num p2.kids)]⟩→K76 s:=by
          intro t77 hq s hw
          subst o78
          try dsimp only at h1
          refine hK76 _ (AN hw ?_)
          refine ci h1 U ?_ ?_ <;> clear h1
          ·intro b79 h1
           refine AH fun K80 hK80=>?_
           refine CC (by kernel_rfl) (by kernel_rfl) (by rfl) ?_
           iterate 4 refine yq tb rfl ?_
           refine bs h1 fun c81 gc81 h1=>yz (.Al [(i64 c81.op),(i64 c81.num),(ls AD c81.kids)] 0) (CK BV U U gc81 (Ap _) rfl) rfl (yq tb U (bs h1 fun q82 gq82 h1=>BS (v:=(i64 q82)) AM KM (hrec_spec_typeOf gq82) rfl U U (yq tb U (Ax (hK80 _ (AH fun K83 hK83=>?_))))))
           refine CC (by kernel_rfl) (by kernel_rfl) (by rfl) ?_
           iterate 4 refine yq tb rfl ?_
           refine bs h1 fun c84 gc84 h1=>yz (.Al [(i64 c84.op),(i64 c84.num),(ls AD c84.kids)] 0) (CK BV U U gc84 (Ap _) rfl) rfl (yq tb U (bs h1 fun q85 gq85 h1=>BS (v:=(i64 q85)) AM KM (hrec_spec_typeOf gq85) rfl U U ?_))
           iterate 2 refine yq tb rfl ?_
           refine Ax (hK83 _ ?_)
           refine ci h1 U ?_ ?_ <;> clear h1
           ·intro b86 h1
            refine zr tb U U ?_
            replace h1:=Sh.AE h1
            subst o4
            try dsimp only[id] at h0
            replace h0:=Sh.AE h0
            subst r
            exact AU (xr (As [(6,(i64 q82))] U))
           ·intro b86 h1
            exact AR (M4 () (Sh.AE h1).symm _ (As _ U))
          ·intro b79 h1
           exact AR (M4 () (Sh.AE h1).symm _ (As _ U))
         refine CC (by kernel_rfl) (by kernel_rfl) (by rfl) ?_
         iterate 2 refine yq tb rfl ?_
         rcases Sh.Am h2 with ⟨b88,h2⟩ | ⟨b88,h2⟩
         ·refine yg tb b88 U (yg tb b88 U (HN (v:=(i64 (Sh.len p2.kids))) (Bw U U b88) rfl (B6 R6 U) (yg tb b88 U (yt b88 U (yq tb U ?_)))))
          rcases Sh.Am h2 with ⟨b89,h2⟩ | ⟨b89,h2⟩
          ·refine yg tb b89 U ?_
           iterate 3 refine yg tb b89 rfl ?_
           exact bs h2 fun c90 gc90 h2=>HN (v:=(.Al [(i64 c90.op),(i64 c90.num),(ls AD c90.kids)] 0)) (Bw U U b89) rfl (CK BV U U gc90 (Ap _) rfl) (yg tb b89 U (bs h2 fun q91 gq91 h2=>BS (v:=(i64 q91)) (Bw U U b89) KM (hrec_spec_typeOf gq91) rfl U U (yg tb b89 U (yt b89 U (Ax (M78 (decide (q91=0)) (Sh.AE h2).symm _ (AG U)))))))
          ·refine ys b89 U ?_
           iterate 7 refine ys b89 rfl ?_
           exact yf b89 U (Ax (M78 false (Sh.AE h2).symm _ (AG U)))
         ·refine ys b88 U ?_
          iterate 3 refine ys b88 rfl ?_
          refine yf b88 U (yq tb U ?_)
          iterate 8 refine ys rfl rfl ?_
          exact yf U U (Ax (M78 false (Sh.AE h2).symm _ (AG U)))
        ·intro b75 h1
         refine zr tb U U ?_
         refine ci h1 U ?_ ?_ <;> clear h1
         ·intro b93 h1
          refine sr U fun K94 hK94=>zm tb 3 U (bs h1 fun q95 gq95 h1=>zc Zb (ND hrec_spec_typeOf gq95) rfl U U (zq tb U (dn hK94 U ?_)))
          replace h1:=Sh.AE h1
          subst o4
          try dsimp only[id] at h0
          replace h0:=Sh.AE h0
          subst r
          exact AU (xr (As [(6,(i64 q95))] U))
         ·intro b93 h1
          refine AH fun K96 hK96=>bs h1 fun o98 h2 h1=>?_
          have M98 :∀(t97:Bool),o98=t97→∀s,Wk 0 s ⟨215,Aa [(1,(ls eI p1)),(3,(.ptr 0 0 0 0)),(5,(.ptr 1 0 0 0)),(7,(.bool (decide (p2.num=0)))),(15,(i64 p2.op)),(164,(.bool t97))],[(Fy p0.decls p0.funcs),(Od p2.op p2.num p2.kids)]⟩→K96 s:=by
           intro t97 hq s hw
           subst o98
           try dsimp only at h1
           refine hK96 _ (AN hw ?_)
           refine ci h1 U ?_ ?_ <;> clear h1
           ·intro b99 h1
            refine sr U fun K100 hK100=>zm tb 3 U (bs h1 fun q101 gq101 h1=>zc Zr (Nl hrec_spec_typeOf gq101) rfl U U (zq tb U (dn hK100 U ?_)))
            replace h1:=Sh.AE h1
            subst o4
            try dsimp only[id] at h0
            replace h0:=Sh.AE h0
            subst r
            exact AU (xr (As [(6,(i64 q101))] U))
           ·intro b99 h1
            refine zr tb U U ?_
            refine ci h1 U ?_ ?_ <;> clear h1
            ·intro b103 h1
             refine AH fun K104 hK104=>bs h1 fun o106 h2 h1=>?_
             have M106 :∀(t105:Bool),o106=t105→∀s,Wk 0 s ⟨215,Aa [(1,(ls eI p1)),(3,(.ptr 0 0 0 0)),(5,(.ptr 1 0 0 0)),(179,(.bool t105))],[(Fy p0.decls p0.funcs),(Od p2.op p2.num p2.kids)]⟩→K104 s:=by
              intro t105 hq s hw
              subst o106
              try dsimp only at h1
              refine hK104 _ (AN hw ?_)
              refine ci h1 U ?_ ?_ <;> clear h1
              ·intro b107 h1
               refine AH fun K108 hK108=>?_
               refine CC (by kernel_rfl) (by kernel_rfl) (by rfl) ?_
               iterate 4 refine yq tb rfl ?_
               refine bs h1 fun c109 gc109 h1=>yz (.Al [(i64 c109.op),(i64 c109.num),(ls AD c109.kids)] 0) (CK BV U U gc109 (Ap _) rfl) rfl (yq tb U (bs h1 fun q110 gq110 h1=>BS (v:=(i64 q110)) AM KM (hrec_spec_typeOf gq110) rfl U U (yq tb U (Ax (hK108 _ (AH fun K111 hK111=>bs h1 fun o113 h2 h1=>?_))))))
               have M113 :∀(t112:Bool),o113=t112→∀s,Wk 0 s ⟨215,Aa [(3,(.ptr 0 0 0 0)),(10,(i64 q110)),(207,(.bool t112))],[(Fy p0.decls p0.funcs)]⟩→K111 s:=by
                intro t112 hq s hw
                subst o113
                try dsimp only at h1
                refine hK111 _ (AN hw ?_)
                refine ci h1 U ?_ ?_ <;> clear h1
                ·intro b114 h1
                 refine sr U fun K115 hK115=>zm tb 4 U (bs h1 fun c116 gc116 h1=>zx ER gc116 U U U (zm tb 3 U (dn hK115 U ?_)))
                 replace h1:=Sh.AE h1
                 subst o4
                 try dsimp only[id] at h0
                 replace h0:=Sh.AE h0
                 subst r
                 exact AU (xr (As [(6,(i64 c116.to))] U))
                ·intro b114 h1
                 exact AR (M4 () (Sh.AE h1).symm _ (As _ U))
               refine CC (by kernel_rfl) (by kernel_rfl) (by rfl) ?_
               iterate 3 refine yq tb rfl ?_
               refine bs h2 fun q117 gq117 h2=>BS (v:=(.bool q117)) AM Ul (HD gq117) rfl U U (yq tb U ?_)
               rcases Sh.Am h2 with ⟨b118,h2⟩ | ⟨b118,h2⟩
               ·refine yg tb b118 U ?_
                iterate 3 refine yg tb b118 rfl ?_
                refine bs h2 fun c119 gc119 h2=>HN (v:=(.Al [(i64 c119.op),(i64 c119.num),(ls AD c119.kids)] 0)) (Bw U U b118) rfl (CK BV U U gc119 (Ap _) rfl) (yg tb b118 U (bs h2 fun q120 gq120 h2=>BS (v:=(i64 q120)) (Bw U U b118) KM (hrec_spec_typeOf gq120) rfl U U ?_))
                iterate 4 refine yg tb b118 rfl ?_
                refine bs h2 fun c121 gc121 h2=>HN (v:=(.Al (AI c121) 0)) (Bw U U b118) rfl (CZ ER U U gc121 U) ?_
                iterate 3 refine yg tb b118 rfl ?_
                refine yt b118 U ?_
                exact Ax (M113 (decide (q120=c121.from_)) (Sh.AE h2).symm _ (AS [0] U (by decide) rfl U (.raw U U .nil) (.same U)))
               ·refine ys b118 U ?_
                iterate 14 refine ys b118 rfl ?_
                refine yf b118 U ?_
                exact Ax (M113 false (Sh.AE h2).symm _ (AS [0] U (by decide) rfl U (.raw U U .nil) (.same U)))
              ·intro b107 h1
               exact AR (M4 () (Sh.AE h1).symm _ (As _ U))
             refine AL U (zm tb 2 U ?_)
             rcases Sh.Am h2 with ⟨b122,h2⟩ | ⟨b122,h2⟩
             ·exact zg tb b122 U (zg tb b122 U (B3 (v:=(i64 (Sh.len p2.kids))) (Bw U U b122) rfl (B6 R6 U) (zg tb b122 U (zt b122 U (AA (M106 (decide ((Sh.len p2.kids)=2)) (Sh.AE h2).symm _ (AG U)))))))
             ·refine zs b122 U ?_
              iterate 3 refine zs b122 rfl ?_
              exact zf b122 U (AA (M106 false (Sh.AE h2).symm _ (AG U)))
            ·intro b103 h1
             exact AR (M4 () (Sh.AE h1).symm _ (As _ U))
          refine zr tb U U ?_
          refine ci h2 U ?_ ?_ <;> clear h2
          ·intro b124 h2
           exact AR (M98 true (Sh.AE h2).symm _ (Ah (L:=[(1,(ls eI p1)),(3,(.ptr 0 0 0 0)),(5,(.ptr 1 0 0 0)),(7,(.bool (decide (p2.num=0)))),(15,(i64 p2.op)),(164,(.bool true))]) ⟨.rfl,.rfl,.rfl,.rfl,.rfl,(.of (congrArg AV.bool b124)),trivial⟩))
          ·intro b124 h2
           exact AL U (zm tb 2 U (AA (M98 (decide (p2.op=10)) (Sh.AE h2).symm _ (AG U))))
   refine zr tb U U ?_
   refine ci h2 U ?_ ?_ <;> clear h2
   ·intro b126 h2
    exact AR (M28 true (Sh.AE h2).symm _ (Ah (L:=[(1,(ls eI p1)),(3,(.ptr 0 0 0 0)),(5,(.ptr 1 0 0 0)),(7,(.bool (decide (p2.num=0)))),(15,(i64 p2.op)),(46,(.bool true))]) ⟨.rfl,.rfl,.rfl,.rfl,.rfl,(.of (congrArg AV.bool b126)),trivial⟩))
   ·intro b126 h2
    refine zr tb U U ?_
    refine ci h2 U ?_ ?_ <;> clear h2
    ·intro b128 h2
     exact AR (M28 true (Sh.AE h2).symm _ (Ah (L:=[(1,(ls eI p1)),(3,(.ptr 0 0 0 0)),(5,(.ptr 1 0 0 0)),(7,(.bool (decide (p2.num=0)))),(15,(i64 p2.op)),(46,(.bool true))]) ⟨.rfl,.rfl,.rfl,.rfl,.rfl,(.of (congrArg AV.bool b128)),trivial⟩))
    ·intro b128 h2
     refine zr tb U U ?_
     refine ci h2 U ?_ ?_ <;> clear h2
     ·intro b130 h2
      exact AR (M28 true (Sh.AE h2).symm _ (Ah (L:=[(1,(ls eI p1)),(3,(.ptr 0 0 0 0)),(5,(.ptr 1 0 0 0)),(7,(.bool (decide (p2.num=0)))),(15,(i64 p2.op)),(46,(.bool true))]) ⟨.rfl,.rfl,.rfl,.rfl,.rfl,(.of (congrArg AV.bool b130)),trivial⟩))
     ·intro b130 h2
      exact AL U (zm tb 2 U (AA (M28 (decide (p2.op=4)) (Sh.AE h2).symm _ (AG U))))

theorem OO {N:Nat} :∀(n:Nat),∀{p0:Af} {p1:(List Int)} {p2:AP} {r:Int},Cq N n p0 p1 p2=some r→Ai Try.prog 44 [(.agg [(ls AI p0.decls),(ls AJ p0.funcs)]),(ls eI p1),(.agg [(i64 p2.op),(i64 p2.num),(ls AD p2.kids)])] [] (fun v st=>v=(i64 r)∧st=[]):=by
 intro n
 induction n with
 | zero=>intro p0 p1 p2 r h0;cases h0
 | succ n ih=>
  intro p0 p1 p2 r h0
  rw[Cq] at h0
  exact NZ (fun h=>ih h) h0
theorem Pc {N:Nat} :∀{p0:Af} {p1:(List Int)} {p2:AP} {r:Int},I4 N p0 p1 p2=some r→Ai Try.prog 44 [(.agg [(ls AI p0.decls),(ls AJ p0.funcs)]),(ls eI p1),(.agg [(i64 p2.op),(i64 p2.num),(ls AD p2.kids)])] [] (fun v st=>v=(i64 r)∧st=[]):=by
 intro p0 p1 p2 r h0
 exact OO N h0
theorem LK {N:Nat} {p0:Af} {r:Bool} (h0:C4 N p0=some r):Ai Try.prog 22 [(.agg [(ls AI p0.decls),(ls AJ p0.funcs)])] [] (fun v st=>v=(.bool r)∧st=[]):=by
 unfold C4 at h0
 refine ai Try.func22 U U U U (sr U fun K1 hK1=>Bl (m:=0) AM U U U U U (zq tb U (dn hK1 U (AH fun K2 hK2=>sr U fun K3 hK3=>zq tb U (bs h0 fun q4 gq4 h0=>zc Zu (Mu gq4) rfl U U (zq tb U (dn hK3 U ?_)))))))
 refine ci h0 U ?_ ?_ <;> clear h0
 ·intro b5 h0
  have b6:q4=false:=by simpa using b5
  refine zr tb U U ?_
  replace h0:=Sh.AE h0
  subst r
  exact AU (xr (As [(2,(.bool false))] U))
 ·intro b5 h0
  have b8:q4=true:=by simpa using b5
  refine AR (hK2 _ (AH fun K9 hK9=>zr tb U U ?_))
  obtain⟨o12,h1,h0⟩:=Sh.BZ h0
  have M12 :∀(_:Unit),o12=Sum.inr ()→∀s,Wk 0 s ⟨45,Aa [],[]⟩→K9 s:=by
   intro _ hq s hw
   subst o12
   try dsimp only at h0
   refine hK9 _ (AN hw (zr tb U U ?_))
   replace h0:=Sh.AE h0
   subst r
   exact AU (xr (Ah (L:=[(2,(.bool true))]) (.same U)))
  refine Ab (Ay (σ:=Int) (fun n v=>B0 N p0 n v=some o12) (fun i11=>⟨45,Aa [(1,(.ptr 0 0 0 0)),(3,(i64 i11))],[(Fy p0.decls p0.funcs)]⟩) N 0 h1 (AG U) (fun _ hv=>by rw[B0] at hv;cases hv) ?_)
  rintro n i11 h1
  try dsimp only at h1 ⊢
  rw[B0] at h1
  refine AH fun K14 hK14=>sr U fun K15 hK15=>zm tb 3 U (zl tb U U (zq tb U (dn hK15 U ?_)))
  refine ci h1 U ?_ ?_ <;> clear h1
  ·intro b16 h1
   refine AR (hK14 _ (AH fun K17 hK17=>Ab (AH fun K18 hK18=>bs h1 fun o20 h2 h1=>?_)))
   have M20 :∀(t19:Bool),o20=t19→∀s,Wk 0 s ⟨45,Aa [(1,(.ptr 0 0 0 0)),(3,(i64 i11)),(44,(.bool t19))],[(Fy p0.decls p0.funcs)]⟩→K18 s:=by
    intro t19 hq s hw
    subst o20
    try dsimp only at h1
    refine hK18 _ (AN hw ?_)
    refine ci h1 U ?_ ?_ <;> clear h1
    ·intro b21 h1
     refine zr tb U U ?_
     replace h1:=Sh.AE h1
     subst o12
     try dsimp only[id] at h0
     replace h0:=Sh.AE h0
     subst r
     exact AU (xr (As [(2,(.bool false))] U))
    ·intro b21 h1
     exact AR (hK17 _ (AL U (zm tb 3 U (AA (xi (Sh.w (i11+1)) h1 (AG U))))))
   refine CC (by kernel_rfl) (by kernel_rfl) (by rfl) ?_
   iterate 3 refine yq tb rfl ?_
   refine bs h2 fun c23 gc23 h2=>yx DD gc23 U U U ?_
   iterate 2 refine yq tb rfl ?_
   refine bs h2 fun q24 gq24 h2=>BS (v:=(i64 q24)) AM V5 (IJ gq24) rfl U U ?_
   iterate 2 refine yq tb rfl ?_
   rcases Sh.Am h2 with ⟨b25,h2⟩ | ⟨b25,h2⟩
   ·refine ys b25 U ?_
    iterate 20 refine ys b25 rfl ?_
    exact yt b25 U (Ax (M20 true (Sh.AE h2).symm _ (AG U)))
   ·refine yg tb b25 U ?_
    iterate 3 refine yg tb b25 rfl ?_
    refine HN (v:=(.Al (AJ c23) 0)) (Bw U U b25) rfl (CZ DD U U gc23 U) ?_
    iterate 5 refine yg tb b25 rfl ?_
    refine HN (v:=(.Al (AJ c23) 0)) (Bw U U b25) rfl (CZ DD U U gc23 U) ?_
    iterate 2 refine yg tb b25 rfl ?_
    refine bs h2 fun q26 gq26 h2=>BS (v:=(i64 q26)) (Bw U U b25) KM (Pc gq26) rfl U U ?_
    iterate 3 refine yg tb b25 rfl ?_
    refine HN (v:=(.Al (AJ c23) 0)) (Bw U U b25) rfl (CZ DD U U gc23 U) ?_
    iterate 3 refine yg tb b25 rfl ?_
    exact yf b25 U (Ax (M20 (!decide (q26=c23.result)) (Sh.AE h2).symm _ (AG U)))
  ·intro b16 h1
   exact A5 (M12 () (Sh.AE h1).symm _ (As _ U))
theorem LH {N:Nat} {p0:(List Int)} {p1:Int} {r:(List Int)} (h0:FV N p0 p1=some r):Ai Try.prog 83 [(ls eI p0),(i64 p1)] [] (fun v st=>v=(ow 0 0 r)∧st=[(ro 0 3 1 eI r)]):=by
 unfold FV at h0
 refine ai Try.func83 U U U U (zr tb U U (sr U fun K2 hK2=>?_))
 refine A3 (m:=0) (l:=([]:List Int)) (enc:=eI) AM A4 (by decide) rfl U U U U U ?_
 refine zq tb U (dn hK2 U (zr tb U U (AH fun K4 hK4=>zr tb U U (bs h0 fun o11 h1 h0=>?_))))
 have M11 :∀(done9:Bool) (l10:(List Int)),o11=(done9,l10)→∀s,Wk 0 s ⟨49,Aa [(1,(i64 p1)),(5,(ow 0 0 l10)),(6,(.bool done9))],[(ro 0 3 1 eI l10)]⟩→K4 s:=by
  intro done9 l10 hq s hw
  subst o11
  try dsimp only at h0
  refine hK4 _ (AN hw (AH fun K12 hK12=>bs h0 fun o14 h1 h0=>?_))
  have M14 :∀(l13:(List Int)),o14=l13→∀s,Wk 0 s ⟨49,Aa [(5,(ow 0 0 l13))],[(ro 0 3 1 eI l13)]⟩→K12 s:=by
   intro l13 hq s hw
   subst o14
   try dsimp only at h0
   refine hK12 _ (AN hw (zr tb U U ?_))
   replace h0:=Sh.AE h0
   subst r
   exact AU (xr (Ah (L:=[(4,(ow 0 0 l13))]) (.same U)))
  refine zr tb U U ?_
  refine ci h1 U ?_ ?_ <;> clear h1
  ·intro b17 h1
   have b18:done9=false:=by simpa using b17
   refine AL U (zm tb 2 U ?_)
   refine A3 (m:=1) (l:=[p1]) (enc:=eI) AM A4 (by decide) rfl U U U U U ?_
   refine bs h1 fun l19 gl19 h1=>CB (l2:=[p1]) AM A4 U U U U (EO U U) (fun _=>U) gl19 U (zq tb U ?_)
   exact AA (M14 l19 (Sh.AE h1).symm _ (by refine Wk.trans (EW (L:=[(5,(ow 0 0 l19))]) (st':=[(ro 0 3 1 eI l19),(ro 0 3 1 eI [p1])]) (.pure (AB fun _=>U) (.pure (AB fun _=>U) .nil)) (.same U)) ?_;exact AS [0] U (by decide) rfl U (.pure (AB fun _=>U) .nil) (.same U)))
  ·intro b17 h1
   have b20:done9=true:=by simpa using b17
   exact AR (M14 l10 (Sh.AE h1).symm _ (AG U))
 refine Ab (Ay (σ:=Bool×Int×(List Int)) (fun n v=>CQ p0 p1 n v.1 v.2.1 v.2.2=some o11) (fun (done6,i7,l8)=>⟨49,Aa [(0,(ls eI p0)),(1,(i64 p1)),(5,(ow 0 0 l8)),(6,(.bool done6)),(7,(i64 i7))],[(ro 0 3 1 eI l8)]⟩) N (false,0,[]) h1 (AG U) (fun _ hv=>by rw[CQ] at hv;cases hv) ?_)
 rintro n ⟨done6,i7,l8⟩ h1
 try dsimp only at h1 ⊢
 rw[CQ] at h1
 refine AH fun K21 hK21=>sr U fun K22 hK22=>zm tb 2 U (zl tb U U (zq tb U (dn hK22 U ?_)))
 refine ci h1 U ?_ ?_ <;> clear h1
 ·intro b23 h1
  refine AR (hK21 _ (AH fun K24 hK24=>Ab (AH fun K25 hK25=>bs h1 fun o28 h2 h1=>?_)))
  have M28 :∀(done26:Bool) (l27:(List Int)),o28=(done26,l27)→∀s,Wk 0 s ⟨49,Aa [(0,(ls eI p0)),(1,(i64 p1)),(5,(ow 0 0 l27)),(6,(.bool done26)),(7,(i64 i7))],[(ro 0 3 1 eI l27)]⟩→K25 s:=by
   intro done26 l27 hq s hw
   subst o28
   try dsimp only at h1
   refine hK25 _ (AN hw (AL U (zm tb 3 U (bs h1 fun c29 gc29 h1=>zx A4 gc29 U U U (zq tb U ?_)))))
   refine A3 (m:=1) (l:=[c29]) (enc:=eI) AM A4 (by decide) rfl U U U U U ?_
   refine bs h1 fun l30 gl30 h1=>CB (l2:=[c29]) AM A4 U U U U (EO U U) (fun _=>U) gl30 U (zq tb U (dn hK24 U (AL U (zm tb 3 U ?_))))
   exact AA (xi (done26,Sh.w (i7+1),l30) h1 (by refine Wk.trans (EW (L:=[(0,(ls eI p0)),(1,(i64 p1)),(5,(ow 0 0 l30)),(6,(.bool done26)),(7,(i64 (Sh.w (i7+1))))]) (st':=[(ro 0 3 1 eI l30),(ro 0 3 1 eI [c29])]) (.pure (AB fun _=>U) (.pure (AB fun _=>U) .nil)) (.same U)) ?_;exact AS [0] U (by decide) rfl U (.pure (AB fun _=>U) .nil) (.same U)))
  refine AH fun K31 hK31=>bs h2 fun o33 h3 h2=>?_
  have M33 :∀(t32:Bool),o33=t32→∀s,Wk 0 s ⟨49,Aa [(0,(ls eI p0)),(1,(i64 p1)),(5,(ow 0 0 l8)),(6,(.bool done6)),(7,(i64 i7)),(24,(.bool t32))],[(ro 0 3 1 eI l8)]⟩→K31 s:=by
   intro t32 hq s hw
   subst o33
   try dsimp only at h2
   refine hK31 _ (AN hw ?_)
   refine ci h2 U ?_ ?_ <;> clear h2
   ·intro b34 h2
    refine AH fun K35 hK35=>bs h2 fun o37 h3 h2=>?_
    have M37 :∀(l36:(List Int)),o37=l36→∀s,Wk 0 s ⟨49,Aa [(0,(ls eI p0)),(1,(i64 p1)),(5,(ow 0 0 l36)),(7,(i64 i7))],[(ro 0 3 1 eI l36)]⟩→K35 s:=by
     intro l36 hq s hw
     subst o37
     try dsimp only at h2
     exact hK35 _ (AN hw (AL U (zq tb U (AA (M28 true l36 (Sh.AE h2).symm _ (AG U))))))
    refine sr U fun K38 hK38=>zm tb 2 U (bs h3 fun c39 gc39 h3=>zx A4 gc39 U U U (zm tb 3 U (dn hK38 U ?_)))
    refine ci h3 U ?_ ?_ <;> clear h3
    ·intro b40 h3
     refine AL U (zm tb 2 U ?_)
     refine A3 (m:=1) (l:=[p1]) (enc:=eI) AM A4 (by decide) rfl U U U U U ?_
     refine bs h3 fun l41 gl41 h3=>CB (l2:=[p1]) AM A4 U U U U (EO U U) (fun _=>U) gl41 U (zq tb U ?_)
     exact AA (M37 l41 (Sh.AE h3).symm _ (by refine Wk.trans (EW (L:=[(0,(ls eI p0)),(1,(i64 p1)),(5,(ow 0 0 l41)),(7,(i64 i7))]) (st':=[(ro 0 3 1 eI l41),(ro 0 3 1 eI [p1])]) (.pure (AB fun _=>U) (.pure (AB fun _=>U) .nil)) (.same U)) ?_;exact AS [0] U (by decide) rfl U (.pure (AB fun _=>U) .nil) (.same U)))
    ·intro b40 h3
     exact AR (M37 l8 (Sh.AE h3).symm _ (AG U))
   ·intro b34 h2
    exact AR (M28 done6 l8 (Sh.AE h2).symm _ (AG U))
  refine AL U (zm tb 3 U ?_)
  rcases Sh.Am h3 with ⟨b42,h3⟩ | ⟨b42,h3⟩
  ·refine zg tb b42 U (zg tb b42 U (bs h3 fun c43 gc43 h3=>B3 (v:=(.Al (eI c43) 0)) (Bw U U b42) rfl (CZ A4 U U gc43 U) ?_))
   iterate 3 refine zg tb b42 rfl ?_
   exact zt b42 U (AA (M33 (decide (p1≤c43)) (Sh.AE h3).symm _ (AG U)))
  ·refine zs b42 U ?_
   iterate 5 refine zs b42 rfl ?_
   exact zf b42 U (AA (M33 false (Sh.AE h3).symm _ (AG U)))
 ·intro b23 h1
  exact A5 (M11 done6 l8 (Sh.AE h1).symm _ (AG U))
theorem Lu {N:Nat} {rec_spec_calleesIn:AP→(List Int)→Option ((List Int))} (hrec_spec_calleesIn :∀{p0:AP} {p1:(List Int)} {r:(List Int)},rec_spec_calleesIn p0 p1=some r→Ai Try.prog 49 [(.agg [(i64 p0.op),(i64 p0.num),(ls AD p0.kids)]),(ls eI p1)] [] (fun v st=>v=(ls eI r)∧st=[])) {p0:AP} {p1:(List Int)} {r:(List Int)} (h0:Gc N rec_spec_calleesIn p0 p1=some r):Ai Try.prog 49 [(.agg [(i64 p0.op),(i64 p0.num),(ls AD p0.kids)]),(ls eI p1)] [] (fun v st=>v=(ls eI r)∧st=[]):=by
 unfold Gc at h0
 refine ai Try.func49 U U U U (sr U fun K1 hK1=>Bl (m:=0) AM U U U U U (zq tb U (dn hK1 U (AH fun K2 hK2=>bs h0 fun o4 h1 h0=>?_))))
 have M4 :∀(list3:(List Int)),o4=list3→∀s,Wk 0 s ⟨33,Aa [(1,(ls eI list3)),(2,(.ptr 0 0 0 0))],[(Od p0.op p0.num p0.kids)]⟩→K2 s:=by
  intro list3 hq s hw
  subst o4
  try dsimp only at h0
  refine hK2 _ (AN hw (AH fun K5 hK5=>zr tb U U (bs h0 fun o10 h1 h0=>?_)))
  have M10 :∀(list9:(List Int)),o10=list9→∀s,Wk 0 s ⟨33,Aa [(1,(ls eI list9))],[]⟩→K5 s:=by
   intro list9 hq s hw
   subst o10
   try dsimp only at h0
   refine hK5 _ (AN hw (zr tb U U ?_))
   replace h0:=Sh.AE h0
   subst r
   exact AU (xr (Ah (L:=[(4,(ls eI list9))]) (.same U)))
  refine Ab (Ay (σ:=(List Int)×Int) (fun n v=>CU p0 rec_spec_calleesIn n v.1 v.2=some o10) (fun (list7,i8)=>⟨33,Aa [(1,(ls eI list7)),(2,(.ptr 0 0 0 0)),(5,(i64 i8))],[(Od p0.op p0.num p0.kids)]⟩) N (list3,0) h1 (AG U) (fun _ hv=>by rw[CU] at hv;cases hv) ?_)
  rintro n ⟨list7,i8⟩ h1
  try dsimp only at h1 ⊢
  rw[CU] at h1
  refine AH fun K12 hK12=>sr U fun K13 hK13=>zm tb 3 U (zl tb U U (zq tb U (dn hK13 U ?_)))
  refine ci h1 U ?_ ?_ <;> clear h1
  ·intro b14 h1
   refine AR (hK12 _ (AH fun K15 hK15=>Ab (AL U (zm tb 3 U (bs h1 fun c16 gc16 h1=>zz (.Al [(i64 c16.op),(i64 c16.num),(ls AD c16.kids)] 0) (CK BV U U gc16 (Ap _) rfl) rfl (zm tb 2 U (bs h1 fun q17 gq17 h1=>zc Wf (hrec_spec_calleesIn gq17) rfl U U (zq tb U (dn hK15 U ?_)))))))))
   exact AL U (zm tb 3 U (AA (xi (q17,Sh.w (i8+1)) h1 (AG U))))
  ·intro b14 h1
   exact A5 (M10 list7 (Sh.AE h1).symm _ (As _ U))
 refine AH fun K18 hK18=>bs h1 fun o20 h2 h1=>?_
 have M20 :∀(t19:Bool),o20=t19→∀s,Wk 0 s ⟨33,Aa [(1,(ls eI p1)),(2,(.ptr 0 0 0 0)),(13,(.bool t19))],[(Od p0.op p0.num p0.kids)]⟩→K18 s:=by
  intro t19 hq s hw
  subst o20
  try dsimp only at h1
  refine hK18 _ (AN hw ?_)
  refine ci h1 U ?_ ?_ <;> clear h1
  ·intro b21 h1
   refine AL U (zm tb 3 U (bs h1 fun q22 gq22 h1=>Bz (v':=(ow 1 0 q22)) AM YF (LH gq22) rfl U ⟨(Bi fun _=>U),trivial⟩ U U (zq tb U ?_)))
   exact AA (M4 q22 (Sh.AE h1).symm _ (by refine Wk.trans (Wk.A7 (L:=[(1,(ls eI q22)),(2,(.ptr 0 0 0 0))]) (st':=[(Od p0.op p0.num p0.kids),⟨1,3,1,[]⟩]) (id:=1) rfl (show 0≤1 by decide) (AB fun _=>U) ⟨(.A7 U),.rfl,trivial⟩ U) ?_;exact AS [0] U (by decide) rfl U (.raw U U .nil) (.same U)))
  ·intro b21 h1
   exact AR (M4 p1 (Sh.AE h1).symm _ (AG U))
 refine AL U (zm tb 4 U ?_)
 rcases Sh.Am h2 with ⟨b23,h2⟩ | ⟨b23,h2⟩
 ·exact zs b23 U (zs b23 U (zs b23 U (zt b23 U (AA (M20 true (Sh.AE h2).symm _ (AG U))))))
 ·exact zg tb b23 U (zg tb b23 U (zg tb b23 U (zf b23 U (AA (M20 (decide (p0.op=10)) (Sh.AE h2).symm _ (AG U))))))

theorem L8 {N:Nat} :∀(n:Nat),∀{p0:AP} {p1:(List Int)} {r:(List Int)},Dw N n p0 p1=some r→Ai Try.prog 49 [(.agg [(i64 p0.op),(i64 p0.num),(ls AD p0.kids)]),(ls eI p1)] [] (fun v st=>v=(ls eI r)∧st=[]):=by
 intro n
 induction n with
 | zero=>intro p0 p1 r h0;cases h0
 | succ n ih=>
  intro p0 p1 r h0
  rw[Dw] at h0
  exact Lu (fun h=>ih h) h0
theorem JZ {N:Nat} :∀{p0:AP} {p1:(List Int)} {r:(List Int)},GM N p0 p1=some r→Ai Try.prog 49 [(.agg [(i64 p0.op),(i64 p0.num),(ls AD p0.kids)]),(ls eI p1)] [] (fun v st=>v=(ls eI r)∧st=[]):=by
 intro p0 p1 r h0
 exact L8 N h0
theorem Lb {N:Nat} {p0:Af} {p1:Int} {r:(List Int)} (h0:FZ N p0 p1=some r):Ai Try.prog 51 [(.agg [(ls AI p0.decls),(ls AJ p0.funcs)]),(i64 p1)] [] (fun v st=>v=(ow 0 0 r)∧st=[(ro 0 3 1 eI r)]):=by
 unfold FZ at h0
 refine ai Try.func51 U U U U (sr U fun K1 hK1=>Bl (m:=0) AM U U U U U (zq tb U (dn hK1 U (sr U fun K2 hK2=>zq tb U ?_))))
 refine A3 (m:=1) (l:=[p1]) (enc:=eI) AM A4 (by decide) rfl U U U U U ?_
 refine zq tb U (dn hK2 U (AH fun K3 hK3=>zr tb U U (bs h0 fun o8 h1 h0=>?_)))
 have M8 :∀(l7:(List Int)),o8=l7→∀s,Wk 0 s ⟨50,Aa [(5,(ow 0 0 l7))],[(ro 0 3 1 eI l7)]⟩→K3 s:=by
  intro l7 hq s hw
  subst o8
  try dsimp only at h0
  refine hK3 _ (AN hw (zr tb U U ?_))
  replace h0:=Sh.AE h0
  subst r
  exact AU (xr (Ah (L:=[(4,(ow 0 0 l7))]) (.same U)))
 refine Ab (Ay (σ:=Int×(List Int)) (fun n v=>Cb N p0 n v.1 v.2=some o8) (fun (round5,l6)=>⟨50,Aa [(2,(.ptr 0 0 0 0)),(5,(ow 1 0 l6)),(6,(i64 round5))],[(Fy p0.decls p0.funcs),(ro 0 3 1 eI l6)]⟩) N (0,[p1]) h1 (AG U) (fun _ hv=>by rw[Cb] at hv;cases hv) ?_)
 rintro n ⟨round5,l6⟩ h1
 try dsimp only at h1 ⊢
 rw[Cb] at h1
 refine AH fun K10 hK10=>sr U fun K11 hK11=>zm tb 3 U (zl tb U U (zq tb U (dn hK11 U ?_)))
 refine ci h1 U ?_ ?_ <;> clear h1
 ·intro b12 h1
  refine AR (hK10 _ (AH fun K13 hK13=>Ab (zr tb U U (bs h1 fun o18 h2 h1=>?_))))
  have M18 :∀(l17:(List Int)),o18=l17→∀s,Wk 0 s ⟨50,Aa [(2,(.ptr 0 0 0 0)),(5,(ow 1 0 l17)),(6,(i64 round5))],[(Fy p0.decls p0.funcs),(ro 0 3 1 eI l17)]⟩→K13 s:=by
   intro l17 hq s hw
   subst o18
   try dsimp only at h1
   exact hK13 _ (AN hw (AL U (zm tb 3 U (AA (xi (Sh.w (round5+1),l17) h1 (AG U))))))
  refine Ab (Ay (σ:=Int×(List Int)) (fun n v=>CV N p0 n v.1 v.2=some o18) (fun (i15,l16)=>⟨50,Aa [(2,(.ptr 0 0 0 0)),(5,(ow 1 0 l16)),(6,(i64 round5)),(7,(i64 i15))],[(Fy p0.decls p0.funcs),(ro 0 3 1 eI l16)]⟩) N (0,l6) h2 (AG U) (fun _ hv=>by rw[CV] at hv;cases hv) ?_)
  rintro n ⟨i15,l16⟩ h2
  try dsimp only at h2 ⊢
  rw[CV] at h2
  refine AH fun K19 hK19=>sr U fun K20 hK20=>zm tb 3 U (zl tb U U (zq tb U (dn hK20 U ?_)))
  refine ci h2 U ?_ ?_ <;> clear h2
  ·intro b21 h2
   refine AR (hK19 _ (AH fun K22 hK22=>bs h2 fun o24 h3 h2=>?_))
   have M24 :∀(l23:(List Int)),o24=l23→∀s,Wk 0 s ⟨50,Aa [(2,(.ptr 0 0 0 0)),(5,(ow 1 0 l23)),(6,(i64 round5)),(7,(i64 i15))],[(Fy p0.decls p0.funcs),(ro 0 3 1 eI l23)]⟩→K22 s:=by
    intro l23 hq s hw
    subst o24
    try dsimp only at h2
    exact hK22 _ (AN hw (AL U (zm tb 3 U (AA (xi (Sh.w (i15+1),l23) h2 (AG U))))))
   refine Ab (sr U fun K25 hK25=>zm tb 2 U (bs h3 fun q26 gq26 h3=>JC (v':=(.bool q26)) AM Ur (IW gq26) rfl (.own U U (fun _=>U) (.val U .nil)) rfl trivial U U (dn hK25 U ?_)))
   refine ci h3 U ?_ ?_ <;> clear h3
   ·intro b27 h3
    refine sr U fun K28 hK28=>zm tb 3 U (bs h3 fun c29 gc29 h3=>zx DD gc29 U U U (zm tb 2 U ?_))
    refine A3 (m:=2) (l:=([]:List Int)) (enc:=eI) AM A4 (by decide) rfl U U U U U ?_
    refine Ad (Wk.A7 (L:=[(2,(.ptr 0 0 0 0)),(5,(ow 1 0 l16)),(6,(i64 round5)),(7,(i64 i15)),(34,(.agg [(i64 c29.body.op),(i64 c29.body.num),(ls AD c29.body.kids)])),(35,(.sl (List.map eI [])))]) (st':=[(Fy p0.decls p0.funcs),(ro 0 3 1 eI l16),⟨1,3,1,[]⟩]) (id:=2) rfl (show 0≤2 by decide) (AB fun _=>U) ⟨.rfl,.rfl,.rfl,.rfl,.rfl,(.A7 U),trivial⟩ U) (bs h3 fun q30 gq30 h3=>zc Wf (JZ gq30) rfl U U (zq tb U (dn hK28 U (zr tb U U (OV fun K32 hK32=>bs h3 fun o36 h4 h3=>?_)))))
    have M36 :∀(l35:(List Int)),o36=l35→∀s,Wk 0 s ⟨50,Aa [(2,(.ptr 0 0 0 0)),(5,(ow 1 0 l35)),(6,(i64 round5)),(7,(i64 i15))],[(Fy p0.decls p0.funcs),(ro 0 3 1 eI l35)]⟩→K32 s:=by
     intro l35 hq s hw
     subst o36
     try dsimp only at h3
     exact hK32 _ (M24 l35 (Sh.AE h3).symm _ (hw.trans (Ah (L:=[(2,(.ptr 0 0 0 0)),(5,(ow 1 0 l35)),(6,(i64 round5)),(7,(i64 i15))]) (.same U))))
    refine Ab (Ay (σ:=Int×(List Int)) (fun n v=>Cc N q30 n v.1 v.2=some o36) (fun (k33,l34)=>⟨50,Aa [(2,(.ptr 0 0 0 0)),(5,(ow 1 0 l34)),(6,(i64 round5)),(7,(i64 i15)),(8,(ls eI q30)),(9,(i64 k33))],[(Fy p0.decls p0.funcs),(ro 0 3 1 eI l34)]⟩) N (0,l16) h4 (AS [0,1] U (by decide) rfl U (.raw U U (.pure (AB fun _=>U) .nil)) (.same U)) (fun _ hv=>by rw[Cc] at hv;cases hv) ?_)
    rintro n ⟨k33,l34⟩ h4
    try dsimp only at h4 ⊢
    rw[Cc] at h4
    refine AH fun K37 hK37=>sr U fun K38 hK38=>zm tb 2 U (zl tb U U (zq tb U (dn hK38 U ?_)))
    refine ci h4 U ?_ ?_ <;> clear h4
    ·intro b39 h4
     refine AR (hK37 _ (AH fun K40 hK40=>Ab (AL U (zm tb 3 U (bs h4 fun c41 gc41 h4=>zx A4 gc41 U U U (zq tb U (Ad (Wk.A7 (L:=[(2,(.ptr 0 0 0 0)),(6,(i64 round5)),(7,(i64 i15)),(8,(ls eI q30)),(9,(i64 k33)),(43,(ls eI l34)),(47,(i64 c41))]) (st':=[(Fy p0.decls p0.funcs),⟨1,3,1,[]⟩]) (id:=1) rfl (show 0≤1 by decide) (AB fun _=>U) ⟨.rfl,.rfl,.rfl,.rfl,.rfl,(.A7 U),.rfl,trivial⟩ U) (bs h4 fun q42 gq42 h4=>Bz (v':=(ow 2 0 q42)) AM YF (LH gq42) rfl U ⟨(Bi fun _=>U),trivial⟩ U U (zq tb U ?_)))))))))
     refine dn hK40 U (AL U (zm tb 3 U ?_))
     exact AA (xi (Sh.w (k33+1),q42) h4 (AS [0,2] U (by decide) rfl U (.raw U U (.pure (AB fun _=>U) .nil)) (.same U)))
    ·intro b39 h4
     exact A5 (M36 l34 (Sh.AE h4).symm _ (AG U))
   ·intro b27 h3
    exact AR (M24 l16 (Sh.AE h3).symm _ (AG U))
  ·intro b21 h2
   exact A5 (M18 l16 (Sh.AE h2).symm _ (AG U))
 ·intro b12 h1
  exact A5 (M8 l6 (Sh.AE h1).symm _ (AS [1] U (by decide) rfl U (.pure (AB fun _=>U) .nil) (.same U)))
theorem NA {N:Nat} {p0:Af} {p1:Int} {r:Bool} (h0:GH N p0 p1=some r):Ai Try.prog 31 [(.agg [(ls AI p0.decls),(ls AJ p0.funcs)]),(i64 p1)] [] (fun v st=>v=(.bool r)∧st=[]):=by
 unfold GH at h0
 refine ai Try.func31 U U U U (sr U fun K1 hK1=>Bl (m:=0) AM U U U U U (zq tb U (dn hK1 U (AH fun K2 hK2=>sr U fun K3 hK3=>zm tb 3 U (zl tb U U (zq tb U (bs h0 fun q4 gq4 h0=>zc LB (CN gq4) rfl U U ?_)))))))
 refine zq tb U (dn hK3 U ?_)
 refine ci h0 U ?_ ?_ <;> clear h0
 ·intro b5 h0
  have b6:q4=false:=by simpa using b5
  refine zr tb U U ?_
  replace h0:=Sh.AE h0
  subst r
  exact AU (xr (As [(4,(.bool false))] U))
 ·intro b5 h0
  have b8:q4=true:=by simpa using b5
  refine AR (hK2 _ (sr U fun K9 hK9=>zm tb 3 U (bs h0 fun c10 gc10 h0=>zx DD gc10 U U U (zm tb 2 U ?_))))
  refine A3 (m:=1) (l:=([]:List Int)) (enc:=eI) AM A4 (by decide) rfl U U U U U ?_
  refine Ad (Wk.A7 (L:=[(1,(i64 p1)),(2,(.ptr 0 0 0 0)),(19,(.agg [(i64 c10.body.op),(i64 c10.body.num),(ls AD c10.body.kids)])),(20,(.sl (List.map eI [])))]) (st':=[(Fy p0.decls p0.funcs),⟨1,3,1,[]⟩]) (id:=1) rfl (show 0≤1 by decide) (AB fun _=>U) ⟨.rfl,.rfl,.rfl,(.A7 U),trivial⟩ U) (bs h0 fun q11 gq11 h0=>zc Wf (JZ gq11) rfl U U (zq tb U (dn hK9 U (AH fun K12 hK12=>zr tb U U ?_))))
  obtain⟨o15,h1,h0⟩:=Sh.BZ h0
  have M15 :∀(_:Unit),o15=Sum.inr ()→∀s,Wk 0 s ⟨36,Aa [],[]⟩→K12 s:=by
   intro _ hq s hw
   subst o15
   try dsimp only at h0
   refine hK12 _ (AN hw (zr tb U U ?_))
   replace h0:=Sh.AE h0
   subst r
   exact AU (xr (Ah (L:=[(4,(.bool true))]) (.same U)))
  refine Ab (Ay (σ:=Int) (fun n v=>CH N p0 p1 q11 n v=some o15) (fun i14=>⟨36,Aa [(1,(i64 p1)),(2,(.ptr 0 0 0 0)),(5,(ls eI q11)),(6,(i64 i14))],[(Fy p0.decls p0.funcs)]⟩) N 0 h1 (AS [0] U (by decide) rfl U (.raw U U .nil) (.same U)) (fun _ hv=>by rw[CH] at hv;cases hv) ?_)
  rintro n i14 h1
  try dsimp only at h1 ⊢
  rw[CH] at h1
  refine AH fun K17 hK17=>sr U fun K18 hK18=>zm tb 2 U (zl tb U U (zq tb U (dn hK18 U ?_)))
  refine ci h1 U ?_ ?_ <;> clear h1
  ·intro b19 h1
   refine AR (hK17 _ (AH fun K20 hK20=>Ab (AH fun K21 hK21=>?_)))
   refine CL 7 (by kernel_rfl) (by kernel_rfl) (by rfl) ?_
   iterate 3 refine yq tb rfl ?_
   refine bs h1 fun c22 gc22 h1=>yx A4 gc22 U U U (yq tb U (bs h1 fun q23 gq23 h1=>?_))
   refine BS (v:=(ls eI q23)) AM Zc (Ai.wk (Lb gq23) (by refine Wk.trans (Wk.A7 (L:=[(0,(ls eI q23))]) (st':=[⟨1,3,1,[]⟩]) (id:=0) rfl (show 0≤0 by decide) (AB fun _=>U) ⟨(.A7 U),trivial⟩ U) ?_;exact AS [] U (by decide) rfl U .nil (.same U))) rfl U U ?_
   refine yq tb U (Ax (bs h1 fun q24 gq24 h1=>zc Ur (IW gq24) rfl U U (dn hK21 U ?_)))
   refine ci h1 U ?_ ?_ <;> clear h1
   ·intro b25 h1
    refine zr tb U U ?_
    replace h1:=Sh.AE h1
    subst o15
    try dsimp only[id] at h0
    replace h0:=Sh.AE h0
    subst r
    exact AU (xr (As [(4,(.bool false))] U))
   ·intro b25 h1
    exact AR (hK20 _ (AL U (zm tb 3 U (AA (xi (Sh.w (i14+1)) h1 (AG U))))))
  ·intro b19 h1
   exact A5 (M15 () (Sh.AE h1).symm _ (As _ U))
theorem JS {N:Nat} {p0:Af} {p1:Int} {r:Bool} (h0:Dg N p0 p1=some r):Ai Try.prog 12 [(.agg [(ls AI p0.decls),(ls AJ p0.funcs)]),(i64 p1)] [] (fun v st=>v=(.bool r)∧st=[]):=by
 unfold Dg at h0
 refine ai Try.func12 U U U U (sr U fun K1 hK1=>Bl (m:=0) AM U U U U U (zq tb U (dn hK1 U (AH fun K2 hK2=>bs h0 fun o4 h1 h0=>?_))))
 have M4 :∀(t3:Bool),o4=t3→∀s,Wk 0 s ⟨12,Aa [(4,(.bool t3))],[]⟩→K2 s:=by
  intro t3 hq s hw
  subst o4
  try dsimp only at h0
  refine hK2 _ (AN hw ?_)
  replace h0:=Sh.AE h0
  subst r
  exact AU (xr (Ah (L:=[(4,(.bool t3))]) (.same U)))
 refine AL U (zq tb U (bs h1 fun q5 gq5 h1=>zc Zq (LK gq5) rfl U U (zq tb U ?_)))
 rcases Sh.Am h1 with ⟨b6,h1⟩ | ⟨b6,h1⟩
 ·exact zg tb b6 U (zg tb b6 U (bs h1 fun q7 gq7 h1=>zd b6 Ze (NA gq7) rfl U U U (zt b6 U (zq tb U (AA (M4 q7 (Sh.AE h1).symm _ (As _ U)))))))
 ·exact zs b6 U (zs b6 U (zs b6 U (zf b6 U (zq tb U (AA (M4 false (Sh.AE h1).symm _ (As _ U)))))))
theorem RN {N:Nat} {p0:(List Int)} {p1:Int} {r:Bool} (h0:JI N p0 p1=some r):Ai Try.prog 15 [(ls eI p0),(i64 p1)] [] (fun v st=>v=(.bool r)∧st=[]):=by
 unfold JI at h0
 refine ai Try.func15 U U U U (zr tb U U (AH fun K2 hK2=>zr tb U U ?_))
 obtain⟨o5,h1,h0⟩:=Sh.BZ h0
 have M5 :∀(_:Unit),o5=Sum.inr ()→∀s,Wk 0 s ⟨18,Aa [],[]⟩→K2 s:=by
  intro _ hq s hw
  subst o5
  try dsimp only at h0
  refine hK2 _ (AN hw (zr tb U U ?_))
  replace h0:=Sh.AE h0
  subst r
  exact AU (xr (Ah (L:=[(4,(.bool false))]) (.same U)))
 refine Ab (Ay (σ:=Int) (fun n v=>En p0 p1 n v=some o5) (fun i4=>⟨18,Aa [(0,(ls eI p0)),(1,(i64 p1)),(5,(i64 i4))],[]⟩) N 0 h1 (AG U) (fun _ hv=>by rw[En] at hv;cases hv) ?_)
 rintro n i4 h1
 try dsimp only at h1 ⊢
 rw[En] at h1
 refine AH fun K7 hK7=>sr U fun K8 hK8=>zm tb 2 U (zl tb U U (zq tb U (dn hK8 U ?_)))
 refine ci h1 U ?_ ?_ <;> clear h1
 ·intro b9 h1
  refine AR (hK7 _ (AH fun K10 hK10=>Ab (sr U fun K11 hK11=>zm tb 2 U (bs h1 fun c12 gc12 h1=>zx A4 gc12 U U U (zm tb 3 U (dn hK11 U ?_))))))
  refine ci h1 U ?_ ?_ <;> clear h1
  ·intro b13 h1
   refine zr tb U U ?_
   replace h1:=Sh.AE h1
   subst o5
   try dsimp only[id] at h0
   replace h0:=Sh.AE h0
   subst r
   exact AU (xr (Ah (L:=[(4,(.bool true))]) (.same U)))
  ·intro b13 h1
   exact AR (hK10 _ (AL U (zm tb 3 U (AA (xi (Sh.w (i4+1)) h1 (AG U))))))
 ·intro b9 h1
  exact A5 (M5 () (Sh.AE h1).symm _ (AG U))
theorem LY {N:Nat} {p0:(List Int)} {r:Bool} (h0:Gh N p0=some r):Ai Try.prog 6 [(ls Dk p0)] [] (fun v st=>v=(.bool r)∧st=[]):=by
 unfold Gh at h0
 refine ai Try.func6 U U U U (zr tb U U (AH fun K2 hK2=>sr U fun K3 hK3=>zq tb U (zl tb U U (zq tb U (dn hK3 U ?_)))))
 refine ci h0 U ?_ ?_ <;> clear h0
 ·intro b4 h0
  refine zr tb U U ?_
  replace h0:=Sh.AE h0
  subst r
  exact AU (xr (Ah (L:=[(2,(.bool true))]) (.same U)))
 ·intro b4 h0
  refine AR (hK2 _ (sr U fun K6 hK6=>zq tb U (bs h0 fun q7 gq7 h0=>zc (v':=(.CO [(.agg [(ls AI q7.1.decls),(ls AJ q7.1.funcs)]),(i64 q7.2)])) ZU (Kq gq7) rfl U U (zm tb 3 U (A1 (m:=0) AM O9 U U (Az AM FA U U U U U U (show 0+2≤2 by decide) rfl (zq tb U (dn hK6 U (sr U fun K8 hK8=>zm tb 2 U ?_)))))))))
  refine bs h0 fun q9 gq9 h0=>zc ZL (NP gq9) rfl U U (zq tb U (dn hK8 U (AH fun K10 hK10=>AH fun K11 hK11=>bs h0 fun o13 h1 h0=>?_)))
  have M13 :∀(t12:Bool),o13=t12→∀s,Wk 0 s ⟨74,Aa [(3,(.ptr 0 0 0 0)),(4,(i64 q7.2)),(5,(.bool q9)),(40,(.bool t12))],[(Fy q7.1.decls q7.1.funcs)]⟩→K11 s:=by
   intro t12 hq s hw
   subst o13
   try dsimp only at h0
   refine hK11 _ (AN hw ?_)
   refine ci h0 U ?_ ?_ <;> clear h0
   ·intro b14 h0
    refine sr U fun K15 hK15=>zm tb 3 U (bs h0 fun q16 gq16 h0=>zc YG (JS gq16) rfl U U (zm tb 2 U (dn hK15 U ?_)))
    replace h0:=Sh.AE h0
    subst r
    exact AU (xr (As [(2,(.bool (q9 == q16)))] U))
   ·intro b14 h0
    refine AR (hK10 _ (zr tb U U (sr U fun K18 hK18=>zm tb 2 U (bs h0 fun q19 gq19 h0=>Bz (v':=(ow 1 0 q19)) AM Xz (JQ gq19) rfl U ⟨(Bi fun _=>U),trivial⟩ U U (zq tb U (dn hK18 U (AH fun K20 hK20=>zr tb U U (bs h0 fun o25 h1 h0=>?_))))))))
    have M25 :∀(again24:Bool),o25=again24→∀s,Wk 0 s ⟨74,Aa [(4,(i64 q7.2)),(5,(.bool q9)),(6,(.bool again24))],[]⟩→K20 s:=by
     intro again24 hq s hw
     subst o25
     try dsimp only at h0
     refine hK20 _ (AN hw (AH fun K26 hK26=>bs h0 fun o28 h1 h0=>?_))
     have M28 :∀(t27:Bool),o28=t27→∀s,Wk 0 s ⟨74,Aa [(2,(.bool t27))],[]⟩→K26 s:=by
      intro t27 hq s hw
      subst o28
      try dsimp only at h0
      refine hK26 _ (AN hw ?_)
      replace h0:=Sh.AE h0
      subst r
      exact AU (xr (Ah (L:=[(2,(.bool t27))]) (.same U)))
     refine AL U (zm tb 4 U ?_)
     rcases Sh.Am h1 with ⟨b29,h1⟩ | ⟨b29,h1⟩
     ·exact zg tb b29 U (zg tb b29 U (zt b29 U (zm tb 2 U (AA (M28 (q9 == (!again24)) (Sh.AE h1).symm _ (AG U))))))
     ·exact zs b29 U (zs b29 U (zf b29 U (zm tb 2 U (AA (M28 (q9 == false) (Sh.AE h1).symm _ (AG U))))))
    refine Ab (Ay (σ:=Bool×Int) (fun n v=>CT N q19 q7 n v.1 v.2=some o25) (fun (again22,i23)=>⟨74,Aa [(3,(.ptr 0 0 0 0)),(4,(i64 q7.2)),(5,(.bool q9)),(6,(.bool again22)),(7,(ow 1 0 q19)),(8,(i64 i23))],[(Fy q7.1.decls q7.1.funcs),(ro 0 3 1 eI q19)]⟩) N (false,0) h1 (AG U) (fun _ hv=>by rw[CT] at hv;cases hv) ?_)
    rintro n ⟨again22,i23⟩ h1
    try dsimp only at h1 ⊢
    rw[CT] at h1
    refine AH fun K30 hK30=>sr U fun K31 hK31=>zm tb 2 U (zz (i64 (Sh.len q19)) (CW Em U U U) rfl (zq tb U (dn hK31 U ?_)))
    refine ci h1 U ?_ ?_ <;> clear h1
    ·intro b32 h1
     refine AR (hK30 _ (AH fun K33 hK33=>bs h1 fun o35 h2 h1=>?_))
     have M35 :∀(again34:Bool),o35=again34→∀s,Wk 0 s ⟨74,Aa [(3,(.ptr 0 0 0 0)),(4,(i64 q7.2)),(5,(.bool q9)),(6,(.bool again34)),(7,(ow 1 0 q19)),(8,(i64 i23))],[(Fy q7.1.decls q7.1.funcs),(ro 0 3 1 eI q19)]⟩→K33 s:=by
      intro again34 hq s hw
      subst o35
      try dsimp only at h1
      exact hK33 _ (AN hw (AL U (zm tb 3 U (AA (xi (again34,Sh.w (i23+1)) h1 (AG U))))))
     refine Ab ?_
     refine CL 11 (by kernel_rfl) (by kernel_rfl) (by rfl) ?_
     iterate 2 refine yq tb rfl ?_
     rcases Sh.Am h2 with ⟨b36,h2⟩ | ⟨b36,h2⟩
     ·refine ys b36 U ?_
      iterate 7 refine ys b36 rfl ?_
      exact yt b36 U (Ax (zq tb U (AA (M35 true (Sh.AE h2).symm _ (AG U)))))
     ·refine yg tb b36 U ?_
      iterate 2 refine yg tb b36 rfl ?_
      refine bs h2 fun c37 gc37 h2=>HN (v:=(.ptr 1 0 (Int.toNat i23) 0)) (Bw U U b36) rfl (Bn A4 U U U U gc37) (HN (v:=(i64 c37)) (Bw U U b36) rfl (B1 F6 U U (Bs gc37) rfl) (bs h2 fun q38 gq38 h2=>?_))
      refine BS (v:=(ls eI q38)) (Bw U U b36) YE (Ai.wk (Ie gq38) (by refine Wk.trans (Wk.A7 (L:=[(0,(ls eI q38))]) (st':=[⟨1,3,1,[]⟩]) (id:=0) rfl (show 0≤0 by decide) (AB fun _=>U) ⟨(.A7 U),trivial⟩ U) ?_;exact AS [] U (by decide) rfl U .nil (.same U))) rfl U U ?_
      exact yg tb b36 U (bs h2 fun q39 gq39 h2=>BS (v:=(.bool q39)) (Bw U U b36) ZC (RN gq39) rfl U U (yf b36 U (Ax (zq tb U (AA (M35 q39 (Sh.AE h2).symm _ (AG U)))))))
    ·intro b32 h1
     exact A5 (M25 again22 (Sh.AE h1).symm _ (As _ U))
  refine AL U (zm tb 3 U (bs h1 fun q40 gq40 h1=>zc YG (JS gq40) rfl U U (zm tb 2 U ?_)))
  rcases Sh.Am h1 with ⟨b41,h1⟩ | ⟨b41,h1⟩
  ·refine zs b41 U (zs b41 U (zs b41 U (zt b41 U (zq tb U (zs U U (zs U U (zt U U (zq tb U ?_))))))))
   iterate 5 refine zs rfl rfl ?_
   exact zt U U (AA (M13 true (Sh.AE h1).symm _ (AG U)))
  ·refine zg tb b41 U (bs h1 fun q42 gq42 h1=>zd b41 Uw (FN gq42) rfl U U U (zg tb b41 U (zf b41 U (zq tb U ?_))))
   rcases Sh.Am h1 with ⟨b43,h1⟩ | ⟨b43,h1⟩
   ·refine zs b43 U (zs b43 U (zt b43 U (zq tb U ?_)))
    iterate 5 refine zs rfl rfl ?_
    exact zt U U (AA (M13 true (Sh.AE h1).symm _ (AG U)))
   ·refine zg tb b43 U (zg tb b43 U (zf b43 U (zq tb U ?_)))
    rcases Sh.Am h1 with ⟨b44,h1⟩ | ⟨b44,h1⟩
    ·refine zs b44 U ?_
     iterate 4 refine zs b44 rfl ?_
     exact zt b44 U (AA (M13 true (Sh.AE h1).symm _ (AG U)))
    ·exact zg tb b44 U (zg tb b44 U (zg tb b44 U (B3 (v:=(i64 (Sh.len q7.1.funcs))) (Bw U U b44) rfl (B6 NU U) (zg tb b44 U (zf b44 U (AA (M13 (decide ((Sh.len q7.1.funcs)≤q7.2)) (Sh.AE h1).symm _ (AG U))))))))
end Go.Proofs.Ytpahalfiiahddaa


