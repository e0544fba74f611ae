import Derived.Test.YtobjlimoekffaaaGreatProg
import Derived.Test.YtobjlimoekffaaaGreatGEncCToGCDefs
import Derived.Test.YtobjlimoekffaaaGreatGCWalkP2
namespace Go.Proofs.YtobjlimoekffaaaGreat
open Go Go.Abs RC
attribute [local irreducible] Go.Abs.DB
set_option maxRecDepth 100000
set_option maxHeartbeats 4000000

theorem bg:AZ Tryz.prog 104=true:=by kernel_rfl
theorem cD:AZ Tryz.prog 107=true:=by kernel_rfl
theorem cb:AZ Tryz.prog 108=true:=by kernel_rfl
theorem LR:AZ Tryz.prog 11=true:=by kernel_rfl
theorem eW:AZ Tryz.prog 12=true:=by kernel_rfl
theorem bq:AZ Tryz.prog 129=true:=by kernel_rfl
theorem fQ:AZ Tryz.prog 13=true:=by kernel_rfl
theorem bn:AZ Tryz.prog 130=true:=by kernel_rfl
theorem dp:AZ Tryz.prog 14=true:=by kernel_rfl
theorem dE:AZ Tryz.prog 15=true:=by kernel_rfl
theorem MI:AZ Tryz.prog 16=true:=by kernel_rfl
theorem av:AZ Tryz.prog 17=true:=by kernel_rfl
theorem dT:AZ Tryz.prog 18=true:=by kernel_rfl
theorem aw:AZ Tryz.prog 19=true:=by kernel_rfl
theorem eT:AZ Tryz.prog 33=true:=by kernel_rfl
theorem eV:AZ Tryz.prog 34=true:=by kernel_rfl
theorem fH:AZ Tryz.prog 35=true:=by kernel_rfl
theorem dS:AZ Tryz.prog 36=true:=by kernel_rfl
theorem dg:AZ Tryz.prog 37=true:=by kernel_rfl
theorem fM:AZ Tryz.prog 38=true:=by kernel_rfl
theorem dF:AZ Tryz.prog 39=true:=by kernel_rfl
theorem eO:AZ Tryz.prog 40=true:=by kernel_rfl
theorem fD:AZ Tryz.prog 41=true:=by kernel_rfl
theorem cy:AZ Tryz.prog 42=true:=by kernel_rfl
theorem cx:AZ Tryz.prog 44=true:=by kernel_rfl
theorem fT:AZ Tryz.prog 5=true:=by kernel_rfl
theorem fU:AZ Tryz.prog 6=true:=by kernel_rfl
theorem fB:AZ Tryz.prog 67=true:=by kernel_rfl
theorem eN:AZ Tryz.prog 68=true:=by kernel_rfl
theorem fF:AZ Tryz.prog 69=true:=by kernel_rfl
theorem cv:AZ Tryz.prog 70=true:=by kernel_rfl
theorem cu:AZ Tryz.prog 71=true:=by kernel_rfl
theorem dj:AZ Tryz.prog 72=true:=by kernel_rfl
theorem dC:AZ Tryz.prog 73=true:=by kernel_rfl
theorem dt:AZ Tryz.prog 74=true:=by kernel_rfl
theorem dZ:AZ Tryz.prog 75=true:=by kernel_rfl
theorem aA:AZ Tryz.prog 8=true:=by kernel_rfl
theorem aD:AZ Tryz.prog 9=true:=by kernel_rfl

theorem Pg {N:Nat} {p0:(List Cell)} {p1:(List Int)} {r:(List Int)} (h0:Gu N p0 p1=some r):AY Tryz.prog 68 [(ls Aj p0),(ls eI p1)] [] (fun v st=>v=(ow 0 0 r)∧st=[(ro 0 3 1 eI r)]):=by
 unfold Gu at h0
 refine ai Tryz.func68 U U U U (zr tb U U (AB fun K2 hK2=>sr U fun K3 hK3=>zq tb U (bs h0 fun q4 gq4 h0=>zc bg (N7 gq4) rfl U U (zq tb U (dn hK3 U ?_)))))
 refine ci h0 U ?_ ?_ <;> clear h0
 ·intro b5 h0
  have b6:q4=false:=by simpa using b5
  refine zr tb U U ?_
  replace h0:=Sh.AA h0
  subst r
  exact AH (Exists.intro _ (And.intro (((EM (t:=4) rfl 3 (size:=1) (by decide)).trans (AM (L:=[(4,(.own 0 0 (List.length ([]:List Int))))]) ⟨.rfl,trivial⟩)).trans (AM (L:=[(4,(.own 0 0 (List.length ([]:List Int))))]) ⟨.rfl,trivial⟩)) (And.intro U U)))
 ·intro b5 h0
  have b8:q4=true:=by simpa using b5
  refine AG (hK2 _ (sr U fun K9 hK9=>zq tb U (zl tb U U (bs h0 fun l10 gl10 h0=>GU (m:=0) (enc:=eB) (u:=false) Aa IQ U U U gl10 U U (zq tb U (dn hK9 U (sr U fun K11 hK11=>zq tb U (bs h0 fun q12 gq12 h0=>BN (v':=(ow 1 0 q12)) Aa ZG (Ha gq12) rfl U ⟨(BB fun _=>U),trivial⟩ U U ?_))))))))
  refine zq tb U (dn hK11 U (AB fun K13 hK13=>bs h0 fun o17 h1 h0=>?_))
  have M17 :∀(l16:(List Bool)),o17=l16→∀s,Wk 0 s ⟨56,AS [(5,(ow 0 0 l16))],[(ro 0 4 1 eB l16)]⟩→K13 s:=by
   intro l16 hq s hw
   subst o17
   try dsimp only at h0
   refine hK13 _ (AI hw (sr U fun K18 hK18=>zq tb U (Al (Wk.EW (L:=[(54,(ls eB l16))]) (st':=[⟨1,4,1,[]⟩]) (id:=0) rfl (show 0≤0 by decide) (AL fun _=>U) ⟨(.EW U),trivial⟩ U) (bs h0 fun q19 gq19 h0=>BN (v':=(ow 1 0 q19)) Aa Yh (Jy gq19) rfl U ⟨(BB fun _=>U),trivial⟩ U U (zq tb U (dn hK18 U ?_))))))
   replace h0:=Sh.AA h0
   subst r
   exact AH (xr (AN (L:=[(4,(ow 0 0 q19))]) (st':=[(ro 0 3 1 eI q19)]) (st1:=[(ro 0 3 1 eI q19)]) [1] U .nil (by decide) rfl U (.pure (AL fun _=>U) .nil) ⟨.rfl,trivial⟩))
  refine AJ (AX (σ:=(List Bool)×(List Int)) (fun n v=>C2 p0 n v.1 v.2=some o17) (fun (l14,l15)=>⟨56,AS [(0,(ls Aj p0)),(5,(ow 0 0 l14)),(6,(ow 1 0 l15))],[(ro 0 4 1 eB l14),(ro 0 3 1 eI l15)]⟩) N (l10,q12) h1 (AE U) (fun _ hv=>by rw[C2] at hv;cases hv) ?_)
  rintro n ⟨l14,l15⟩ h1
  try dsimp only at h1 ⊢
  rw[C2] at h1
  refine AB fun K20 hK20=>sr U fun K21 hK21=>zq tb U (zz (i64 (Sh.len l15)) (Dj EE U U U) rfl (zq tb U (dn hK21 U ?_)))
  refine ci h1 U ?_ ?_ <;> clear h1
  ·intro b22 h1
   refine AG (hK20 _ (AJ (sr U fun K23 hK23=>zm tb 3 U (zz (i64 (Sh.len l15)) (Dj EE U U U) rfl (zq tb U (bs h1 fun c24 gc24 h1=>zz (.ptr 1 0 (Int.toNat (Sh.w ((Sh.len l15) - 1))) 0) (BD A2 U U U U gc24) rfl (zz (i64 c24) (Bf EF U U (Bp gc24) rfl) rfl (bs h1 fun q25 gq25 h1=>zc (v':=(.DX [(i64 q25.1),(.bool q25.2)])) Rf (GX gq25) rfl U U (zm tb 5 U ?_)))))))))
   refine dn hK23 U (sr U fun K26 hK26=>zm tb 2 U (zz (i64 (Sh.len l15)) (Dj EE U U U) rfl (zq tb U (bs h1 fun l27 gl27 h1=>Ud Aa A2 U U U U gl27 U (zq tb U (dn hK26 U (AB fun K28 hK28=>bs h1 fun o30 h2 h1=>?_)))))))
   have M30 :∀(t29:Bool),o30=t29→∀s,Wk 0 s ⟨56,AS [(0,(ls Aj p0)),(5,(ow 0 0 l14)),(6,(ow 1 0 l27)),(7,(i64 q25.1)),(43,(.bool t29))],[(ro 0 4 1 eB l14),(ro 0 3 1 eI l27)]⟩→K28 s:=by
    intro t29 hq s hw
    subst o30
    try dsimp only at h1
    refine hK28 _ (AI hw ?_)
    refine ci h1 U ?_ ?_ <;> clear h1
    ·intro b31 h1
     refine sr U fun K32 hK32=>zm tb 2 U (bs h1 fun c33 gc33 h1=>zz (.ptr 0 0 (Int.toNat q25.1) 0) (BD IQ U U U U gc33) rfl (Cz (u':=true) Aa Qu U U gc33 U U U (show 0+1≤1 by decide) rfl U (dn hK32 U (AF U (zm tb 3 U (bs h1 fun c34 gc34 h1=>zx FI gc34 U U U (zm tb 2 U (bs h1 fun l35 gl35 h1=>?_))))))))
     refine Ex (l2:=c34.fields) Aa A2 U U U U TW (fun _=>U) gl35 U (zq tb U ?_)
     exact AD (xi (Sh.put l14 q25.1 true,l35) h1 (by refine Wk.trans (Cf (L:=[(0,(.sl (List.map Aj p0))),(5,(.own 0 0 (List.length l14))),(6,(.own 1 0 (List.length l35)))]) (st':=[⟨0,4,1,List.map eB (Sh.put l14 q25.1 true)⟩,⟨0,3,1,List.map eI l35⟩]) (.pure (AL fun _=>U) (.pure (AL fun _=>U) .nil)) ⟨.rfl,.rfl,.rfl,trivial⟩) ?_;exact AM (L:=[(0,(.sl (List.map Aj p0))),(5,(.own 0 0 (List.length (Sh.put l14 q25.1 true)))),(6,(.own 1 0 (List.length l35)))]) ⟨.rfl,(.len (by simp only[Sh.Af])),.rfl,trivial⟩))
    ·intro b31 h1
     exact AG (xi (l14,l27) h1 (AE U))
   refine AF U (zm tb 2 U ?_)
   rcases Sh.AP h2 with ⟨b36,h2⟩ | ⟨b36,h2⟩
   ·exact zg tb b36 U (zg tb b36 U (bs h2 fun c37 gc37 h2=>A5 (v:=(.ptr 0 0 (Int.toNat q25.1) 0)) (A9 U U b36) rfl (BD IQ U U U U gc37) (A5 (v:=(.bool c37)) (A9 U U b36) rfl (Bf Qu U U (Bp gc37) rfl) (zg tb b36 U (zt b36 U (AD (M30 (!c37) (Sh.AA h2).symm _ (Cf (L:=[(0,(ls Aj p0)),(5,(ow 0 0 l14)),(6,(ow 1 0 l27)),(7,(i64 q25.1)),(43,(.bool (!c37)))]) (st':=[(ro 0 4 1 eB l14),(ro 0 3 1 eI l27)]) (.pure (AL fun _=>U) (.pure (AL fun _=>U) .nil)) ⟨.rfl,.rfl,.rfl,.rfl,.rfl,trivial⟩))))))))
   ·refine zs b36 U ?_
    iterate 4 refine zs b36 rfl ?_
    exact zf b36 U (AD (M30 false (Sh.AA h2).symm _ (Cf (L:=[(0,(ls Aj p0)),(5,(ow 0 0 l14)),(6,(ow 1 0 l27)),(7,(i64 q25.1)),(43,(.bool false))]) (st':=[(ro 0 4 1 eB l14),(ro 0 3 1 eI l27)]) (.pure (AL fun _=>U) (.pure (AL fun _=>U) .nil)) ⟨.rfl,.rfl,.rfl,.rfl,.rfl,trivial⟩)))
  ·intro b22 h1
   exact Ac (M17 l14 (Sh.AA h1).symm _ (AN (L:=[(5,(ow 0 0 l14))]) (st':=[(ro 0 4 1 eB l14)]) (st1:=[(ro 0 4 1 eB l14)]) [0] U .nil (by decide) rfl U (.pure (AL fun _=>U) .nil) ⟨.rfl,trivial⟩))
theorem MJ {N:Nat} {p0:Au} {p1:Av} {r:(List Int)} (h0:Fk N p0 p1=some r):AY Tryz.prog 34 [(.agg (Ao p0)),(.agg (Ah p1))] [] (fun v st=>v=(ow 0 0 r)∧st=[(ro 0 3 1 eI r)]):=by
 unfold Fk at h0
 refine ai Tryz.func34 U U U U (sr U fun K1 hK1=>A8 (m:=0) Aa U U U U U (A8 (m:=1) Aa U U U U U (zq tb U (dn hK1 U (zr tb U U (AB fun K3 hK3=>sr U fun K4 hK4=>zm tb 2 U (zl tb U U (zq tb U ?_))))))))
 refine dn hK4 U (bs h0 fun o8 h1 h0=>?_)
 have M8 :∀(l7:(List Int)),o8=l7→∀s,Wk 0 s ⟨60,AS [(3,(.ptr 0 0 0 0)),(5,(ow 1 0 l7))],[⟨0,42,7,[(Ah p1)]⟩,(ro 0 3 1 eI l7)]⟩→K3 s:=by
  intro l7 hq s hw
  subst o8
  try dsimp only at h0
  refine hK3 _ (AI hw (sr U fun K9 hK9=>zm tb 3 U (Al (Wk.EW (L:=[(57,(ls Aj p1.heap)),(58,(ls eI l7))]) (st':=[⟨0,42,7,[(Ah p1)]⟩,⟨1,3,1,[]⟩]) (id:=1) rfl (show 0≤1 by decide) (AL fun _=>U) ⟨.rfl,(.EW U),trivial⟩ U) (bs h0 fun q10 gq10 h0=>BN (v':=(ow 2 0 q10)) Aa eN (Pg gq10) rfl U ⟨(BB fun _=>U),trivial⟩ U U (zq tb U (dn hK9 U ?_))))))
  replace h0:=Sh.AA h0
  subst r
  exact AH (xr (AN (L:=[(4,(ow 0 0 q10))]) (st':=[(ro 0 3 1 eI q10)]) (st1:=[(ro 0 3 1 eI q10)]) [2] U .nil (by decide) rfl U (.pure (AL fun _=>U) .nil) ⟨.rfl,trivial⟩))
 refine AJ (AX (σ:=Int×(List Int)) (fun n v=>Ce N p0 p1 n v.1 v.2=some o8) (fun (t5,l6)=>⟨60,AS [(2,(.ptr 0 0 0 0)),(3,(.ptr 1 0 0 0)),(5,(ow 2 0 l6)),(11,(ls Ax p1.AT)),(12,(i64 (Sh.len p1.AT))),(13,(i64 t5))],[⟨0,37,2,[(Ao p0)]⟩,⟨0,42,7,[(Ah p1)]⟩,(ro 0 3 1 eI l6)]⟩) N (0,[]) h1 ((EM (t:=5) rfl 3 (size:=1) (by decide)).trans (AM (L:=[(2,(.ptr 0 0 0 0)),(3,(.ptr 1 0 0 0)),(5,(.own 2 0 (List.length ([]:List Int)))),(11,(ls Ax p1.AT)),(12,(i64 (Sh.len p1.AT))),(13,(i64 0))]) ⟨.rfl,.rfl,.rfl,.rfl,.rfl,.rfl,trivial⟩)) (fun _ hv=>by rw[Ce] at hv;cases hv) ?_)
 rintro n ⟨t5,l6⟩ h1
 try dsimp only at h1 ⊢
 rw[Ce] at h1
 refine zr tb U U (AB fun K12 hK12=>?_)
 refine ci h1 U ?_ ?_ <;> clear h1
 ·intro b13 h1
  refine AG (hK12 _ (AB fun K14 hK14=>AJ (sr U fun K15 hK15=>zq tb U (bs h1 fun c16 gc16 h1=>zx Gf gc16 U U U (zq tb U (BF (m:=3) Aa SL U U (zq tb U (A7 Aa QO U U U U U U (show 0+6≤6 by decide) rfl (dn hK15 U ?_)))))))))
  refine sr U fun K17 hK17=>zm tb 5 U (bs h1 fun q18 gq18 h1=>BN (v':=(ow 4 0 q18)) Aa fB (Ox gq18) rfl U ⟨(BB fun _=>U),trivial⟩ U U (zz (i64 (Sh.len q18)) (Dj EE U U U) rfl (zq tb U (dn hK17 U (bs h1 fun o22 h2 h1=>?_)))))
  have M22 :∀(l21:(List Int)),o22=l21→∀s,Wk 0 s ⟨60,AS [(2,(.ptr 0 0 0 0)),(3,(.ptr 1 0 0 0)),(5,(ow 2 0 l21)),(11,(ls Ax p1.AT)),(12,(i64 (Sh.len p1.AT))),(13,(i64 t5))],[⟨0,37,2,[(Ao p0)]⟩,⟨0,42,7,[(Ah p1)]⟩,(ro 0 3 1 eI l21)]⟩→K14 s:=by
   intro l21 hq s hw
   subst o22
   try dsimp only at h1
   exact hK14 _ (AI hw (AF U (zm tb 2 U (AD (xi (Sh.w (t5+1),l21) h1 (AE U))))))
  refine AJ (AX (σ:=Int×(List Int)) (fun n v=>CG c16 p1 q18 t5 n v.1 v.2=some o22) (fun (t19,l20)=>⟨60,AS [(2,(.ptr 0 0 0 0)),(3,(.ptr 1 0 0 0)),(5,(ow 2 0 l20)),(6,(i64 t5)),(7,(.ptr 3 0 0 0)),(11,(ls Ax p1.AT)),(12,(i64 (Sh.len p1.AT))),(13,(i64 t5)),(23,(ow 4 0 q18)),(24,(i64 (Sh.len q18))),(25,(i64 t19))],[⟨0,37,2,[(Ao p0)]⟩,⟨0,42,7,[(Ah p1)]⟩,(ro 0 3 1 eI l20),⟨0,94,6,[(Ax c16)]⟩,(ro 0 3 1 eI q18)]⟩) N (0,l6) h2 (AE U) (fun _ hv=>by rw[CG] at hv;cases hv) ?_)
  rintro n ⟨t19,l20⟩ h2
  try dsimp only at h2 ⊢
  rw[CG] at h2
  refine zr tb U U (AB fun K24 hK24=>?_)
  refine ci h2 U ?_ ?_ <;> clear h2
  ·intro b25 h2
   refine AG (hK24 _ (AB fun K26 hK26=>bs h2 fun o28 h3 h2=>?_))
   have M28 :∀(l27:(List Int)),o28=l27→∀s,Wk 0 s ⟨60,AS [(2,(.ptr 0 0 0 0)),(3,(.ptr 1 0 0 0)),(5,(ow 2 0 l27)),(6,(i64 t5)),(7,(.ptr 3 0 0 0)),(11,(ls Ax p1.AT)),(12,(i64 (Sh.len p1.AT))),(13,(i64 t5)),(23,(ow 4 0 q18)),(24,(i64 (Sh.len q18))),(25,(i64 t19))],[⟨0,37,2,[(Ao p0)]⟩,⟨0,42,7,[(Ah p1)]⟩,(ro 0 3 1 eI l27),⟨0,94,6,[(Ax c16)]⟩,(ro 0 3 1 eI q18)]⟩→K26 s:=by
    intro l27 hq s hw
    subst o28
    try dsimp only at h2
    exact hK26 _ (AI hw (AF U (zm tb 2 U (AD (xi (Sh.w (t19+1),l27) h2 (AE U))))))
   refine AJ (sr U fun K29 hK29=>bs h3 fun c30 gc30 h3=>zz (.ptr 4 0 (Int.toNat t19) 0) (BD A2 U U U U gc30) rfl (zz (i64 c30) (Bf EF U U (Bp gc30) rfl) rfl (zq tb U (dn hK29 U (AB fun K31 hK31=>bs h3 fun o33 h4 h3=>?_)))))
   have M33 :∀(t32:Bool),o33=t32→∀s,Wk 0 s ⟨60,AS [(2,(.ptr 0 0 0 0)),(3,(.ptr 1 0 0 0)),(5,(ow 2 0 l20)),(6,(i64 t5)),(7,(.ptr 3 0 0 0)),(9,(i64 c30)),(11,(ls Ax p1.AT)),(12,(i64 (Sh.len p1.AT))),(13,(i64 t5)),(23,(ow 4 0 q18)),(24,(i64 (Sh.len q18))),(25,(i64 t19)),(45,(.bool t32))],[⟨0,37,2,[(Ao p0)]⟩,⟨0,42,7,[(Ah p1)]⟩,(ro 0 3 1 eI l20),⟨0,94,6,[(Ax c16)]⟩,(ro 0 3 1 eI q18)]⟩→K31 s:=by
    intro t32 hq s hw
    subst o33
    try dsimp only at h3
    refine hK31 _ (AI hw ?_)
    refine ci h3 U ?_ ?_ <;> clear h3
    ·intro b34 h3
     refine AF U (zm tb 4 U (bs h3 fun c35 gc35 h3=>zx A2 gc35 U U U (zq tb U ?_)))
     refine DO (m:=5) (l:=[c35]) (enc:=eI) Aa A2 (by decide) rfl U U U U U ?_
     refine bs h3 fun l36 gl36 h3=>Ex (l2:=[c35]) Aa A2 U U U U (J0 U U) (fun _=>U) gl36 U (zq tb U ?_)
     exact AD (M28 l36 (Sh.AA h3).symm _ (by refine Wk.trans (Cf (L:=[(2,(.ptr 0 0 0 0)),(3,(.ptr 1 0 0 0)),(5,(ow 2 0 l36)),(6,(i64 t5)),(7,(.ptr 3 0 0 0)),(11,(ls Ax p1.AT)),(12,(i64 (Sh.len p1.AT))),(13,(i64 t5)),(23,(ow 4 0 q18)),(24,(i64 (Sh.len q18))),(25,(i64 t19))]) (st':=[⟨0,37,2,[(Ao p0)]⟩,⟨0,42,7,[(Ah p1)]⟩,(ro 0 3 1 eI l36),⟨0,94,6,[(Ax c16)]⟩,(ro 0 3 1 eI q18),(ro 0 3 1 eI [c35])]) (.raw U U (.raw U U (.pure (AL fun _=>U) (.raw U U (.pure (AL fun _=>U) (.pure (AL fun _=>U) .nil)))))) ⟨.rfl,.rfl,.rfl,.rfl,.rfl,.rfl,.rfl,.rfl,.rfl,.rfl,.rfl,trivial⟩) ?_;exact AN (L:=[(2,(.ptr 0 0 0 0)),(3,(.ptr 1 0 0 0)),(5,(ow 2 0 l36)),(6,(i64 t5)),(7,(.ptr 3 0 0 0)),(11,(ls Ax p1.AT)),(12,(i64 (Sh.len p1.AT))),(13,(i64 t5)),(23,(ow 4 0 q18)),(24,(i64 (Sh.len q18))),(25,(i64 t19))]) (st':=[⟨0,37,2,[(Ao p0)]⟩,⟨0,42,7,[(Ah p1)]⟩,(ro 0 3 1 eI l36),⟨0,94,6,[(Ax c16)]⟩,(ro 0 3 1 eI q18)]) (st1:=[⟨0,37,2,[(Ao p0)]⟩,⟨0,42,7,[(Ah p1)]⟩,(ro 0 3 1 eI l36),⟨0,94,6,[(Ax c16)]⟩,(ro 0 3 1 eI q18)]) [0,1,2,3,4] U .nil (by decide) rfl U (.raw U U (.raw U U (.pure (AL fun _=>U) (.raw U U (.pure (AL fun _=>U) .nil))))) ⟨.rfl,.rfl,.rfl,.rfl,.rfl,.rfl,.rfl,.rfl,.rfl,.rfl,.rfl,trivial⟩))
    ·intro b34 h3
     exact AG (M28 l20 (Sh.AA h3).symm _ (AE U))
   refine AF U (zm tb 3 U (zl tb U U (zm tb 3 U ?_)))
   rcases Sh.AP h4 with ⟨b37,h4⟩ | ⟨b37,h4⟩
   ·refine zs b37 U ?_
    iterate 8 refine zs b37 rfl ?_
    exact zt b37 U (AD (M33 true (Sh.AA h4).symm _ (AE U)))
   ·refine zg tb b37 U ?_
    iterate 4 refine zg tb b37 rfl ?_
    refine bs h4 fun c38 gc38 h4=>A5 (v:=(.Bi (Ax c38) 0)) (A9 U U b37) rfl (Bh Gf U U gc38 U) ?_
    iterate 3 refine zg tb b37 rfl ?_
    exact zf b37 U (AD (M33 (!decide (c30=c38.dst)) (Sh.AA h4).symm _ (AE U)))
  ·intro b25 h2
   exact Ac (M22 l20 (Sh.AA h2).symm _ (AN (L:=[(2,(.ptr 0 0 0 0)),(3,(.ptr 1 0 0 0)),(5,(ow 2 0 l20)),(11,(ls Ax p1.AT)),(12,(i64 (Sh.len p1.AT))),(13,(i64 t5))]) (st':=[⟨0,37,2,[(Ao p0)]⟩,⟨0,42,7,[(Ah p1)]⟩,(ro 0 3 1 eI l20)]) (st1:=[⟨0,37,2,[(Ao p0)]⟩,⟨0,42,7,[(Ah p1)]⟩,(ro 0 3 1 eI l20)]) [0,1,2] U .nil (by decide) rfl U (.raw U U (.raw U U (.pure (AL fun _=>U) .nil))) ⟨.rfl,.rfl,.rfl,.rfl,.rfl,.rfl,trivial⟩))
 ·intro b13 h1
  exact Ac (M8 l6 (Sh.AA h1).symm _ (AN (L:=[(3,(.ptr 0 0 0 0)),(5,(ow 1 0 l6))]) (st':=[⟨0,42,7,[(Ah p1)]⟩,(ro 0 3 1 eI l6)]) (st1:=[⟨0,42,7,[(Ah p1)]⟩,(ro 0 3 1 eI l6)]) [1,2] U .nil (by decide) rfl U (.raw U U (.pure (AL fun _=>U) .nil)) ⟨.rfl,.rfl,trivial⟩))
theorem Km {N:Nat} {p0:(List Int)} {p1:Int} {r:Int} (h0:FV N p0 p1=some r):AY Tryz.prog 75 [(ls eI p0),(i64 p1)] [] (fun v st=>v=(i64 r)∧st=[]):=by
 unfold FV at h0
 refine ai Tryz.func75 U U U U (zr tb U U (AB fun K2 hK2=>sr U fun K3 hK3=>zq tb U (zl tb U U (zq tb U (dn hK3 U ?_)))))
 obtain⟨o5,h1,h0⟩:=Sh.A1 h0
 have M5 :∀(_:Unit),o5=Sum.inr ()→∀s,Wk 0 s ⟨19,AS [],[]⟩→K2 s:=by
  intro _ hq s hw
  subst o5
  try dsimp only at h0
  refine hK2 _ (AI hw (zr tb U U ?_))
  replace h0:=Sh.AA h0
  subst r
  exact AH (xr (AM (L:=[(4,(i64 (-1)))]) ⟨.rfl,trivial⟩))
 refine AJ (AX (σ:=Int) (fun n v=>BX p0 p1 n v=some o5) (fun t4=>⟨19,AS [(0,(ls eI p0)),(1,(i64 p1)),(7,(i64 (Sh.len p0))),(8,(i64 t4))],[]⟩) N 0 h1 (AE U) (fun _ hv=>by rw[BX] at hv;cases hv) ?_)
 rintro n t4 h1
 try dsimp only at h1 ⊢
 rw[BX] at h1
 refine zr tb U U (AB fun K8 hK8=>?_)
 refine ci h1 U ?_ ?_ <;> clear h1
 ·intro b9 h1
  refine AG (hK8 _ (AB fun K10 hK10=>AJ (zr tb U U (sr U fun K12 hK12=>zm tb 3 U (bs h1 fun c13 gc13 h1=>zx A2 gc13 U U U (zm tb 2 U (dn hK12 U ?_)))))))
  refine ci h1 U ?_ ?_ <;> clear h1
  ·intro b14 h1
   refine zr tb U U ?_
   replace h1:=Sh.AA h1
   subst o5
   try dsimp only[id] at h0
   replace h0:=Sh.AA h0
   subst r
   exact AH (xr (AM (L:=[(4,(i64 t4))]) ⟨.rfl,trivial⟩))
  ·intro b14 h1
   exact AG (hK10 _ (AF U (zm tb 2 U (AD (xi (Sh.w (t4+1)) h1 (AE U))))))
 ·intro b9 h1
  exact Ac (M5 () (Sh.AA h1).symm _ (AE U))
theorem Jl {N:Nat} {p0:(List Int)} {p1:Int} {r:Bool} (h0:D4 N p0 p1=some r):AY Tryz.prog 44 [(ls eI p0),(i64 p1)] [] (fun v st=>v=(.bool r)∧st=[]):=by
 unfold D4 at h0
 refine ai Tryz.func44 U U U U (zr tb U U (sr U fun K2 hK2=>zm tb 2 U (bs h0 fun q3 gq3 h0=>zc dZ (Km gq3) rfl U U (zm tb 2 U (dn hK2 U ?_)))))
 replace h0:=Sh.AA h0
 subst r
 exact AH (xr (AM (L:=[(4,(.bool (decide (0≤q3))))]) ⟨.rfl,trivial⟩))
theorem Ks {N:Nat} {p0:Au} {p1:Av} {r:(List Int)} (h0:Gv N p0 p1=some r):AY Tryz.prog 19 [(.agg (Ao p0)),(.agg (Ah p1))] [] (fun v st=>v=(ow 0 0 r)∧st=[(ro 0 3 1 eI r)]):=by
 unfold Gv at h0
 refine ai Tryz.func19 U U U U (sr U fun K1 hK1=>A8 (m:=0) Aa U U U U U (A8 (m:=1) Aa U U U U U (zq tb U (dn hK1 U (AB fun K2 hK2=>sr U fun K3 hK3=>zm tb 2 U (bs h0 fun q4 gq4 h0=>zc eT (NO gq4) rfl U U (zq tb U ?_)))))))
 refine dn hK3 U ?_
 refine ci h0 U ?_ ?_ <;> clear h0
 ·intro b5 h0
  have b6:q4=false:=by simpa using b5
  refine zr tb U U ?_
  replace h0:=Sh.AA h0
  subst r
  exact AH (Exists.intro _ (And.intro ((((EM (t:=4) rfl 3 (size:=1) (by decide)).trans (AM (L:=[(4,(.own 2 0 (List.length ([]:List Int))))]) ⟨.rfl,trivial⟩)).trans (AN (L:=[(4,(.own 0 0 (List.length ([]:List Int))))]) (st':=[(ro 0 3 1 eI ([]:List Int))]) (st1:=[(ro 0 3 1 eI ([]:List Int))]) [2] U .nil (by decide) rfl U (.pure (AL fun _=>U) .nil) ⟨.rfl,trivial⟩)).trans (AM (L:=[(4,(.own 0 0 (List.length ([]:List Int))))]) ⟨.rfl,trivial⟩)) (And.intro U U)))
 ·intro b5 h0
  have b8:q4=true:=by simpa using b5
  refine AG (hK2 _ (sr U fun K9 hK9=>zm tb 2 U (bs h0 fun q10 gq10 h0=>BN (v':=(ow 2 0 q10)) Aa eV (MJ gq10) rfl U ⟨(BB fun _=>U),trivial⟩ U U (zq tb U (dn hK9 U (zr tb U U (AB fun K12 hK12=>sr U fun K13 hK13=>zm tb 2 U (zl tb U U ?_))))))))
  refine zq tb U (dn hK13 U (bs h0 fun o17 h1 h0=>?_))
  have M17 :∀(l16:(List Int)),o17=l16→∀s,Wk 0 s ⟨39,AS [(6,(ow 0 0 l16))],[(ro 0 3 1 eI l16)]⟩→K12 s:=by
   intro l16 hq s hw
   subst o17
   try dsimp only at h0
   refine hK12 _ (AI hw (zr tb U U ?_))
   replace h0:=Sh.AA h0
   subst r
   exact AH (xr (AM (L:=[(4,(ow 0 0 l16))]) ⟨.rfl,trivial⟩))
  refine AJ (AX (σ:=Int×(List Int)) (fun n v=>Dc N p1 q10 n v.1 v.2=some o17) (fun (t14,l15)=>⟨39,AS [(5,(ow 0 0 q10)),(6,(ow 1 0 l15)),(17,(ls Aj p1.heap)),(18,(i64 (Sh.len p1.heap))),(19,(i64 t14))],[(ro 0 3 1 eI q10),(ro 0 3 1 eI l15)]⟩) N (0,[]) h1 (by refine Wk.trans ((EM (t:=6) rfl 3 (size:=1) (by decide)).trans (AM (L:=[(5,(ow 2 0 q10)),(6,(.own 3 0 (List.length ([]:List Int)))),(17,(ls Aj p1.heap)),(18,(i64 (Sh.len p1.heap))),(19,(i64 0))]) ⟨.rfl,.rfl,.rfl,.rfl,.rfl,trivial⟩)) ?_;exact AN (L:=[(5,(ow 0 0 q10)),(6,(.own 1 0 (List.length ([]:List Int)))),(17,(ls Aj p1.heap)),(18,(i64 (Sh.len p1.heap))),(19,(i64 0))]) (st':=[(ro 0 3 1 eI q10),(ro 0 3 1 eI ([]:List Int))]) (st1:=[(ro 0 3 1 eI q10),(ro 0 3 1 eI ([]:List Int))]) [2,3] U .nil (by decide) rfl U (.pure (AL fun _=>U) (.pure (AL fun _=>U) .nil)) ⟨.rfl,.rfl,.rfl,.rfl,.rfl,trivial⟩) (fun _ hv=>by rw[Dc] at hv;cases hv) ?_)
  rintro n ⟨t14,l15⟩ h1
  try dsimp only at h1 ⊢
  rw[Dc] at h1
  refine zr tb U U (AB fun K20 hK20=>?_)
  refine ci h1 U ?_ ?_ <;> clear h1
  ·intro b21 h1
   refine AG (hK20 _ (AB fun K22 hK22=>bs h1 fun o24 h2 h1=>?_))
   have M24 :∀(l23:(List Int)),o24=l23→∀s,Wk 0 s ⟨39,AS [(5,(ow 0 0 q10)),(6,(ow 1 0 l23)),(17,(ls Aj p1.heap)),(18,(i64 (Sh.len p1.heap))),(19,(i64 t14))],[(ro 0 3 1 eI q10),(ro 0 3 1 eI l23)]⟩→K22 s:=by
    intro l23 hq s hw
    subst o24
    try dsimp only at h1
    exact hK22 _ (AI hw (AF U (zm tb 2 U (AD (xi (Sh.w (t14+1),l23) h1 (AE U))))))
   refine AJ (sr U fun K25 hK25=>zq tb U (bs h2 fun c26 gc26 h2=>zx FI gc26 U U U (zq tb U (BF (m:=2) Aa SW U U (zq tb U (A7 Aa QY U U U U U U (show 0+3≤3 by decide) rfl (dn hK25 U (AB fun K27 hK27=>bs h2 fun o29 h3 h2=>?_))))))))
   have M29 :∀(t28:Bool),o29=t28→∀s,Wk 0 s ⟨39,AS [(5,(ow 0 0 q10)),(6,(ow 1 0 l15)),(7,(i64 t14)),(17,(ls Aj p1.heap)),(18,(i64 (Sh.len p1.heap))),(19,(i64 t14)),(32,(.bool t28))],[(ro 0 3 1 eI q10),(ro 0 3 1 eI l15)]⟩→K27 s:=by
    intro t28 hq s hw
    subst o29
    try dsimp only at h2
    refine hK27 _ (AI hw ?_)
    refine ci h2 U ?_ ?_ <;> clear h2
    ·intro b30 h2
     refine AF U (zm tb 2 U ?_)
     refine DO (m:=2) (l:=[t14]) (enc:=eI) Aa A2 (by decide) rfl U U U U U ?_
     refine bs h2 fun l31 gl31 h2=>Ex (l2:=[t14]) Aa A2 U U U U (J0 U U) (fun _=>U) gl31 U (zq tb U ?_)
     exact AD (M24 l31 (Sh.AA h2).symm _ (by refine Wk.trans (Cf (L:=[(5,(ow 0 0 q10)),(6,(ow 1 0 l31)),(17,(ls Aj p1.heap)),(18,(i64 (Sh.len p1.heap))),(19,(i64 t14))]) (st':=[(ro 0 3 1 eI q10),(ro 0 3 1 eI l31),(ro 0 3 1 eI [t14])]) (.pure (AL fun _=>U) (.pure (AL fun _=>U) (.pure (AL fun _=>U) .nil))) ⟨.rfl,.rfl,.rfl,.rfl,.rfl,trivial⟩) ?_;exact AN (L:=[(5,(ow 0 0 q10)),(6,(ow 1 0 l31)),(17,(ls Aj p1.heap)),(18,(i64 (Sh.len p1.heap))),(19,(i64 t14))]) (st':=[(ro 0 3 1 eI q10),(ro 0 3 1 eI l31)]) (st1:=[(ro 0 3 1 eI q10),(ro 0 3 1 eI l31)]) [0,1] U .nil (by decide) rfl U (.pure (AL fun _=>U) (.pure (AL fun _=>U) .nil)) ⟨.rfl,.rfl,.rfl,.rfl,.rfl,trivial⟩))
    ·intro b30 h2
     exact AG (M24 l15 (Sh.AA h2).symm _ (AE U))
   refine AF U (zm tb 4 U ?_)
   rcases Sh.AP h3 with ⟨b32,h3⟩ | ⟨b32,h3⟩
   ·refine zg tb b32 U (zg tb b32 U (bs h3 fun q33 gq33 h3=>JG (v':=(.bool q33)) (A9 U U b32) cx (Jl gq33) rfl (.own U U (fun _=>U) (.val U .nil)) rfl trivial U U (zg tb b32 U (zt b32 U ?_))))
    exact AD (M29 (!q33) (Sh.AA h3).symm _ (AN (L:=[(5,(ow 0 0 q10)),(6,(ow 1 0 l15)),(7,(i64 t14)),(17,(ls Aj p1.heap)),(18,(i64 (Sh.len p1.heap))),(19,(i64 t14)),(32,(.bool (!q33)))]) (st':=[(ro 0 3 1 eI q10),(ro 0 3 1 eI l15)]) (st1:=[(ro 0 3 1 eI q10),(ro 0 3 1 eI l15)]) [0,1] U .nil (by decide) rfl U (.pure (AL fun _=>U) (.pure (AL fun _=>U) .nil)) ⟨.rfl,.rfl,.rfl,.rfl,.rfl,.rfl,.rfl,trivial⟩))
   ·refine zs b32 U ?_
    iterate 3 refine zs b32 rfl ?_
    refine zf b32 U ?_
    exact AD (M29 false (Sh.AA h3).symm _ (AN (L:=[(5,(ow 0 0 q10)),(6,(ow 1 0 l15)),(7,(i64 t14)),(17,(ls Aj p1.heap)),(18,(i64 (Sh.len p1.heap))),(19,(i64 t14)),(32,(.bool false))]) (st':=[(ro 0 3 1 eI q10),(ro 0 3 1 eI l15)]) (st1:=[(ro 0 3 1 eI q10),(ro 0 3 1 eI l15)]) [0,1] U .nil (by decide) rfl U (.pure (AL fun _=>U) (.pure (AL fun _=>U) .nil)) ⟨.rfl,.rfl,.rfl,.rfl,.rfl,.rfl,.rfl,trivial⟩))
  ·intro b21 h1
   exact Ac (M17 l15 (Sh.AA h1).symm _ (AN (L:=[(6,(ow 0 0 l15))]) (st':=[(ro 0 3 1 eI l15)]) (st1:=[(ro 0 3 1 eI l15)]) [1] U .nil (by decide) rfl U (.pure (AL fun _=>U) .nil) ⟨.rfl,trivial⟩))
theorem B5 {N:Nat} {p0:(List Int)} {p1:(List Int)} {r:Bool} (h0:B7 N p0 p1=some r):AY Tryz.prog 11 [(ls eI p0),(ls eI p1)] [] (fun v st=>v=(.bool r)∧st=[]):=by
 unfold B7 at h0
 refine ai Tryz.func11 U U U U (zr tb U U (AB fun K2 hK2=>sr U fun K3 hK3=>zq tb U (zl tb U U (zq tb U (zl tb U U (zq tb U (dn hK3 U ?_)))))))
 refine ci h0 U ?_ ?_ <;> clear h0
 ·intro b4 h0
  have b5:decide ((Sh.len p0)=(Sh.len p1))=false:=by simpa using b4
  refine zr tb U U ?_
  replace h0:=Sh.AA h0
  subst r
  exact AH (xr (AM (L:=[(4,(.bool false))]) ⟨.rfl,trivial⟩))
 ·intro b4 h0
  have b7:decide ((Sh.len p0)=(Sh.len p1))=true:=by simpa using b4
  refine AG (hK2 _ (AB fun K8 hK8=>zr tb U U ?_))
  obtain⟨o11,h1,h0⟩:=Sh.A1 h0
  have M11 :∀(_:Unit),o11=Sum.inr ()→∀s,Wk 0 s ⟨26,AS [],[]⟩→K8 s:=by
   intro _ hq s hw
   subst o11
   try dsimp only at h0
   refine hK8 _ (AI hw (zr tb U U ?_))
   replace h0:=Sh.AA h0
   subst r
   exact AH (xr (AM (L:=[(4,(.bool true))]) ⟨.rfl,trivial⟩))
  refine AJ (AX (σ:=Int) (fun n v=>D8 p0 p1 n v=some o11) (fun i10=>⟨26,AS [(0,(ls eI p0)),(1,(ls eI p1)),(5,(i64 i10))],[]⟩) N 0 h1 (AE U) (fun _ hv=>by rw[D8] at hv;cases hv) ?_)
  rintro n i10 h1
  try dsimp only at h1 ⊢
  rw[D8] at h1
  refine AB fun K13 hK13=>sr U fun K14 hK14=>zm tb 2 U (zl tb U U (zq tb U (dn hK14 U ?_)))
  refine ci h1 U ?_ ?_ <;> clear h1
  ·intro b15 h1
   refine AG (hK13 _ (AB fun K16 hK16=>AJ (AB fun K17 hK17=>?_)))
   refine B1 (by kernel_rfl) (by kernel_rfl) (by rfl) ?_
   iterate 2 refine yq tb rfl ?_
   refine bs h1 fun c18 gc18 h1=>yx A2 gc18 U U U ?_
   iterate 3 refine yq tb rfl ?_
   refine bs h1 fun c19 gc19 h1=>yx A2 gc19 U U U ?_
   iterate 2 refine yq tb rfl ?_
   refine BP (hK17 _ ?_)
   refine ci h1 U ?_ ?_ <;> clear h1
   ·intro b20 h1
    have b21:decide (c18=c19)=false:=by simpa using b20
    refine zr tb U U ?_
    replace h1:=Sh.AA h1
    subst o11
    try dsimp only[id] at h0
    replace h0:=Sh.AA h0
    subst r
    exact AH (xr (AM (L:=[(4,(.bool false))]) ⟨.rfl,trivial⟩))
   ·intro b20 h1
    have b23:decide (c18=c19)=true:=by simpa using b20
    exact AG (hK16 _ (AF U (zm tb 3 U (AD (xi (Sh.w (i10+1)) h1 (AE U))))))
  ·intro b15 h1
   exact Ac (M11 () (Sh.AA h1).symm _ (AE U))
theorem Rm {N:Nat} {p0:By} {p1:By} {r:Bool} (h0:JN N p0 p1=some r):AY Tryz.prog 129 [(.agg (D5 p0)),(.agg (D5 p1))] [] (fun v st=>v=(.bool r)∧st=[]):=by
 unfold JN at h0
 refine ai Tryz.func129 U U U U (sr U fun K1 hK1=>A8 (m:=0) Aa U U U U U (A8 (m:=1) Aa U U U U U (zq tb U (dn hK1 U (AB fun K2 hK2=>sr U fun K3 hK3=>zm tb 4 U (bs h0 fun q4 gq4 h0=>zc LR (B5 gq4) rfl U U (zq tb U ?_)))))))
 refine dn hK3 U ?_
 refine ci h0 U ?_ ?_ <;> clear h0
 ·intro b5 h0
  have b6:q4=false:=by simpa using b5
  refine zr tb U U ?_
  replace h0:=Sh.AA h0
  subst r
  exact AH (xr (AR [(4,(.bool false))] U))
 ·intro b5 h0
  have b8:q4=true:=by simpa using b5
  refine AG (hK2 _ (zr tb U U ?_))
  replace h0:=Sh.AA h0
  subst r
  exact AH (xr (AR [(4,(.bool true))] U))
theorem Qw {N:Nat} {p0:(List By)} {p1:(List By)} {r:Bool} (h0:Iu N p0 p1=some r):AY Tryz.prog 107 [(ls D5 p0),(ls D5 p1)] [] (fun v st=>v=(.bool r)∧st=[]):=by
 unfold Iu at h0
 refine ai Tryz.func107 U U U U (zr tb U U (AB fun K2 hK2=>sr U fun K3 hK3=>zq tb U (zl tb U U (zq tb U (zl tb U U (zq tb U (dn hK3 U ?_)))))))
 refine ci h0 U ?_ ?_ <;> clear h0
 ·intro b4 h0
  have b5:decide ((Sh.len p0)=(Sh.len p1))=false:=by simpa using b4
  refine zr tb U U ?_
  replace h0:=Sh.AA h0
  subst r
  exact AH (xr (AM (L:=[(4,(.bool false))]) ⟨.rfl,trivial⟩))
 ·intro b4 h0
  have b7:decide ((Sh.len p0)=(Sh.len p1))=true:=by simpa using b4
  refine AG (hK2 _ (AB fun K8 hK8=>zr tb U U ?_))
  obtain⟨o11,h1,h0⟩:=Sh.A1 h0
  have M11 :∀(_:Unit),o11=Sum.inr ()→∀s,Wk 0 s ⟨27,AS [],[]⟩→K8 s:=by
   intro _ hq s hw
   subst o11
   try dsimp only at h0
   refine hK8 _ (AI hw (zr tb U U ?_))
   replace h0:=Sh.AA h0
   subst r
   exact AH (xr (AM (L:=[(4,(.bool true))]) ⟨.rfl,trivial⟩))
  refine AJ (AX (σ:=Int) (fun n v=>Ei N p0 p1 n v=some o11) (fun i10=>⟨27,AS [(0,(ls D5 p0)),(1,(ls D5 p1)),(5,(i64 i10))],[]⟩) N 0 h1 (AE U) (fun _ hv=>by rw[Ei] at hv;cases hv) ?_)
  rintro n i10 h1
  try dsimp only at h1 ⊢
  rw[Ei] at h1
  refine AB fun K13 hK13=>sr U fun K14 hK14=>zm tb 2 U (zl tb U U (zq tb U (dn hK14 U ?_)))
  refine ci h1 U ?_ ?_ <;> clear h1
  ·intro b15 h1
   refine AG (hK13 _ (AB fun K16 hK16=>AJ (AB fun K17 hK17=>?_)))
   refine B1 (by kernel_rfl) (by kernel_rfl) (by rfl) ?_
   iterate 2 refine yq tb rfl ?_
   refine bs h1 fun c18 gc18 h1=>yx Ke gc18 U U U ?_
   iterate 3 refine yq tb rfl ?_
   refine bs h1 fun c19 gc19 h1=>yx Ke gc19 U U U (yq tb U (bs h1 fun q20 gq20 h1=>E0 (v:=(.bool q20)) Aa bq (Rm gq20) rfl U U (yq tb U (BP (hK17 _ ?_)))))
   refine ci h1 U ?_ ?_ <;> clear h1
   ·intro b21 h1
    have b22:q20=false:=by simpa using b21
    refine zr tb U U ?_
    replace h1:=Sh.AA h1
    subst o11
    try dsimp only[id] at h0
    replace h0:=Sh.AA h0
    subst r
    exact AH (xr (AM (L:=[(4,(.bool false))]) ⟨.rfl,trivial⟩))
   ·intro b21 h1
    have b24:q20=true:=by simpa using b21
    exact AG (hK16 _ (AF U (zm tb 3 U (AD (xi (Sh.w (i10+1)) h1 (AE U))))))
  ·intro b15 h1
   exact Ac (M11 () (Sh.AA h1).symm _ (AE U))
theorem Qb {N:Nat} {p0:An} {p1:An} {r:Bool} (h0:It N p0 p1=some r):AY Tryz.prog 69 [(.agg (Ad p0)),(.agg (Ad p1))] [] (fun v st=>v=(.bool r)∧st=[]):=by
 unfold It at h0
 refine ai Tryz.func69 U U U U (sr U fun K1 hK1=>A8 (m:=0) Aa U U U U U (A8 (m:=1) Aa U U U U U (zq tb U (dn hK1 U (AB fun K2 hK2=>zr tb U U ?_)))))
 refine ci h0 U ?_ ?_ <;> clear h0
 ·intro b4 h0
  have b5:decide (p0.from_=p1.from_)=false:=by simpa using b4
  refine zr tb U U ?_
  replace h0:=Sh.AA h0
  subst r
  exact AH (xr (AR [(4,(.bool false))] U))
 ·intro b4 h0
  have b7:decide (p0.from_=p1.from_)=true:=by simpa using b4
  refine AG (hK2 _ (AB fun K8 hK8=>zr tb U U ?_))
  refine ci h0 U ?_ ?_ <;> clear h0
  ·intro b10 h0
   have b11:decide (p0.to=p1.to)=false:=by simpa using b10
   refine zr tb U U ?_
   replace h0:=Sh.AA h0
   subst r
   exact AH (xr (AR [(4,(.bool false))] U))
  ·intro b10 h0
   have b13:decide (p0.to=p1.to)=true:=by simpa using b10
   refine AG (hK8 _ (AB fun K14 hK14=>sr U fun K15 hK15=>zm tb 4 U (bs h0 fun q16 gq16 h0=>zc cD (Qw gq16) rfl U U (zq tb U (dn hK15 U ?_)))))
   refine ci h0 U ?_ ?_ <;> clear h0
   ·intro b17 h0
    have b18:q16=false:=by simpa using b17
    refine zr tb U U ?_
    replace h0:=Sh.AA h0
    subst r
    exact AH (xr (AR [(4,(.bool false))] U))
   ·intro b17 h0
    have b20:q16=true:=by simpa using b17
    refine AG (hK14 _ (zr tb U U ?_))
    replace h0:=Sh.AA h0
    subst r
    exact AH (xr (AR [(4,(.bool true))] U))
theorem PQ {N:Nat} {p0:(List An)} {p1:(List An)} {r:Bool} (h0:HZ N p0 p1=some r):AY Tryz.prog 35 [(ls Ad p0),(ls Ad p1)] [] (fun v st=>v=(.bool r)∧st=[]):=by
 unfold HZ at h0
 refine ai Tryz.func35 U U U U (zr tb U U (AB fun K2 hK2=>sr U fun K3 hK3=>zq tb U (zl tb U U (zq tb U (zl tb U U (zq tb U (dn hK3 U ?_)))))))
 refine ci h0 U ?_ ?_ <;> clear h0
 ·intro b4 h0
  have b5:decide ((Sh.len p0)=(Sh.len p1))=false:=by simpa using b4
  refine zr tb U U ?_
  replace h0:=Sh.AA h0
  subst r
  exact AH (xr (AM (L:=[(4,(.bool false))]) ⟨.rfl,trivial⟩))
 ·intro b4 h0
  have b7:decide ((Sh.len p0)=(Sh.len p1))=true:=by simpa using b4
  refine AG (hK2 _ (AB fun K8 hK8=>zr tb U U ?_))
  obtain⟨o11,h1,h0⟩:=Sh.A1 h0
  have M11 :∀(_:Unit),o11=Sum.inr ()→∀s,Wk 0 s ⟨27,AS [],[]⟩→K8 s:=by
   intro _ hq s hw
   subst o11
   try dsimp only at h0
   refine hK8 _ (AI hw (zr tb U U ?_))
   replace h0:=Sh.AA h0
   subst r
   exact AH (xr (AM (L:=[(4,(.bool true))]) ⟨.rfl,trivial⟩))
  refine AJ (AX (σ:=Int) (fun n v=>EN N p0 p1 n v=some o11) (fun i10=>⟨27,AS [(0,(ls Ad p0)),(1,(ls Ad p1)),(5,(i64 i10))],[]⟩) N 0 h1 (AE U) (fun _ hv=>by rw[EN] at hv;cases hv) ?_)
  rintro n i10 h1
  try dsimp only at h1 ⊢
  rw[EN] at h1
  refine AB fun K13 hK13=>sr U fun K14 hK14=>zm tb 2 U (zl tb U U (zq tb U (dn hK14 U ?_)))
  refine ci h1 U ?_ ?_ <;> clear h1
  ·intro b15 h1
   refine AG (hK13 _ (AB fun K16 hK16=>AJ (AB fun K17 hK17=>?_)))
   refine B1 (by kernel_rfl) (by kernel_rfl) (by rfl) ?_
   iterate 2 refine yq tb rfl ?_
   refine bs h1 fun c18 gc18 h1=>yx HX gc18 U U U ?_
   iterate 3 refine yq tb rfl ?_
   refine bs h1 fun c19 gc19 h1=>yx HX gc19 U U U (yq tb U (bs h1 fun q20 gq20 h1=>E0 (v:=(.bool q20)) Aa fF (Qb gq20) rfl U U (yq tb U (BP (hK17 _ ?_)))))
   refine ci h1 U ?_ ?_ <;> clear h1
   ·intro b21 h1
    have b22:q20=false:=by simpa using b21
    refine zr tb U U ?_
    replace h1:=Sh.AA h1
    subst o11
    try dsimp only[id] at h0
    replace h0:=Sh.AA h0
    subst r
    exact AH (xr (AM (L:=[(4,(.bool false))]) ⟨.rfl,trivial⟩))
   ·intro b21 h1
    have b24:q20=true:=by simpa using b21
    exact AG (hK16 _ (AF U (zm tb 3 U (AD (xi (Sh.w (i10+1)) h1 (AE U))))))
  ·intro b15 h1
   exact Ac (M11 () (Sh.AA h1).symm _ (AE U))
theorem PI {N:Nat} {p0:Ag} {p1:Ag} {r:Bool} (h0:Hx N p0 p1=some r):AY Tryz.prog 130 [(.agg (AU p0)),(.agg (AU p1))] [] (fun v st=>v=(.bool r)∧st=[]):=by
 unfold Hx at h0
 refine ai Tryz.func130 U U U U (sr U fun K1 hK1=>A8 (m:=0) Aa U U U U U (A8 (m:=1) Aa U U U U U (zq tb U (dn hK1 U (AB fun K2 hK2=>zr tb U U ?_)))))
 refine ci h0 U ?_ ?_ <;> clear h0
 ·intro b4 h0
  have b5:decide (p0.op=p1.op)=false:=by simpa using b4
  refine zr tb U U ?_
  replace h0:=Sh.AA h0
  subst r
  exact AH (xr (AR [(4,(.bool false))] U))
 ·intro b4 h0
  have b7:decide (p0.op=p1.op)=true:=by simpa using b4
  refine AG (hK2 _ (AB fun K8 hK8=>zr tb U U ?_))
  refine ci h0 U ?_ ?_ <;> clear h0
  ·intro b10 h0
   have b11:decide (p0.dst=p1.dst)=false:=by simpa using b10
   refine zr tb U U ?_
   replace h0:=Sh.AA h0
   subst r
   exact AH (xr (AR [(4,(.bool false))] U))
  ·intro b10 h0
   have b13:decide (p0.dst=p1.dst)=true:=by simpa using b10
   refine AG (hK8 _ (AB fun K14 hK14=>zr tb U U ?_))
   refine ci h0 U ?_ ?_ <;> clear h0
   ·intro b16 h0
    have b17:decide (p0.num=p1.num)=false:=by simpa using b16
    refine zr tb U U ?_
    replace h0:=Sh.AA h0
    subst r
    exact AH (xr (AR [(4,(.bool false))] U))
   ·intro b16 h0
    have b19:decide (p0.num=p1.num)=true:=by simpa using b16
    refine AG (hK14 _ (AB fun K20 hK20=>zr tb U U ?_))
    refine ci h0 U ?_ ?_ <;> clear h0
    ·intro b22 h0
     have b23:decide (p0.BY=p1.BY)=false:=by simpa using b22
     refine zr tb U U ?_
     replace h0:=Sh.AA h0
     subst r
     exact AH (xr (AR [(4,(.bool false))] U))
    ·intro b22 h0
     have b25:decide (p0.BY=p1.BY)=true:=by simpa using b22
     refine AG (hK20 _ (AB fun K26 hK26=>sr U fun K27 hK27=>zm tb 4 U (bs h0 fun q28 gq28 h0=>zc LR (B5 gq28) rfl U U (zq tb U (dn hK27 U ?_)))))
     refine ci h0 U ?_ ?_ <;> clear h0
     ·intro b29 h0
      have b30:q28=false:=by simpa using b29
      refine zr tb U U ?_
      replace h0:=Sh.AA h0
      subst r
      exact AH (xr (AR [(4,(.bool false))] U))
     ·intro b29 h0
      have b32:q28=true:=by simpa using b29
      refine AG (hK26 _ (AB fun K33 hK33=>sr U fun K34 hK34=>zm tb 4 U (bs h0 fun q35 gq35 h0=>zc LR (B5 gq35) rfl U U (zq tb U (dn hK34 U ?_)))))
      refine ci h0 U ?_ ?_ <;> clear h0
      ·intro b36 h0
       have b37:q35=false:=by simpa using b36
       refine zr tb U U ?_
       replace h0:=Sh.AA h0
       subst r
       exact AH (xr (AR [(4,(.bool false))] U))
      ·intro b36 h0
       have b39:q35=true:=by simpa using b36
       refine AG (hK33 _ (zr tb U U ?_))
       replace h0:=Sh.AA h0
       subst r
       exact AH (xr (AR [(4,(.bool true))] U))
theorem Oe {N:Nat} {p0:(List Ag)} {p1:(List Ag)} {r:Bool} (h0:HA N p0 p1=some r):AY Tryz.prog 108 [(ls AU p0),(ls AU p1)] [] (fun v st=>v=(.bool r)∧st=[]):=by
 unfold HA at h0
 refine ai Tryz.func108 U U U U (zr tb U U (AB fun K2 hK2=>sr U fun K3 hK3=>zq tb U (zl tb U U (zq tb U (zl tb U U (zq tb U (dn hK3 U ?_)))))))
 refine ci h0 U ?_ ?_ <;> clear h0
 ·intro b4 h0
  have b5:decide ((Sh.len p0)=(Sh.len p1))=false:=by simpa using b4
  refine zr tb U U ?_
  replace h0:=Sh.AA h0
  subst r
  exact AH (xr (AM (L:=[(4,(.bool false))]) ⟨.rfl,trivial⟩))
 ·intro b4 h0
  have b7:decide ((Sh.len p0)=(Sh.len p1))=true:=by simpa using b4
  refine AG (hK2 _ (AB fun K8 hK8=>zr tb U U ?_))
  obtain⟨o11,h1,h0⟩:=Sh.A1 h0
  have M11 :∀(_:Unit),o11=Sum.inr ()→∀s,Wk 0 s ⟨27,AS [],[]⟩→K8 s:=by
   intro _ hq s hw
   subst o11
   try dsimp only at h0
   refine hK8 _ (AI hw (zr tb U U ?_))
   replace h0:=Sh.AA h0
   subst r
   exact AH (xr (AM (L:=[(4,(.bool true))]) ⟨.rfl,trivial⟩))
  refine AJ (AX (σ:=Int) (fun n v=>Dz N p0 p1 n v=some o11) (fun i10=>⟨27,AS [(0,(ls AU p0)),(1,(ls AU p1)),(5,(i64 i10))],[]⟩) N 0 h1 (AE U) (fun _ hv=>by rw[Dz] at hv;cases hv) ?_)
  rintro n i10 h1
  try dsimp only at h1 ⊢
  rw[Dz] at h1
  refine AB fun K13 hK13=>sr U fun K14 hK14=>zm tb 2 U (zl tb U U (zq tb U (dn hK14 U ?_)))
  refine ci h1 U ?_ ?_ <;> clear h1
  ·intro b15 h1
   refine AG (hK13 _ (AB fun K16 hK16=>AJ (AB fun K17 hK17=>?_)))
   refine B1 (by kernel_rfl) (by kernel_rfl) (by rfl) ?_
   iterate 2 refine yq tb rfl ?_
   refine bs h1 fun c18 gc18 h1=>yx IB gc18 U U U ?_
   iterate 3 refine yq tb rfl ?_
   refine bs h1 fun c19 gc19 h1=>yx IB gc19 U U U (yq tb U (bs h1 fun q20 gq20 h1=>E0 (v:=(.bool q20)) Aa bn (PI gq20) rfl U U (yq tb U (BP (hK17 _ ?_)))))
   refine ci h1 U ?_ ?_ <;> clear h1
   ·intro b21 h1
    have b22:q20=false:=by simpa using b21
    refine zr tb U U ?_
    replace h1:=Sh.AA h1
    subst o11
    try dsimp only[id] at h0
    replace h0:=Sh.AA h0
    subst r
    exact AH (xr (AM (L:=[(4,(.bool false))]) ⟨.rfl,trivial⟩))
   ·intro b21 h1
    have b24:q20=true:=by simpa using b21
    exact AG (hK16 _ (AF U (zm tb 3 U (AD (xi (Sh.w (i10+1)) h1 (AE U))))))
  ·intro b15 h1
   exact Ac (M11 () (Sh.AA h1).symm _ (AE U))
theorem Qd {N:Nat} {p0:A0} {p1:A0} {r:Bool} (h0:IX N p0 p1=some r):AY Tryz.prog 70 [(.agg (Az p0)),(.agg (Az p1))] [] (fun v st=>v=(.bool r)∧st=[]):=by
 unfold IX at h0
 refine ai Tryz.func70 U U U U (sr U fun K1 hK1=>A8 (m:=0) Aa U U U U U (A8 (m:=1) Aa U U U U U (zq tb U (dn hK1 U (AB fun K2 hK2=>sr U fun K3 hK3=>zm tb 4 U (bs h0 fun q4 gq4 h0=>zc LR (B5 gq4) rfl U U (zq tb U ?_)))))))
 refine dn hK3 U ?_
 refine ci h0 U ?_ ?_ <;> clear h0
 ·intro b5 h0
  have b6:q4=false:=by simpa using b5
  refine zr tb U U ?_
  replace h0:=Sh.AA h0
  subst r
  exact AH (xr (AR [(4,(.bool false))] U))
 ·intro b5 h0
  have b8:q4=true:=by simpa using b5
  refine AG (hK2 _ (AB fun K9 hK9=>sr U fun K10 hK10=>zm tb 4 U (bs h0 fun q11 gq11 h0=>zc LR (B5 gq11) rfl U U (zq tb U (dn hK10 U ?_)))))
  refine ci h0 U ?_ ?_ <;> clear h0
  ·intro b12 h0
   have b13:q11=false:=by simpa using b12
   refine zr tb U U ?_
   replace h0:=Sh.AA h0
   subst r
   exact AH (xr (AR [(4,(.bool false))] U))
  ·intro b12 h0
   have b15:q11=true:=by simpa using b12
   refine AG (hK9 _ (AB fun K16 hK16=>zr tb U U ?_))
   refine ci h0 U ?_ ?_ <;> clear h0
   ·intro b18 h0
    have b19:decide (p0.result=p1.result)=false:=by simpa using b18
    refine zr tb U U ?_
    replace h0:=Sh.AA h0
    subst r
    exact AH (xr (AR [(4,(.bool false))] U))
   ·intro b18 h0
    have b21:decide (p0.result=p1.result)=true:=by simpa using b18
    refine AG (hK16 _ (AB fun K22 hK22=>zr tb U U ?_))
    refine ci h0 U ?_ ?_ <;> clear h0
    ·intro b24 h0
     have b25:decide (p0.Ab=p1.Ab)=false:=by simpa using b24
     refine zr tb U U ?_
     replace h0:=Sh.AA h0
     subst r
     exact AH (xr (AR [(4,(.bool false))] U))
    ·intro b24 h0
     have b27:decide (p0.Ab=p1.Ab)=true:=by simpa using b24
     refine AG (hK22 _ (AB fun K28 hK28=>sr U fun K29 hK29=>zm tb 4 U (bs h0 fun q30 gq30 h0=>zc cb (Oe gq30) rfl U U (zq tb U (dn hK29 U ?_)))))
     refine ci h0 U ?_ ?_ <;> clear h0
     ·intro b31 h0
      have b32:q30=false:=by simpa using b31
      refine zr tb U U ?_
      replace h0:=Sh.AA h0
      subst r
      exact AH (xr (AR [(4,(.bool false))] U))
     ·intro b31 h0
      have b34:q30=true:=by simpa using b31
      refine AG (hK28 _ (zr tb U U ?_))
      replace h0:=Sh.AA h0
      subst r
      exact AH (xr (AR [(4,(.bool true))] U))
theorem PW {N:Nat} {p0:(List A0)} {p1:(List A0)} {r:Bool} (h0:Hh N p0 p1=some r):AY Tryz.prog 36 [(ls Az p0),(ls Az p1)] [] (fun v st=>v=(.bool r)∧st=[]):=by
 unfold Hh at h0
 refine ai Tryz.func36 U U U U (zr tb U U (AB fun K2 hK2=>sr U fun K3 hK3=>zq tb U (zl tb U U (zq tb U (zl tb U U (zq tb U (dn hK3 U ?_)))))))
 refine ci h0 U ?_ ?_ <;> clear h0
 ·intro b4 h0
  have b5:decide ((Sh.len p0)=(Sh.len p1))=false:=by simpa using b4
  refine zr tb U U ?_
  replace h0:=Sh.AA h0
  subst r
  exact AH (xr (AM (L:=[(4,(.bool false))]) ⟨.rfl,trivial⟩))
 ·intro b4 h0
  have b7:decide ((Sh.len p0)=(Sh.len p1))=true:=by simpa using b4
  refine AG (hK2 _ (AB fun K8 hK8=>zr tb U U ?_))
  obtain⟨o11,h1,h0⟩:=Sh.A1 h0
  have M11 :∀(_:Unit),o11=Sum.inr ()→∀s,Wk 0 s ⟨27,AS [],[]⟩→K8 s:=by
   intro _ hq s hw
   subst o11
   try dsimp only at h0
   refine hK8 _ (AI hw (zr tb U U ?_))
   replace h0:=Sh.AA h0
   subst r
   exact AH (xr (AM (L:=[(4,(.bool true))]) ⟨.rfl,trivial⟩))
  refine AJ (AX (σ:=Int) (fun n v=>EJ N p0 p1 n v=some o11) (fun i10=>⟨27,AS [(0,(ls Az p0)),(1,(ls Az p1)),(5,(i64 i10))],[]⟩) N 0 h1 (AE U) (fun _ hv=>by rw[EJ] at hv;cases hv) ?_)
  rintro n i10 h1
  try dsimp only at h1 ⊢
  rw[EJ] at h1
  refine AB fun K13 hK13=>sr U fun K14 hK14=>zm tb 2 U (zl tb U U (zq tb U (dn hK14 U ?_)))
  refine ci h1 U ?_ ?_ <;> clear h1
  ·intro b15 h1
   refine AG (hK13 _ (AB fun K16 hK16=>AJ (AB fun K17 hK17=>?_)))
   refine B1 (by kernel_rfl) (by kernel_rfl) (by rfl) ?_
   iterate 2 refine yq tb rfl ?_
   refine bs h1 fun c18 gc18 h1=>yx IC gc18 U U U ?_
   iterate 3 refine yq tb rfl ?_
   refine bs h1 fun c19 gc19 h1=>yx IC gc19 U U U (yq tb U (bs h1 fun q20 gq20 h1=>E0 (v:=(.bool q20)) Aa cv (Qd gq20) rfl U U (yq tb U (BP (hK17 _ ?_)))))
   refine ci h1 U ?_ ?_ <;> clear h1
   ·intro b21 h1
    have b22:q20=false:=by simpa using b21
    refine zr tb U U ?_
    replace h1:=Sh.AA h1
    subst o11
    try dsimp only[id] at h0
    replace h0:=Sh.AA h0
    subst r
    exact AH (xr (AM (L:=[(4,(.bool false))]) ⟨.rfl,trivial⟩))
   ·intro b21 h1
    have b24:q20=true:=by simpa using b21
    exact AG (hK16 _ (AF U (zm tb 3 U (AD (xi (Sh.w (i10+1)) h1 (AE U))))))
  ·intro b15 h1
   exact Ac (M11 () (Sh.AA h1).symm _ (AE U))
theorem PR {N:Nat} {p0:Au} {p1:Au} {r:Bool} (h0:Hf N p0 p1=some r):AY Tryz.prog 12 [(.agg (Ao p0)),(.agg (Ao p1))] [] (fun v st=>v=(.bool r)∧st=[]):=by
 unfold Hf at h0
 refine ai Tryz.func12 U U U U (sr U fun K1 hK1=>A8 (m:=0) Aa U U U U U (A8 (m:=1) Aa U U U U U (zq tb U (dn hK1 U (AB fun K2 hK2=>sr U fun K3 hK3=>zm tb 4 U (bs h0 fun q4 gq4 h0=>zc fH (PQ gq4) rfl U U (zq tb U ?_)))))))
 refine dn hK3 U ?_
 refine ci h0 U ?_ ?_ <;> clear h0
 ·intro b5 h0
  have b6:q4=false:=by simpa using b5
  refine zr tb U U ?_
  replace h0:=Sh.AA h0
  subst r
  exact AH (xr (AR [(4,(.bool false))] U))
 ·intro b5 h0
  have b8:q4=true:=by simpa using b5
  refine AG (hK2 _ (AB fun K9 hK9=>sr U fun K10 hK10=>zm tb 4 U (bs h0 fun q11 gq11 h0=>zc dS (PW gq11) rfl U U (zq tb U (dn hK10 U ?_)))))
  refine ci h0 U ?_ ?_ <;> clear h0
  ·intro b12 h0
   have b13:q11=false:=by simpa using b12
   refine zr tb U U ?_
   replace h0:=Sh.AA h0
   subst r
   exact AH (xr (AR [(4,(.bool false))] U))
  ·intro b12 h0
   have b15:q11=true:=by simpa using b12
   refine AG (hK9 _ (zr tb U U ?_))
   replace h0:=Sh.AA h0
   subst r
   exact AH (xr (AR [(4,(.bool true))] U))
theorem Qx {N:Nat} {p0:Cell} {p1:Cell} {r:Bool} (h0:IS N p0 p1=some r):AY Tryz.prog 71 [(.agg (Aj p0)),(.agg (Aj p1))] [] (fun v st=>v=(.bool r)∧st=[]):=by
 unfold IS at h0
 refine ai Tryz.func71 U U U U (sr U fun K1 hK1=>A8 (m:=0) Aa U U U U U (A8 (m:=1) Aa U U U U U (zq tb U (dn hK1 U (AB fun K2 hK2=>zr tb U U ?_)))))
 refine ci h0 U ?_ ?_ <;> clear h0
 ·intro b4 h0
  have b5:decide (p0.count=p1.count)=false:=by simpa using b4
  refine zr tb U U ?_
  replace h0:=Sh.AA h0
  subst r
  exact AH (xr (AR [(4,(.bool false))] U))
 ·intro b4 h0
  have b7:decide (p0.count=p1.count)=true:=by simpa using b4
  refine AG (hK2 _ (AB fun K8 hK8=>zr tb U U ?_))
  refine ci h0 U ?_ ?_ <;> clear h0
  ·intro b10 h0
   have b11:decide (p0.tag=p1.tag)=false:=by simpa using b10
   refine zr tb U U ?_
   replace h0:=Sh.AA h0
   subst r
   exact AH (xr (AR [(4,(.bool false))] U))
  ·intro b10 h0
   have b13:decide (p0.tag=p1.tag)=true:=by simpa using b10
   refine AG (hK8 _ (AB fun K14 hK14=>sr U fun K15 hK15=>zm tb 4 U (bs h0 fun q16 gq16 h0=>zc LR (B5 gq16) rfl U U (zq tb U (dn hK15 U ?_)))))
   refine ci h0 U ?_ ?_ <;> clear h0
   ·intro b17 h0
    have b18:q16=false:=by simpa using b17
    refine zr tb U U ?_
    replace h0:=Sh.AA h0
    subst r
    exact AH (xr (AR [(4,(.bool false))] U))
   ·intro b17 h0
    have b20:q16=true:=by simpa using b17
    refine AG (hK14 _ (zr tb U U ?_))
    replace h0:=Sh.AA h0
    subst r
    exact AH (xr (AR [(4,(.bool true))] U))
theorem P6 {N:Nat} {p0:(List Cell)} {p1:(List Cell)} {r:Bool} (h0:Hi N p0 p1=some r):AY Tryz.prog 37 [(ls Aj p0),(ls Aj p1)] [] (fun v st=>v=(.bool r)∧st=[]):=by
 unfold Hi at h0
 refine ai Tryz.func37 U U U U (zr tb U U (AB fun K2 hK2=>sr U fun K3 hK3=>zq tb U (zl tb U U (zq tb U (zl tb U U (zq tb U (dn hK3 U ?_)))))))
 refine ci h0 U ?_ ?_ <;> clear h0
 ·intro b4 h0
  have b5:decide ((Sh.len p0)=(Sh.len p1))=false:=by simpa using b4
  refine zr tb U U ?_
  replace h0:=Sh.AA h0
  subst r
  exact AH (xr (AM (L:=[(4,(.bool false))]) ⟨.rfl,trivial⟩))
 ·intro b4 h0
  have b7:decide ((Sh.len p0)=(Sh.len p1))=true:=by simpa using b4
  refine AG (hK2 _ (AB fun K8 hK8=>zr tb U U ?_))
  obtain⟨o11,h1,h0⟩:=Sh.A1 h0
  have M11 :∀(_:Unit),o11=Sum.inr ()→∀s,Wk 0 s ⟨27,AS [],[]⟩→K8 s:=by
   intro _ hq s hw
   subst o11
   try dsimp only at h0
   refine hK8 _ (AI hw (zr tb U U ?_))
   replace h0:=Sh.AA h0
   subst r
   exact AH (xr (AM (L:=[(4,(.bool true))]) ⟨.rfl,trivial⟩))
  refine AJ (AX (σ:=Int) (fun n v=>Db N p0 p1 n v=some o11) (fun i10=>⟨27,AS [(0,(ls Aj p0)),(1,(ls Aj p1)),(5,(i64 i10))],[]⟩) N 0 h1 (AE U) (fun _ hv=>by rw[Db] at hv;cases hv) ?_)
  rintro n i10 h1
  try dsimp only at h1 ⊢
  rw[Db] at h1
  refine AB fun K13 hK13=>sr U fun K14 hK14=>zm tb 2 U (zl tb U U (zq tb U (dn hK14 U ?_)))
  refine ci h1 U ?_ ?_ <;> clear h1
  ·intro b15 h1
   refine AG (hK13 _ (AB fun K16 hK16=>AJ (AB fun K17 hK17=>?_)))
   refine B1 (by kernel_rfl) (by kernel_rfl) (by rfl) ?_
   iterate 2 refine yq tb rfl ?_
   refine bs h1 fun c18 gc18 h1=>yx FI gc18 U U U ?_
   iterate 3 refine yq tb rfl ?_
   refine bs h1 fun c19 gc19 h1=>yx FI gc19 U U U (yq tb U (bs h1 fun q20 gq20 h1=>E0 (v:=(.bool q20)) Aa cu (Qx gq20) rfl U U (yq tb U (BP (hK17 _ ?_)))))
   refine ci h1 U ?_ ?_ <;> clear h1
   ·intro b21 h1
    have b22:q20=false:=by simpa using b21
    refine zr tb U U ?_
    replace h1:=Sh.AA h1
    subst o11
    try dsimp only[id] at h0
    replace h0:=Sh.AA h0
    subst r
    exact AH (xr (AM (L:=[(4,(.bool false))]) ⟨.rfl,trivial⟩))
   ·intro b21 h1
    have b24:q20=true:=by simpa using b21
    exact AG (hK16 _ (AF U (zm tb 3 U (AD (xi (Sh.w (i10+1)) h1 (AE U))))))
  ·intro b15 h1
   exact Ac (M11 () (Sh.AA h1).symm _ (AE U))
theorem Pe {N:Nat} {p0:Ai} {p1:Ai} {r:Bool} (h0:He N p0 p1=some r):AY Tryz.prog 72 [(.agg (Ax p0)),(.agg (Ax p1))] [] (fun v st=>v=(.bool r)∧st=[]):=by
 unfold He at h0
 refine ai Tryz.func72 U U U U (sr U fun K1 hK1=>A8 (m:=0) Aa U U U U U (A8 (m:=1) Aa U U U U U (zq tb U (dn hK1 U (AB fun K2 hK2=>zr tb U U ?_)))))
 refine ci h0 U ?_ ?_ <;> clear h0
 ·intro b4 h0
  have b5:decide (p0.proc=p1.proc)=false:=by simpa using b4
  refine zr tb U U ?_
  replace h0:=Sh.AA h0
  subst r
  exact AH (xr (AR [(4,(.bool false))] U))
 ·intro b4 h0
  have b7:decide (p0.proc=p1.proc)=true:=by simpa using b4
  refine AG (hK2 _ (AB fun K8 hK8=>zr tb U U ?_))
  refine ci h0 U ?_ ?_ <;> clear h0
  ·intro b10 h0
   have b11:decide (p0.at_=p1.at_)=false:=by simpa using b10
   refine zr tb U U ?_
   replace h0:=Sh.AA h0
   subst r
   exact AH (xr (AR [(4,(.bool false))] U))
  ·intro b10 h0
   have b13:decide (p0.at_=p1.at_)=true:=by simpa using b10
   refine AG (hK8 _ (AB fun K14 hK14=>zr tb U U ?_))
   refine ci h0 U ?_ ?_ <;> clear h0
   ·intro b16 h0
    have b17:decide (p0.dst=p1.dst)=false:=by simpa using b16
    refine zr tb U U ?_
    replace h0:=Sh.AA h0
    subst r
    exact AH (xr (AR [(4,(.bool false))] U))
   ·intro b16 h0
    have b19:decide (p0.dst=p1.dst)=true:=by simpa using b16
    refine AG (hK14 _ (AB fun K20 hK20=>sr U fun K21 hK21=>zm tb 4 U (bs h0 fun q22 gq22 h0=>zc LR (B5 gq22) rfl U U (zq tb U (dn hK21 U ?_)))))
    refine ci h0 U ?_ ?_ <;> clear h0
    ·intro b23 h0
     have b24:q22=false:=by simpa using b23
     refine zr tb U U ?_
     replace h0:=Sh.AA h0
     subst r
     exact AH (xr (AR [(4,(.bool false))] U))
    ·intro b23 h0
     have b26:q22=true:=by simpa using b23
     refine AG (hK20 _ (AB fun K27 hK27=>sr U fun K28 hK28=>zm tb 4 U (bs h0 fun q29 gq29 h0=>zc LR (B5 gq29) rfl U U (zq tb U (dn hK28 U ?_)))))
     refine ci h0 U ?_ ?_ <;> clear h0
     ·intro b30 h0
      have b31:q29=false:=by simpa using b30
      refine zr tb U U ?_
      replace h0:=Sh.AA h0
      subst r
      exact AH (xr (AR [(4,(.bool false))] U))
     ·intro b30 h0
      have b33:q29=true:=by simpa using b30
      refine AG (hK27 _ (AB fun K34 hK34=>sr U fun K35 hK35=>zm tb 4 U (bs h0 fun q36 gq36 h0=>zc LR (B5 gq36) rfl U U (zq tb U (dn hK35 U ?_)))))
      refine ci h0 U ?_ ?_ <;> clear h0
      ·intro b37 h0
       have b38:q36=false:=by simpa using b37
       refine zr tb U U ?_
       replace h0:=Sh.AA h0
       subst r
       exact AH (xr (AR [(4,(.bool false))] U))
      ·intro b37 h0
       have b40:q36=true:=by simpa using b37
       refine AG (hK34 _ (zr tb U U ?_))
       replace h0:=Sh.AA h0
       subst r
       exact AH (xr (AR [(4,(.bool true))] U))
theorem Ok {N:Nat} {p0:(List Ai)} {p1:(List Ai)} {r:Bool} (h0:HK N p0 p1=some r):AY Tryz.prog 38 [(ls Ax p0),(ls Ax p1)] [] (fun v st=>v=(.bool r)∧st=[]):=by
 unfold HK at h0
 refine ai Tryz.func38 U U U U (zr tb U U (AB fun K2 hK2=>sr U fun K3 hK3=>zq tb U (zl tb U U (zq tb U (zl tb U U (zq tb U (dn hK3 U ?_)))))))
 refine ci h0 U ?_ ?_ <;> clear h0
 ·intro b4 h0
  have b5:decide ((Sh.len p0)=(Sh.len p1))=false:=by simpa using b4
  refine zr tb U U ?_
  replace h0:=Sh.AA h0
  subst r
  exact AH (xr (AM (L:=[(4,(.bool false))]) ⟨.rfl,trivial⟩))
 ·intro b4 h0
  have b7:decide ((Sh.len p0)=(Sh.len p1))=true:=by simpa using b4
  refine AG (hK2 _ (AB fun K8 hK8=>zr tb U U ?_))
  obtain⟨o11,h1,h0⟩:=Sh.A1 h0
  have M11 :∀(_:Unit),o11=Sum.inr ()→∀s,Wk 0 s ⟨27,AS [],[]⟩→K8 s:=by
   intro _ hq s hw
   subst o11
   try dsimp only at h0
   refine hK8 _ (AI hw (zr tb U U ?_))
   replace h0:=Sh.AA h0
   subst r
   exact AH (xr (AM (L:=[(4,(.bool true))]) ⟨.rfl,trivial⟩))
  refine AJ (AX (σ:=Int) (fun n v=>Dl N p0 p1 n v=some o11) (fun i10=>⟨27,AS [(0,(ls Ax p0)),(1,(ls Ax p1)),(5,(i64 i10))],[]⟩) N 0 h1 (AE U) (fun _ hv=>by rw[Dl] at hv;cases hv) ?_)
  rintro n i10 h1
  try dsimp only at h1 ⊢
  rw[Dl] at h1
  refine AB fun K13 hK13=>sr U fun K14 hK14=>zm tb 2 U (zl tb U U (zq tb U (dn hK14 U ?_)))
  refine ci h1 U ?_ ?_ <;> clear h1
  ·intro b15 h1
   refine AG (hK13 _ (AB fun K16 hK16=>AJ (AB fun K17 hK17=>?_)))
   refine B1 (by kernel_rfl) (by kernel_rfl) (by rfl) ?_
   iterate 2 refine yq tb rfl ?_
   refine bs h1 fun c18 gc18 h1=>yx Gf gc18 U U U ?_
   iterate 3 refine yq tb rfl ?_
   refine bs h1 fun c19 gc19 h1=>yx Gf gc19 U U U (yq tb U (bs h1 fun q20 gq20 h1=>E0 (v:=(.bool q20)) Aa dj (Pe gq20) rfl U U (yq tb U (BP (hK17 _ ?_)))))
   refine ci h1 U ?_ ?_ <;> clear h1
   ·intro b21 h1
    have b22:q20=false:=by simpa using b21
    refine zr tb U U ?_
    replace h1:=Sh.AA h1
    subst o11
    try dsimp only[id] at h0
    replace h0:=Sh.AA h0
    subst r
    exact AH (xr (AM (L:=[(4,(.bool false))]) ⟨.rfl,trivial⟩))
   ·intro b21 h1
    have b24:q20=true:=by simpa using b21
    exact AG (hK16 _ (AF U (zm tb 3 U (AD (xi (Sh.w (i10+1)) h1 (AE U))))))
  ·intro b15 h1
   exact Ac (M11 () (Sh.AA h1).symm _ (AE U))
theorem PT {N:Nat} {p0:Av} {p1:Av} {r:Bool} (h0:Ho N p0 p1=some r):AY Tryz.prog 13 [(.agg (Ah p0)),(.agg (Ah p1))] [] (fun v st=>v=(.bool r)∧st=[]):=by
 unfold Ho at h0
 refine ai Tryz.func13 U U U U (sr U fun K1 hK1=>A8 (m:=0) Aa U U U U U (A8 (m:=1) Aa U U U U U (zq tb U (dn hK1 U (AB fun K2 hK2=>zr tb U U ?_)))))
 refine ci h0 U ?_ ?_ <;> clear h0
 ·intro b4 h0
  have b5:decide (p0.status=p1.status)=false:=by simpa using b4
  refine zr tb U U ?_
  replace h0:=Sh.AA h0
  subst r
  exact AH (xr (AR [(4,(.bool false))] U))
 ·intro b4 h0
  have b7:decide (p0.status=p1.status)=true:=by simpa using b4
  refine AG (hK2 _ (AB fun K8 hK8=>zr tb U U ?_))
  refine ci h0 U ?_ ?_ <;> clear h0
  ·intro b10 h0
   have b11:decide (p0.value=p1.value)=false:=by simpa using b10
   refine zr tb U U ?_
   replace h0:=Sh.AA h0
   subst r
   exact AH (xr (AR [(4,(.bool false))] U))
  ·intro b10 h0
   have b13:decide (p0.value=p1.value)=true:=by simpa using b10
   refine AG (hK8 _ (AB fun K14 hK14=>zr tb U U ?_))
   refine ci h0 U ?_ ?_ <;> clear h0
   ·intro b16 h0
    have b17:decide (p0.calls=p1.calls)=false:=by simpa using b16
    refine zr tb U U ?_
    replace h0:=Sh.AA h0
    subst r
    exact AH (xr (AR [(4,(.bool false))] U))
   ·intro b16 h0
    have b19:decide (p0.calls=p1.calls)=true:=by simpa using b16
    refine AG (hK14 _ (AB fun K20 hK20=>zr tb U U ?_))
    refine ci h0 U ?_ ?_ <;> clear h0
    ·intro b22 h0
     have b23:decide (p0.CV=p1.CV)=false:=by simpa using b22
     refine zr tb U U ?_
     replace h0:=Sh.AA h0
     subst r
     exact AH (xr (AR [(4,(.bool false))] U))
    ·intro b22 h0
     have b25:decide (p0.CV=p1.CV)=true:=by simpa using b22
     refine AG (hK20 _ (AB fun K26 hK26=>sr U fun K27 hK27=>zm tb 4 U (bs h0 fun q28 gq28 h0=>zc LR (B5 gq28) rfl U U (zq tb U (dn hK27 U ?_)))))
     refine ci h0 U ?_ ?_ <;> clear h0
     ·intro b29 h0
      have b30:q28=false:=by simpa using b29
      refine zr tb U U ?_
      replace h0:=Sh.AA h0
      subst r
      exact AH (xr (AR [(4,(.bool false))] U))
     ·intro b29 h0
      have b32:q28=true:=by simpa using b29
      refine AG (hK26 _ (AB fun K33 hK33=>sr U fun K34 hK34=>zm tb 4 U (bs h0 fun q35 gq35 h0=>zc dg (P6 gq35) rfl U U (zq tb U (dn hK34 U ?_)))))
      refine ci h0 U ?_ ?_ <;> clear h0
      ·intro b36 h0
       have b37:q35=false:=by simpa using b36
       refine zr tb U U ?_
       replace h0:=Sh.AA h0
       subst r
       exact AH (xr (AR [(4,(.bool false))] U))
      ·intro b36 h0
       have b39:q35=true:=by simpa using b36
       refine AG (hK33 _ (AB fun K40 hK40=>sr U fun K41 hK41=>zm tb 4 U (bs h0 fun q42 gq42 h0=>zc fM (Ok gq42) rfl U U (zq tb U (dn hK41 U ?_)))))
       refine ci h0 U ?_ ?_ <;> clear h0
       ·intro b43 h0
        have b44:q42=false:=by simpa using b43
        refine zr tb U U ?_
        replace h0:=Sh.AA h0
        subst r
        exact AH (xr (AR [(4,(.bool false))] U))
       ·intro b43 h0
        have b46:q42=true:=by simpa using b43
        refine AG (hK40 _ (zr tb U U ?_))
        replace h0:=Sh.AA h0
        subst r
        exact AH (xr (AR [(4,(.bool true))] U))
theorem CA {N:Nat} {s0:(List Int)} {p1:Int} {r:Int×(List Int)} (h0:Bx N s0 p1=some r):AY Tryz.prog 16 [(ow 0 0 s0),(i64 p1)] [(ro 0 3 1 eI s0)] (fun v st=>v=(i64 r.1)∧st=[(ro 0 3 1 eI r.2)]):=by
 unfold Bx at h0
 refine ai Tryz.func16 U U U U (zr tb U U (AB fun K2 hK2=>zr tb U U (bs h0 fun o9 h1 h0=>?_)))
 have M9 :∀(k7:Int) (l8:(List Int)),o9=(k7,l8)→∀s,Wk 1 s ⟨19,AS [(1,(i64 k7))],[(ro 0 3 1 eI l8)]⟩→K2 s:=by
  intro k7 l8 hq s hw
  subst o9
  try dsimp only at h0
  refine hK2 _ (AI hw (zr tb U U ?_))
  replace h0:=Sh.AA h0
  subst r
  exact AH (xr (AM (L:=[(4,(i64 k7))]) ⟨.rfl,trivial⟩))
 refine AJ (AX (σ:=Int×Int×(List Int)) (fun n v=>Dq  n v.1 v.2.1 v.2.2=some o9) (fun (k4,i5,l6)=>⟨19,AS [(0,(ow 0 0 l6)),(1,(i64 k4)),(5,(i64 i5))],[(ro 0 3 1 eI l6)]⟩) N (p1,0,s0) h1 (AE U) (fun _ hv=>by rw[Dq] at hv;cases hv) ?_)
 rintro n ⟨k4,i5,l6⟩ h1
 try dsimp only at h1 ⊢
 rw[Dq] at h1
 refine AB fun K11 hK11=>sr U fun K12 hK12=>zm tb 2 U (zz (i64 (Sh.len l6)) (Dj EE U U U) rfl (zq tb U (dn hK12 U ?_)))
 refine ci h1 U ?_ ?_ <;> clear h1
 ·intro b13 h1
  refine AG (hK11 _ (AB fun K14 hK14=>AJ (sr U fun K15 hK15=>zm tb 3 U (bs h1 fun c16 gc16 h1=>zz (.ptr 0 0 (Int.toNat i5) 0) (BD A2 U U U U gc16) rfl (Cz (u':=k4) Aa EF U U gc16 U U U (show 0+1≤1 by decide) rfl U (dn hK15 U (AF U (zm tb 3 U (dn hK14 U ?_)))))))))
  refine AF U (zm tb 3 U ?_)
  exact AD (xi (Sh.w (k4+1),Sh.w (i5+1),Sh.put l6 i5 k4) h1 (AM (L:=[(0,(.own 0 0 (List.length (Sh.put l6 i5 k4)))),(1,(i64 (Sh.w (k4+1)))),(5,(i64 (Sh.w (i5+1))))]) ⟨(.len (by simp only[Sh.Af])),.rfl,.rfl,trivial⟩))
 ·intro b13 h1
  exact Ac (M9 k4 l6 (Sh.AA h1).symm _ (AE U))
theorem O8 {N:Nat} {s0:(List By)} {p1:Int} {r:Int×(List By)} (h0:G8 N s0 p1=some r):AY Tryz.prog 73 [(ow 0 0 s0),(i64 p1)] [(ro 0 155 1 (Cc 3) s0)] (fun v st=>v=(i64 r.1)∧st=[(ro 0 155 1 (Cc 3) r.2)]):=by
 unfold G8 at h0
 refine ai Tryz.func73 U U U U (zr tb U U (AB fun K2 hK2=>zr tb U U (bs h0 fun o9 h1 h0=>?_)))
 have M9 :∀(k7:Int) (l8:(List By)),o9=(k7,l8)→∀s,Wk 1 s ⟨20,AS [(1,(i64 k7))],[(ro 0 155 1 (Cc 3) l8)]⟩→K2 s:=by
  intro k7 l8 hq s hw
  subst o9
  try dsimp only at h0
  refine hK2 _ (AI hw (zr tb U U ?_))
  replace h0:=Sh.AA h0
  subst r
  exact AH (xr (AM (L:=[(4,(i64 k7))]) ⟨.rfl,trivial⟩))
 refine AJ (AX (σ:=Int×Int×(List By)) (fun n v=>Dn N n v.1 v.2.1 v.2.2=some o9) (fun (k4,i5,l6)=>⟨20,AS [(0,(ow 0 0 l6)),(1,(i64 k4)),(5,(i64 i5))],[(ro 0 155 1 (Cc 3) l6)]⟩) N (p1,0,s0) h1 (AE U) (fun _ hv=>by rw[Dn] at hv;cases hv) ?_)
 rintro n ⟨k4,i5,l6⟩ h1
 try dsimp only at h1 ⊢
 rw[Dn] at h1
 refine AB fun K11 hK11=>sr U fun K12 hK12=>zm tb 2 U (zz (i64 (Sh.len l6)) (Dj SQ U U U) rfl (zq tb U (dn hK12 U ?_)))
 refine ci h1 U ?_ ?_ <;> clear h1
 ·intro b13 h1
  refine AG (hK11 _ (AB fun K14 hK14=>AJ (AF U (zm tb 2 U (bs h1 fun c15 gc15 h1=>zz (.ptr 0 0 (Int.toNat i5) 0) (BD Ke U U U U gc15) rfl (zq tb U (Al (E1 (id:=0) (j:=0) (i:=i5) (c:=c15) (ys:=c15.fields) (encY:=eI) rfl gc15 U U U U U) (zz (ow 1 0 c15.fields) (Bf Hn U U (EK gc15) rfl) rfl (zq tb U (bs h1 fun q16 gq16 h1=>?_))))))))))
  refine CL (rowsP:=[⟨0,3,1,List.map eI c15.fields⟩]) (rows0:=[⟨0,3,1,List.map eI c15.fields⟩]) (rows1:=[⟨0,3,1,List.map eI q16.2⟩]) (rows2:=[]) (rows1':=[⟨0,3,1,List.map eI q16.2⟩]) (rows2':=[]) (st':=[⟨0,155,1,hole l6 (Cc 3) i5 [(.own 1 0 (List.length c15.fields))]⟩,⟨0,3,1,List.map eI q16.2⟩]) (v':=(i64 q16.1)) [1] Aa MI (CA gq16) rfl (by decide) rfl U (.pure (AL fun _=>U) .nil) rfl U (.pure (AL fun _=>U) .nil) .nil U U (fun hln=>?_)
  have ln17:List.length q16.2=List.length c15.fields:=by simpa only[List.length_map] using hln 0 _ _ rfl rfl rfl
  refine Al (Wk.take (id:=0) (m:=1) (j:=0) (i:=i5) (c:=c15) (ys:=q16.2) (encY:=eI) rfl gc15 U U (by first | (simp only[Sh.Af];done) | (simp only[Sh.Af];omega) | omega) (by decide) (show 1≤1 by decide) (fun _=>U) rfl U) ?_
  refine Al (CB (id:=0) (i:=i5) (u:=(By.mk q16.2)) rfl U U) ?_
  generalize hg901:Sh.put l6 i5 (By.mk q16.2)=lg901 at h1 ⊢
  have ln901:=congrArg List.length hg901
  simp only[Sh.Af] at ln901
  refine zq tb U (dn hK14 U (AF U (zm tb 3 U ?_)))
  exact AD (xi (q16.1,Sh.w (i5+1),lg901) h1 (by refine Wk.trans (AN (L:=[(0,(.own 0 0 (List.length l6))),(1,(i64 q16.1)),(5,(i64 (Sh.w (i5+1))))]) (st':=[⟨0,155,1,List.map (Cc 3) lg901⟩]) (st1:=[⟨0,155,1,List.map (Cc 3) lg901⟩]) [0] U (.deep (Ar fun _=>U) .nil) (by decide) rfl U (.deep (Ar fun _=>U) .nil) ⟨.rfl,.rfl,.rfl,trivial⟩) ?_;exact AM (L:=[(0,(.own 0 0 (List.length lg901))),(1,(i64 q16.1)),(5,(i64 (Sh.w (i5+1))))]) ⟨(.len (by first | (simp only[Sh.Af];done) | (simp only[Sh.Af];omega) | omega)),.rfl,.rfl,trivial⟩))
 ·intro b13 h1
  exact Ac (M9 k4 l6 (Sh.AA h1).symm _ (AE U))
theorem Nr {N:Nat} {s0:(List An)} {p1:Int} {r:Int×(List An)} (h0:Gj N s0 p1=some r):AY Tryz.prog 39 [(ow 0 0 s0),(i64 p1)] [(ro 0 104 3 (BV 155 3) s0)] (fun v st=>v=(i64 r.1)∧st=[(ro 0 104 3 (BV 155 3) r.2)]):=by
 unfold Gj at h0
 refine ai Tryz.func39 U U U U (zr tb U U (AB fun K2 hK2=>zr tb U U (bs h0 fun o9 h1 h0=>?_)))
 have M9 :∀(k7:Int) (l8:(List An)),o9=(k7,l8)→∀s,Wk 1 s ⟨34,AS [(1,(i64 k7))],[(ro 0 104 3 (BV 155 3) l8)]⟩→K2 s:=by
  intro k7 l8 hq s hw
  subst o9
  try dsimp only at h0
  refine hK2 _ (AI hw (zr tb U U ?_))
  replace h0:=Sh.AA h0
  subst r
  exact AH (xr (AM (L:=[(4,(i64 k7))]) ⟨.rfl,trivial⟩))
 refine AJ (AX (σ:=Int×Int×(List An)) (fun n v=>DP N n v.1 v.2.1 v.2.2=some o9) (fun (k4,i5,l6)=>⟨34,AS [(0,(ow 0 0 l6)),(1,(i64 k4)),(5,(i64 i5))],[(ro 0 104 3 (BV 155 3) l6)]⟩) N (p1,0,s0) h1 (AE U) (fun _ hv=>by rw[DP] at hv;cases hv) ?_)
 rintro n ⟨k4,i5,l6⟩ h1
 try dsimp only at h1 ⊢
 rw[DP] at h1
 refine AB fun K11 hK11=>sr U fun K12 hK12=>zm tb 2 U (zz (i64 (Sh.len l6)) (Dj Uu U U U) rfl (zq tb U (dn hK12 U ?_)))
 refine ci h1 U ?_ ?_ <;> clear h1
 ·intro b13 h1
  refine AG (hK11 _ (AB fun K14 hK14=>AJ (sr U fun K15 hK15=>zm tb 3 U (bs h1 fun c16 gc16 h1=>zz (.ptr 0 0 (Int.toNat i5) 0) (BD HX U U U U gc16) rfl (zq tb U (Cz (u':=(An.mk k4 c16.to c16.cons)) Aa EF U U gc16 U U U (show 0+1≤3 by decide) rfl U ?_))))))
  generalize hg901:Sh.put l6 i5 (An.mk k4 c16.to c16.cons)=lg901 at h1 ⊢
  have ln901:=congrArg List.length hg901
  simp only[Sh.Af] at ln901
  refine dn hK15 U (zr tb U U (sr U fun K18 hK18=>zm tb 3 U (bs h1 fun c19 gc19 h1=>?_)))
  refine zz (.ptr 0 0 (Int.toNat i5) 0) (BD HX U U U (by first | (simp only[Sh.Af];done) | omega) gc19) rfl ?_
  refine zq tb U (Cz (u':=(An.mk c19.from_ (Sh.w (k4+1)) c19.cons)) Aa EF U U gc19 U U U (show 1+1≤3 by decide) rfl U ?_)
  generalize hg902:Sh.put lg901 i5 (An.mk c19.from_ (Sh.w (k4+1)) c19.cons)=lg902 at h1 ⊢
  have ln902:=congrArg List.length hg902
  simp only[Sh.Af] at ln902
  refine dn hK18 U (zr tb U U (AF U (zm tb 2 U (bs h1 fun c21 gc21 h1=>?_))))
  refine zz (.ptr 0 0 (Int.toNat i5) 0) (BD HX U U U (by first | (simp only[Sh.Af];done) | omega) gc21) rfl ?_
  refine zq tb U (Al (E1 (id:=0) (j:=2) (i:=i5) (c:=c21) (ys:=c21.cons) (encY:=(Cc 3)) rfl gc21 U U U U U) (zz (ow 1 0 c21.cons) (Bf ZK U U (EK gc21) rfl) rfl (zq tb U (bs h1 fun q22 gq22 h1=>?_))))
  refine CL (rowsP:=[⟨0,155,1,List.map (Cc 3) c21.cons⟩]) (rows0:=[⟨0,155,1,List.map (Cc 3) c21.cons⟩]) (rows1:=[⟨0,155,1,List.map (Cc 3) q22.2⟩]) (rows2:=[]) (rows1':=[⟨0,155,1,List.map (Cc 3) q22.2⟩]) (rows2':=[]) (st':=[⟨0,104,3,hole lg902 (BV 155 3) i5 [(i64 c21.from_),(i64 c21.to),(.own 1 0 (List.length c21.cons))]⟩,⟨0,155,1,List.map (Cc 3) q22.2⟩]) (v':=(i64 q22.1)) [1] Aa dC (O8 gq22) rfl (by decide) rfl U (.deep (Ar fun _=>U) .nil) rfl U (.deep (Ar fun _=>U) .nil) .nil U U (fun hln=>?_)
  have ln23:List.length q22.2=List.length c21.cons:=by simpa only[List.length_map] using hln 0 _ _ rfl rfl rfl
  refine Al (Wk.take (id:=0) (m:=1) (j:=2) (i:=i5) (c:=c21) (ys:=q22.2) (encY:=(Cc 3)) rfl gc21 U U (by first | (simp only[Sh.Af];done) | (simp only[Sh.Af];omega) | omega) (by decide) (show 1≤1 by decide) (fun _=>U) rfl U) ?_
  refine Al (CB (id:=0) (i:=i5) (u:=(An.mk c21.from_ c21.to q22.2)) rfl U U) ?_
  generalize hg903:Sh.put lg902 i5 (An.mk c21.from_ c21.to q22.2)=lg903 at h1 ⊢
  have ln903:=congrArg List.length hg903
  simp only[Sh.Af] at ln903
  refine zq tb U (dn hK14 U (AF U (zm tb 3 U ?_)))
  exact AD (xi (q22.1,Sh.w (i5+1),lg903) h1 (by refine Wk.trans (AN (L:=[(0,(.own 0 0 (List.length l6))),(1,(i64 q22.1)),(5,(i64 (Sh.w (i5+1))))]) (st':=[⟨0,104,3,List.map (BV 155 3) lg903⟩]) (st1:=[⟨0,104,3,List.map (BV 155 3) lg903⟩]) [0] U (.deep (Ar fun _=>U) .nil) (by decide) rfl U (.deep (Ar fun _=>U) .nil) ⟨.rfl,.rfl,.rfl,trivial⟩) ?_;exact AM (L:=[(0,(.own 0 0 (List.length lg903))),(1,(i64 q22.1)),(5,(i64 (Sh.w (i5+1))))]) ⟨(.len (by first | (simp only[Sh.Af];done) | (simp only[Sh.Af];omega) | omega)),.rfl,.rfl,trivial⟩))
 ·intro b13 h1
  exact Ac (M9 k4 l6 (Sh.AA h1).symm _ (AE U))
theorem NK {N:Nat} {s0:(List Ag)} {p1:Int} {r:Int×(List Ag)} (h0:GJ N s0 p1=some r):AY Tryz.prog 74 [(ow 0 0 s0),(i64 p1)] [(ro 0 132 6 (Bb 3 3) s0)] (fun v st=>v=(i64 r.1)∧st=[(ro 0 132 6 (Bb 3 3) r.2)]):=by
 unfold GJ at h0
 refine ai Tryz.func74 U U U U (zr tb U U (AB fun K2 hK2=>zr tb U U (bs h0 fun o9 h1 h0=>?_)))
 have M9 :∀(k7:Int) (l8:(List Ag)),o9=(k7,l8)→∀s,Wk 1 s ⟨55,AS [(1,(i64 k7))],[(ro 0 132 6 (Bb 3 3) l8)]⟩→K2 s:=by
  intro k7 l8 hq s hw
  subst o9
  try dsimp only at h0
  refine hK2 _ (AI hw (zr tb U U ?_))
  replace h0:=Sh.AA h0
  subst r
  exact AH (xr (AM (L:=[(4,(i64 k7))]) ⟨.rfl,trivial⟩))
 refine AJ (AX (σ:=Int×Int×(List Ag)) (fun n v=>C5 N n v.1 v.2.1 v.2.2=some o9) (fun (k4,i5,l6)=>⟨55,AS [(0,(ow 0 0 l6)),(1,(i64 k4)),(5,(i64 i5))],[(ro 0 132 6 (Bb 3 3) l6)]⟩) N (p1,0,s0) h1 (AE U) (fun _ hv=>by rw[C5] at hv;cases hv) ?_)
 rintro n ⟨k4,i5,l6⟩ h1
 try dsimp only at h1 ⊢
 rw[C5] at h1
 refine AB fun K11 hK11=>sr U fun K12 hK12=>zm tb 2 U (zz (i64 (Sh.len l6)) (Dj QV U U U) rfl (zq tb U (dn hK12 U ?_)))
 refine ci h1 U ?_ ?_ <;> clear h1
 ·intro b13 h1
  refine AG (hK11 _ (AB fun K14 hK14=>AJ (sr U fun K15 hK15=>zm tb 3 U (bs h1 fun c16 gc16 h1=>zz (.ptr 0 0 (Int.toNat i5) 0) (BD IB U U U U gc16) rfl (zq tb U (Cz (u':=(Ag.mk k4 c16.dst c16.num c16.BY c16.args c16.jumps)) Aa EF U U gc16 U U U (show 0+1≤6 by decide) rfl U ?_))))))
  generalize hg901:Sh.put l6 i5 (Ag.mk k4 c16.dst c16.num c16.BY c16.args c16.jumps)=lg901 at h1 ⊢
  have ln901:=congrArg List.length hg901
  simp only[Sh.Af] at ln901
  refine dn hK15 U (zr tb U U (sr U fun K18 hK18=>zm tb 3 U (bs h1 fun c19 gc19 h1=>?_)))
  refine zz (.ptr 0 0 (Int.toNat i5) 0) (BD IB U U U (by first | (simp only[Sh.Af];done) | omega) gc19) rfl ?_
  refine zq tb U (Cz (u':=(Ag.mk c19.op (Sh.w (k4+1)) c19.num c19.BY c19.args c19.jumps)) Aa EF U U gc19 U U U (show 1+1≤6 by decide) rfl U ?_)
  generalize hg902:Sh.put lg901 i5 (Ag.mk c19.op (Sh.w (k4+1)) c19.num c19.BY c19.args c19.jumps)=lg902 at h1 ⊢
  have ln902:=congrArg List.length hg902
  simp only[Sh.Af] at ln902
  refine dn hK18 U (zr tb U U (sr U fun K21 hK21=>zm tb 3 U (bs h1 fun c22 gc22 h1=>?_)))
  refine zz (.ptr 0 0 (Int.toNat i5) 0) (BD IB U U U (by first | (simp only[Sh.Af];done) | omega) gc22) rfl ?_
  refine zq tb U (Cz (u':=(Ag.mk c22.op c22.dst (Sh.w ((Sh.w (k4+1)) + 1)) c22.BY c22.args c22.jumps)) Aa EF U U gc22 U U U (show 2+1≤6 by decide) rfl U ?_)
  generalize hg903:Sh.put lg902 i5 (Ag.mk c22.op c22.dst (Sh.w ((Sh.w (k4+1)) + 1)) c22.BY c22.args c22.jumps)=lg903 at h1 ⊢
  have ln903:=congrArg List.length hg903
  simp only[Sh.Af] at ln903
  refine dn hK21 U (zr tb U U (sr U fun K24 hK24=>zm tb 3 U (bs h1 fun c25 gc25 h1=>?_)))
  refine zz (.ptr 0 0 (Int.toNat i5) 0) (BD IB U U U (by first | (simp only[Sh.Af];done) | omega) gc25) rfl ?_
  refine zq tb U (Cz (u':=(Ag.mk c25.op c25.dst c25.num (Sh.w ((Sh.w ((Sh.w (k4+1)) + 1)) + 1)) c25.args c25.jumps)) Aa EF U U gc25 U U U (show 3+1≤6 by decide) rfl U ?_)
  generalize hg904:Sh.put lg903 i5 (Ag.mk c25.op c25.dst c25.num (Sh.w ((Sh.w ((Sh.w (k4+1)) + 1)) + 1)) c25.args c25.jumps)=lg904 at h1 ⊢
  have ln904:=congrArg List.length hg904
  simp only[Sh.Af] at ln904
  refine dn hK24 U (zr tb U U (sr U fun K27 hK27=>zm tb 2 U (bs h1 fun c28 gc28 h1=>?_)))
  refine zz (.ptr 0 0 (Int.toNat i5) 0) (BD IB U U U (by first | (simp only[Sh.Af];done) | omega) gc28) rfl ?_
  refine zq tb U (Al (E1 (id:=0) (j:=4) (i:=i5) (c:=c28) (ys:=c28.args) (encY:=eI) rfl gc28 U U U U U) (zz (ow 1 0 c28.args) (Bf Hn U U (EK gc28) rfl) rfl (zq tb U (bs h1 fun q29 gq29 h1=>?_))))
  refine CL (rowsP:=[⟨0,3,1,List.map eI c28.args⟩]) (rows0:=[⟨0,3,1,List.map eI c28.args⟩]) (rows1:=[⟨0,3,1,List.map eI q29.2⟩]) (rows2:=[]) (rows1':=[⟨0,3,1,List.map eI q29.2⟩]) (rows2':=[]) (st':=[⟨0,132,6,hole lg904 (Bb 3 3) i5 [(i64 c28.op),(i64 c28.dst),(i64 c28.num),(i64 c28.BY),(.own 1 0 (List.length c28.args)),(.dv 3 1 (List.map eI c28.jumps))]⟩,⟨0,3,1,List.map eI q29.2⟩]) (v':=(i64 q29.1)) [1] Aa MI (CA gq29) rfl (by decide) rfl U (.pure (AL fun _=>U) .nil) rfl U (.pure (AL fun _=>U) .nil) .nil U U (fun hln=>?_)
  have ln30:List.length q29.2=List.length c28.args:=by simpa only[List.length_map] using hln 0 _ _ rfl rfl rfl
  refine Al (Wk.take (id:=0) (m:=1) (j:=4) (i:=i5) (c:=c28) (ys:=q29.2) (encY:=eI) rfl gc28 U U (by first | (simp only[Sh.Af];done) | (simp only[Sh.Af];omega) | omega) (by decide) (show 1≤1 by decide) (fun _=>U) rfl U) ?_
  refine Al (CB (id:=0) (i:=i5) (u:=(Ag.mk c28.op c28.dst c28.num c28.BY q29.2 c28.jumps)) rfl U U) ?_
  generalize hg905:Sh.put lg904 i5 (Ag.mk c28.op c28.dst c28.num c28.BY q29.2 c28.jumps)=lg905 at h1 ⊢
  have ln905:=congrArg List.length hg905
  simp only[Sh.Af] at ln905
  refine zq tb U (dn hK27 U (AF U (zm tb 2 U (bs h1 fun c31 gc31 h1=>?_))))
  refine zz (.ptr 0 0 (Int.toNat i5) 0) (BD IB U U U (by first | (simp only[Sh.Af];done) | (simp only[Sh.Af];omega) | omega) gc31) rfl ?_
  refine zq tb U (Al (E1 (id:=0) (j:=5) (i:=i5) (c:=c31) (ys:=c31.jumps) (encY:=eI) rfl gc31 U U U U U) (zz (ow 2 0 c31.jumps) (Bf Hn U U (EK gc31) rfl) rfl (zq tb U (bs h1 fun q32 gq32 h1=>?_))))
  refine CL (rowsP:=[⟨0,3,1,List.map eI c31.jumps⟩]) (rows0:=[⟨0,3,1,List.map eI c31.jumps⟩]) (rows1:=[⟨0,3,1,List.map eI q32.2⟩]) (rows2:=[]) (rows1':=[⟨0,3,1,List.map eI q32.2⟩]) (rows2':=[]) (st':=[⟨0,132,6,hole lg905 (Bb 3 3) i5 [(i64 c31.op),(i64 c31.dst),(i64 c31.num),(i64 c31.BY),(.dv 3 1 (List.map eI c31.args)),(.own 2 0 (List.length c31.jumps))]⟩,⟨1,3,1,[]⟩,⟨0,3,1,List.map eI q32.2⟩]) (v':=(i64 q32.1)) [2] Aa MI (CA gq32) rfl (by decide) rfl U (.pure (AL fun _=>U) .nil) rfl U (.pure (AL fun _=>U) .nil) .nil U U (fun hln=>?_)
  have ln33:List.length q32.2=List.length c31.jumps:=by simpa only[List.length_map] using hln 0 _ _ rfl rfl rfl
  refine Al (Wk.take (id:=0) (m:=2) (j:=5) (i:=i5) (c:=c31) (ys:=q32.2) (encY:=eI) rfl gc31 U U (by first | (simp only[Sh.Af];done) | (simp only[Sh.Af];omega) | omega) (by decide) (show 1≤2 by decide) (fun _=>U) rfl U) ?_
  refine Al (CB (id:=0) (i:=i5) (u:=(Ag.mk c31.op c31.dst c31.num c31.BY c31.args q32.2)) rfl U U) ?_
  generalize hg906:Sh.put lg905 i5 (Ag.mk c31.op c31.dst c31.num c31.BY c31.args q32.2)=lg906 at h1 ⊢
  have ln906:=congrArg List.length hg906
  simp only[Sh.Af] at ln906
  refine zq tb U (dn hK14 U (AF U (zm tb 3 U ?_)))
  exact AD (xi (q32.1,Sh.w (i5+1),lg906) h1 (by refine Wk.trans (AN (L:=[(0,(.own 0 0 (List.length l6))),(1,(i64 q32.1)),(5,(i64 (Sh.w (i5+1))))]) (st':=[⟨0,132,6,List.map (Bb 3 3) lg906⟩]) (st1:=[⟨0,132,6,List.map (Bb 3 3) lg906⟩]) [0] U (.deep (Ar fun _=>U) .nil) (by decide) rfl U (.deep (Ar fun _=>U) .nil) ⟨.rfl,.rfl,.rfl,trivial⟩) ?_;exact AM (L:=[(0,(.own 0 0 (List.length lg906))),(1,(i64 q32.1)),(5,(i64 (Sh.w (i5+1))))]) ⟨(.len (by first | (simp only[Sh.Af];done) | (simp only[Sh.Af];omega) | omega)),.rfl,.rfl,trivial⟩))
 ·intro b13 h1
  exact Ac (M9 k4 l6 (Sh.AA h1).symm _ (AE U))
theorem OS {N:Nat} {s0:(List A0)} {p1:Int} {r:Int×(List A0)} (h0:Gi N s0 p1=some r):AY Tryz.prog 40 [(ow 0 0 s0),(i64 p1)] [(ro 0 99 5 (BQ 3 3 132 3 3) s0)] (fun v st=>v=(i64 r.1)∧st=[(ro 0 99 5 (BQ 3 3 132 3 3) r.2)]):=by
 unfold Gi at h0
 refine ai Tryz.func40 U U U U (zr tb U U (AB fun K2 hK2=>zr tb U U (bs h0 fun o9 h1 h0=>?_)))
 have M9 :∀(k7:Int) (l8:(List A0)),o9=(k7,l8)→∀s,Wk 1 s ⟨48,AS [(1,(i64 k7))],[(ro 0 99 5 (BQ 3 3 132 3 3) l8)]⟩→K2 s:=by
  intro k7 l8 hq s hw
  subst o9
  try dsimp only at h0
  refine hK2 _ (AI hw (zr tb U U ?_))
  replace h0:=Sh.AA h0
  subst r
  exact AH (xr (AM (L:=[(4,(i64 k7))]) ⟨.rfl,trivial⟩))
 refine AJ (AX (σ:=Int×Int×(List A0)) (fun n v=>DN N n v.1 v.2.1 v.2.2=some o9) (fun (k4,i5,l6)=>⟨48,AS [(0,(ow 0 0 l6)),(1,(i64 k4)),(5,(i64 i5))],[(ro 0 99 5 (BQ 3 3 132 3 3) l6)]⟩) N (p1,0,s0) h1 (AE U) (fun _ hv=>by rw[DN] at hv;cases hv) ?_)
 rintro n ⟨k4,i5,l6⟩ h1
 try dsimp only at h1 ⊢
 rw[DN] at h1
 refine AB fun K11 hK11=>sr U fun K12 hK12=>zm tb 2 U (zz (i64 (Sh.len l6)) (Dj ab U U U) rfl (zq tb U (dn hK12 U ?_)))
 refine ci h1 U ?_ ?_ <;> clear h1
 ·intro b13 h1
  refine AG (hK11 _ (AB fun K14 hK14=>AJ (sr U fun K15 hK15=>zm tb 2 U (bs h1 fun c16 gc16 h1=>zz (.ptr 0 0 (Int.toNat i5) 0) (BD IC U U U U gc16) rfl (zq tb U (Al (E1 (id:=0) (j:=0) (i:=i5) (c:=c16) (ys:=c16.params) (encY:=eI) rfl gc16 U U U U U) (zz (ow 1 0 c16.params) (Bf Hn U U (EK gc16) rfl) rfl (zq tb U (bs h1 fun q17 gq17 h1=>?_)))))))))
  refine CL (rowsP:=[⟨0,3,1,List.map eI c16.params⟩]) (rows0:=[⟨0,3,1,List.map eI c16.params⟩]) (rows1:=[⟨0,3,1,List.map eI q17.2⟩]) (rows2:=[]) (rows1':=[⟨0,3,1,List.map eI q17.2⟩]) (rows2':=[]) (st':=[⟨0,99,5,hole l6 (BQ 3 3 132 3 3) i5 [(.own 1 0 (List.length c16.params)),(.dv 3 1 (List.map eI c16.BH)),(i64 c16.result),(i64 c16.Ab),(.dv 132 6 (List.map (Bb 3 3) c16.code))]⟩,⟨0,3,1,List.map eI q17.2⟩]) (v':=(i64 q17.1)) [1] Aa MI (CA gq17) rfl (by decide) rfl U (.pure (AL fun _=>U) .nil) rfl U (.pure (AL fun _=>U) .nil) .nil U U (fun hln=>?_)
  have ln18:List.length q17.2=List.length c16.params:=by simpa only[List.length_map] using hln 0 _ _ rfl rfl rfl
  refine Al (Wk.take (id:=0) (m:=1) (j:=0) (i:=i5) (c:=c16) (ys:=q17.2) (encY:=eI) rfl gc16 U U (by first | (simp only[Sh.Af];done) | (simp only[Sh.Af];omega) | omega) (by decide) (show 1≤1 by decide) (fun _=>U) rfl U) ?_
  refine Al (CB (id:=0) (i:=i5) (u:=(A0.mk q17.2 c16.BH c16.result c16.Ab c16.code)) rfl U U) ?_
  generalize hg901:Sh.put l6 i5 (A0.mk q17.2 c16.BH c16.result c16.Ab c16.code)=lg901 at h1 ⊢
  have ln901:=congrArg List.length hg901
  simp only[Sh.Af] at ln901
  refine zq tb U (dn hK15 U (sr U fun K19 hK19=>zm tb 2 U (bs h1 fun c20 gc20 h1=>?_)))
  refine zz (.ptr 0 0 (Int.toNat i5) 0) (BD IC U U U (by first | (simp only[Sh.Af];done) | (simp only[Sh.Af];omega) | omega) gc20) rfl ?_
  refine zq tb U (Al (E1 (id:=0) (j:=1) (i:=i5) (c:=c20) (ys:=c20.BH) (encY:=eI) rfl gc20 U U U U U) (zz (ow 2 0 c20.BH) (Bf Hn U U (EK gc20) rfl) rfl (zq tb U (bs h1 fun q21 gq21 h1=>?_))))
  refine CL (rowsP:=[⟨0,3,1,List.map eI c20.BH⟩]) (rows0:=[⟨0,3,1,List.map eI c20.BH⟩]) (rows1:=[⟨0,3,1,List.map eI q21.2⟩]) (rows2:=[]) (rows1':=[⟨0,3,1,List.map eI q21.2⟩]) (rows2':=[]) (st':=[⟨0,99,5,hole lg901 (BQ 3 3 132 3 3) i5 [(.dv 3 1 (List.map eI c20.params)),(.own 2 0 (List.length c20.BH)),(i64 c20.result),(i64 c20.Ab),(.dv 132 6 (List.map (Bb 3 3) c20.code))]⟩,⟨1,3,1,[]⟩,⟨0,3,1,List.map eI q21.2⟩]) (v':=(i64 q21.1)) [2] Aa MI (CA gq21) rfl (by decide) rfl U (.pure (AL fun _=>U) .nil) rfl U (.pure (AL fun _=>U) .nil) .nil U U (fun hln=>?_)
  have ln22:List.length q21.2=List.length c20.BH:=by simpa only[List.length_map] using hln 0 _ _ rfl rfl rfl
  refine Al (Wk.take (id:=0) (m:=2) (j:=1) (i:=i5) (c:=c20) (ys:=q21.2) (encY:=eI) rfl gc20 U U (by first | (simp only[Sh.Af];done) | (simp only[Sh.Af];omega) | omega) (by decide) (show 1≤2 by decide) (fun _=>U) rfl U) ?_
  refine Al (CB (id:=0) (i:=i5) (u:=(A0.mk c20.params q21.2 c20.result c20.Ab c20.code)) rfl U U) ?_
  generalize hg902:Sh.put lg901 i5 (A0.mk c20.params q21.2 c20.result c20.Ab c20.code)=lg902 at h1 ⊢
  have ln902:=congrArg List.length hg902
  simp only[Sh.Af] at ln902
  refine zq tb U (dn hK19 U (sr U fun K23 hK23=>zm tb 3 U (bs h1 fun c24 gc24 h1=>?_)))
  refine zz (.ptr 0 0 (Int.toNat i5) 0) (BD IC U U U (by first | (simp only[Sh.Af];done) | (simp only[Sh.Af];omega) | omega) gc24) rfl ?_
  refine zq tb U (Cz (u':=(A0.mk c24.params c24.BH q21.1 c24.Ab c24.code)) Aa EF U U gc24 U U U (show 2+1≤5 by decide) rfl U ?_)
  generalize hg903:Sh.put lg902 i5 (A0.mk c24.params c24.BH q21.1 c24.Ab c24.code)=lg903 at h1 ⊢
  have ln903:=congrArg List.length hg903
  simp only[Sh.Af] at ln903
  refine dn hK23 U (zr tb U U (sr U fun K26 hK26=>zm tb 3 U (bs h1 fun c27 gc27 h1=>?_)))
  refine zz (.ptr 0 0 (Int.toNat i5) 0) (BD IC U U U (by first | (simp only[Sh.Af];done) | (simp only[Sh.Af];omega) | omega) gc27) rfl ?_
  refine zq tb U (Cz (u':=(A0.mk c27.params c27.BH c27.result (Sh.w (q21.1+1)) c27.code)) Aa EF U U gc27 U U U (show 3+1≤5 by decide) rfl U ?_)
  generalize hg904:Sh.put lg903 i5 (A0.mk c27.params c27.BH c27.result (Sh.w (q21.1+1)) c27.code)=lg904 at h1 ⊢
  have ln904:=congrArg List.length hg904
  simp only[Sh.Af] at ln904
  refine dn hK26 U (zr tb U U (AF U (zm tb 2 U (bs h1 fun c29 gc29 h1=>?_))))
  refine zz (.ptr 0 0 (Int.toNat i5) 0) (BD IC U U U (by first | (simp only[Sh.Af];done) | (simp only[Sh.Af];omega) | omega) gc29) rfl ?_
  refine zq tb U (Al (E1 (id:=0) (j:=4) (i:=i5) (c:=c29) (ys:=c29.code) (encY:=(Bb 3 3)) rfl gc29 U U U U U) (zz (ow 3 0 c29.code) (Bf au U U (EK gc29) rfl) rfl (zq tb U (bs h1 fun q30 gq30 h1=>?_))))
  refine CL (rowsP:=[⟨0,132,6,List.map (Bb 3 3) c29.code⟩]) (rows0:=[⟨0,132,6,List.map (Bb 3 3) c29.code⟩]) (rows1:=[⟨0,132,6,List.map (Bb 3 3) q30.2⟩]) (rows2:=[]) (rows1':=[⟨0,132,6,List.map (Bb 3 3) q30.2⟩]) (rows2':=[]) (st':=[⟨0,99,5,hole lg904 (BQ 3 3 132 3 3) i5 [(.dv 3 1 (List.map eI c29.params)),(.dv 3 1 (List.map eI c29.BH)),(i64 c29.result),(i64 c29.Ab),(.own 3 0 (List.length c29.code))]⟩,⟨1,3,1,[]⟩,⟨1,3,1,[]⟩,⟨0,132,6,List.map (Bb 3 3) q30.2⟩]) (v':=(i64 q30.1)) [3] Aa dt (NK gq30) rfl (by decide) rfl U (.deep (Ar fun _=>U) .nil) rfl U (.deep (Ar fun _=>U) .nil) .nil U U (fun hln=>?_)
  have ln31:List.length q30.2=List.length c29.code:=by simpa only[List.length_map] using hln 0 _ _ rfl rfl rfl
  refine Al (Wk.take (id:=0) (m:=3) (j:=4) (i:=i5) (c:=c29) (ys:=q30.2) (encY:=(Bb 3 3)) rfl gc29 U U (by first | (simp only[Sh.Af];done) | (simp only[Sh.Af];omega) | omega) (by decide) (show 1≤3 by decide) (fun _=>U) rfl U) ?_
  refine Al (CB (id:=0) (i:=i5) (u:=(A0.mk c29.params c29.BH c29.result c29.Ab q30.2)) rfl U U) ?_
  generalize hg905:Sh.put lg904 i5 (A0.mk c29.params c29.BH c29.result c29.Ab q30.2)=lg905 at h1 ⊢
  have ln905:=congrArg List.length hg905
  simp only[Sh.Af] at ln905
  refine zq tb U (dn hK14 U (AF U (zm tb 3 U ?_)))
  exact AD (xi (q30.1,Sh.w (i5+1),lg905) h1 (by refine Wk.trans (AN (L:=[(0,(.own 0 0 (List.length l6))),(1,(i64 q30.1)),(5,(i64 (Sh.w (i5+1))))]) (st':=[⟨0,99,5,List.map (BQ 3 3 132 3 3) lg905⟩]) (st1:=[⟨0,99,5,List.map (BQ 3 3 132 3 3) lg905⟩]) [0] U (.deep (Ar fun _=>U) .nil) (by decide) rfl U (.deep (Ar fun _=>U) .nil) ⟨.rfl,.rfl,.rfl,trivial⟩) ?_;exact AM (L:=[(0,(.own 0 0 (List.length lg905))),(1,(i64 q30.1)),(5,(i64 (Sh.w (i5+1))))]) ⟨(.len (by first | (simp only[Sh.Af];done) | (simp only[Sh.Af];omega) | omega)),.rfl,.rfl,trivial⟩))
 ·intro b13 h1
  exact Ac (M9 k4 l6 (Sh.AA h1).symm _ (AE U))
theorem OK {N:Nat} {s0:(List An)} {s1:(List A0)} {p1:Int} {r:Int×(List An)×(List A0)} (h0:Gh N s0 s1 p1=some r):AY Tryz.prog 14 [(.agg [(ow 0 0 s0),(ow 1 0 s1)]),(i64 p1)] [(ro 0 104 3 (BV 155 3) s0),(ro 0 99 5 (BQ 3 3 132 3 3) s1)] (fun v st=>v=(i64 r.1)∧st=[(ro 0 104 3 (BV 155 3) r.2.1),(ro 0 99 5 (BQ 3 3 132 3 3) r.2.2)]):=by
 unfold Gh at h0
 refine ai Tryz.func14 U U U U (sr U fun K1 hK1=>A8 (m:=2) Aa U U U U U (zq tb U (dn hK1 U (sr U fun K2 hK2=>zm tb 3 U (bs h0 fun q3 gq3 h0=>?_)))))
 refine CL (rowsP:=[⟨0,104,3,List.map (BV 155 3) s0⟩]) (rows0:=[⟨0,104,3,List.map (BV 155 3) s0⟩]) (rows1:=[⟨0,104,3,List.map (BV 155 3) q3.2⟩]) (rows2:=[]) (rows1':=[⟨0,104,3,List.map (BV 155 3) q3.2⟩]) (rows2':=[]) (st':=[⟨0,104,3,List.map (BV 155 3) q3.2⟩,⟨0,99,5,List.map (BQ 3 3 132 3 3) s1⟩,⟨0,37,2,[[(.own 0 0 (List.length s0)),(.own 1 0 (List.length s1))]]⟩]) (v':=(i64 q3.1)) [0] Aa dF (Nr gq3) rfl (by decide) rfl U (.deep (Ar fun _=>U) .nil) rfl U (.deep (Ar fun _=>U) .nil) .nil U U (fun hln=>?_)
 have ln4:List.length q3.2=List.length s0:=by simpa only[List.length_map] using hln 0 _ _ rfl rfl rfl
 refine zq tb U (dn hK2 U (sr U fun K5 hK5=>zm tb 3 U (bs h0 fun q6 gq6 h0=>?_)))
 refine CL (rowsP:=[⟨0,99,5,List.map (BQ 3 3 132 3 3) s1⟩]) (rows0:=[⟨0,99,5,List.map (BQ 3 3 132 3 3) s1⟩]) (rows1:=[⟨0,99,5,List.map (BQ 3 3 132 3 3) q6.2⟩]) (rows2:=[]) (rows1':=[⟨0,99,5,List.map (BQ 3 3 132 3 3) q6.2⟩]) (rows2':=[]) (st':=[⟨0,104,3,List.map (BV 155 3) q3.2⟩,⟨0,99,5,List.map (BQ 3 3 132 3 3) q6.2⟩,⟨0,37,2,[[(.own 0 0 (List.length s0)),(.own 1 0 (List.length s1))]]⟩]) (v':=(i64 q6.1)) [1] Aa eO (OS gq6) rfl (by decide) rfl U (.deep (Ar fun _=>U) .nil) rfl U (.deep (Ar fun _=>U) .nil) .nil U U (fun hln=>?_)
 have ln7:List.length q6.2=List.length s1:=by simpa only[List.length_map] using hln 0 _ _ rfl rfl rfl
 refine zq tb U (dn hK5 U (zr tb U U ?_))
 replace h0:=Sh.AA h0
 subst r
 exact AH (Exists.intro _ (And.intro (((GQ (st:=[⟨0,104,3,List.map (BV 155 3) q3.2⟩,⟨0,99,5,List.map (BQ 3 3 132 3 3) q6.2⟩,⟨0,37,2,[[(.own 0 0 (List.length s0)),(.own 1 0 (List.length s1))]]⟩]) (st':=[⟨0,104,3,List.map (BV 155 3) q3.2⟩,⟨0,99,5,List.map (BQ 3 3 132 3 3) q6.2⟩,⟨0,37,2,[[(.own 0 0 (List.length q3.2)),(.own 1 0 (List.length q6.2))]]⟩]) (by first | (simp only[Sh.Af];done) | simp only[Sh.Af,ln4,ln7] | simp only[ln4,ln7])).trans (AN (L:=[(4,(i64 q6.1))]) (st':=[⟨0,104,3,List.map (BV 155 3) q3.2⟩,⟨0,99,5,List.map (BQ 3 3 132 3 3) q6.2⟩]) (st1:=[⟨0,104,3,List.map (BV 155 3) q3.2⟩,⟨0,99,5,List.map (BQ 3 3 132 3 3) q6.2⟩]) [0,1] U (.deep (Ar fun _=>U) (.deep (Ar fun _=>U) .nil)) (by decide) rfl U (.deep (Ar fun _=>U) (.deep (Ar fun _=>U) .nil)) ⟨.rfl,trivial⟩)).trans (AM (L:=[(4,(i64 q6.1))]) ⟨.rfl,trivial⟩)) (And.intro U U)))
theorem ON {N:Nat} {s0:(List Cell)} {p1:Int} {r:Int×(List Cell)} (h0:Gm N s0 p1=some r):AY Tryz.prog 41 [(ow 0 0 s0),(i64 p1)] [(ro 0 71 3 (Be 3) s0)] (fun v st=>v=(i64 r.1)∧st=[(ro 0 71 3 (Be 3) r.2)]):=by
 unfold Gm at h0
 refine ai Tryz.func41 U U U U (zr tb U U (AB fun K2 hK2=>zr tb U U (bs h0 fun o9 h1 h0=>?_)))
 have M9 :∀(k7:Int) (l8:(List Cell)),o9=(k7,l8)→∀s,Wk 1 s ⟨34,AS [(1,(i64 k7))],[(ro 0 71 3 (Be 3) l8)]⟩→K2 s:=by
  intro k7 l8 hq s hw
  subst o9
  try dsimp only at h0
  refine hK2 _ (AI hw (zr tb U U ?_))
  replace h0:=Sh.AA h0
  subst r
  exact AH (xr (AM (L:=[(4,(i64 k7))]) ⟨.rfl,trivial⟩))
 refine AJ (AX (σ:=Int×Int×(List Cell)) (fun n v=>DM N n v.1 v.2.1 v.2.2=some o9) (fun (k4,i5,l6)=>⟨34,AS [(0,(ow 0 0 l6)),(1,(i64 k4)),(5,(i64 i5))],[(ro 0 71 3 (Be 3) l6)]⟩) N (p1,0,s0) h1 (AE U) (fun _ hv=>by rw[DM] at hv;cases hv) ?_)
 rintro n ⟨k4,i5,l6⟩ h1
 try dsimp only at h1 ⊢
 rw[DM] at h1
 refine AB fun K11 hK11=>sr U fun K12 hK12=>zm tb 2 U (zz (i64 (Sh.len l6)) (Dj TZ U U U) rfl (zq tb U (dn hK12 U ?_)))
 refine ci h1 U ?_ ?_ <;> clear h1
 ·intro b13 h1
  refine AG (hK11 _ (AB fun K14 hK14=>AJ (sr U fun K15 hK15=>zm tb 3 U (bs h1 fun c16 gc16 h1=>zz (.ptr 0 0 (Int.toNat i5) 0) (BD FI U U U U gc16) rfl (zq tb U (Cz (u':=(Cell.mk k4 c16.tag c16.fields)) Aa EF U U gc16 U U U (show 0+1≤3 by decide) rfl U ?_))))))
  generalize hg901:Sh.put l6 i5 (Cell.mk k4 c16.tag c16.fields)=lg901 at h1 ⊢
  have ln901:=congrArg List.length hg901
  simp only[Sh.Af] at ln901
  refine dn hK15 U (zr tb U U (sr U fun K18 hK18=>zm tb 3 U (bs h1 fun c19 gc19 h1=>?_)))
  refine zz (.ptr 0 0 (Int.toNat i5) 0) (BD FI U U U (by first | (simp only[Sh.Af];done) | omega) gc19) rfl ?_
  refine zq tb U (Cz (u':=(Cell.mk c19.count (Sh.w (k4+1)) c19.fields)) Aa EF U U gc19 U U U (show 1+1≤3 by decide) rfl U ?_)
  generalize hg902:Sh.put lg901 i5 (Cell.mk c19.count (Sh.w (k4+1)) c19.fields)=lg902 at h1 ⊢
  have ln902:=congrArg List.length hg902
  simp only[Sh.Af] at ln902
  refine dn hK18 U (zr tb U U (AF U (zm tb 2 U (bs h1 fun c21 gc21 h1=>?_))))
  refine zz (.ptr 0 0 (Int.toNat i5) 0) (BD FI U U U (by first | (simp only[Sh.Af];done) | omega) gc21) rfl ?_
  refine zq tb U (Al (E1 (id:=0) (j:=2) (i:=i5) (c:=c21) (ys:=c21.fields) (encY:=eI) rfl gc21 U U U U U) (zz (ow 1 0 c21.fields) (Bf Hn U U (EK gc21) rfl) rfl (zq tb U (bs h1 fun q22 gq22 h1=>?_))))
  refine CL (rowsP:=[⟨0,3,1,List.map eI c21.fields⟩]) (rows0:=[⟨0,3,1,List.map eI c21.fields⟩]) (rows1:=[⟨0,3,1,List.map eI q22.2⟩]) (rows2:=[]) (rows1':=[⟨0,3,1,List.map eI q22.2⟩]) (rows2':=[]) (st':=[⟨0,71,3,hole lg902 (Be 3) i5 [(i64 c21.count),(i64 c21.tag),(.own 1 0 (List.length c21.fields))]⟩,⟨0,3,1,List.map eI q22.2⟩]) (v':=(i64 q22.1)) [1] Aa MI (CA gq22) rfl (by decide) rfl U (.pure (AL fun _=>U) .nil) rfl U (.pure (AL fun _=>U) .nil) .nil U U (fun hln=>?_)
  have ln23:List.length q22.2=List.length c21.fields:=by simpa only[List.length_map] using hln 0 _ _ rfl rfl rfl
  refine Al (Wk.take (id:=0) (m:=1) (j:=2) (i:=i5) (c:=c21) (ys:=q22.2) (encY:=eI) rfl gc21 U U (by first | (simp only[Sh.Af];done) | (simp only[Sh.Af];omega) | omega) (by decide) (show 1≤1 by decide) (fun _=>U) rfl U) ?_
  refine Al (CB (id:=0) (i:=i5) (u:=(Cell.mk c21.count c21.tag q22.2)) rfl U U) ?_
  generalize hg903:Sh.put lg902 i5 (Cell.mk c21.count c21.tag q22.2)=lg903 at h1 ⊢
  have ln903:=congrArg List.length hg903
  simp only[Sh.Af] at ln903
  refine zq tb U (dn hK14 U (AF U (zm tb 3 U ?_)))
  exact AD (xi (q22.1,Sh.w (i5+1),lg903) h1 (by refine Wk.trans (AN (L:=[(0,(.own 0 0 (List.length l6))),(1,(i64 q22.1)),(5,(i64 (Sh.w (i5+1))))]) (st':=[⟨0,71,3,List.map (Be 3) lg903⟩]) (st1:=[⟨0,71,3,List.map (Be 3) lg903⟩]) [0] U (.deep (Ar fun _=>U) .nil) (by decide) rfl U (.deep (Ar fun _=>U) .nil) ⟨.rfl,.rfl,.rfl,trivial⟩) ?_;exact AM (L:=[(0,(.own 0 0 (List.length lg903))),(1,(i64 q22.1)),(5,(i64 (Sh.w (i5+1))))]) ⟨(.len (by first | (simp only[Sh.Af];done) | (simp only[Sh.Af];omega) | omega)),.rfl,.rfl,trivial⟩))
 ·intro b13 h1
  exact Ac (M9 k4 l6 (Sh.AA h1).symm _ (AE U))
theorem NR {N:Nat} {s0:(List Ai)} {p1:Int} {r:Int×(List Ai)} (h0:F3 N s0 p1=some r):AY Tryz.prog 42 [(ow 0 0 s0),(i64 p1)] [(ro 0 94 6 (BG 3 3 3) s0)] (fun v st=>v=(i64 r.1)∧st=[(ro 0 94 6 (BG 3 3 3) r.2)]):=by
 unfold F3 at h0
 refine ai Tryz.func42 U U U U (zr tb U U (AB fun K2 hK2=>zr tb U U (bs h0 fun o9 h1 h0=>?_)))
 have M9 :∀(k7:Int) (l8:(List Ai)),o9=(k7,l8)→∀s,Wk 1 s ⟨55,AS [(1,(i64 k7))],[(ro 0 94 6 (BG 3 3 3) l8)]⟩→K2 s:=by
  intro k7 l8 hq s hw
  subst o9
  try dsimp only at h0
  refine hK2 _ (AI hw (zr tb U U ?_))
  replace h0:=Sh.AA h0
  subst r
  exact AH (xr (AM (L:=[(4,(i64 k7))]) ⟨.rfl,trivial⟩))
 refine AJ (AX (σ:=Int×Int×(List Ai)) (fun n v=>DA N n v.1 v.2.1 v.2.2=some o9) (fun (k4,i5,l6)=>⟨55,AS [(0,(ow 0 0 l6)),(1,(i64 k4)),(5,(i64 i5))],[(ro 0 94 6 (BG 3 3 3) l6)]⟩) N (p1,0,s0) h1 (AE U) (fun _ hv=>by rw[DA] at hv;cases hv) ?_)
 rintro n ⟨k4,i5,l6⟩ h1
 try dsimp only at h1 ⊢
 rw[DA] at h1
 refine AB fun K11 hK11=>sr U fun K12 hK12=>zm tb 2 U (zz (i64 (Sh.len l6)) (Dj XL U U U) rfl (zq tb U (dn hK12 U ?_)))
 refine ci h1 U ?_ ?_ <;> clear h1
 ·intro b13 h1
  refine AG (hK11 _ (AB fun K14 hK14=>AJ (sr U fun K15 hK15=>zm tb 3 U (bs h1 fun c16 gc16 h1=>zz (.ptr 0 0 (Int.toNat i5) 0) (BD Gf U U U U gc16) rfl (zq tb U (Cz (u':=(Ai.mk k4 c16.at_ c16.dst c16.Ab c16.own c16.held)) Aa EF U U gc16 U U U (show 0+1≤6 by decide) rfl U ?_))))))
  generalize hg901:Sh.put l6 i5 (Ai.mk k4 c16.at_ c16.dst c16.Ab c16.own c16.held)=lg901 at h1 ⊢
  have ln901:=congrArg List.length hg901
  simp only[Sh.Af] at ln901
  refine dn hK15 U (zr tb U U (sr U fun K18 hK18=>zm tb 3 U (bs h1 fun c19 gc19 h1=>?_)))
  refine zz (.ptr 0 0 (Int.toNat i5) 0) (BD Gf U U U (by first | (simp only[Sh.Af];done) | omega) gc19) rfl ?_
  refine zq tb U (Cz (u':=(Ai.mk c19.proc (Sh.w (k4+1)) c19.dst c19.Ab c19.own c19.held)) Aa EF U U gc19 U U U (show 1+1≤6 by decide) rfl U ?_)
  generalize hg902:Sh.put lg901 i5 (Ai.mk c19.proc (Sh.w (k4+1)) c19.dst c19.Ab c19.own c19.held)=lg902 at h1 ⊢
  have ln902:=congrArg List.length hg902
  simp only[Sh.Af] at ln902
  refine dn hK18 U (zr tb U U (sr U fun K21 hK21=>zm tb 3 U (bs h1 fun c22 gc22 h1=>?_)))
  refine zz (.ptr 0 0 (Int.toNat i5) 0) (BD Gf U U U (by first | (simp only[Sh.Af];done) | omega) gc22) rfl ?_
  refine zq tb U (Cz (u':=(Ai.mk c22.proc c22.at_ (Sh.w ((Sh.w (k4+1)) + 1)) c22.Ab c22.own c22.held)) Aa EF U U gc22 U U U (show 2+1≤6 by decide) rfl U ?_)
  generalize hg903:Sh.put lg902 i5 (Ai.mk c22.proc c22.at_ (Sh.w ((Sh.w (k4+1)) + 1)) c22.Ab c22.own c22.held)=lg903 at h1 ⊢
  have ln903:=congrArg List.length hg903
  simp only[Sh.Af] at ln903
  refine dn hK21 U (zr tb U U (sr U fun K24 hK24=>zm tb 2 U (bs h1 fun c25 gc25 h1=>?_)))
  refine zz (.ptr 0 0 (Int.toNat i5) 0) (BD Gf U U U (by first | (simp only[Sh.Af];done) | omega) gc25) rfl ?_
  refine zq tb U (Al (E1 (id:=0) (j:=3) (i:=i5) (c:=c25) (ys:=c25.Ab) (encY:=eI) rfl gc25 U U U U U) (zz (ow 1 0 c25.Ab) (Bf Hn U U (EK gc25) rfl) rfl (zq tb U (bs h1 fun q26 gq26 h1=>?_))))
  refine CL (rowsP:=[⟨0,3,1,List.map eI c25.Ab⟩]) (rows0:=[⟨0,3,1,List.map eI c25.Ab⟩]) (rows1:=[⟨0,3,1,List.map eI q26.2⟩]) (rows2:=[]) (rows1':=[⟨0,3,1,List.map eI q26.2⟩]) (rows2':=[]) (st':=[⟨0,94,6,hole lg903 (BG 3 3 3) i5 [(i64 c25.proc),(i64 c25.at_),(i64 c25.dst),(.own 1 0 (List.length c25.Ab)),(.dv 3 1 (List.map eI c25.own)),(.dv 3 1 (List.map eI c25.held))]⟩,⟨0,3,1,List.map eI q26.2⟩]) (v':=(i64 q26.1)) [1] Aa MI (CA gq26) rfl (by decide) rfl U (.pure (AL fun _=>U) .nil) rfl U (.pure (AL fun _=>U) .nil) .nil U U (fun hln=>?_)
  have ln27:List.length q26.2=List.length c25.Ab:=by simpa only[List.length_map] using hln 0 _ _ rfl rfl rfl
  refine Al (Wk.take (id:=0) (m:=1) (j:=3) (i:=i5) (c:=c25) (ys:=q26.2) (encY:=eI) rfl gc25 U U (by first | (simp only[Sh.Af];done) | (simp only[Sh.Af];omega) | omega) (by decide) (show 1≤1 by decide) (fun _=>U) rfl U) ?_
  refine Al (CB (id:=0) (i:=i5) (u:=(Ai.mk c25.proc c25.at_ c25.dst q26.2 c25.own c25.held)) rfl U U) ?_
  generalize hg904:Sh.put lg903 i5 (Ai.mk c25.proc c25.at_ c25.dst q26.2 c25.own c25.held)=lg904 at h1 ⊢
  have ln904:=congrArg List.length hg904
  simp only[Sh.Af] at ln904
  refine zq tb U (dn hK24 U (sr U fun K28 hK28=>zm tb 2 U (bs h1 fun c29 gc29 h1=>?_)))
  refine zz (.ptr 0 0 (Int.toNat i5) 0) (BD Gf U U U (by first | (simp only[Sh.Af];done) | (simp only[Sh.Af];omega) | omega) gc29) rfl ?_
  refine zq tb U (Al (E1 (id:=0) (j:=4) (i:=i5) (c:=c29) (ys:=c29.own) (encY:=eI) rfl gc29 U U U U U) (zz (ow 2 0 c29.own) (Bf Hn U U (EK gc29) rfl) rfl (zq tb U (bs h1 fun q30 gq30 h1=>?_))))
  refine CL (rowsP:=[⟨0,3,1,List.map eI c29.own⟩]) (rows0:=[⟨0,3,1,List.map eI c29.own⟩]) (rows1:=[⟨0,3,1,List.map eI q30.2⟩]) (rows2:=[]) (rows1':=[⟨0,3,1,List.map eI q30.2⟩]) (rows2':=[]) (st':=[⟨0,94,6,hole lg904 (BG 3 3 3) i5 [(i64 c29.proc),(i64 c29.at_),(i64 c29.dst),(.dv 3 1 (List.map eI c29.Ab)),(.own 2 0 (List.length c29.own)),(.dv 3 1 (List.map eI c29.held))]⟩,⟨1,3,1,[]⟩,⟨0,3,1,List.map eI q30.2⟩]) (v':=(i64 q30.1)) [2] Aa MI (CA gq30) rfl (by decide) rfl U (.pure (AL fun _=>U) .nil) rfl U (.pure (AL fun _=>U) .nil) .nil U U (fun hln=>?_)
  have ln31:List.length q30.2=List.length c29.own:=by simpa only[List.length_map] using hln 0 _ _ rfl rfl rfl
  refine Al (Wk.take (id:=0) (m:=2) (j:=4) (i:=i5) (c:=c29) (ys:=q30.2) (encY:=eI) rfl gc29 U U (by first | (simp only[Sh.Af];done) | (simp only[Sh.Af];omega) | omega) (by decide) (show 1≤2 by decide) (fun _=>U) rfl U) ?_
  refine Al (CB (id:=0) (i:=i5) (u:=(Ai.mk c29.proc c29.at_ c29.dst c29.Ab q30.2 c29.held)) rfl U U) ?_
  generalize hg905:Sh.put lg904 i5 (Ai.mk c29.proc c29.at_ c29.dst c29.Ab q30.2 c29.held)=lg905 at h1 ⊢
  have ln905:=congrArg List.length hg905
  simp only[Sh.Af] at ln905
  refine zq tb U (dn hK28 U (AF U (zm tb 2 U (bs h1 fun c32 gc32 h1=>?_))))
  refine zz (.ptr 0 0 (Int.toNat i5) 0) (BD Gf U U U (by first | (simp only[Sh.Af];done) | (simp only[Sh.Af];omega) | omega) gc32) rfl ?_
  refine zq tb U (Al (E1 (id:=0) (j:=5) (i:=i5) (c:=c32) (ys:=c32.held) (encY:=eI) rfl gc32 U U U U U) (zz (ow 3 0 c32.held) (Bf Hn U U (EK gc32) rfl) rfl (zq tb U (bs h1 fun q33 gq33 h1=>?_))))
  refine CL (rowsP:=[⟨0,3,1,List.map eI c32.held⟩]) (rows0:=[⟨0,3,1,List.map eI c32.held⟩]) (rows1:=[⟨0,3,1,List.map eI q33.2⟩]) (rows2:=[]) (rows1':=[⟨0,3,1,List.map eI q33.2⟩]) (rows2':=[]) (st':=[⟨0,94,6,hole lg905 (BG 3 3 3) i5 [(i64 c32.proc),(i64 c32.at_),(i64 c32.dst),(.dv 3 1 (List.map eI c32.Ab)),(.dv 3 1 (List.map eI c32.own)),(.own 3 0 (List.length c32.held))]⟩,⟨1,3,1,[]⟩,⟨1,3,1,[]⟩,⟨0,3,1,List.map eI q33.2⟩]) (v':=(i64 q33.1)) [3] Aa MI (CA gq33) rfl (by decide) rfl U (.pure (AL fun _=>U) .nil) rfl U (.pure (AL fun _=>U) .nil) .nil U U (fun hln=>?_)
  have ln34:List.length q33.2=List.length c32.held:=by simpa only[List.length_map] using hln 0 _ _ rfl rfl rfl
  refine Al (Wk.take (id:=0) (m:=3) (j:=5) (i:=i5) (c:=c32) (ys:=q33.2) (encY:=eI) rfl gc32 U U (by first | (simp only[Sh.Af];done) | (simp only[Sh.Af];omega) | omega) (by decide) (show 1≤3 by decide) (fun _=>U) rfl U) ?_
  refine Al (CB (id:=0) (i:=i5) (u:=(Ai.mk c32.proc c32.at_ c32.dst c32.Ab c32.own q33.2)) rfl U U) ?_
  generalize hg906:Sh.put lg905 i5 (Ai.mk c32.proc c32.at_ c32.dst c32.Ab c32.own q33.2)=lg906 at h1 ⊢
  have ln906:=congrArg List.length hg906
  simp only[Sh.Af] at ln906
  refine zq tb U (dn hK14 U (AF U (zm tb 3 U ?_)))
  exact AD (xi (q33.1,Sh.w (i5+1),lg906) h1 (by refine Wk.trans (AN (L:=[(0,(.own 0 0 (List.length l6))),(1,(i64 q33.1)),(5,(i64 (Sh.w (i5+1))))]) (st':=[⟨0,94,6,List.map (BG 3 3 3) lg906⟩]) (st1:=[⟨0,94,6,List.map (BG 3 3 3) lg906⟩]) [0] U (.deep (Ar fun _=>U) .nil) (by decide) rfl U (.deep (Ar fun _=>U) .nil) ⟨.rfl,.rfl,.rfl,trivial⟩) ?_;exact AM (L:=[(0,(.own 0 0 (List.length lg906))),(1,(i64 q33.1)),(5,(i64 (Sh.w (i5+1))))]) ⟨(.len (by first | (simp only[Sh.Af];done) | (simp only[Sh.Af];omega) | omega)),.rfl,.rfl,trivial⟩))
 ·intro b13 h1
  exact Ac (M9 k4 l6 (Sh.AA h1).symm _ (AE U))
theorem OM {N:Nat} {s0:(List Int)} {s1:(List Cell)} {s2:(List Ai)} {p0_0:Int} {p0_1:Int} {p0_2:Int} {p0_3:Int} {p1:Int} {r:Int×(List Int)×(List Cell)×(List Ai)} (h0:Gl N s0 s1 s2 p0_0 p0_1 p0_2 p0_3 p1=some r):AY Tryz.prog 15 [(.agg [(i64 p0_0),(i64 p0_1),(i64 p0_2),(i64 p0_3),(ow 0 0 s0),(ow 1 0 s1),(ow 2 0 s2)]),(i64 p1)] [(ro 0 3 1 eI s0),(ro 0 71 3 (Be 3) s1),(ro 0 94 6 (BG 3 3 3) s2)] (fun v st=>v=(i64 r.1)∧st=[(ro 0 3 1 eI r.2.1),(ro 0 71 3 (Be 3) r.2.2.1),(ro 0 94 6 (BG 3 3 3) r.2.2.2)]):=by
 unfold Gl at h0
 refine ai Tryz.func15 U U U U (sr U fun K1 hK1=>A8 (m:=3) Aa U U U U U (zq tb U (dn hK1 U (sr U fun K2 hK2=>zm tb 3 U (bs h0 fun q3 gq3 h0=>?_)))))
 refine CL (rowsP:=[⟨0,3,1,List.map eI s0⟩]) (rows0:=[⟨0,3,1,List.map eI s0⟩]) (rows1:=[⟨0,3,1,List.map eI q3.2⟩]) (rows2:=[]) (rows1':=[⟨0,3,1,List.map eI q3.2⟩]) (rows2':=[]) (st':=[⟨0,3,1,List.map eI q3.2⟩,⟨0,71,3,List.map (Be 3) s1⟩,⟨0,94,6,List.map (BG 3 3 3) s2⟩,⟨0,42,7,[[(i64 p0_0),(i64 p0_1),(i64 p0_2),(i64 p0_3),(.own 0 0 (List.length s0)),(.own 1 0 (List.length s1)),(.own 2 0 (List.length s2))]]⟩]) (v':=(i64 q3.1)) [0] Aa MI (CA gq3) rfl (by decide) rfl U (.pure (AL fun _=>U) .nil) rfl U (.pure (AL fun _=>U) .nil) .nil U U (fun hln=>?_)
 have ln4:List.length q3.2=List.length s0:=by simpa only[List.length_map] using hln 0 _ _ rfl rfl rfl
 refine zq tb U (dn hK2 U (sr U fun K5 hK5=>zm tb 3 U (bs h0 fun q6 gq6 h0=>?_)))
 refine CL (rowsP:=[⟨0,71,3,List.map (Be 3) s1⟩]) (rows0:=[⟨0,71,3,List.map (Be 3) s1⟩]) (rows1:=[⟨0,71,3,List.map (Be 3) q6.2⟩]) (rows2:=[]) (rows1':=[⟨0,71,3,List.map (Be 3) q6.2⟩]) (rows2':=[]) (st':=[⟨0,3,1,List.map eI q3.2⟩,⟨0,71,3,List.map (Be 3) q6.2⟩,⟨0,94,6,List.map (BG 3 3 3) s2⟩,⟨0,42,7,[[(i64 p0_0),(i64 p0_1),(i64 p0_2),(i64 p0_3),(.own 0 0 (List.length s0)),(.own 1 0 (List.length s1)),(.own 2 0 (List.length s2))]]⟩]) (v':=(i64 q6.1)) [1] Aa fD (ON gq6) rfl (by decide) rfl U (.deep (Ar fun _=>U) .nil) rfl U (.deep (Ar fun _=>U) .nil) .nil U U (fun hln=>?_)
 have ln7:List.length q6.2=List.length s1:=by simpa only[List.length_map] using hln 0 _ _ rfl rfl rfl
 refine zq tb U (dn hK5 U (sr U fun K8 hK8=>zm tb 3 U (bs h0 fun q9 gq9 h0=>?_)))
 refine CL (rowsP:=[⟨0,94,6,List.map (BG 3 3 3) s2⟩]) (rows0:=[⟨0,94,6,List.map (BG 3 3 3) s2⟩]) (rows1:=[⟨0,94,6,List.map (BG 3 3 3) q9.2⟩]) (rows2:=[]) (rows1':=[⟨0,94,6,List.map (BG 3 3 3) q9.2⟩]) (rows2':=[]) (st':=[⟨0,3,1,List.map eI q3.2⟩,⟨0,71,3,List.map (Be 3) q6.2⟩,⟨0,94,6,List.map (BG 3 3 3) q9.2⟩,⟨0,42,7,[[(i64 p0_0),(i64 p0_1),(i64 p0_2),(i64 p0_3),(.own 0 0 (List.length s0)),(.own 1 0 (List.length s1)),(.own 2 0 (List.length s2))]]⟩]) (v':=(i64 q9.1)) [2] Aa cy (NR gq9) rfl (by decide) rfl U (.deep (Ar fun _=>U) .nil) rfl U (.deep (Ar fun _=>U) .nil) .nil U U (fun hln=>?_)
 have ln10:List.length q9.2=List.length s2:=by simpa only[List.length_map] using hln 0 _ _ rfl rfl rfl
 refine zq tb U (dn hK8 U (zr tb U U ?_))
 replace h0:=Sh.AA h0
 subst r
 exact AH (Exists.intro _ (And.intro (((GQ (st:=[⟨0,3,1,List.map eI q3.2⟩,⟨0,71,3,List.map (Be 3) q6.2⟩,⟨0,94,6,List.map (BG 3 3 3) q9.2⟩,⟨0,42,7,[[(i64 p0_0),(i64 p0_1),(i64 p0_2),(i64 p0_3),(.own 0 0 (List.length s0)),(.own 1 0 (List.length s1)),(.own 2 0 (List.length s2))]]⟩]) (st':=[⟨0,3,1,List.map eI q3.2⟩,⟨0,71,3,List.map (Be 3) q6.2⟩,⟨0,94,6,List.map (BG 3 3 3) q9.2⟩,⟨0,42,7,[[(i64 p0_0),(i64 p0_1),(i64 p0_2),(i64 p0_3),(.own 0 0 (List.length q3.2)),(.own 1 0 (List.length q6.2)),(.own 2 0 (List.length q9.2))]]⟩]) (by first | (simp only[Sh.Af];done) | simp only[Sh.Af,ln4,ln7,ln10] | simp only[ln4,ln7,ln10])).trans (AN (L:=[(4,(i64 q9.1))]) (st':=[⟨0,3,1,List.map eI q3.2⟩,⟨0,71,3,List.map (Be 3) q6.2⟩,⟨0,94,6,List.map (BG 3 3 3) q9.2⟩]) (st1:=[⟨0,3,1,List.map eI q3.2⟩,⟨0,71,3,List.map (Be 3) q6.2⟩,⟨0,94,6,List.map (BG 3 3 3) q9.2⟩]) [0,1,2] U (.pure (AL fun _=>U) (.deep (Ar fun _=>U) (.deep (Ar fun _=>U) .nil))) (by decide) rfl U (.pure (AL fun _=>U) (.deep (Ar fun _=>U) (.deep (Ar fun _=>U) .nil))) ⟨.rfl,trivial⟩)).trans (AM (L:=[(4,(i64 q9.1))]) ⟨.rfl,trivial⟩)) (And.intro U U)))
theorem KO {N:Nat} {p0:(List Int)} {p1:Int} {r:Int} (h0:GC N p0 p1=some r):AY Tryz.prog 17 [(ls eI p0),(i64 p1)] [] (fun v st=>v=(i64 r)∧st=[]):=by
 unfold GC at h0
 refine ai Tryz.func17 U U U U (zr tb U U (AB fun K2 hK2=>zr tb U U ?_))
 obtain⟨o7,h1,h0⟩:=Sh.A1 h0
 have M7 :∀(k6:Int),o7=Sum.inr k6→∀s,Wk 0 s ⟨21,AS [(1,(i64 k6))],[]⟩→K2 s:=by
  intro k6 hq s hw
  subst o7
  try dsimp only at h0
  refine hK2 _ (AI hw (zr tb U U ?_))
  replace h0:=Sh.AA h0
  subst r
  exact AH (xr (AM (L:=[(4,(i64 k6))]) ⟨.rfl,trivial⟩))
 refine AJ (AX (σ:=Int×Int) (fun n v=>Dp p0 n v.1 v.2=some o7) (fun (k4,i5)=>⟨21,AS [(0,(ls eI p0)),(1,(i64 k4)),(5,(i64 i5))],[]⟩) N (p1,0) h1 (AE U) (fun _ hv=>by rw[Dp] at hv;cases hv) ?_)
 rintro n ⟨k4,i5⟩ h1
 try dsimp only at h1 ⊢
 rw[Dp] at h1
 refine AB fun K9 hK9=>sr U fun K10 hK10=>zm tb 2 U (zl tb U U (zq tb U (dn hK10 U ?_)))
 refine ci h1 U ?_ ?_ <;> clear h1
 ·intro b11 h1
  refine AG (hK9 _ (AB fun K12 hK12=>AJ (AB fun K13 hK13=>sr U fun K14 hK14=>zm tb 2 U (bs h1 fun c15 gc15 h1=>zx A2 gc15 U U U (zm tb 3 U (dn hK14 U ?_))))))
  refine ci h1 U ?_ ?_ <;> clear h1
  ·intro b16 h1
   have b17:decide (c15=k4)=false:=by simpa using b16
   refine zr tb U U ?_
   replace h1:=Sh.AA h1
   subst o7
   try dsimp only[id] at h0
   replace h0:=Sh.AA h0
   subst r
   exact AH (xr (AM (L:=[(4,(i64 (-1)))]) ⟨.rfl,trivial⟩))
  ·intro b16 h1
   have b19:decide (c15=k4)=true:=by simpa using b16
   exact AG (hK13 _ (AF U (zm tb 3 U (dn hK12 U (AF U (zm tb 3 U (AD (xi (Sh.w (k4+1),Sh.w (i5+1)) h1 (AE U)))))))))
 ·intro b11 h1
  exact Ac (M7 k4 (Sh.AA h1).symm _ (AE U))
theorem LJ {N:Nat} {p0:Au} {p1:Av} {r:Bool} (h0:Fp N p0 p1=some r):AY Tryz.prog 4 [(.agg (Ao p0)),(.agg (Ah p1))] [] (fun v st=>v=(.bool r)∧st=[]):=by
 unfold Fp at h0
 refine ai Tryz.func4 U U U U (sr U fun K1 hK1=>A8 (m:=0) Aa U U U U U (A8 (m:=1) Aa U U U U U (zq tb U (dn hK1 U (zr tb U U (sr U fun K3 hK3=>zm tb 2 U (bs h0 fun q4 gq4 h0=>zc fT (Pv gq4) rfl U U (zq tb U ?_))))))))
 refine dn hK3 U (AB fun K5 hK5=>zr tb U U ?_)
 refine ci h0 U ?_ ?_ <;> clear h0
 ·intro b7 h0
  refine zr tb U U ?_
  replace h0:=Sh.AA h0
  subst r
  exact AH (xr (AR [(4,(.bool true))] U))
 ·intro b7 h0
  refine AG (hK5 _ (sr U fun K9 hK9=>zm tb 2 U (bs h0 fun q10 gq10 h0=>zc fU (PZ gq10) rfl U U (zq tb U (dn hK9 U (AB fun K11 hK11=>zr tb U U ?_))))))
  refine ci h0 U ?_ ?_ <;> clear h0
  ·intro b13 h0
   refine zr tb U U ?_
   replace h0:=Sh.AA h0
   subst r
   exact AH (xr (AR [(4,(.bool true))] U))
  ·intro b13 h0
   refine AG (hK11 _ (AB fun K15 hK15=>?_))
   refine Cw 4 (by kernel_rfl) (by kernel_rfl) (by rfl) ?_
   refine yq tb U (bs h0 fun q16 gq16 h0=>?_)
   refine E0 (v:=(.agg (Ao q16))) Aa aA (AY.wk (HV gq16) (by refine Wk.trans (E9 (L:=[(0,(.agg [(ls Ad q16.decls),(ow 1 0 q16.procs)]))]) (st':=[⟨1,104,3,[]⟩,(ro 0 99 5 (BQ 3 3 132 3 3) q16.procs)]) (id:=0) rfl (show 0≤0 by decide) (Go.Abs.FB (fun _=>U)) ⟨(.agg ⟨(.HW U (fun x=>Iq x)),.rfl,trivial⟩),trivial⟩ U) ?_;refine Wk.trans (E9 (L:=[(0,(.agg (Ao q16)))]) (st':=[⟨1,104,3,[]⟩,⟨1,99,5,[]⟩]) (id:=1) rfl (show 0≤1 by decide) (Go.Abs.FB (fun _=>U)) ⟨(.agg ⟨.rfl,(.HW U (fun x=>Ij x)),trivial⟩),trivial⟩ U) ?_;refine Wk.trans (AN (L:=[(0,(.agg (Ao q16)))]) (st':=[]) (st1:=[]) [] U .nil (by decide) rfl U .nil ⟨.rfl,trivial⟩) ?_;exact AM (L:=[(0,(.agg (Ao q16)))]) ⟨.rfl,trivial⟩)) rfl U U ?_
   refine yq tb U (bs h0 fun q17 gq17 h0=>?_)
   refine E0 (v:=(.agg (Ah q17))) Aa aD (AY.wk (HT gq17) (by refine Wk.trans (Wk.EW (L:=[(0,(.agg [(i64 q17.status),(i64 q17.value),(i64 q17.calls),(i64 q17.CV),(ls eI q17.out),(ow 1 0 q17.heap),(ow 2 0 q17.AT)]))]) (st':=[⟨1,3,1,[]⟩,(ro 0 71 3 (Be 3) q17.heap),(ro 0 94 6 (BG 3 3 3) q17.AT)]) (id:=0) rfl (show 0≤0 by decide) (AL fun _=>U) ⟨(.agg ⟨.rfl,.rfl,.rfl,.rfl,(.Iz U),.rfl,.rfl,trivial⟩),trivial⟩ U) ?_;refine Wk.trans (E9 (L:=[(0,(.agg [(i64 q17.status),(i64 q17.value),(i64 q17.calls),(i64 q17.CV),(ls eI q17.out),(ls Aj q17.heap),(ow 2 0 q17.AT)]))]) (st':=[⟨1,3,1,[]⟩,⟨1,71,3,[]⟩,(ro 0 94 6 (BG 3 3 3) q17.AT)]) (id:=1) rfl (show 0≤1 by decide) (Go.Abs.FB (fun _=>U)) ⟨(.agg ⟨.rfl,.rfl,.rfl,.rfl,.rfl,(.HW U (fun x=>Jb x)),.rfl,trivial⟩),trivial⟩ U) ?_;refine Wk.trans (E9 (L:=[(0,(.agg (Ah q17)))]) (st':=[⟨1,3,1,[]⟩,⟨1,71,3,[]⟩,⟨1,94,6,[]⟩]) (id:=2) rfl (show 0≤2 by decide) (Go.Abs.FB (fun _=>U)) ⟨(.agg ⟨.rfl,.rfl,.rfl,.rfl,.rfl,.rfl,(.HW U (fun x=>Hc x)),trivial⟩),trivial⟩ U) ?_;refine Wk.trans (AN (L:=[(0,(.agg (Ah q17)))]) (st':=[]) (st1:=[]) [] U .nil (by decide) rfl U .nil ⟨.rfl,trivial⟩) ?_;exact AM (L:=[(0,(.agg (Ah q17)))]) ⟨.rfl,trivial⟩)) rfl U U ?_
   refine BP (bs h0 fun q18 gq18 h0=>BN (v':=(ow 2 0 q18)) Aa dT (QC gq18) rfl U ⟨(BB fun _=>U),trivial⟩ U U (zq tb U (dn hK15 U (sr U fun K19 hK19=>zq tb U (bs h0 fun q20 gq20 h0=>BN (v':=(.agg [(ow 3 0 q20.decls),(ow 4 0 q20.procs)])) Aa aA (HV gq20) rfl U ⟨(Ar fun _=>U),⟨(Ar fun _=>U),trivial⟩⟩ U U (BF (m:=5) Aa ZQ U U (A7 Aa YW U U U U U U (show 0+2≤2 by decide) rfl (dn hK19 U ?_))))))))
   refine sr U fun K21 hK21=>zq tb U (bs h0 fun q22 gq22 h0=>BN (v':=(.agg [(i64 q22.status),(i64 q22.value),(i64 q22.calls),(i64 q22.CV),(ow 6 0 q22.out),(ow 7 0 q22.heap),(ow 8 0 q22.AT)])) Aa aD (HT gq22) rfl U ⟨(BB fun _=>U),⟨(Ar fun _=>U),⟨(Ar fun _=>U),trivial⟩⟩⟩ U U (BF (m:=9) Aa ZJ U U (A7 Aa Ys U U U U U U (show 0+7≤7 by decide) rfl (dn hK21 U (sr U fun K23 hK23=>zm tb 2 U (bs h0 fun q24 gq24 h0=>JG (v':=(ow 10 0 q24)) Aa aw (Ks gq24) rfl (.agg (.ownD U U (fun _=>U) (fun x=>Iq x) (.ownD U U (fun _=>U) (fun x=>Ij x) .nil)) (.agg (.val U (.val U (.val U (.val U (.own U U (fun _=>U) (.ownD U U (fun _=>U) (fun x=>Jb x) (.ownD U U (fun _=>U) (fun x=>Hc x) .nil))))))) .nil)) rfl (ah (fun _=>U) trivial) rfl U (zq tb U ?_)))))))
   refine dn hK23 U (AB fun K25 hK25=>sr U fun K26 hK26=>zm tb 2 U (bs h0 fun q27 gq27 h0=>JG (v':=(.bool q27)) Aa LR (B5 gq27) rfl (.own U U (fun _=>U) (.own U U (fun _=>U) .nil)) rfl trivial U U (zq tb U (dn hK26 U ?_))))
   refine ci h0 U ?_ ?_ <;> clear h0
   ·intro b28 h0
    have b29:q27=false:=by simpa using b28
    refine zr tb U U ?_
    replace h0:=Sh.AA h0
    subst r
    exact AH (xr (AR [(4,(.bool false))] U))
   ·intro b28 h0
    have b31:q27=true:=by simpa using b28
    refine AG (hK25 _ (AB fun K32 hK32=>AB fun K33 hK33=>?_))
    refine B1 (by kernel_rfl) (by kernel_rfl) (by rfl) ?_
    iterate 2 refine yq tb rfl ?_
    refine bs h0 fun q34 gq34 h0=>?_
    refine E0 (v:=(.agg (Ao q34))) Aa aA (AY.wk (HV gq34) (by refine Wk.trans (E9 (L:=[(0,(.agg [(ls Ad q34.decls),(ow 1 0 q34.procs)]))]) (st':=[⟨1,104,3,[]⟩,(ro 0 99 5 (BQ 3 3 132 3 3) q34.procs)]) (id:=0) rfl (show 0≤0 by decide) (Go.Abs.FB (fun _=>U)) ⟨(.agg ⟨(.HW U (fun x=>Iq x)),.rfl,trivial⟩),trivial⟩ U) ?_;refine Wk.trans (E9 (L:=[(0,(.agg (Ao q34)))]) (st':=[⟨1,104,3,[]⟩,⟨1,99,5,[]⟩]) (id:=1) rfl (show 0≤1 by decide) (Go.Abs.FB (fun _=>U)) ⟨(.agg ⟨.rfl,(.HW U (fun x=>Ij x)),trivial⟩),trivial⟩ U) ?_;refine Wk.trans (AN (L:=[(0,(.agg (Ao q34)))]) (st':=[]) (st1:=[]) [] U .nil (by decide) rfl U .nil ⟨.rfl,trivial⟩) ?_;exact AM (L:=[(0,(.agg (Ao q34)))]) ⟨.rfl,trivial⟩)) rfl U U ?_
    refine bs h0 fun q35 gq35 h0=>Q9 (v':=(.bool q35)) Aa eW (PR gq35) rfl (.agg (.ownD U U (fun _=>U) (fun x=>Iq x) (.ownD U U (fun _=>U) (fun x=>Ij x) .nil)) (.val U .nil)) rfl U (yq tb U (BP (hK33 _ ?_)))
    refine ci h0 U ?_ ?_ <;> clear h0
    ·intro b36 h0
     have b37:q35=false:=by simpa using b36
     refine zr tb U U ?_
     replace h0:=Sh.AA h0
     subst r
     exact AH (xr (AR [(4,(.bool false))] U))
    ·intro b36 h0
     have b39:q35=true:=by simpa using b36
     refine AG (hK32 _ (AB fun K40 hK40=>AB fun K41 hK41=>?_))
     refine B1 (by kernel_rfl) (by kernel_rfl) (by rfl) ?_
     iterate 2 refine yq tb rfl ?_
     refine bs h0 fun q42 gq42 h0=>?_
     refine E0 (v:=(.agg (Ah q42))) Aa aD (AY.wk (HT gq42) (by refine Wk.trans (Wk.EW (L:=[(0,(.agg [(i64 q42.status),(i64 q42.value),(i64 q42.calls),(i64 q42.CV),(ls eI q42.out),(ow 1 0 q42.heap),(ow 2 0 q42.AT)]))]) (st':=[⟨1,3,1,[]⟩,(ro 0 71 3 (Be 3) q42.heap),(ro 0 94 6 (BG 3 3 3) q42.AT)]) (id:=0) rfl (show 0≤0 by decide) (AL fun _=>U) ⟨(.agg ⟨.rfl,.rfl,.rfl,.rfl,(.Iz U),.rfl,.rfl,trivial⟩),trivial⟩ U) ?_;refine Wk.trans (E9 (L:=[(0,(.agg [(i64 q42.status),(i64 q42.value),(i64 q42.calls),(i64 q42.CV),(ls eI q42.out),(ls Aj q42.heap),(ow 2 0 q42.AT)]))]) (st':=[⟨1,3,1,[]⟩,⟨1,71,3,[]⟩,(ro 0 94 6 (BG 3 3 3) q42.AT)]) (id:=1) rfl (show 0≤1 by decide) (Go.Abs.FB (fun _=>U)) ⟨(.agg ⟨.rfl,.rfl,.rfl,.rfl,.rfl,(.HW U (fun x=>Jb x)),.rfl,trivial⟩),trivial⟩ U) ?_;refine Wk.trans (E9 (L:=[(0,(.agg (Ah q42)))]) (st':=[⟨1,3,1,[]⟩,⟨1,71,3,[]⟩,⟨1,94,6,[]⟩]) (id:=2) rfl (show 0≤2 by decide) (Go.Abs.FB (fun _=>U)) ⟨(.agg ⟨.rfl,.rfl,.rfl,.rfl,.rfl,.rfl,(.HW U (fun x=>Hc x)),trivial⟩),trivial⟩ U) ?_;refine Wk.trans (AN (L:=[(0,(.agg (Ah q42)))]) (st':=[]) (st1:=[]) [] U .nil (by decide) rfl U .nil ⟨.rfl,trivial⟩) ?_;exact AM (L:=[(0,(.agg (Ah q42)))]) ⟨.rfl,trivial⟩)) rfl U U ?_
     refine bs h0 fun q43 gq43 h0=>Q9 (v':=(.bool q43)) Aa fQ (PT gq43) rfl (.agg (.val U (.val U (.val U (.val U (.own U U (fun _=>U) (.ownD U U (fun _=>U) (fun x=>Jb x) (.ownD U U (fun _=>U) (fun x=>Hc x) .nil))))))) (.val U .nil)) rfl U (yq tb U (BP (hK41 _ ?_)))
     refine ci h0 U ?_ ?_ <;> clear h0
     ·intro b44 h0
      have b45:q43=false:=by simpa using b44
      refine zr tb U U ?_
      replace h0:=Sh.AA h0
      subst r
      exact AH (xr (AR [(4,(.bool false))] U))
     ·intro b44 h0
      have b47:q43=true:=by simpa using b44
      refine AG (hK40 _ (zr tb U U (sr U fun K49 hK49=>zm tb 2 U (bs h0 fun q50 gq50 h0=>?_))))
      refine CL (rowsP:=[⟨0,104,3,List.map (BV 155 3) q20.decls⟩,⟨0,99,5,List.map (BQ 3 3 132 3 3) q20.procs⟩]) (rows0:=[⟨0,104,3,List.map (BV 155 3) q20.decls⟩,⟨0,99,5,List.map (BQ 3 3 132 3 3) q20.procs⟩]) (rows1:=[⟨0,104,3,List.map (BV 155 3) q50.2.1⟩,⟨0,99,5,List.map (BQ 3 3 132 3 3) q50.2.2⟩]) (rows2:=[]) (rows1':=[⟨0,104,3,List.map (BV 155 3) q50.2.1⟩,⟨0,99,5,List.map (BQ 3 3 132 3 3) q50.2.2⟩]) (rows2':=[]) (st':=[⟨0,25,2,[(Ao p0)]⟩,⟨0,30,7,[(Ah p1)]⟩,⟨0,3,1,List.map eI q18⟩,⟨0,104,3,List.map (BV 155 3) q50.2.1⟩,⟨0,99,5,List.map (BQ 3 3 132 3 3) q50.2.2⟩,⟨0,37,2,[[(.own 3 0 (List.length q20.decls)),(.own 4 0 (List.length q20.procs))]]⟩,⟨0,3,1,List.map eI q22.out⟩,⟨0,71,3,List.map (Be 3) q22.heap⟩,⟨0,94,6,List.map (BG 3 3 3) q22.AT⟩,⟨0,42,7,[[(i64 q22.status),(i64 q22.value),(i64 q22.calls),(i64 q22.CV),(.own 6 0 (List.length q22.out)),(.own 7 0 (List.length q22.heap)),(.own 8 0 (List.length q22.AT))]]⟩,⟨0,3,1,List.map eI q24⟩]) (v':=(i64 q50.1)) [3,4] Aa dp (OK gq50) rfl (by decide) rfl U (.deep (Ar fun _=>U) (.deep (Ar fun _=>U) .nil)) rfl U (.deep (Ar fun _=>U) (.deep (Ar fun _=>U) .nil)) .nil U U (fun hln=>?_)
      have ln51:List.length q50.2.1=List.length q20.decls:=by simpa only[List.length_map] using hln 0 _ _ rfl rfl rfl
      have ln52:List.length q50.2.2=List.length q20.procs:=by simpa only[List.length_map] using hln 1 _ _ rfl rfl rfl
      refine zq tb U (dn hK49 U (sr U fun K53 hK53=>zm tb 2 U (bs h0 fun q54 gq54 h0=>?_)))
      refine CL (rowsP:=[⟨0,3,1,List.map eI q22.out⟩,⟨0,71,3,List.map (Be 3) q22.heap⟩,⟨0,94,6,List.map (BG 3 3 3) q22.AT⟩]) (rows0:=[⟨0,3,1,List.map eI q22.out⟩,⟨0,71,3,List.map (Be 3) q22.heap⟩,⟨0,94,6,List.map (BG 3 3 3) q22.AT⟩]) (rows1:=[⟨0,3,1,List.map eI q54.2.1⟩,⟨0,71,3,List.map (Be 3) q54.2.2.1⟩,⟨0,94,6,List.map (BG 3 3 3) q54.2.2.2⟩]) (rows2:=[]) (rows1':=[⟨0,3,1,List.map eI q54.2.1⟩,⟨0,71,3,List.map (Be 3) q54.2.2.1⟩,⟨0,94,6,List.map (BG 3 3 3) q54.2.2.2⟩]) (rows2':=[]) (st':=[⟨0,25,2,[(Ao p0)]⟩,⟨0,30,7,[(Ah p1)]⟩,⟨0,3,1,List.map eI q18⟩,⟨0,104,3,List.map (BV 155 3) q50.2.1⟩,⟨0,99,5,List.map (BQ 3 3 132 3 3) q50.2.2⟩,⟨0,37,2,[[(.own 3 0 (List.length q20.decls)),(.own 4 0 (List.length q20.procs))]]⟩,⟨0,3,1,List.map eI q54.2.1⟩,⟨0,71,3,List.map (Be 3) q54.2.2.1⟩,⟨0,94,6,List.map (BG 3 3 3) q54.2.2.2⟩,⟨0,42,7,[[(i64 q22.status),(i64 q22.value),(i64 q22.calls),(i64 q22.CV),(.own 6 0 (List.length q22.out)),(.own 7 0 (List.length q22.heap)),(.own 8 0 (List.length q22.AT))]]⟩,⟨0,3,1,List.map eI q24⟩]) (v':=(i64 q54.1)) [6,7,8] Aa dE (OM gq54) rfl (by decide) rfl U (.pure (AL fun _=>U) (.deep (Ar fun _=>U) (.deep (Ar fun _=>U) .nil))) rfl U (.pure (AL fun _=>U) (.deep (Ar fun _=>U) (.deep (Ar fun _=>U) .nil))) .nil U U (fun hln=>?_)
      have ln55:List.length q54.2.1=List.length q22.out:=by simpa only[List.length_map] using hln 0 _ _ rfl rfl rfl
      have ln56:List.length q54.2.2.1=List.length q22.heap:=by simpa only[List.length_map] using hln 1 _ _ rfl rfl rfl
      have ln57:List.length q54.2.2.2=List.length q22.AT:=by simpa only[List.length_map] using hln 2 _ _ rfl rfl rfl
      refine zq tb U (dn hK53 U (AB fun K58 hK58=>AB fun K59 hK59=>bs h0 fun o61 h1 h0=>?_))
      have M61 :∀(t60:Bool),o61=t60→∀s,Wk 0 s ⟨92,AS [(2,(.ptr 0 0 0 0)),(3,(.ptr 1 0 0 0)),(6,(ow 2 0 q18)),(9,(ow 3 0 q24)),(63,(.bool t60))],[⟨0,25,2,[(Ao p0)]⟩,⟨0,30,7,[(Ah p1)]⟩,(ro 0 3 1 eI q18),(ro 0 3 1 eI q24)]⟩→K59 s:=by
       intro t60 hq s hw
       subst o61
       try dsimp only at h0
       refine hK59 _ (AI hw ?_)
       refine ci h0 U ?_ ?_ <;> clear h0
       ·intro b62 h0
        refine zr tb U U ?_
        replace h0:=Sh.AA h0
        subst r
        exact AH (xr (AR [(4,(.bool false))] U))
       ·intro b62 h0
        refine AG (hK58 _ (zr tb U U (sr U fun K65 hK65=>zm tb 2 U (bs h0 fun q66 gq66 h0=>?_))))
        refine CL (rowsP:=[⟨0,3,1,List.map eI q24⟩]) (rows0:=[⟨0,3,1,List.map eI q24⟩]) (rows1:=[⟨0,3,1,List.map eI q66.2⟩]) (rows2:=[]) (rows1':=[⟨0,3,1,List.map eI q66.2⟩]) (rows2':=[]) (st':=[⟨0,25,2,[(Ao p0)]⟩,⟨0,30,7,[(Ah p1)]⟩,⟨0,3,1,List.map eI q18⟩,⟨0,3,1,List.map eI q66.2⟩]) (v':=(i64 q66.1)) [3] Aa MI (CA gq66) rfl (by decide) rfl U (.pure (AL fun _=>U) .nil) rfl U (.pure (AL fun _=>U) .nil) .nil U U (fun hln=>?_)
        have ln67:List.length q66.2=List.length q24:=by simpa only[List.length_map] using hln 0 _ _ rfl rfl rfl
        refine zq tb U (dn hK65 U (zr tb U U (sr U fun K69 hK69=>zm tb 2 U (bs h0 fun q70 gq70 h0=>?_))))
        refine JG (v':=(i64 q70)) Aa av (KO gq70) rfl (.own U (by first | (simp only[Sh.Af];done) | (simp only[Sh.Af];omega) | omega) (fun _=>U) (.val U .nil)) rfl trivial U U ?_
        refine zq tb U (dn hK69 U (AB fun K71 hK71=>zr tb U U ?_))
        refine ci h0 U ?_ ?_ <;> clear h0
        ·intro b73 h0
         refine zr tb U U ?_
         replace h0:=Sh.AA h0
         subst r
         exact AH (xr (AR [(4,(.bool false))] U))
        ·intro b73 h0
         refine AG (hK71 _ (AB fun K75 hK75=>zr tb U U ?_))
         refine ci h0 U ?_ ?_ <;> clear h0
         ·intro b77 h0
          have b78:decide (q70=q66.1)=false:=by simpa using b77
          refine zr tb U U ?_
          replace h0:=Sh.AA h0
          subst r
          exact AH (xr (AR [(4,(.bool false))] U))
         ·intro b77 h0
          have b80:decide (q70=q66.1)=true:=by simpa using b77
          refine AG (hK75 _ (AB fun K81 hK81=>?_))
          refine Cw 4 (by kernel_rfl) (by kernel_rfl) (by rfl) ?_
          refine yq tb U (bs h0 fun q82 gq82 h0=>?_)
          refine E0 (v:=(.agg (Ao q82))) Aa aA (AY.wk (HV gq82) (by refine Wk.trans (E9 (L:=[(0,(.agg [(ls Ad q82.decls),(ow 1 0 q82.procs)]))]) (st':=[⟨1,104,3,[]⟩,(ro 0 99 5 (BQ 3 3 132 3 3) q82.procs)]) (id:=0) rfl (show 0≤0 by decide) (Go.Abs.FB (fun _=>U)) ⟨(.agg ⟨(.HW U (fun x=>Iq x)),.rfl,trivial⟩),trivial⟩ U) ?_;refine Wk.trans (E9 (L:=[(0,(.agg (Ao q82)))]) (st':=[⟨1,104,3,[]⟩,⟨1,99,5,[]⟩]) (id:=1) rfl (show 0≤1 by decide) (Go.Abs.FB (fun _=>U)) ⟨(.agg ⟨.rfl,(.HW U (fun x=>Ij x)),trivial⟩),trivial⟩ U) ?_;refine Wk.trans (AN (L:=[(0,(.agg (Ao q82)))]) (st':=[]) (st1:=[]) [] U .nil (by decide) rfl U .nil ⟨.rfl,trivial⟩) ?_;exact AM (L:=[(0,(.agg (Ao q82)))]) ⟨.rfl,trivial⟩)) rfl U U ?_
          refine yq tb U (bs h0 fun q83 gq83 h0=>?_)
          refine E0 (v:=(.agg (Ah q83))) Aa aD (AY.wk (HT gq83) (by refine Wk.trans (Wk.EW (L:=[(0,(.agg [(i64 q83.status),(i64 q83.value),(i64 q83.calls),(i64 q83.CV),(ls eI q83.out),(ow 1 0 q83.heap),(ow 2 0 q83.AT)]))]) (st':=[⟨1,3,1,[]⟩,(ro 0 71 3 (Be 3) q83.heap),(ro 0 94 6 (BG 3 3 3) q83.AT)]) (id:=0) rfl (show 0≤0 by decide) (AL fun _=>U) ⟨(.agg ⟨.rfl,.rfl,.rfl,.rfl,(.Iz U),.rfl,.rfl,trivial⟩),trivial⟩ U) ?_;refine Wk.trans (E9 (L:=[(0,(.agg [(i64 q83.status),(i64 q83.value),(i64 q83.calls),(i64 q83.CV),(ls eI q83.out),(ls Aj q83.heap),(ow 2 0 q83.AT)]))]) (st':=[⟨1,3,1,[]⟩,⟨1,71,3,[]⟩,(ro 0 94 6 (BG 3 3 3) q83.AT)]) (id:=1) rfl (show 0≤1 by decide) (Go.Abs.FB (fun _=>U)) ⟨(.agg ⟨.rfl,.rfl,.rfl,.rfl,.rfl,(.HW U (fun x=>Jb x)),.rfl,trivial⟩),trivial⟩ U) ?_;refine Wk.trans (E9 (L:=[(0,(.agg (Ah q83)))]) (st':=[⟨1,3,1,[]⟩,⟨1,71,3,[]⟩,⟨1,94,6,[]⟩]) (id:=2) rfl (show 0≤2 by decide) (Go.Abs.FB (fun _=>U)) ⟨(.agg ⟨.rfl,.rfl,.rfl,.rfl,.rfl,.rfl,(.HW U (fun x=>Hc x)),trivial⟩),trivial⟩ U) ?_;refine Wk.trans (AN (L:=[(0,(.agg (Ah q83)))]) (st':=[]) (st1:=[]) [] U .nil (by decide) rfl U .nil ⟨.rfl,trivial⟩) ?_;exact AM (L:=[(0,(.agg (Ah q83)))]) ⟨.rfl,trivial⟩)) rfl U U ?_
          refine BP (bs h0 fun q84 gq84 h0=>BN (v':=(ow 4 0 q84)) Aa aw (Ks gq84) rfl U ⟨(BB fun _=>U),trivial⟩ U U (zq tb U (dn hK81 U (AB fun K85 hK85=>sr U fun K86 hK86=>zm tb 2 U (Al (Wk.EW (L:=[(9,(ow 3 0 q24)),(11,(i64 q66.1)),(80,(ls eI q84)),(81,(ow 2 0 q18))]) (st':=[⟨0,25,2,[(Ao p0)]⟩,⟨0,30,7,[(Ah p1)]⟩,(ro 0 3 1 eI q18),(ro 0 3 1 eI q66.2),⟨1,3,1,[]⟩]) (id:=4) rfl (show 0≤4 by decide) (AL fun _=>U) ⟨.rfl,.rfl,(.EW U),.rfl,trivial⟩ U) (Al (Wk.EW (L:=[(9,(ow 3 0 q24)),(11,(i64 q66.1)),(80,(ls eI q84)),(81,(ls eI q18))]) (st':=[⟨0,25,2,[(Ao p0)]⟩,⟨0,30,7,[(Ah p1)]⟩,⟨1,3,1,[]⟩,(ro 0 3 1 eI q66.2),⟨1,3,1,[]⟩]) (id:=2) rfl (show 0≤2 by decide) (AL fun _=>U) ⟨.rfl,.rfl,.rfl,(.EW U),trivial⟩ U) (bs h0 fun q87 gq87 h0=>zc LR (B5 gq87) rfl U U ?_)))))))
          refine zq tb U (dn hK86 U ?_)
          refine ci h0 U ?_ ?_ <;> clear h0
          ·intro b88 h0
           have b89:q87=false:=by simpa using b88
           refine zr tb U U ?_
           replace h0:=Sh.AA h0
           subst r
           exact AH (xr (AR [(4,(.bool false))] U))
          ·intro b88 h0
           have b91:q87=true:=by simpa using b88
           refine AG (hK85 _ (zr tb U U (sr U fun K93 hK93=>zm tb 2 U ?_)))
           refine Al (Wk.EW (L:=[(11,(i64 q66.1)),(84,(.sl (List.map eI q66.2))),(85,(i64 1))]) (st':=[⟨0,25,2,[(Ao p0)]⟩,⟨0,30,7,[(Ah p1)]⟩,⟨1,3,1,[]⟩,⟨1,3,1,[]⟩,⟨1,3,1,[]⟩]) (id:=3) rfl (show 0≤3 by decide) (AL fun _=>U) ⟨.rfl,(.EW (by first | (simp only[Sh.Af];done) | (simp only[Sh.Af];omega) | omega)),.rfl,trivial⟩ U) ?_
           refine bs h0 fun q94 gq94 h0=>zc av (KO gq94) rfl U U (zq tb U (dn hK93 U (AB fun K95 hK95=>zr tb U U ?_)))
           refine ci h0 U ?_ ?_ <;> clear h0
           ·intro b97 h0
            refine zr tb U U ?_
            replace h0:=Sh.AA h0
            subst r
            exact AH (xr (AR [(4,(.bool false))] U))
           ·intro b97 h0
            refine AG (hK95 _ (AB fun K99 hK99=>zr tb U U ?_))
            refine ci h0 U ?_ ?_ <;> clear h0
            ·intro b101 h0
             have b102:decide (q94=q66.1)=false:=by simpa using b101
             refine zr tb U U ?_
             replace h0:=Sh.AA h0
             subst r
             exact AH (xr (AR [(4,(.bool false))] U))
            ·intro b101 h0
             have b104:decide (q94=q66.1)=true:=by simpa using b101
             refine AG (hK99 _ (zr tb U U ?_))
             replace h0:=Sh.AA h0
             subst r
             exact AH (xr (AR [(4,(.bool true))] U))
      refine AF U (zm tb 3 U ?_)
      rcases Sh.AP h1 with ⟨b106,h1⟩ | ⟨b106,h1⟩
      ·refine zs b106 U ?_
       iterate 3 refine zs b106 rfl ?_
       refine zt b106 U ?_
       exact AD (M61 true (Sh.AA h1).symm _ (by refine Wk.trans (GQ (st:=[⟨0,25,2,[(Ao p0)]⟩,⟨0,30,7,[(Ah p1)]⟩,⟨0,3,1,List.map eI q18⟩,⟨0,104,3,List.map (BV 155 3) q50.2.1⟩,⟨0,99,5,List.map (BQ 3 3 132 3 3) q50.2.2⟩,⟨0,37,2,[[(.own 3 0 (List.length q20.decls)),(.own 4 0 (List.length q20.procs))]]⟩,⟨0,3,1,List.map eI q54.2.1⟩,⟨0,71,3,List.map (Be 3) q54.2.2.1⟩,⟨0,94,6,List.map (BG 3 3 3) q54.2.2.2⟩,⟨0,42,7,[[(i64 q22.status),(i64 q22.value),(i64 q22.calls),(i64 q22.CV),(.own 6 0 (List.length q22.out)),(.own 7 0 (List.length q22.heap)),(.own 8 0 (List.length q22.AT))]]⟩,⟨0,3,1,List.map eI q24⟩]) (st':=[⟨0,25,2,[(Ao p0)]⟩,⟨0,30,7,[(Ah p1)]⟩,⟨0,3,1,List.map eI q18⟩,⟨0,104,3,List.map (BV 155 3) q50.2.1⟩,⟨0,99,5,List.map (BQ 3 3 132 3 3) q50.2.2⟩,⟨0,37,2,[[(.own 3 0 (List.length q50.2.1)),(.own 4 0 (List.length q50.2.2))]]⟩,⟨0,3,1,List.map eI q54.2.1⟩,⟨0,71,3,List.map (Be 3) q54.2.2.1⟩,⟨0,94,6,List.map (BG 3 3 3) q54.2.2.2⟩,⟨0,42,7,[[(i64 q22.status),(i64 q22.value),(i64 q22.calls),(i64 q22.CV),(.own 6 0 (List.length q54.2.1)),(.own 7 0 (List.length q54.2.2.1)),(.own 8 0 (List.length q54.2.2.2))]]⟩,⟨0,3,1,List.map eI q24⟩]) (by first | (simp only[Sh.Af];done) | simp only[Sh.Af,ln51,ln52,ln55,ln56,ln57] | simp only[ln51,ln52,ln55,ln56,ln57])) ?_;exact AN (L:=[(2,(.ptr 0 0 0 0)),(3,(.ptr 1 0 0 0)),(6,(.own 2 0 (List.length q18))),(9,(.own 3 0 (List.length q24))),(63,(.bool true))]) (st':=[⟨0,25,2,[(Ao p0)]⟩,⟨0,30,7,[(Ah p1)]⟩,⟨0,3,1,List.map eI q18⟩,⟨0,3,1,List.map eI q24⟩]) (st1:=[⟨0,25,2,[(Ao p0)]⟩,⟨0,30,7,[(Ah p1)]⟩,⟨0,3,1,List.map eI q18⟩,⟨0,3,1,List.map eI q24⟩]) [0,1,2,10] U .nil (by decide) rfl U (.raw U U (.raw U U (.pure (AL fun _=>U) (.pure (AL fun _=>U) .nil)))) ⟨.rfl,.rfl,.rfl,.rfl,.rfl,trivial⟩))
      ·refine zg tb b106 U (zg tb b106 U (bs h1 fun q107 gq107 h1=>JG (v':=(.bool q107)) (A9 U U b106) LR (B5 gq107) rfl (.own U U (fun _=>U) (.own U U (fun _=>U) .nil)) rfl trivial U U (zg tb b106 U (zf b106 U ?_))))
       exact AD (M61 (!q107) (Sh.AA h1).symm _ (by refine Wk.trans (GQ (st:=[⟨0,25,2,[(Ao p0)]⟩,⟨0,30,7,[(Ah p1)]⟩,⟨0,3,1,List.map eI q18⟩,⟨0,104,3,List.map (BV 155 3) q50.2.1⟩,⟨0,99,5,List.map (BQ 3 3 132 3 3) q50.2.2⟩,⟨0,37,2,[[(.own 3 0 (List.length q20.decls)),(.own 4 0 (List.length q20.procs))]]⟩,⟨0,3,1,List.map eI q54.2.1⟩,⟨0,71,3,List.map (Be 3) q54.2.2.1⟩,⟨0,94,6,List.map (BG 3 3 3) q54.2.2.2⟩,⟨0,42,7,[[(i64 q22.status),(i64 q22.value),(i64 q22.calls),(i64 q22.CV),(.own 6 0 (List.length q22.out)),(.own 7 0 (List.length q22.heap)),(.own 8 0 (List.length q22.AT))]]⟩,⟨0,3,1,List.map eI q24⟩]) (st':=[⟨0,25,2,[(Ao p0)]⟩,⟨0,30,7,[(Ah p1)]⟩,⟨0,3,1,List.map eI q18⟩,⟨0,104,3,List.map (BV 155 3) q50.2.1⟩,⟨0,99,5,List.map (BQ 3 3 132 3 3) q50.2.2⟩,⟨0,37,2,[[(.own 3 0 (List.length q50.2.1)),(.own 4 0 (List.length q50.2.2))]]⟩,⟨0,3,1,List.map eI q54.2.1⟩,⟨0,71,3,List.map (Be 3) q54.2.2.1⟩,⟨0,94,6,List.map (BG 3 3 3) q54.2.2.2⟩,⟨0,42,7,[[(i64 q22.status),(i64 q22.value),(i64 q22.calls),(i64 q22.CV),(.own 6 0 (List.length q54.2.1)),(.own 7 0 (List.length q54.2.2.1)),(.own 8 0 (List.length q54.2.2.2))]]⟩,⟨0,3,1,List.map eI q24⟩]) (by first | (simp only[Sh.Af];done) | simp only[Sh.Af,ln51,ln52,ln55,ln56,ln57] | simp only[ln51,ln52,ln55,ln56,ln57])) ?_;exact AN (L:=[(2,(.ptr 0 0 0 0)),(3,(.ptr 1 0 0 0)),(6,(.own 2 0 (List.length q18))),(9,(.own 3 0 (List.length q24))),(63,(.bool (!q107)))]) (st':=[⟨0,25,2,[(Ao p0)]⟩,⟨0,30,7,[(Ah p1)]⟩,⟨0,3,1,List.map eI q18⟩,⟨0,3,1,List.map eI q24⟩]) (st1:=[⟨0,25,2,[(Ao p0)]⟩,⟨0,30,7,[(Ah p1)]⟩,⟨0,3,1,List.map eI q18⟩,⟨0,3,1,List.map eI q24⟩]) [0,1,2,10] U .nil (by decide) rfl U (.raw U U (.raw U U (.pure (AL fun _=>U) (.pure (AL fun _=>U) .nil)))) ⟨.rfl,.rfl,.rfl,.rfl,.rfl,trivial⟩))
end Go.Proofs.YtobjlimoekffaaaGreat

