import Derived.Test.YtobjlimoekffaaaGreatProg
import Derived.Test.YtobjlimoekffaaaGreatGEncCToNCDefs
import Derived.Test.YtobjlimoekffaaaGreatNCWalkP2
namespace Go.Proofs.YtobjlimoekffaaaGreat
open Go Go.Abs RC
attribute [local irreducible] Go.Abs.DE
set_option maxRecDepth 100000
set_option maxHeartbeats 4000000

theorem aK:AZ Tryz.prog 10=true:=by kernel_rfl
theorem bd:AZ Tryz.prog 104=true:=by kernel_rfl
theorem ab:AZ Tryz.prog 107=true:=by kernel_rfl
theorem bR:AZ Tryz.prog 108=true:=by kernel_rfl
theorem LG:AZ Tryz.prog 11=true:=by kernel_rfl
theorem dt:AZ Tryz.prog 12=true:=by kernel_rfl
theorem bG:AZ Tryz.prog 129=true:=by kernel_rfl
theorem eC:AZ Tryz.prog 13=true:=by kernel_rfl
theorem bb:AZ Tryz.prog 130=true:=by kernel_rfl
theorem dr:AZ Tryz.prog 14=true:=by kernel_rfl
theorem dc:AZ Tryz.prog 15=true:=by kernel_rfl
theorem Lu:AZ Tryz.prog 16=true:=by kernel_rfl
theorem aN:AZ Tryz.prog 17=true:=by kernel_rfl
theorem dD:AZ Tryz.prog 33=true:=by kernel_rfl
theorem eJ:AZ Tryz.prog 34=true:=by kernel_rfl
theorem eZ:AZ Tryz.prog 35=true:=by kernel_rfl
theorem dI:AZ Tryz.prog 36=true:=by kernel_rfl
theorem eR:AZ Tryz.prog 37=true:=by kernel_rfl
theorem eF:AZ Tryz.prog 38=true:=by kernel_rfl
theorem eN:AZ Tryz.prog 39=true:=by kernel_rfl
theorem cW:AZ Tryz.prog 40=true:=by kernel_rfl
theorem da:AZ Tryz.prog 41=true:=by kernel_rfl
theorem eQ:AZ Tryz.prog 42=true:=by kernel_rfl
theorem et:AZ Tryz.prog 5=true:=by kernel_rfl
theorem ey:AZ Tryz.prog 6=true:=by kernel_rfl
theorem ck:AZ Tryz.prog 67=true:=by kernel_rfl
theorem dV:AZ Tryz.prog 68=true:=by kernel_rfl
theorem eP:AZ Tryz.prog 69=true:=by kernel_rfl
theorem fA:AZ Tryz.prog 7=true:=by kernel_rfl
theorem dH:AZ Tryz.prog 70=true:=by kernel_rfl
theorem cx:AZ Tryz.prog 71=true:=by kernel_rfl
theorem dF:AZ Tryz.prog 72=true:=by kernel_rfl
theorem cX:AZ Tryz.prog 73=true:=by kernel_rfl
theorem dG:AZ Tryz.prog 74=true:=by kernel_rfl
theorem Zh:AZ Tryz.prog 8=true:=by kernel_rfl
theorem ZU:AZ Tryz.prog 9=true:=by kernel_rfl

theorem Pc {N:Nat} {p0:(List Cell)} {p1:(List Int)} {r:(List Int)} (h0:Gm N p0 p1=some r):AY Tryz.prog 68 [(ls Ak p0),(ls eI p1)] [] (fun v st=>v=(ow 0 0 r)∧st=[(ro 0 3 1 eI r)]):=by
 unfold Gm at h0
 refine ai Tryz.func68 U U U U (zr tb U U (AB fun K2 hK2=>sr U fun K3 hK3=>zq tb U (bs h0 fun q4 gq4 h0=>zc bd (Nw gq4) rfl U U (zq tb U (dn hK3 U ?_)))))
 refine ci h0 U ?_ ?_ <;> clear h0
 ·intro b5 h0
  have b6:q4=false:=by simpa using b5
  refine zr tb U U ?_
  replace h0:=Sh.AA h0
  subst r
  exact AH (Exists.intro _ (And.intro (((Ey (t:=4) rfl 3 (size:=1) (by decide)).trans (AM (L:=[(4,(.own 0 0 (List.length ([]:List Int))))]) ⟨.rfl,trivial⟩)).trans (AM (L:=[(4,(.own 0 0 (List.length ([]:List Int))))]) ⟨.rfl,trivial⟩)) (And.intro U U)))
 ·intro b5 h0
  have b8:q4=true:=by simpa using b5
  refine AG (hK2 _ (sr U fun K9 hK9=>zq tb U (zl tb U U (bs h0 fun l10 gl10 h0=>GU (m:=0) (enc:=eB) (u:=false) Aa Ii U U U gl10 U U (zq tb U (dn hK9 U (sr U fun K11 hK11=>zq tb U (bs h0 fun q12 gq12 h0=>BL (v':=(ow 1 0 q12)) Aa Y4 (HU gq12) rfl U ⟨(BD fun _=>U),trivial⟩ U U ?_))))))))
  refine zq tb U (dn hK11 U (AB fun K13 hK13=>bs h0 fun o17 h1 h0=>?_))
  have M17 :∀(l16:(List Bool)),o17=l16→∀s,Wk 0 s ⟨56,AS [(5,(ow 0 0 l16))],[(ro 0 4 1 eB l16)]⟩→K13 s:=by
   intro l16 hq s hw
   subst o17
   try dsimp only at h0
   refine hK13 _ (AI hw (sr U fun K18 hK18=>zq tb U (An (Wk.Eb (L:=[(54,(ls eB l16))]) (st':=[⟨1,4,1,[]⟩]) (id:=0) rfl (show 0≤0 by decide) (AL fun _=>U) ⟨(.Eb U),trivial⟩ U) (bs h0 fun q19 gq19 h0=>BL (v':=(ow 1 0 q19)) Aa ZO (Jt gq19) rfl U ⟨(BD fun _=>U),trivial⟩ U U (zq tb U (dn hK18 U ?_))))))
   replace h0:=Sh.AA h0
   subst r
   exact AH (xr (AP (L:=[(4,(ow 0 0 q19))]) (st':=[(ro 0 3 1 eI q19)]) (st1:=[(ro 0 3 1 eI q19)]) [1] U .nil (by decide) rfl U (.pure (AL fun _=>U) .nil) ⟨.rfl,trivial⟩))
  refine AJ (AX (σ:=(List Bool)×(List Int)) (fun n v=>C0 p0 n v.1 v.2=some o17) (fun (l14,l15)=>⟨56,AS [(0,(ls Ak p0)),(5,(ow 0 0 l14)),(6,(ow 1 0 l15))],[(ro 0 4 1 eB l14),(ro 0 3 1 eI l15)]⟩) N (l10,q12) h1 (AE U) (fun _ hv=>by rw[C0] at hv;cases hv) ?_)
  rintro n ⟨l14,l15⟩ h1
  try dsimp only at h1 ⊢
  rw[C0] at h1
  refine AB fun K20 hK20=>sr U fun K21 hK21=>zq tb U (zz (i64 (Sh.len l15)) (Df EA U U U) rfl (zq tb U (dn hK21 U ?_)))
  refine ci h1 U ?_ ?_ <;> clear h1
  ·intro b22 h1
   refine AG (hK20 _ (AJ (sr U fun K23 hK23=>zm tb 3 U (zz (i64 (Sh.len l15)) (Df EA U U U) rfl (zq tb U (bs h1 fun c24 gc24 h1=>zz (.ptr 1 0 (Int.toNat (Sh.w ((Sh.len l15) - 1))) 0) (BB A2 U U U U gc24) rfl (zz (i64 c24) (Be EB U U (Bo gc24) rfl) rfl (bs h1 fun q25 gq25 h1=>zc (v':=(.DV [(i64 q25.1),(.bool q25.2)])) SH (Gj gq25) rfl U U (zm tb 5 U ?_)))))))))
   refine dn hK23 U (sr U fun K26 hK26=>zm tb 2 U (zz (i64 (Sh.len l15)) (Df EA U U U) rfl (zq tb U (bs h1 fun l27 gl27 h1=>Td Aa A2 U U U U gl27 U (zq tb U (dn hK26 U (AB fun K28 hK28=>bs h1 fun o30 h2 h1=>?_)))))))
   have M30 :∀(t29:Bool),o30=t29→∀s,Wk 0 s ⟨56,AS [(0,(ls Ak p0)),(5,(ow 0 0 l14)),(6,(ow 1 0 l27)),(7,(i64 q25.1)),(43,(.bool t29))],[(ro 0 4 1 eB l14),(ro 0 3 1 eI l27)]⟩→K28 s:=by
    intro t29 hq s hw
    subst o30
    try dsimp only at h1
    refine hK28 _ (AI hw ?_)
    refine ci h1 U ?_ ?_ <;> clear h1
    ·intro b31 h1
     refine sr U fun K32 hK32=>zm tb 2 U (bs h1 fun c33 gc33 h1=>zz (.ptr 0 0 (Int.toNat q25.1) 0) (BB Ii U U U U gc33) rfl (Cx (u':=true) Aa Qg U U gc33 U U U (show 0+1≤1 by decide) rfl U (dn hK32 U (AF U (zm tb 3 U (bs h1 fun c34 gc34 h1=>zx FR gc34 U U U (zm tb 2 U (bs h1 fun l35 gl35 h1=>?_))))))))
     refine FD (l2:=c34.fields) Aa A2 U U U U TF (fun _=>U) gl35 U (zq tb U ?_)
     exact AD (xi (Sh.put l14 q25.1 true,l35) h1 (by refine Wk.trans (DI (L:=[(0,(.sl (List.map Ak p0))),(5,(.own 0 0 (List.length l14))),(6,(.own 1 0 (List.length l35)))]) (st':=[⟨0,4,1,List.map eB (Sh.put l14 q25.1 true)⟩,⟨0,3,1,List.map eI l35⟩]) (.pure (AL fun _=>U) (.pure (AL fun _=>U) .nil)) ⟨.rfl,.rfl,.rfl,trivial⟩) ?_;exact AM (L:=[(0,(.sl (List.map Ak p0))),(5,(.own 0 0 (List.length (Sh.put l14 q25.1 true)))),(6,(.own 1 0 (List.length l35)))]) ⟨.rfl,(.len (by simp only[Sh.Af])),.rfl,trivial⟩))
    ·intro b31 h1
     exact AG (xi (l14,l27) h1 (AE U))
   refine AF U (zm tb 2 U ?_)
   rcases Sh.AN h2 with ⟨b36,h2⟩ | ⟨b36,h2⟩
   ·exact zg tb b36 U (zg tb b36 U (bs h2 fun c37 gc37 h2=>A5 (v:=(.ptr 0 0 (Int.toNat q25.1) 0)) (A9 U U b36) rfl (BB Ii U U U U gc37) (A5 (v:=(.bool c37)) (A9 U U b36) rfl (Be Qg U U (Bo gc37) rfl) (zg tb b36 U (zt b36 U (AD (M30 (!c37) (Sh.AA h2).symm _ (DI (L:=[(0,(ls Ak p0)),(5,(ow 0 0 l14)),(6,(ow 1 0 l27)),(7,(i64 q25.1)),(43,(.bool (!c37)))]) (st':=[(ro 0 4 1 eB l14),(ro 0 3 1 eI l27)]) (.pure (AL fun _=>U) (.pure (AL fun _=>U) .nil)) ⟨.rfl,.rfl,.rfl,.rfl,.rfl,trivial⟩))))))))
   ·refine zs b36 U ?_
    iterate 4 refine zs b36 rfl ?_
    exact zf b36 U (AD (M30 false (Sh.AA h2).symm _ (DI (L:=[(0,(ls Ak p0)),(5,(ow 0 0 l14)),(6,(ow 1 0 l27)),(7,(i64 q25.1)),(43,(.bool false))]) (st':=[(ro 0 4 1 eB l14),(ro 0 3 1 eI l27)]) (.pure (AL fun _=>U) (.pure (AL fun _=>U) .nil)) ⟨.rfl,.rfl,.rfl,.rfl,.rfl,trivial⟩)))
  ·intro b22 h1
   exact Ad (M17 l14 (Sh.AA h1).symm _ (AP (L:=[(5,(ow 0 0 l14))]) (st':=[(ro 0 4 1 eB l14)]) (st1:=[(ro 0 4 1 eB l14)]) [0] U .nil (by decide) rfl U (.pure (AL fun _=>U) .nil) ⟨.rfl,trivial⟩))
theorem MM {N:Nat} {p0:At} {p1:Ay} {r:(List Int)} (h0:FW N p0 p1=some r):AY Tryz.prog 34 [(.agg (Ao p0)),(.agg (Aj p1))] [] (fun v st=>v=(ow 0 0 r)∧st=[(ro 0 3 1 eI r)]):=by
 unfold FW at h0
 refine ai Tryz.func34 U U U U (sr U fun K1 hK1=>A7 (m:=0) Aa U U U U U (A7 (m:=1) Aa U U U U U (zq tb U (dn hK1 U (zr tb U U (AB fun K3 hK3=>sr U fun K4 hK4=>zm tb 2 U (zl tb U U (zq tb U ?_))))))))
 refine dn hK4 U (bs h0 fun o8 h1 h0=>?_)
 have M8 :∀(l7:(List Int)),o8=l7→∀s,Wk 0 s ⟨60,AS [(3,(.ptr 0 0 0 0)),(5,(ow 1 0 l7))],[⟨0,42,7,[(Aj p1)]⟩,(ro 0 3 1 eI l7)]⟩→K3 s:=by
  intro l7 hq s hw
  subst o8
  try dsimp only at h0
  refine hK3 _ (AI hw (sr U fun K9 hK9=>zm tb 3 U (An (Wk.Eb (L:=[(57,(ls Ak p1.heap)),(58,(ls eI l7))]) (st':=[⟨0,42,7,[(Aj p1)]⟩,⟨1,3,1,[]⟩]) (id:=1) rfl (show 0≤1 by decide) (AL fun _=>U) ⟨.rfl,(.Eb U),trivial⟩ U) (bs h0 fun q10 gq10 h0=>BL (v':=(ow 2 0 q10)) Aa dV (Pc gq10) rfl U ⟨(BD fun _=>U),trivial⟩ U U (zq tb U (dn hK9 U ?_))))))
  replace h0:=Sh.AA h0
  subst r
  exact AH (xr (AP (L:=[(4,(ow 0 0 q10))]) (st':=[(ro 0 3 1 eI q10)]) (st1:=[(ro 0 3 1 eI q10)]) [2] U .nil (by decide) rfl U (.pure (AL fun _=>U) .nil) ⟨.rfl,trivial⟩))
 refine AJ (AX (σ:=Int×(List Int)) (fun n v=>Cd N p0 p1 n v.1 v.2=some o8) (fun (t5,l6)=>⟨60,AS [(2,(.ptr 0 0 0 0)),(3,(.ptr 1 0 0 0)),(5,(ow 2 0 l6)),(11,(ls Aw p1.AT)),(12,(i64 (Sh.len p1.AT))),(13,(i64 t5))],[⟨0,37,2,[(Ao p0)]⟩,⟨0,42,7,[(Aj p1)]⟩,(ro 0 3 1 eI l6)]⟩) N (0,[]) h1 ((Ey (t:=5) rfl 3 (size:=1) (by decide)).trans (AM (L:=[(2,(.ptr 0 0 0 0)),(3,(.ptr 1 0 0 0)),(5,(.own 2 0 (List.length ([]:List Int)))),(11,(ls Aw p1.AT)),(12,(i64 (Sh.len p1.AT))),(13,(i64 0))]) ⟨.rfl,.rfl,.rfl,.rfl,.rfl,.rfl,trivial⟩)) (fun _ hv=>by rw[Cd] at hv;cases hv) ?_)
 rintro n ⟨t5,l6⟩ h1
 try dsimp only at h1 ⊢
 rw[Cd] at h1
 refine zr tb U U (AB fun K12 hK12=>?_)
 refine ci h1 U ?_ ?_ <;> clear h1
 ·intro b13 h1
  refine AG (hK12 _ (AB fun K14 hK14=>AJ (sr U fun K15 hK15=>zq tb U (bs h1 fun c16 gc16 h1=>zx GR gc16 U U U (zq tb U (BG (m:=3) Aa Rf U U (zq tb U (A8 Aa QH U U U U U U (show 0+6≤6 by decide) rfl (dn hK15 U ?_)))))))))
  refine sr U fun K17 hK17=>zm tb 5 U (bs h1 fun q18 gq18 h1=>BL (v':=(ow 4 0 q18)) Aa ck (Oc gq18) rfl U ⟨(BD fun _=>U),trivial⟩ U U (zz (i64 (Sh.len q18)) (Df EA U U U) rfl (zq tb U (dn hK17 U (bs h1 fun o22 h2 h1=>?_)))))
  have M22 :∀(l21:(List Int)),o22=l21→∀s,Wk 0 s ⟨60,AS [(2,(.ptr 0 0 0 0)),(3,(.ptr 1 0 0 0)),(5,(ow 2 0 l21)),(11,(ls Aw p1.AT)),(12,(i64 (Sh.len p1.AT))),(13,(i64 t5))],[⟨0,37,2,[(Ao p0)]⟩,⟨0,42,7,[(Aj p1)]⟩,(ro 0 3 1 eI l21)]⟩→K14 s:=by
   intro l21 hq s hw
   subst o22
   try dsimp only at h1
   exact hK14 _ (AI hw (AF U (zm tb 2 U (AD (xi (Sh.w (t5+1),l21) h1 (AE U))))))
  refine AJ (AX (σ:=Int×(List Int)) (fun n v=>CH c16 p1 q18 t5 n v.1 v.2=some o22) (fun (t19,l20)=>⟨60,AS [(2,(.ptr 0 0 0 0)),(3,(.ptr 1 0 0 0)),(5,(ow 2 0 l20)),(6,(i64 t5)),(7,(.ptr 3 0 0 0)),(11,(ls Aw p1.AT)),(12,(i64 (Sh.len p1.AT))),(13,(i64 t5)),(23,(ow 4 0 q18)),(24,(i64 (Sh.len q18))),(25,(i64 t19))],[⟨0,37,2,[(Ao p0)]⟩,⟨0,42,7,[(Aj p1)]⟩,(ro 0 3 1 eI l20),⟨0,94,6,[(Aw c16)]⟩,(ro 0 3 1 eI q18)]⟩) N (0,l6) h2 (AE U) (fun _ hv=>by rw[CH] at hv;cases hv) ?_)
  rintro n ⟨t19,l20⟩ h2
  try dsimp only at h2 ⊢
  rw[CH] at h2
  refine zr tb U U (AB fun K24 hK24=>?_)
  refine ci h2 U ?_ ?_ <;> clear h2
  ·intro b25 h2
   refine AG (hK24 _ (AB fun K26 hK26=>bs h2 fun o28 h3 h2=>?_))
   have M28 :∀(l27:(List Int)),o28=l27→∀s,Wk 0 s ⟨60,AS [(2,(.ptr 0 0 0 0)),(3,(.ptr 1 0 0 0)),(5,(ow 2 0 l27)),(6,(i64 t5)),(7,(.ptr 3 0 0 0)),(11,(ls Aw p1.AT)),(12,(i64 (Sh.len p1.AT))),(13,(i64 t5)),(23,(ow 4 0 q18)),(24,(i64 (Sh.len q18))),(25,(i64 t19))],[⟨0,37,2,[(Ao p0)]⟩,⟨0,42,7,[(Aj p1)]⟩,(ro 0 3 1 eI l27),⟨0,94,6,[(Aw c16)]⟩,(ro 0 3 1 eI q18)]⟩→K26 s:=by
    intro l27 hq s hw
    subst o28
    try dsimp only at h2
    exact hK26 _ (AI hw (AF U (zm tb 2 U (AD (xi (Sh.w (t19+1),l27) h2 (AE U))))))
   refine AJ (sr U fun K29 hK29=>bs h3 fun c30 gc30 h3=>zz (.ptr 4 0 (Int.toNat t19) 0) (BB A2 U U U U gc30) rfl (zz (i64 c30) (Be EB U U (Bo gc30) rfl) rfl (zq tb U (dn hK29 U (AB fun K31 hK31=>bs h3 fun o33 h4 h3=>?_)))))
   have M33 :∀(t32:Bool),o33=t32→∀s,Wk 0 s ⟨60,AS [(2,(.ptr 0 0 0 0)),(3,(.ptr 1 0 0 0)),(5,(ow 2 0 l20)),(6,(i64 t5)),(7,(.ptr 3 0 0 0)),(9,(i64 c30)),(11,(ls Aw p1.AT)),(12,(i64 (Sh.len p1.AT))),(13,(i64 t5)),(23,(ow 4 0 q18)),(24,(i64 (Sh.len q18))),(25,(i64 t19)),(45,(.bool t32))],[⟨0,37,2,[(Ao p0)]⟩,⟨0,42,7,[(Aj p1)]⟩,(ro 0 3 1 eI l20),⟨0,94,6,[(Aw c16)]⟩,(ro 0 3 1 eI q18)]⟩→K31 s:=by
    intro t32 hq s hw
    subst o33
    try dsimp only at h3
    refine hK31 _ (AI hw ?_)
    refine ci h3 U ?_ ?_ <;> clear h3
    ·intro b34 h3
     refine AF U (zm tb 4 U (bs h3 fun c35 gc35 h3=>zx A2 gc35 U U U (zq tb U ?_)))
     refine D0 (m:=5) (l:=[c35]) (enc:=eI) Aa A2 (by decide) rfl U U U U U ?_
     refine bs h3 fun l36 gl36 h3=>FD (l2:=[c35]) Aa A2 U U U U (Kn U U) (fun _=>U) gl36 U (zq tb U ?_)
     exact AD (M28 l36 (Sh.AA h3).symm _ (by refine Wk.trans (DI (L:=[(2,(.ptr 0 0 0 0)),(3,(.ptr 1 0 0 0)),(5,(ow 2 0 l36)),(6,(i64 t5)),(7,(.ptr 3 0 0 0)),(11,(ls Aw p1.AT)),(12,(i64 (Sh.len p1.AT))),(13,(i64 t5)),(23,(ow 4 0 q18)),(24,(i64 (Sh.len q18))),(25,(i64 t19))]) (st':=[⟨0,37,2,[(Ao p0)]⟩,⟨0,42,7,[(Aj p1)]⟩,(ro 0 3 1 eI l36),⟨0,94,6,[(Aw c16)]⟩,(ro 0 3 1 eI q18),(ro 0 3 1 eI [c35])]) (.raw U U (.raw U U (.pure (AL fun _=>U) (.raw U U (.pure (AL fun _=>U) (.pure (AL fun _=>U) .nil)))))) ⟨.rfl,.rfl,.rfl,.rfl,.rfl,.rfl,.rfl,.rfl,.rfl,.rfl,.rfl,trivial⟩) ?_;exact AP (L:=[(2,(.ptr 0 0 0 0)),(3,(.ptr 1 0 0 0)),(5,(ow 2 0 l36)),(6,(i64 t5)),(7,(.ptr 3 0 0 0)),(11,(ls Aw p1.AT)),(12,(i64 (Sh.len p1.AT))),(13,(i64 t5)),(23,(ow 4 0 q18)),(24,(i64 (Sh.len q18))),(25,(i64 t19))]) (st':=[⟨0,37,2,[(Ao p0)]⟩,⟨0,42,7,[(Aj p1)]⟩,(ro 0 3 1 eI l36),⟨0,94,6,[(Aw c16)]⟩,(ro 0 3 1 eI q18)]) (st1:=[⟨0,37,2,[(Ao p0)]⟩,⟨0,42,7,[(Aj p1)]⟩,(ro 0 3 1 eI l36),⟨0,94,6,[(Aw c16)]⟩,(ro 0 3 1 eI q18)]) [0,1,2,3,4] U .nil (by decide) rfl U (.raw U U (.raw U U (.pure (AL fun _=>U) (.raw U U (.pure (AL fun _=>U) .nil))))) ⟨.rfl,.rfl,.rfl,.rfl,.rfl,.rfl,.rfl,.rfl,.rfl,.rfl,.rfl,trivial⟩))
    ·intro b34 h3
     exact AG (M28 l20 (Sh.AA h3).symm _ (AE U))
   refine AF U (zm tb 3 U (zl tb U U (zm tb 3 U ?_)))
   rcases Sh.AN h4 with ⟨b37,h4⟩ | ⟨b37,h4⟩
   ·refine zs b37 U ?_
    iterate 8 refine zs b37 rfl ?_
    exact zt b37 U (AD (M33 true (Sh.AA h4).symm _ (AE U)))
   ·refine zg tb b37 U ?_
    iterate 4 refine zg tb b37 rfl ?_
    refine bs h4 fun c38 gc38 h4=>A5 (v:=(.Bh (Aw c38) 0)) (A9 U U b37) rfl (Bg GR U U gc38 U) ?_
    iterate 3 refine zg tb b37 rfl ?_
    exact zf b37 U (AD (M33 (!decide (c30=c38.dst)) (Sh.AA h4).symm _ (AE U)))
  ·intro b25 h2
   exact Ad (M22 l20 (Sh.AA h2).symm _ (AP (L:=[(2,(.ptr 0 0 0 0)),(3,(.ptr 1 0 0 0)),(5,(ow 2 0 l20)),(11,(ls Aw p1.AT)),(12,(i64 (Sh.len p1.AT))),(13,(i64 t5))]) (st':=[⟨0,37,2,[(Ao p0)]⟩,⟨0,42,7,[(Aj p1)]⟩,(ro 0 3 1 eI l20)]) (st1:=[⟨0,37,2,[(Ao p0)]⟩,⟨0,42,7,[(Aj p1)]⟩,(ro 0 3 1 eI l20)]) [0,1,2] U .nil (by decide) rfl U (.raw U U (.raw U U (.pure (AL fun _=>U) .nil))) ⟨.rfl,.rfl,.rfl,.rfl,.rfl,.rfl,trivial⟩))
 ·intro b13 h1
  exact Ad (M8 l6 (Sh.AA h1).symm _ (AP (L:=[(3,(.ptr 0 0 0 0)),(5,(ow 1 0 l6))]) (st':=[⟨0,42,7,[(Aj p1)]⟩,(ro 0 3 1 eI l6)]) (st1:=[⟨0,42,7,[(Aj p1)]⟩,(ro 0 3 1 eI l6)]) [1,2] U .nil (by decide) rfl U (.raw U U (.pure (AL fun _=>U) .nil)) ⟨.rfl,.rfl,trivial⟩))
theorem JG {N:Nat} {p0:At} {p1:Ay} {r:(List Int)} (h0:E3 N p0 p1=some r):AY Tryz.prog 10 [(.agg (Ao p0)),(.agg (Aj p1))] [] (fun v st=>v=(ow 0 0 r)∧st=[(ro 0 3 1 eI r)]):=by
 unfold E3 at h0
 refine ai Tryz.func10 U U U U (sr U fun K1 hK1=>A7 (m:=0) Aa U U U U U (A7 (m:=1) Aa U U U U U (zq tb U (dn hK1 U (AB fun K2 hK2=>sr U fun K3 hK3=>zm tb 2 U (bs h0 fun q4 gq4 h0=>zc dD (Mw gq4) rfl U U (zq tb U ?_)))))))
 refine dn hK3 U ?_
 refine ci h0 U ?_ ?_ <;> clear h0
 ·intro b5 h0
  have b6:q4=false:=by simpa using b5
  refine zr tb U U ?_
  replace h0:=Sh.AA h0
  subst r
  exact AH (Exists.intro _ (And.intro ((((Ey (t:=4) rfl 3 (size:=1) (by decide)).trans (AM (L:=[(4,(.own 2 0 (List.length ([]:List Int))))]) ⟨.rfl,trivial⟩)).trans (AP (L:=[(4,(.own 0 0 (List.length ([]:List Int))))]) (st':=[(ro 0 3 1 eI ([]:List Int))]) (st1:=[(ro 0 3 1 eI ([]:List Int))]) [2] U .nil (by decide) rfl U (.pure (AL fun _=>U) .nil) ⟨.rfl,trivial⟩)).trans (AM (L:=[(4,(.own 0 0 (List.length ([]:List Int))))]) ⟨.rfl,trivial⟩)) (And.intro U U)))
 ·intro b5 h0
  have b8:q4=true:=by simpa using b5
  refine AG (hK2 _ (sr U fun K9 hK9=>zm tb 2 U (bs h0 fun q10 gq10 h0=>BL (v':=(ow 2 0 q10)) Aa eJ (MM gq10) rfl U ⟨(BD fun _=>U),trivial⟩ U U (zq tb U (dn hK9 U ?_)))))
  replace h0:=Sh.AA h0
  subst r
  exact AH (xr (AP (L:=[(4,(ow 0 0 q10))]) (st':=[(ro 0 3 1 eI q10)]) (st1:=[(ro 0 3 1 eI q10)]) [2] U .nil (by decide) rfl U (.pure (AL fun _=>U) .nil) ⟨.rfl,trivial⟩))
theorem B4 {N:Nat} {p0:(List Int)} {p1:(List Int)} {r:Bool} (h0:CE N p0 p1=some r):AY Tryz.prog 11 [(ls eI p0),(ls eI p1)] [] (fun v st=>v=(.bool r)∧st=[]):=by
 unfold CE at h0
 refine ai Tryz.func11 U U U U (zr tb U U (AB fun K2 hK2=>sr U fun K3 hK3=>zq tb U (zl tb U U (zq tb U (zl tb U U (zq tb U (dn hK3 U ?_)))))))
 refine ci h0 U ?_ ?_ <;> clear h0
 ·intro b4 h0
  have b5:decide ((Sh.len p0)=(Sh.len p1))=false:=by simpa using b4
  refine zr tb U U ?_
  replace h0:=Sh.AA h0
  subst r
  exact AH (xr (AM (L:=[(4,(.bool false))]) ⟨.rfl,trivial⟩))
 ·intro b4 h0
  have b7:decide ((Sh.len p0)=(Sh.len p1))=true:=by simpa using b4
  refine AG (hK2 _ (AB fun K8 hK8=>zr tb U U ?_))
  obtain⟨o11,h1,h0⟩:=Sh.A1 h0
  have M11 :∀(_:Unit),o11=Sum.inr ()→∀s,Wk 0 s ⟨26,AS [],[]⟩→K8 s:=by
   intro _ hq s hw
   subst o11
   try dsimp only at h0
   refine hK8 _ (AI hw (zr tb U U ?_))
   replace h0:=Sh.AA h0
   subst r
   exact AH (xr (AM (L:=[(4,(.bool true))]) ⟨.rfl,trivial⟩))
  refine AJ (AX (σ:=Int) (fun n v=>D3 p0 p1 n v=some o11) (fun i10=>⟨26,AS [(0,(ls eI p0)),(1,(ls eI p1)),(5,(i64 i10))],[]⟩) N 0 h1 (AE U) (fun _ hv=>by rw[D3] at hv;cases hv) ?_)
  rintro n i10 h1
  try dsimp only at h1 ⊢
  rw[D3] at h1
  refine AB fun K13 hK13=>sr U fun K14 hK14=>zm tb 2 U (zl tb U U (zq tb U (dn hK14 U ?_)))
  refine ci h1 U ?_ ?_ <;> clear h1
  ·intro b15 h1
   refine AG (hK13 _ (AB fun K16 hK16=>AJ (AB fun K17 hK17=>?_)))
   refine B0 (by kernel_rfl) (by kernel_rfl) (by rfl) ?_
   iterate 2 refine yq tb rfl ?_
   refine bs h1 fun c18 gc18 h1=>yx A2 gc18 U U U ?_
   iterate 3 refine yq tb rfl ?_
   refine bs h1 fun c19 gc19 h1=>yx A2 gc19 U U U ?_
   iterate 2 refine yq tb rfl ?_
   refine BQ (hK17 _ ?_)
   refine ci h1 U ?_ ?_ <;> clear h1
   ·intro b20 h1
    have b21:decide (c18=c19)=false:=by simpa using b20
    refine zr tb U U ?_
    replace h1:=Sh.AA h1
    subst o11
    try dsimp only[id] at h0
    replace h0:=Sh.AA h0
    subst r
    exact AH (xr (AM (L:=[(4,(.bool false))]) ⟨.rfl,trivial⟩))
   ·intro b20 h1
    have b23:decide (c18=c19)=true:=by simpa using b20
    exact AG (hK16 _ (AF U (zm tb 3 U (AD (xi (Sh.w (i10+1)) h1 (AE U))))))
  ·intro b15 h1
   exact Ad (M11 () (Sh.AA h1).symm _ (AE U))
theorem RW {N:Nat} {p0:Bw} {p1:Bw} {r:Bool} (h0:JU N p0 p1=some r):AY Tryz.prog 129 [(.agg (D1 p0)),(.agg (D1 p1))] [] (fun v st=>v=(.bool r)∧st=[]):=by
 unfold JU at h0
 refine ai Tryz.func129 U U U U (sr U fun K1 hK1=>A7 (m:=0) Aa U U U U U (A7 (m:=1) Aa U U U U U (zq tb U (dn hK1 U (AB fun K2 hK2=>sr U fun K3 hK3=>zm tb 4 U (bs h0 fun q4 gq4 h0=>zc LG (B4 gq4) rfl U U (zq tb U ?_)))))))
 refine dn hK3 U ?_
 refine ci h0 U ?_ ?_ <;> clear h0
 ·intro b5 h0
  have b6:q4=false:=by simpa using b5
  refine zr tb U U ?_
  replace h0:=Sh.AA h0
  subst r
  exact AH (xr (AR [(4,(.bool false))] U))
 ·intro b5 h0
  have b8:q4=true:=by simpa using b5
  refine AG (hK2 _ (zr tb U U ?_))
  replace h0:=Sh.AA h0
  subst r
  exact AH (xr (AR [(4,(.bool true))] U))
theorem QQ {N:Nat} {p0:(List Bw)} {p1:(List Bw)} {r:Bool} (h0:IZ N p0 p1=some r):AY Tryz.prog 107 [(ls D1 p0),(ls D1 p1)] [] (fun v st=>v=(.bool r)∧st=[]):=by
 unfold IZ at h0
 refine ai Tryz.func107 U U U U (zr tb U U (AB fun K2 hK2=>sr U fun K3 hK3=>zq tb U (zl tb U U (zq tb U (zl tb U U (zq tb U (dn hK3 U ?_)))))))
 refine ci h0 U ?_ ?_ <;> clear h0
 ·intro b4 h0
  have b5:decide ((Sh.len p0)=(Sh.len p1))=false:=by simpa using b4
  refine zr tb U U ?_
  replace h0:=Sh.AA h0
  subst r
  exact AH (xr (AM (L:=[(4,(.bool false))]) ⟨.rfl,trivial⟩))
 ·intro b4 h0
  have b7:decide ((Sh.len p0)=(Sh.len p1))=true:=by simpa using b4
  refine AG (hK2 _ (AB fun K8 hK8=>zr tb U U ?_))
  obtain⟨o11,h1,h0⟩:=Sh.A1 h0
  have M11 :∀(_:Unit),o11=Sum.inr ()→∀s,Wk 0 s ⟨27,AS [],[]⟩→K8 s:=by
   intro _ hq s hw
   subst o11
   try dsimp only at h0
   refine hK8 _ (AI hw (zr tb U U ?_))
   replace h0:=Sh.AA h0
   subst r
   exact AH (xr (AM (L:=[(4,(.bool true))]) ⟨.rfl,trivial⟩))
  refine AJ (AX (σ:=Int) (fun n v=>Ee N p0 p1 n v=some o11) (fun i10=>⟨27,AS [(0,(ls D1 p0)),(1,(ls D1 p1)),(5,(i64 i10))],[]⟩) N 0 h1 (AE U) (fun _ hv=>by rw[Ee] at hv;cases hv) ?_)
  rintro n i10 h1
  try dsimp only at h1 ⊢
  rw[Ee] at h1
  refine AB fun K13 hK13=>sr U fun K14 hK14=>zm tb 2 U (zl tb U U (zq tb U (dn hK14 U ?_)))
  refine ci h1 U ?_ ?_ <;> clear h1
  ·intro b15 h1
   refine AG (hK13 _ (AB fun K16 hK16=>AJ (AB fun K17 hK17=>?_)))
   refine B0 (by kernel_rfl) (by kernel_rfl) (by rfl) ?_
   iterate 2 refine yq tb rfl ?_
   refine bs h1 fun c18 gc18 h1=>yx KV gc18 U U U ?_
   iterate 3 refine yq tb rfl ?_
   refine bs h1 fun c19 gc19 h1=>yx KV gc19 U U U (yq tb U (bs h1 fun q20 gq20 h1=>Eu (v:=(.bool q20)) Aa bG (RW gq20) rfl U U (yq tb U (BQ (hK17 _ ?_)))))
   refine ci h1 U ?_ ?_ <;> clear h1
   ·intro b21 h1
    have b22:q20=false:=by simpa using b21
    refine zr tb U U ?_
    replace h1:=Sh.AA h1
    subst o11
    try dsimp only[id] at h0
    replace h0:=Sh.AA h0
    subst r
    exact AH (xr (AM (L:=[(4,(.bool false))]) ⟨.rfl,trivial⟩))
   ·intro b21 h1
    have b24:q20=true:=by simpa using b21
    exact AG (hK16 _ (AF U (zm tb 3 U (AD (xi (Sh.w (i10+1)) h1 (AE U))))))
  ·intro b15 h1
   exact Ad (M11 () (Sh.AA h1).symm _ (AE U))
theorem Qn {N:Nat} {p0:Am} {p1:Am} {r:Bool} (h0:Ie N p0 p1=some r):AY Tryz.prog 69 [(.agg (Ac p0)),(.agg (Ac p1))] [] (fun v st=>v=(.bool r)∧st=[]):=by
 unfold Ie at h0
 refine ai Tryz.func69 U U U U (sr U fun K1 hK1=>A7 (m:=0) Aa U U U U U (A7 (m:=1) Aa U U U U U (zq tb U (dn hK1 U (AB fun K2 hK2=>zr tb U U ?_)))))
 refine ci h0 U ?_ ?_ <;> clear h0
 ·intro b4 h0
  have b5:decide (p0.from_=p1.from_)=false:=by simpa using b4
  refine zr tb U U ?_
  replace h0:=Sh.AA h0
  subst r
  exact AH (xr (AR [(4,(.bool false))] U))
 ·intro b4 h0
  have b7:decide (p0.from_=p1.from_)=true:=by simpa using b4
  refine AG (hK2 _ (AB fun K8 hK8=>zr tb U U ?_))
  refine ci h0 U ?_ ?_ <;> clear h0
  ·intro b10 h0
   have b11:decide (p0.to=p1.to)=false:=by simpa using b10
   refine zr tb U U ?_
   replace h0:=Sh.AA h0
   subst r
   exact AH (xr (AR [(4,(.bool false))] U))
  ·intro b10 h0
   have b13:decide (p0.to=p1.to)=true:=by simpa using b10
   refine AG (hK8 _ (AB fun K14 hK14=>sr U fun K15 hK15=>zm tb 4 U (bs h0 fun q16 gq16 h0=>zc ab (QQ gq16) rfl U U (zq tb U (dn hK15 U ?_)))))
   refine ci h0 U ?_ ?_ <;> clear h0
   ·intro b17 h0
    have b18:q16=false:=by simpa using b17
    refine zr tb U U ?_
    replace h0:=Sh.AA h0
    subst r
    exact AH (xr (AR [(4,(.bool false))] U))
   ·intro b17 h0
    have b20:q16=true:=by simpa using b17
    refine AG (hK14 _ (zr tb U U ?_))
    replace h0:=Sh.AA h0
    subst r
    exact AH (xr (AR [(4,(.bool true))] U))
theorem Pz {N:Nat} {p0:(List Am)} {p1:(List Am)} {r:Bool} (h0:Hk N p0 p1=some r):AY Tryz.prog 35 [(ls Ac p0),(ls Ac p1)] [] (fun v st=>v=(.bool r)∧st=[]):=by
 unfold Hk at h0
 refine ai Tryz.func35 U U U U (zr tb U U (AB fun K2 hK2=>sr U fun K3 hK3=>zq tb U (zl tb U U (zq tb U (zl tb U U (zq tb U (dn hK3 U ?_)))))))
 refine ci h0 U ?_ ?_ <;> clear h0
 ·intro b4 h0
  have b5:decide ((Sh.len p0)=(Sh.len p1))=false:=by simpa using b4
  refine zr tb U U ?_
  replace h0:=Sh.AA h0
  subst r
  exact AH (xr (AM (L:=[(4,(.bool false))]) ⟨.rfl,trivial⟩))
 ·intro b4 h0
  have b7:decide ((Sh.len p0)=(Sh.len p1))=true:=by simpa using b4
  refine AG (hK2 _ (AB fun K8 hK8=>zr tb U U ?_))
  obtain⟨o11,h1,h0⟩:=Sh.A1 h0
  have M11 :∀(_:Unit),o11=Sum.inr ()→∀s,Wk 0 s ⟨27,AS [],[]⟩→K8 s:=by
   intro _ hq s hw
   subst o11
   try dsimp only at h0
   refine hK8 _ (AI hw (zr tb U U ?_))
   replace h0:=Sh.AA h0
   subst r
   exact AH (xr (AM (L:=[(4,(.bool true))]) ⟨.rfl,trivial⟩))
  refine AJ (AX (σ:=Int) (fun n v=>EG N p0 p1 n v=some o11) (fun i10=>⟨27,AS [(0,(ls Ac p0)),(1,(ls Ac p1)),(5,(i64 i10))],[]⟩) N 0 h1 (AE U) (fun _ hv=>by rw[EG] at hv;cases hv) ?_)
  rintro n i10 h1
  try dsimp only at h1 ⊢
  rw[EG] at h1
  refine AB fun K13 hK13=>sr U fun K14 hK14=>zm tb 2 U (zl tb U U (zq tb U (dn hK14 U ?_)))
  refine ci h1 U ?_ ?_ <;> clear h1
  ·intro b15 h1
   refine AG (hK13 _ (AB fun K16 hK16=>AJ (AB fun K17 hK17=>?_)))
   refine B0 (by kernel_rfl) (by kernel_rfl) (by rfl) ?_
   iterate 2 refine yq tb rfl ?_
   refine bs h1 fun c18 gc18 h1=>yx HQ gc18 U U U ?_
   iterate 3 refine yq tb rfl ?_
   refine bs h1 fun c19 gc19 h1=>yx HQ gc19 U U U (yq tb U (bs h1 fun q20 gq20 h1=>Eu (v:=(.bool q20)) Aa eP (Qn gq20) rfl U U (yq tb U (BQ (hK17 _ ?_)))))
   refine ci h1 U ?_ ?_ <;> clear h1
   ·intro b21 h1
    have b22:q20=false:=by simpa using b21
    refine zr tb U U ?_
    replace h1:=Sh.AA h1
    subst o11
    try dsimp only[id] at h0
    replace h0:=Sh.AA h0
    subst r
    exact AH (xr (AM (L:=[(4,(.bool false))]) ⟨.rfl,trivial⟩))
   ·intro b21 h1
    have b24:q20=true:=by simpa using b21
    exact AG (hK16 _ (AF U (zm tb 3 U (AD (xi (Sh.w (i10+1)) h1 (AE U))))))
  ·intro b15 h1
   exact Ad (M11 () (Sh.AA h1).symm _ (AE U))
theorem Pu {N:Nat} {p0:Ag} {p1:Ag} {r:Bool} (h0:HY N p0 p1=some r):AY Tryz.prog 130 [(.agg (AU p0)),(.agg (AU p1))] [] (fun v st=>v=(.bool r)∧st=[]):=by
 unfold HY at h0
 refine ai Tryz.func130 U U U U (sr U fun K1 hK1=>A7 (m:=0) Aa U U U U U (A7 (m:=1) Aa U U U U U (zq tb U (dn hK1 U (AB fun K2 hK2=>zr tb U U ?_)))))
 refine ci h0 U ?_ ?_ <;> clear h0
 ·intro b4 h0
  have b5:decide (p0.op=p1.op)=false:=by simpa using b4
  refine zr tb U U ?_
  replace h0:=Sh.AA h0
  subst r
  exact AH (xr (AR [(4,(.bool false))] U))
 ·intro b4 h0
  have b7:decide (p0.op=p1.op)=true:=by simpa using b4
  refine AG (hK2 _ (AB fun K8 hK8=>zr tb U U ?_))
  refine ci h0 U ?_ ?_ <;> clear h0
  ·intro b10 h0
   have b11:decide (p0.dst=p1.dst)=false:=by simpa using b10
   refine zr tb U U ?_
   replace h0:=Sh.AA h0
   subst r
   exact AH (xr (AR [(4,(.bool false))] U))
  ·intro b10 h0
   have b13:decide (p0.dst=p1.dst)=true:=by simpa using b10
   refine AG (hK8 _ (AB fun K14 hK14=>zr tb U U ?_))
   refine ci h0 U ?_ ?_ <;> clear h0
   ·intro b16 h0
    have b17:decide (p0.num=p1.num)=false:=by simpa using b16
    refine zr tb U U ?_
    replace h0:=Sh.AA h0
    subst r
    exact AH (xr (AR [(4,(.bool false))] U))
   ·intro b16 h0
    have b19:decide (p0.num=p1.num)=true:=by simpa using b16
    refine AG (hK14 _ (AB fun K20 hK20=>zr tb U U ?_))
    refine ci h0 U ?_ ?_ <;> clear h0
    ·intro b22 h0
     have b23:decide (p0.BX=p1.BX)=false:=by simpa using b22
     refine zr tb U U ?_
     replace h0:=Sh.AA h0
     subst r
     exact AH (xr (AR [(4,(.bool false))] U))
    ·intro b22 h0
     have b25:decide (p0.BX=p1.BX)=true:=by simpa using b22
     refine AG (hK20 _ (AB fun K26 hK26=>sr U fun K27 hK27=>zm tb 4 U (bs h0 fun q28 gq28 h0=>zc LG (B4 gq28) rfl U U (zq tb U (dn hK27 U ?_)))))
     refine ci h0 U ?_ ?_ <;> clear h0
     ·intro b29 h0
      have b30:q28=false:=by simpa using b29
      refine zr tb U U ?_
      replace h0:=Sh.AA h0
      subst r
      exact AH (xr (AR [(4,(.bool false))] U))
     ·intro b29 h0
      have b32:q28=true:=by simpa using b29
      refine AG (hK26 _ (AB fun K33 hK33=>sr U fun K34 hK34=>zm tb 4 U (bs h0 fun q35 gq35 h0=>zc LG (B4 gq35) rfl U U (zq tb U (dn hK34 U ?_)))))
      refine ci h0 U ?_ ?_ <;> clear h0
      ·intro b36 h0
       have b37:q35=false:=by simpa using b36
       refine zr tb U U ?_
       replace h0:=Sh.AA h0
       subst r
       exact AH (xr (AR [(4,(.bool false))] U))
      ·intro b36 h0
       have b39:q35=true:=by simpa using b36
       refine AG (hK33 _ (zr tb U U ?_))
       replace h0:=Sh.AA h0
       subst r
       exact AH (xr (AR [(4,(.bool true))] U))
theorem ON {N:Nat} {p0:(List Ag)} {p1:(List Ag)} {r:Bool} (h0:G0 N p0 p1=some r):AY Tryz.prog 108 [(ls AU p0),(ls AU p1)] [] (fun v st=>v=(.bool r)∧st=[]):=by
 unfold G0 at h0
 refine ai Tryz.func108 U U U U (zr tb U U (AB fun K2 hK2=>sr U fun K3 hK3=>zq tb U (zl tb U U (zq tb U (zl tb U U (zq tb U (dn hK3 U ?_)))))))
 refine ci h0 U ?_ ?_ <;> clear h0
 ·intro b4 h0
  have b5:decide ((Sh.len p0)=(Sh.len p1))=false:=by simpa using b4
  refine zr tb U U ?_
  replace h0:=Sh.AA h0
  subst r
  exact AH (xr (AM (L:=[(4,(.bool false))]) ⟨.rfl,trivial⟩))
 ·intro b4 h0
  have b7:decide ((Sh.len p0)=(Sh.len p1))=true:=by simpa using b4
  refine AG (hK2 _ (AB fun K8 hK8=>zr tb U U ?_))
  obtain⟨o11,h1,h0⟩:=Sh.A1 h0
  have M11 :∀(_:Unit),o11=Sum.inr ()→∀s,Wk 0 s ⟨27,AS [],[]⟩→K8 s:=by
   intro _ hq s hw
   subst o11
   try dsimp only at h0
   refine hK8 _ (AI hw (zr tb U U ?_))
   replace h0:=Sh.AA h0
   subst r
   exact AH (xr (AM (L:=[(4,(.bool true))]) ⟨.rfl,trivial⟩))
  refine AJ (AX (σ:=Int) (fun n v=>Dp N p0 p1 n v=some o11) (fun i10=>⟨27,AS [(0,(ls AU p0)),(1,(ls AU p1)),(5,(i64 i10))],[]⟩) N 0 h1 (AE U) (fun _ hv=>by rw[Dp] at hv;cases hv) ?_)
  rintro n i10 h1
  try dsimp only at h1 ⊢
  rw[Dp] at h1
  refine AB fun K13 hK13=>sr U fun K14 hK14=>zm tb 2 U (zl tb U U (zq tb U (dn hK14 U ?_)))
  refine ci h1 U ?_ ?_ <;> clear h1
  ·intro b15 h1
   refine AG (hK13 _ (AB fun K16 hK16=>AJ (AB fun K17 hK17=>?_)))
   refine B0 (by kernel_rfl) (by kernel_rfl) (by rfl) ?_
   iterate 2 refine yq tb rfl ?_
   refine bs h1 fun c18 gc18 h1=>yx IC gc18 U U U ?_
   iterate 3 refine yq tb rfl ?_
   refine bs h1 fun c19 gc19 h1=>yx IC gc19 U U U (yq tb U (bs h1 fun q20 gq20 h1=>Eu (v:=(.bool q20)) Aa bb (Pu gq20) rfl U U (yq tb U (BQ (hK17 _ ?_)))))
   refine ci h1 U ?_ ?_ <;> clear h1
   ·intro b21 h1
    have b22:q20=false:=by simpa using b21
    refine zr tb U U ?_
    replace h1:=Sh.AA h1
    subst o11
    try dsimp only[id] at h0
    replace h0:=Sh.AA h0
    subst r
    exact AH (xr (AM (L:=[(4,(.bool false))]) ⟨.rfl,trivial⟩))
   ·intro b21 h1
    have b24:q20=true:=by simpa using b21
    exact AG (hK16 _ (AF U (zm tb 3 U (AD (xi (Sh.w (i10+1)) h1 (AE U))))))
  ·intro b15 h1
   exact Ad (M11 () (Sh.AA h1).symm _ (AE U))
theorem QR {N:Nat} {p0:A0} {p1:A0} {r:Bool} (h0:IW N p0 p1=some r):AY Tryz.prog 70 [(.agg (Az p0)),(.agg (Az p1))] [] (fun v st=>v=(.bool r)∧st=[]):=by
 unfold IW at h0
 refine ai Tryz.func70 U U U U (sr U fun K1 hK1=>A7 (m:=0) Aa U U U U U (A7 (m:=1) Aa U U U U U (zq tb U (dn hK1 U (AB fun K2 hK2=>sr U fun K3 hK3=>zm tb 4 U (bs h0 fun q4 gq4 h0=>zc LG (B4 gq4) rfl U U (zq tb U ?_)))))))
 refine dn hK3 U ?_
 refine ci h0 U ?_ ?_ <;> clear h0
 ·intro b5 h0
  have b6:q4=false:=by simpa using b5
  refine zr tb U U ?_
  replace h0:=Sh.AA h0
  subst r
  exact AH (xr (AR [(4,(.bool false))] U))
 ·intro b5 h0
  have b8:q4=true:=by simpa using b5
  refine AG (hK2 _ (AB fun K9 hK9=>sr U fun K10 hK10=>zm tb 4 U (bs h0 fun q11 gq11 h0=>zc LG (B4 gq11) rfl U U (zq tb U (dn hK10 U ?_)))))
  refine ci h0 U ?_ ?_ <;> clear h0
  ·intro b12 h0
   have b13:q11=false:=by simpa using b12
   refine zr tb U U ?_
   replace h0:=Sh.AA h0
   subst r
   exact AH (xr (AR [(4,(.bool false))] U))
  ·intro b12 h0
   have b15:q11=true:=by simpa using b12
   refine AG (hK9 _ (AB fun K16 hK16=>zr tb U U ?_))
   refine ci h0 U ?_ ?_ <;> clear h0
   ·intro b18 h0
    have b19:decide (p0.result=p1.result)=false:=by simpa using b18
    refine zr tb U U ?_
    replace h0:=Sh.AA h0
    subst r
    exact AH (xr (AR [(4,(.bool false))] U))
   ·intro b18 h0
    have b21:decide (p0.result=p1.result)=true:=by simpa using b18
    refine AG (hK16 _ (AB fun K22 hK22=>zr tb U U ?_))
    refine ci h0 U ?_ ?_ <;> clear h0
    ·intro b24 h0
     have b25:decide (p0.Ab=p1.Ab)=false:=by simpa using b24
     refine zr tb U U ?_
     replace h0:=Sh.AA h0
     subst r
     exact AH (xr (AR [(4,(.bool false))] U))
    ·intro b24 h0
     have b27:decide (p0.Ab=p1.Ab)=true:=by simpa using b24
     refine AG (hK22 _ (AB fun K28 hK28=>sr U fun K29 hK29=>zm tb 4 U (bs h0 fun q30 gq30 h0=>zc bR (ON gq30) rfl U U (zq tb U (dn hK29 U ?_)))))
     refine ci h0 U ?_ ?_ <;> clear h0
     ·intro b31 h0
      have b32:q30=false:=by simpa using b31
      refine zr tb U U ?_
      replace h0:=Sh.AA h0
      subst r
      exact AH (xr (AR [(4,(.bool false))] U))
     ·intro b31 h0
      have b34:q30=true:=by simpa using b31
      refine AG (hK28 _ (zr tb U U ?_))
      replace h0:=Sh.AA h0
      subst r
      exact AH (xr (AR [(4,(.bool true))] U))
theorem Pm {N:Nat} {p0:(List A0)} {p1:(List A0)} {r:Bool} (h0:HV N p0 p1=some r):AY Tryz.prog 36 [(ls Az p0),(ls Az p1)] [] (fun v st=>v=(.bool r)∧st=[]):=by
 unfold HV at h0
 refine ai Tryz.func36 U U U U (zr tb U U (AB fun K2 hK2=>sr U fun K3 hK3=>zq tb U (zl tb U U (zq tb U (zl tb U U (zq tb U (dn hK3 U ?_)))))))
 refine ci h0 U ?_ ?_ <;> clear h0
 ·intro b4 h0
  have b5:decide ((Sh.len p0)=(Sh.len p1))=false:=by simpa using b4
  refine zr tb U U ?_
  replace h0:=Sh.AA h0
  subst r
  exact AH (xr (AM (L:=[(4,(.bool false))]) ⟨.rfl,trivial⟩))
 ·intro b4 h0
  have b7:decide ((Sh.len p0)=(Sh.len p1))=true:=by simpa using b4
  refine AG (hK2 _ (AB fun K8 hK8=>zr tb U U ?_))
  obtain⟨o11,h1,h0⟩:=Sh.A1 h0
  have M11 :∀(_:Unit),o11=Sum.inr ()→∀s,Wk 0 s ⟨27,AS [],[]⟩→K8 s:=by
   intro _ hq s hw
   subst o11
   try dsimp only at h0
   refine hK8 _ (AI hw (zr tb U U ?_))
   replace h0:=Sh.AA h0
   subst r
   exact AH (xr (AM (L:=[(4,(.bool true))]) ⟨.rfl,trivial⟩))
  refine AJ (AX (σ:=Int) (fun n v=>EJ N p0 p1 n v=some o11) (fun i10=>⟨27,AS [(0,(ls Az p0)),(1,(ls Az p1)),(5,(i64 i10))],[]⟩) N 0 h1 (AE U) (fun _ hv=>by rw[EJ] at hv;cases hv) ?_)
  rintro n i10 h1
  try dsimp only at h1 ⊢
  rw[EJ] at h1
  refine AB fun K13 hK13=>sr U fun K14 hK14=>zm tb 2 U (zl tb U U (zq tb U (dn hK14 U ?_)))
  refine ci h1 U ?_ ?_ <;> clear h1
  ·intro b15 h1
   refine AG (hK13 _ (AB fun K16 hK16=>AJ (AB fun K17 hK17=>?_)))
   refine B0 (by kernel_rfl) (by kernel_rfl) (by rfl) ?_
   iterate 2 refine yq tb rfl ?_
   refine bs h1 fun c18 gc18 h1=>yx H7 gc18 U U U ?_
   iterate 3 refine yq tb rfl ?_
   refine bs h1 fun c19 gc19 h1=>yx H7 gc19 U U U (yq tb U (bs h1 fun q20 gq20 h1=>Eu (v:=(.bool q20)) Aa dH (QR gq20) rfl U U (yq tb U (BQ (hK17 _ ?_)))))
   refine ci h1 U ?_ ?_ <;> clear h1
   ·intro b21 h1
    have b22:q20=false:=by simpa using b21
    refine zr tb U U ?_
    replace h1:=Sh.AA h1
    subst o11
    try dsimp only[id] at h0
    replace h0:=Sh.AA h0
    subst r
    exact AH (xr (AM (L:=[(4,(.bool false))]) ⟨.rfl,trivial⟩))
   ·intro b21 h1
    have b24:q20=true:=by simpa using b21
    exact AG (hK16 _ (AF U (zm tb 3 U (AD (xi (Sh.w (i10+1)) h1 (AE U))))))
  ·intro b15 h1
   exact Ad (M11 () (Sh.AA h1).symm _ (AE U))
theorem P3 {N:Nat} {p0:At} {p1:At} {r:Bool} (h0:Hi N p0 p1=some r):AY Tryz.prog 12 [(.agg (Ao p0)),(.agg (Ao p1))] [] (fun v st=>v=(.bool r)∧st=[]):=by
 unfold Hi at h0
 refine ai Tryz.func12 U U U U (sr U fun K1 hK1=>A7 (m:=0) Aa U U U U U (A7 (m:=1) Aa U U U U U (zq tb U (dn hK1 U (AB fun K2 hK2=>sr U fun K3 hK3=>zm tb 4 U (bs h0 fun q4 gq4 h0=>zc eZ (Pz gq4) rfl U U (zq tb U ?_)))))))
 refine dn hK3 U ?_
 refine ci h0 U ?_ ?_ <;> clear h0
 ·intro b5 h0
  have b6:q4=false:=by simpa using b5
  refine zr tb U U ?_
  replace h0:=Sh.AA h0
  subst r
  exact AH (xr (AR [(4,(.bool false))] U))
 ·intro b5 h0
  have b8:q4=true:=by simpa using b5
  refine AG (hK2 _ (AB fun K9 hK9=>sr U fun K10 hK10=>zm tb 4 U (bs h0 fun q11 gq11 h0=>zc dI (Pm gq11) rfl U U (zq tb U (dn hK10 U ?_)))))
  refine ci h0 U ?_ ?_ <;> clear h0
  ·intro b12 h0
   have b13:q11=false:=by simpa using b12
   refine zr tb U U ?_
   replace h0:=Sh.AA h0
   subst r
   exact AH (xr (AR [(4,(.bool false))] U))
  ·intro b12 h0
   have b15:q11=true:=by simpa using b12
   refine AG (hK9 _ (zr tb U U ?_))
   replace h0:=Sh.AA h0
   subst r
   exact AH (xr (AR [(4,(.bool true))] U))
theorem QP {N:Nat} {p0:Cell} {p1:Cell} {r:Bool} (h0:IM N p0 p1=some r):AY Tryz.prog 71 [(.agg (Ak p0)),(.agg (Ak p1))] [] (fun v st=>v=(.bool r)∧st=[]):=by
 unfold IM at h0
 refine ai Tryz.func71 U U U U (sr U fun K1 hK1=>A7 (m:=0) Aa U U U U U (A7 (m:=1) Aa U U U U U (zq tb U (dn hK1 U (AB fun K2 hK2=>zr tb U U ?_)))))
 refine ci h0 U ?_ ?_ <;> clear h0
 ·intro b4 h0
  have b5:decide (p0.count=p1.count)=false:=by simpa using b4
  refine zr tb U U ?_
  replace h0:=Sh.AA h0
  subst r
  exact AH (xr (AR [(4,(.bool false))] U))
 ·intro b4 h0
  have b7:decide (p0.count=p1.count)=true:=by simpa using b4
  refine AG (hK2 _ (AB fun K8 hK8=>zr tb U U ?_))
  refine ci h0 U ?_ ?_ <;> clear h0
  ·intro b10 h0
   have b11:decide (p0.tag=p1.tag)=false:=by simpa using b10
   refine zr tb U U ?_
   replace h0:=Sh.AA h0
   subst r
   exact AH (xr (AR [(4,(.bool false))] U))
  ·intro b10 h0
   have b13:decide (p0.tag=p1.tag)=true:=by simpa using b10
   refine AG (hK8 _ (AB fun K14 hK14=>sr U fun K15 hK15=>zm tb 4 U (bs h0 fun q16 gq16 h0=>zc LG (B4 gq16) rfl U U (zq tb U (dn hK15 U ?_)))))
   refine ci h0 U ?_ ?_ <;> clear h0
   ·intro b17 h0
    have b18:q16=false:=by simpa using b17
    refine zr tb U U ?_
    replace h0:=Sh.AA h0
    subst r
    exact AH (xr (AR [(4,(.bool false))] U))
   ·intro b17 h0
    have b20:q16=true:=by simpa using b17
    refine AG (hK14 _ (zr tb U U ?_))
    replace h0:=Sh.AA h0
    subst r
    exact AH (xr (AR [(4,(.bool true))] U))
theorem P1 {N:Nat} {p0:(List Cell)} {p1:(List Cell)} {r:Bool} (h0:He N p0 p1=some r):AY Tryz.prog 37 [(ls Ak p0),(ls Ak p1)] [] (fun v st=>v=(.bool r)∧st=[]):=by
 unfold He at h0
 refine ai Tryz.func37 U U U U (zr tb U U (AB fun K2 hK2=>sr U fun K3 hK3=>zq tb U (zl tb U U (zq tb U (zl tb U U (zq tb U (dn hK3 U ?_)))))))
 refine ci h0 U ?_ ?_ <;> clear h0
 ·intro b4 h0
  have b5:decide ((Sh.len p0)=(Sh.len p1))=false:=by simpa using b4
  refine zr tb U U ?_
  replace h0:=Sh.AA h0
  subst r
  exact AH (xr (AM (L:=[(4,(.bool false))]) ⟨.rfl,trivial⟩))
 ·intro b4 h0
  have b7:decide ((Sh.len p0)=(Sh.len p1))=true:=by simpa using b4
  refine AG (hK2 _ (AB fun K8 hK8=>zr tb U U ?_))
  obtain⟨o11,h1,h0⟩:=Sh.A1 h0
  have M11 :∀(_:Unit),o11=Sum.inr ()→∀s,Wk 0 s ⟨27,AS [],[]⟩→K8 s:=by
   intro _ hq s hw
   subst o11
   try dsimp only at h0
   refine hK8 _ (AI hw (zr tb U U ?_))
   replace h0:=Sh.AA h0
   subst r
   exact AH (xr (AM (L:=[(4,(.bool true))]) ⟨.rfl,trivial⟩))
  refine AJ (AX (σ:=Int) (fun n v=>Dd N p0 p1 n v=some o11) (fun i10=>⟨27,AS [(0,(ls Ak p0)),(1,(ls Ak p1)),(5,(i64 i10))],[]⟩) N 0 h1 (AE U) (fun _ hv=>by rw[Dd] at hv;cases hv) ?_)
  rintro n i10 h1
  try dsimp only at h1 ⊢
  rw[Dd] at h1
  refine AB fun K13 hK13=>sr U fun K14 hK14=>zm tb 2 U (zl tb U U (zq tb U (dn hK14 U ?_)))
  refine ci h1 U ?_ ?_ <;> clear h1
  ·intro b15 h1
   refine AG (hK13 _ (AB fun K16 hK16=>AJ (AB fun K17 hK17=>?_)))
   refine B0 (by kernel_rfl) (by kernel_rfl) (by rfl) ?_
   iterate 2 refine yq tb rfl ?_
   refine bs h1 fun c18 gc18 h1=>yx FR gc18 U U U ?_
   iterate 3 refine yq tb rfl ?_
   refine bs h1 fun c19 gc19 h1=>yx FR gc19 U U U (yq tb U (bs h1 fun q20 gq20 h1=>Eu (v:=(.bool q20)) Aa cx (QP gq20) rfl U U (yq tb U (BQ (hK17 _ ?_)))))
   refine ci h1 U ?_ ?_ <;> clear h1
   ·intro b21 h1
    have b22:q20=false:=by simpa using b21
    refine zr tb U U ?_
    replace h1:=Sh.AA h1
    subst o11
    try dsimp only[id] at h0
    replace h0:=Sh.AA h0
    subst r
    exact AH (xr (AM (L:=[(4,(.bool false))]) ⟨.rfl,trivial⟩))
   ·intro b21 h1
    have b24:q20=true:=by simpa using b21
    exact AG (hK16 _ (AF U (zm tb 3 U (AD (xi (Sh.w (i10+1)) h1 (AE U))))))
  ·intro b15 h1
   exact Ad (M11 () (Sh.AA h1).symm _ (AE U))
theorem Pq {N:Nat} {p0:Ah} {p1:Ah} {r:Bool} (h0:Hn N p0 p1=some r):AY Tryz.prog 72 [(.agg (Aw p0)),(.agg (Aw p1))] [] (fun v st=>v=(.bool r)∧st=[]):=by
 unfold Hn at h0
 refine ai Tryz.func72 U U U U (sr U fun K1 hK1=>A7 (m:=0) Aa U U U U U (A7 (m:=1) Aa U U U U U (zq tb U (dn hK1 U (AB fun K2 hK2=>zr tb U U ?_)))))
 refine ci h0 U ?_ ?_ <;> clear h0
 ·intro b4 h0
  have b5:decide (p0.proc=p1.proc)=false:=by simpa using b4
  refine zr tb U U ?_
  replace h0:=Sh.AA h0
  subst r
  exact AH (xr (AR [(4,(.bool false))] U))
 ·intro b4 h0
  have b7:decide (p0.proc=p1.proc)=true:=by simpa using b4
  refine AG (hK2 _ (AB fun K8 hK8=>zr tb U U ?_))
  refine ci h0 U ?_ ?_ <;> clear h0
  ·intro b10 h0
   have b11:decide (p0.at_=p1.at_)=false:=by simpa using b10
   refine zr tb U U ?_
   replace h0:=Sh.AA h0
   subst r
   exact AH (xr (AR [(4,(.bool false))] U))
  ·intro b10 h0
   have b13:decide (p0.at_=p1.at_)=true:=by simpa using b10
   refine AG (hK8 _ (AB fun K14 hK14=>zr tb U U ?_))
   refine ci h0 U ?_ ?_ <;> clear h0
   ·intro b16 h0
    have b17:decide (p0.dst=p1.dst)=false:=by simpa using b16
    refine zr tb U U ?_
    replace h0:=Sh.AA h0
    subst r
    exact AH (xr (AR [(4,(.bool false))] U))
   ·intro b16 h0
    have b19:decide (p0.dst=p1.dst)=true:=by simpa using b16
    refine AG (hK14 _ (AB fun K20 hK20=>sr U fun K21 hK21=>zm tb 4 U (bs h0 fun q22 gq22 h0=>zc LG (B4 gq22) rfl U U (zq tb U (dn hK21 U ?_)))))
    refine ci h0 U ?_ ?_ <;> clear h0
    ·intro b23 h0
     have b24:q22=false:=by simpa using b23
     refine zr tb U U ?_
     replace h0:=Sh.AA h0
     subst r
     exact AH (xr (AR [(4,(.bool false))] U))
    ·intro b23 h0
     have b26:q22=true:=by simpa using b23
     refine AG (hK20 _ (AB fun K27 hK27=>sr U fun K28 hK28=>zm tb 4 U (bs h0 fun q29 gq29 h0=>zc LG (B4 gq29) rfl U U (zq tb U (dn hK28 U ?_)))))
     refine ci h0 U ?_ ?_ <;> clear h0
     ·intro b30 h0
      have b31:q29=false:=by simpa using b30
      refine zr tb U U ?_
      replace h0:=Sh.AA h0
      subst r
      exact AH (xr (AR [(4,(.bool false))] U))
     ·intro b30 h0
      have b33:q29=true:=by simpa using b30
      refine AG (hK27 _ (AB fun K34 hK34=>sr U fun K35 hK35=>zm tb 4 U (bs h0 fun q36 gq36 h0=>zc LG (B4 gq36) rfl U U (zq tb U (dn hK35 U ?_)))))
      refine ci h0 U ?_ ?_ <;> clear h0
      ·intro b37 h0
       have b38:q36=false:=by simpa using b37
       refine zr tb U U ?_
       replace h0:=Sh.AA h0
       subst r
       exact AH (xr (AR [(4,(.bool false))] U))
      ·intro b37 h0
       have b40:q36=true:=by simpa using b37
       refine AG (hK34 _ (zr tb U U ?_))
       replace h0:=Sh.AA h0
       subst r
       exact AH (xr (AR [(4,(.bool true))] U))
theorem Ox {N:Nat} {p0:(List Ah)} {p1:(List Ah)} {r:Bool} (h0:Gy N p0 p1=some r):AY Tryz.prog 38 [(ls Aw p0),(ls Aw p1)] [] (fun v st=>v=(.bool r)∧st=[]):=by
 unfold Gy at h0
 refine ai Tryz.func38 U U U U (zr tb U U (AB fun K2 hK2=>sr U fun K3 hK3=>zq tb U (zl tb U U (zq tb U (zl tb U U (zq tb U (dn hK3 U ?_)))))))
 refine ci h0 U ?_ ?_ <;> clear h0
 ·intro b4 h0
  have b5:decide ((Sh.len p0)=(Sh.len p1))=false:=by simpa using b4
  refine zr tb U U ?_
  replace h0:=Sh.AA h0
  subst r
  exact AH (xr (AM (L:=[(4,(.bool false))]) ⟨.rfl,trivial⟩))
 ·intro b4 h0
  have b7:decide ((Sh.len p0)=(Sh.len p1))=true:=by simpa using b4
  refine AG (hK2 _ (AB fun K8 hK8=>zr tb U U ?_))
  obtain⟨o11,h1,h0⟩:=Sh.A1 h0
  have M11 :∀(_:Unit),o11=Sum.inr ()→∀s,Wk 0 s ⟨27,AS [],[]⟩→K8 s:=by
   intro _ hq s hw
   subst o11
   try dsimp only at h0
   refine hK8 _ (AI hw (zr tb U U ?_))
   replace h0:=Sh.AA h0
   subst r
   exact AH (xr (AM (L:=[(4,(.bool true))]) ⟨.rfl,trivial⟩))
  refine AJ (AX (σ:=Int) (fun n v=>Dx N p0 p1 n v=some o11) (fun i10=>⟨27,AS [(0,(ls Aw p0)),(1,(ls Aw p1)),(5,(i64 i10))],[]⟩) N 0 h1 (AE U) (fun _ hv=>by rw[Dx] at hv;cases hv) ?_)
  rintro n i10 h1
  try dsimp only at h1 ⊢
  rw[Dx] at h1
  refine AB fun K13 hK13=>sr U fun K14 hK14=>zm tb 2 U (zl tb U U (zq tb U (dn hK14 U ?_)))
  refine ci h1 U ?_ ?_ <;> clear h1
  ·intro b15 h1
   refine AG (hK13 _ (AB fun K16 hK16=>AJ (AB fun K17 hK17=>?_)))
   refine B0 (by kernel_rfl) (by kernel_rfl) (by rfl) ?_
   iterate 2 refine yq tb rfl ?_
   refine bs h1 fun c18 gc18 h1=>yx GR gc18 U U U ?_
   iterate 3 refine yq tb rfl ?_
   refine bs h1 fun c19 gc19 h1=>yx GR gc19 U U U (yq tb U (bs h1 fun q20 gq20 h1=>Eu (v:=(.bool q20)) Aa dF (Pq gq20) rfl U U (yq tb U (BQ (hK17 _ ?_)))))
   refine ci h1 U ?_ ?_ <;> clear h1
   ·intro b21 h1
    have b22:q20=false:=by simpa using b21
    refine zr tb U U ?_
    replace h1:=Sh.AA h1
    subst o11
    try dsimp only[id] at h0
    replace h0:=Sh.AA h0
    subst r
    exact AH (xr (AM (L:=[(4,(.bool false))]) ⟨.rfl,trivial⟩))
   ·intro b21 h1
    have b24:q20=true:=by simpa using b21
    exact AG (hK16 _ (AF U (zm tb 3 U (AD (xi (Sh.w (i10+1)) h1 (AE U))))))
  ·intro b15 h1
   exact Ad (M11 () (Sh.AA h1).symm _ (AE U))
theorem PB {N:Nat} {p0:Ay} {p1:Ay} {r:Bool} (h0:Hl N p0 p1=some r):AY Tryz.prog 13 [(.agg (Aj p0)),(.agg (Aj p1))] [] (fun v st=>v=(.bool r)∧st=[]):=by
 unfold Hl at h0
 refine ai Tryz.func13 U U U U (sr U fun K1 hK1=>A7 (m:=0) Aa U U U U U (A7 (m:=1) Aa U U U U U (zq tb U (dn hK1 U (AB fun K2 hK2=>zr tb U U ?_)))))
 refine ci h0 U ?_ ?_ <;> clear h0
 ·intro b4 h0
  have b5:decide (p0.status=p1.status)=false:=by simpa using b4
  refine zr tb U U ?_
  replace h0:=Sh.AA h0
  subst r
  exact AH (xr (AR [(4,(.bool false))] U))
 ·intro b4 h0
  have b7:decide (p0.status=p1.status)=true:=by simpa using b4
  refine AG (hK2 _ (AB fun K8 hK8=>zr tb U U ?_))
  refine ci h0 U ?_ ?_ <;> clear h0
  ·intro b10 h0
   have b11:decide (p0.value=p1.value)=false:=by simpa using b10
   refine zr tb U U ?_
   replace h0:=Sh.AA h0
   subst r
   exact AH (xr (AR [(4,(.bool false))] U))
  ·intro b10 h0
   have b13:decide (p0.value=p1.value)=true:=by simpa using b10
   refine AG (hK8 _ (AB fun K14 hK14=>zr tb U U ?_))
   refine ci h0 U ?_ ?_ <;> clear h0
   ·intro b16 h0
    have b17:decide (p0.calls=p1.calls)=false:=by simpa using b16
    refine zr tb U U ?_
    replace h0:=Sh.AA h0
    subst r
    exact AH (xr (AR [(4,(.bool false))] U))
   ·intro b16 h0
    have b19:decide (p0.calls=p1.calls)=true:=by simpa using b16
    refine AG (hK14 _ (AB fun K20 hK20=>zr tb U U ?_))
    refine ci h0 U ?_ ?_ <;> clear h0
    ·intro b22 h0
     have b23:decide (p0.CU=p1.CU)=false:=by simpa using b22
     refine zr tb U U ?_
     replace h0:=Sh.AA h0
     subst r
     exact AH (xr (AR [(4,(.bool false))] U))
    ·intro b22 h0
     have b25:decide (p0.CU=p1.CU)=true:=by simpa using b22
     refine AG (hK20 _ (AB fun K26 hK26=>sr U fun K27 hK27=>zm tb 4 U (bs h0 fun q28 gq28 h0=>zc LG (B4 gq28) rfl U U (zq tb U (dn hK27 U ?_)))))
     refine ci h0 U ?_ ?_ <;> clear h0
     ·intro b29 h0
      have b30:q28=false:=by simpa using b29
      refine zr tb U U ?_
      replace h0:=Sh.AA h0
      subst r
      exact AH (xr (AR [(4,(.bool false))] U))
     ·intro b29 h0
      have b32:q28=true:=by simpa using b29
      refine AG (hK26 _ (AB fun K33 hK33=>sr U fun K34 hK34=>zm tb 4 U (bs h0 fun q35 gq35 h0=>zc eR (P1 gq35) rfl U U (zq tb U (dn hK34 U ?_)))))
      refine ci h0 U ?_ ?_ <;> clear h0
      ·intro b36 h0
       have b37:q35=false:=by simpa using b36
       refine zr tb U U ?_
       replace h0:=Sh.AA h0
       subst r
       exact AH (xr (AR [(4,(.bool false))] U))
      ·intro b36 h0
       have b39:q35=true:=by simpa using b36
       refine AG (hK33 _ (AB fun K40 hK40=>sr U fun K41 hK41=>zm tb 4 U (bs h0 fun q42 gq42 h0=>zc eF (Ox gq42) rfl U U (zq tb U (dn hK41 U ?_)))))
       refine ci h0 U ?_ ?_ <;> clear h0
       ·intro b43 h0
        have b44:q42=false:=by simpa using b43
        refine zr tb U U ?_
        replace h0:=Sh.AA h0
        subst r
        exact AH (xr (AR [(4,(.bool false))] U))
       ·intro b43 h0
        have b46:q42=true:=by simpa using b43
        refine AG (hK40 _ (zr tb U U ?_))
        replace h0:=Sh.AA h0
        subst r
        exact AH (xr (AR [(4,(.bool true))] U))
theorem B7 {N:Nat} {s0:(List Int)} {p1:Int} {r:Int×(List Int)} (h0:Bx N s0 p1=some r):AY Tryz.prog 16 [(ow 0 0 s0),(i64 p1)] [(ro 0 3 1 eI s0)] (fun v st=>v=(i64 r.1)∧st=[(ro 0 3 1 eI r.2)]):=by
 unfold Bx at h0
 refine ai Tryz.func16 U U U U (zr tb U U (AB fun K2 hK2=>zr tb U U (bs h0 fun o9 h1 h0=>?_)))
 have M9 :∀(k7:Int) (l8:(List Int)),o9=(k7,l8)→∀s,Wk 1 s ⟨19,AS [(1,(i64 k7))],[(ro 0 3 1 eI l8)]⟩→K2 s:=by
  intro k7 l8 hq s hw
  subst o9
  try dsimp only at h0
  refine hK2 _ (AI hw (zr tb U U ?_))
  replace h0:=Sh.AA h0
  subst r
  exact AH (xr (AM (L:=[(4,(i64 k7))]) ⟨.rfl,trivial⟩))
 refine AJ (AX (σ:=Int×Int×(List Int)) (fun n v=>Dn  n v.1 v.2.1 v.2.2=some o9) (fun (k4,i5,l6)=>⟨19,AS [(0,(ow 0 0 l6)),(1,(i64 k4)),(5,(i64 i5))],[(ro 0 3 1 eI l6)]⟩) N (p1,0,s0) h1 (AE U) (fun _ hv=>by rw[Dn] at hv;cases hv) ?_)
 rintro n ⟨k4,i5,l6⟩ h1
 try dsimp only at h1 ⊢
 rw[Dn] at h1
 refine AB fun K11 hK11=>sr U fun K12 hK12=>zm tb 2 U (zz (i64 (Sh.len l6)) (Df EA U U U) rfl (zq tb U (dn hK12 U ?_)))
 refine ci h1 U ?_ ?_ <;> clear h1
 ·intro b13 h1
  refine AG (hK11 _ (AB fun K14 hK14=>AJ (sr U fun K15 hK15=>zm tb 3 U (bs h1 fun c16 gc16 h1=>zz (.ptr 0 0 (Int.toNat i5) 0) (BB A2 U U U U gc16) rfl (Cx (u':=k4) Aa EB U U gc16 U U U (show 0+1≤1 by decide) rfl U (dn hK15 U (AF U (zm tb 3 U (dn hK14 U ?_)))))))))
  refine AF U (zm tb 3 U ?_)
  exact AD (xi (Sh.w (k4+1),Sh.w (i5+1),Sh.put l6 i5 k4) h1 (AM (L:=[(0,(.own 0 0 (List.length (Sh.put l6 i5 k4)))),(1,(i64 (Sh.w (k4+1)))),(5,(i64 (Sh.w (i5+1))))]) ⟨(.len (by simp only[Sh.Af])),.rfl,.rfl,trivial⟩))
 ·intro b13 h1
  exact Ad (M9 k4 l6 (Sh.AA h1).symm _ (AE U))
theorem O3 {N:Nat} {s0:(List Bw)} {p1:Int} {r:Int×(List Bw)} (h0:G9 N s0 p1=some r):AY Tryz.prog 73 [(ow 0 0 s0),(i64 p1)] [(ro 0 155 1 (Ca 3) s0)] (fun v st=>v=(i64 r.1)∧st=[(ro 0 155 1 (Ca 3) r.2)]):=by
 unfold G9 at h0
 refine ai Tryz.func73 U U U U (zr tb U U (AB fun K2 hK2=>zr tb U U (bs h0 fun o9 h1 h0=>?_)))
 have M9 :∀(k7:Int) (l8:(List Bw)),o9=(k7,l8)→∀s,Wk 1 s ⟨20,AS [(1,(i64 k7))],[(ro 0 155 1 (Ca 3) l8)]⟩→K2 s:=by
  intro k7 l8 hq s hw
  subst o9
  try dsimp only at h0
  refine hK2 _ (AI hw (zr tb U U ?_))
  replace h0:=Sh.AA h0
  subst r
  exact AH (xr (AM (L:=[(4,(i64 k7))]) ⟨.rfl,trivial⟩))
 refine AJ (AX (σ:=Int×Int×(List Bw)) (fun n v=>Dv N n v.1 v.2.1 v.2.2=some o9) (fun (k4,i5,l6)=>⟨20,AS [(0,(ow 0 0 l6)),(1,(i64 k4)),(5,(i64 i5))],[(ro 0 155 1 (Ca 3) l6)]⟩) N (p1,0,s0) h1 (AE U) (fun _ hv=>by rw[Dv] at hv;cases hv) ?_)
 rintro n ⟨k4,i5,l6⟩ h1
 try dsimp only at h1 ⊢
 rw[Dv] at h1
 refine AB fun K11 hK11=>sr U fun K12 hK12=>zm tb 2 U (zz (i64 (Sh.len l6)) (Df RB U U U) rfl (zq tb U (dn hK12 U ?_)))
 refine ci h1 U ?_ ?_ <;> clear h1
 ·intro b13 h1
  refine AG (hK11 _ (AB fun K14 hK14=>AJ (AF U (zm tb 2 U (bs h1 fun c15 gc15 h1=>zz (.ptr 0 0 (Int.toNat i5) 0) (BB KV U U U U gc15) rfl (zq tb U (An (Ew (id:=0) (j:=0) (i:=i5) (c:=c15) (ys:=c15.fields) (encY:=eI) rfl gc15 U U U U U) (zz (ow 1 0 c15.fields) (Be HX U U (ED gc15) rfl) rfl (zq tb U (bs h1 fun q16 gq16 h1=>?_))))))))))
  refine CJ (rowsP:=[⟨0,3,1,List.map eI c15.fields⟩]) (rows0:=[⟨0,3,1,List.map eI c15.fields⟩]) (rows1:=[⟨0,3,1,List.map eI q16.2⟩]) (rows2:=[]) (rows1':=[⟨0,3,1,List.map eI q16.2⟩]) (rows2':=[]) (st':=[⟨0,155,1,hole l6 (Ca 3) i5 [(.own 1 0 (List.length c15.fields))]⟩,⟨0,3,1,List.map eI q16.2⟩]) (v':=(i64 q16.1)) [1] Aa Lu (B7 gq16) rfl (by decide) rfl U (.pure (AL fun _=>U) .nil) rfl U (.pure (AL fun _=>U) .nil) .nil U U (fun hln=>?_)
  have ln17:List.length q16.2=List.length c15.fields:=by simpa only[List.length_map] using hln 0 _ _ rfl rfl rfl
  refine An (Wk.take (id:=0) (m:=1) (j:=0) (i:=i5) (c:=c15) (ys:=q16.2) (encY:=eI) rfl gc15 U U (by first | (simp only[Sh.Af];done) | (simp only[Sh.Af];omega) | omega) (by decide) (show 1≤1 by decide) (fun _=>U) rfl U) ?_
  refine An (B6 (id:=0) (i:=i5) (u:=(Bw.mk q16.2)) rfl U U) ?_
  generalize hg901:Sh.put l6 i5 (Bw.mk q16.2)=lg901 at h1 ⊢
  have ln901:=congrArg List.length hg901
  simp only[Sh.Af] at ln901
  refine zq tb U (dn hK14 U (AF U (zm tb 3 U ?_)))
  exact AD (xi (q16.1,Sh.w (i5+1),lg901) h1 (by refine Wk.trans (AP (L:=[(0,(.own 0 0 (List.length l6))),(1,(i64 q16.1)),(5,(i64 (Sh.w (i5+1))))]) (st':=[⟨0,155,1,List.map (Ca 3) lg901⟩]) (st1:=[⟨0,155,1,List.map (Ca 3) lg901⟩]) [0] U (.deep (Ar fun _=>U) .nil) (by decide) rfl U (.deep (Ar fun _=>U) .nil) ⟨.rfl,.rfl,.rfl,trivial⟩) ?_;exact AM (L:=[(0,(.own 0 0 (List.length lg901))),(1,(i64 q16.1)),(5,(i64 (Sh.w (i5+1))))]) ⟨(.len (by first | (simp only[Sh.Af];done) | (simp only[Sh.Af];omega) | omega)),.rfl,.rfl,trivial⟩))
 ·intro b13 h1
  exact Ad (M9 k4 l6 (Sh.AA h1).symm _ (AE U))
theorem Nf {N:Nat} {s0:(List Am)} {p1:Int} {r:Int×(List Am)} (h0:Gh N s0 p1=some r):AY Tryz.prog 39 [(ow 0 0 s0),(i64 p1)] [(ro 0 104 3 (BV 155 3) s0)] (fun v st=>v=(i64 r.1)∧st=[(ro 0 104 3 (BV 155 3) r.2)]):=by
 unfold Gh at h0
 refine ai Tryz.func39 U U U U (zr tb U U (AB fun K2 hK2=>zr tb U U (bs h0 fun o9 h1 h0=>?_)))
 have M9 :∀(k7:Int) (l8:(List Am)),o9=(k7,l8)→∀s,Wk 1 s ⟨34,AS [(1,(i64 k7))],[(ro 0 104 3 (BV 155 3) l8)]⟩→K2 s:=by
  intro k7 l8 hq s hw
  subst o9
  try dsimp only at h0
  refine hK2 _ (AI hw (zr tb U U ?_))
  replace h0:=Sh.AA h0
  subst r
  exact AH (xr (AM (L:=[(4,(i64 k7))]) ⟨.rfl,trivial⟩))
 refine AJ (AX (σ:=Int×Int×(List Am)) (fun n v=>DM N n v.1 v.2.1 v.2.2=some o9) (fun (k4,i5,l6)=>⟨34,AS [(0,(ow 0 0 l6)),(1,(i64 k4)),(5,(i64 i5))],[(ro 0 104 3 (BV 155 3) l6)]⟩) N (p1,0,s0) h1 (AE U) (fun _ hv=>by rw[DM] at hv;cases hv) ?_)
 rintro n ⟨k4,i5,l6⟩ h1
 try dsimp only at h1 ⊢
 rw[DM] at h1
 refine AB fun K11 hK11=>sr U fun K12 hK12=>zm tb 2 U (zz (i64 (Sh.len l6)) (Df U9 U U U) rfl (zq tb U (dn hK12 U ?_)))
 refine ci h1 U ?_ ?_ <;> clear h1
 ·intro b13 h1
  refine AG (hK11 _ (AB fun K14 hK14=>AJ (sr U fun K15 hK15=>zm tb 3 U (bs h1 fun c16 gc16 h1=>zz (.ptr 0 0 (Int.toNat i5) 0) (BB HQ U U U U gc16) rfl (zq tb U (Cx (u':=(Am.mk k4 c16.to c16.cons)) Aa EB U U gc16 U U U (show 0+1≤3 by decide) rfl U ?_))))))
  generalize hg901:Sh.put l6 i5 (Am.mk k4 c16.to c16.cons)=lg901 at h1 ⊢
  have ln901:=congrArg List.length hg901
  simp only[Sh.Af] at ln901
  refine dn hK15 U (zr tb U U (sr U fun K18 hK18=>zm tb 3 U (bs h1 fun c19 gc19 h1=>?_)))
  refine zz (.ptr 0 0 (Int.toNat i5) 0) (BB HQ U U U (by first | (simp only[Sh.Af];done) | omega) gc19) rfl ?_
  refine zq tb U (Cx (u':=(Am.mk c19.from_ (Sh.w (k4+1)) c19.cons)) Aa EB U U gc19 U U U (show 1+1≤3 by decide) rfl U ?_)
  generalize hg902:Sh.put lg901 i5 (Am.mk c19.from_ (Sh.w (k4+1)) c19.cons)=lg902 at h1 ⊢
  have ln902:=congrArg List.length hg902
  simp only[Sh.Af] at ln902
  refine dn hK18 U (zr tb U U (AF U (zm tb 2 U (bs h1 fun c21 gc21 h1=>?_))))
  refine zz (.ptr 0 0 (Int.toNat i5) 0) (BB HQ U U U (by first | (simp only[Sh.Af];done) | omega) gc21) rfl ?_
  refine zq tb U (An (Ew (id:=0) (j:=2) (i:=i5) (c:=c21) (ys:=c21.cons) (encY:=(Ca 3)) rfl gc21 U U U U U) (zz (ow 1 0 c21.cons) (Be X3 U U (ED gc21) rfl) rfl (zq tb U (bs h1 fun q22 gq22 h1=>?_))))
  refine CJ (rowsP:=[⟨0,155,1,List.map (Ca 3) c21.cons⟩]) (rows0:=[⟨0,155,1,List.map (Ca 3) c21.cons⟩]) (rows1:=[⟨0,155,1,List.map (Ca 3) q22.2⟩]) (rows2:=[]) (rows1':=[⟨0,155,1,List.map (Ca 3) q22.2⟩]) (rows2':=[]) (st':=[⟨0,104,3,hole lg902 (BV 155 3) i5 [(i64 c21.from_),(i64 c21.to),(.own 1 0 (List.length c21.cons))]⟩,⟨0,155,1,List.map (Ca 3) q22.2⟩]) (v':=(i64 q22.1)) [1] Aa cX (O3 gq22) rfl (by decide) rfl U (.deep (Ar fun _=>U) .nil) rfl U (.deep (Ar fun _=>U) .nil) .nil U U (fun hln=>?_)
  have ln23:List.length q22.2=List.length c21.cons:=by simpa only[List.length_map] using hln 0 _ _ rfl rfl rfl
  refine An (Wk.take (id:=0) (m:=1) (j:=2) (i:=i5) (c:=c21) (ys:=q22.2) (encY:=(Ca 3)) rfl gc21 U U (by first | (simp only[Sh.Af];done) | (simp only[Sh.Af];omega) | omega) (by decide) (show 1≤1 by decide) (fun _=>U) rfl U) ?_
  refine An (B6 (id:=0) (i:=i5) (u:=(Am.mk c21.from_ c21.to q22.2)) rfl U U) ?_
  generalize hg903:Sh.put lg902 i5 (Am.mk c21.from_ c21.to q22.2)=lg903 at h1 ⊢
  have ln903:=congrArg List.length hg903
  simp only[Sh.Af] at ln903
  refine zq tb U (dn hK14 U (AF U (zm tb 3 U ?_)))
  exact AD (xi (q22.1,Sh.w (i5+1),lg903) h1 (by refine Wk.trans (AP (L:=[(0,(.own 0 0 (List.length l6))),(1,(i64 q22.1)),(5,(i64 (Sh.w (i5+1))))]) (st':=[⟨0,104,3,List.map (BV 155 3) lg903⟩]) (st1:=[⟨0,104,3,List.map (BV 155 3) lg903⟩]) [0] U (.deep (Ar fun _=>U) .nil) (by decide) rfl U (.deep (Ar fun _=>U) .nil) ⟨.rfl,.rfl,.rfl,trivial⟩) ?_;exact AM (L:=[(0,(.own 0 0 (List.length lg903))),(1,(i64 q22.1)),(5,(i64 (Sh.w (i5+1))))]) ⟨(.len (by first | (simp only[Sh.Af];done) | (simp only[Sh.Af];omega) | omega)),.rfl,.rfl,trivial⟩))
 ·intro b13 h1
  exact Ad (M9 k4 l6 (Sh.AA h1).symm _ (AE U))
theorem Mv {N:Nat} {s0:(List Ag)} {p1:Int} {r:Int×(List Ag)} (h0:GC N s0 p1=some r):AY Tryz.prog 74 [(ow 0 0 s0),(i64 p1)] [(ro 0 132 6 (Ba 3 3) s0)] (fun v st=>v=(i64 r.1)∧st=[(ro 0 132 6 (Ba 3 3) r.2)]):=by
 unfold GC at h0
 refine ai Tryz.func74 U U U U (zr tb U U (AB fun K2 hK2=>zr tb U U (bs h0 fun o9 h1 h0=>?_)))
 have M9 :∀(k7:Int) (l8:(List Ag)),o9=(k7,l8)→∀s,Wk 1 s ⟨55,AS [(1,(i64 k7))],[(ro 0 132 6 (Ba 3 3) l8)]⟩→K2 s:=by
  intro k7 l8 hq s hw
  subst o9
  try dsimp only at h0
  refine hK2 _ (AI hw (zr tb U U ?_))
  replace h0:=Sh.AA h0
  subst r
  exact AH (xr (AM (L:=[(4,(i64 k7))]) ⟨.rfl,trivial⟩))
 refine AJ (AX (σ:=Int×Int×(List Ag)) (fun n v=>C2 N n v.1 v.2.1 v.2.2=some o9) (fun (k4,i5,l6)=>⟨55,AS [(0,(ow 0 0 l6)),(1,(i64 k4)),(5,(i64 i5))],[(ro 0 132 6 (Ba 3 3) l6)]⟩) N (p1,0,s0) h1 (AE U) (fun _ hv=>by rw[C2] at hv;cases hv) ?_)
 rintro n ⟨k4,i5,l6⟩ h1
 try dsimp only at h1 ⊢
 rw[C2] at h1
 refine AB fun K11 hK11=>sr U fun K12 hK12=>zm tb 2 U (zz (i64 (Sh.len l6)) (Df QM U U U) rfl (zq tb U (dn hK12 U ?_)))
 refine ci h1 U ?_ ?_ <;> clear h1
 ·intro b13 h1
  refine AG (hK11 _ (AB fun K14 hK14=>AJ (sr U fun K15 hK15=>zm tb 3 U (bs h1 fun c16 gc16 h1=>zz (.ptr 0 0 (Int.toNat i5) 0) (BB IC U U U U gc16) rfl (zq tb U (Cx (u':=(Ag.mk k4 c16.dst c16.num c16.BX c16.args c16.jumps)) Aa EB U U gc16 U U U (show 0+1≤6 by decide) rfl U ?_))))))
  generalize hg901:Sh.put l6 i5 (Ag.mk k4 c16.dst c16.num c16.BX c16.args c16.jumps)=lg901 at h1 ⊢
  have ln901:=congrArg List.length hg901
  simp only[Sh.Af] at ln901
  refine dn hK15 U (zr tb U U (sr U fun K18 hK18=>zm tb 3 U (bs h1 fun c19 gc19 h1=>?_)))
  refine zz (.ptr 0 0 (Int.toNat i5) 0) (BB IC U U U (by first | (simp only[Sh.Af];done) | omega) gc19) rfl ?_
  refine zq tb U (Cx (u':=(Ag.mk c19.op (Sh.w (k4+1)) c19.num c19.BX c19.args c19.jumps)) Aa EB U U gc19 U U U (show 1+1≤6 by decide) rfl U ?_)
  generalize hg902:Sh.put lg901 i5 (Ag.mk c19.op (Sh.w (k4+1)) c19.num c19.BX c19.args c19.jumps)=lg902 at h1 ⊢
  have ln902:=congrArg List.length hg902
  simp only[Sh.Af] at ln902
  refine dn hK18 U (zr tb U U (sr U fun K21 hK21=>zm tb 3 U (bs h1 fun c22 gc22 h1=>?_)))
  refine zz (.ptr 0 0 (Int.toNat i5) 0) (BB IC U U U (by first | (simp only[Sh.Af];done) | omega) gc22) rfl ?_
  refine zq tb U (Cx (u':=(Ag.mk c22.op c22.dst (Sh.w ((Sh.w (k4+1)) + 1)) c22.BX c22.args c22.jumps)) Aa EB U U gc22 U U U (show 2+1≤6 by decide) rfl U ?_)
  generalize hg903:Sh.put lg902 i5 (Ag.mk c22.op c22.dst (Sh.w ((Sh.w (k4+1)) + 1)) c22.BX c22.args c22.jumps)=lg903 at h1 ⊢
  have ln903:=congrArg List.length hg903
  simp only[Sh.Af] at ln903
  refine dn hK21 U (zr tb U U (sr U fun K24 hK24=>zm tb 3 U (bs h1 fun c25 gc25 h1=>?_)))
  refine zz (.ptr 0 0 (Int.toNat i5) 0) (BB IC U U U (by first | (simp only[Sh.Af];done) | omega) gc25) rfl ?_
  refine zq tb U (Cx (u':=(Ag.mk c25.op c25.dst c25.num (Sh.w ((Sh.w ((Sh.w (k4+1)) + 1)) + 1)) c25.args c25.jumps)) Aa EB U U gc25 U U U (show 3+1≤6 by decide) rfl U ?_)
  generalize hg904:Sh.put lg903 i5 (Ag.mk c25.op c25.dst c25.num (Sh.w ((Sh.w ((Sh.w (k4+1)) + 1)) + 1)) c25.args c25.jumps)=lg904 at h1 ⊢
  have ln904:=congrArg List.length hg904
  simp only[Sh.Af] at ln904
  refine dn hK24 U (zr tb U U (sr U fun K27 hK27=>zm tb 2 U (bs h1 fun c28 gc28 h1=>?_)))
  refine zz (.ptr 0 0 (Int.toNat i5) 0) (BB IC U U U (by first | (simp only[Sh.Af];done) | omega) gc28) rfl ?_
  refine zq tb U (An (Ew (id:=0) (j:=4) (i:=i5) (c:=c28) (ys:=c28.args) (encY:=eI) rfl gc28 U U U U U) (zz (ow 1 0 c28.args) (Be HX U U (ED gc28) rfl) rfl (zq tb U (bs h1 fun q29 gq29 h1=>?_))))
  refine CJ (rowsP:=[⟨0,3,1,List.map eI c28.args⟩]) (rows0:=[⟨0,3,1,List.map eI c28.args⟩]) (rows1:=[⟨0,3,1,List.map eI q29.2⟩]) (rows2:=[]) (rows1':=[⟨0,3,1,List.map eI q29.2⟩]) (rows2':=[]) (st':=[⟨0,132,6,hole lg904 (Ba 3 3) i5 [(i64 c28.op),(i64 c28.dst),(i64 c28.num),(i64 c28.BX),(.own 1 0 (List.length c28.args)),(.dv 3 1 (List.map eI c28.jumps))]⟩,⟨0,3,1,List.map eI q29.2⟩]) (v':=(i64 q29.1)) [1] Aa Lu (B7 gq29) rfl (by decide) rfl U (.pure (AL fun _=>U) .nil) rfl U (.pure (AL fun _=>U) .nil) .nil U U (fun hln=>?_)
  have ln30:List.length q29.2=List.length c28.args:=by simpa only[List.length_map] using hln 0 _ _ rfl rfl rfl
  refine An (Wk.take (id:=0) (m:=1) (j:=4) (i:=i5) (c:=c28) (ys:=q29.2) (encY:=eI) rfl gc28 U U (by first | (simp only[Sh.Af];done) | (simp only[Sh.Af];omega) | omega) (by decide) (show 1≤1 by decide) (fun _=>U) rfl U) ?_
  refine An (B6 (id:=0) (i:=i5) (u:=(Ag.mk c28.op c28.dst c28.num c28.BX q29.2 c28.jumps)) rfl U U) ?_
  generalize hg905:Sh.put lg904 i5 (Ag.mk c28.op c28.dst c28.num c28.BX q29.2 c28.jumps)=lg905 at h1 ⊢
  have ln905:=congrArg List.length hg905
  simp only[Sh.Af] at ln905
  refine zq tb U (dn hK27 U (AF U (zm tb 2 U (bs h1 fun c31 gc31 h1=>?_))))
  refine zz (.ptr 0 0 (Int.toNat i5) 0) (BB IC U U U (by first | (simp only[Sh.Af];done) | (simp only[Sh.Af];omega) | omega) gc31) rfl ?_
  refine zq tb U (An (Ew (id:=0) (j:=5) (i:=i5) (c:=c31) (ys:=c31.jumps) (encY:=eI) rfl gc31 U U U U U) (zz (ow 2 0 c31.jumps) (Be HX U U (ED gc31) rfl) rfl (zq tb U (bs h1 fun q32 gq32 h1=>?_))))
  refine CJ (rowsP:=[⟨0,3,1,List.map eI c31.jumps⟩]) (rows0:=[⟨0,3,1,List.map eI c31.jumps⟩]) (rows1:=[⟨0,3,1,List.map eI q32.2⟩]) (rows2:=[]) (rows1':=[⟨0,3,1,List.map eI q32.2⟩]) (rows2':=[]) (st':=[⟨0,132,6,hole lg905 (Ba 3 3) i5 [(i64 c31.op),(i64 c31.dst),(i64 c31.num),(i64 c31.BX),(.dv 3 1 (List.map eI c31.args)),(.own 2 0 (List.length c31.jumps))]⟩,⟨1,3,1,[]⟩,⟨0,3,1,List.map eI q32.2⟩]) (v':=(i64 q32.1)) [2] Aa Lu (B7 gq32) rfl (by decide) rfl U (.pure (AL fun _=>U) .nil) rfl U (.pure (AL fun _=>U) .nil) .nil U U (fun hln=>?_)
  have ln33:List.length q32.2=List.length c31.jumps:=by simpa only[List.length_map] using hln 0 _ _ rfl rfl rfl
  refine An (Wk.take (id:=0) (m:=2) (j:=5) (i:=i5) (c:=c31) (ys:=q32.2) (encY:=eI) rfl gc31 U U (by first | (simp only[Sh.Af];done) | (simp only[Sh.Af];omega) | omega) (by decide) (show 1≤2 by decide) (fun _=>U) rfl U) ?_
  refine An (B6 (id:=0) (i:=i5) (u:=(Ag.mk c31.op c31.dst c31.num c31.BX c31.args q32.2)) rfl U U) ?_
  generalize hg906:Sh.put lg905 i5 (Ag.mk c31.op c31.dst c31.num c31.BX c31.args q32.2)=lg906 at h1 ⊢
  have ln906:=congrArg List.length hg906
  simp only[Sh.Af] at ln906
  refine zq tb U (dn hK14 U (AF U (zm tb 3 U ?_)))
  exact AD (xi (q32.1,Sh.w (i5+1),lg906) h1 (by refine Wk.trans (AP (L:=[(0,(.own 0 0 (List.length l6))),(1,(i64 q32.1)),(5,(i64 (Sh.w (i5+1))))]) (st':=[⟨0,132,6,List.map (Ba 3 3) lg906⟩]) (st1:=[⟨0,132,6,List.map (Ba 3 3) lg906⟩]) [0] U (.deep (Ar fun _=>U) .nil) (by decide) rfl U (.deep (Ar fun _=>U) .nil) ⟨.rfl,.rfl,.rfl,trivial⟩) ?_;exact AM (L:=[(0,(.own 0 0 (List.length lg906))),(1,(i64 q32.1)),(5,(i64 (Sh.w (i5+1))))]) ⟨(.len (by first | (simp only[Sh.Af];done) | (simp only[Sh.Af];omega) | omega)),.rfl,.rfl,trivial⟩))
 ·intro b13 h1
  exact Ad (M9 k4 l6 (Sh.AA h1).symm _ (AE U))
theorem OJ {N:Nat} {s0:(List A0)} {p1:Int} {r:Int×(List A0)} (h0:GW N s0 p1=some r):AY Tryz.prog 40 [(ow 0 0 s0),(i64 p1)] [(ro 0 99 5 (BP 3 3 132 3 3) s0)] (fun v st=>v=(i64 r.1)∧st=[(ro 0 99 5 (BP 3 3 132 3 3) r.2)]):=by
 unfold GW at h0
 refine ai Tryz.func40 U U U U (zr tb U U (AB fun K2 hK2=>zr tb U U (bs h0 fun o9 h1 h0=>?_)))
 have M9 :∀(k7:Int) (l8:(List A0)),o9=(k7,l8)→∀s,Wk 1 s ⟨48,AS [(1,(i64 k7))],[(ro 0 99 5 (BP 3 3 132 3 3) l8)]⟩→K2 s:=by
  intro k7 l8 hq s hw
  subst o9
  try dsimp only at h0
  refine hK2 _ (AI hw (zr tb U U ?_))
  replace h0:=Sh.AA h0
  subst r
  exact AH (xr (AM (L:=[(4,(i64 k7))]) ⟨.rfl,trivial⟩))
 refine AJ (AX (σ:=Int×Int×(List A0)) (fun n v=>DR N n v.1 v.2.1 v.2.2=some o9) (fun (k4,i5,l6)=>⟨48,AS [(0,(ow 0 0 l6)),(1,(i64 k4)),(5,(i64 i5))],[(ro 0 99 5 (BP 3 3 132 3 3) l6)]⟩) N (p1,0,s0) h1 (AE U) (fun _ hv=>by rw[DR] at hv;cases hv) ?_)
 rintro n ⟨k4,i5,l6⟩ h1
 try dsimp only at h1 ⊢
 rw[DR] at h1
 refine AB fun K11 hK11=>sr U fun K12 hK12=>zm tb 2 U (zz (i64 (Sh.len l6)) (Df aX U U U) rfl (zq tb U (dn hK12 U ?_)))
 refine ci h1 U ?_ ?_ <;> clear h1
 ·intro b13 h1
  refine AG (hK11 _ (AB fun K14 hK14=>AJ (sr U fun K15 hK15=>zm tb 2 U (bs h1 fun c16 gc16 h1=>zz (.ptr 0 0 (Int.toNat i5) 0) (BB H7 U U U U gc16) rfl (zq tb U (An (Ew (id:=0) (j:=0) (i:=i5) (c:=c16) (ys:=c16.params) (encY:=eI) rfl gc16 U U U U U) (zz (ow 1 0 c16.params) (Be HX U U (ED gc16) rfl) rfl (zq tb U (bs h1 fun q17 gq17 h1=>?_)))))))))
  refine CJ (rowsP:=[⟨0,3,1,List.map eI c16.params⟩]) (rows0:=[⟨0,3,1,List.map eI c16.params⟩]) (rows1:=[⟨0,3,1,List.map eI q17.2⟩]) (rows2:=[]) (rows1':=[⟨0,3,1,List.map eI q17.2⟩]) (rows2':=[]) (st':=[⟨0,99,5,hole l6 (BP 3 3 132 3 3) i5 [(.own 1 0 (List.length c16.params)),(.dv 3 1 (List.map eI c16.BH)),(i64 c16.result),(i64 c16.Ab),(.dv 132 6 (List.map (Ba 3 3) c16.code))]⟩,⟨0,3,1,List.map eI q17.2⟩]) (v':=(i64 q17.1)) [1] Aa Lu (B7 gq17) rfl (by decide) rfl U (.pure (AL fun _=>U) .nil) rfl U (.pure (AL fun _=>U) .nil) .nil U U (fun hln=>?_)
  have ln18:List.length q17.2=List.length c16.params:=by simpa only[List.length_map] using hln 0 _ _ rfl rfl rfl
  refine An (Wk.take (id:=0) (m:=1) (j:=0) (i:=i5) (c:=c16) (ys:=q17.2) (encY:=eI) rfl gc16 U U (by first | (simp only[Sh.Af];done) | (simp only[Sh.Af];omega) | omega) (by decide) (show 1≤1 by decide) (fun _=>U) rfl U) ?_
  refine An (B6 (id:=0) (i:=i5) (u:=(A0.mk q17.2 c16.BH c16.result c16.Ab c16.code)) rfl U U) ?_
  generalize hg901:Sh.put l6 i5 (A0.mk q17.2 c16.BH c16.result c16.Ab c16.code)=lg901 at h1 ⊢
  have ln901:=congrArg List.length hg901
  simp only[Sh.Af] at ln901
  refine zq tb U (dn hK15 U (sr U fun K19 hK19=>zm tb 2 U (bs h1 fun c20 gc20 h1=>?_)))
  refine zz (.ptr 0 0 (Int.toNat i5) 0) (BB H7 U U U (by first | (simp only[Sh.Af];done) | (simp only[Sh.Af];omega) | omega) gc20) rfl ?_
  refine zq tb U (An (Ew (id:=0) (j:=1) (i:=i5) (c:=c20) (ys:=c20.BH) (encY:=eI) rfl gc20 U U U U U) (zz (ow 2 0 c20.BH) (Be HX U U (ED gc20) rfl) rfl (zq tb U (bs h1 fun q21 gq21 h1=>?_))))
  refine CJ (rowsP:=[⟨0,3,1,List.map eI c20.BH⟩]) (rows0:=[⟨0,3,1,List.map eI c20.BH⟩]) (rows1:=[⟨0,3,1,List.map eI q21.2⟩]) (rows2:=[]) (rows1':=[⟨0,3,1,List.map eI q21.2⟩]) (rows2':=[]) (st':=[⟨0,99,5,hole lg901 (BP 3 3 132 3 3) i5 [(.dv 3 1 (List.map eI c20.params)),(.own 2 0 (List.length c20.BH)),(i64 c20.result),(i64 c20.Ab),(.dv 132 6 (List.map (Ba 3 3) c20.code))]⟩,⟨1,3,1,[]⟩,⟨0,3,1,List.map eI q21.2⟩]) (v':=(i64 q21.1)) [2] Aa Lu (B7 gq21) rfl (by decide) rfl U (.pure (AL fun _=>U) .nil) rfl U (.pure (AL fun _=>U) .nil) .nil U U (fun hln=>?_)
  have ln22:List.length q21.2=List.length c20.BH:=by simpa only[List.length_map] using hln 0 _ _ rfl rfl rfl
  refine An (Wk.take (id:=0) (m:=2) (j:=1) (i:=i5) (c:=c20) (ys:=q21.2) (encY:=eI) rfl gc20 U U (by first | (simp only[Sh.Af];done) | (simp only[Sh.Af];omega) | omega) (by decide) (show 1≤2 by decide) (fun _=>U) rfl U) ?_
  refine An (B6 (id:=0) (i:=i5) (u:=(A0.mk c20.params q21.2 c20.result c20.Ab c20.code)) rfl U U) ?_
  generalize hg902:Sh.put lg901 i5 (A0.mk c20.params q21.2 c20.result c20.Ab c20.code)=lg902 at h1 ⊢
  have ln902:=congrArg List.length hg902
  simp only[Sh.Af] at ln902
  refine zq tb U (dn hK19 U (sr U fun K23 hK23=>zm tb 3 U (bs h1 fun c24 gc24 h1=>?_)))
  refine zz (.ptr 0 0 (Int.toNat i5) 0) (BB H7 U U U (by first | (simp only[Sh.Af];done) | (simp only[Sh.Af];omega) | omega) gc24) rfl ?_
  refine zq tb U (Cx (u':=(A0.mk c24.params c24.BH q21.1 c24.Ab c24.code)) Aa EB U U gc24 U U U (show 2+1≤5 by decide) rfl U ?_)
  generalize hg903:Sh.put lg902 i5 (A0.mk c24.params c24.BH q21.1 c24.Ab c24.code)=lg903 at h1 ⊢
  have ln903:=congrArg List.length hg903
  simp only[Sh.Af] at ln903
  refine dn hK23 U (zr tb U U (sr U fun K26 hK26=>zm tb 3 U (bs h1 fun c27 gc27 h1=>?_)))
  refine zz (.ptr 0 0 (Int.toNat i5) 0) (BB H7 U U U (by first | (simp only[Sh.Af];done) | (simp only[Sh.Af];omega) | omega) gc27) rfl ?_
  refine zq tb U (Cx (u':=(A0.mk c27.params c27.BH c27.result (Sh.w (q21.1+1)) c27.code)) Aa EB U U gc27 U U U (show 3+1≤5 by decide) rfl U ?_)
  generalize hg904:Sh.put lg903 i5 (A0.mk c27.params c27.BH c27.result (Sh.w (q21.1+1)) c27.code)=lg904 at h1 ⊢
  have ln904:=congrArg List.length hg904
  simp only[Sh.Af] at ln904
  refine dn hK26 U (zr tb U U (AF U (zm tb 2 U (bs h1 fun c29 gc29 h1=>?_))))
  refine zz (.ptr 0 0 (Int.toNat i5) 0) (BB H7 U U U (by first | (simp only[Sh.Af];done) | (simp only[Sh.Af];omega) | omega) gc29) rfl ?_
  refine zq tb U (An (Ew (id:=0) (j:=4) (i:=i5) (c:=c29) (ys:=c29.code) (encY:=(Ba 3 3)) rfl gc29 U U U U U) (zz (ow 3 0 c29.code) (Be aR U U (ED gc29) rfl) rfl (zq tb U (bs h1 fun q30 gq30 h1=>?_))))
  refine CJ (rowsP:=[⟨0,132,6,List.map (Ba 3 3) c29.code⟩]) (rows0:=[⟨0,132,6,List.map (Ba 3 3) c29.code⟩]) (rows1:=[⟨0,132,6,List.map (Ba 3 3) q30.2⟩]) (rows2:=[]) (rows1':=[⟨0,132,6,List.map (Ba 3 3) q30.2⟩]) (rows2':=[]) (st':=[⟨0,99,5,hole lg904 (BP 3 3 132 3 3) i5 [(.dv 3 1 (List.map eI c29.params)),(.dv 3 1 (List.map eI c29.BH)),(i64 c29.result),(i64 c29.Ab),(.own 3 0 (List.length c29.code))]⟩,⟨1,3,1,[]⟩,⟨1,3,1,[]⟩,⟨0,132,6,List.map (Ba 3 3) q30.2⟩]) (v':=(i64 q30.1)) [3] Aa dG (Mv gq30) rfl (by decide) rfl U (.deep (Ar fun _=>U) .nil) rfl U (.deep (Ar fun _=>U) .nil) .nil U U (fun hln=>?_)
  have ln31:List.length q30.2=List.length c29.code:=by simpa only[List.length_map] using hln 0 _ _ rfl rfl rfl
  refine An (Wk.take (id:=0) (m:=3) (j:=4) (i:=i5) (c:=c29) (ys:=q30.2) (encY:=(Ba 3 3)) rfl gc29 U U (by first | (simp only[Sh.Af];done) | (simp only[Sh.Af];omega) | omega) (by decide) (show 1≤3 by decide) (fun _=>U) rfl U) ?_
  refine An (B6 (id:=0) (i:=i5) (u:=(A0.mk c29.params c29.BH c29.result c29.Ab q30.2)) rfl U U) ?_
  generalize hg905:Sh.put lg904 i5 (A0.mk c29.params c29.BH c29.result c29.Ab q30.2)=lg905 at h1 ⊢
  have ln905:=congrArg List.length hg905
  simp only[Sh.Af] at ln905
  refine zq tb U (dn hK14 U (AF U (zm tb 3 U ?_)))
  exact AD (xi (q30.1,Sh.w (i5+1),lg905) h1 (by refine Wk.trans (AP (L:=[(0,(.own 0 0 (List.length l6))),(1,(i64 q30.1)),(5,(i64 (Sh.w (i5+1))))]) (st':=[⟨0,99,5,List.map (BP 3 3 132 3 3) lg905⟩]) (st1:=[⟨0,99,5,List.map (BP 3 3 132 3 3) lg905⟩]) [0] U (.deep (Ar fun _=>U) .nil) (by decide) rfl U (.deep (Ar fun _=>U) .nil) ⟨.rfl,.rfl,.rfl,trivial⟩) ?_;exact AM (L:=[(0,(.own 0 0 (List.length lg905))),(1,(i64 q30.1)),(5,(i64 (Sh.w (i5+1))))]) ⟨(.len (by first | (simp only[Sh.Af];done) | (simp only[Sh.Af];omega) | omega)),.rfl,.rfl,trivial⟩))
 ·intro b13 h1
  exact Ad (M9 k4 l6 (Sh.AA h1).symm _ (AE U))
theorem Nd {N:Nat} {s0:(List Am)} {s1:(List A0)} {p1:Int} {r:Int×(List Am)×(List A0)} (h0:GV N s0 s1 p1=some r):AY Tryz.prog 14 [(.agg [(ow 0 0 s0),(ow 1 0 s1)]),(i64 p1)] [(ro 0 104 3 (BV 155 3) s0),(ro 0 99 5 (BP 3 3 132 3 3) s1)] (fun v st=>v=(i64 r.1)∧st=[(ro 0 104 3 (BV 155 3) r.2.1),(ro 0 99 5 (BP 3 3 132 3 3) r.2.2)]):=by
 unfold GV at h0
 refine ai Tryz.func14 U U U U (sr U fun K1 hK1=>A7 (m:=2) Aa U U U U U (zq tb U (dn hK1 U (sr U fun K2 hK2=>zm tb 3 U (bs h0 fun q3 gq3 h0=>?_)))))
 refine CJ (rowsP:=[⟨0,104,3,List.map (BV 155 3) s0⟩]) (rows0:=[⟨0,104,3,List.map (BV 155 3) s0⟩]) (rows1:=[⟨0,104,3,List.map (BV 155 3) q3.2⟩]) (rows2:=[]) (rows1':=[⟨0,104,3,List.map (BV 155 3) q3.2⟩]) (rows2':=[]) (st':=[⟨0,104,3,List.map (BV 155 3) q3.2⟩,⟨0,99,5,List.map (BP 3 3 132 3 3) s1⟩,⟨0,37,2,[[(.own 0 0 (List.length s0)),(.own 1 0 (List.length s1))]]⟩]) (v':=(i64 q3.1)) [0] Aa eN (Nf gq3) rfl (by decide) rfl U (.deep (Ar fun _=>U) .nil) rfl U (.deep (Ar fun _=>U) .nil) .nil U U (fun hln=>?_)
 have ln4:List.length q3.2=List.length s0:=by simpa only[List.length_map] using hln 0 _ _ rfl rfl rfl
 refine zq tb U (dn hK2 U (sr U fun K5 hK5=>zm tb 3 U (bs h0 fun q6 gq6 h0=>?_)))
 refine CJ (rowsP:=[⟨0,99,5,List.map (BP 3 3 132 3 3) s1⟩]) (rows0:=[⟨0,99,5,List.map (BP 3 3 132 3 3) s1⟩]) (rows1:=[⟨0,99,5,List.map (BP 3 3 132 3 3) q6.2⟩]) (rows2:=[]) (rows1':=[⟨0,99,5,List.map (BP 3 3 132 3 3) q6.2⟩]) (rows2':=[]) (st':=[⟨0,104,3,List.map (BV 155 3) q3.2⟩,⟨0,99,5,List.map (BP 3 3 132 3 3) q6.2⟩,⟨0,37,2,[[(.own 0 0 (List.length s0)),(.own 1 0 (List.length s1))]]⟩]) (v':=(i64 q6.1)) [1] Aa cW (OJ gq6) rfl (by decide) rfl U (.deep (Ar fun _=>U) .nil) rfl U (.deep (Ar fun _=>U) .nil) .nil U U (fun hln=>?_)
 have ln7:List.length q6.2=List.length s1:=by simpa only[List.length_map] using hln 0 _ _ rfl rfl rfl
 refine zq tb U (dn hK5 U (zr tb U U ?_))
 replace h0:=Sh.AA h0
 subst r
 exact AH (Exists.intro _ (And.intro (((GJ (st:=[⟨0,104,3,List.map (BV 155 3) q3.2⟩,⟨0,99,5,List.map (BP 3 3 132 3 3) q6.2⟩,⟨0,37,2,[[(.own 0 0 (List.length s0)),(.own 1 0 (List.length s1))]]⟩]) (st':=[⟨0,104,3,List.map (BV 155 3) q3.2⟩,⟨0,99,5,List.map (BP 3 3 132 3 3) q6.2⟩,⟨0,37,2,[[(.own 0 0 (List.length q3.2)),(.own 1 0 (List.length q6.2))]]⟩]) (by first | (simp only[Sh.Af];done) | simp only[Sh.Af,ln4,ln7] | simp only[ln4,ln7])).trans (AP (L:=[(4,(i64 q6.1))]) (st':=[⟨0,104,3,List.map (BV 155 3) q3.2⟩,⟨0,99,5,List.map (BP 3 3 132 3 3) q6.2⟩]) (st1:=[⟨0,104,3,List.map (BV 155 3) q3.2⟩,⟨0,99,5,List.map (BP 3 3 132 3 3) q6.2⟩]) [0,1] U (.deep (Ar fun _=>U) (.deep (Ar fun _=>U) .nil)) (by decide) rfl U (.deep (Ar fun _=>U) (.deep (Ar fun _=>U) .nil)) ⟨.rfl,trivial⟩)).trans (AM (L:=[(4,(i64 q6.1))]) ⟨.rfl,trivial⟩)) (And.intro U U)))
theorem NY {N:Nat} {s0:(List Cell)} {p1:Int} {r:Int×(List Cell)} (h0:Gd N s0 p1=some r):AY Tryz.prog 41 [(ow 0 0 s0),(i64 p1)] [(ro 0 71 3 (Bd 3) s0)] (fun v st=>v=(i64 r.1)∧st=[(ro 0 71 3 (Bd 3) r.2)]):=by
 unfold Gd at h0
 refine ai Tryz.func41 U U U U (zr tb U U (AB fun K2 hK2=>zr tb U U (bs h0 fun o9 h1 h0=>?_)))
 have M9 :∀(k7:Int) (l8:(List Cell)),o9=(k7,l8)→∀s,Wk 1 s ⟨34,AS [(1,(i64 k7))],[(ro 0 71 3 (Bd 3) l8)]⟩→K2 s:=by
  intro k7 l8 hq s hw
  subst o9
  try dsimp only at h0
  refine hK2 _ (AI hw (zr tb U U ?_))
  replace h0:=Sh.AA h0
  subst r
  exact AH (xr (AM (L:=[(4,(i64 k7))]) ⟨.rfl,trivial⟩))
 refine AJ (AX (σ:=Int×Int×(List Cell)) (fun n v=>DK N n v.1 v.2.1 v.2.2=some o9) (fun (k4,i5,l6)=>⟨34,AS [(0,(ow 0 0 l6)),(1,(i64 k4)),(5,(i64 i5))],[(ro 0 71 3 (Bd 3) l6)]⟩) N (p1,0,s0) h1 (AE U) (fun _ hv=>by rw[DK] at hv;cases hv) ?_)
 rintro n ⟨k4,i5,l6⟩ h1
 try dsimp only at h1 ⊢
 rw[DK] at h1
 refine AB fun K11 hK11=>sr U fun K12 hK12=>zm tb 2 U (zz (i64 (Sh.len l6)) (Df TG U U U) rfl (zq tb U (dn hK12 U ?_)))
 refine ci h1 U ?_ ?_ <;> clear h1
 ·intro b13 h1
  refine AG (hK11 _ (AB fun K14 hK14=>AJ (sr U fun K15 hK15=>zm tb 3 U (bs h1 fun c16 gc16 h1=>zz (.ptr 0 0 (Int.toNat i5) 0) (BB FR U U U U gc16) rfl (zq tb U (Cx (u':=(Cell.mk k4 c16.tag c16.fields)) Aa EB U U gc16 U U U (show 0+1≤3 by decide) rfl U ?_))))))
  generalize hg901:Sh.put l6 i5 (Cell.mk k4 c16.tag c16.fields)=lg901 at h1 ⊢
  have ln901:=congrArg List.length hg901
  simp only[Sh.Af] at ln901
  refine dn hK15 U (zr tb U U (sr U fun K18 hK18=>zm tb 3 U (bs h1 fun c19 gc19 h1=>?_)))
  refine zz (.ptr 0 0 (Int.toNat i5) 0) (BB FR U U U (by first | (simp only[Sh.Af];done) | omega) gc19) rfl ?_
  refine zq tb U (Cx (u':=(Cell.mk c19.count (Sh.w (k4+1)) c19.fields)) Aa EB U U gc19 U U U (show 1+1≤3 by decide) rfl U ?_)
  generalize hg902:Sh.put lg901 i5 (Cell.mk c19.count (Sh.w (k4+1)) c19.fields)=lg902 at h1 ⊢
  have ln902:=congrArg List.length hg902
  simp only[Sh.Af] at ln902
  refine dn hK18 U (zr tb U U (AF U (zm tb 2 U (bs h1 fun c21 gc21 h1=>?_))))
  refine zz (.ptr 0 0 (Int.toNat i5) 0) (BB FR U U U (by first | (simp only[Sh.Af];done) | omega) gc21) rfl ?_
  refine zq tb U (An (Ew (id:=0) (j:=2) (i:=i5) (c:=c21) (ys:=c21.fields) (encY:=eI) rfl gc21 U U U U U) (zz (ow 1 0 c21.fields) (Be HX U U (ED gc21) rfl) rfl (zq tb U (bs h1 fun q22 gq22 h1=>?_))))
  refine CJ (rowsP:=[⟨0,3,1,List.map eI c21.fields⟩]) (rows0:=[⟨0,3,1,List.map eI c21.fields⟩]) (rows1:=[⟨0,3,1,List.map eI q22.2⟩]) (rows2:=[]) (rows1':=[⟨0,3,1,List.map eI q22.2⟩]) (rows2':=[]) (st':=[⟨0,71,3,hole lg902 (Bd 3) i5 [(i64 c21.count),(i64 c21.tag),(.own 1 0 (List.length c21.fields))]⟩,⟨0,3,1,List.map eI q22.2⟩]) (v':=(i64 q22.1)) [1] Aa Lu (B7 gq22) rfl (by decide) rfl U (.pure (AL fun _=>U) .nil) rfl U (.pure (AL fun _=>U) .nil) .nil U U (fun hln=>?_)
  have ln23:List.length q22.2=List.length c21.fields:=by simpa only[List.length_map] using hln 0 _ _ rfl rfl rfl
  refine An (Wk.take (id:=0) (m:=1) (j:=2) (i:=i5) (c:=c21) (ys:=q22.2) (encY:=eI) rfl gc21 U U (by first | (simp only[Sh.Af];done) | (simp only[Sh.Af];omega) | omega) (by decide) (show 1≤1 by decide) (fun _=>U) rfl U) ?_
  refine An (B6 (id:=0) (i:=i5) (u:=(Cell.mk c21.count c21.tag q22.2)) rfl U U) ?_
  generalize hg903:Sh.put lg902 i5 (Cell.mk c21.count c21.tag q22.2)=lg903 at h1 ⊢
  have ln903:=congrArg List.length hg903
  simp only[Sh.Af] at ln903
  refine zq tb U (dn hK14 U (AF U (zm tb 3 U ?_)))
  exact AD (xi (q22.1,Sh.w (i5+1),lg903) h1 (by refine Wk.trans (AP (L:=[(0,(.own 0 0 (List.length l6))),(1,(i64 q22.1)),(5,(i64 (Sh.w (i5+1))))]) (st':=[⟨0,71,3,List.map (Bd 3) lg903⟩]) (st1:=[⟨0,71,3,List.map (Bd 3) lg903⟩]) [0] U (.deep (Ar fun _=>U) .nil) (by decide) rfl U (.deep (Ar fun _=>U) .nil) ⟨.rfl,.rfl,.rfl,trivial⟩) ?_;exact AM (L:=[(0,(.own 0 0 (List.length lg903))),(1,(i64 q22.1)),(5,(i64 (Sh.w (i5+1))))]) ⟨(.len (by first | (simp only[Sh.Af];done) | (simp only[Sh.Af];omega) | omega)),.rfl,.rfl,trivial⟩))
 ·intro b13 h1
  exact Ad (M9 k4 l6 (Sh.AA h1).symm _ (AE U))
theorem Mx {N:Nat} {s0:(List Ah)} {p1:Int} {r:Int×(List Ah)} (h0:Fw N s0 p1=some r):AY Tryz.prog 42 [(ow 0 0 s0),(i64 p1)] [(ro 0 94 6 (BF 3 3 3) s0)] (fun v st=>v=(i64 r.1)∧st=[(ro 0 94 6 (BF 3 3 3) r.2)]):=by
 unfold Fw at h0
 refine ai Tryz.func42 U U U U (zr tb U U (AB fun K2 hK2=>zr tb U U (bs h0 fun o9 h1 h0=>?_)))
 have M9 :∀(k7:Int) (l8:(List Ah)),o9=(k7,l8)→∀s,Wk 1 s ⟨55,AS [(1,(i64 k7))],[(ro 0 94 6 (BF 3 3 3) l8)]⟩→K2 s:=by
  intro k7 l8 hq s hw
  subst o9
  try dsimp only at h0
  refine hK2 _ (AI hw (zr tb U U ?_))
  replace h0:=Sh.AA h0
  subst r
  exact AH (xr (AM (L:=[(4,(i64 k7))]) ⟨.rfl,trivial⟩))
 refine AJ (AX (σ:=Int×Int×(List Ah)) (fun n v=>C7 N n v.1 v.2.1 v.2.2=some o9) (fun (k4,i5,l6)=>⟨55,AS [(0,(ow 0 0 l6)),(1,(i64 k4)),(5,(i64 i5))],[(ro 0 94 6 (BF 3 3 3) l6)]⟩) N (p1,0,s0) h1 (AE U) (fun _ hv=>by rw[C7] at hv;cases hv) ?_)
 rintro n ⟨k4,i5,l6⟩ h1
 try dsimp only at h1 ⊢
 rw[C7] at h1
 refine AB fun K11 hK11=>sr U fun K12 hK12=>zm tb 2 U (zz (i64 (Sh.len l6)) (Df XE U U U) rfl (zq tb U (dn hK12 U ?_)))
 refine ci h1 U ?_ ?_ <;> clear h1
 ·intro b13 h1
  refine AG (hK11 _ (AB fun K14 hK14=>AJ (sr U fun K15 hK15=>zm tb 3 U (bs h1 fun c16 gc16 h1=>zz (.ptr 0 0 (Int.toNat i5) 0) (BB GR U U U U gc16) rfl (zq tb U (Cx (u':=(Ah.mk k4 c16.at_ c16.dst c16.Ab c16.own c16.held)) Aa EB U U gc16 U U U (show 0+1≤6 by decide) rfl U ?_))))))
  generalize hg901:Sh.put l6 i5 (Ah.mk k4 c16.at_ c16.dst c16.Ab c16.own c16.held)=lg901 at h1 ⊢
  have ln901:=congrArg List.length hg901
  simp only[Sh.Af] at ln901
  refine dn hK15 U (zr tb U U (sr U fun K18 hK18=>zm tb 3 U (bs h1 fun c19 gc19 h1=>?_)))
  refine zz (.ptr 0 0 (Int.toNat i5) 0) (BB GR U U U (by first | (simp only[Sh.Af];done) | omega) gc19) rfl ?_
  refine zq tb U (Cx (u':=(Ah.mk c19.proc (Sh.w (k4+1)) c19.dst c19.Ab c19.own c19.held)) Aa EB U U gc19 U U U (show 1+1≤6 by decide) rfl U ?_)
  generalize hg902:Sh.put lg901 i5 (Ah.mk c19.proc (Sh.w (k4+1)) c19.dst c19.Ab c19.own c19.held)=lg902 at h1 ⊢
  have ln902:=congrArg List.length hg902
  simp only[Sh.Af] at ln902
  refine dn hK18 U (zr tb U U (sr U fun K21 hK21=>zm tb 3 U (bs h1 fun c22 gc22 h1=>?_)))
  refine zz (.ptr 0 0 (Int.toNat i5) 0) (BB GR U U U (by first | (simp only[Sh.Af];done) | omega) gc22) rfl ?_
  refine zq tb U (Cx (u':=(Ah.mk c22.proc c22.at_ (Sh.w ((Sh.w (k4+1)) + 1)) c22.Ab c22.own c22.held)) Aa EB U U gc22 U U U (show 2+1≤6 by decide) rfl U ?_)
  generalize hg903:Sh.put lg902 i5 (Ah.mk c22.proc c22.at_ (Sh.w ((Sh.w (k4+1)) + 1)) c22.Ab c22.own c22.held)=lg903 at h1 ⊢
  have ln903:=congrArg List.length hg903
  simp only[Sh.Af] at ln903
  refine dn hK21 U (zr tb U U (sr U fun K24 hK24=>zm tb 2 U (bs h1 fun c25 gc25 h1=>?_)))
  refine zz (.ptr 0 0 (Int.toNat i5) 0) (BB GR U U U (by first | (simp only[Sh.Af];done) | omega) gc25) rfl ?_
  refine zq tb U (An (Ew (id:=0) (j:=3) (i:=i5) (c:=c25) (ys:=c25.Ab) (encY:=eI) rfl gc25 U U U U U) (zz (ow 1 0 c25.Ab) (Be HX U U (ED gc25) rfl) rfl (zq tb U (bs h1 fun q26 gq26 h1=>?_))))
  refine CJ (rowsP:=[⟨0,3,1,List.map eI c25.Ab⟩]) (rows0:=[⟨0,3,1,List.map eI c25.Ab⟩]) (rows1:=[⟨0,3,1,List.map eI q26.2⟩]) (rows2:=[]) (rows1':=[⟨0,3,1,List.map eI q26.2⟩]) (rows2':=[]) (st':=[⟨0,94,6,hole lg903 (BF 3 3 3) i5 [(i64 c25.proc),(i64 c25.at_),(i64 c25.dst),(.own 1 0 (List.length c25.Ab)),(.dv 3 1 (List.map eI c25.own)),(.dv 3 1 (List.map eI c25.held))]⟩,⟨0,3,1,List.map eI q26.2⟩]) (v':=(i64 q26.1)) [1] Aa Lu (B7 gq26) rfl (by decide) rfl U (.pure (AL fun _=>U) .nil) rfl U (.pure (AL fun _=>U) .nil) .nil U U (fun hln=>?_)
  have ln27:List.length q26.2=List.length c25.Ab:=by simpa only[List.length_map] using hln 0 _ _ rfl rfl rfl
  refine An (Wk.take (id:=0) (m:=1) (j:=3) (i:=i5) (c:=c25) (ys:=q26.2) (encY:=eI) rfl gc25 U U (by first | (simp only[Sh.Af];done) | (simp only[Sh.Af];omega) | omega) (by decide) (show 1≤1 by decide) (fun _=>U) rfl U) ?_
  refine An (B6 (id:=0) (i:=i5) (u:=(Ah.mk c25.proc c25.at_ c25.dst q26.2 c25.own c25.held)) rfl U U) ?_
  generalize hg904:Sh.put lg903 i5 (Ah.mk c25.proc c25.at_ c25.dst q26.2 c25.own c25.held)=lg904 at h1 ⊢
  have ln904:=congrArg List.length hg904
  simp only[Sh.Af] at ln904
  refine zq tb U (dn hK24 U (sr U fun K28 hK28=>zm tb 2 U (bs h1 fun c29 gc29 h1=>?_)))
  refine zz (.ptr 0 0 (Int.toNat i5) 0) (BB GR U U U (by first | (simp only[Sh.Af];done) | (simp only[Sh.Af];omega) | omega) gc29) rfl ?_
  refine zq tb U (An (Ew (id:=0) (j:=4) (i:=i5) (c:=c29) (ys:=c29.own) (encY:=eI) rfl gc29 U U U U U) (zz (ow 2 0 c29.own) (Be HX U U (ED gc29) rfl) rfl (zq tb U (bs h1 fun q30 gq30 h1=>?_))))
  refine CJ (rowsP:=[⟨0,3,1,List.map eI c29.own⟩]) (rows0:=[⟨0,3,1,List.map eI c29.own⟩]) (rows1:=[⟨0,3,1,List.map eI q30.2⟩]) (rows2:=[]) (rows1':=[⟨0,3,1,List.map eI q30.2⟩]) (rows2':=[]) (st':=[⟨0,94,6,hole lg904 (BF 3 3 3) i5 [(i64 c29.proc),(i64 c29.at_),(i64 c29.dst),(.dv 3 1 (List.map eI c29.Ab)),(.own 2 0 (List.length c29.own)),(.dv 3 1 (List.map eI c29.held))]⟩,⟨1,3,1,[]⟩,⟨0,3,1,List.map eI q30.2⟩]) (v':=(i64 q30.1)) [2] Aa Lu (B7 gq30) rfl (by decide) rfl U (.pure (AL fun _=>U) .nil) rfl U (.pure (AL fun _=>U) .nil) .nil U U (fun hln=>?_)
  have ln31:List.length q30.2=List.length c29.own:=by simpa only[List.length_map] using hln 0 _ _ rfl rfl rfl
  refine An (Wk.take (id:=0) (m:=2) (j:=4) (i:=i5) (c:=c29) (ys:=q30.2) (encY:=eI) rfl gc29 U U (by first | (simp only[Sh.Af];done) | (simp only[Sh.Af];omega) | omega) (by decide) (show 1≤2 by decide) (fun _=>U) rfl U) ?_
  refine An (B6 (id:=0) (i:=i5) (u:=(Ah.mk c29.proc c29.at_ c29.dst c29.Ab q30.2 c29.held)) rfl U U) ?_
  generalize hg905:Sh.put lg904 i5 (Ah.mk c29.proc c29.at_ c29.dst c29.Ab q30.2 c29.held)=lg905 at h1 ⊢
  have ln905:=congrArg List.length hg905
  simp only[Sh.Af] at ln905
  refine zq tb U (dn hK28 U (AF U (zm tb 2 U (bs h1 fun c32 gc32 h1=>?_))))
  refine zz (.ptr 0 0 (Int.toNat i5) 0) (BB GR U U U (by first | (simp only[Sh.Af];done) | (simp only[Sh.Af];omega) | omega) gc32) rfl ?_
  refine zq tb U (An (Ew (id:=0) (j:=5) (i:=i5) (c:=c32) (ys:=c32.held) (encY:=eI) rfl gc32 U U U U U) (zz (ow 3 0 c32.held) (Be HX U U (ED gc32) rfl) rfl (zq tb U (bs h1 fun q33 gq33 h1=>?_))))
  refine CJ (rowsP:=[⟨0,3,1,List.map eI c32.held⟩]) (rows0:=[⟨0,3,1,List.map eI c32.held⟩]) (rows1:=[⟨0,3,1,List.map eI q33.2⟩]) (rows2:=[]) (rows1':=[⟨0,3,1,List.map eI q33.2⟩]) (rows2':=[]) (st':=[⟨0,94,6,hole lg905 (BF 3 3 3) i5 [(i64 c32.proc),(i64 c32.at_),(i64 c32.dst),(.dv 3 1 (List.map eI c32.Ab)),(.dv 3 1 (List.map eI c32.own)),(.own 3 0 (List.length c32.held))]⟩,⟨1,3,1,[]⟩,⟨1,3,1,[]⟩,⟨0,3,1,List.map eI q33.2⟩]) (v':=(i64 q33.1)) [3] Aa Lu (B7 gq33) rfl (by decide) rfl U (.pure (AL fun _=>U) .nil) rfl U (.pure (AL fun _=>U) .nil) .nil U U (fun hln=>?_)
  have ln34:List.length q33.2=List.length c32.held:=by simpa only[List.length_map] using hln 0 _ _ rfl rfl rfl
  refine An (Wk.take (id:=0) (m:=3) (j:=5) (i:=i5) (c:=c32) (ys:=q33.2) (encY:=eI) rfl gc32 U U (by first | (simp only[Sh.Af];done) | (simp only[Sh.Af];omega) | omega) (by decide) (show 1≤3 by decide) (fun _=>U) rfl U) ?_
  refine An (B6 (id:=0) (i:=i5) (u:=(Ah.mk c32.proc c32.at_ c32.dst c32.Ab c32.own q33.2)) rfl U U) ?_
  generalize hg906:Sh.put lg905 i5 (Ah.mk c32.proc c32.at_ c32.dst c32.Ab c32.own q33.2)=lg906 at h1 ⊢
  have ln906:=congrArg List.length hg906
  simp only[Sh.Af] at ln906
  refine zq tb U (dn hK14 U (AF U (zm tb 3 U ?_)))
  exact AD (xi (q33.1,Sh.w (i5+1),lg906) h1 (by refine Wk.trans (AP (L:=[(0,(.own 0 0 (List.length l6))),(1,(i64 q33.1)),(5,(i64 (Sh.w (i5+1))))]) (st':=[⟨0,94,6,List.map (BF 3 3 3) lg906⟩]) (st1:=[⟨0,94,6,List.map (BF 3 3 3) lg906⟩]) [0] U (.deep (Ar fun _=>U) .nil) (by decide) rfl U (.deep (Ar fun _=>U) .nil) ⟨.rfl,.rfl,.rfl,trivial⟩) ?_;exact AM (L:=[(0,(.own 0 0 (List.length lg906))),(1,(i64 q33.1)),(5,(i64 (Sh.w (i5+1))))]) ⟨(.len (by first | (simp only[Sh.Af];done) | (simp only[Sh.Af];omega) | omega)),.rfl,.rfl,trivial⟩))
 ·intro b13 h1
  exact Ad (M9 k4 l6 (Sh.AA h1).symm _ (AE U))
theorem OG {N:Nat} {s0:(List Int)} {s1:(List Cell)} {s2:(List Ah)} {p0_0:Int} {p0_1:Int} {p0_2:Int} {p0_3:Int} {p1:Int} {r:Int×(List Int)×(List Cell)×(List Ah)} (h0:GY N s0 s1 s2 p0_0 p0_1 p0_2 p0_3 p1=some r):AY Tryz.prog 15 [(.agg [(i64 p0_0),(i64 p0_1),(i64 p0_2),(i64 p0_3),(ow 0 0 s0),(ow 1 0 s1),(ow 2 0 s2)]),(i64 p1)] [(ro 0 3 1 eI s0),(ro 0 71 3 (Bd 3) s1),(ro 0 94 6 (BF 3 3 3) s2)] (fun v st=>v=(i64 r.1)∧st=[(ro 0 3 1 eI r.2.1),(ro 0 71 3 (Bd 3) r.2.2.1),(ro 0 94 6 (BF 3 3 3) r.2.2.2)]):=by
 unfold GY at h0
 refine ai Tryz.func15 U U U U (sr U fun K1 hK1=>A7 (m:=3) Aa U U U U U (zq tb U (dn hK1 U (sr U fun K2 hK2=>zm tb 3 U (bs h0 fun q3 gq3 h0=>?_)))))
 refine CJ (rowsP:=[⟨0,3,1,List.map eI s0⟩]) (rows0:=[⟨0,3,1,List.map eI s0⟩]) (rows1:=[⟨0,3,1,List.map eI q3.2⟩]) (rows2:=[]) (rows1':=[⟨0,3,1,List.map eI q3.2⟩]) (rows2':=[]) (st':=[⟨0,3,1,List.map eI q3.2⟩,⟨0,71,3,List.map (Bd 3) s1⟩,⟨0,94,6,List.map (BF 3 3 3) s2⟩,⟨0,42,7,[[(i64 p0_0),(i64 p0_1),(i64 p0_2),(i64 p0_3),(.own 0 0 (List.length s0)),(.own 1 0 (List.length s1)),(.own 2 0 (List.length s2))]]⟩]) (v':=(i64 q3.1)) [0] Aa Lu (B7 gq3) rfl (by decide) rfl U (.pure (AL fun _=>U) .nil) rfl U (.pure (AL fun _=>U) .nil) .nil U U (fun hln=>?_)
 have ln4:List.length q3.2=List.length s0:=by simpa only[List.length_map] using hln 0 _ _ rfl rfl rfl
 refine zq tb U (dn hK2 U (sr U fun K5 hK5=>zm tb 3 U (bs h0 fun q6 gq6 h0=>?_)))
 refine CJ (rowsP:=[⟨0,71,3,List.map (Bd 3) s1⟩]) (rows0:=[⟨0,71,3,List.map (Bd 3) s1⟩]) (rows1:=[⟨0,71,3,List.map (Bd 3) q6.2⟩]) (rows2:=[]) (rows1':=[⟨0,71,3,List.map (Bd 3) q6.2⟩]) (rows2':=[]) (st':=[⟨0,3,1,List.map eI q3.2⟩,⟨0,71,3,List.map (Bd 3) q6.2⟩,⟨0,94,6,List.map (BF 3 3 3) s2⟩,⟨0,42,7,[[(i64 p0_0),(i64 p0_1),(i64 p0_2),(i64 p0_3),(.own 0 0 (List.length s0)),(.own 1 0 (List.length s1)),(.own 2 0 (List.length s2))]]⟩]) (v':=(i64 q6.1)) [1] Aa da (NY gq6) rfl (by decide) rfl U (.deep (Ar fun _=>U) .nil) rfl U (.deep (Ar fun _=>U) .nil) .nil U U (fun hln=>?_)
 have ln7:List.length q6.2=List.length s1:=by simpa only[List.length_map] using hln 0 _ _ rfl rfl rfl
 refine zq tb U (dn hK5 U (sr U fun K8 hK8=>zm tb 3 U (bs h0 fun q9 gq9 h0=>?_)))
 refine CJ (rowsP:=[⟨0,94,6,List.map (BF 3 3 3) s2⟩]) (rows0:=[⟨0,94,6,List.map (BF 3 3 3) s2⟩]) (rows1:=[⟨0,94,6,List.map (BF 3 3 3) q9.2⟩]) (rows2:=[]) (rows1':=[⟨0,94,6,List.map (BF 3 3 3) q9.2⟩]) (rows2':=[]) (st':=[⟨0,3,1,List.map eI q3.2⟩,⟨0,71,3,List.map (Bd 3) q6.2⟩,⟨0,94,6,List.map (BF 3 3 3) q9.2⟩,⟨0,42,7,[[(i64 p0_0),(i64 p0_1),(i64 p0_2),(i64 p0_3),(.own 0 0 (List.length s0)),(.own 1 0 (List.length s1)),(.own 2 0 (List.length s2))]]⟩]) (v':=(i64 q9.1)) [2] Aa eQ (Mx gq9) rfl (by decide) rfl U (.deep (Ar fun _=>U) .nil) rfl U (.deep (Ar fun _=>U) .nil) .nil U U (fun hln=>?_)
 have ln10:List.length q9.2=List.length s2:=by simpa only[List.length_map] using hln 0 _ _ rfl rfl rfl
 refine zq tb U (dn hK8 U (zr tb U U ?_))
 replace h0:=Sh.AA h0
 subst r
 exact AH (Exists.intro _ (And.intro (((GJ (st:=[⟨0,3,1,List.map eI q3.2⟩,⟨0,71,3,List.map (Bd 3) q6.2⟩,⟨0,94,6,List.map (BF 3 3 3) q9.2⟩,⟨0,42,7,[[(i64 p0_0),(i64 p0_1),(i64 p0_2),(i64 p0_3),(.own 0 0 (List.length s0)),(.own 1 0 (List.length s1)),(.own 2 0 (List.length s2))]]⟩]) (st':=[⟨0,3,1,List.map eI q3.2⟩,⟨0,71,3,List.map (Bd 3) q6.2⟩,⟨0,94,6,List.map (BF 3 3 3) q9.2⟩,⟨0,42,7,[[(i64 p0_0),(i64 p0_1),(i64 p0_2),(i64 p0_3),(.own 0 0 (List.length q3.2)),(.own 1 0 (List.length q6.2)),(.own 2 0 (List.length q9.2))]]⟩]) (by first | (simp only[Sh.Af];done) | simp only[Sh.Af,ln4,ln7,ln10] | simp only[ln4,ln7,ln10])).trans (AP (L:=[(4,(i64 q9.1))]) (st':=[⟨0,3,1,List.map eI q3.2⟩,⟨0,71,3,List.map (Bd 3) q6.2⟩,⟨0,94,6,List.map (BF 3 3 3) q9.2⟩]) (st1:=[⟨0,3,1,List.map eI q3.2⟩,⟨0,71,3,List.map (Bd 3) q6.2⟩,⟨0,94,6,List.map (BF 3 3 3) q9.2⟩]) [0,1,2] U (.pure (AL fun _=>U) (.deep (Ar fun _=>U) (.deep (Ar fun _=>U) .nil))) (by decide) rfl U (.pure (AL fun _=>U) (.deep (Ar fun _=>U) (.deep (Ar fun _=>U) .nil))) ⟨.rfl,trivial⟩)).trans (AM (L:=[(4,(i64 q9.1))]) ⟨.rfl,trivial⟩)) (And.intro U U)))
theorem KE {N:Nat} {p0:(List Int)} {p1:Int} {r:Int} (h0:F5 N p0 p1=some r):AY Tryz.prog 17 [(ls eI p0),(i64 p1)] [] (fun v st=>v=(i64 r)∧st=[]):=by
 unfold F5 at h0
 refine ai Tryz.func17 U U U U (zr tb U U (AB fun K2 hK2=>zr tb U U ?_))
 obtain⟨o7,h1,h0⟩:=Sh.A1 h0
 have M7 :∀(k6:Int),o7=Sum.inr k6→∀s,Wk 0 s ⟨21,AS [(1,(i64 k6))],[]⟩→K2 s:=by
  intro k6 hq s hw
  subst o7
  try dsimp only at h0
  refine hK2 _ (AI hw (zr tb U U ?_))
  replace h0:=Sh.AA h0
  subst r
  exact AH (xr (AM (L:=[(4,(i64 k6))]) ⟨.rfl,trivial⟩))
 refine AJ (AX (σ:=Int×Int) (fun n v=>Dk p0 n v.1 v.2=some o7) (fun (k4,i5)=>⟨21,AS [(0,(ls eI p0)),(1,(i64 k4)),(5,(i64 i5))],[]⟩) N (p1,0) h1 (AE U) (fun _ hv=>by rw[Dk] at hv;cases hv) ?_)
 rintro n ⟨k4,i5⟩ h1
 try dsimp only at h1 ⊢
 rw[Dk] at h1
 refine AB fun K9 hK9=>sr U fun K10 hK10=>zm tb 2 U (zl tb U U (zq tb U (dn hK10 U ?_)))
 refine ci h1 U ?_ ?_ <;> clear h1
 ·intro b11 h1
  refine AG (hK9 _ (AB fun K12 hK12=>AJ (AB fun K13 hK13=>sr U fun K14 hK14=>zm tb 2 U (bs h1 fun c15 gc15 h1=>zx A2 gc15 U U U (zm tb 3 U (dn hK14 U ?_))))))
  refine ci h1 U ?_ ?_ <;> clear h1
  ·intro b16 h1
   have b17:decide (c15=k4)=false:=by simpa using b16
   refine zr tb U U ?_
   replace h1:=Sh.AA h1
   subst o7
   try dsimp only[id] at h0
   replace h0:=Sh.AA h0
   subst r
   exact AH (xr (AM (L:=[(4,(i64 (-1)))]) ⟨.rfl,trivial⟩))
  ·intro b16 h1
   have b19:decide (c15=k4)=true:=by simpa using b16
   exact AG (hK13 _ (AF U (zm tb 3 U (dn hK12 U (AF U (zm tb 3 U (AD (xi (Sh.w (k4+1),Sh.w (i5+1)) h1 (AE U)))))))))
 ·intro b11 h1
  exact Ad (M7 k4 (Sh.AA h1).symm _ (AE U))
theorem Je {N:Nat} {p0:At} {p1:Ay} {r:Bool} (h0:Et N p0 p1=some r):AY Tryz.prog 3 [(.agg (Ao p0)),(.agg (Aj p1))] [] (fun v st=>v=(.bool r)∧st=[]):=by
 unfold Et at h0
 refine ai Tryz.func3 U U U U (sr U fun K1 hK1=>A7 (m:=0) Aa U U U U U (A7 (m:=1) Aa U U U U U (zq tb U (dn hK1 U (zr tb U U (sr U fun K3 hK3=>zm tb 2 U (bs h0 fun q4 gq4 h0=>zc et (PG gq4) rfl U U (zq tb U ?_))))))))
 refine dn hK3 U (AB fun K5 hK5=>zr tb U U ?_)
 refine ci h0 U ?_ ?_ <;> clear h0
 ·intro b7 h0
  refine zr tb U U ?_
  replace h0:=Sh.AA h0
  subst r
  exact AH (xr (AR [(4,(.bool true))] U))
 ·intro b7 h0
  refine AG (hK5 _ (sr U fun K9 hK9=>zm tb 2 U (bs h0 fun q10 gq10 h0=>zc ey (PS gq10) rfl U U (zq tb U (dn hK9 U (AB fun K11 hK11=>zr tb U U ?_))))))
  refine ci h0 U ?_ ?_ <;> clear h0
  ·intro b13 h0
   refine zr tb U U ?_
   replace h0:=Sh.AA h0
   subst r
   exact AH (xr (AR [(4,(.bool true))] U))
  ·intro b13 h0
   refine AG (hK11 _ (AB fun K15 hK15=>?_))
   refine Cw 4 (by kernel_rfl) (by kernel_rfl) (by rfl) ?_
   refine yq tb U (bs h0 fun q16 gq16 h0=>?_)
   refine Eu (v:=(.agg (Ao q16))) Aa Zh (AY.wk (HL gq16) (by refine Wk.trans (E6 (L:=[(0,(.agg [(ls Ac q16.decls),(ow 1 0 q16.procs)]))]) (st':=[⟨1,104,3,[]⟩,(ro 0 99 5 (BP 3 3 132 3 3) q16.procs)]) (id:=0) rfl (show 0≤0 by decide) (Go.Abs.E8 (fun _=>U)) ⟨(.agg ⟨(.HR U (fun x=>IE x)),.rfl,trivial⟩),trivial⟩ U) ?_;refine Wk.trans (E6 (L:=[(0,(.agg (Ao q16)))]) (st':=[⟨1,104,3,[]⟩,⟨1,99,5,[]⟩]) (id:=1) rfl (show 0≤1 by decide) (Go.Abs.E8 (fun _=>U)) ⟨(.agg ⟨.rfl,(.HR U (fun x=>Ij x)),trivial⟩),trivial⟩ U) ?_;refine Wk.trans (AP (L:=[(0,(.agg (Ao q16)))]) (st':=[]) (st1:=[]) [] U .nil (by decide) rfl U .nil ⟨.rfl,trivial⟩) ?_;exact AM (L:=[(0,(.agg (Ao q16)))]) ⟨.rfl,trivial⟩)) rfl U U ?_
   refine yq tb U (bs h0 fun q17 gq17 h0=>?_)
   refine Eu (v:=(.agg (Aj q17))) Aa ZU (AY.wk (HI gq17) (by refine Wk.trans (Wk.Eb (L:=[(0,(.agg [(i64 q17.status),(i64 q17.value),(i64 q17.calls),(i64 q17.CU),(ls eI q17.out),(ow 1 0 q17.heap),(ow 2 0 q17.AT)]))]) (st':=[⟨1,3,1,[]⟩,(ro 0 71 3 (Bd 3) q17.heap),(ro 0 94 6 (BF 3 3 3) q17.AT)]) (id:=0) rfl (show 0≤0 by decide) (AL fun _=>U) ⟨(.agg ⟨.rfl,.rfl,.rfl,.rfl,(.Ir U),.rfl,.rfl,trivial⟩),trivial⟩ U) ?_;refine Wk.trans (E6 (L:=[(0,(.agg [(i64 q17.status),(i64 q17.value),(i64 q17.calls),(i64 q17.CU),(ls eI q17.out),(ls Ak q17.heap),(ow 2 0 q17.AT)]))]) (st':=[⟨1,3,1,[]⟩,⟨1,71,3,[]⟩,(ro 0 94 6 (BF 3 3 3) q17.AT)]) (id:=1) rfl (show 0≤1 by decide) (Go.Abs.E8 (fun _=>U)) ⟨(.agg ⟨.rfl,.rfl,.rfl,.rfl,.rfl,(.HR U (fun x=>JT x)),.rfl,trivial⟩),trivial⟩ U) ?_;refine Wk.trans (E6 (L:=[(0,(.agg (Aj q17)))]) (st':=[⟨1,3,1,[]⟩,⟨1,71,3,[]⟩,⟨1,94,6,[]⟩]) (id:=2) rfl (show 0≤2 by decide) (Go.Abs.E8 (fun _=>U)) ⟨(.agg ⟨.rfl,.rfl,.rfl,.rfl,.rfl,.rfl,(.HR U (fun x=>Hr x)),trivial⟩),trivial⟩ U) ?_;refine Wk.trans (AP (L:=[(0,(.agg (Aj q17)))]) (st':=[]) (st1:=[]) [] U .nil (by decide) rfl U .nil ⟨.rfl,trivial⟩) ?_;exact AM (L:=[(0,(.agg (Aj q17)))]) ⟨.rfl,trivial⟩)) rfl U U ?_
   refine BQ (bs h0 fun q18 gq18 h0=>zc fA (MY gq18) rfl U U (zq tb U (dn hK15 U (sr U fun K19 hK19=>zq tb U (bs h0 fun q20 gq20 h0=>BL (v':=(.agg [(ow 2 0 q20.decls),(ow 3 0 q20.procs)])) Aa Zh (HL gq20) rfl U ⟨(Ar fun _=>U),⟨(Ar fun _=>U),trivial⟩⟩ U U (BG (m:=4) Aa Yn U U (A8 Aa YV U U U U U U (show 0+2≤2 by decide) rfl (dn hK19 U ?_))))))))
   refine sr U fun K21 hK21=>zq tb U (bs h0 fun q22 gq22 h0=>BL (v':=(.agg [(i64 q22.status),(i64 q22.value),(i64 q22.calls),(i64 q22.CU),(ow 5 0 q22.out),(ow 6 0 q22.heap),(ow 7 0 q22.AT)])) Aa ZU (HI gq22) rfl U ⟨(BD fun _=>U),⟨(Ar fun _=>U),⟨(Ar fun _=>U),trivial⟩⟩⟩ U U (BG (m:=8) Aa YN U U (A8 Aa Y8 U U U U U U (show 0+7≤7 by decide) rfl (dn hK21 U (sr U fun K23 hK23=>zm tb 2 U (bs h0 fun q24 gq24 h0=>Jm (v':=(ow 9 0 q24)) Aa aK (JG gq24) rfl (.agg (.ownD U U (fun _=>U) (fun x=>IE x) (.ownD U U (fun _=>U) (fun x=>Ij x) .nil)) (.agg (.val U (.val U (.val U (.val U (.own U U (fun _=>U) (.ownD U U (fun _=>U) (fun x=>JT x) (.ownD U U (fun _=>U) (fun x=>Hr x) .nil))))))) .nil)) rfl (aV (fun _=>U) trivial) rfl U (zq tb U ?_)))))))
   refine dn hK23 U (AB fun K25 hK25=>sr U fun K26 hK26=>zm tb 2 U (bs h0 fun q27 gq27 h0=>Jm (v':=(.bool q27)) Aa LG (B4 gq27) rfl (.own U U (fun _=>U) (.val U .nil)) rfl trivial U U (zq tb U (dn hK26 U ?_))))
   refine ci h0 U ?_ ?_ <;> clear h0
   ·intro b28 h0
    have b29:q27=false:=by simpa using b28
    refine zr tb U U ?_
    replace h0:=Sh.AA h0
    subst r
    exact AH (xr (AR [(4,(.bool false))] U))
   ·intro b28 h0
    have b31:q27=true:=by simpa using b28
    refine AG (hK25 _ (AB fun K32 hK32=>AB fun K33 hK33=>?_))
    refine B0 (by kernel_rfl) (by kernel_rfl) (by rfl) ?_
    iterate 2 refine yq tb rfl ?_
    refine bs h0 fun q34 gq34 h0=>?_
    refine Eu (v:=(.agg (Ao q34))) Aa Zh (AY.wk (HL gq34) (by refine Wk.trans (E6 (L:=[(0,(.agg [(ls Ac q34.decls),(ow 1 0 q34.procs)]))]) (st':=[⟨1,104,3,[]⟩,(ro 0 99 5 (BP 3 3 132 3 3) q34.procs)]) (id:=0) rfl (show 0≤0 by decide) (Go.Abs.E8 (fun _=>U)) ⟨(.agg ⟨(.HR U (fun x=>IE x)),.rfl,trivial⟩),trivial⟩ U) ?_;refine Wk.trans (E6 (L:=[(0,(.agg (Ao q34)))]) (st':=[⟨1,104,3,[]⟩,⟨1,99,5,[]⟩]) (id:=1) rfl (show 0≤1 by decide) (Go.Abs.E8 (fun _=>U)) ⟨(.agg ⟨.rfl,(.HR U (fun x=>Ij x)),trivial⟩),trivial⟩ U) ?_;refine Wk.trans (AP (L:=[(0,(.agg (Ao q34)))]) (st':=[]) (st1:=[]) [] U .nil (by decide) rfl U .nil ⟨.rfl,trivial⟩) ?_;exact AM (L:=[(0,(.agg (Ao q34)))]) ⟨.rfl,trivial⟩)) rfl U U ?_
    refine bs h0 fun q35 gq35 h0=>Ro (v':=(.bool q35)) Aa dt (P3 gq35) rfl (.agg (.ownD U U (fun _=>U) (fun x=>IE x) (.ownD U U (fun _=>U) (fun x=>Ij x) .nil)) (.val U .nil)) rfl U (yq tb U (BQ (hK33 _ ?_)))
    refine ci h0 U ?_ ?_ <;> clear h0
    ·intro b36 h0
     have b37:q35=false:=by simpa using b36
     refine zr tb U U ?_
     replace h0:=Sh.AA h0
     subst r
     exact AH (xr (AR [(4,(.bool false))] U))
    ·intro b36 h0
     have b39:q35=true:=by simpa using b36
     refine AG (hK32 _ (AB fun K40 hK40=>AB fun K41 hK41=>?_))
     refine B0 (by kernel_rfl) (by kernel_rfl) (by rfl) ?_
     iterate 2 refine yq tb rfl ?_
     refine bs h0 fun q42 gq42 h0=>?_
     refine Eu (v:=(.agg (Aj q42))) Aa ZU (AY.wk (HI gq42) (by refine Wk.trans (Wk.Eb (L:=[(0,(.agg [(i64 q42.status),(i64 q42.value),(i64 q42.calls),(i64 q42.CU),(ls eI q42.out),(ow 1 0 q42.heap),(ow 2 0 q42.AT)]))]) (st':=[⟨1,3,1,[]⟩,(ro 0 71 3 (Bd 3) q42.heap),(ro 0 94 6 (BF 3 3 3) q42.AT)]) (id:=0) rfl (show 0≤0 by decide) (AL fun _=>U) ⟨(.agg ⟨.rfl,.rfl,.rfl,.rfl,(.Ir U),.rfl,.rfl,trivial⟩),trivial⟩ U) ?_;refine Wk.trans (E6 (L:=[(0,(.agg [(i64 q42.status),(i64 q42.value),(i64 q42.calls),(i64 q42.CU),(ls eI q42.out),(ls Ak q42.heap),(ow 2 0 q42.AT)]))]) (st':=[⟨1,3,1,[]⟩,⟨1,71,3,[]⟩,(ro 0 94 6 (BF 3 3 3) q42.AT)]) (id:=1) rfl (show 0≤1 by decide) (Go.Abs.E8 (fun _=>U)) ⟨(.agg ⟨.rfl,.rfl,.rfl,.rfl,.rfl,(.HR U (fun x=>JT x)),.rfl,trivial⟩),trivial⟩ U) ?_;refine Wk.trans (E6 (L:=[(0,(.agg (Aj q42)))]) (st':=[⟨1,3,1,[]⟩,⟨1,71,3,[]⟩,⟨1,94,6,[]⟩]) (id:=2) rfl (show 0≤2 by decide) (Go.Abs.E8 (fun _=>U)) ⟨(.agg ⟨.rfl,.rfl,.rfl,.rfl,.rfl,.rfl,(.HR U (fun x=>Hr x)),trivial⟩),trivial⟩ U) ?_;refine Wk.trans (AP (L:=[(0,(.agg (Aj q42)))]) (st':=[]) (st1:=[]) [] U .nil (by decide) rfl U .nil ⟨.rfl,trivial⟩) ?_;exact AM (L:=[(0,(.agg (Aj q42)))]) ⟨.rfl,trivial⟩)) rfl U U ?_
     refine bs h0 fun q43 gq43 h0=>Ro (v':=(.bool q43)) Aa eC (PB gq43) rfl (.agg (.val U (.val U (.val U (.val U (.own U U (fun _=>U) (.ownD U U (fun _=>U) (fun x=>JT x) (.ownD U U (fun _=>U) (fun x=>Hr x) .nil))))))) (.val U .nil)) rfl U (yq tb U (BQ (hK41 _ ?_)))
     refine ci h0 U ?_ ?_ <;> clear h0
     ·intro b44 h0
      have b45:q43=false:=by simpa using b44
      refine zr tb U U ?_
      replace h0:=Sh.AA h0
      subst r
      exact AH (xr (AR [(4,(.bool false))] U))
     ·intro b44 h0
      have b47:q43=true:=by simpa using b44
      refine AG (hK40 _ (zr tb U U (sr U fun K49 hK49=>zm tb 2 U (bs h0 fun q50 gq50 h0=>?_))))
      refine CJ (rowsP:=[⟨0,104,3,List.map (BV 155 3) q20.decls⟩,⟨0,99,5,List.map (BP 3 3 132 3 3) q20.procs⟩]) (rows0:=[⟨0,104,3,List.map (BV 155 3) q20.decls⟩,⟨0,99,5,List.map (BP 3 3 132 3 3) q20.procs⟩]) (rows1:=[⟨0,104,3,List.map (BV 155 3) q50.2.1⟩,⟨0,99,5,List.map (BP 3 3 132 3 3) q50.2.2⟩]) (rows2:=[]) (rows1':=[⟨0,104,3,List.map (BV 155 3) q50.2.1⟩,⟨0,99,5,List.map (BP 3 3 132 3 3) q50.2.2⟩]) (rows2':=[]) (st':=[⟨0,25,2,[(Ao p0)]⟩,⟨0,30,7,[(Aj p1)]⟩,⟨0,104,3,List.map (BV 155 3) q50.2.1⟩,⟨0,99,5,List.map (BP 3 3 132 3 3) q50.2.2⟩,⟨0,37,2,[[(.own 2 0 (List.length q20.decls)),(.own 3 0 (List.length q20.procs))]]⟩,⟨0,3,1,List.map eI q22.out⟩,⟨0,71,3,List.map (Bd 3) q22.heap⟩,⟨0,94,6,List.map (BF 3 3 3) q22.AT⟩,⟨0,42,7,[[(i64 q22.status),(i64 q22.value),(i64 q22.calls),(i64 q22.CU),(.own 5 0 (List.length q22.out)),(.own 6 0 (List.length q22.heap)),(.own 7 0 (List.length q22.AT))]]⟩,⟨0,3,1,List.map eI q24⟩]) (v':=(i64 q50.1)) [2,3] Aa dr (Nd gq50) rfl (by decide) rfl U (.deep (Ar fun _=>U) (.deep (Ar fun _=>U) .nil)) rfl U (.deep (Ar fun _=>U) (.deep (Ar fun _=>U) .nil)) .nil U U (fun hln=>?_)
      have ln51:List.length q50.2.1=List.length q20.decls:=by simpa only[List.length_map] using hln 0 _ _ rfl rfl rfl
      have ln52:List.length q50.2.2=List.length q20.procs:=by simpa only[List.length_map] using hln 1 _ _ rfl rfl rfl
      refine zq tb U (dn hK49 U (sr U fun K53 hK53=>zm tb 2 U (bs h0 fun q54 gq54 h0=>?_)))
      refine CJ (rowsP:=[⟨0,3,1,List.map eI q22.out⟩,⟨0,71,3,List.map (Bd 3) q22.heap⟩,⟨0,94,6,List.map (BF 3 3 3) q22.AT⟩]) (rows0:=[⟨0,3,1,List.map eI q22.out⟩,⟨0,71,3,List.map (Bd 3) q22.heap⟩,⟨0,94,6,List.map (BF 3 3 3) q22.AT⟩]) (rows1:=[⟨0,3,1,List.map eI q54.2.1⟩,⟨0,71,3,List.map (Bd 3) q54.2.2.1⟩,⟨0,94,6,List.map (BF 3 3 3) q54.2.2.2⟩]) (rows2:=[]) (rows1':=[⟨0,3,1,List.map eI q54.2.1⟩,⟨0,71,3,List.map (Bd 3) q54.2.2.1⟩,⟨0,94,6,List.map (BF 3 3 3) q54.2.2.2⟩]) (rows2':=[]) (st':=[⟨0,25,2,[(Ao p0)]⟩,⟨0,30,7,[(Aj p1)]⟩,⟨0,104,3,List.map (BV 155 3) q50.2.1⟩,⟨0,99,5,List.map (BP 3 3 132 3 3) q50.2.2⟩,⟨0,37,2,[[(.own 2 0 (List.length q20.decls)),(.own 3 0 (List.length q20.procs))]]⟩,⟨0,3,1,List.map eI q54.2.1⟩,⟨0,71,3,List.map (Bd 3) q54.2.2.1⟩,⟨0,94,6,List.map (BF 3 3 3) q54.2.2.2⟩,⟨0,42,7,[[(i64 q22.status),(i64 q22.value),(i64 q22.calls),(i64 q22.CU),(.own 5 0 (List.length q22.out)),(.own 6 0 (List.length q22.heap)),(.own 7 0 (List.length q22.AT))]]⟩,⟨0,3,1,List.map eI q24⟩]) (v':=(i64 q54.1)) [5,6,7] Aa dc (OG gq54) rfl (by decide) rfl U (.pure (AL fun _=>U) (.deep (Ar fun _=>U) (.deep (Ar fun _=>U) .nil))) rfl U (.pure (AL fun _=>U) (.deep (Ar fun _=>U) (.deep (Ar fun _=>U) .nil))) .nil U U (fun hln=>?_)
      have ln55:List.length q54.2.1=List.length q22.out:=by simpa only[List.length_map] using hln 0 _ _ rfl rfl rfl
      have ln56:List.length q54.2.2.1=List.length q22.heap:=by simpa only[List.length_map] using hln 1 _ _ rfl rfl rfl
      have ln57:List.length q54.2.2.2=List.length q22.AT:=by simpa only[List.length_map] using hln 2 _ _ rfl rfl rfl
      refine zq tb U (dn hK53 U (AB fun K58 hK58=>AB fun K59 hK59=>bs h0 fun o61 h1 h0=>?_))
      have M61 :∀(t60:Bool),o61=t60→∀s,Wk 0 s ⟨92,AS [(2,(.ptr 0 0 0 0)),(3,(.ptr 1 0 0 0)),(6,(ls eI q18)),(9,(ow 2 0 q24)),(63,(.bool t60))],[⟨0,25,2,[(Ao p0)]⟩,⟨0,30,7,[(Aj p1)]⟩,(ro 0 3 1 eI q24)]⟩→K59 s:=by
       intro t60 hq s hw
       subst o61
       try dsimp only at h0
       refine hK59 _ (AI hw ?_)
       refine ci h0 U ?_ ?_ <;> clear h0
       ·intro b62 h0
        refine zr tb U U ?_
        replace h0:=Sh.AA h0
        subst r
        exact AH (xr (AR [(4,(.bool false))] U))
       ·intro b62 h0
        refine AG (hK58 _ (zr tb U U (sr U fun K65 hK65=>zm tb 2 U (bs h0 fun q66 gq66 h0=>?_))))
        refine CJ (rowsP:=[⟨0,3,1,List.map eI q24⟩]) (rows0:=[⟨0,3,1,List.map eI q24⟩]) (rows1:=[⟨0,3,1,List.map eI q66.2⟩]) (rows2:=[]) (rows1':=[⟨0,3,1,List.map eI q66.2⟩]) (rows2':=[]) (st':=[⟨0,25,2,[(Ao p0)]⟩,⟨0,30,7,[(Aj p1)]⟩,⟨0,3,1,List.map eI q66.2⟩]) (v':=(i64 q66.1)) [2] Aa Lu (B7 gq66) rfl (by decide) rfl U (.pure (AL fun _=>U) .nil) rfl U (.pure (AL fun _=>U) .nil) .nil U U (fun hln=>?_)
        have ln67:List.length q66.2=List.length q24:=by simpa only[List.length_map] using hln 0 _ _ rfl rfl rfl
        refine zq tb U (dn hK65 U (zr tb U U (sr U fun K69 hK69=>zm tb 2 U (bs h0 fun q70 gq70 h0=>?_))))
        refine Jm (v':=(i64 q70)) Aa aN (KE gq70) rfl (.own U (by first | (simp only[Sh.Af];done) | (simp only[Sh.Af];omega) | omega) (fun _=>U) (.val U .nil)) rfl trivial U U ?_
        refine zq tb U (dn hK69 U (AB fun K71 hK71=>zr tb U U ?_))
        refine ci h0 U ?_ ?_ <;> clear h0
        ·intro b73 h0
         refine zr tb U U ?_
         replace h0:=Sh.AA h0
         subst r
         exact AH (xr (AR [(4,(.bool false))] U))
        ·intro b73 h0
         refine AG (hK71 _ (AB fun K75 hK75=>zr tb U U ?_))
         refine ci h0 U ?_ ?_ <;> clear h0
         ·intro b77 h0
          have b78:decide (q70=q66.1)=false:=by simpa using b77
          refine zr tb U U ?_
          replace h0:=Sh.AA h0
          subst r
          exact AH (xr (AR [(4,(.bool false))] U))
         ·intro b77 h0
          have b80:decide (q70=q66.1)=true:=by simpa using b77
          refine AG (hK75 _ (AB fun K81 hK81=>?_))
          refine Cw 4 (by kernel_rfl) (by kernel_rfl) (by rfl) ?_
          refine yq tb U (bs h0 fun q82 gq82 h0=>?_)
          refine Eu (v:=(.agg (Ao q82))) Aa Zh (AY.wk (HL gq82) (by refine Wk.trans (E6 (L:=[(0,(.agg [(ls Ac q82.decls),(ow 1 0 q82.procs)]))]) (st':=[⟨1,104,3,[]⟩,(ro 0 99 5 (BP 3 3 132 3 3) q82.procs)]) (id:=0) rfl (show 0≤0 by decide) (Go.Abs.E8 (fun _=>U)) ⟨(.agg ⟨(.HR U (fun x=>IE x)),.rfl,trivial⟩),trivial⟩ U) ?_;refine Wk.trans (E6 (L:=[(0,(.agg (Ao q82)))]) (st':=[⟨1,104,3,[]⟩,⟨1,99,5,[]⟩]) (id:=1) rfl (show 0≤1 by decide) (Go.Abs.E8 (fun _=>U)) ⟨(.agg ⟨.rfl,(.HR U (fun x=>Ij x)),trivial⟩),trivial⟩ U) ?_;refine Wk.trans (AP (L:=[(0,(.agg (Ao q82)))]) (st':=[]) (st1:=[]) [] U .nil (by decide) rfl U .nil ⟨.rfl,trivial⟩) ?_;exact AM (L:=[(0,(.agg (Ao q82)))]) ⟨.rfl,trivial⟩)) rfl U U ?_
          refine yq tb U (bs h0 fun q83 gq83 h0=>?_)
          refine Eu (v:=(.agg (Aj q83))) Aa ZU (AY.wk (HI gq83) (by refine Wk.trans (Wk.Eb (L:=[(0,(.agg [(i64 q83.status),(i64 q83.value),(i64 q83.calls),(i64 q83.CU),(ls eI q83.out),(ow 1 0 q83.heap),(ow 2 0 q83.AT)]))]) (st':=[⟨1,3,1,[]⟩,(ro 0 71 3 (Bd 3) q83.heap),(ro 0 94 6 (BF 3 3 3) q83.AT)]) (id:=0) rfl (show 0≤0 by decide) (AL fun _=>U) ⟨(.agg ⟨.rfl,.rfl,.rfl,.rfl,(.Ir U),.rfl,.rfl,trivial⟩),trivial⟩ U) ?_;refine Wk.trans (E6 (L:=[(0,(.agg [(i64 q83.status),(i64 q83.value),(i64 q83.calls),(i64 q83.CU),(ls eI q83.out),(ls Ak q83.heap),(ow 2 0 q83.AT)]))]) (st':=[⟨1,3,1,[]⟩,⟨1,71,3,[]⟩,(ro 0 94 6 (BF 3 3 3) q83.AT)]) (id:=1) rfl (show 0≤1 by decide) (Go.Abs.E8 (fun _=>U)) ⟨(.agg ⟨.rfl,.rfl,.rfl,.rfl,.rfl,(.HR U (fun x=>JT x)),.rfl,trivial⟩),trivial⟩ U) ?_;refine Wk.trans (E6 (L:=[(0,(.agg (Aj q83)))]) (st':=[⟨1,3,1,[]⟩,⟨1,71,3,[]⟩,⟨1,94,6,[]⟩]) (id:=2) rfl (show 0≤2 by decide) (Go.Abs.E8 (fun _=>U)) ⟨(.agg ⟨.rfl,.rfl,.rfl,.rfl,.rfl,.rfl,(.HR U (fun x=>Hr x)),trivial⟩),trivial⟩ U) ?_;refine Wk.trans (AP (L:=[(0,(.agg (Aj q83)))]) (st':=[]) (st1:=[]) [] U .nil (by decide) rfl U .nil ⟨.rfl,trivial⟩) ?_;exact AM (L:=[(0,(.agg (Aj q83)))]) ⟨.rfl,trivial⟩)) rfl U U ?_
          refine BQ (bs h0 fun q84 gq84 h0=>BL (v':=(ow 3 0 q84)) Aa aK (JG gq84) rfl U ⟨(BD fun _=>U),trivial⟩ U U (zq tb U (dn hK81 U (AB fun K85 hK85=>sr U fun K86 hK86=>zm tb 2 U (An (Wk.Eb (L:=[(9,(ow 2 0 q24)),(11,(i64 q66.1)),(80,(ls eI q84)),(81,(ls eI q18))]) (st':=[⟨0,25,2,[(Ao p0)]⟩,⟨0,30,7,[(Aj p1)]⟩,(ro 0 3 1 eI q66.2),⟨1,3,1,[]⟩]) (id:=3) rfl (show 0≤3 by decide) (AL fun _=>U) ⟨.rfl,.rfl,(.Eb U),.rfl,trivial⟩ U) (bs h0 fun q87 gq87 h0=>zc LG (B4 gq87) rfl U U (zq tb U ?_)))))))
          refine dn hK86 U ?_
          refine ci h0 U ?_ ?_ <;> clear h0
          ·intro b88 h0
           have b89:q87=false:=by simpa using b88
           refine zr tb U U ?_
           replace h0:=Sh.AA h0
           subst r
           exact AH (xr (AR [(4,(.bool false))] U))
          ·intro b88 h0
           have b91:q87=true:=by simpa using b88
           refine AG (hK85 _ (zr tb U U (sr U fun K93 hK93=>zm tb 2 U ?_)))
           refine An (Wk.Eb (L:=[(11,(i64 q66.1)),(84,(.sl (List.map eI q66.2))),(85,(i64 1))]) (st':=[⟨0,25,2,[(Ao p0)]⟩,⟨0,30,7,[(Aj p1)]⟩,⟨1,3,1,[]⟩,⟨1,3,1,[]⟩]) (id:=2) rfl (show 0≤2 by decide) (AL fun _=>U) ⟨.rfl,(.Eb (by first | (simp only[Sh.Af];done) | (simp only[Sh.Af];omega) | omega)),.rfl,trivial⟩ U) ?_
           refine bs h0 fun q94 gq94 h0=>zc aN (KE gq94) rfl U U (zq tb U (dn hK93 U (AB fun K95 hK95=>zr tb U U ?_)))
           refine ci h0 U ?_ ?_ <;> clear h0
           ·intro b97 h0
            refine zr tb U U ?_
            replace h0:=Sh.AA h0
            subst r
            exact AH (xr (AR [(4,(.bool false))] U))
           ·intro b97 h0
            refine AG (hK95 _ (AB fun K99 hK99=>zr tb U U ?_))
            refine ci h0 U ?_ ?_ <;> clear h0
            ·intro b101 h0
             have b102:decide (q94=q66.1)=false:=by simpa using b101
             refine zr tb U U ?_
             replace h0:=Sh.AA h0
             subst r
             exact AH (xr (AR [(4,(.bool false))] U))
            ·intro b101 h0
             have b104:decide (q94=q66.1)=true:=by simpa using b101
             refine AG (hK99 _ (zr tb U U ?_))
             replace h0:=Sh.AA h0
             subst r
             exact AH (xr (AR [(4,(.bool true))] U))
      refine AF U (zm tb 3 U ?_)
      rcases Sh.AN h1 with ⟨b106,h1⟩ | ⟨b106,h1⟩
      ·refine zs b106 U ?_
       iterate 3 refine zs b106 rfl ?_
       refine zt b106 U ?_
       exact AD (M61 true (Sh.AA h1).symm _ (by refine Wk.trans (GJ (st:=[⟨0,25,2,[(Ao p0)]⟩,⟨0,30,7,[(Aj p1)]⟩,⟨0,104,3,List.map (BV 155 3) q50.2.1⟩,⟨0,99,5,List.map (BP 3 3 132 3 3) q50.2.2⟩,⟨0,37,2,[[(.own 2 0 (List.length q20.decls)),(.own 3 0 (List.length q20.procs))]]⟩,⟨0,3,1,List.map eI q54.2.1⟩,⟨0,71,3,List.map (Bd 3) q54.2.2.1⟩,⟨0,94,6,List.map (BF 3 3 3) q54.2.2.2⟩,⟨0,42,7,[[(i64 q22.status),(i64 q22.value),(i64 q22.calls),(i64 q22.CU),(.own 5 0 (List.length q22.out)),(.own 6 0 (List.length q22.heap)),(.own 7 0 (List.length q22.AT))]]⟩,⟨0,3,1,List.map eI q24⟩]) (st':=[⟨0,25,2,[(Ao p0)]⟩,⟨0,30,7,[(Aj p1)]⟩,⟨0,104,3,List.map (BV 155 3) q50.2.1⟩,⟨0,99,5,List.map (BP 3 3 132 3 3) q50.2.2⟩,⟨0,37,2,[[(.own 2 0 (List.length q50.2.1)),(.own 3 0 (List.length q50.2.2))]]⟩,⟨0,3,1,List.map eI q54.2.1⟩,⟨0,71,3,List.map (Bd 3) q54.2.2.1⟩,⟨0,94,6,List.map (BF 3 3 3) q54.2.2.2⟩,⟨0,42,7,[[(i64 q22.status),(i64 q22.value),(i64 q22.calls),(i64 q22.CU),(.own 5 0 (List.length q54.2.1)),(.own 6 0 (List.length q54.2.2.1)),(.own 7 0 (List.length q54.2.2.2))]]⟩,⟨0,3,1,List.map eI q24⟩]) (by first | (simp only[Sh.Af];done) | simp only[Sh.Af,ln51,ln52,ln55,ln56,ln57] | simp only[ln51,ln52,ln55,ln56,ln57])) ?_;exact AP (L:=[(2,(.ptr 0 0 0 0)),(3,(.ptr 1 0 0 0)),(6,(.sl (List.map eI q18))),(9,(.own 2 0 (List.length q24))),(63,(.bool true))]) (st':=[⟨0,25,2,[(Ao p0)]⟩,⟨0,30,7,[(Aj p1)]⟩,⟨0,3,1,List.map eI q24⟩]) (st1:=[⟨0,25,2,[(Ao p0)]⟩,⟨0,30,7,[(Aj p1)]⟩,⟨0,3,1,List.map eI q24⟩]) [0,1,9] U .nil (by decide) rfl U (.raw U U (.raw U U (.pure (AL fun _=>U) .nil))) ⟨.rfl,.rfl,.rfl,.rfl,.rfl,trivial⟩))
      ·refine zg tb b106 U (zg tb b106 U (bs h1 fun q107 gq107 h1=>Jm (v':=(.bool q107)) (A9 U U b106) LG (B4 gq107) rfl (.own U U (fun _=>U) (.val U .nil)) rfl trivial U U (zg tb b106 U (zf b106 U ?_))))
       exact AD (M61 (!q107) (Sh.AA h1).symm _ (by refine Wk.trans (GJ (st:=[⟨0,25,2,[(Ao p0)]⟩,⟨0,30,7,[(Aj p1)]⟩,⟨0,104,3,List.map (BV 155 3) q50.2.1⟩,⟨0,99,5,List.map (BP 3 3 132 3 3) q50.2.2⟩,⟨0,37,2,[[(.own 2 0 (List.length q20.decls)),(.own 3 0 (List.length q20.procs))]]⟩,⟨0,3,1,List.map eI q54.2.1⟩,⟨0,71,3,List.map (Bd 3) q54.2.2.1⟩,⟨0,94,6,List.map (BF 3 3 3) q54.2.2.2⟩,⟨0,42,7,[[(i64 q22.status),(i64 q22.value),(i64 q22.calls),(i64 q22.CU),(.own 5 0 (List.length q22.out)),(.own 6 0 (List.length q22.heap)),(.own 7 0 (List.length q22.AT))]]⟩,⟨0,3,1,List.map eI q24⟩]) (st':=[⟨0,25,2,[(Ao p0)]⟩,⟨0,30,7,[(Aj p1)]⟩,⟨0,104,3,List.map (BV 155 3) q50.2.1⟩,⟨0,99,5,List.map (BP 3 3 132 3 3) q50.2.2⟩,⟨0,37,2,[[(.own 2 0 (List.length q50.2.1)),(.own 3 0 (List.length q50.2.2))]]⟩,⟨0,3,1,List.map eI q54.2.1⟩,⟨0,71,3,List.map (Bd 3) q54.2.2.1⟩,⟨0,94,6,List.map (BF 3 3 3) q54.2.2.2⟩,⟨0,42,7,[[(i64 q22.status),(i64 q22.value),(i64 q22.calls),(i64 q22.CU),(.own 5 0 (List.length q54.2.1)),(.own 6 0 (List.length q54.2.2.1)),(.own 7 0 (List.length q54.2.2.2))]]⟩,⟨0,3,1,List.map eI q24⟩]) (by first | (simp only[Sh.Af];done) | simp only[Sh.Af,ln51,ln52,ln55,ln56,ln57] | simp only[ln51,ln52,ln55,ln56,ln57])) ?_;exact AP (L:=[(2,(.ptr 0 0 0 0)),(3,(.ptr 1 0 0 0)),(6,(.sl (List.map eI q18))),(9,(.own 2 0 (List.length q24))),(63,(.bool (!q107)))]) (st':=[⟨0,25,2,[(Ao p0)]⟩,⟨0,30,7,[(Aj p1)]⟩,⟨0,3,1,List.map eI q24⟩]) (st1:=[⟨0,25,2,[(Ao p0)]⟩,⟨0,30,7,[(Aj p1)]⟩,⟨0,3,1,List.map eI q24⟩]) [0,1,9] U .nil (by decide) rfl U (.raw U U (.raw U U (.pure (AL fun _=>U) .nil))) ⟨.rfl,.rfl,.rfl,.rfl,.rfl,trivial⟩))
end Go.Proofs.YtobjlimoekffaaaGreat

