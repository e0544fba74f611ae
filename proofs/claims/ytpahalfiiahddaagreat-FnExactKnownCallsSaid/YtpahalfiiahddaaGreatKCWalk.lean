import Derived.Test.YtpahalfiiahddaaGreatProg
import Derived.Test.YtpahalfiiahddaaGreatGAbsXToSSDefs
import Derived.Test.YtpahalfiiahddaaGreatGHADefsToKCDefs
import Derived.Test.YtpahalfiiahddaaGreatCFWalk
import Derived.Test.YtpahalfiiahddaaGreatKCWalkP6
namespace Go.Proofs.YtpahalfiiahddaaGreat
open Go Go.Abs RC
attribute [local irreducible] Go.Abs.Cp
set_option maxRecDepth 100000
set_option maxHeartbeats 4000000

theorem Vx:As Tryz.prog 10=true:=by kernel_rfl
theorem ZF:As Tryz.prog 11=true:=by kernel_rfl
theorem ZB:As Tryz.prog 12=true:=by kernel_rfl
theorem aN:As Tryz.prog 27=true:=by kernel_rfl
theorem aV:As Tryz.prog 28=true:=by kernel_rfl
theorem bE:As Tryz.prog 29=true:=by kernel_rfl
theorem bG:As Tryz.prog 30=true:=by kernel_rfl
theorem bC:As Tryz.prog 31=true:=by kernel_rfl
theorem bP:As Tryz.prog 32=true:=by kernel_rfl
theorem aS:As Tryz.prog 59=true:=by kernel_rfl
theorem ba:As Tryz.prog 6=true:=by kernel_rfl
theorem ae:As Tryz.prog 60=true:=by kernel_rfl
theorem ZA:As Tryz.prog 61=true:=by kernel_rfl
theorem ZH:As Tryz.prog 62=true:=by kernel_rfl
theorem af:As Tryz.prog 63=true:=by kernel_rfl
theorem ZO:As Tryz.prog 64=true:=by kernel_rfl
theorem ZJ:As Tryz.prog 65=true:=by kernel_rfl
theorem bX:As Tryz.prog 7=true:=by kernel_rfl
theorem Yo:As Tryz.prog 8=true:=by kernel_rfl
theorem au:As Tryz.prog 9=true:=by kernel_rfl

theorem QT {N:Nat} {p0:Av} {p1:Av} {r:Bool} (h0:Ib N p0 p1=some r):Ak Tryz.prog 59 [(.agg (Q4 p0)),(.agg (Q4 p1))] [] (fun v st=>v=(.bool r)∧st=[]):=by
 unfold Ib at h0
 refine ai Tryz.func59 U U U U (sr U fun K1 hK1=>BY (m:=0) Aj U U U U U (BY (m:=1) Aj U U U U U (zq tb U (dn hK1 U (AJ fun K2 hK2=>sr U fun K3 hK3=>zm tb 4 U (bs h0 fun q4 gq4 h0=>zc X8 (Lz gq4) rfl U U (zq tb U ?_)))))))
 refine dn hK3 U ?_
 refine ci h0 U ?_ ?_ <;> clear h0
 ·intro b5 h0
  have b6:q4=false:=by simpa using b5
  refine zr tb U U ?_
  replace h0:=Sh.AE h0
  subst r
  exact AP (xr (Aq [(4,(.bool false))] U))
 ·intro b5 h0
  have b8:q4=true:=by simpa using b5
  refine AN (hK2 _ (AJ fun K9 hK9=>zr tb U U ?_))
  refine ci h0 U ?_ ?_ <;> clear h0
  ·intro b11 h0
   have b12:decide (p0.result=p1.result)=false:=by simpa using b11
   refine zr tb U U ?_
   replace h0:=Sh.AE h0
   subst r
   exact AP (xr (Aq [(4,(.bool false))] U))
  ·intro b11 h0
   have b14:decide (p0.result=p1.result)=true:=by simpa using b11
   refine AN (hK9 _ (AJ fun K15 hK15=>sr U fun K16 hK16=>zm tb 4 U (bs h0 fun q17 gq17 h0=>zc Xc (QO gq17) rfl U U (zq tb U (dn hK16 U ?_)))))
   refine ci h0 U ?_ ?_ <;> clear h0
   ·intro b18 h0
    have b19:q17=false:=by simpa using b18
    refine zr tb U U ?_
    replace h0:=Sh.AE h0
    subst r
    exact AP (xr (Aq [(4,(.bool false))] U))
   ·intro b18 h0
    have b21:q17=true:=by simpa using b18
    refine AN (hK15 _ (zr tb U U ?_))
    replace h0:=Sh.AE h0
    subst r
    exact AP (xr (Aq [(4,(.bool true))] U))
theorem Pt {N:Nat} {p0:(List Av)} {p1:(List Av)} {r:Bool} (h0:HS N p0 p1=some r):Ak Tryz.prog 28 [(ls A5 p0),(ls A5 p1)] [] (fun v st=>v=(.bool r)∧st=[]):=by
 unfold HS at h0
 refine ai Tryz.func28 U U U U (zr tb U U (AJ fun K2 hK2=>sr U fun K3 hK3=>zq tb U (zl tb U U (zq tb U (zl tb U U (zq tb U (dn hK3 U ?_)))))))
 refine ci h0 U ?_ ?_ <;> clear h0
 ·intro b4 h0
  have b5:decide ((Sh.len p0)=(Sh.len p1))=false:=by simpa using b4
  refine zr tb U U ?_
  replace h0:=Sh.AE h0
  subst r
  exact AP (xr (Ab (L:=[(4,(.bool false))]) (.same U)))
 ·intro b4 h0
  have b7:decide ((Sh.len p0)=(Sh.len p1))=true:=by simpa using b4
  refine AN (hK2 _ (AJ fun K8 hK8=>zr tb U U ?_))
  obtain⟨o11,h1,h0⟩:=Sh.BN h0
  have M11 :∀(_:Unit),o11=Sum.inr ()→∀s,Wk 0 s ⟨27,AM [],[]⟩→K8 s:=by
   intro _ hq s hw
   subst o11
   try dsimp only at h0
   refine hK8 _ (Aa hw (zr tb U U ?_))
   replace h0:=Sh.AE h0
   subst r
   exact AP (xr (Ab (L:=[(4,(.bool true))]) (.same U)))
  refine Ac (Aw (σ:=Int) (fun n v=>D8 N p0 p1 n v=some o11) (fun i10=>⟨27,AM [(0,(ls A5 p0)),(1,(ls A5 p1)),(5,(i64 i10))],[]⟩) N 0 h1 (AB U) (fun _ hv=>by rw[D8] at hv;cases hv) ?_)
  rintro n i10 h1
  try dsimp only at h1 ⊢
  rw[D8] at h1
  refine AJ fun K13 hK13=>sr U fun K14 hK14=>zm tb 2 U (zl tb U U (zq tb U (dn hK14 U ?_)))
  refine ci h1 U ?_ ?_ <;> clear h1
  ·intro b15 h1
   refine AN (hK13 _ (AJ fun K16 hK16=>Ac (AJ fun K17 hK17=>?_)))
   refine B2 (by kernel_rfl) (by kernel_rfl) (by rfl) ?_
   iterate 2 refine yq tb rfl ?_
   refine bs h1 fun c18 gc18 h1=>yx CQ gc18 U U U ?_
   iterate 3 refine yq tb rfl ?_
   refine bs h1 fun c19 gc19 h1=>yx CQ gc19 U U U (yq tb U (bs h1 fun q20 gq20 h1=>CH (v:=(.bool q20)) Aj aS (QT gq20) rfl U U (yq tb U (Bh (hK17 _ ?_)))))
   refine ci h1 U ?_ ?_ <;> clear h1
   ·intro b21 h1
    have b22:q20=false:=by simpa using b21
    refine zr tb U U ?_
    replace h1:=Sh.AE h1
    subst o11
    try dsimp only[id] at h0
    replace h0:=Sh.AE h0
    subst r
    exact AP (xr (Ab (L:=[(4,(.bool false))]) (.same U)))
   ·intro b21 h1
    have b24:q20=true:=by simpa using b21
    exact AN (hK16 _ (AR U (zm tb 3 U (AA (xi (Sh.w (i10+1)) h1 (AB U))))))
  ·intro b15 h1
   exact A0 (M11 () (Sh.AE h1).symm _ (AB U))
theorem GP {N:Nat} {p0:Ag} {p1:Ag} {r:Bool} (h0:Ea N p0 p1=some r):Ak Tryz.prog 10 [(Gn p0),(Gn p1)] [] (fun v st=>v=(.bool r)∧st=[]):=by
 unfold Ea at h0
 refine ai Tryz.func10 U U U U (sr U fun K1 hK1=>BY (m:=0) Aj U U U U U (BY (m:=1) Aj U U U U U (zq tb U (dn hK1 U (AJ fun K2 hK2=>sr U fun K3 hK3=>zm tb 4 U (bs h0 fun q4 gq4 h0=>zc aN (PW gq4) rfl U U (zq tb U ?_)))))))
 refine dn hK3 U ?_
 refine ci h0 U ?_ ?_ <;> clear h0
 ·intro b5 h0
  have b6:q4=false:=by simpa using b5
  refine zr tb U U ?_
  replace h0:=Sh.AE h0
  subst r
  exact AP (xr (Aq [(4,(.bool false))] U))
 ·intro b5 h0
  have b8:q4=true:=by simpa using b5
  refine AN (hK2 _ (AJ fun K9 hK9=>sr U fun K10 hK10=>zm tb 4 U (bs h0 fun q11 gq11 h0=>zc aV (Pt gq11) rfl U U (zq tb U (dn hK10 U ?_)))))
  refine ci h0 U ?_ ?_ <;> clear h0
  ·intro b12 h0
   have b13:q11=false:=by simpa using b12
   refine zr tb U U ?_
   replace h0:=Sh.AE h0
   subst r
   exact AP (xr (Aq [(4,(.bool false))] U))
  ·intro b12 h0
   have b15:q11=true:=by simpa using b12
   refine AN (hK9 _ (zr tb U U ?_))
   replace h0:=Sh.AE h0
   subst r
   exact AP (xr (Aq [(4,(.bool true))] U))
theorem KZ {N:Nat} {s0:(List Int)} {p1:Int} {r:Int×(List Int)} (h0:F9 N s0 p1=some r):Ak Tryz.prog 61 [(ow 0 0 s0),(i64 p1)] [(BT s0)] (fun v st=>v=(i64 r.1)∧st=[(BT r.2)]):=by
 unfold F9 at h0
 refine ai Tryz.func61 U U U U (zr tb U U (AJ fun K2 hK2=>zr tb U U (bs h0 fun o9 h1 h0=>?_)))
 have M9 :∀(k7:Int) (l8:(List Int)),o9=(k7,l8)→∀s,Wk 1 s ⟨19,AM [(1,(i64 k7))],[(BT l8)]⟩→K2 s:=by
  intro k7 l8 hq s hw
  subst o9
  try dsimp only at h0
  refine hK2 _ (Aa hw (zr tb U U ?_))
  replace h0:=Sh.AE h0
  subst r
  exact AP (xr (Ab (L:=[(4,(i64 k7))]) (.same U)))
 refine Ac (Aw (σ:=Int×Int×(List Int)) (fun n v=>Dn  n v.1 v.2.1 v.2.2=some o9) (fun (k4,i5,l6)=>⟨19,AM [(0,(ow 0 0 l6)),(1,(i64 k4)),(5,(i64 i5))],[(BT l6)]⟩) N (p1,0,s0) h1 (AB U) (fun _ hv=>by rw[Dn] at hv;cases hv) ?_)
 rintro n ⟨k4,i5,l6⟩ h1
 try dsimp only at h1 ⊢
 rw[Dn] at h1
 refine AJ fun K11 hK11=>sr U fun K12 hK12=>zm tb 2 U (zz (Bx l6) (Ct FU U U U) rfl (zq tb U (dn hK12 U ?_)))
 refine ci h1 U ?_ ?_ <;> clear h1
 ·intro b13 h1
  refine AN (hK11 _ (AJ fun K14 hK14=>Ac (sr U fun K15 hK15=>zm tb 3 U (bs h1 fun c16 gc16 h1=>zz (MK i5) (BZ Bu U U U U gc16) rfl (IF (u':=k4) Aj Em U U gc16 U U U (show 0+1≤1 by decide) rfl U (dn hK15 U (AR U (zm tb 3 U (dn hK14 U ?_)))))))))
  refine AR U (zm tb 3 U ?_)
  exact AA (xi (Sh.w (k4+1),Sh.w (i5+1),Sh.put l6 i5 k4) h1 (Ab (L:=[(0,(.own 0 0 (List.length (Sh.put l6 i5 k4)))),(1,(i64 (Sh.w (k4+1)))),(5,(i64 (Sh.w (i5+1))))]) ⟨(.len (by simp only[Sh.BF])),.rfl,.rfl,trivial⟩))
 ·intro b13 h1
  exact A0 (M9 k4 l6 (Sh.AE h1).symm _ (AB U))
theorem Ol {N:Nat} {s0:(List Ba)} {p1:Int} {r:Int×(List Ba)} (h0:G6 N s0 p1=some r):Ak Tryz.prog 60 [(ow 0 0 s0),(i64 p1)] [(ro 0 111 1 (BR 3) s0)] (fun v st=>v=(i64 r.1)∧st=[(ro 0 111 1 (BR 3) r.2)]):=by
 unfold G6 at h0
 refine ai Tryz.func60 U U U U (zr tb U U (AJ fun K2 hK2=>zr tb U U (bs h0 fun o9 h1 h0=>?_)))
 have M9 :∀(k7:Int) (l8:(List Ba)),o9=(k7,l8)→∀s,Wk 1 s ⟨20,AM [(1,(i64 k7))],[(ro 0 111 1 (BR 3) l8)]⟩→K2 s:=by
  intro k7 l8 hq s hw
  subst o9
  try dsimp only at h0
  refine hK2 _ (Aa hw (zr tb U U ?_))
  replace h0:=Sh.AE h0
  subst r
  exact AP (xr (Ab (L:=[(4,(i64 k7))]) (.same U)))
 refine Ac (Aw (σ:=Int×Int×(List Ba)) (fun n v=>Dq N n v.1 v.2.1 v.2.2=some o9) (fun (k4,i5,l6)=>⟨20,AM [(0,(ow 0 0 l6)),(1,(i64 k4)),(5,(i64 i5))],[(ro 0 111 1 (BR 3) l6)]⟩) N (p1,0,s0) h1 (AB U) (fun _ hv=>by rw[Dq] at hv;cases hv) ?_)
 rintro n ⟨k4,i5,l6⟩ h1
 try dsimp only at h1 ⊢
 rw[Dq] at h1
 refine AJ fun K11 hK11=>sr U fun K12 hK12=>zm tb 2 U (zz (Bx l6) (Ct Nc U U U) rfl (zq tb U (dn hK12 U ?_)))
 refine ci h1 U ?_ ?_ <;> clear h1
 ·intro b13 h1
  refine AN (hK11 _ (AJ fun K14 hK14=>Ac (AR U (zm tb 2 U (bs h1 fun c15 gc15 h1=>zz (MK i5) (BZ H0 U U U U gc15) rfl (zq tb U (Al (Bo (id:=0) (j:=0) (i:=i5) (c:=c15) (ys:=c15.fields) (encY:=eI) rfl gc15 U U U U U) (zz (ow 1 0 c15.fields) (BG HM U U (Bm gc15) rfl) rfl (zq tb U (bs h1 fun q16 gq16 h1=>?_))))))))))
  refine Fu (rowsP:=[⟨0,3,1,List.map eI c15.fields⟩]) (rows0:=[⟨0,3,1,List.map eI c15.fields⟩]) (rows1:=[⟨0,3,1,List.map eI q16.2⟩]) (rows2:=[]) (rows1':=[⟨0,3,1,List.map eI q16.2⟩]) (rows2':=[]) (st':=[⟨0,111,1,hole l6 (BR 3) i5 [(.own 1 0 (List.length c15.fields))]⟩,⟨0,3,1,List.map eI q16.2⟩]) (v':=(i64 q16.1)) [1] Aj ZA (KZ gq16) rfl (by decide) rfl U (.pure (AS fun _=>U) .nil) rfl U (.pure (AS fun _=>U) .nil) .nil U U (fun hln=>?_)
  have ln17:List.length q16.2=List.length c15.fields:=by simpa only[List.length_map] using hln 0 _ _ rfl rfl rfl
  refine Al (Wk.take (id:=0) (m:=1) (j:=0) (i:=i5) (c:=c15) (ys:=q16.2) (encY:=eI) rfl gc15 U U (by first | (simp only[Sh.BF];done) | (simp only[Sh.BF];omega) | omega) (by decide) (show 1≤1 by decide) (fun _=>U) rfl U) ?_
  refine Al (EV (id:=0) (i:=i5) (u:=(Ba.mk q16.2)) rfl U U) ?_
  generalize hg901:Sh.put l6 i5 (Ba.mk q16.2)=lg901 at h1 ⊢
  have ln901:=congrArg List.length hg901
  simp only[Sh.BF] at ln901
  refine zq tb U (dn hK14 U (AR U (zm tb 3 U ?_)))
  exact AA (xi (q16.1,Sh.w (i5+1),lg901) h1 (by refine Wk.trans (Ai (L:=[(0,(.own 0 0 (List.length l6))),(1,(i64 q16.1)),(5,(i64 (Sh.w (i5+1))))]) (st':=[⟨0,111,1,List.map (BR 3) lg901⟩]) [0] U (by decide) rfl U (.deep (AG fun _=>U) .nil) ⟨.rfl,.rfl,.rfl,trivial⟩) ?_;exact Ab (L:=[(0,(.own 0 0 (List.length lg901))),(1,(i64 q16.1)),(5,(i64 (Sh.w (i5+1))))]) ⟨(.len (by first | (simp only[Sh.BF];done) | (simp only[Sh.BF];omega) | omega)),.rfl,.rfl,trivial⟩))
 ·intro b13 h1
  exact A0 (M9 k4 l6 (Sh.AE h1).symm _ (AB U))
theorem OP {N:Nat} {s0:(List Ah)} {p1:Int} {r:Int×(List Ah)} (h0:Gc N s0 p1=some r):Ak Tryz.prog 29 [(ow 0 0 s0),(i64 p1)] [(Ei s0)] (fun v st=>v=(i64 r.1)∧st=[(Ei r.2)]):=by
 unfold Gc at h0
 refine ai Tryz.func29 U U U U (zr tb U U (AJ fun K2 hK2=>zr tb U U (bs h0 fun o9 h1 h0=>?_)))
 have M9 :∀(k7:Int) (l8:(List Ah)),o9=(k7,l8)→∀s,Wk 1 s ⟨34,AM [(1,(i64 k7))],[(Ei l8)]⟩→K2 s:=by
  intro k7 l8 hq s hw
  subst o9
  try dsimp only at h0
  refine hK2 _ (Aa hw (zr tb U U ?_))
  replace h0:=Sh.AE h0
  subst r
  exact AP (xr (Ab (L:=[(4,(i64 k7))]) (.same U)))
 refine Ac (Aw (σ:=Int×Int×(List Ah)) (fun n v=>DV N n v.1 v.2.1 v.2.2=some o9) (fun (k4,i5,l6)=>⟨34,AM [(0,(ow 0 0 l6)),(1,(i64 k4)),(5,(i64 i5))],[(Ei l6)]⟩) N (p1,0,s0) h1 (AB U) (fun _ hv=>by rw[DV] at hv;cases hv) ?_)
 rintro n ⟨k4,i5,l6⟩ h1
 try dsimp only at h1 ⊢
 rw[DV] at h1
 refine AJ fun K11 hK11=>sr U fun K12 hK12=>zm tb 2 U (zz (Bx l6) (Ct OS U U U) rfl (zq tb U (dn hK12 U ?_)))
 refine ci h1 U ?_ ?_ <;> clear h1
 ·intro b13 h1
  refine AN (hK11 _ (AJ fun K14 hK14=>Ac (sr U fun K15 hK15=>zm tb 3 U (bs h1 fun c16 gc16 h1=>zz (MK i5) (BZ DA U U U U gc16) rfl (zq tb U (IF (u':=(Ah.mk k4 c16.to c16.cons)) Aj Em U U gc16 U U U (show 0+1≤3 by decide) rfl U ?_))))))
  generalize hg901:Sh.put l6 i5 (Ah.mk k4 c16.to c16.cons)=lg901 at h1 ⊢
  have ln901:=congrArg List.length hg901
  simp only[Sh.BF] at ln901
  refine dn hK15 U (zr tb U U (sr U fun K18 hK18=>zm tb 3 U (bs h1 fun c19 gc19 h1=>?_)))
  refine zz (.ptr 0 0 (Int.toNat i5) 0) (BZ DA U U U (by first | (simp only[Sh.BF];done) | omega) gc19) rfl ?_
  refine zq tb U (IF (u':=(Ah.mk c19.from_ (Sh.w (k4+1)) c19.cons)) Aj Em U U gc19 U U U (show 1+1≤3 by decide) rfl U ?_)
  generalize hg902:Sh.put lg901 i5 (Ah.mk c19.from_ (Sh.w (k4+1)) c19.cons)=lg902 at h1 ⊢
  have ln902:=congrArg List.length hg902
  simp only[Sh.BF] at ln902
  refine dn hK18 U (zr tb U U (AR U (zm tb 2 U (bs h1 fun c21 gc21 h1=>?_))))
  refine zz (.ptr 0 0 (Int.toNat i5) 0) (BZ DA U U U (by first | (simp only[Sh.BF];done) | omega) gc21) rfl ?_
  refine zq tb U (Al (Bo (id:=0) (j:=2) (i:=i5) (c:=c21) (ys:=c21.cons) (encY:=(BR 3)) rfl gc21 U U U U U) (zz (ow 1 0 c21.cons) (BG Nn U U (Bm gc21) rfl) rfl (zq tb U (bs h1 fun q22 gq22 h1=>?_))))
  refine Fu (rowsP:=[⟨0,111,1,List.map (BR 3) c21.cons⟩]) (rows0:=[⟨0,111,1,List.map (BR 3) c21.cons⟩]) (rows1:=[⟨0,111,1,List.map (BR 3) q22.2⟩]) (rows2:=[]) (rows1':=[⟨0,111,1,List.map (BR 3) q22.2⟩]) (rows2':=[]) (st':=[⟨0,81,3,hole lg902 (Ae 111 3) i5 [(i64 c21.from_),(i64 c21.to),(.own 1 0 (List.length c21.cons))]⟩,⟨0,111,1,List.map (BR 3) q22.2⟩]) (v':=(i64 q22.1)) [1] Aj ae (Ol gq22) rfl (by decide) rfl U (.deep (AG fun _=>U) .nil) rfl U (.deep (AG fun _=>U) .nil) .nil U U (fun hln=>?_)
  have ln23:List.length q22.2=List.length c21.cons:=by simpa only[List.length_map] using hln 0 _ _ rfl rfl rfl
  refine Al (Wk.take (id:=0) (m:=1) (j:=2) (i:=i5) (c:=c21) (ys:=q22.2) (encY:=(BR 3)) rfl gc21 U U (by first | (simp only[Sh.BF];done) | (simp only[Sh.BF];omega) | omega) (by decide) (show 1≤1 by decide) (fun _=>U) rfl U) ?_
  refine Al (EV (id:=0) (i:=i5) (u:=(Ah.mk c21.from_ c21.to q22.2)) rfl U U) ?_
  generalize hg903:Sh.put lg902 i5 (Ah.mk c21.from_ c21.to q22.2)=lg903 at h1 ⊢
  have ln903:=congrArg List.length hg903
  simp only[Sh.BF] at ln903
  refine zq tb U (dn hK14 U (AR U (zm tb 3 U ?_)))
  exact AA (xi (q22.1,Sh.w (i5+1),lg903) h1 (by refine Wk.trans (Ai (L:=[(0,(.own 0 0 (List.length l6))),(1,(i64 q22.1)),(5,(i64 (Sh.w (i5+1))))]) (st':=[⟨0,81,3,List.map (Ae 111 3) lg903⟩]) [0] U (by decide) rfl U (.deep (AG fun _=>U) .nil) ⟨.rfl,.rfl,.rfl,trivial⟩) ?_;exact Ab (L:=[(0,(.own 0 0 (List.length lg903))),(1,(i64 q22.1)),(5,(i64 (Sh.w (i5+1))))]) ⟨(.len (by first | (simp only[Sh.BF];done) | (simp only[Sh.BF];omega) | omega)),.rfl,.rfl,trivial⟩))
 ·intro b13 h1
  exact A0 (M9 k4 l6 (Sh.AE h1).symm _ (AB U))
theorem Mn {N:Nat} {rec_laws_markExprS:(List AK)→Int→Option (Int×(List AK))} (hrec_laws_markExprS :∀{s0:(List AK)} {p1:Int} {r:Int×(List AK)},rec_laws_markExprS s0 p1=some r→Ak Tryz.prog 62 [(ow 0 0 s0),(i64 p1)] [(Dx s0)] (fun v st=>v=(i64 r.1)∧st=[(Dx r.2)])) {s0:(List AK)} {p1:Int} {r:Int×(List AK)} (h0:Gs N rec_laws_markExprS s0 p1=some r):Ak Tryz.prog 62 [(ow 0 0 s0),(i64 p1)] [(Dx s0)] (fun v st=>v=(i64 r.1)∧st=[(Dx r.2)]):=by
 unfold Gs at h0
 refine ai Tryz.func62 U U U U (zr tb U U (AJ fun K2 hK2=>zr tb U U (bs h0 fun o9 h1 h0=>?_)))
 have M9 :∀(k7:Int) (l8:(List AK)),o9=(k7,l8)→∀s,Wk 1 s ⟨34,AM [(1,(i64 k7))],[(Dx l8)]⟩→K2 s:=by
  intro k7 l8 hq s hw
  subst o9
  try dsimp only at h0
  refine hK2 _ (Aa hw (zr tb U U ?_))
  replace h0:=Sh.AE h0
  subst r
  exact AP (xr (Ab (L:=[(4,(i64 k7))]) (.same U)))
 refine Ac (Aw (σ:=Int×Int×(List AK)) (fun n v=>Cs rec_laws_markExprS n v.1 v.2.1 v.2.2=some o9) (fun (k4,i5,l6)=>⟨34,AM [(0,(ow 0 0 l6)),(1,(i64 k4)),(5,(i64 i5))],[(Dx l6)]⟩) N (p1,0,s0) h1 (AB U) (fun _ hv=>by rw[Cs] at hv;cases hv) ?_)
 rintro n ⟨k4,i5,l6⟩ h1
 try dsimp only at h1 ⊢
 rw[Cs] at h1
 refine AJ fun K11 hK11=>sr U fun K12 hK12=>zm tb 2 U (zz (Bx l6) (Ct RR U U U) rfl (zq tb U (dn hK12 U ?_)))
 refine ci h1 U ?_ ?_ <;> clear h1
 ·intro b13 h1
  refine AN (hK11 _ (AJ fun K14 hK14=>Ac (sr U fun K15 hK15=>zm tb 3 U (bs h1 fun c16 gc16 h1=>zz (MK i5) (BZ A2 U U U U gc16) rfl (zq tb U ?_)))))
  refine IF (u':=(AK.mk k4 c16.num c16.kids)) Aj Em U U gc16 U U U (show 0+1≤3 by decide) (by rw[Bp,Bp];rfl) rfl ?_
  generalize hg901:Sh.put l6 i5 (AK.mk k4 c16.num c16.kids)=lg901 at h1 ⊢
  have ln901:=congrArg List.length hg901
  simp only[Sh.BF] at ln901
  refine dn hK15 U (zr tb U U (sr U fun K18 hK18=>zm tb 3 U (bs h1 fun c19 gc19 h1=>?_)))
  refine zz (.ptr 0 0 (Int.toNat i5) 0) (BZ A2 U U U (by first | (simp only[Sh.BF];done) | omega) gc19) rfl ?_
  refine zq tb U ?_
  refine IF (u':=(AK.mk c19.op (Sh.w (k4+1)) c19.kids)) Aj Em U U gc19 U U U (show 1+1≤3 by decide) (by rw[Bp,Bp];rfl) rfl ?_
  generalize hg902:Sh.put lg901 i5 (AK.mk c19.op (Sh.w (k4+1)) c19.kids)=lg902 at h1 ⊢
  have ln902:=congrArg List.length hg902
  simp only[Sh.BF] at ln902
  refine dn hK18 U (zr tb U U (AR U (zm tb 2 U (bs h1 fun c21 gc21 h1=>?_))))
  refine zz (.ptr 0 0 (Int.toNat i5) 0) (BZ A2 U U U (by first | (simp only[Sh.BF];done) | omega) gc21) rfl ?_
  refine zq tb U (Al (Bo (id:=0) (j:=2) (i:=i5) (c:=c21) (ys:=c21.kids) (encY:=(Ay 44)) rfl gc21 (Bp _) rfl U U U) (zz (ow 1 0 c21.kids) (BG Ez U U (Bm gc21) rfl) rfl (zq tb U (bs h1 fun q22 gq22 h1=>?_))))
  refine Fu (rowsP:=[⟨0,44,3,List.map (Ay 44) c21.kids⟩]) (rows0:=[⟨0,44,3,List.map (Ay 44) c21.kids⟩]) (rows1:=[⟨0,44,3,List.map (Ay 44) q22.2⟩]) (rows2:=[]) (rows1':=[⟨0,44,3,List.map (Ay 44) q22.2⟩]) (rows2':=[]) (st':=[⟨0,44,3,hole lg902 (Ay 44) i5 [(i64 c21.op),(i64 c21.num),(.own 1 0 (List.length c21.kids))]⟩,⟨0,44,3,List.map (Ay 44) q22.2⟩]) (v':=(i64 q22.1)) [1] Aj ZH (hrec_laws_markExprS gq22) rfl (by decide) rfl U (.deep (AG AF) .nil) rfl U (.deep (AG AF) .nil) .nil U U (fun hln=>?_)
  have ln23:List.length q22.2=List.length c21.kids:=by simpa only[List.length_map] using hln 0 _ _ rfl rfl rfl
  refine Al (Wk.take (id:=0) (m:=1) (j:=2) (i:=i5) (c:=c21) (ys:=q22.2) (encY:=(Ay 44)) rfl gc21 U U (by first | (simp only[Sh.BF];done) | (simp only[Sh.BF];omega) | omega) (by decide) (show 1≤1 by decide) Co U U) ?_
  refine Al (EV (id:=0) (i:=i5) (u:=(AK.mk c21.op c21.num q22.2)) rfl (Bp (AK.mk c21.op c21.num q22.2)).symm U) ?_
  generalize hg903:Sh.put lg902 i5 (AK.mk c21.op c21.num q22.2)=lg903 at h1 ⊢
  have ln903:=congrArg List.length hg903
  simp only[Sh.BF] at ln903
  refine zq tb U (dn hK14 U (AR U (zm tb 3 U ?_)))
  exact AA (xi (q22.1,Sh.w (i5+1),lg903) h1 (by refine Wk.trans (Ai (L:=[(0,(.own 0 0 (List.length l6))),(1,(i64 q22.1)),(5,(i64 (Sh.w (i5+1))))]) (st':=[⟨0,44,3,List.map (Ay 44) lg903⟩]) [0] U (by decide) rfl U (.deep (AG AF) .nil) ⟨.rfl,.rfl,.rfl,trivial⟩) ?_;exact Ab (L:=[(0,(.own 0 0 (List.length lg903))),(1,(i64 q22.1)),(5,(i64 (Sh.w (i5+1))))]) ⟨(.len (by first | (simp only[Sh.BF];done) | (simp only[Sh.BF];omega) | omega)),.rfl,.rfl,trivial⟩))
 ·intro b13 h1
  exact A0 (M9 k4 l6 (Sh.AE h1).symm _ (AB U))

theorem Mo {N:Nat} :∀(n:Nat),∀{s0:(List AK)} {p1:Int} {r:Int×(List AK)},Dj N n s0 p1=some r→Ak Tryz.prog 62 [(ow 0 0 s0),(i64 p1)] [(Dx s0)] (fun v st=>v=(i64 r.1)∧st=[(Dx r.2)]):=by
 intro n
 induction n with
 | zero=>intro s0 p1 r h0;cases h0
 | succ n ih=>
  intro s0 p1 r h0
  rw[Dj] at h0
  exact Mn (fun h=>ih h) h0
theorem OF {N:Nat} :∀{s0:(List AK)} {p1:Int} {r:Int×(List AK)},Ho N s0 p1=some r→Ak Tryz.prog 62 [(ow 0 0 s0),(i64 p1)] [(Dx s0)] (fun v st=>v=(i64 r.1)∧st=[(Dx r.2)]):=by
 intro s0 p1 r h0
 exact Mo N h0
theorem OK {N:Nat} {s0:(List Av)} {p1:Int} {r:Int×(List Av)} (h0:Gb N s0 p1=some r):Ak Tryz.prog 30 [(ow 0 0 s0),(i64 p1)] [(CV s0)] (fun v st=>v=(i64 r.1)∧st=[(CV r.2)]):=by
 unfold Gb at h0
 refine ai Tryz.func30 U U U U (zr tb U U (AJ fun K2 hK2=>zr tb U U (bs h0 fun o9 h1 h0=>?_)))
 have M9 :∀(k7:Int) (l8:(List Av)),o9=(k7,l8)→∀s,Wk 1 s ⟨51,AM [(1,(i64 k7))],[(CV l8)]⟩→K2 s:=by
  intro k7 l8 hq s hw
  subst o9
  try dsimp only at h0
  refine hK2 _ (Aa hw (zr tb U U ?_))
  replace h0:=Sh.AE h0
  subst r
  exact AP (xr (Ab (L:=[(4,(i64 k7))]) (.same U)))
 refine Ac (Aw (σ:=Int×Int×(List Av)) (fun n v=>DN N n v.1 v.2.1 v.2.2=some o9) (fun (k4,i5,l6)=>⟨51,AM [(0,(ow 0 0 l6)),(1,(i64 k4)),(5,(i64 i5))],[(CV l6)]⟩) N (p1,0,s0) h1 (AB U) (fun _ hv=>by rw[DN] at hv;cases hv) ?_)
 rintro n ⟨k4,i5,l6⟩ h1
 try dsimp only at h1 ⊢
 rw[DN] at h1
 refine AJ fun K11 hK11=>sr U fun K12 hK12=>zm tb 2 U (zz (Bx l6) (Ct Xb U U U) rfl (zq tb U (dn hK12 U ?_)))
 refine ci h1 U ?_ ?_ <;> clear h1
 ·intro b13 h1
  refine AN (hK11 _ (AJ fun K14 hK14=>Ac (sr U fun K15 hK15=>zm tb 2 U (bs h1 fun c16 gc16 h1=>zz (MK i5) (BZ CQ U U U U gc16) rfl (zq tb U (Al (Bo (id:=0) (j:=0) (i:=i5) (c:=c16) (ys:=c16.params) (encY:=eI) rfl gc16 U U U U U) (zz (ow 1 0 c16.params) (BG HM U U (Bm gc16) rfl) rfl (zq tb U (bs h1 fun q17 gq17 h1=>?_)))))))))
  refine Fu (rowsP:=[⟨0,3,1,List.map eI c16.params⟩]) (rows0:=[⟨0,3,1,List.map eI c16.params⟩]) (rows1:=[⟨0,3,1,List.map eI q17.2⟩]) (rows2:=[]) (rows1':=[⟨0,3,1,List.map eI q17.2⟩]) (rows2':=[]) (st':=[⟨0,48,5,hole l6 (BK 3 44) i5 [(.own 1 0 (List.length c16.params)),(i64 c16.result),(i64 c16.body.op),(i64 c16.body.num),(.dv 44 3 (List.map (Ay 44) c16.body.kids))]⟩,⟨0,3,1,List.map eI q17.2⟩]) (v':=(i64 q17.1)) [1] Aj ZA (KZ gq17) rfl (by decide) rfl U (.pure (AS fun _=>U) .nil) rfl U (.pure (AS fun _=>U) .nil) .nil U U (fun hln=>?_)
  have ln18:List.length q17.2=List.length c16.params:=by simpa only[List.length_map] using hln 0 _ _ rfl rfl rfl
  refine Al (Wk.take (id:=0) (m:=1) (j:=0) (i:=i5) (c:=c16) (ys:=q17.2) (encY:=eI) rfl gc16 U U (by first | (simp only[Sh.BF];done) | (simp only[Sh.BF];omega) | omega) (by decide) (show 1≤1 by decide) (fun _=>U) rfl U) ?_
  refine Al (EV (id:=0) (i:=i5) (u:=(Av.mk q17.2 c16.result c16.body)) rfl U U) ?_
  generalize hg901:Sh.put l6 i5 (Av.mk q17.2 c16.result c16.body)=lg901 at h1 ⊢
  have ln901:=congrArg List.length hg901
  simp only[Sh.BF] at ln901
  refine zq tb U (dn hK15 U (sr U fun K19 hK19=>zm tb 3 U (bs h1 fun c20 gc20 h1=>?_)))
  refine zz (.ptr 0 0 (Int.toNat i5) 0) (BZ CQ U U U (by first | (simp only[Sh.BF];done) | (simp only[Sh.BF];omega) | omega) gc20) rfl ?_
  refine zq tb U (IF (u':=(Av.mk c20.params q17.1 c20.body)) Aj Em U U gc20 U U U (show 1+1≤5 by decide) rfl U ?_)
  generalize hg902:Sh.put lg901 i5 (Av.mk c20.params q17.1 c20.body)=lg902 at h1 ⊢
  have ln902:=congrArg List.length hg902
  simp only[Sh.BF] at ln902
  refine dn hK19 U (zr tb U U (sr U fun K22 hK22=>zm tb 3 U (bs h1 fun c23 gc23 h1=>?_)))
  refine zz (.ptr 0 0 (Int.toNat i5) 0) (BZ CQ U U U (by first | (simp only[Sh.BF];done) | (simp only[Sh.BF];omega) | omega) gc23) rfl ?_
  refine zm tb 2 U (IF (u':=(Av.mk c23.params c23.result (AK.mk (Sh.w (q17.1+1)) c23.body.num c23.body.kids))) Aj Em U U gc23 U U U (show 2+1≤5 by decide) rfl U ?_)
  generalize hg903:Sh.put lg902 i5 (Av.mk c23.params c23.result (AK.mk (Sh.w (q17.1+1)) c23.body.num c23.body.kids))=lg903 at h1 ⊢
  have ln903:=congrArg List.length hg903
  simp only[Sh.BF] at ln903
  refine dn hK22 U (zr tb U U (sr U fun K25 hK25=>zm tb 3 U (bs h1 fun c26 gc26 h1=>?_)))
  refine zz (.ptr 0 0 (Int.toNat i5) 0) (BZ CQ U U U (by first | (simp only[Sh.BF];done) | (simp only[Sh.BF];omega) | omega) gc26) rfl ?_
  refine zm tb 2 U (IF (u':=(Av.mk c26.params c26.result (AK.mk c26.body.op (Sh.w ((Sh.w (q17.1+1)) + 1)) c26.body.kids))) Aj Em U U gc26 U U U (show 3+1≤5 by decide) rfl U ?_)
  generalize hg904:Sh.put lg903 i5 (Av.mk c26.params c26.result (AK.mk c26.body.op (Sh.w ((Sh.w (q17.1+1)) + 1)) c26.body.kids))=lg904 at h1 ⊢
  have ln904:=congrArg List.length hg904
  simp only[Sh.BF] at ln904
  refine dn hK25 U (zr tb U U (AR U (zm tb 2 U (bs h1 fun c28 gc28 h1=>?_))))
  refine zz (.ptr 0 0 (Int.toNat i5) 0) (BZ CQ U U U (by first | (simp only[Sh.BF];done) | (simp only[Sh.BF];omega) | omega) gc28) rfl ?_
  refine zm tb 2 U (Al (Bo (id:=0) (j:=4) (i:=i5) (c:=c28) (ys:=c28.body.kids) (encY:=(Ay 44)) rfl gc28 U U U U U) (zz (ow 2 0 c28.body.kids) (BG Ez U U (Bm gc28) rfl) rfl (zq tb U (bs h1 fun q29 gq29 h1=>?_))))
  refine Fu (rowsP:=[⟨0,44,3,List.map (Ay 44) c28.body.kids⟩]) (rows0:=[⟨0,44,3,List.map (Ay 44) c28.body.kids⟩]) (rows1:=[⟨0,44,3,List.map (Ay 44) q29.2⟩]) (rows2:=[]) (rows1':=[⟨0,44,3,List.map (Ay 44) q29.2⟩]) (rows2':=[]) (st':=[⟨0,48,5,hole lg904 (BK 3 44) i5 [(.dv 3 1 (List.map eI c28.params)),(i64 c28.result),(i64 c28.body.op),(i64 c28.body.num),(.own 2 0 (List.length c28.body.kids))]⟩,⟨1,3,1,[]⟩,⟨0,44,3,List.map (Ay 44) q29.2⟩]) (v':=(i64 q29.1)) [2] Aj ZH (OF gq29) rfl (by decide) rfl U (.deep (AG AF) .nil) rfl U (.deep (AG AF) .nil) .nil U U (fun hln=>?_)
  have ln30:List.length q29.2=List.length c28.body.kids:=by simpa only[List.length_map] using hln 0 _ _ rfl rfl rfl
  refine Al (Wk.take (id:=0) (m:=2) (j:=4) (i:=i5) (c:=c28) (ys:=q29.2) (encY:=(Ay 44)) rfl gc28 U U (by first | (simp only[Sh.BF];done) | (simp only[Sh.BF];omega) | omega) (by decide) (show 1≤2 by decide) Co U U) ?_
  refine Al (EV (id:=0) (i:=i5) (u:=(Av.mk c28.params c28.result (AK.mk c28.body.op c28.body.num q29.2))) rfl U U) ?_
  generalize hg905:Sh.put lg904 i5 (Av.mk c28.params c28.result (AK.mk c28.body.op c28.body.num q29.2))=lg905 at h1 ⊢
  have ln905:=congrArg List.length hg905
  simp only[Sh.BF] at ln905
  refine zq tb U (dn hK14 U (AR U (zm tb 3 U ?_)))
  exact AA (xi (q29.1,Sh.w (i5+1),lg905) h1 (by refine Wk.trans (Ai (L:=[(0,(.own 0 0 (List.length l6))),(1,(i64 q29.1)),(5,(i64 (Sh.w (i5+1))))]) (st':=[⟨0,48,5,List.map (BK 3 44) lg905⟩]) [0] U (by decide) rfl U (.deep (AG fun _=>U) .nil) ⟨.rfl,.rfl,.rfl,trivial⟩) ?_;exact Ab (L:=[(0,(.own 0 0 (List.length lg905))),(1,(i64 q29.1)),(5,(i64 (Sh.w (i5+1))))]) ⟨(.len (by first | (simp only[Sh.BF];done) | (simp only[Sh.BF];omega) | omega)),.rfl,.rfl,trivial⟩))
 ·intro b13 h1
  exact A0 (M9 k4 l6 (Sh.AE h1).symm _ (AB U))
theorem JF {N:Nat} {s0:(List Ah)} {s1:(List Av)} {p1:Int} {r:Int×(List Ah)×(List Av)} (h0:E0 N s0 s1 p1=some r):Ak Tryz.prog 11 [(.agg [(ow 0 0 s0),(ow 1 0 s1)]),(i64 p1)] [(Ei s0),(CV s1)] (fun v st=>v=(i64 r.1)∧st=[(Ei r.2.1),(CV r.2.2)]):=by
 unfold E0 at h0
 refine ai Tryz.func11 U U U U (sr U fun K1 hK1=>BY (m:=2) Aj U U U U U (zq tb U (dn hK1 U (sr U fun K2 hK2=>zm tb 3 U (bs h0 fun q3 gq3 h0=>?_)))))
 refine Fu (rowsP:=[(OM s0)]) (rows0:=[(OM s0)]) (rows1:=[(OM q3.2)]) (rows2:=[]) (rows1':=[(OM q3.2)]) (rows2':=[]) (st':=[(OM q3.2),(ON s1),⟨0,30,2,[[(.own 0 0 (List.length s0)),(.own 1 0 (List.length s1))]]⟩]) (v':=(i64 q3.1)) [0] Aj bE (OP gq3) rfl (by decide) rfl U (.deep (AG fun _=>U) .nil) rfl U (.deep (AG fun _=>U) .nil) .nil U U (fun hln=>?_)
 have ln4:List.length q3.2=List.length s0:=by simpa only[List.length_map] using hln 0 _ _ rfl rfl rfl
 refine zq tb U (dn hK2 U (sr U fun K5 hK5=>zm tb 3 U (bs h0 fun q6 gq6 h0=>?_)))
 refine Fu (rowsP:=[(ON s1)]) (rows0:=[(ON s1)]) (rows1:=[(ON q6.2)]) (rows2:=[]) (rows1':=[(ON q6.2)]) (rows2':=[]) (st':=[(OM q3.2),(ON q6.2),⟨0,30,2,[[(.own 0 0 (List.length s0)),(.own 1 0 (List.length s1))]]⟩]) (v':=(i64 q6.1)) [1] Aj bG (OK gq6) rfl (by decide) rfl U (.deep (AG fun _=>U) .nil) rfl U (.deep (AG fun _=>U) .nil) .nil U U (fun hln=>?_)
 have ln7:List.length q6.2=List.length s1:=by simpa only[List.length_map] using hln 0 _ _ rfl rfl rfl
 refine zq tb U (dn hK5 U (zr tb U U ?_))
 replace h0:=Sh.AE h0
 subst r
 exact AP (Exists.intro _ (And.intro (((DF (st:=[⟨0,81,3,List.map (Ae 111 3) q3.2⟩,⟨0,48,5,List.map (BK 3 44) q6.2⟩,⟨0,30,2,[[(.own 0 0 (List.length s0)),(.own 1 0 (List.length s1))]]⟩]) (st':=[⟨0,81,3,List.map (Ae 111 3) q3.2⟩,⟨0,48,5,List.map (BK 3 44) q6.2⟩,⟨0,30,2,[[(.own 0 0 (List.length q3.2)),(.own 1 0 (List.length q6.2))]]⟩]) (by first | (simp only[Sh.BF];done) | simp only[Sh.BF,ln4,ln7] | simp only[ln4,ln7])).trans (Ai (L:=[(4,(i64 q6.1))]) (st':=[⟨0,81,3,List.map (Ae 111 3) q3.2⟩,⟨0,48,5,List.map (BK 3 44) q6.2⟩]) [0,1] U (by decide) rfl U (.deep (AG fun _=>U) (.deep (AG fun _=>U) .nil)) ⟨.rfl,trivial⟩)).trans (Ab (L:=[(4,(i64 q6.1))]) ⟨.rfl,trivial⟩)) (And.intro U U)))
theorem KQ {N:Nat} {p0:(List Int)} {p1:Int} {r:Int} (h0:F6 N p0 p1=some r):Ak Tryz.prog 64 [(ls eI p0),(i64 p1)] [] (fun v st=>v=(i64 r)∧st=[]):=by
 unfold F6 at h0
 refine ai Tryz.func64 U U U U (zr tb U U (AJ fun K2 hK2=>zr tb U U ?_))
 obtain⟨o7,h1,h0⟩:=Sh.BN h0
 have M7 :∀(k6:Int),o7=Sum.inr k6→∀s,Wk 0 s ⟨21,AM [(1,(i64 k6))],[]⟩→K2 s:=by
  intro k6 hq s hw
  subst o7
  try dsimp only at h0
  refine hK2 _ (Aa hw (zr tb U U ?_))
  replace h0:=Sh.AE h0
  subst r
  exact AP (xr (Ab (L:=[(4,(i64 k6))]) (.same U)))
 refine Ac (Aw (σ:=Int×Int) (fun n v=>Dp p0 n v.1 v.2=some o7) (fun (k4,i5)=>⟨21,AM [(0,(ls eI p0)),(1,(i64 k4)),(5,(i64 i5))],[]⟩) N (p1,0) h1 (AB U) (fun _ hv=>by rw[Dp] at hv;cases hv) ?_)
 rintro n ⟨k4,i5⟩ h1
 try dsimp only at h1 ⊢
 rw[Dp] at h1
 refine AJ fun K9 hK9=>sr U fun K10 hK10=>zm tb 2 U (zl tb U U (zq tb U (dn hK10 U ?_)))
 refine ci h1 U ?_ ?_ <;> clear h1
 ·intro b11 h1
  refine AN (hK9 _ (AJ fun K12 hK12=>Ac (AJ fun K13 hK13=>sr U fun K14 hK14=>zm tb 2 U (bs h1 fun c15 gc15 h1=>zx Bu gc15 U U U (zm tb 3 U (dn hK14 U ?_))))))
  refine ci h1 U ?_ ?_ <;> clear h1
  ·intro b16 h1
   have b17:decide (c15=k4)=false:=by simpa using b16
   refine zr tb U U ?_
   replace h1:=Sh.AE h1
   subst o7
   try dsimp only[id] at h0
   replace h0:=Sh.AE h0
   subst r
   exact AP (xr (Ab (L:=[(4,(i64 (-1)))]) (.same U)))
  ·intro b16 h1
   have b19:decide (c15=k4)=true:=by simpa using b16
   exact AN (hK13 _ (AR U (zm tb 3 U (dn hK12 U (AR U (zm tb 3 U (AA (xi (Sh.w (k4+1),Sh.w (i5+1)) h1 (AB U)))))))))
 ·intro b11 h1
  exact A0 (M7 k4 (Sh.AE h1).symm _ (AB U))
theorem On {N:Nat} {p0:(List Ba)} {p1:Int} {r:Int} (h0:G7 N p0 p1=some r):Ak Tryz.prog 63 [(ls At p0),(i64 p1)] [] (fun v st=>v=(i64 r)∧st=[]):=by
 unfold G7 at h0
 refine ai Tryz.func63 U U U U (zr tb U U (AJ fun K2 hK2=>zr tb U U ?_))
 obtain⟨o7,h1,h0⟩:=Sh.BN h0
 have M7 :∀(k6:Int),o7=Sum.inr k6→∀s,Wk 0 s ⟨22,AM [(1,(i64 k6))],[]⟩→K2 s:=by
  intro k6 hq s hw
  subst o7
  try dsimp only at h0
  refine hK2 _ (Aa hw (zr tb U U ?_))
  replace h0:=Sh.AE h0
  subst r
  exact AP (xr (Ab (L:=[(4,(i64 k6))]) (.same U)))
 refine Ac (Aw (σ:=Int×Int) (fun n v=>Dh N p0 n v.1 v.2=some o7) (fun (k4,i5)=>⟨22,AM [(0,(ls At p0)),(1,(i64 k4)),(5,(i64 i5))],[]⟩) N (p1,0) h1 (AB U) (fun _ hv=>by rw[Dh] at hv;cases hv) ?_)
 rintro n ⟨k4,i5⟩ h1
 try dsimp only at h1 ⊢
 rw[Dh] at h1
 refine AJ fun K9 hK9=>sr U fun K10 hK10=>zm tb 2 U (zl tb U U (zq tb U (dn hK10 U ?_)))
 refine ci h1 U ?_ ?_ <;> clear h1
 ·intro b11 h1
  refine AN (hK9 _ (AJ fun K12 hK12=>Ac (sr U fun K13 hK13=>zm tb 2 U (bs h1 fun c14 gc14 h1=>zx H0 gc14 U U U (zm tb 3 U (bs h1 fun q15 gq15 h1=>zc ZO (KQ gq15) rfl U U (zq tb U (dn hK13 U ?_))))))))
  refine zr tb U U ?_
  refine ci h1 U ?_ ?_ <;> clear h1
  ·intro b17 h1
   refine zr tb U U ?_
   replace h1:=Sh.AE h1
   subst o7
   try dsimp only[id] at h0
   replace h0:=Sh.AE h0
   subst r
   exact AP (xr (Ab (L:=[(4,(i64 (-1)))]) (.same U)))
  ·intro b17 h1
   exact AN (hK12 _ (AR U (zm tb 3 U (AA (xi (q15,Sh.w (i5+1)) h1 (AB U))))))
 ·intro b11 h1
  exact A0 (M7 k4 (Sh.AE h1).symm _ (AB U))
theorem OJ {N:Nat} {p0:(List Ah)} {p1:Int} {r:Int} (h0:GU N p0 p1=some r):Ak Tryz.prog 31 [(BS p0),(i64 p1)] [] (fun v st=>v=(i64 r)∧st=[]):=by
 unfold GU at h0
 refine ai Tryz.func31 U U U U (zr tb U U (AJ fun K2 hK2=>zr tb U U ?_))
 obtain⟨o7,h1,h0⟩:=Sh.BN h0
 have M7 :∀(k6:Int),o7=Sum.inr k6→∀s,Wk 0 s ⟨40,AM [(1,(i64 k6))],[]⟩→K2 s:=by
  intro k6 hq s hw
  subst o7
  try dsimp only at h0
  refine hK2 _ (Aa hw (zr tb U U ?_))
  replace h0:=Sh.AE h0
  subst r
  exact AP (xr (Ab (L:=[(4,(i64 k6))]) (.same U)))
 refine Ac (Aw (σ:=Int×Int) (fun n v=>DO N p0 n v.1 v.2=some o7) (fun (k4,i5)=>⟨40,AM [(0,(BS p0)),(1,(i64 k4)),(5,(i64 i5))],[]⟩) N (p1,0) h1 (AB U) (fun _ hv=>by rw[DO] at hv;cases hv) ?_)
 rintro n ⟨k4,i5⟩ h1
 try dsimp only at h1 ⊢
 rw[DO] at h1
 refine AJ fun K9 hK9=>sr U fun K10 hK10=>zm tb 2 U (zl tb U U (zq tb U (dn hK10 U ?_)))
 refine ci h1 U ?_ ?_ <;> clear h1
 ·intro b11 h1
  refine AN (hK9 _ (AJ fun K12 hK12=>Ac (AJ fun K13 hK13=>sr U fun K14 hK14=>zm tb 2 U (bs h1 fun c15 gc15 h1=>zx DA gc15 U U U (zm tb 4 U (dn hK14 U ?_))))))
  refine ci h1 U ?_ ?_ <;> clear h1
  ·intro b16 h1
   have b17:decide (c15.from_=k4)=false:=by simpa using b16
   refine zr tb U U ?_
   replace h1:=Sh.AE h1
   subst o7
   try dsimp only[id] at h0
   replace h0:=Sh.AE h0
   subst r
   exact AP (xr (Ab (L:=[(4,(i64 (-1)))]) (.same U)))
  ·intro b16 h1
   have b19:decide (c15.from_=k4)=true:=by simpa using b16
   refine AN (hK13 _ (zr tb U U (AJ fun K21 hK21=>sr U fun K22 hK22=>zm tb 2 U (zx DA gc15 U U U (zm tb 4 U (dn hK22 U ?_))))))
   refine ci h1 U ?_ ?_ <;> clear h1
   ·intro b23 h1
    have b24:decide (c15.to=(Sh.w (k4+1)))=false:=by simpa using b23
    refine zr tb U U ?_
    replace h1:=Sh.AE h1
    subst o7
    try dsimp only[id] at h0
    replace h0:=Sh.AE h0
    subst r
    exact AP (xr (Ab (L:=[(4,(i64 (-1)))]) (.same U)))
   ·intro b23 h1
    have b26:decide (c15.to=(Sh.w (k4+1)))=true:=by simpa using b23
    refine AN (hK21 _ (zr tb U U (sr U fun K28 hK28=>zm tb 2 U (zx DA gc15 U U U (zm tb 3 U (bs h1 fun q29 gq29 h1=>zc af (On gq29) rfl U U (zq tb U (dn hK28 U (zr tb U U ?_)))))))))
    refine ci h1 U ?_ ?_ <;> clear h1
    ·intro b31 h1
     refine zr tb U U ?_
     replace h1:=Sh.AE h1
     subst o7
     try dsimp only[id] at h0
     replace h0:=Sh.AE h0
     subst r
     exact AP (xr (Ab (L:=[(4,(i64 (-1)))]) (.same U)))
    ·intro b31 h1
     exact AN (hK12 _ (AR U (zm tb 3 U (AA (xi (q29,Sh.w (i5+1)) h1 (AB U))))))
 ·intro b11 h1
  exact A0 (M7 k4 (Sh.AE h1).symm _ (AB U))
theorem Mq {N:Nat} {rec_laws_heldExprS:(List AK)→Int→Option (Int)} (hrec_laws_heldExprS :∀{p0:(List AK)} {p1:Int} {r:Int},rec_laws_heldExprS p0 p1=some r→Ak Tryz.prog 65 [(Cx p0),(i64 p1)] [] (fun v st=>v=(i64 r)∧st=[])) {p0:(List AK)} {p1:Int} {r:Int} (h0:Gx N rec_laws_heldExprS p0 p1=some r):Ak Tryz.prog 65 [(Cx p0),(i64 p1)] [] (fun v st=>v=(i64 r)∧st=[]):=by
 unfold Gx at h0
 refine ai Tryz.func65 U U U U (zr tb U U (AJ fun K2 hK2=>zr tb U U ?_))
 obtain⟨o7,h1,h0⟩:=Sh.BN h0
 have M7 :∀(k6:Int),o7=Sum.inr k6→∀s,Wk 0 s ⟨40,AM [(1,(i64 k6))],[]⟩→K2 s:=by
  intro k6 hq s hw
  subst o7
  try dsimp only at h0
  refine hK2 _ (Aa hw (zr tb U U ?_))
  replace h0:=Sh.AE h0
  subst r
  exact AP (xr (Ab (L:=[(4,(i64 k6))]) (.same U)))
 refine Ac (Aw (σ:=Int×Int) (fun n v=>Cr p0 rec_laws_heldExprS n v.1 v.2=some o7) (fun (k4,i5)=>⟨40,AM [(0,(Cx p0)),(1,(i64 k4)),(5,(i64 i5))],[]⟩) N (p1,0) h1 (AB U) (fun _ hv=>by rw[Cr] at hv;cases hv) ?_)
 rintro n ⟨k4,i5⟩ h1
 try dsimp only at h1 ⊢
 rw[Cr] at h1
 refine AJ fun K9 hK9=>sr U fun K10 hK10=>zm tb 2 U (zl tb U U (zq tb U (dn hK10 U ?_)))
 refine ci h1 U ?_ ?_ <;> clear h1
 ·intro b11 h1
  refine AN (hK9 _ (AJ fun K12 hK12=>Ac (AJ fun K13 hK13=>sr U fun K14 hK14=>zm tb 2 U (bs h1 fun c15 gc15 h1=>zz (FF c15) (Bq A2 U U gc15 (A4 _) rfl) rfl (zm tb 4 U (dn hK14 U ?_))))))
  refine ci h1 U ?_ ?_ <;> clear h1
  ·intro b16 h1
   have b17:decide (c15.op=k4)=false:=by simpa using b16
   refine zr tb U U ?_
   replace h1:=Sh.AE h1
   subst o7
   try dsimp only[id] at h0
   replace h0:=Sh.AE h0
   subst r
   exact AP (xr (Ab (L:=[(4,(i64 (-1)))]) (.same U)))
  ·intro b16 h1
   have b19:decide (c15.op=k4)=true:=by simpa using b16
   refine AN (hK13 _ (zr tb U U (AJ fun K21 hK21=>sr U fun K22 hK22=>zm tb 2 U (zz (FF c15) (Bq A2 U U gc15 (A4 _) rfl) rfl (zm tb 4 U (dn hK22 U ?_))))))
   refine ci h1 U ?_ ?_ <;> clear h1
   ·intro b23 h1
    have b24:decide (c15.num=(Sh.w (k4+1)))=false:=by simpa using b23
    refine zr tb U U ?_
    replace h1:=Sh.AE h1
    subst o7
    try dsimp only[id] at h0
    replace h0:=Sh.AE h0
    subst r
    exact AP (xr (Ab (L:=[(4,(i64 (-1)))]) (.same U)))
   ·intro b23 h1
    have b26:decide (c15.num=(Sh.w (k4+1)))=true:=by simpa using b23
    refine AN (hK21 _ (zr tb U U (sr U fun K28 hK28=>zm tb 2 U (zz (FF c15) (Bq A2 U U gc15 (A4 _) rfl) rfl (zm tb 3 U (bs h1 fun q29 gq29 h1=>zc ZJ (hrec_laws_heldExprS gq29) rfl U U (zq tb U (dn hK28 U (zr tb U U ?_)))))))))
    refine ci h1 U ?_ ?_ <;> clear h1
    ·intro b31 h1
     refine zr tb U U ?_
     replace h1:=Sh.AE h1
     subst o7
     try dsimp only[id] at h0
     replace h0:=Sh.AE h0
     subst r
     exact AP (xr (Ab (L:=[(4,(i64 (-1)))]) (.same U)))
    ·intro b31 h1
     exact AN (hK12 _ (AR U (zm tb 3 U (AA (xi (q29,Sh.w (i5+1)) h1 (AB U))))))
 ·intro b11 h1
  exact A0 (M7 k4 (Sh.AE h1).symm _ (AB U))

theorem MT {N:Nat} :∀(n:Nat),∀{p0:(List AK)} {p1:Int} {r:Int},Dl N n p0 p1=some r→Ak Tryz.prog 65 [(Cx p0),(i64 p1)] [] (fun v st=>v=(i64 r)∧st=[]):=by
 intro n
 induction n with
 | zero=>intro p0 p1 r h0;cases h0
 | succ n ih=>
  intro p0 p1 r h0
  rw[Dl] at h0
  exact Mq (fun h=>ih h) h0
theorem Nv {N:Nat} :∀{p0:(List AK)} {p1:Int} {r:Int},Hj N p0 p1=some r→Ak Tryz.prog 65 [(Cx p0),(i64 p1)] [] (fun v st=>v=(i64 r)∧st=[]):=by
 intro p0 p1 r h0
 exact MT N h0
theorem Nw {N:Nat} {p0:(List Av)} {p1:Int} {r:Int} (h0:Gf N p0 p1=some r):Ak Tryz.prog 32 [(ls A5 p0),(i64 p1)] [] (fun v st=>v=(i64 r)∧st=[]):=by
 unfold Gf at h0
 refine ai Tryz.func32 U U U U (zr tb U U (AJ fun K2 hK2=>zr tb U U ?_))
 obtain⟨o7,h1,h0⟩:=Sh.BN h0
 have M7 :∀(k6:Int),o7=Sum.inr k6→∀s,Wk 0 s ⟨61,AM [(1,(i64 k6))],[]⟩→K2 s:=by
  intro k6 hq s hw
  subst o7
  try dsimp only at h0
  refine hK2 _ (Aa hw (zr tb U U ?_))
  replace h0:=Sh.AE h0
  subst r
  exact AP (xr (Ab (L:=[(4,(i64 k6))]) (.same U)))
 refine Ac (Aw (σ:=Int×Int) (fun n v=>DS N p0 n v.1 v.2=some o7) (fun (k4,i5)=>⟨61,AM [(0,(ls A5 p0)),(1,(i64 k4)),(5,(i64 i5))],[]⟩) N (p1,0) h1 (AB U) (fun _ hv=>by rw[DS] at hv;cases hv) ?_)
 rintro n ⟨k4,i5⟩ h1
 try dsimp only at h1 ⊢
 rw[DS] at h1
 refine AJ fun K9 hK9=>sr U fun K10 hK10=>zm tb 2 U (zl tb U U (zq tb U (dn hK10 U ?_)))
 refine ci h1 U ?_ ?_ <;> clear h1
 ·intro b11 h1
  refine AN (hK9 _ (AJ fun K12 hK12=>Ac (sr U fun K13 hK13=>zm tb 2 U (bs h1 fun c14 gc14 h1=>zx CQ gc14 U U U (zm tb 3 U (bs h1 fun q15 gq15 h1=>zc ZO (KQ gq15) rfl U U (zq tb U (dn hK13 U ?_))))))))
  refine AJ fun K16 hK16=>zr tb U U ?_
  refine ci h1 U ?_ ?_ <;> clear h1
  ·intro b18 h1
   refine zr tb U U ?_
   replace h1:=Sh.AE h1
   subst o7
   try dsimp only[id] at h0
   replace h0:=Sh.AE h0
   subst r
   exact AP (xr (Ab (L:=[(4,(i64 (-1)))]) (.same U)))
  ·intro b18 h1
   refine AN (hK16 _ (AJ fun K20 hK20=>sr U fun K21 hK21=>zm tb 2 U (zx CQ gc14 U U U (zm tb 4 U (dn hK21 U ?_)))))
   refine ci h1 U ?_ ?_ <;> clear h1
   ·intro b22 h1
    have b23:decide (c14.result=q15)=false:=by simpa using b22
    refine zr tb U U ?_
    replace h1:=Sh.AE h1
    subst o7
    try dsimp only[id] at h0
    replace h0:=Sh.AE h0
    subst r
    exact AP (xr (Ab (L:=[(4,(i64 (-1)))]) (.same U)))
   ·intro b22 h1
    have b25:decide (c14.result=q15)=true:=by simpa using b22
    refine AN (hK20 _ (zr tb U U (AJ fun K27 hK27=>sr U fun K28 hK28=>zm tb 2 U (zx CQ gc14 U U U (zm tb 5 U (dn hK28 U ?_))))))
    refine ci h1 U ?_ ?_ <;> clear h1
    ·intro b29 h1
     have b30:decide (c14.body.op=(Sh.w (q15+1)))=false:=by simpa using b29
     refine zr tb U U ?_
     replace h1:=Sh.AE h1
     subst o7
     try dsimp only[id] at h0
     replace h0:=Sh.AE h0
     subst r
     exact AP (xr (Ab (L:=[(4,(i64 (-1)))]) (.same U)))
    ·intro b29 h1
     have b32:decide (c14.body.op=(Sh.w (q15+1)))=true:=by simpa using b29
     refine AN (hK27 _ (zr tb U U (AJ fun K34 hK34=>sr U fun K35 hK35=>zm tb 2 U (zx CQ gc14 U U U (zm tb 5 U (dn hK35 U ?_))))))
     refine ci h1 U ?_ ?_ <;> clear h1
     ·intro b36 h1
      have b37:decide (c14.body.num=(Sh.w ((Sh.w (q15+1)) + 1)))=false:=by simpa using b36
      refine zr tb U U ?_
      replace h1:=Sh.AE h1
      subst o7
      try dsimp only[id] at h0
      replace h0:=Sh.AE h0
      subst r
      exact AP (xr (Ab (L:=[(4,(i64 (-1)))]) (.same U)))
     ·intro b36 h1
      have b39:decide (c14.body.num=(Sh.w ((Sh.w (q15+1)) + 1)))=true:=by simpa using b36
      refine AN (hK34 _ (zr tb U U (sr U fun K41 hK41=>zm tb 2 U (zx CQ gc14 U U U (zm tb 4 U (bs h1 fun q42 gq42 h1=>zc ZJ (Nv gq42) rfl U U (zq tb U (dn hK41 U (zr tb U U ?_)))))))))
      refine ci h1 U ?_ ?_ <;> clear h1
      ·intro b44 h1
       refine zr tb U U ?_
       replace h1:=Sh.AE h1
       subst o7
       try dsimp only[id] at h0
       replace h0:=Sh.AE h0
       subst r
       exact AP (xr (Ab (L:=[(4,(i64 (-1)))]) (.same U)))
      ·intro b44 h1
       exact AN (hK12 _ (AR U (zm tb 3 U (AA (xi (q42,Sh.w (i5+1)) h1 (AB U))))))
 ·intro b11 h1
  exact A0 (M7 k4 (Sh.AE h1).symm _ (AB U))
theorem JH {N:Nat} {p0:Ag} {p1:Int} {r:Int} (h0:E1 N p0 p1=some r):Ak Tryz.prog 12 [(Gn p0),(i64 p1)] [] (fun v st=>v=(i64 r)∧st=[]):=by
 unfold E1 at h0
 refine ai Tryz.func12 U U U U (sr U fun K1 hK1=>BY (m:=0) Aj U U U U U (zq tb U (dn hK1 U (sr U fun K2 hK2=>zm tb 3 U (bs h0 fun q3 gq3 h0=>zc bC (OJ gq3) rfl U U (zq tb U (dn hK2 U (AJ fun K4 hK4=>?_))))))))
 refine zr tb U U ?_
 refine ci h0 U ?_ ?_ <;> clear h0
 ·intro b6 h0
  refine zr tb U U ?_
  replace h0:=Sh.AE h0
  subst r
  exact AP (xr (Aq [(4,(i64 (-1)))] U))
 ·intro b6 h0
  refine AN (hK4 _ (sr U fun K8 hK8=>zm tb 3 U (bs h0 fun q9 gq9 h0=>zc bP (Nw gq9) rfl U U (zq tb U (dn hK8 U (AJ fun K10 hK10=>zr tb U U ?_))))))
  refine ci h0 U ?_ ?_ <;> clear h0
  ·intro b12 h0
   refine zr tb U U ?_
   replace h0:=Sh.AE h0
   subst r
   exact AP (xr (Aq [(4,(i64 (-1)))] U))
  ·intro b12 h0
   refine AN (hK10 _ (zr tb U U ?_))
   replace h0:=Sh.AE h0
   subst r
   exact AP (xr (Aq [(4,(i64 q9))] U))
theorem MG {N:Nat} {p0:Ag} {r:Ag×Bool} (h0:EA N p0=some r):Ak Tryz.prog 9 [(Gn p0)] [] (fun v st=>v=(.Cm [(.agg [(BS r.1.decls),(ls A5 r.1.funcs)]),(.bool r.2)])∧st=[]):=by
 unfold EA at h0
 refine EP U (ai Tryz.func9 U U U U (sr U fun K1 hK1=>BY (m:=0) Aj U U U U U (A7 (m:=1) Aj HK U U (zq tb U (dn hK1 U (AJ fun K2 hK2=>sr U fun K3 hK3=>zq tb U (bs h0 fun q4 gq4 h0=>zc ZL (Io gq4) rfl U U ?_)))))))
 refine zq tb U (dn hK3 U ?_)
 refine ci h0 U ?_ ?_ <;> clear h0
 ·intro b5 h0
  have b6:q4=false:=by simpa using b5
  refine sr U fun K7 hK7=>zz (.agg [.zc,.zc]) (FX RH RN HK U U) rfl (BI Aj FE U U U U U U (show 0+2≤2 by decide) rfl (zq tb U (dn hK7 U ?_)))
  replace h0:=Sh.AE h0
  subst r
  exact AP (Exists.intro _ (And.intro ((((Fi (id:=1) (cs:=[.zc,.zc]) (cs':=TS) (st':=[(Pn p0.decls p0.funcs),⟨0,30,2,[TS]⟩]) rfl ⟨le.zc,le.rfl,trivial⟩ U U).trans (Fi (id:=1) (cs:=TS) (cs':=Nz) (st':=[(Pn p0.decls p0.funcs),⟨0,30,2,[Nz]⟩]) rfl ⟨le.rfl,le.zc,trivial⟩ U U)).trans (Ai (L:=[(2,Ax),(3,(.bool false))]) (st':=[⟨0,30,2,[Nz]⟩]) [1] U (by decide) rfl U (.raw U U .nil) ⟨.rfl,.rfl,trivial⟩)).trans (Ab (L:=[(2,Ax),(3,(.bool false))]) ⟨.rfl,.rfl,trivial⟩)) (A8 (x:=.tmp 2) (off:=0) (cs:=Nz) (vs:=Nz) FE U U U (show 0+2≤2 by decide) rfl _ U)))
 ·intro b5 h0
  have b8:q4=true:=by simpa using b5
  refine AN (hK2 _ (sr U fun K9 hK9=>zq tb U (bs h0 fun q10 gq10 h0=>BW (v':=(.Cm [(.agg [(ow 2 0 q10.1.decls),(ow 3 0 q10.1.funcs)]),(.bool q10.2)])) Aj Y8 (J0 gq10) rfl U ⟨(AG fun _=>U),⟨(AG fun _=>U),trivial⟩⟩ U U (zm tb 2 U (Al (G3 (L:=[(2,Ao),(10,(.agg [(BS q10.1.decls),(ow 3 0 q10.1.funcs)])),(11,(.bool q10.2))]) (st':=[(Pn p0.decls p0.funcs),⟨0,30,2,[[.zc,.zc]]⟩,⟨1,81,3,[]⟩,(CV q10.1.funcs)]) (id:=2) rfl (show 0≤2 by decide) (Go.Abs.FH (fun _=>U)) ⟨.rfl,(.agg ⟨(.Ip U (fun x=>Er x)),.rfl,trivial⟩),.rfl,trivial⟩ U) (Al (G3 (L:=[(2,Ao),(10,(.agg [(BS q10.1.decls),(ls A5 q10.1.funcs)])),(11,(.bool q10.2))]) (st':=[(Pn p0.decls p0.funcs),⟨0,30,2,[[.zc,.zc]]⟩,⟨1,81,3,[]⟩,⟨1,48,5,[]⟩]) (id:=3) rfl (show 0≤3 by decide) (Go.Abs.FH (fun _=>U)) ⟨.rfl,(.agg ⟨.rfl,(.Ip U (fun x=>Ek x)),trivial⟩),.rfl,trivial⟩ U) (BI Aj FE U U U U U U (show 0+2≤2 by decide) rfl (zq tb U (dn hK9 U ?_)))))))))
  replace h0:=Sh.AE h0
  subst r
  exact AP (Exists.intro _ (And.intro ((Ai (L:=[(2,Ax),(3,(.bool q10.2))]) (st':=[(Pn q10.1.decls q10.1.funcs)]) [1] U (by decide) rfl U (.raw U U .nil) ⟨.rfl,.rfl,trivial⟩).trans (Ab (L:=[(2,Ax),(3,(.bool q10.2))]) ⟨.rfl,.rfl,trivial⟩)) (A8 (x:=.tmp 2) (off:=0) (cs:=[(BS q10.1.decls),(ls A5 q10.1.funcs)]) (vs:=[(BS q10.1.decls),(ls A5 q10.1.funcs)]) FE U U U (show 0+2≤2 by decide) rfl _ U)))
theorem J4 {N:Nat} {p0:Ag} {r:Bool} (h0:E2 N p0=some r):Ak Tryz.prog 3 [(Gn p0)] [] (fun v st=>v=(.bool r)∧st=[]):=by
 unfold E2 at h0
 refine ai Tryz.func3 U U U U (sr U fun K1 hK1=>BY (m:=0) Aj U U U U U (zq tb U (dn hK1 U (zr tb U U (sr U fun K3 hK3=>zm tb 2 U (bs h0 fun q4 gq4 h0=>zc ba (OD gq4) rfl U U (zq tb U (dn hK3 U ?_))))))))
 refine AJ fun K5 hK5=>zr tb U U ?_
 refine ci h0 U ?_ ?_ <;> clear h0
 ·intro b7 h0
  refine zr tb U U ?_
  replace h0:=Sh.AE h0
  subst r
  exact AP (xr (Aq [(2,(.bool true))] U))
 ·intro b7 h0
  refine AN (hK5 _ (sr U fun K9 hK9=>zq tb U (bs h0 fun q10 gq10 h0=>BW (v':=(.agg [(ow 1 0 q10.decls),(ow 2 0 q10.funcs)])) Aj Yo (GQ gq10) rfl U ⟨(AG fun _=>U),⟨(AG fun _=>U),trivial⟩⟩ U U (Al (G3 (L:=[(1,Ax),(21,(.agg [(ls Ad q10.decls),(ow 2 0 q10.funcs)]))]) (st':=[(SK p0.decls p0.funcs),⟨1,81,3,[]⟩,(NV q10)]) (id:=1) rfl (show 0≤1 by decide) (Go.Abs.FH (fun _=>U)) ⟨.rfl,(.agg ⟨(.Ip U (fun x=>Er x)),.rfl,trivial⟩),trivial⟩ U) (Al (G3 (L:=[(1,Ax),(21,(Gn q10))]) (st':=[(SK p0.decls p0.funcs),⟨1,81,3,[]⟩,⟨1,48,5,[]⟩]) (id:=2) rfl (show 0≤2 by decide) (Go.Abs.FH (fun _=>U)) ⟨.rfl,(.agg ⟨.rfl,(.Ip U (fun x=>Ek x)),trivial⟩),trivial⟩ U) (bs h0 fun q11 gq11 h0=>zc (v':=(.Cm [(.agg [(BS q11.1.decls),(ls A5 q11.1.funcs)]),(.bool q11.2)])) bX (NT gq11) rfl U U (zm tb 3 U (A7 (m:=3) Aj HK U U (BI Aj FE U U U U U U (show 0+2≤2 by decide) rfl ?_)))))))))
  refine zq tb U (dn hK9 U (sr U fun K12 hK12=>zq tb U (bs h0 fun q13 gq13 h0=>BW (v':=(.agg [(ow 4 0 q13.decls),(ow 5 0 q13.funcs)])) Aj Yo (GQ gq13) rfl U ⟨(AG fun _=>U),⟨(AG fun _=>U),trivial⟩⟩ U U (A7 (m:=6) Aj HK U U (BI Aj FE U U U U U U (show 0+2≤2 by decide) rfl (dn hK12 U (sr U fun K14 hK14=>zq tb U (bs h0 fun q15 gq15 h0=>?_))))))))
  refine Jn (v':=(.Cm [(.agg [(ow 7 0 q15.1.decls),(ow 8 0 q15.1.funcs)]),(.bool q15.2)])) Aj au (NY gq15) rfl (.agg (.ownD U U (fun _=>U) (fun x=>Er x) (.ownD U U (fun _=>U) (fun x=>Ek x) .nil)) .nil) rfl (XO (fun _=>U) (XO (fun _=>U) trivial)) rfl U (zm tb 3 U (A7 (m:=9) Aj HK U U (BI Aj FE U U U U U U (show 0+2≤2 by decide) rfl (zq tb U (dn hK14 U (AJ fun K16 hK16=>AJ fun K17 hK17=>bs h0 fun o19 h1 h0=>?_))))))
  have M19 :∀(t18:Bool),o19=t18→∀s,Wk 0 s ⟨96,AM [(1,Ax),(4,Ao),(5,(.bool q11.2)),(6,(.ptr 4 0 0 0)),(7,(.ptr 7 0 0 0)),(8,(.bool q15.2)),(40,(.bool t18))],[(SK p0.decls p0.funcs),(Pn q11.1.decls q11.1.funcs),(ro 0 81 3 (Ae 111 3) q13.decls),(NV q13),⟨0,30,2,[[(ow 2 0 q13.decls),(ow 3 0 q13.funcs)]]⟩,(Ei q15.1.decls),(CV q15.1.funcs),⟨0,30,2,[[(ow 5 0 q15.1.decls),(ow 6 0 q15.1.funcs)]]⟩]⟩→K17 s:=by
   intro t18 hq s hw
   subst o19
   try dsimp only at h0
   refine hK17 _ (Aa hw ?_)
   refine ci h0 U ?_ ?_ <;> clear h0
   ·intro b20 h0
    refine zr tb U U ?_
    replace h0:=Sh.AE h0
    subst r
    exact AP (xr (Aq [(2,(.bool false))] U))
   ·intro b20 h0
    refine AN (hK16 _ (AJ fun K22 hK22=>AJ fun K23 hK23=>?_))
    refine B2 (by kernel_rfl) (by kernel_rfl) (by rfl) ?_
    iterate 2 refine yq tb rfl ?_
    refine bs h0 fun q24 gq24 h0=>?_
    refine CH (v:=(Gn q24)) Aj Yo (Ak.wk (GQ gq24) (by refine Wk.trans (G3 (L:=[(0,(.agg [(ls Ad q24.decls),(ow 1 0 q24.funcs)]))]) (st':=[⟨1,81,3,[]⟩,(NV q24)]) (id:=0) rfl (show 0≤0 by decide) (Go.Abs.FH (fun _=>U)) ⟨(.agg ⟨(.Ip U (fun x=>Er x)),.rfl,trivial⟩),trivial⟩ U) ?_;refine Wk.trans (G3 (L:=[(0,(Gn q24))]) (st':=[⟨1,81,3,[]⟩,⟨1,48,5,[]⟩]) (id:=1) rfl (show 0≤1 by decide) (Go.Abs.FH (fun _=>U)) ⟨(.agg ⟨.rfl,(.Ip U (fun x=>Ek x)),trivial⟩),trivial⟩ U) ?_;exact Ai [] U (by decide) rfl U .nil (.same U))) rfl U U ?_
    refine bs h0 fun q25 gq25 h0=>Rf (v':=(.bool q25)) Aj Vx (GP gq25) rfl (.agg (.ownD U U (fun _=>U) (fun x=>Er x) (.ownD U U (fun _=>U) (fun x=>Ek x) .nil)) (.val U .nil)) rfl U (yq tb U (Bh (hK23 _ ?_)))
    refine ci h0 U ?_ ?_ <;> clear h0
    ·intro b26 h0
     have b27:q25=false:=by simpa using b26
     refine zr tb U U ?_
     replace h0:=Sh.AE h0
     subst r
     exact AP (xr (Aq [(2,(.bool false))] U))
    ·intro b26 h0
     have b29:q25=true:=by simpa using b26
     refine AN (hK22 _ (zr tb U U (sr U fun K31 hK31=>zm tb 2 U (bs h0 fun q32 gq32 h0=>?_))))
     refine Fu (rowsP:=[⟨0,81,3,List.map (Ae 111 3) q13.decls⟩,⟨0,48,5,List.map (BK 3 44) q13.funcs⟩]) (rows0:=[⟨0,81,3,List.map (Ae 111 3) q13.decls⟩,⟨0,48,5,List.map (BK 3 44) q13.funcs⟩]) (rows1:=[(OM q32.2.1),(ON q32.2.2)]) (rows2:=[]) (rows1':=[(OM q32.2.1),(ON q32.2.2)]) (rows2':=[]) (st':=[⟨0,25,2,[[(.sl (List.map Ad p0.decls)),(.sl (List.map A5 p0.funcs))]]⟩,⟨0,30,2,[[(.sl (List.map Ad q11.1.decls)),(.sl (List.map A5 q11.1.funcs))]]⟩,(OM q32.2.1),(ON q32.2.2),⟨0,30,2,[[(.own 2 0 (List.length q13.decls)),(.own 3 0 (List.length q13.funcs))]]⟩,(OM q15.1.decls),(ON q15.1.funcs),⟨0,30,2,[[(.own 5 0 (List.length q15.1.decls)),(.own 6 0 (List.length q15.1.funcs))]]⟩]) (v':=(i64 q32.1)) [2,3] Aj ZF (JF gq32) rfl (by decide) rfl U (.deep (AG fun _=>U) (.deep (AG fun _=>U) .nil)) rfl U (.deep (AG fun _=>U) (.deep (AG fun _=>U) .nil)) .nil U U (fun hln=>?_)
     have ln33:List.length q32.2.1=List.length q13.decls:=by simpa only[List.length_map] using hln 0 _ _ rfl rfl rfl
     have ln34:List.length q32.2.2=List.length q13.funcs:=by simpa only[List.length_map] using hln 1 _ _ rfl rfl rfl
     refine zq tb U (dn hK31 U (AJ fun K35 hK35=>AJ fun K36 hK36=>bs h0 fun o38 h1 h0=>?_))
     have M38 :∀(t37:Bool),o38=t37→∀s,Wk 0 s ⟨96,AM [(1,Ax),(4,Ao),(5,(.bool q11.2)),(7,(.ptr 4 0 0 0)),(61,(.bool t37))],[(SK p0.decls p0.funcs),(Pn q11.1.decls q11.1.funcs),(Ei q15.1.decls),(CV q15.1.funcs),(JS q15.1.decls q15.1.funcs)]⟩→K36 s:=by
      intro t37 hq s hw
      subst o38
      try dsimp only at h0
      refine hK36 _ (Aa hw ?_)
      refine ci h0 U ?_ ?_ <;> clear h0
      ·intro b39 h0
       refine zr tb U U ?_
       replace h0:=Sh.AE h0
       subst r
       exact AP (xr (Aq [(2,(.bool false))] U))
      ·intro b39 h0
       refine AN (hK35 _ (zr tb U U (sr U fun K42 hK42=>zm tb 2 U (bs h0 fun q43 gq43 h0=>?_))))
       refine Fu (rowsP:=[(OM q15.1.decls),(ON q15.1.funcs)]) (rows0:=[(OM q15.1.decls),(ON q15.1.funcs)]) (rows1:=[(OM q43.2.1),(ON q43.2.2)]) (rows2:=[]) (rows1':=[(OM q43.2.1),(ON q43.2.2)]) (rows2':=[]) (st':=[⟨0,25,2,[[(.sl (List.map Ad p0.decls)),(.sl (List.map A5 p0.funcs))]]⟩,⟨0,30,2,[[(.sl (List.map Ad q11.1.decls)),(.sl (List.map A5 q11.1.funcs))]]⟩,(OM q43.2.1),(ON q43.2.2),⟨0,30,2,[[(.own 2 0 (List.length q15.1.decls)),(.own 3 0 (List.length q15.1.funcs))]]⟩]) (v':=(i64 q43.1)) [2,3] Aj ZF (JF gq43) rfl (by decide) rfl U (.deep (AG fun _=>U) (.deep (AG fun _=>U) .nil)) rfl U (.deep (AG fun _=>U) (.deep (AG fun _=>U) .nil)) .nil U U (fun hln=>?_)
       have ln44:List.length q43.2.1=List.length q15.1.decls:=by simpa only[List.length_map] using hln 0 _ _ rfl rfl rfl
       have ln45:List.length q43.2.2=List.length q15.1.funcs:=by simpa only[List.length_map] using hln 1 _ _ rfl rfl rfl
       refine zq tb U (dn hK42 U (zr tb U U (sr U fun K47 hK47=>zm tb 2 U (bs h0 fun q48 gq48 h0=>?_))))
       refine Jn (v':=(i64 q48)) Aj ZB (JH gq48) rfl (.agg (.ownD U (by first | (simp only[Sh.BF];done) | (simp only[Sh.BF];omega) | omega) (fun _=>U) (fun x=>Er x) (.ownD U (by first | (simp only[Sh.BF];done) | (simp only[Sh.BF];omega) | omega) (fun _=>U) (fun x=>Ek x) .nil)) (.val U .nil)) rfl trivial U U ?_
       refine zq tb U (dn hK47 U (AJ fun K49 hK49=>zr tb U U ?_))
       refine ci h0 U ?_ ?_ <;> clear h0
       ·intro b51 h0
        refine zr tb U U ?_
        replace h0:=Sh.AE h0
        subst r
        exact AP (Exists.intro _ (And.intro (((DF (st:=[⟨0,25,2,[[(.sl (List.map Ad p0.decls)),(.sl (List.map A5 p0.funcs))]]⟩,⟨0,30,2,[[(.sl (List.map Ad q11.1.decls)),(.sl (List.map A5 q11.1.funcs))]]⟩,⟨0,81,3,List.map (Ae 111 3) q43.2.1⟩,⟨0,48,5,List.map (BK 3 44) q43.2.2⟩,⟨0,30,2,[[(.own 2 0 (List.length q15.1.decls)),(.own 3 0 (List.length q15.1.funcs))]]⟩]) (st':=[⟨0,25,2,[[(.sl (List.map Ad p0.decls)),(.sl (List.map A5 p0.funcs))]]⟩,⟨0,30,2,[[(.sl (List.map Ad q11.1.decls)),(.sl (List.map A5 q11.1.funcs))]]⟩,⟨0,81,3,List.map (Ae 111 3) q43.2.1⟩,⟨0,48,5,List.map (BK 3 44) q43.2.2⟩,⟨0,30,2,[[(.own 2 0 (List.length q43.2.1)),(.own 3 0 (List.length q43.2.2))]]⟩]) (by first | (simp only[Sh.BF];done) | simp only[Sh.BF,ln33,ln34,ln44,ln45] | simp only[ln33,ln34,ln44,ln45])).trans (Ai (L:=[(2,(.bool false))]) (st':=[]) [] U (by decide) rfl U .nil ⟨.rfl,trivial⟩)).trans (Ab (L:=[(2,(.bool false))]) ⟨.rfl,trivial⟩)) (And.intro U U)))
       ·intro b51 h0
        refine AN (hK49 _ (AJ fun K53 hK53=>zr tb U U ?_))
        refine ci h0 U ?_ ?_ <;> clear h0
        ·intro b55 h0
         have b56:decide (q48=q43.1)=false:=by simpa using b55
         refine zr tb U U ?_
         replace h0:=Sh.AE h0
         subst r
         exact AP (Exists.intro _ (And.intro (((DF (st:=[⟨0,25,2,[[(.sl (List.map Ad p0.decls)),(.sl (List.map A5 p0.funcs))]]⟩,⟨0,30,2,[[(.sl (List.map Ad q11.1.decls)),(.sl (List.map A5 q11.1.funcs))]]⟩,⟨0,81,3,List.map (Ae 111 3) q43.2.1⟩,⟨0,48,5,List.map (BK 3 44) q43.2.2⟩,⟨0,30,2,[[(.own 2 0 (List.length q15.1.decls)),(.own 3 0 (List.length q15.1.funcs))]]⟩]) (st':=[⟨0,25,2,[[(.sl (List.map Ad p0.decls)),(.sl (List.map A5 p0.funcs))]]⟩,⟨0,30,2,[[(.sl (List.map Ad q11.1.decls)),(.sl (List.map A5 q11.1.funcs))]]⟩,⟨0,81,3,List.map (Ae 111 3) q43.2.1⟩,⟨0,48,5,List.map (BK 3 44) q43.2.2⟩,⟨0,30,2,[[(.own 2 0 (List.length q43.2.1)),(.own 3 0 (List.length q43.2.2))]]⟩]) (by first | (simp only[Sh.BF];done) | simp only[Sh.BF,ln33,ln34,ln44,ln45] | simp only[ln33,ln34,ln44,ln45])).trans (Ai (L:=[(2,(.bool false))]) (st':=[]) [] U (by decide) rfl U .nil ⟨.rfl,trivial⟩)).trans (Ab (L:=[(2,(.bool false))]) ⟨.rfl,trivial⟩)) (And.intro U U)))
        ·intro b55 h0
         have b58:decide (q48=q43.1)=true:=by simpa using b55
         refine AN (hK53 _ (sr U fun K59 hK59=>zq tb U (bs h0 fun q60 gq60 h0=>BW (v':=(.agg [(ow 5 0 q60.decls),(ow 6 0 q60.funcs)])) Aj Yo (GQ gq60) rfl U ⟨(AG fun _=>U),⟨(AG fun _=>U),trivial⟩⟩ U U (Al (G3 (L:=[(4,Ao),(5,(.bool q11.2)),(7,(.ptr 4 0 0 0)),(10,(i64 q43.1)),(75,(.agg [(ls Ad q60.decls),(ow 6 0 q60.funcs)]))]) (st':=[(SK p0.decls p0.funcs),(Pn q11.1.decls q11.1.funcs),(Ei q43.2.1),(CV q43.2.2),(JS q15.1.decls q15.1.funcs),⟨1,81,3,[]⟩,(NV q60)]) (id:=5) rfl (show 0≤5 by decide) (Go.Abs.FH (fun _=>U)) ⟨.rfl,.rfl,.rfl,.rfl,(.agg ⟨(.Ip U (fun x=>Er x)),.rfl,trivial⟩),trivial⟩ U) (Al (G3 (L:=[(4,Ao),(5,(.bool q11.2)),(7,(.ptr 4 0 0 0)),(10,(i64 q43.1)),(75,(Gn q60))]) (st':=[(SK p0.decls p0.funcs),(Pn q11.1.decls q11.1.funcs),(Ei q43.2.1),(CV q43.2.2),(JS q15.1.decls q15.1.funcs),⟨1,81,3,[]⟩,⟨1,48,5,[]⟩]) (id:=6) rfl (show 0≤6 by decide) (Go.Abs.FH (fun _=>U)) ⟨.rfl,.rfl,.rfl,.rfl,(.agg ⟨.rfl,(.Ip U (fun x=>Ek x)),trivial⟩),trivial⟩ U) (bs h0 fun q61 gq61 h0=>zc (v':=(.Cm [(.agg [(BS q61.1.decls),(ls A5 q61.1.funcs)]),(.bool q61.2)])) au (MG gq61) rfl U U (zm tb 3 U (A7 (m:=7) Aj HK U U (BI Aj FE U U U U U U (show 0+2≤2 by decide) rfl ?_)))))))))
         refine zq tb U (dn hK59 U (AJ fun K62 hK62=>AJ fun K63 hK63=>bs h0 fun o65 h1 h0=>?_))
         have M65 :∀(t64:Bool),o65=t64→∀s,Wk 0 s ⟨96,AM [(7,CD),(10,(i64 q43.1)),(87,(.bool t64))],(Wu q43.2.1 q43.2.2)⟩→K63 s:=by
          intro t64 hq s hw
          subst o65
          try dsimp only at h0
          refine hK63 _ (Aa hw ?_)
          refine ci h0 U ?_ ?_ <;> clear h0
          ·intro b66 h0
           refine zr tb U U ?_
           replace h0:=Sh.AE h0
           subst r
           exact AP (xr (Aq [(2,(.bool false))] U))
          ·intro b66 h0
           refine AN (hK62 _ (zr tb U U (sr U fun K69 hK69=>zm tb 2 U (bs h0 fun q70 gq70 h0=>Jn (v':=(i64 q70)) Aj ZB (JH gq70) rfl (.agg (.ownD U U (fun _=>U) (fun x=>Er x) (.ownD U U (fun _=>U) (fun x=>Ek x) .nil)) (.val U .nil)) rfl trivial U U (zq tb U (dn hK69 U (AJ fun K71 hK71=>zr tb U U ?_)))))))
           refine ci h0 U ?_ ?_ <;> clear h0
           ·intro b73 h0
            refine zr tb U U ?_
            replace h0:=Sh.AE h0
            subst r
            exact AP (xr (Aq [(2,(.bool false))] U))
           ·intro b73 h0
            refine AN (hK71 _ (AJ fun K75 hK75=>zr tb U U ?_))
            refine ci h0 U ?_ ?_ <;> clear h0
            ·intro b77 h0
             have b78:decide (q70=q43.1)=false:=by simpa using b77
             refine zr tb U U ?_
             replace h0:=Sh.AE h0
             subst r
             exact AP (xr (Aq [(2,(.bool false))] U))
            ·intro b77 h0
             have b80:decide (q70=q43.1)=true:=by simpa using b77
             refine AN (hK75 _ (zr tb U U ?_))
             replace h0:=Sh.AE h0
             subst r
             exact AP (xr (Aq [(2,(.bool true))] U))
         refine AR U (zm tb 2 U (bs h1 fun q82 gq82 h1=>zc Vx (GP gq82) rfl U U (zm tb 2 U ?_)))
         rcases Sh.Az h1 with ⟨b83,h1⟩ | ⟨b83,h1⟩
         ·refine zs b83 U (zs b83 U (zs b83 U (zt b83 U ?_)))
          exact AA (M65 true (Sh.AE h1).symm _ (by refine Wk.trans (DF (st:=[⟨0,25,2,[[(.sl (List.map Ad p0.decls)),(.sl (List.map A5 p0.funcs))]]⟩,⟨0,30,2,[[(.sl (List.map Ad q11.1.decls)),(.sl (List.map A5 q11.1.funcs))]]⟩,⟨0,81,3,List.map (Ae 111 3) q43.2.1⟩,⟨0,48,5,List.map (BK 3 44) q43.2.2⟩,⟨0,30,2,[[(.own 2 0 (List.length q15.1.decls)),(.own 3 0 (List.length q15.1.funcs))]]⟩,⟨1,81,3,[]⟩,⟨1,48,5,[]⟩,⟨0,30,2,[[(.sl (List.map Ad q61.1.decls)),(.sl (List.map A5 q61.1.funcs))]]⟩]) (st':=[⟨0,25,2,[[(.sl (List.map Ad p0.decls)),(.sl (List.map A5 p0.funcs))]]⟩,⟨0,30,2,[[(.sl (List.map Ad q11.1.decls)),(.sl (List.map A5 q11.1.funcs))]]⟩,⟨0,81,3,List.map (Ae 111 3) q43.2.1⟩,⟨0,48,5,List.map (BK 3 44) q43.2.2⟩,⟨0,30,2,[[(.own 2 0 (List.length q43.2.1)),(.own 3 0 (List.length q43.2.2))]]⟩,⟨1,81,3,[]⟩,⟨1,48,5,[]⟩,⟨0,30,2,[[(.sl (List.map Ad q61.1.decls)),(.sl (List.map A5 q61.1.funcs))]]⟩]) (by first | (simp only[Sh.BF];done) | simp only[Sh.BF,ln33,ln34,ln44,ln45] | simp only[ln33,ln34,ln44,ln45])) ?_;exact BM (L:=[(7,(.ptr 2 0 0 0)),(10,(i64 q43.1)),(87,(.bool true))]) (st':=[⟨0,81,3,List.map (Ae 111 3) q43.2.1⟩,⟨0,48,5,List.map (BK 3 44) q43.2.2⟩,⟨0,30,2,[[(.own 0 0 (List.length q43.2.1)),(.own 1 0 (List.length q43.2.2))]]⟩]) (st1:=[⟨0,81,3,List.map (Ae 111 3) q43.2.1⟩,⟨0,48,5,List.map (BK 3 44) q43.2.2⟩,⟨0,30,2,[[(.own 2 0 (List.length q43.2.1)),(.own 3 0 (List.length q43.2.2))]]⟩]) [2,3,4] U .nil (by decide) rfl U (.deep (AG fun _=>U) (.deep (AG fun _=>U) (.raw U U .nil))) (.same U)))
         ·refine zg tb b83 U (zg tb b83 U (zg tb b83 U (zf b83 U ?_)))
          exact AA (M65 (q61.2 != q11.2) (Sh.AE h1).symm _ (by refine Wk.trans (DF (st:=[⟨0,25,2,[[(.sl (List.map Ad p0.decls)),(.sl (List.map A5 p0.funcs))]]⟩,⟨0,30,2,[[(.sl (List.map Ad q11.1.decls)),(.sl (List.map A5 q11.1.funcs))]]⟩,⟨0,81,3,List.map (Ae 111 3) q43.2.1⟩,⟨0,48,5,List.map (BK 3 44) q43.2.2⟩,⟨0,30,2,[[(.own 2 0 (List.length q15.1.decls)),(.own 3 0 (List.length q15.1.funcs))]]⟩,⟨1,81,3,[]⟩,⟨1,48,5,[]⟩,⟨0,30,2,[[(.sl (List.map Ad q61.1.decls)),(.sl (List.map A5 q61.1.funcs))]]⟩]) (st':=[⟨0,25,2,[[(.sl (List.map Ad p0.decls)),(.sl (List.map A5 p0.funcs))]]⟩,⟨0,30,2,[[(.sl (List.map Ad q11.1.decls)),(.sl (List.map A5 q11.1.funcs))]]⟩,⟨0,81,3,List.map (Ae 111 3) q43.2.1⟩,⟨0,48,5,List.map (BK 3 44) q43.2.2⟩,⟨0,30,2,[[(.own 2 0 (List.length q43.2.1)),(.own 3 0 (List.length q43.2.2))]]⟩,⟨1,81,3,[]⟩,⟨1,48,5,[]⟩,⟨0,30,2,[[(.sl (List.map Ad q61.1.decls)),(.sl (List.map A5 q61.1.funcs))]]⟩]) (by first | (simp only[Sh.BF];done) | simp only[Sh.BF,ln33,ln34,ln44,ln45] | simp only[ln33,ln34,ln44,ln45])) ?_;exact BM (L:=[(7,(.ptr 2 0 0 0)),(10,(i64 q43.1)),(87,(.bool (q61.2 != q11.2)))]) (st':=[⟨0,81,3,List.map (Ae 111 3) q43.2.1⟩,⟨0,48,5,List.map (BK 3 44) q43.2.2⟩,⟨0,30,2,[[(.own 0 0 (List.length q43.2.1)),(.own 1 0 (List.length q43.2.2))]]⟩]) (st1:=[⟨0,81,3,List.map (Ae 111 3) q43.2.1⟩,⟨0,48,5,List.map (BK 3 44) q43.2.2⟩,⟨0,30,2,[[(.own 2 0 (List.length q43.2.1)),(.own 3 0 (List.length q43.2.2))]]⟩]) [2,3,4] U .nil (by decide) rfl U (.deep (AG fun _=>U) (.deep (AG fun _=>U) (.raw U U .nil))) (.same U)))
     refine AR U (zm tb 3 U ?_)
     rcases Sh.Az h1 with ⟨b84,h1⟩ | ⟨b84,h1⟩
     ·refine zs b84 U ?_
      iterate 3 refine zs b84 rfl ?_
      refine zt b84 U (zq tb U ?_)
      iterate 3 refine zs rfl rfl ?_
      refine zt U U ?_
      exact AA (M38 true (Sh.AE h1).symm _ (by refine Wk.trans (DF (st:=[⟨0,25,2,[[(.sl (List.map Ad p0.decls)),(.sl (List.map A5 p0.funcs))]]⟩,⟨0,30,2,[[(.sl (List.map Ad q11.1.decls)),(.sl (List.map A5 q11.1.funcs))]]⟩,⟨0,81,3,List.map (Ae 111 3) q32.2.1⟩,⟨0,48,5,List.map (BK 3 44) q32.2.2⟩,⟨0,30,2,[[(.own 2 0 (List.length q13.decls)),(.own 3 0 (List.length q13.funcs))]]⟩,⟨0,81,3,List.map (Ae 111 3) q15.1.decls⟩,⟨0,48,5,List.map (BK 3 44) q15.1.funcs⟩,⟨0,30,2,[[(.own 5 0 (List.length q15.1.decls)),(.own 6 0 (List.length q15.1.funcs))]]⟩]) (st':=[⟨0,25,2,[[(.sl (List.map Ad p0.decls)),(.sl (List.map A5 p0.funcs))]]⟩,⟨0,30,2,[[(.sl (List.map Ad q11.1.decls)),(.sl (List.map A5 q11.1.funcs))]]⟩,⟨0,81,3,List.map (Ae 111 3) q32.2.1⟩,⟨0,48,5,List.map (BK 3 44) q32.2.2⟩,⟨0,30,2,[[(.own 2 0 (List.length q32.2.1)),(.own 3 0 (List.length q32.2.2))]]⟩,⟨0,81,3,List.map (Ae 111 3) q15.1.decls⟩,⟨0,48,5,List.map (BK 3 44) q15.1.funcs⟩,⟨0,30,2,[[(.own 5 0 (List.length q15.1.decls)),(.own 6 0 (List.length q15.1.funcs))]]⟩]) (by first | (simp only[Sh.BF];done) | simp only[Sh.BF,ln33,ln34] | simp only[ln33,ln34])) ?_;exact BM (L:=[(1,(.ptr 0 0 0 0)),(4,(.ptr 1 0 0 0)),(5,(.bool q11.2)),(7,(.ptr 4 0 0 0)),(61,(.bool true))]) (st':=[⟨0,25,2,[[(.sl (List.map Ad p0.decls)),(.sl (List.map A5 p0.funcs))]]⟩,⟨0,30,2,[[(.sl (List.map Ad q11.1.decls)),(.sl (List.map A5 q11.1.funcs))]]⟩,⟨0,81,3,List.map (Ae 111 3) q15.1.decls⟩,⟨0,48,5,List.map (BK 3 44) q15.1.funcs⟩,⟨0,30,2,[[(.own 2 0 (List.length q15.1.decls)),(.own 3 0 (List.length q15.1.funcs))]]⟩]) (st1:=[⟨0,25,2,[[(.sl (List.map Ad p0.decls)),(.sl (List.map A5 p0.funcs))]]⟩,⟨0,30,2,[[(.sl (List.map Ad q11.1.decls)),(.sl (List.map A5 q11.1.funcs))]]⟩,⟨0,81,3,List.map (Ae 111 3) q15.1.decls⟩,⟨0,48,5,List.map (BK 3 44) q15.1.funcs⟩,⟨0,30,2,[[(.own 5 0 (List.length q15.1.decls)),(.own 6 0 (List.length q15.1.funcs))]]⟩]) [0,1,5,6,7] U .nil (by decide) rfl U (.raw U U (.raw U U (.deep (AG fun _=>U) (.deep (AG fun _=>U) (.raw U U .nil))))) (.same U)))
     ·refine zg tb b84 U (zg tb b84 U (bs h1 fun q85 gq85 h1=>Jn (v':=(.bool q85)) (DH U U b84) Vx (GP gq85) rfl (.agg (.ownD U U (fun _=>U) (fun x=>Er x) (.ownD U U (fun _=>U) (fun x=>Ek x) .nil)) (.val U .nil)) rfl trivial U U (zg tb b84 U (zf b84 U (zq tb U ?_)))))
      rcases Sh.Az h1 with ⟨b86,h1⟩ | ⟨b86,h1⟩
      ·refine zs b86 U (zs b86 U (zs b86 U (zt b86 U ?_)))
       exact AA (M38 true (Sh.AE h1).symm _ (by refine Wk.trans (DF (st:=[⟨0,25,2,[[(.sl (List.map Ad p0.decls)),(.sl (List.map A5 p0.funcs))]]⟩,⟨0,30,2,[[(.sl (List.map Ad q11.1.decls)),(.sl (List.map A5 q11.1.funcs))]]⟩,⟨0,81,3,List.map (Ae 111 3) q32.2.1⟩,⟨0,48,5,List.map (BK 3 44) q32.2.2⟩,⟨0,30,2,[[(.own 2 0 (List.length q13.decls)),(.own 3 0 (List.length q13.funcs))]]⟩,⟨0,81,3,List.map (Ae 111 3) q15.1.decls⟩,⟨0,48,5,List.map (BK 3 44) q15.1.funcs⟩,⟨0,30,2,[[(.own 5 0 (List.length q15.1.decls)),(.own 6 0 (List.length q15.1.funcs))]]⟩]) (st':=[⟨0,25,2,[[(.sl (List.map Ad p0.decls)),(.sl (List.map A5 p0.funcs))]]⟩,⟨0,30,2,[[(.sl (List.map Ad q11.1.decls)),(.sl (List.map A5 q11.1.funcs))]]⟩,⟨0,81,3,List.map (Ae 111 3) q32.2.1⟩,⟨0,48,5,List.map (BK 3 44) q32.2.2⟩,⟨0,30,2,[[(.own 2 0 (List.length q32.2.1)),(.own 3 0 (List.length q32.2.2))]]⟩,⟨0,81,3,List.map (Ae 111 3) q15.1.decls⟩,⟨0,48,5,List.map (BK 3 44) q15.1.funcs⟩,⟨0,30,2,[[(.own 5 0 (List.length q15.1.decls)),(.own 6 0 (List.length q15.1.funcs))]]⟩]) (by first | (simp only[Sh.BF];done) | simp only[Sh.BF,ln33,ln34] | simp only[ln33,ln34])) ?_;exact BM (L:=[(1,(.ptr 0 0 0 0)),(4,(.ptr 1 0 0 0)),(5,(.bool q11.2)),(7,(.ptr 4 0 0 0)),(61,(.bool true))]) (st':=[⟨0,25,2,[[(.sl (List.map Ad p0.decls)),(.sl (List.map A5 p0.funcs))]]⟩,⟨0,30,2,[[(.sl (List.map Ad q11.1.decls)),(.sl (List.map A5 q11.1.funcs))]]⟩,⟨0,81,3,List.map (Ae 111 3) q15.1.decls⟩,⟨0,48,5,List.map (BK 3 44) q15.1.funcs⟩,⟨0,30,2,[[(.own 2 0 (List.length q15.1.decls)),(.own 3 0 (List.length q15.1.funcs))]]⟩]) (st1:=[⟨0,25,2,[[(.sl (List.map Ad p0.decls)),(.sl (List.map A5 p0.funcs))]]⟩,⟨0,30,2,[[(.sl (List.map Ad q11.1.decls)),(.sl (List.map A5 q11.1.funcs))]]⟩,⟨0,81,3,List.map (Ae 111 3) q15.1.decls⟩,⟨0,48,5,List.map (BK 3 44) q15.1.funcs⟩,⟨0,30,2,[[(.own 5 0 (List.length q15.1.decls)),(.own 6 0 (List.length q15.1.funcs))]]⟩]) [0,1,5,6,7] U .nil (by decide) rfl U (.raw U U (.raw U U (.deep (AG fun _=>U) (.deep (AG fun _=>U) (.raw U U .nil))))) (.same U)))
      ·refine zg tb b86 U (zg tb b86 U (zg tb b86 U (zf b86 U ?_)))
       exact AA (M38 (q15.2 != q11.2) (Sh.AE h1).symm _ (by refine Wk.trans (DF (st:=[⟨0,25,2,[[(.sl (List.map Ad p0.decls)),(.sl (List.map A5 p0.funcs))]]⟩,⟨0,30,2,[[(.sl (List.map Ad q11.1.decls)),(.sl (List.map A5 q11.1.funcs))]]⟩,⟨0,81,3,List.map (Ae 111 3) q32.2.1⟩,⟨0,48,5,List.map (BK 3 44) q32.2.2⟩,⟨0,30,2,[[(.own 2 0 (List.length q13.decls)),(.own 3 0 (List.length q13.funcs))]]⟩,⟨0,81,3,List.map (Ae 111 3) q15.1.decls⟩,⟨0,48,5,List.map (BK 3 44) q15.1.funcs⟩,⟨0,30,2,[[(.own 5 0 (List.length q15.1.decls)),(.own 6 0 (List.length q15.1.funcs))]]⟩]) (st':=[⟨0,25,2,[[(.sl (List.map Ad p0.decls)),(.sl (List.map A5 p0.funcs))]]⟩,⟨0,30,2,[[(.sl (List.map Ad q11.1.decls)),(.sl (List.map A5 q11.1.funcs))]]⟩,⟨0,81,3,List.map (Ae 111 3) q32.2.1⟩,⟨0,48,5,List.map (BK 3 44) q32.2.2⟩,⟨0,30,2,[[(.own 2 0 (List.length q32.2.1)),(.own 3 0 (List.length q32.2.2))]]⟩,⟨0,81,3,List.map (Ae 111 3) q15.1.decls⟩,⟨0,48,5,List.map (BK 3 44) q15.1.funcs⟩,⟨0,30,2,[[(.own 5 0 (List.length q15.1.decls)),(.own 6 0 (List.length q15.1.funcs))]]⟩]) (by first | (simp only[Sh.BF];done) | simp only[Sh.BF,ln33,ln34] | simp only[ln33,ln34])) ?_;exact BM (L:=[(1,(.ptr 0 0 0 0)),(4,(.ptr 1 0 0 0)),(5,(.bool q11.2)),(7,(.ptr 4 0 0 0)),(61,(.bool (q15.2 != q11.2)))]) (st':=[⟨0,25,2,[[(.sl (List.map Ad p0.decls)),(.sl (List.map A5 p0.funcs))]]⟩,⟨0,30,2,[[(.sl (List.map Ad q11.1.decls)),(.sl (List.map A5 q11.1.funcs))]]⟩,⟨0,81,3,List.map (Ae 111 3) q15.1.decls⟩,⟨0,48,5,List.map (BK 3 44) q15.1.funcs⟩,⟨0,30,2,[[(.own 2 0 (List.length q15.1.decls)),(.own 3 0 (List.length q15.1.funcs))]]⟩]) (st1:=[⟨0,25,2,[[(.sl (List.map Ad p0.decls)),(.sl (List.map A5 p0.funcs))]]⟩,⟨0,30,2,[[(.sl (List.map Ad q11.1.decls)),(.sl (List.map A5 q11.1.funcs))]]⟩,⟨0,81,3,List.map (Ae 111 3) q15.1.decls⟩,⟨0,48,5,List.map (BK 3 44) q15.1.funcs⟩,⟨0,30,2,[[(.own 5 0 (List.length q15.1.decls)),(.own 6 0 (List.length q15.1.funcs))]]⟩]) [0,1,5,6,7] U .nil (by decide) rfl U (.raw U U (.raw U U (.deep (AG fun _=>U) (.deep (AG fun _=>U) (.raw U U .nil))))) (.same U)))
  refine AR U (zm tb 2 U (bs h1 fun q87 gq87 h1=>Jn (v':=(.bool q87)) Aj Vx (GP gq87) rfl (.agg (.ownD U U (fun _=>U) (fun x=>Er x) (.ownD U U (fun _=>U) (fun x=>Ek x) .nil)) (.val U .nil)) rfl trivial U U (zm tb 2 U ?_)))
  rcases Sh.Az h1 with ⟨b88,h1⟩ | ⟨b88,h1⟩
  ·refine zs b88 U (zs b88 U (zs b88 U (zt b88 U ?_)))
   exact AA (M19 true (Sh.AE h1).symm _ (BM (L:=[(1,Ax),(4,Ao),(5,(.bool q11.2)),(6,(.ptr 4 0 0 0)),(7,(.ptr 7 0 0 0)),(8,(.bool q15.2)),(40,(.bool true))]) (st':=[(SK p0.decls p0.funcs),(Pn q11.1.decls q11.1.funcs),(ro 0 81 3 (Ae 111 3) q13.decls),(NV q13),⟨0,30,2,[[(ow 2 0 q13.decls),(ow 3 0 q13.funcs)]]⟩,(Ei q15.1.decls),(CV q15.1.funcs),⟨0,30,2,[[(ow 5 0 q15.1.decls),(ow 6 0 q15.1.funcs)]]⟩]) (st1:=[(SK p0.decls p0.funcs),(Pn q11.1.decls q11.1.funcs),(ro 0 81 3 (Ae 111 3) q13.decls),(NV q13),⟨0,30,2,[[(ow 4 0 q13.decls),(ow 5 0 q13.funcs)]]⟩,(Ei q15.1.decls),(CV q15.1.funcs),⟨0,30,2,[[(ow 7 0 q15.1.decls),(ow 8 0 q15.1.funcs)]]⟩]) [0,3,4,5,6,7,8,9] U .nil (by decide) rfl U (.raw U U (.raw U U (.deep (AG fun _=>U) (.deep (AG fun _=>U) (.raw U U (.deep (AG fun _=>U) (.deep (AG fun _=>U) (.raw U U .nil)))))))) (.same U)))
  ·refine zg tb b88 U (zg tb b88 U (zg tb b88 U (zf b88 U ?_)))
   exact AA (M19 (q15.2 != q11.2) (Sh.AE h1).symm _ (BM (L:=[(1,Ax),(4,Ao),(5,(.bool q11.2)),(6,(.ptr 4 0 0 0)),(7,(.ptr 7 0 0 0)),(8,(.bool q15.2)),(40,(.bool (q15.2 != q11.2)))]) (st':=[(SK p0.decls p0.funcs),(Pn q11.1.decls q11.1.funcs),(ro 0 81 3 (Ae 111 3) q13.decls),(NV q13),⟨0,30,2,[[(ow 2 0 q13.decls),(ow 3 0 q13.funcs)]]⟩,(Ei q15.1.decls),(CV q15.1.funcs),⟨0,30,2,[[(ow 5 0 q15.1.decls),(ow 6 0 q15.1.funcs)]]⟩]) (st1:=[(SK p0.decls p0.funcs),(Pn q11.1.decls q11.1.funcs),(ro 0 81 3 (Ae 111 3) q13.decls),(NV q13),⟨0,30,2,[[(ow 4 0 q13.decls),(ow 5 0 q13.funcs)]]⟩,(Ei q15.1.decls),(CV q15.1.funcs),⟨0,30,2,[[(ow 7 0 q15.1.decls),(ow 8 0 q15.1.funcs)]]⟩]) [0,3,4,5,6,7,8,9] U .nil (by decide) rfl U (.raw U U (.raw U U (.deep (AG fun _=>U) (.deep (AG fun _=>U) (.raw U U (.deep (AG fun _=>U) (.deep (AG fun _=>U) (.raw U U .nil)))))))) (.same U)))
end Go.Proofs.YtpahalfiiahddaaGreat

