import Derived.Test.YtpahalfiiahddaaGreatProg
import Derived.Test.YtpahalfiiahddaaGreatGAbsXToSSDefs
import Derived.Test.YtpahalfiiahddaaGreatGHADefsToFODefs
import Derived.Test.YtpahalfiiahddaaGreatCFWalk
import Derived.Test.YtpahalfiiahddaaGreatLAWalk
import Derived.Test.YtpahalfiiahddaaGreatFOWalkP4
namespace Go.Proofs.YtpahalfiiahddaaGreat
open Go Go.Abs RC
attribute [local irreducible] Go.Abs.C3
set_option maxRecDepth 100000
set_option maxHeartbeats 4000000

theorem X7:Ao Tryz.prog 10=true:=by kernel_rfl
theorem dV:Ao Tryz.prog 107=true:=by kernel_rfl
theorem ZV:Ao Tryz.prog 109=true:=by kernel_rfl
theorem cH:Ao Tryz.prog 11=true:=by kernel_rfl
theorem cN:Ao Tryz.prog 12=true:=by kernel_rfl
theorem fm:Ao Tryz.prog 13=true:=by kernel_rfl
theorem de:Ao Tryz.prog 133=true:=by kernel_rfl
theorem cj:Ao Tryz.prog 14=true:=by kernel_rfl
theorem eK:Ao Tryz.prog 27=true:=by kernel_rfl
theorem eU:Ao Tryz.prog 28=true:=by kernel_rfl
theorem eb:Ao Tryz.prog 29=true:=by kernel_rfl
theorem fA:Ao Tryz.prog 30=true:=by kernel_rfl
theorem eM:Ao Tryz.prog 31=true:=by kernel_rfl
theorem fP:Ao Tryz.prog 32=true:=by kernel_rfl
theorem fF:Ao Tryz.prog 58=true:=by kernel_rfl
theorem fY:Ao Tryz.prog 59=true:=by kernel_rfl
theorem fx:Ao Tryz.prog 6=true:=by kernel_rfl
theorem fL:Ao Tryz.prog 60=true:=by kernel_rfl
theorem cF:Ao Tryz.prog 61=true:=by kernel_rfl
theorem cg:Ao Tryz.prog 62=true:=by kernel_rfl
theorem fl:Ao Tryz.prog 63=true:=by kernel_rfl
theorem ca:Ao Tryz.prog 64=true:=by kernel_rfl
theorem cG:Ao Tryz.prog 65=true:=by kernel_rfl
theorem bD:Ao Tryz.prog 8=true:=by kernel_rfl

theorem Rt {N:Nat} {p0:Ab} {p1:Ab} {r:Bool} (h0:IY N p0 p1=some r):Ag Tryz.prog 58 [(.agg (Ai p0)),(.agg (Ai p1))] [] (fun v st=>v=(.bool r)∧st=[]):=by
 unfold IY at h0
 refine ai Tryz.func58 U U U U (sr U fun K1 hK1=>BH (m:=0) Ah U U U U U (BH (m:=1) Ah U U U U U (zq tb U (dn hK1 U (AF fun K2 hK2=>zr tb U U ?_)))))
 refine ci h0 U ?_ ?_ <;> clear h0
 ·intro b4 h0
  have b5:decide (p0.from_=p1.from_)=false:=by simpa using b4
  refine zr tb U U ?_
  replace h0:=Sh.AB h0
  subst r
  exact AJ (xr (An [(4,(.bool false))] U))
 ·intro b4 h0
  have b7:decide (p0.from_=p1.from_)=true:=by simpa using b4
  refine AI (hK2 _ (AF fun K8 hK8=>zr tb U U ?_))
  refine ci h0 U ?_ ?_ <;> clear h0
  ·intro b10 h0
   have b11:decide (p0.to=p1.to)=false:=by simpa using b10
   refine zr tb U U ?_
   replace h0:=Sh.AB h0
   subst r
   exact AJ (xr (An [(4,(.bool false))] U))
  ·intro b10 h0
   have b13:decide (p0.to=p1.to)=true:=by simpa using b10
   refine AI (hK8 _ (AF fun K14 hK14=>sr U fun K15 hK15=>zm tb 4 U (bs h0 fun q16 gq16 h0=>zc dV (RT gq16) rfl U U (zq tb U (dn hK15 U ?_)))))
   refine ci h0 U ?_ ?_ <;> clear h0
   ·intro b17 h0
    have b18:q16=false:=by simpa using b17
    refine zr tb U U ?_
    replace h0:=Sh.AB h0
    subst r
    exact AJ (xr (An [(4,(.bool false))] U))
   ·intro b17 h0
    have b20:q16=true:=by simpa using b17
    refine AI (hK14 _ (zr tb U U ?_))
    replace h0:=Sh.AB h0
    subst r
    exact AJ (xr (An [(4,(.bool true))] U))
theorem Qi {N:Nat} {p0:(List Ab)} {p1:(List Ab)} {r:Bool} (h0:Hh N p0 p1=some r):Ag Tryz.prog 27 [(BT p0),(BT p1)] [] (fun v st=>v=(.bool r)∧st=[]):=by
 unfold Hh at h0
 refine ai Tryz.func27 U U U U (zr tb U U (AF fun K2 hK2=>sr U fun K3 hK3=>zq tb U (zl tb U U (zq tb U (zl tb U U (zq tb U (dn hK3 U ?_)))))))
 refine ci h0 U ?_ ?_ <;> clear h0
 ·intro b4 h0
  have b5:decide ((Sh.len p0)=(Sh.len p1))=false:=by simpa using b4
  refine zr tb U U ?_
  replace h0:=Sh.AB h0
  subst r
  exact AJ (xr (AT (L:=[(4,(.bool false))]) (.same U)))
 ·intro b4 h0
  have b7:decide ((Sh.len p0)=(Sh.len p1))=true:=by simpa using b4
  refine AI (hK2 _ (AF fun K8 hK8=>zr tb U U ?_))
  obtain⟨o11,h1,h0⟩:=Sh.BF h0
  have M11 :∀(_:Unit),o11=Sum.inr ()→∀s,Wk 0 s ⟨27,AP [],[]⟩→K8 s:=by
   intro _ hq s hw
   subst o11
   try dsimp only at h0
   refine hK8 _ (AR hw (zr tb U U ?_))
   replace h0:=Sh.AB h0
   subst r
   exact AJ (xr (AT (L:=[(4,(.bool true))]) (.same U)))
  refine AU (As (σ:=Int) (fun n v=>EP N p0 p1 n v=some o11) (fun i10=>⟨27,AP [(0,(BT p0)),(1,(BT p1)),(5,(i64 i10))],[]⟩) N 0 h1 (AD U) (fun _ hv=>by rw[EP] at hv;cases hv) ?_)
  rintro n i10 h1
  try dsimp only at h1 ⊢
  rw[EP] at h1
  refine AF fun K13 hK13=>sr U fun K14 hK14=>zm tb 2 U (zl tb U U (zq tb U (dn hK14 U ?_)))
  refine ci h1 U ?_ ?_ <;> clear h1
  ·intro b15 h1
   refine AI (hK13 _ (AF fun K16 hK16=>AU (AF fun K17 hK17=>?_)))
   refine By (by kernel_rfl) (by kernel_rfl) (by rfl) ?_
   iterate 2 refine yq tb rfl ?_
   refine bs h1 fun c18 gc18 h1=>yx DC gc18 U U U ?_
   iterate 3 refine yq tb rfl ?_
   refine bs h1 fun c19 gc19 h1=>yx DC gc19 U U U (yq tb U (bs h1 fun q20 gq20 h1=>Bk (v:=(.bool q20)) Ah fF (Rt gq20) rfl U U (yq tb U (BR (hK17 _ ?_)))))
   refine ci h1 U ?_ ?_ <;> clear h1
   ·intro b21 h1
    have b22:q20=false:=by simpa using b21
    refine zr tb U U ?_
    replace h1:=Sh.AB h1
    subst o11
    try dsimp only[id] at h0
    replace h0:=Sh.AB h0
    subst r
    exact AJ (xr (AT (L:=[(4,(.bool false))]) (.same U)))
   ·intro b21 h1
    have b24:q20=true:=by simpa using b21
    exact AI (hK16 _ (AK U (zm tb 3 U (AA (xi (Sh.w (i10+1)) h1 (AD U))))))
  ·intro b15 h1
   exact Aw (M11 () (Sh.AB h1).symm _ (AD U))
theorem Qj {N:Nat} {rec_laws_eqExpr:AG→AG→Option (Bool)} (hrec_laws_eqExpr :∀{p0:AG} {p1:AG} {r:Bool},rec_laws_eqExpr p0 p1=some r→Ag Tryz.prog 109 [(B5 p0),(B5 p1)] [] (fun v st=>v=(.bool r)∧st=[])) {p0:(List AG)} {p1:(List AG)} {r:Bool} (h0:JV N rec_laws_eqExpr p0 p1=some r):Ag Tryz.prog 133 [(C4 p0),(C4 p1)] [] (fun v st=>v=(.bool r)∧st=[]):=by
 unfold JV at h0
 refine ai Tryz.func133 U U U U (zr tb U U (AF fun K2 hK2=>sr U fun K3 hK3=>zq tb U (zl tb U U (zq tb U (zl tb U U (zq tb U (dn hK3 U ?_)))))))
 refine ci h0 U ?_ ?_ <;> clear h0
 ·intro b4 h0
  have b5:decide ((Sh.len p0)=(Sh.len p1))=false:=by simpa using b4
  refine zr tb U U ?_
  replace h0:=Sh.AB h0
  subst r
  exact AJ (xr (AT (L:=[(4,(.bool false))]) (.same U)))
 ·intro b4 h0
  have b7:decide ((Sh.len p0)=(Sh.len p1))=true:=by simpa using b4
  refine AI (hK2 _ (AF fun K8 hK8=>zr tb U U ?_))
  obtain⟨o11,h1,h0⟩:=Sh.BF h0
  have M11 :∀(_:Unit),o11=Sum.inr ()→∀s,Wk 0 s ⟨27,AP [],[]⟩→K8 s:=by
   intro _ hq s hw
   subst o11
   try dsimp only at h0
   refine hK8 _ (AR hw (zr tb U U ?_))
   replace h0:=Sh.AB h0
   subst r
   exact AJ (xr (AT (L:=[(4,(.bool true))]) (.same U)))
  refine AU (As (σ:=Int) (fun n v=>EM p0 p1 rec_laws_eqExpr n v=some o11) (fun i10=>⟨27,AP [(0,(C4 p0)),(1,(C4 p1)),(5,(i64 i10))],[]⟩) N 0 h1 (AD U) (fun _ hv=>by rw[EM] at hv;cases hv) ?_)
  rintro n i10 h1
  try dsimp only at h1 ⊢
  rw[EM] at h1
  refine AF fun K13 hK13=>sr U fun K14 hK14=>zm tb 2 U (zl tb U U (zq tb U (dn hK14 U ?_)))
  refine ci h1 U ?_ ?_ <;> clear h1
  ·intro b15 h1
   refine AI (hK13 _ (AF fun K16 hK16=>AU (AF fun K17 hK17=>?_)))
   refine By (by kernel_rfl) (by kernel_rfl) (by rfl) ?_
   iterate 2 refine yq tb rfl ?_
   refine bs h1 fun c18 gc18 h1=>yz (EI c18) (BM Bc U U gc18 (Ax _) rfl) rfl ?_
   iterate 3 refine yq tb rfl ?_
   refine bs h1 fun c19 gc19 h1=>yz (EI c19) (BM Bc U U gc19 (Ax _) rfl) rfl (yq tb U (bs h1 fun q20 gq20 h1=>Bk (v:=(.bool q20)) Ah ZV (hrec_laws_eqExpr gq20) rfl U U (yq tb U (BR (hK17 _ ?_)))))
   refine ci h1 U ?_ ?_ <;> clear h1
   ·intro b21 h1
    have b22:q20=false:=by simpa using b21
    refine zr tb U U ?_
    replace h1:=Sh.AB h1
    subst o11
    try dsimp only[id] at h0
    replace h0:=Sh.AB h0
    subst r
    exact AJ (xr (AT (L:=[(4,(.bool false))]) (.same U)))
   ·intro b21 h1
    have b24:q20=true:=by simpa using b21
    exact AI (hK16 _ (AK U (zm tb 3 U (AA (xi (Sh.w (i10+1)) h1 (AD U))))))
  ·intro b15 h1
   exact Aw (M11 () (Sh.AB h1).symm _ (AD U))
theorem PS {N:Nat} {rec_laws_eqExpr:AG→AG→Option (Bool)} (hrec_laws_eqExpr :∀{p0:AG} {p1:AG} {r:Bool},rec_laws_eqExpr p0 p1=some r→Ag Tryz.prog 109 [(B5 p0),(B5 p1)] [] (fun v st=>v=(.bool r)∧st=[])) {p0:AG} {p1:AG} {r:Bool} (h0:Ib N rec_laws_eqExpr p0 p1=some r):Ag Tryz.prog 109 [(B5 p0),(B5 p1)] [] (fun v st=>v=(.bool r)∧st=[]):=by
 unfold Ib at h0
 refine ai Tryz.func109 U U U U (sr U fun K1 hK1=>BH (m:=0) Ah U U U U U (BH (m:=1) Ah U U U U U (zq tb U (dn hK1 U (AF fun K2 hK2=>zr tb U U ?_)))))
 refine ci h0 U ?_ ?_ <;> clear h0
 ·intro b4 h0
  have b5:decide (p0.op=p1.op)=false:=by simpa using b4
  refine zr tb U U ?_
  replace h0:=Sh.AB h0
  subst r
  exact AJ (xr (An [(4,(.bool false))] U))
 ·intro b4 h0
  have b7:decide (p0.op=p1.op)=true:=by simpa using b4
  refine AI (hK2 _ (AF fun K8 hK8=>zr tb U U ?_))
  refine ci h0 U ?_ ?_ <;> clear h0
  ·intro b10 h0
   have b11:decide (p0.num=p1.num)=false:=by simpa using b10
   refine zr tb U U ?_
   replace h0:=Sh.AB h0
   subst r
   exact AJ (xr (An [(4,(.bool false))] U))
  ·intro b10 h0
   have b13:decide (p0.num=p1.num)=true:=by simpa using b10
   refine AI (hK8 _ (AF fun K14 hK14=>sr U fun K15 hK15=>zm tb 4 U (bs h0 fun q16 gq16 h0=>zc de (Qj hrec_laws_eqExpr gq16) rfl U U (zq tb U (dn hK15 U ?_)))))
   refine ci h0 U ?_ ?_ <;> clear h0
   ·intro b17 h0
    have b18:q16=false:=by simpa using b17
    refine zr tb U U ?_
    replace h0:=Sh.AB h0
    subst r
    exact AJ (xr (An [(4,(.bool false))] U))
   ·intro b17 h0
    have b20:q16=true:=by simpa using b17
    refine AI (hK14 _ (zr tb U U ?_))
    replace h0:=Sh.AB h0
    subst r
    exact AJ (xr (An [(4,(.bool true))] U))

theorem Pa {N:Nat} :∀(n:Nat),∀{p0:AG} {p1:AG} {r:Bool},FW N n p0 p1=some r→Ag Tryz.prog 109 [(B5 p0),(B5 p1)] [] (fun v st=>v=(.bool r)∧st=[]):=by
 intro n
 induction n with
 | zero=>intro p0 p1 r h0;cases h0
 | succ n ih=>
  intro p0 p1 r h0
  rw[FW] at h0
  exact PS (fun h=>ih h) h0
theorem Rb {N:Nat} :∀{p0:AG} {p1:AG} {r:Bool},Jw N p0 p1=some r→Ag Tryz.prog 109 [(B5 p0),(B5 p1)] [] (fun v st=>v=(.bool r)∧st=[]):=by
 intro p0 p1 r h0
 exact Pa N h0
theorem Rc {N:Nat} {p0:Am} {p1:Am} {r:Bool} (h0:IV N p0 p1=some r):Ag Tryz.prog 59 [(.agg (Sp p0)),(.agg (Sp p1))] [] (fun v st=>v=(.bool r)∧st=[]):=by
 unfold IV at h0
 refine ai Tryz.func59 U U U U (sr U fun K1 hK1=>BH (m:=0) Ah U U U U U (BH (m:=1) Ah U U U U U (zq tb U (dn hK1 U (AF fun K2 hK2=>sr U fun K3 hK3=>zm tb 4 U (bs h0 fun q4 gq4 h0=>zc aV (MT gq4) rfl U U (zq tb U ?_)))))))
 refine dn hK3 U ?_
 refine ci h0 U ?_ ?_ <;> clear h0
 ·intro b5 h0
  have b6:q4=false:=by simpa using b5
  refine zr tb U U ?_
  replace h0:=Sh.AB h0
  subst r
  exact AJ (xr (An [(4,(.bool false))] U))
 ·intro b5 h0
  have b8:q4=true:=by simpa using b5
  refine AI (hK2 _ (AF fun K9 hK9=>zr tb U U ?_))
  refine ci h0 U ?_ ?_ <;> clear h0
  ·intro b11 h0
   have b12:decide (p0.result=p1.result)=false:=by simpa using b11
   refine zr tb U U ?_
   replace h0:=Sh.AB h0
   subst r
   exact AJ (xr (An [(4,(.bool false))] U))
  ·intro b11 h0
   have b14:decide (p0.result=p1.result)=true:=by simpa using b11
   refine AI (hK9 _ (AF fun K15 hK15=>sr U fun K16 hK16=>zm tb 4 U (bs h0 fun q17 gq17 h0=>zc ZV (Rb gq17) rfl U U (zq tb U (dn hK16 U ?_)))))
   refine ci h0 U ?_ ?_ <;> clear h0
   ·intro b18 h0
    have b19:q17=false:=by simpa using b18
    refine zr tb U U ?_
    replace h0:=Sh.AB h0
    subst r
    exact AJ (xr (An [(4,(.bool false))] U))
   ·intro b18 h0
    have b21:q17=true:=by simpa using b18
    refine AI (hK15 _ (zr tb U U ?_))
    replace h0:=Sh.AB h0
    subst r
    exact AJ (xr (An [(4,(.bool true))] U))
theorem QJ {N:Nat} {p0:(List Am)} {p1:(List Am)} {r:Bool} (h0:Hj N p0 p1=some r):Ag Tryz.prog 28 [(ls A3 p0),(ls A3 p1)] [] (fun v st=>v=(.bool r)∧st=[]):=by
 unfold Hj at h0
 refine ai Tryz.func28 U U U U (zr tb U U (AF fun K2 hK2=>sr U fun K3 hK3=>zq tb U (zl tb U U (zq tb U (zl tb U U (zq tb U (dn hK3 U ?_)))))))
 refine ci h0 U ?_ ?_ <;> clear h0
 ·intro b4 h0
  have b5:decide ((Sh.len p0)=(Sh.len p1))=false:=by simpa using b4
  refine zr tb U U ?_
  replace h0:=Sh.AB h0
  subst r
  exact AJ (xr (AT (L:=[(4,(.bool false))]) (.same U)))
 ·intro b4 h0
  have b7:decide ((Sh.len p0)=(Sh.len p1))=true:=by simpa using b4
  refine AI (hK2 _ (AF fun K8 hK8=>zr tb U U ?_))
  obtain⟨o11,h1,h0⟩:=Sh.BF h0
  have M11 :∀(_:Unit),o11=Sum.inr ()→∀s,Wk 0 s ⟨27,AP [],[]⟩→K8 s:=by
   intro _ hq s hw
   subst o11
   try dsimp only at h0
   refine hK8 _ (AR hw (zr tb U U ?_))
   replace h0:=Sh.AB h0
   subst r
   exact AJ (xr (AT (L:=[(4,(.bool true))]) (.same U)))
  refine AU (As (σ:=Int) (fun n v=>EE N p0 p1 n v=some o11) (fun i10=>⟨27,AP [(0,(ls A3 p0)),(1,(ls A3 p1)),(5,(i64 i10))],[]⟩) N 0 h1 (AD U) (fun _ hv=>by rw[EE] at hv;cases hv) ?_)
  rintro n i10 h1
  try dsimp only at h1 ⊢
  rw[EE] at h1
  refine AF fun K13 hK13=>sr U fun K14 hK14=>zm tb 2 U (zl tb U U (zq tb U (dn hK14 U ?_)))
  refine ci h1 U ?_ ?_ <;> clear h1
  ·intro b15 h1
   refine AI (hK13 _ (AF fun K16 hK16=>AU (AF fun K17 hK17=>?_)))
   refine By (by kernel_rfl) (by kernel_rfl) (by rfl) ?_
   iterate 2 refine yq tb rfl ?_
   refine bs h1 fun c18 gc18 h1=>yx CR gc18 U U U ?_
   iterate 3 refine yq tb rfl ?_
   refine bs h1 fun c19 gc19 h1=>yx CR gc19 U U U (yq tb U (bs h1 fun q20 gq20 h1=>Bk (v:=(.bool q20)) Ah fY (Rc gq20) rfl U U (yq tb U (BR (hK17 _ ?_)))))
   refine ci h1 U ?_ ?_ <;> clear h1
   ·intro b21 h1
    have b22:q20=false:=by simpa using b21
    refine zr tb U U ?_
    replace h1:=Sh.AB h1
    subst o11
    try dsimp only[id] at h0
    replace h0:=Sh.AB h0
    subst r
    exact AJ (xr (AT (L:=[(4,(.bool false))]) (.same U)))
   ·intro b21 h1
    have b24:q20=true:=by simpa using b21
    exact AI (hK16 _ (AK U (zm tb 3 U (AA (xi (Sh.w (i10+1)) h1 (AD U))))))
  ·intro b15 h1
   exact Aw (M11 () (Sh.AB h1).symm _ (AD U))
theorem GU {N:Nat} {p0:Aa} {p1:Aa} {r:Bool} (h0:Ej N p0 p1=some r):Ag Tryz.prog 10 [(HM p0),(HM p1)] [] (fun v st=>v=(.bool r)∧st=[]):=by
 unfold Ej at h0
 refine ai Tryz.func10 U U U U (sr U fun K1 hK1=>BH (m:=0) Ah U U U U U (BH (m:=1) Ah U U U U U (zq tb U (dn hK1 U (AF fun K2 hK2=>sr U fun K3 hK3=>zm tb 4 U (bs h0 fun q4 gq4 h0=>zc eK (Qi gq4) rfl U U (zq tb U ?_)))))))
 refine dn hK3 U ?_
 refine ci h0 U ?_ ?_ <;> clear h0
 ·intro b5 h0
  have b6:q4=false:=by simpa using b5
  refine zr tb U U ?_
  replace h0:=Sh.AB h0
  subst r
  exact AJ (xr (An [(4,(.bool false))] U))
 ·intro b5 h0
  have b8:q4=true:=by simpa using b5
  refine AI (hK2 _ (AF fun K9 hK9=>sr U fun K10 hK10=>zm tb 4 U (bs h0 fun q11 gq11 h0=>zc eU (QJ gq11) rfl U U (zq tb U (dn hK10 U ?_)))))
  refine ci h0 U ?_ ?_ <;> clear h0
  ·intro b12 h0
   have b13:q11=false:=by simpa using b12
   refine zr tb U U ?_
   replace h0:=Sh.AB h0
   subst r
   exact AJ (xr (An [(4,(.bool false))] U))
  ·intro b12 h0
   have b15:q11=true:=by simpa using b12
   refine AI (hK9 _ (zr tb U U ?_))
   replace h0:=Sh.AB h0
   subst r
   exact AJ (xr (An [(4,(.bool true))] U))
theorem Kw {N:Nat} {s0:(List Int)} {p1:Int} {r:Int×(List Int)} (h0:GA N s0 p1=some r):Ag Tryz.prog 61 [(ow 0 0 s0),(i64 p1)] [(BL s0)] (fun v st=>v=(i64 r.1)∧st=[(BL r.2)]):=by
 unfold GA at h0
 refine ai Tryz.func61 U U U U (zr tb U U (AF fun K2 hK2=>zr tb U U (bs h0 fun o9 h1 h0=>?_)))
 have M9 :∀(k7:Int) (l8:(List Int)),o9=(k7,l8)→∀s,Wk 1 s ⟨19,AP [(1,(i64 k7))],[(BL l8)]⟩→K2 s:=by
  intro k7 l8 hq s hw
  subst o9
  try dsimp only at h0
  refine hK2 _ (AR hw (zr tb U U ?_))
  replace h0:=Sh.AB h0
  subst r
  exact AJ (xr (AT (L:=[(4,(i64 k7))]) (.same U)))
 refine AU (As (σ:=Int×Int×(List Int)) (fun n v=>Dt  n v.1 v.2.1 v.2.2=some o9) (fun (k4,i5,l6)=>⟨19,AP [(0,(ow 0 0 l6)),(1,(i64 k4)),(5,(i64 i5))],[(BL l6)]⟩) N (p1,0,s0) h1 (AD U) (fun _ hv=>by rw[Dt] at hv;cases hv) ?_)
 rintro n ⟨k4,i5,l6⟩ h1
 try dsimp only at h1 ⊢
 rw[Dt] at h1
 refine AF fun K11 hK11=>sr U fun K12 hK12=>zm tb 2 U (zz (Bp l6) (Cs Ff U U U) rfl (zq tb U (dn hK12 U ?_)))
 refine ci h1 U ?_ ?_ <;> clear h1
 ·intro b13 h1
  refine AI (hK11 _ (AF fun K14 hK14=>AU (sr U fun K15 hK15=>zm tb 3 U (bs h1 fun c16 gc16 h1=>zz (Ml i5) (Bf Bm U U U U gc16) rfl (Io (u':=k4) Ah IJ U U gc16 U U U (show 0+1≤1 by decide) rfl U (dn hK15 U (AK U (zm tb 3 U (dn hK14 U ?_)))))))))
  refine AK U (zm tb 3 U ?_)
  exact AA (xi (Sh.w (k4+1),Sh.w (i5+1),Sh.put l6 i5 k4) h1 (AT (L:=[(0,(.own 0 0 (List.length (Sh.put l6 i5 k4)))),(1,(i64 (Sh.w (k4+1)))),(5,(i64 (Sh.w (i5+1))))]) ⟨(.len (by simp only[Sh.A7])),.rfl,.rfl,trivial⟩))
 ·intro b13 h1
  exact Aw (M9 k4 l6 (Sh.AB h1).symm _ (AD U))
theorem P0 {N:Nat} {s0:(List BU)} {p1:Int} {r:Int×(List BU)} (h0:HB N s0 p1=some r):Ag Tryz.prog 60 [(ow 0 0 s0),(i64 p1)] [(Te s0)] (fun v st=>v=(i64 r.1)∧st=[(Te r.2)]):=by
 unfold HB at h0
 refine ai Tryz.func60 U U U U (zr tb U U (AF fun K2 hK2=>zr tb U U (bs h0 fun o9 h1 h0=>?_)))
 have M9 :∀(k7:Int) (l8:(List BU)),o9=(k7,l8)→∀s,Wk 1 s ⟨20,AP [(1,(i64 k7))],[(Te l8)]⟩→K2 s:=by
  intro k7 l8 hq s hw
  subst o9
  try dsimp only at h0
  refine hK2 _ (AR hw (zr tb U U ?_))
  replace h0:=Sh.AB h0
  subst r
  exact AJ (xr (AT (L:=[(4,(i64 k7))]) (.same U)))
 refine AU (As (σ:=Int×Int×(List BU)) (fun n v=>Dl N n v.1 v.2.1 v.2.2=some o9) (fun (k4,i5,l6)=>⟨20,AP [(0,(ow 0 0 l6)),(1,(i64 k4)),(5,(i64 i5))],[(Te l6)]⟩) N (p1,0,s0) h1 (AD U) (fun _ hv=>by rw[Dl] at hv;cases hv) ?_)
 rintro n ⟨k4,i5,l6⟩ h1
 try dsimp only at h1 ⊢
 rw[Dl] at h1
 refine AF fun K11 hK11=>sr U fun K12 hK12=>zm tb 2 U (zz (Bp l6) (Cs OD U U U) rfl (zq tb U (dn hK12 U ?_)))
 refine ci h1 U ?_ ?_ <;> clear h1
 ·intro b13 h1
  refine AI (hK11 _ (AF fun K14 hK14=>AU (AK U (zm tb 2 U (bs h1 fun c15 gc15 h1=>zz (Ml i5) (Bf ID U U U U gc15) rfl (zq tb U (Ak (Bg (id:=0) (j:=0) (i:=i5) (c:=c15) (ys:=c15.fields) (encY:=eI) rfl gc15 U U U U U) (zz (ow 1 0 c15.fields) (CP HZ U U (Bd gc15) rfl) rfl (zq tb U (bs h1 fun q16 gq16 h1=>?_))))))))))
  refine F6 (rowsP:=[⟨0,3,1,List.map eI c15.fields⟩]) (rows0:=[⟨0,3,1,List.map eI c15.fields⟩]) (rows1:=[(Y8 q16.2)]) (rows2:=[]) (rows1':=[(Y8 q16.2)]) (rows2':=[]) (st':=[⟨0,111,1,hole l6 (CX 3) i5 [(.own 1 0 (List.length c15.fields))]⟩,(Y8 q16.2)]) (v':=(i64 q16.1)) [1] Ah cF (Kw gq16) rfl (by decide) rfl U (.pure (AN fun _=>U) .nil) rfl U (.pure (AN fun _=>U) .nil) .nil U U (fun hln=>?_)
  have ln17:List.length q16.2=List.length c15.fields:=by simpa only[List.length_map] using hln 0 _ _ rfl rfl rfl
  refine Ak (Wk.take (id:=0) (m:=1) (j:=0) (i:=i5) (c:=c15) (ys:=q16.2) (encY:=eI) rfl gc15 U U (by first | (simp only[Sh.A7];done) | (simp only[Sh.A7];omega) | omega) (by decide) (show 1≤1 by decide) (fun _=>U) rfl U) ?_
  refine Ak (EW (id:=0) (i:=i5) (u:=(BU.mk q16.2)) rfl U U) ?_
  generalize hg901:Sh.put l6 i5 (BU.mk q16.2)=lg901 at h1 ⊢
  have ln901:=congrArg List.length hg901
  simp only[Sh.A7] at ln901
  refine zq tb U (dn hK14 U (AK U (zm tb 3 U ?_)))
  exact AA (xi (q16.1,Sh.w (i5+1),lg901) h1 (by refine Wk.trans (Af (L:=[(0,(.own 0 0 (List.length l6))),(1,(i64 q16.1)),(5,(i64 (Sh.w (i5+1))))]) (st':=[⟨0,111,1,List.map (CX 3) lg901⟩]) [0] U (by decide) rfl U (.deep (AL fun _=>U) .nil) ⟨.rfl,.rfl,.rfl,trivial⟩) ?_;exact AT (L:=[(0,(.own 0 0 (List.length lg901))),(1,(i64 q16.1)),(5,(i64 (Sh.w (i5+1))))]) ⟨(.len (by first | (simp only[Sh.A7];done) | (simp only[Sh.A7];omega) | omega)),.rfl,.rfl,trivial⟩))
 ·intro b13 h1
  exact Aw (M9 k4 l6 (Sh.AB h1).symm _ (AD U))
theorem Od {N:Nat} {s0:(List Ab)} {p1:Int} {r:Int×(List Ab)} (h0:Gh N s0 p1=some r):Ag Tryz.prog 29 [(ow 0 0 s0),(i64 p1)] [(EC s0)] (fun v st=>v=(i64 r.1)∧st=[(EC r.2)]):=by
 unfold Gh at h0
 refine ai Tryz.func29 U U U U (zr tb U U (AF fun K2 hK2=>zr tb U U (bs h0 fun o9 h1 h0=>?_)))
 have M9 :∀(k7:Int) (l8:(List Ab)),o9=(k7,l8)→∀s,Wk 1 s ⟨34,AP [(1,(i64 k7))],[(EC l8)]⟩→K2 s:=by
  intro k7 l8 hq s hw
  subst o9
  try dsimp only at h0
  refine hK2 _ (AR hw (zr tb U U ?_))
  replace h0:=Sh.AB h0
  subst r
  exact AJ (xr (AT (L:=[(4,(i64 k7))]) (.same U)))
 refine AU (As (σ:=Int×Int×(List Ab)) (fun n v=>DY N n v.1 v.2.1 v.2.2=some o9) (fun (k4,i5,l6)=>⟨34,AP [(0,(ow 0 0 l6)),(1,(i64 k4)),(5,(i64 i5))],[(EC l6)]⟩) N (p1,0,s0) h1 (AD U) (fun _ hv=>by rw[DY] at hv;cases hv) ?_)
 rintro n ⟨k4,i5,l6⟩ h1
 try dsimp only at h1 ⊢
 rw[DY] at h1
 refine AF fun K11 hK11=>sr U fun K12 hK12=>zm tb 2 U (zz (Bp l6) (Cs PV U U U) rfl (zq tb U (dn hK12 U ?_)))
 refine ci h1 U ?_ ?_ <;> clear h1
 ·intro b13 h1
  refine AI (hK11 _ (AF fun K14 hK14=>AU (sr U fun K15 hK15=>zm tb 3 U (bs h1 fun c16 gc16 h1=>zz (Ml i5) (Bf DC U U U U gc16) rfl (zq tb U (Io (u':=(Ab.mk k4 c16.to c16.cons)) Ah IJ U U gc16 U U U (show 0+1≤3 by decide) rfl U ?_))))))
  generalize hg901:Sh.put l6 i5 (Ab.mk k4 c16.to c16.cons)=lg901 at h1 ⊢
  have ln901:=congrArg List.length hg901
  simp only[Sh.A7] at ln901
  refine dn hK15 U (zr tb U U (sr U fun K18 hK18=>zm tb 3 U (bs h1 fun c19 gc19 h1=>?_)))
  refine zz (.ptr 0 0 (Int.toNat i5) 0) (Bf DC U U U (by first | (simp only[Sh.A7];done) | omega) gc19) rfl ?_
  refine zq tb U (Io (u':=(Ab.mk c19.from_ (Sh.w (k4+1)) c19.cons)) Ah IJ U U gc19 U U U (show 1+1≤3 by decide) rfl U ?_)
  generalize hg902:Sh.put lg901 i5 (Ab.mk c19.from_ (Sh.w (k4+1)) c19.cons)=lg902 at h1 ⊢
  have ln902:=congrArg List.length hg902
  simp only[Sh.A7] at ln902
  refine dn hK18 U (zr tb U U (AK U (zm tb 2 U (bs h1 fun c21 gc21 h1=>?_))))
  refine zz (.ptr 0 0 (Int.toNat i5) 0) (Bf DC U U U (by first | (simp only[Sh.A7];done) | omega) gc21) rfl ?_
  refine zq tb U (Ak (Bg (id:=0) (j:=2) (i:=i5) (c:=c21) (ys:=c21.cons) (encY:=(CX 3)) rfl gc21 U U U U U) (zz (ow 1 0 c21.cons) (CP OL U U (Bd gc21) rfl) rfl (zq tb U (bs h1 fun q22 gq22 h1=>?_))))
  refine F6 (rowsP:=[⟨0,111,1,List.map (CX 3) c21.cons⟩]) (rows0:=[⟨0,111,1,List.map (CX 3) c21.cons⟩]) (rows1:=[⟨0,111,1,List.map (CX 3) q22.2⟩]) (rows2:=[]) (rows1':=[⟨0,111,1,List.map (CX 3) q22.2⟩]) (rows2':=[]) (st':=[⟨0,81,3,hole lg902 (Aj 111 3) i5 [(i64 c21.from_),(i64 c21.to),(.own 1 0 (List.length c21.cons))]⟩,⟨0,111,1,List.map (CX 3) q22.2⟩]) (v':=(i64 q22.1)) [1] Ah fL (P0 gq22) rfl (by decide) rfl U (.deep (AL fun _=>U) .nil) rfl U (.deep (AL fun _=>U) .nil) .nil U U (fun hln=>?_)
  have ln23:List.length q22.2=List.length c21.cons:=by simpa only[List.length_map] using hln 0 _ _ rfl rfl rfl
  refine Ak (Wk.take (id:=0) (m:=1) (j:=2) (i:=i5) (c:=c21) (ys:=q22.2) (encY:=(CX 3)) rfl gc21 U U (by first | (simp only[Sh.A7];done) | (simp only[Sh.A7];omega) | omega) (by decide) (show 1≤1 by decide) (fun _=>U) rfl U) ?_
  refine Ak (EW (id:=0) (i:=i5) (u:=(Ab.mk c21.from_ c21.to q22.2)) rfl U U) ?_
  generalize hg903:Sh.put lg902 i5 (Ab.mk c21.from_ c21.to q22.2)=lg903 at h1 ⊢
  have ln903:=congrArg List.length hg903
  simp only[Sh.A7] at ln903
  refine zq tb U (dn hK14 U (AK U (zm tb 3 U ?_)))
  exact AA (xi (q22.1,Sh.w (i5+1),lg903) h1 (by refine Wk.trans (Af (L:=[(0,(.own 0 0 (List.length l6))),(1,(i64 q22.1)),(5,(i64 (Sh.w (i5+1))))]) (st':=[⟨0,81,3,List.map (Aj 111 3) lg903⟩]) [0] U (by decide) rfl U (.deep (AL fun _=>U) .nil) ⟨.rfl,.rfl,.rfl,trivial⟩) ?_;exact AT (L:=[(0,(.own 0 0 (List.length lg903))),(1,(i64 q22.1)),(5,(i64 (Sh.w (i5+1))))]) ⟨(.len (by first | (simp only[Sh.A7];done) | (simp only[Sh.A7];omega) | omega)),.rfl,.rfl,trivial⟩))
 ·intro b13 h1
  exact Aw (M9 k4 l6 (Sh.AB h1).symm _ (AD U))
theorem Nh {N:Nat} {rec_laws_markExprS:(List AG)→Int→Option (Int×(List AG))} (hrec_laws_markExprS :∀{s0:(List AG)} {p1:Int} {r:Int×(List AG)},rec_laws_markExprS s0 p1=some r→Ag Tryz.prog 62 [(ow 0 0 s0),(i64 p1)] [(EX s0)] (fun v st=>v=(i64 r.1)∧st=[(EX r.2)])) {s0:(List AG)} {p1:Int} {r:Int×(List AG)} (h0:G6 N rec_laws_markExprS s0 p1=some r):Ag Tryz.prog 62 [(ow 0 0 s0),(i64 p1)] [(EX s0)] (fun v st=>v=(i64 r.1)∧st=[(EX r.2)]):=by
 unfold G6 at h0
 refine ai Tryz.func62 U U U U (zr tb U U (AF fun K2 hK2=>zr tb U U (bs h0 fun o9 h1 h0=>?_)))
 have M9 :∀(k7:Int) (l8:(List AG)),o9=(k7,l8)→∀s,Wk 1 s ⟨34,AP [(1,(i64 k7))],[(EX l8)]⟩→K2 s:=by
  intro k7 l8 hq s hw
  subst o9
  try dsimp only at h0
  refine hK2 _ (AR hw (zr tb U U ?_))
  replace h0:=Sh.AB h0
  subst r
  exact AJ (xr (AT (L:=[(4,(i64 k7))]) (.same U)))
 refine AU (As (σ:=Int×Int×(List AG)) (fun n v=>Ct rec_laws_markExprS n v.1 v.2.1 v.2.2=some o9) (fun (k4,i5,l6)=>⟨34,AP [(0,(ow 0 0 l6)),(1,(i64 k4)),(5,(i64 i5))],[(EX l6)]⟩) N (p1,0,s0) h1 (AD U) (fun _ hv=>by rw[Ct] at hv;cases hv) ?_)
 rintro n ⟨k4,i5,l6⟩ h1
 try dsimp only at h1 ⊢
 rw[Ct] at h1
 refine AF fun K11 hK11=>sr U fun K12 hK12=>zm tb 2 U (zz (Bp l6) (Cs Ss U U U) rfl (zq tb U (dn hK12 U ?_)))
 refine ci h1 U ?_ ?_ <;> clear h1
 ·intro b13 h1
  refine AI (hK11 _ (AF fun K14 hK14=>AU (sr U fun K15 hK15=>zm tb 3 U (bs h1 fun c16 gc16 h1=>zz (Ml i5) (Bf Bc U U U U gc16) rfl (zq tb U ?_)))))
  refine Io (u':=(AG.mk k4 c16.num c16.kids)) Ah IJ U U gc16 U U U (show 0+1≤3 by decide) (by rw[BV,BV];rfl) rfl ?_
  generalize hg901:Sh.put l6 i5 (AG.mk k4 c16.num c16.kids)=lg901 at h1 ⊢
  have ln901:=congrArg List.length hg901
  simp only[Sh.A7] at ln901
  refine dn hK15 U (zr tb U U (sr U fun K18 hK18=>zm tb 3 U (bs h1 fun c19 gc19 h1=>?_)))
  refine zz (.ptr 0 0 (Int.toNat i5) 0) (Bf Bc U U U (by first | (simp only[Sh.A7];done) | omega) gc19) rfl ?_
  refine zq tb U ?_
  refine Io (u':=(AG.mk c19.op (Sh.w (k4+1)) c19.kids)) Ah IJ U U gc19 U U U (show 1+1≤3 by decide) (by rw[BV,BV];rfl) rfl ?_
  generalize hg902:Sh.put lg901 i5 (AG.mk c19.op (Sh.w (k4+1)) c19.kids)=lg902 at h1 ⊢
  have ln902:=congrArg List.length hg902
  simp only[Sh.A7] at ln902
  refine dn hK18 U (zr tb U U (AK U (zm tb 2 U (bs h1 fun c21 gc21 h1=>?_))))
  refine zz (.ptr 0 0 (Int.toNat i5) 0) (Bf Bc U U U (by first | (simp only[Sh.A7];done) | omega) gc21) rfl ?_
  refine zq tb U (Ak (Bg (id:=0) (j:=2) (i:=i5) (c:=c21) (ys:=c21.kids) (encY:=(Av 44)) rfl gc21 (BV _) rfl U U U) (zz (ow 1 0 c21.kids) (CP UM U U (Bd gc21) rfl) rfl (zq tb U (bs h1 fun q22 gq22 h1=>?_))))
  refine F6 (rowsP:=[⟨0,44,3,List.map (Av 44) c21.kids⟩]) (rows0:=[⟨0,44,3,List.map (Av 44) c21.kids⟩]) (rows1:=[(Yj q22.2)]) (rows2:=[]) (rows1':=[(Yj q22.2)]) (rows2':=[]) (st':=[⟨0,44,3,hole lg902 (Av 44) i5 [(i64 c21.op),(i64 c21.num),(.own 1 0 (List.length c21.kids))]⟩,(Yj q22.2)]) (v':=(i64 q22.1)) [1] Ah cg (hrec_laws_markExprS gq22) rfl (by decide) rfl U (.deep (AL Ac) .nil) rfl U (.deep (AL Ac) .nil) .nil U U (fun hln=>?_)
  have ln23:List.length q22.2=List.length c21.kids:=by simpa only[List.length_map] using hln 0 _ _ rfl rfl rfl
  refine Ak (Wk.take (id:=0) (m:=1) (j:=2) (i:=i5) (c:=c21) (ys:=q22.2) (encY:=(Av 44)) rfl gc21 U U (by first | (simp only[Sh.A7];done) | (simp only[Sh.A7];omega) | omega) (by decide) (show 1≤1 by decide) CM U U) ?_
  refine Ak (EW (id:=0) (i:=i5) (u:=(AG.mk c21.op c21.num q22.2)) rfl (BV (AG.mk c21.op c21.num q22.2)).symm U) ?_
  generalize hg903:Sh.put lg902 i5 (AG.mk c21.op c21.num q22.2)=lg903 at h1 ⊢
  have ln903:=congrArg List.length hg903
  simp only[Sh.A7] at ln903
  refine zq tb U (dn hK14 U (AK U (zm tb 3 U ?_)))
  exact AA (xi (q22.1,Sh.w (i5+1),lg903) h1 (by refine Wk.trans (Af (L:=[(0,(.own 0 0 (List.length l6))),(1,(i64 q22.1)),(5,(i64 (Sh.w (i5+1))))]) (st':=[⟨0,44,3,List.map (Av 44) lg903⟩]) [0] U (by decide) rfl U (.deep (AL Ac) .nil) ⟨.rfl,.rfl,.rfl,trivial⟩) ?_;exact AT (L:=[(0,(.own 0 0 (List.length lg903))),(1,(i64 q22.1)),(5,(i64 (Sh.w (i5+1))))]) ⟨(.len (by first | (simp only[Sh.A7];done) | (simp only[Sh.A7];omega) | omega)),.rfl,.rfl,trivial⟩))
 ·intro b13 h1
  exact Aw (M9 k4 l6 (Sh.AB h1).symm _ (AD U))

theorem NF {N:Nat} :∀(n:Nat),∀{s0:(List AG)} {p1:Int} {r:Int×(List AG)},Dm N n s0 p1=some r→Ag Tryz.prog 62 [(ow 0 0 s0),(i64 p1)] [(EX s0)] (fun v st=>v=(i64 r.1)∧st=[(EX r.2)]):=by
 intro n
 induction n with
 | zero=>intro s0 p1 r h0;cases h0
 | succ n ih=>
  intro s0 p1 r h0
  rw[Dm] at h0
  exact Nh (fun h=>ih h) h0
theorem Oy {N:Nat} :∀{s0:(List AG)} {p1:Int} {r:Int×(List AG)},H3 N s0 p1=some r→Ag Tryz.prog 62 [(ow 0 0 s0),(i64 p1)] [(EX s0)] (fun v st=>v=(i64 r.1)∧st=[(EX r.2)]):=by
 intro s0 p1 r h0
 exact NF N h0
theorem O1 {N:Nat} {s0:(List Am)} {p1:Int} {r:Int×(List Am)} (h0:Gk N s0 p1=some r):Ag Tryz.prog 30 [(ow 0 0 s0),(i64 p1)] [(CA s0)] (fun v st=>v=(i64 r.1)∧st=[(CA r.2)]):=by
 unfold Gk at h0
 refine ai Tryz.func30 U U U U (zr tb U U (AF fun K2 hK2=>zr tb U U (bs h0 fun o9 h1 h0=>?_)))
 have M9 :∀(k7:Int) (l8:(List Am)),o9=(k7,l8)→∀s,Wk 1 s ⟨51,AP [(1,(i64 k7))],[(CA l8)]⟩→K2 s:=by
  intro k7 l8 hq s hw
  subst o9
  try dsimp only at h0
  refine hK2 _ (AR hw (zr tb U U ?_))
  replace h0:=Sh.AB h0
  subst r
  exact AJ (xr (AT (L:=[(4,(i64 k7))]) (.same U)))
 refine AU (As (σ:=Int×Int×(List Am)) (fun n v=>DS N n v.1 v.2.1 v.2.2=some o9) (fun (k4,i5,l6)=>⟨51,AP [(0,(ow 0 0 l6)),(1,(i64 k4)),(5,(i64 i5))],[(CA l6)]⟩) N (p1,0,s0) h1 (AD U) (fun _ hv=>by rw[DS] at hv;cases hv) ?_)
 rintro n ⟨k4,i5,l6⟩ h1
 try dsimp only at h1 ⊢
 rw[DS] at h1
 refine AF fun K11 hK11=>sr U fun K12 hK12=>zm tb 2 U (zz (Bp l6) (Cs ZM U U U) rfl (zq tb U (dn hK12 U ?_)))
 refine ci h1 U ?_ ?_ <;> clear h1
 ·intro b13 h1
  refine AI (hK11 _ (AF fun K14 hK14=>AU (sr U fun K15 hK15=>zm tb 2 U (bs h1 fun c16 gc16 h1=>zz (Ml i5) (Bf CR U U U U gc16) rfl (zq tb U (Ak (Bg (id:=0) (j:=0) (i:=i5) (c:=c16) (ys:=c16.params) (encY:=eI) rfl gc16 U U U U U) (zz (ow 1 0 c16.params) (CP HZ U U (Bd gc16) rfl) rfl (zq tb U (bs h1 fun q17 gq17 h1=>?_)))))))))
  refine F6 (rowsP:=[⟨0,3,1,List.map eI c16.params⟩]) (rows0:=[⟨0,3,1,List.map eI c16.params⟩]) (rows1:=[(Y8 q17.2)]) (rows2:=[]) (rows1':=[(Y8 q17.2)]) (rows2':=[]) (st':=[⟨0,48,5,hole l6 (BB 3 44) i5 [(.own 1 0 (List.length c16.params)),(i64 c16.result),(i64 c16.body.op),(i64 c16.body.num),(.dv 44 3 (List.map (Av 44) c16.body.kids))]⟩,(Y8 q17.2)]) (v':=(i64 q17.1)) [1] Ah cF (Kw gq17) rfl (by decide) rfl U (.pure (AN fun _=>U) .nil) rfl U (.pure (AN fun _=>U) .nil) .nil U U (fun hln=>?_)
  have ln18:List.length q17.2=List.length c16.params:=by simpa only[List.length_map] using hln 0 _ _ rfl rfl rfl
  refine Ak (Wk.take (id:=0) (m:=1) (j:=0) (i:=i5) (c:=c16) (ys:=q17.2) (encY:=eI) rfl gc16 U U (by first | (simp only[Sh.A7];done) | (simp only[Sh.A7];omega) | omega) (by decide) (show 1≤1 by decide) (fun _=>U) rfl U) ?_
  refine Ak (EW (id:=0) (i:=i5) (u:=(Am.mk q17.2 c16.result c16.body)) rfl U U) ?_
  generalize hg901:Sh.put l6 i5 (Am.mk q17.2 c16.result c16.body)=lg901 at h1 ⊢
  have ln901:=congrArg List.length hg901
  simp only[Sh.A7] at ln901
  refine zq tb U (dn hK15 U (sr U fun K19 hK19=>zm tb 3 U (bs h1 fun c20 gc20 h1=>?_)))
  refine zz (.ptr 0 0 (Int.toNat i5) 0) (Bf CR U U U (by first | (simp only[Sh.A7];done) | (simp only[Sh.A7];omega) | omega) gc20) rfl ?_
  refine zq tb U (Io (u':=(Am.mk c20.params q17.1 c20.body)) Ah IJ U U gc20 U U U (show 1+1≤5 by decide) rfl U ?_)
  generalize hg902:Sh.put lg901 i5 (Am.mk c20.params q17.1 c20.body)=lg902 at h1 ⊢
  have ln902:=congrArg List.length hg902
  simp only[Sh.A7] at ln902
  refine dn hK19 U (zr tb U U (sr U fun K22 hK22=>zm tb 3 U (bs h1 fun c23 gc23 h1=>?_)))
  refine zz (.ptr 0 0 (Int.toNat i5) 0) (Bf CR U U U (by first | (simp only[Sh.A7];done) | (simp only[Sh.A7];omega) | omega) gc23) rfl ?_
  refine zm tb 2 U (Io (u':=(Am.mk c23.params c23.result (AG.mk (Sh.w (q17.1+1)) c23.body.num c23.body.kids))) Ah IJ U U gc23 U U U (show 2+1≤5 by decide) rfl U ?_)
  generalize hg903:Sh.put lg902 i5 (Am.mk c23.params c23.result (AG.mk (Sh.w (q17.1+1)) c23.body.num c23.body.kids))=lg903 at h1 ⊢
  have ln903:=congrArg List.length hg903
  simp only[Sh.A7] at ln903
  refine dn hK22 U (zr tb U U (sr U fun K25 hK25=>zm tb 3 U (bs h1 fun c26 gc26 h1=>?_)))
  refine zz (.ptr 0 0 (Int.toNat i5) 0) (Bf CR U U U (by first | (simp only[Sh.A7];done) | (simp only[Sh.A7];omega) | omega) gc26) rfl ?_
  refine zm tb 2 U (Io (u':=(Am.mk c26.params c26.result (AG.mk c26.body.op (Sh.w ((Sh.w (q17.1+1)) + 1)) c26.body.kids))) Ah IJ U U gc26 U U U (show 3+1≤5 by decide) rfl U ?_)
  generalize hg904:Sh.put lg903 i5 (Am.mk c26.params c26.result (AG.mk c26.body.op (Sh.w ((Sh.w (q17.1+1)) + 1)) c26.body.kids))=lg904 at h1 ⊢
  have ln904:=congrArg List.length hg904
  simp only[Sh.A7] at ln904
  refine dn hK25 U (zr tb U U (AK U (zm tb 2 U (bs h1 fun c28 gc28 h1=>?_))))
  refine zz (.ptr 0 0 (Int.toNat i5) 0) (Bf CR U U U (by first | (simp only[Sh.A7];done) | (simp only[Sh.A7];omega) | omega) gc28) rfl ?_
  refine zm tb 2 U (Ak (Bg (id:=0) (j:=4) (i:=i5) (c:=c28) (ys:=c28.body.kids) (encY:=(Av 44)) rfl gc28 U U U U U) (zz (ow 2 0 c28.body.kids) (CP UM U U (Bd gc28) rfl) rfl (zq tb U (bs h1 fun q29 gq29 h1=>?_))))
  refine F6 (rowsP:=[⟨0,44,3,List.map (Av 44) c28.body.kids⟩]) (rows0:=[⟨0,44,3,List.map (Av 44) c28.body.kids⟩]) (rows1:=[(Yj q29.2)]) (rows2:=[]) (rows1':=[(Yj q29.2)]) (rows2':=[]) (st':=[⟨0,48,5,hole lg904 (BB 3 44) i5 [(.dv 3 1 (List.map eI c28.params)),(i64 c28.result),(i64 c28.body.op),(i64 c28.body.num),(.own 2 0 (List.length c28.body.kids))]⟩,⟨1,3,1,[]⟩,(Yj q29.2)]) (v':=(i64 q29.1)) [2] Ah cg (Oy gq29) rfl (by decide) rfl U (.deep (AL Ac) .nil) rfl U (.deep (AL Ac) .nil) .nil U U (fun hln=>?_)
  have ln30:List.length q29.2=List.length c28.body.kids:=by simpa only[List.length_map] using hln 0 _ _ rfl rfl rfl
  refine Ak (Wk.take (id:=0) (m:=2) (j:=4) (i:=i5) (c:=c28) (ys:=q29.2) (encY:=(Av 44)) rfl gc28 U U (by first | (simp only[Sh.A7];done) | (simp only[Sh.A7];omega) | omega) (by decide) (show 1≤2 by decide) CM U U) ?_
  refine Ak (EW (id:=0) (i:=i5) (u:=(Am.mk c28.params c28.result (AG.mk c28.body.op c28.body.num q29.2))) rfl U U) ?_
  generalize hg905:Sh.put lg904 i5 (Am.mk c28.params c28.result (AG.mk c28.body.op c28.body.num q29.2))=lg905 at h1 ⊢
  have ln905:=congrArg List.length hg905
  simp only[Sh.A7] at ln905
  refine zq tb U (dn hK14 U (AK U (zm tb 3 U ?_)))
  exact AA (xi (q29.1,Sh.w (i5+1),lg905) h1 (by refine Wk.trans (Af (L:=[(0,(.own 0 0 (List.length l6))),(1,(i64 q29.1)),(5,(i64 (Sh.w (i5+1))))]) (st':=[⟨0,48,5,List.map (BB 3 44) lg905⟩]) [0] U (by decide) rfl U (.deep (AL fun _=>U) .nil) ⟨.rfl,.rfl,.rfl,trivial⟩) ?_;exact AT (L:=[(0,(.own 0 0 (List.length lg905))),(1,(i64 q29.1)),(5,(i64 (Sh.w (i5+1))))]) ⟨(.len (by first | (simp only[Sh.A7];done) | (simp only[Sh.A7];omega) | omega)),.rfl,.rfl,trivial⟩))
 ·intro b13 h1
  exact Aw (M9 k4 l6 (Sh.AB h1).symm _ (AD U))
theorem JX {N:Nat} {s0:(List Ab)} {s1:(List Am)} {p1:Int} {r:Int×(List Ab)×(List Am)} (h0:E8 N s0 s1 p1=some r):Ag Tryz.prog 11 [(.agg (Th s0 s1)),(i64 p1)] [(EC s0),(CA s1)] (fun v st=>v=(i64 r.1)∧st=[(EC r.2.1),(CA r.2.2)]):=by
 unfold E8 at h0
 refine ai Tryz.func11 U U U U (sr U fun K1 hK1=>BH (m:=2) Ah U U U U U (zq tb U (dn hK1 U (sr U fun K2 hK2=>zm tb 3 U (bs h0 fun q3 gq3 h0=>?_)))))
 refine F6 (rowsP:=[(OV s0)]) (rows0:=[(OV s0)]) (rows1:=[(OV q3.2)]) (rows2:=[]) (rows1':=[(OV q3.2)]) (rows2':=[]) (st':=[(OV q3.2),(O0 s1),⟨0,30,2,[[(.own 0 0 (List.length s0)),(.own 1 0 (List.length s1))]]⟩]) (v':=(i64 q3.1)) [0] Ah eb (Od gq3) rfl (by decide) rfl U (.deep (AL fun _=>U) .nil) rfl U (.deep (AL fun _=>U) .nil) .nil U U (fun hln=>?_)
 have ln4:List.length q3.2=List.length s0:=by simpa only[List.length_map] using hln 0 _ _ rfl rfl rfl
 refine zq tb U (dn hK2 U (sr U fun K5 hK5=>zm tb 3 U (bs h0 fun q6 gq6 h0=>?_)))
 refine F6 (rowsP:=[(O0 s1)]) (rows0:=[(O0 s1)]) (rows1:=[(O0 q6.2)]) (rows2:=[]) (rows1':=[(O0 q6.2)]) (rows2':=[]) (st':=[(OV q3.2),(O0 q6.2),⟨0,30,2,[[(.own 0 0 (List.length s0)),(.own 1 0 (List.length s1))]]⟩]) (v':=(i64 q6.1)) [1] Ah fA (O1 gq6) rfl (by decide) rfl U (.deep (AL fun _=>U) .nil) rfl U (.deep (AL fun _=>U) .nil) .nil U U (fun hln=>?_)
 have ln7:List.length q6.2=List.length s1:=by simpa only[List.length_map] using hln 0 _ _ rfl rfl rfl
 refine zq tb U (dn hK5 U (zr tb U U ?_))
 replace h0:=Sh.AB h0
 subst r
 exact AJ (Exists.intro _ (And.intro (((DG (st:=[⟨0,81,3,List.map (Aj 111 3) q3.2⟩,⟨0,48,5,List.map (BB 3 44) q6.2⟩,⟨0,30,2,[[(.own 0 0 (List.length s0)),(.own 1 0 (List.length s1))]]⟩]) (st':=[⟨0,81,3,List.map (Aj 111 3) q3.2⟩,⟨0,48,5,List.map (BB 3 44) q6.2⟩,⟨0,30,2,[[(.own 0 0 (List.length q3.2)),(.own 1 0 (List.length q6.2))]]⟩]) (by first | (simp only[Sh.A7];done) | simp only[Sh.A7,ln4,ln7] | simp only[ln4,ln7])).trans (Af (L:=[(4,(i64 q6.1))]) (st':=[⟨0,81,3,List.map (Aj 111 3) q3.2⟩,⟨0,48,5,List.map (BB 3 44) q6.2⟩]) [0,1] U (by decide) rfl U (.deep (AL fun _=>U) (.deep (AL fun _=>U) .nil)) ⟨.rfl,trivial⟩)).trans (AT (L:=[(4,(i64 q6.1))]) ⟨.rfl,trivial⟩)) (And.intro U U)))
theorem Kx {N:Nat} {p0:(List Int)} {p1:Int} {r:Int} (h0:GK N p0 p1=some r):Ag Tryz.prog 64 [(ls eI p0),(i64 p1)] [] (fun v st=>v=(i64 r)∧st=[]):=by
 unfold GK at h0
 refine ai Tryz.func64 U U U U (zr tb U U (AF fun K2 hK2=>zr tb U U ?_))
 obtain⟨o7,h1,h0⟩:=Sh.BF h0
 have M7 :∀(k6:Int),o7=Sum.inr k6→∀s,Wk 0 s ⟨21,AP [(1,(i64 k6))],[]⟩→K2 s:=by
  intro k6 hq s hw
  subst o7
  try dsimp only at h0
  refine hK2 _ (AR hw (zr tb U U ?_))
  replace h0:=Sh.AB h0
  subst r
  exact AJ (xr (AT (L:=[(4,(i64 k6))]) (.same U)))
 refine AU (As (σ:=Int×Int) (fun n v=>Ds p0 n v.1 v.2=some o7) (fun (k4,i5)=>⟨21,AP [(0,(ls eI p0)),(1,(i64 k4)),(5,(i64 i5))],[]⟩) N (p1,0) h1 (AD U) (fun _ hv=>by rw[Ds] at hv;cases hv) ?_)
 rintro n ⟨k4,i5⟩ h1
 try dsimp only at h1 ⊢
 rw[Ds] at h1
 refine AF fun K9 hK9=>sr U fun K10 hK10=>zm tb 2 U (zl tb U U (zq tb U (dn hK10 U ?_)))
 refine ci h1 U ?_ ?_ <;> clear h1
 ·intro b11 h1
  refine AI (hK9 _ (AF fun K12 hK12=>AU (AF fun K13 hK13=>sr U fun K14 hK14=>zm tb 2 U (bs h1 fun c15 gc15 h1=>zx Bm gc15 U U U (zm tb 3 U (dn hK14 U ?_))))))
  refine ci h1 U ?_ ?_ <;> clear h1
  ·intro b16 h1
   have b17:decide (c15=k4)=false:=by simpa using b16
   refine zr tb U U ?_
   replace h1:=Sh.AB h1
   subst o7
   try dsimp only[id] at h0
   replace h0:=Sh.AB h0
   subst r
   exact AJ (xr (AT (L:=[(4,(i64 (-1)))]) (.same U)))
  ·intro b16 h1
   have b19:decide (c15=k4)=true:=by simpa using b16
   exact AI (hK13 _ (AK U (zm tb 3 U (dn hK12 U (AK U (zm tb 3 U (AA (xi (Sh.w (k4+1),Sh.w (i5+1)) h1 (AD U)))))))))
 ·intro b11 h1
  exact Aw (M7 k4 (Sh.AB h1).symm _ (AD U))
theorem Pd {N:Nat} {p0:(List BU)} {p1:Int} {r:Int} (h0:HF N p0 p1=some r):Ag Tryz.prog 63 [(ls BZ p0),(i64 p1)] [] (fun v st=>v=(i64 r)∧st=[]):=by
 unfold HF at h0
 refine ai Tryz.func63 U U U U (zr tb U U (AF fun K2 hK2=>zr tb U U ?_))
 obtain⟨o7,h1,h0⟩:=Sh.BF h0
 have M7 :∀(k6:Int),o7=Sum.inr k6→∀s,Wk 0 s ⟨22,AP [(1,(i64 k6))],[]⟩→K2 s:=by
  intro k6 hq s hw
  subst o7
  try dsimp only at h0
  refine hK2 _ (AR hw (zr tb U U ?_))
  replace h0:=Sh.AB h0
  subst r
  exact AJ (xr (AT (L:=[(4,(i64 k6))]) (.same U)))
 refine AU (As (σ:=Int×Int) (fun n v=>Dr N p0 n v.1 v.2=some o7) (fun (k4,i5)=>⟨22,AP [(0,(ls BZ p0)),(1,(i64 k4)),(5,(i64 i5))],[]⟩) N (p1,0) h1 (AD U) (fun _ hv=>by rw[Dr] at hv;cases hv) ?_)
 rintro n ⟨k4,i5⟩ h1
 try dsimp only at h1 ⊢
 rw[Dr] at h1
 refine AF fun K9 hK9=>sr U fun K10 hK10=>zm tb 2 U (zl tb U U (zq tb U (dn hK10 U ?_)))
 refine ci h1 U ?_ ?_ <;> clear h1
 ·intro b11 h1
  refine AI (hK9 _ (AF fun K12 hK12=>AU (sr U fun K13 hK13=>zm tb 2 U (bs h1 fun c14 gc14 h1=>zx ID gc14 U U U (zm tb 3 U (bs h1 fun q15 gq15 h1=>zc ca (Kx gq15) rfl U U (zq tb U (dn hK13 U ?_))))))))
  refine zr tb U U ?_
  refine ci h1 U ?_ ?_ <;> clear h1
  ·intro b17 h1
   refine zr tb U U ?_
   replace h1:=Sh.AB h1
   subst o7
   try dsimp only[id] at h0
   replace h0:=Sh.AB h0
   subst r
   exact AJ (xr (AT (L:=[(4,(i64 (-1)))]) (.same U)))
  ·intro b17 h1
   exact AI (hK12 _ (AK U (zm tb 3 U (AA (xi (q15,Sh.w (i5+1)) h1 (AD U))))))
 ·intro b11 h1
  exact Aw (M7 k4 (Sh.AB h1).symm _ (AD U))
theorem Ow {N:Nat} {p0:(List Ab)} {p1:Int} {r:Int} (h0:Gq N p0 p1=some r):Ag Tryz.prog 31 [(BT p0),(i64 p1)] [] (fun v st=>v=(i64 r)∧st=[]):=by
 unfold Gq at h0
 refine ai Tryz.func31 U U U U (zr tb U U (AF fun K2 hK2=>zr tb U U ?_))
 obtain⟨o7,h1,h0⟩:=Sh.BF h0
 have M7 :∀(k6:Int),o7=Sum.inr k6→∀s,Wk 0 s ⟨40,AP [(1,(i64 k6))],[]⟩→K2 s:=by
  intro k6 hq s hw
  subst o7
  try dsimp only at h0
  refine hK2 _ (AR hw (zr tb U U ?_))
  replace h0:=Sh.AB h0
  subst r
  exact AJ (xr (AT (L:=[(4,(i64 k6))]) (.same U)))
 refine AU (As (σ:=Int×Int) (fun n v=>Da N p0 n v.1 v.2=some o7) (fun (k4,i5)=>⟨40,AP [(0,(BT p0)),(1,(i64 k4)),(5,(i64 i5))],[]⟩) N (p1,0) h1 (AD U) (fun _ hv=>by rw[Da] at hv;cases hv) ?_)
 rintro n ⟨k4,i5⟩ h1
 try dsimp only at h1 ⊢
 rw[Da] at h1
 refine AF fun K9 hK9=>sr U fun K10 hK10=>zm tb 2 U (zl tb U U (zq tb U (dn hK10 U ?_)))
 refine ci h1 U ?_ ?_ <;> clear h1
 ·intro b11 h1
  refine AI (hK9 _ (AF fun K12 hK12=>AU (AF fun K13 hK13=>sr U fun K14 hK14=>zm tb 2 U (bs h1 fun c15 gc15 h1=>zx DC gc15 U U U (zm tb 4 U (dn hK14 U ?_))))))
  refine ci h1 U ?_ ?_ <;> clear h1
  ·intro b16 h1
   have b17:decide (c15.from_=k4)=false:=by simpa using b16
   refine zr tb U U ?_
   replace h1:=Sh.AB h1
   subst o7
   try dsimp only[id] at h0
   replace h0:=Sh.AB h0
   subst r
   exact AJ (xr (AT (L:=[(4,(i64 (-1)))]) (.same U)))
  ·intro b16 h1
   have b19:decide (c15.from_=k4)=true:=by simpa using b16
   refine AI (hK13 _ (zr tb U U (AF fun K21 hK21=>sr U fun K22 hK22=>zm tb 2 U (zx DC gc15 U U U (zm tb 4 U (dn hK22 U ?_))))))
   refine ci h1 U ?_ ?_ <;> clear h1
   ·intro b23 h1
    have b24:decide (c15.to=(Sh.w (k4+1)))=false:=by simpa using b23
    refine zr tb U U ?_
    replace h1:=Sh.AB h1
    subst o7
    try dsimp only[id] at h0
    replace h0:=Sh.AB h0
    subst r
    exact AJ (xr (AT (L:=[(4,(i64 (-1)))]) (.same U)))
   ·intro b23 h1
    have b26:decide (c15.to=(Sh.w (k4+1)))=true:=by simpa using b23
    refine AI (hK21 _ (zr tb U U (sr U fun K28 hK28=>zm tb 2 U (zx DC gc15 U U U (zm tb 3 U (bs h1 fun q29 gq29 h1=>zc fl (Pd gq29) rfl U U (zq tb U (dn hK28 U (zr tb U U ?_)))))))))
    refine ci h1 U ?_ ?_ <;> clear h1
    ·intro b31 h1
     refine zr tb U U ?_
     replace h1:=Sh.AB h1
     subst o7
     try dsimp only[id] at h0
     replace h0:=Sh.AB h0
     subst r
     exact AJ (xr (AT (L:=[(4,(i64 (-1)))]) (.same U)))
    ·intro b31 h1
     exact AI (hK12 _ (AK U (zm tb 3 U (AA (xi (q29,Sh.w (i5+1)) h1 (AD U))))))
 ·intro b11 h1
  exact Aw (M7 k4 (Sh.AB h1).symm _ (AD U))
theorem NJ {N:Nat} {rec_laws_heldExprS:(List AG)→Int→Option (Int)} (hrec_laws_heldExprS :∀{p0:(List AG)} {p1:Int} {r:Int},rec_laws_heldExprS p0 p1=some r→Ag Tryz.prog 65 [(C4 p0),(i64 p1)] [] (fun v st=>v=(i64 r)∧st=[])) {p0:(List AG)} {p1:Int} {r:Int} (h0:G4 N rec_laws_heldExprS p0 p1=some r):Ag Tryz.prog 65 [(C4 p0),(i64 p1)] [] (fun v st=>v=(i64 r)∧st=[]):=by
 unfold G4 at h0
 refine ai Tryz.func65 U U U U (zr tb U U (AF fun K2 hK2=>zr tb U U ?_))
 obtain⟨o7,h1,h0⟩:=Sh.BF h0
 have M7 :∀(k6:Int),o7=Sum.inr k6→∀s,Wk 0 s ⟨40,AP [(1,(i64 k6))],[]⟩→K2 s:=by
  intro k6 hq s hw
  subst o7
  try dsimp only at h0
  refine hK2 _ (AR hw (zr tb U U ?_))
  replace h0:=Sh.AB h0
  subst r
  exact AJ (xr (AT (L:=[(4,(i64 k6))]) (.same U)))
 refine AU (As (σ:=Int×Int) (fun n v=>Cu p0 rec_laws_heldExprS n v.1 v.2=some o7) (fun (k4,i5)=>⟨40,AP [(0,(C4 p0)),(1,(i64 k4)),(5,(i64 i5))],[]⟩) N (p1,0) h1 (AD U) (fun _ hv=>by rw[Cu] at hv;cases hv) ?_)
 rintro n ⟨k4,i5⟩ h1
 try dsimp only at h1 ⊢
 rw[Cu] at h1
 refine AF fun K9 hK9=>sr U fun K10 hK10=>zm tb 2 U (zl tb U U (zq tb U (dn hK10 U ?_)))
 refine ci h1 U ?_ ?_ <;> clear h1
 ·intro b11 h1
  refine AI (hK9 _ (AF fun K12 hK12=>AU (AF fun K13 hK13=>sr U fun K14 hK14=>zm tb 2 U (bs h1 fun c15 gc15 h1=>zz (EI c15) (BM Bc U U gc15 (Ax _) rfl) rfl (zm tb 4 U (dn hK14 U ?_))))))
  refine ci h1 U ?_ ?_ <;> clear h1
  ·intro b16 h1
   have b17:decide (c15.op=k4)=false:=by simpa using b16
   refine zr tb U U ?_
   replace h1:=Sh.AB h1
   subst o7
   try dsimp only[id] at h0
   replace h0:=Sh.AB h0
   subst r
   exact AJ (xr (AT (L:=[(4,(i64 (-1)))]) (.same U)))
  ·intro b16 h1
   have b19:decide (c15.op=k4)=true:=by simpa using b16
   refine AI (hK13 _ (zr tb U U (AF fun K21 hK21=>sr U fun K22 hK22=>zm tb 2 U (zz (EI c15) (BM Bc U U gc15 (Ax _) rfl) rfl (zm tb 4 U (dn hK22 U ?_))))))
   refine ci h1 U ?_ ?_ <;> clear h1
   ·intro b23 h1
    have b24:decide (c15.num=(Sh.w (k4+1)))=false:=by simpa using b23
    refine zr tb U U ?_
    replace h1:=Sh.AB h1
    subst o7
    try dsimp only[id] at h0
    replace h0:=Sh.AB h0
    subst r
    exact AJ (xr (AT (L:=[(4,(i64 (-1)))]) (.same U)))
   ·intro b23 h1
    have b26:decide (c15.num=(Sh.w (k4+1)))=true:=by simpa using b23
    refine AI (hK21 _ (zr tb U U (sr U fun K28 hK28=>zm tb 2 U (zz (EI c15) (BM Bc U U gc15 (Ax _) rfl) rfl (zm tb 3 U (bs h1 fun q29 gq29 h1=>zc cG (hrec_laws_heldExprS gq29) rfl U U (zq tb U (dn hK28 U (zr tb U U ?_)))))))))
    refine ci h1 U ?_ ?_ <;> clear h1
    ·intro b31 h1
     refine zr tb U U ?_
     replace h1:=Sh.AB h1
     subst o7
     try dsimp only[id] at h0
     replace h0:=Sh.AB h0
     subst r
     exact AJ (xr (AT (L:=[(4,(i64 (-1)))]) (.same U)))
    ·intro b31 h1
     exact AI (hK12 _ (AK U (zm tb 3 U (AA (xi (q29,Sh.w (i5+1)) h1 (AD U))))))
 ·intro b11 h1
  exact Aw (M7 k4 (Sh.AB h1).symm _ (AD U))

theorem NO {N:Nat} :∀(n:Nat),∀{p0:(List AG)} {p1:Int} {r:Int},Dp N n p0 p1=some r→Ag Tryz.prog 65 [(C4 p0),(i64 p1)] [] (fun v st=>v=(i64 r)∧st=[]):=by
 intro n
 induction n with
 | zero=>intro p0 p1 r h0;cases h0
 | succ n ih=>
  intro p0 p1 r h0
  rw[Dp] at h0
  exact NJ (fun h=>ih h) h0
theorem Ol {N:Nat} :∀{p0:(List AG)} {p1:Int} {r:Int},H5 N p0 p1=some r→Ag Tryz.prog 65 [(C4 p0),(i64 p1)] [] (fun v st=>v=(i64 r)∧st=[]):=by
 intro p0 p1 r h0
 exact NO N h0
theorem Oe {N:Nat} {p0:(List Am)} {p1:Int} {r:Int} (h0:Gn N p0 p1=some r):Ag Tryz.prog 32 [(ls A3 p0),(i64 p1)] [] (fun v st=>v=(i64 r)∧st=[]):=by
 unfold Gn at h0
 refine ai Tryz.func32 U U U U (zr tb U U (AF fun K2 hK2=>zr tb U U ?_))
 obtain⟨o7,h1,h0⟩:=Sh.BF h0
 have M7 :∀(k6:Int),o7=Sum.inr k6→∀s,Wk 0 s ⟨61,AP [(1,(i64 k6))],[]⟩→K2 s:=by
  intro k6 hq s hw
  subst o7
  try dsimp only at h0
  refine hK2 _ (AR hw (zr tb U U ?_))
  replace h0:=Sh.AB h0
  subst r
  exact AJ (xr (AT (L:=[(4,(i64 k6))]) (.same U)))
 refine AU (As (σ:=Int×Int) (fun n v=>DZ N p0 n v.1 v.2=some o7) (fun (k4,i5)=>⟨61,AP [(0,(ls A3 p0)),(1,(i64 k4)),(5,(i64 i5))],[]⟩) N (p1,0) h1 (AD U) (fun _ hv=>by rw[DZ] at hv;cases hv) ?_)
 rintro n ⟨k4,i5⟩ h1
 try dsimp only at h1 ⊢
 rw[DZ] at h1
 refine AF fun K9 hK9=>sr U fun K10 hK10=>zm tb 2 U (zl tb U U (zq tb U (dn hK10 U ?_)))
 refine ci h1 U ?_ ?_ <;> clear h1
 ·intro b11 h1
  refine AI (hK9 _ (AF fun K12 hK12=>AU (sr U fun K13 hK13=>zm tb 2 U (bs h1 fun c14 gc14 h1=>zx CR gc14 U U U (zm tb 3 U (bs h1 fun q15 gq15 h1=>zc ca (Kx gq15) rfl U U (zq tb U (dn hK13 U ?_))))))))
  refine AF fun K16 hK16=>zr tb U U ?_
  refine ci h1 U ?_ ?_ <;> clear h1
  ·intro b18 h1
   refine zr tb U U ?_
   replace h1:=Sh.AB h1
   subst o7
   try dsimp only[id] at h0
   replace h0:=Sh.AB h0
   subst r
   exact AJ (xr (AT (L:=[(4,(i64 (-1)))]) (.same U)))
  ·intro b18 h1
   refine AI (hK16 _ (AF fun K20 hK20=>sr U fun K21 hK21=>zm tb 2 U (zx CR gc14 U U U (zm tb 4 U (dn hK21 U ?_)))))
   refine ci h1 U ?_ ?_ <;> clear h1
   ·intro b22 h1
    have b23:decide (c14.result=q15)=false:=by simpa using b22
    refine zr tb U U ?_
    replace h1:=Sh.AB h1
    subst o7
    try dsimp only[id] at h0
    replace h0:=Sh.AB h0
    subst r
    exact AJ (xr (AT (L:=[(4,(i64 (-1)))]) (.same U)))
   ·intro b22 h1
    have b25:decide (c14.result=q15)=true:=by simpa using b22
    refine AI (hK20 _ (zr tb U U (AF fun K27 hK27=>sr U fun K28 hK28=>zm tb 2 U (zx CR gc14 U U U (zm tb 5 U (dn hK28 U ?_))))))
    refine ci h1 U ?_ ?_ <;> clear h1
    ·intro b29 h1
     have b30:decide (c14.body.op=(Sh.w (q15+1)))=false:=by simpa using b29
     refine zr tb U U ?_
     replace h1:=Sh.AB h1
     subst o7
     try dsimp only[id] at h0
     replace h0:=Sh.AB h0
     subst r
     exact AJ (xr (AT (L:=[(4,(i64 (-1)))]) (.same U)))
    ·intro b29 h1
     have b32:decide (c14.body.op=(Sh.w (q15+1)))=true:=by simpa using b29
     refine AI (hK27 _ (zr tb U U (AF fun K34 hK34=>sr U fun K35 hK35=>zm tb 2 U (zx CR gc14 U U U (zm tb 5 U (dn hK35 U ?_))))))
     refine ci h1 U ?_ ?_ <;> clear h1
     ·intro b36 h1
      have b37:decide (c14.body.num=(Sh.w ((Sh.w (q15+1)) + 1)))=false:=by simpa using b36
      refine zr tb U U ?_
      replace h1:=Sh.AB h1
      subst o7
      try dsimp only[id] at h0
      replace h0:=Sh.AB h0
      subst r
      exact AJ (xr (AT (L:=[(4,(i64 (-1)))]) (.same U)))
     ·intro b36 h1
      have b39:decide (c14.body.num=(Sh.w ((Sh.w (q15+1)) + 1)))=true:=by simpa using b36
      refine AI (hK34 _ (zr tb U U (sr U fun K41 hK41=>zm tb 2 U (zx CR gc14 U U U (zm tb 4 U (bs h1 fun q42 gq42 h1=>zc cG (Ol gq42) rfl U U (zq tb U (dn hK41 U (zr tb U U ?_)))))))))
      refine ci h1 U ?_ ?_ <;> clear h1
      ·intro b44 h1
       refine zr tb U U ?_
       replace h1:=Sh.AB h1
       subst o7
       try dsimp only[id] at h0
       replace h0:=Sh.AB h0
       subst r
       exact AJ (xr (AT (L:=[(4,(i64 (-1)))]) (.same U)))
      ·intro b44 h1
       exact AI (hK12 _ (AK U (zm tb 3 U (AA (xi (q42,Sh.w (i5+1)) h1 (AD U))))))
 ·intro b11 h1
  exact Aw (M7 k4 (Sh.AB h1).symm _ (AD U))
theorem Jf {N:Nat} {p0:Aa} {p1:Int} {r:Int} (h0:E9 N p0 p1=some r):Ag Tryz.prog 12 [(HM p0),(i64 p1)] [] (fun v st=>v=(i64 r)∧st=[]):=by
 unfold E9 at h0
 refine ai Tryz.func12 U U U U (sr U fun K1 hK1=>BH (m:=0) Ah U U U U U (zq tb U (dn hK1 U (sr U fun K2 hK2=>zm tb 3 U (bs h0 fun q3 gq3 h0=>zc eM (Ow gq3) rfl U U (zq tb U (dn hK2 U (AF fun K4 hK4=>?_))))))))
 refine zr tb U U ?_
 refine ci h0 U ?_ ?_ <;> clear h0
 ·intro b6 h0
  refine zr tb U U ?_
  replace h0:=Sh.AB h0
  subst r
  exact AJ (xr (An [(4,(i64 (-1)))] U))
 ·intro b6 h0
  refine AI (hK4 _ (sr U fun K8 hK8=>zm tb 3 U (bs h0 fun q9 gq9 h0=>zc fP (Oe gq9) rfl U U (zq tb U (dn hK8 U (AF fun K10 hK10=>zr tb U U ?_))))))
  refine ci h0 U ?_ ?_ <;> clear h0
  ·intro b12 h0
   refine zr tb U U ?_
   replace h0:=Sh.AB h0
   subst r
   exact AJ (xr (An [(4,(i64 (-1)))] U))
  ·intro b12 h0
   refine AI (hK10 _ (zr tb U U ?_))
   replace h0:=Sh.AB h0
   subst r
   exact AJ (xr (An [(4,(i64 q9))] U))
theorem RS {N:Nat} {p0:Aa} {r:Aa×Bool} (h0:HD N p0=some r):Ag Tryz.prog 14 [(HM p0)] [] (fun v st=>v=(Yp r.1.decls r.1.funcs r.2)∧st=[]):=by
 unfold HD at h0
 refine DX U (ai Tryz.func14 U U U U (sr U fun K1 hK1=>BH (m:=0) Ah U U U U U (A0 (m:=1) Ah HY U U (zq tb U (dn hK1 U (AF fun K2 hK2=>sr U fun K3 hK3=>zq tb U (bs h0 fun q4 gq4 h0=>zc cL (I8 gq4) rfl U U ?_)))))))
 refine zq tb U (dn hK3 U ?_)
 refine ci h0 U ?_ ?_ <;> clear h0
 ·intro b5 h0
  have b6:q4=false:=by simpa using b5
  refine sr U fun K7 hK7=>zz (.agg [.zc,.zc]) (FG Sw TJ HY U U) rfl (A1 Ah FV U U U U U U (show 0+2≤2 by decide) rfl (zq tb U (dn hK7 U ?_)))
  replace h0:=Sh.AB h0
  subst r
  exact AJ (Exists.intro _ (And.intro ((((Fv (id:=1) (cs:=[.zc,.zc]) (cs':=VU) (st':=[(Mj p0.decls p0.funcs),⟨0,30,2,[VU]⟩]) rfl ⟨le.zc,le.rfl,trivial⟩ U U).trans (Fv (id:=1) (cs:=VU) (cs':=T2) (st':=[(Mj p0.decls p0.funcs),Ye]) rfl ⟨le.rfl,le.zc,trivial⟩ U U)).trans (Af (L:=[(2,Ar),(3,(.bool false))]) (st':=[Ye]) [1] U (by decide) rfl U (.raw U U .nil) ⟨.rfl,.rfl,trivial⟩)).trans (AT (L:=[(2,Ar),(3,(.bool false))]) ⟨.rfl,.rfl,trivial⟩)) (BE (x:=.tmp 2) (off:=0) (cs:=T2) (vs:=T2) FV U U U (show 0+2≤2 by decide) rfl _ U)))
 ·intro b5 h0
  have b8:q4=true:=by simpa using b5
  refine AI (hK2 _ (sr U fun K9 hK9=>zq tb U (zz (.fn 34 [Ar]) (W8 U) rfl (bs h0 fun q10 gq10 h0=>?_))))
  refine Gu (rowsP:=[(Mj p0.decls p0.funcs)]) (rows0:=[(Mj p0.decls p0.funcs)]) (rows1:=[(Mj p0.decls p0.funcs)]) (rows2:=[(EC q10.1.decls),(CA q10.1.funcs)]) (rows1':=[(Mj p0.decls p0.funcs)]) (rows2':=[(EC q10.1.decls),(CA q10.1.funcs)]) (st':=[(Mj p0.decls p0.funcs),⟨0,30,2,[[.zc,.zc]]⟩,(EC q10.1.decls),(CA q10.1.funcs)]) (v':=(.DT [(.agg [(ow 2 0 q10.1.decls),(ow 3 0 q10.1.funcs)]),(.bool q10.2)])) [0] Ah ct (Ji gq10) rfl (by decide) rfl U (.raw U U .nil) rfl U (.raw U U .nil) (.deep (AL fun _=>U) (.deep (AL fun _=>U) .nil)) rfl U ?_
  refine zm tb 2 U (Ak (Gb (L:=[(2,Ay),(11,(.agg [(BT q10.1.decls),(ow 3 0 q10.1.funcs)])),(12,(.bool q10.2))]) (st':=[(Mj p0.decls p0.funcs),⟨0,30,2,[[.zc,.zc]]⟩,Uy,(CA q10.1.funcs)]) (id:=2) rfl (show 0≤2 by decide) (Go.Abs.EY (fun _=>U)) ⟨.rfl,(.agg ⟨(.I5 U (fun x=>E1 x)),.rfl,trivial⟩),.rfl,trivial⟩ U) (Ak (Gb (L:=[(2,Ay),(11,(.agg (Uv q10.1.decls q10.1.funcs))),(12,(.bool q10.2))]) (st':=[(Mj p0.decls p0.funcs),⟨0,30,2,[[.zc,.zc]]⟩,Uy,⟨1,48,5,[]⟩]) (id:=3) rfl (show 0≤3 by decide) (Go.Abs.EY (fun _=>U)) ⟨.rfl,(.agg ⟨.rfl,(.I5 U (fun x=>E2 x)),trivial⟩),.rfl,trivial⟩ U) (A1 Ah FV U U U U U U (show 0+2≤2 by decide) rfl (zq tb U (dn hK9 U ?_)))))
  replace h0:=Sh.AB h0
  subst r
  exact AJ (Exists.intro _ (And.intro ((Af (L:=[(2,Ar),(3,(.bool q10.2))]) (st':=[(Mj q10.1.decls q10.1.funcs)]) [1] U (by decide) rfl U (.raw U U .nil) ⟨.rfl,.rfl,trivial⟩).trans (AT (L:=[(2,Ar),(3,(.bool q10.2))]) ⟨.rfl,.rfl,trivial⟩)) (BE (x:=.tmp 2) (off:=0) (cs:=(Uv q10.1.decls q10.1.funcs)) (vs:=(Uv q10.1.decls q10.1.funcs)) FV U U U (show 0+2≤2 by decide) rfl _ U)))
theorem NH {N:Nat} {p0:Aa} {r:Bool} (h0:G0 N p0=some r):Ag Tryz.prog 4 [(HM p0)] [] (fun v st=>v=(.bool r)∧st=[]):=by
 unfold G0 at h0
 refine ai Tryz.func4 U U U U (sr U fun K1 hK1=>BH (m:=0) Ah U U U U U (zq tb U (dn hK1 U (zr tb U U (sr U fun K3 hK3=>zm tb 2 U (bs h0 fun q4 gq4 h0=>zc fx (O5 gq4) rfl U U (zq tb U (dn hK3 U ?_))))))))
 refine AF fun K5 hK5=>zr tb U U ?_
 refine ci h0 U ?_ ?_ <;> clear h0
 ·intro b7 h0
  refine zr tb U U ?_
  replace h0:=Sh.AB h0
  subst r
  exact AJ (xr (An [(2,(.bool true))] U))
 ·intro b7 h0
  refine AI (hK5 _ (sr U fun K9 hK9=>zq tb U (bs h0 fun q10 gq10 h0=>BY (v':=(.agg [(ow 1 0 q10.decls),(ow 2 0 q10.funcs)])) Ah bD (GX gq10) rfl U ⟨(AL fun _=>U),⟨(AL fun _=>U),trivial⟩⟩ U U (Ak (Gb (L:=[(1,Ar),(21,(.agg [(ls Ai q10.decls),(ow 2 0 q10.funcs)]))]) (st':=[(T1 p0.decls p0.funcs),Uy,(Ny q10)]) (id:=1) rfl (show 0≤1 by decide) (Go.Abs.EY (fun _=>U)) ⟨.rfl,(.agg ⟨(.I5 U (fun x=>E1 x)),.rfl,trivial⟩),trivial⟩ U) (Ak (Gb (L:=[(1,Ar),(21,(HM q10))]) (st':=[(T1 p0.decls p0.funcs),Uy,⟨1,48,5,[]⟩]) (id:=2) rfl (show 0≤2 by decide) (Go.Abs.EY (fun _=>U)) ⟨.rfl,(.agg ⟨.rfl,(.I5 U (fun x=>E2 x)),trivial⟩),trivial⟩ U) (bs h0 fun q11 gq11 h0=>zc (v':=(Yp q11.1.decls q11.1.funcs q11.2)) fm (Ts gq11) rfl U U (zm tb 3 U (A0 (m:=3) Ah HY U U (A1 Ah FV U U U U U U (show 0+2≤2 by decide) rfl ?_)))))))))
  refine zq tb U (dn hK9 U (sr U fun K12 hK12=>zq tb U (bs h0 fun q13 gq13 h0=>BY (v':=(.agg [(ow 4 0 q13.decls),(ow 5 0 q13.funcs)])) Ah bD (GX gq13) rfl U ⟨(AL fun _=>U),⟨(AL fun _=>U),trivial⟩⟩ U U (A0 (m:=6) Ah HY U U (A1 Ah FV U U U U U U (show 0+2≤2 by decide) rfl (dn hK12 U (sr U fun K14 hK14=>zq tb U (bs h0 fun q15 gq15 h0=>?_))))))))
  refine J8 (v':=(.DT [(.agg [(ow 7 0 q15.1.decls),(ow 8 0 q15.1.funcs)]),(.bool q15.2)])) Ah cj (T6 gq15) rfl (.agg (.ownD U U (fun _=>U) (fun x=>E1 x) (.ownD U U (fun _=>U) (fun x=>E2 x) .nil)) .nil) rfl (aD (fun _=>U) (aD (fun _=>U) trivial)) rfl U (zm tb 3 U (A0 (m:=9) Ah HY U U (A1 Ah FV U U U U U U (show 0+2≤2 by decide) rfl (zq tb U (dn hK14 U (AF fun K16 hK16=>AF fun K17 hK17=>bs h0 fun o19 h1 h0=>?_))))))
  have M19 :∀(t18:Bool),o19=t18→∀s,Wk 0 s ⟨96,AP [(1,Ar),(4,Ay),(5,(.bool q11.2)),(6,LG),(7,(.ptr 7 0 0 0)),(8,(.bool q15.2)),(40,(.bool t18))],[(T1 p0.decls p0.funcs),(Mj q11.1.decls q11.1.funcs),(ro 0 81 3 (Aj 111 3) q13.decls),(Ny q13),⟨0,30,2,[[(ow 2 0 q13.decls),(ow 3 0 q13.funcs)]]⟩,(EC q15.1.decls),(CA q15.1.funcs),⟨0,30,2,[[(ow 5 0 q15.1.decls),(ow 6 0 q15.1.funcs)]]⟩]⟩→K17 s:=by
   intro t18 hq s hw
   subst o19
   try dsimp only at h0
   refine hK17 _ (AR hw ?_)
   refine ci h0 U ?_ ?_ <;> clear h0
   ·intro b20 h0
    refine zr tb U U ?_
    replace h0:=Sh.AB h0
    subst r
    exact AJ (xr (An [(2,(.bool false))] U))
   ·intro b20 h0
    refine AI (hK16 _ (AF fun K22 hK22=>AF fun K23 hK23=>?_))
    refine By (by kernel_rfl) (by kernel_rfl) (by rfl) ?_
    iterate 2 refine yq tb rfl ?_
    refine bs h0 fun q24 gq24 h0=>?_
    refine Bk (v:=(HM q24)) Ah bD (Ag.wk (GX gq24) (by refine Wk.trans (Gb (L:=[(0,(.agg [(ls Ai q24.decls),(ow 1 0 q24.funcs)]))]) (st':=[Uy,(Ny q24)]) (id:=0) rfl (show 0≤0 by decide) (Go.Abs.EY (fun _=>U)) ⟨(.agg ⟨(.I5 U (fun x=>E1 x)),.rfl,trivial⟩),trivial⟩ U) ?_;refine Wk.trans (Gb (L:=[(0,(HM q24))]) (st':=[Uy,⟨1,48,5,[]⟩]) (id:=1) rfl (show 0≤1 by decide) (Go.Abs.EY (fun _=>U)) ⟨(.agg ⟨.rfl,(.I5 U (fun x=>E2 x)),trivial⟩),trivial⟩ U) ?_;exact Af [] U (by decide) rfl U .nil (.same U))) rfl U U ?_
    refine bs h0 fun q25 gq25 h0=>Sn (v':=(.bool q25)) Ah X7 (GU gq25) rfl (.agg (.ownD U U (fun _=>U) (fun x=>E1 x) (.ownD U U (fun _=>U) (fun x=>E2 x) .nil)) (.val U .nil)) rfl U (yq tb U (BR (hK23 _ ?_)))
    refine ci h0 U ?_ ?_ <;> clear h0
    ·intro b26 h0
     have b27:q25=false:=by simpa using b26
     refine zr tb U U ?_
     replace h0:=Sh.AB h0
     subst r
     exact AJ (xr (An [(2,(.bool false))] U))
    ·intro b26 h0
     have b29:q25=true:=by simpa using b26
     refine AI (hK22 _ (zr tb U U (sr U fun K31 hK31=>zm tb 2 U (bs h0 fun q32 gq32 h0=>?_))))
     refine F6 (rowsP:=[⟨0,81,3,List.map (Aj 111 3) q13.decls⟩,⟨0,48,5,List.map (BB 3 44) q13.funcs⟩]) (rows0:=[⟨0,81,3,List.map (Aj 111 3) q13.decls⟩,⟨0,48,5,List.map (BB 3 44) q13.funcs⟩]) (rows1:=[(OV q32.2.1),(O0 q32.2.2)]) (rows2:=[]) (rows1':=[(OV q32.2.1),(O0 q32.2.2)]) (rows2':=[]) (st':=[⟨0,25,2,[[(.sl (List.map Ai p0.decls)),(.sl (List.map A3 p0.funcs))]]⟩,⟨0,30,2,[[(.sl (List.map Ai q11.1.decls)),(.sl (List.map A3 q11.1.funcs))]]⟩,(OV q32.2.1),(O0 q32.2.2),⟨0,30,2,[[(.own 2 0 (List.length q13.decls)),(.own 3 0 (List.length q13.funcs))]]⟩,(OV q15.1.decls),(O0 q15.1.funcs),⟨0,30,2,[[(.own 5 0 (List.length q15.1.decls)),(.own 6 0 (List.length q15.1.funcs))]]⟩]) (v':=(i64 q32.1)) [2,3] Ah cH (JX gq32) rfl (by decide) rfl U (.deep (AL fun _=>U) (.deep (AL fun _=>U) .nil)) rfl U (.deep (AL fun _=>U) (.deep (AL fun _=>U) .nil)) .nil U U (fun hln=>?_)
     have ln33:List.length q32.2.1=List.length q13.decls:=by simpa only[List.length_map] using hln 0 _ _ rfl rfl rfl
     have ln34:List.length q32.2.2=List.length q13.funcs:=by simpa only[List.length_map] using hln 1 _ _ rfl rfl rfl
     refine zq tb U (dn hK31 U (AF fun K35 hK35=>AF fun K36 hK36=>bs h0 fun o38 h1 h0=>?_))
     have M38 :∀(t37:Bool),o38=t37→∀s,Wk 0 s ⟨96,AP [(1,Ar),(4,Ay),(5,(.bool q11.2)),(7,LG),(61,(.bool t37))],[(T1 p0.decls p0.funcs),(Mj q11.1.decls q11.1.funcs),(EC q15.1.decls),(CA q15.1.funcs),(Jq q15.1.decls q15.1.funcs)]⟩→K36 s:=by
      intro t37 hq s hw
      subst o38
      try dsimp only at h0
      refine hK36 _ (AR hw ?_)
      refine ci h0 U ?_ ?_ <;> clear h0
      ·intro b39 h0
       refine zr tb U U ?_
       replace h0:=Sh.AB h0
       subst r
       exact AJ (xr (An [(2,(.bool false))] U))
      ·intro b39 h0
       refine AI (hK35 _ (zr tb U U (sr U fun K42 hK42=>zm tb 2 U (bs h0 fun q43 gq43 h0=>?_))))
       refine F6 (rowsP:=[(OV q15.1.decls),(O0 q15.1.funcs)]) (rows0:=[(OV q15.1.decls),(O0 q15.1.funcs)]) (rows1:=[(OV q43.2.1),(O0 q43.2.2)]) (rows2:=[]) (rows1':=[(OV q43.2.1),(O0 q43.2.2)]) (rows2':=[]) (st':=[⟨0,25,2,[[(.sl (List.map Ai p0.decls)),(.sl (List.map A3 p0.funcs))]]⟩,⟨0,30,2,[[(.sl (List.map Ai q11.1.decls)),(.sl (List.map A3 q11.1.funcs))]]⟩,(OV q43.2.1),(O0 q43.2.2),⟨0,30,2,[[(.own 2 0 (List.length q15.1.decls)),(.own 3 0 (List.length q15.1.funcs))]]⟩]) (v':=(i64 q43.1)) [2,3] Ah cH (JX gq43) rfl (by decide) rfl U (.deep (AL fun _=>U) (.deep (AL fun _=>U) .nil)) rfl U (.deep (AL fun _=>U) (.deep (AL fun _=>U) .nil)) .nil U U (fun hln=>?_)
       have ln44:List.length q43.2.1=List.length q15.1.decls:=by simpa only[List.length_map] using hln 0 _ _ rfl rfl rfl
       have ln45:List.length q43.2.2=List.length q15.1.funcs:=by simpa only[List.length_map] using hln 1 _ _ rfl rfl rfl
       refine zq tb U (dn hK42 U (zr tb U U (sr U fun K47 hK47=>zm tb 2 U (bs h0 fun q48 gq48 h0=>?_))))
       refine J8 (v':=(i64 q48)) Ah cN (Jf gq48) rfl (.agg (.ownD U (by first | (simp only[Sh.A7];done) | (simp only[Sh.A7];omega) | omega) (fun _=>U) (fun x=>E1 x) (.ownD U (by first | (simp only[Sh.A7];done) | (simp only[Sh.A7];omega) | omega) (fun _=>U) (fun x=>E2 x) .nil)) (.val U .nil)) rfl trivial U U ?_
       refine zq tb U (dn hK47 U (AF fun K49 hK49=>zr tb U U ?_))
       refine ci h0 U ?_ ?_ <;> clear h0
       ·intro b51 h0
        refine zr tb U U ?_
        replace h0:=Sh.AB h0
        subst r
        exact AJ (Exists.intro _ (And.intro (((DG (st:=[⟨0,25,2,[[(.sl (List.map Ai p0.decls)),(.sl (List.map A3 p0.funcs))]]⟩,⟨0,30,2,[[(.sl (List.map Ai q11.1.decls)),(.sl (List.map A3 q11.1.funcs))]]⟩,⟨0,81,3,List.map (Aj 111 3) q43.2.1⟩,⟨0,48,5,List.map (BB 3 44) q43.2.2⟩,⟨0,30,2,[[(.own 2 0 (List.length q15.1.decls)),(.own 3 0 (List.length q15.1.funcs))]]⟩]) (st':=[⟨0,25,2,[[(.sl (List.map Ai p0.decls)),(.sl (List.map A3 p0.funcs))]]⟩,⟨0,30,2,[[(.sl (List.map Ai q11.1.decls)),(.sl (List.map A3 q11.1.funcs))]]⟩,⟨0,81,3,List.map (Aj 111 3) q43.2.1⟩,⟨0,48,5,List.map (BB 3 44) q43.2.2⟩,⟨0,30,2,[[(.own 2 0 (List.length q43.2.1)),(.own 3 0 (List.length q43.2.2))]]⟩]) (by first | (simp only[Sh.A7];done) | simp only[Sh.A7,ln33,ln34,ln44,ln45] | simp only[ln33,ln34,ln44,ln45])).trans (Af (L:=[(2,(.bool false))]) (st':=[]) [] U (by decide) rfl U .nil ⟨.rfl,trivial⟩)).trans (AT (L:=[(2,(.bool false))]) ⟨.rfl,trivial⟩)) (And.intro U U)))
       ·intro b51 h0
        refine AI (hK49 _ (AF fun K53 hK53=>zr tb U U ?_))
        refine ci h0 U ?_ ?_ <;> clear h0
        ·intro b55 h0
         have b56:decide (q48=q43.1)=false:=by simpa using b55
         refine zr tb U U ?_
         replace h0:=Sh.AB h0
         subst r
         exact AJ (Exists.intro _ (And.intro (((DG (st:=[⟨0,25,2,[[(.sl (List.map Ai p0.decls)),(.sl (List.map A3 p0.funcs))]]⟩,⟨0,30,2,[[(.sl (List.map Ai q11.1.decls)),(.sl (List.map A3 q11.1.funcs))]]⟩,⟨0,81,3,List.map (Aj 111 3) q43.2.1⟩,⟨0,48,5,List.map (BB 3 44) q43.2.2⟩,⟨0,30,2,[[(.own 2 0 (List.length q15.1.decls)),(.own 3 0 (List.length q15.1.funcs))]]⟩]) (st':=[⟨0,25,2,[[(.sl (List.map Ai p0.decls)),(.sl (List.map A3 p0.funcs))]]⟩,⟨0,30,2,[[(.sl (List.map Ai q11.1.decls)),(.sl (List.map A3 q11.1.funcs))]]⟩,⟨0,81,3,List.map (Aj 111 3) q43.2.1⟩,⟨0,48,5,List.map (BB 3 44) q43.2.2⟩,⟨0,30,2,[[(.own 2 0 (List.length q43.2.1)),(.own 3 0 (List.length q43.2.2))]]⟩]) (by first | (simp only[Sh.A7];done) | simp only[Sh.A7,ln33,ln34,ln44,ln45] | simp only[ln33,ln34,ln44,ln45])).trans (Af (L:=[(2,(.bool false))]) (st':=[]) [] U (by decide) rfl U .nil ⟨.rfl,trivial⟩)).trans (AT (L:=[(2,(.bool false))]) ⟨.rfl,trivial⟩)) (And.intro U U)))
        ·intro b55 h0
         have b58:decide (q48=q43.1)=true:=by simpa using b55
         refine AI (hK53 _ (sr U fun K59 hK59=>zq tb U (bs h0 fun q60 gq60 h0=>BY (v':=(.agg [(ow 5 0 q60.decls),(ow 6 0 q60.funcs)])) Ah bD (GX gq60) rfl U ⟨(AL fun _=>U),⟨(AL fun _=>U),trivial⟩⟩ U U (Ak (Gb (L:=[(4,Ay),(5,(.bool q11.2)),(7,LG),(10,(i64 q43.1)),(75,(.agg [(ls Ai q60.decls),(ow 6 0 q60.funcs)]))]) (st':=[(T1 p0.decls p0.funcs),(Mj q11.1.decls q11.1.funcs),(EC q43.2.1),(CA q43.2.2),(Jq q15.1.decls q15.1.funcs),Uy,(Ny q60)]) (id:=5) rfl (show 0≤5 by decide) (Go.Abs.EY (fun _=>U)) ⟨.rfl,.rfl,.rfl,.rfl,(.agg ⟨(.I5 U (fun x=>E1 x)),.rfl,trivial⟩),trivial⟩ U) (Ak (Gb (L:=[(4,Ay),(5,(.bool q11.2)),(7,LG),(10,(i64 q43.1)),(75,(HM q60))]) (st':=[(T1 p0.decls p0.funcs),(Mj q11.1.decls q11.1.funcs),(EC q43.2.1),(CA q43.2.2),(Jq q15.1.decls q15.1.funcs),Uy,⟨1,48,5,[]⟩]) (id:=6) rfl (show 0≤6 by decide) (Go.Abs.EY (fun _=>U)) ⟨.rfl,.rfl,.rfl,.rfl,(.agg ⟨.rfl,(.I5 U (fun x=>E2 x)),trivial⟩),trivial⟩ U) (bs h0 fun q61 gq61 h0=>zc (v':=(Yp q61.1.decls q61.1.funcs q61.2)) cj (RS gq61) rfl U U (zm tb 3 U (A0 (m:=7) Ah HY U U (A1 Ah FV U U U U U U (show 0+2≤2 by decide) rfl ?_)))))))))
         refine zq tb U (dn hK59 U (AF fun K62 hK62=>AF fun K63 hK63=>bs h0 fun o65 h1 h0=>?_))
         have M65 :∀(t64:Bool),o65=t64→∀s,Wk 0 s ⟨96,AP [(7,BK),(10,(i64 q43.1)),(87,(.bool t64))],(aE q43.2.1 q43.2.2)⟩→K63 s:=by
          intro t64 hq s hw
          subst o65
          try dsimp only at h0
          refine hK63 _ (AR hw ?_)
          refine ci h0 U ?_ ?_ <;> clear h0
          ·intro b66 h0
           refine zr tb U U ?_
           replace h0:=Sh.AB h0
           subst r
           exact AJ (xr (An [(2,(.bool false))] U))
          ·intro b66 h0
           refine AI (hK62 _ (zr tb U U (sr U fun K69 hK69=>zm tb 2 U (bs h0 fun q70 gq70 h0=>J8 (v':=(i64 q70)) Ah cN (Jf gq70) rfl (.agg (.ownD U U (fun _=>U) (fun x=>E1 x) (.ownD U U (fun _=>U) (fun x=>E2 x) .nil)) (.val U .nil)) rfl trivial U U (zq tb U (dn hK69 U (AF fun K71 hK71=>zr tb U U ?_)))))))
           refine ci h0 U ?_ ?_ <;> clear h0
           ·intro b73 h0
            refine zr tb U U ?_
            replace h0:=Sh.AB h0
            subst r
            exact AJ (xr (An [(2,(.bool false))] U))
           ·intro b73 h0
            refine AI (hK71 _ (AF fun K75 hK75=>zr tb U U ?_))
            refine ci h0 U ?_ ?_ <;> clear h0
            ·intro b77 h0
             have b78:decide (q70=q43.1)=false:=by simpa using b77
             refine zr tb U U ?_
             replace h0:=Sh.AB h0
             subst r
             exact AJ (xr (An [(2,(.bool false))] U))
            ·intro b77 h0
             have b80:decide (q70=q43.1)=true:=by simpa using b77
             refine AI (hK75 _ (zr tb U U ?_))
             replace h0:=Sh.AB h0
             subst r
             exact AJ (xr (An [(2,(.bool true))] U))
         refine AK U (zm tb 2 U (bs h1 fun q82 gq82 h1=>zc X7 (GU gq82) rfl U U (zm tb 2 U ?_)))
         rcases Sh.Au h1 with ⟨b83,h1⟩ | ⟨b83,h1⟩
         ·refine zs b83 U (zs b83 U (zs b83 U (zt b83 U ?_)))
          exact AA (M65 true (Sh.AB h1).symm _ (by refine Wk.trans (DG (st:=[⟨0,25,2,[[(.sl (List.map Ai p0.decls)),(.sl (List.map A3 p0.funcs))]]⟩,⟨0,30,2,[[(.sl (List.map Ai q11.1.decls)),(.sl (List.map A3 q11.1.funcs))]]⟩,⟨0,81,3,List.map (Aj 111 3) q43.2.1⟩,⟨0,48,5,List.map (BB 3 44) q43.2.2⟩,⟨0,30,2,[[(.own 2 0 (List.length q15.1.decls)),(.own 3 0 (List.length q15.1.funcs))]]⟩,⟨1,81,3,[]⟩,⟨1,48,5,[]⟩,⟨0,30,2,[[(.sl (List.map Ai q61.1.decls)),(.sl (List.map A3 q61.1.funcs))]]⟩]) (st':=[⟨0,25,2,[[(.sl (List.map Ai p0.decls)),(.sl (List.map A3 p0.funcs))]]⟩,⟨0,30,2,[[(.sl (List.map Ai q11.1.decls)),(.sl (List.map A3 q11.1.funcs))]]⟩,⟨0,81,3,List.map (Aj 111 3) q43.2.1⟩,⟨0,48,5,List.map (BB 3 44) q43.2.2⟩,⟨0,30,2,[[(.own 2 0 (List.length q43.2.1)),(.own 3 0 (List.length q43.2.2))]]⟩,⟨1,81,3,[]⟩,⟨1,48,5,[]⟩,⟨0,30,2,[[(.sl (List.map Ai q61.1.decls)),(.sl (List.map A3 q61.1.funcs))]]⟩]) (by first | (simp only[Sh.A7];done) | simp only[Sh.A7,ln33,ln34,ln44,ln45] | simp only[ln33,ln34,ln44,ln45])) ?_;exact A4 (L:=[(7,(.ptr 2 0 0 0)),(10,(i64 q43.1)),(87,(.bool true))]) (st':=[⟨0,81,3,List.map (Aj 111 3) q43.2.1⟩,⟨0,48,5,List.map (BB 3 44) q43.2.2⟩,⟨0,30,2,[[(.own 0 0 (List.length q43.2.1)),(.own 1 0 (List.length q43.2.2))]]⟩]) (st1:=[⟨0,81,3,List.map (Aj 111 3) q43.2.1⟩,⟨0,48,5,List.map (BB 3 44) q43.2.2⟩,⟨0,30,2,[[(.own 2 0 (List.length q43.2.1)),(.own 3 0 (List.length q43.2.2))]]⟩]) [2,3,4] U .nil (by decide) rfl U (.deep (AL fun _=>U) (.deep (AL fun _=>U) (.raw U U .nil))) (.same U)))
         ·refine zg tb b83 U (zg tb b83 U (zg tb b83 U (zf b83 U ?_)))
          exact AA (M65 (q61.2 != q11.2) (Sh.AB h1).symm _ (by refine Wk.trans (DG (st:=[⟨0,25,2,[[(.sl (List.map Ai p0.decls)),(.sl (List.map A3 p0.funcs))]]⟩,⟨0,30,2,[[(.sl (List.map Ai q11.1.decls)),(.sl (List.map A3 q11.1.funcs))]]⟩,⟨0,81,3,List.map (Aj 111 3) q43.2.1⟩,⟨0,48,5,List.map (BB 3 44) q43.2.2⟩,⟨0,30,2,[[(.own 2 0 (List.length q15.1.decls)),(.own 3 0 (List.length q15.1.funcs))]]⟩,⟨1,81,3,[]⟩,⟨1,48,5,[]⟩,⟨0,30,2,[[(.sl (List.map Ai q61.1.decls)),(.sl (List.map A3 q61.1.funcs))]]⟩]) (st':=[⟨0,25,2,[[(.sl (List.map Ai p0.decls)),(.sl (List.map A3 p0.funcs))]]⟩,⟨0,30,2,[[(.sl (List.map Ai q11.1.decls)),(.sl (List.map A3 q11.1.funcs))]]⟩,⟨0,81,3,List.map (Aj 111 3) q43.2.1⟩,⟨0,48,5,List.map (BB 3 44) q43.2.2⟩,⟨0,30,2,[[(.own 2 0 (List.length q43.2.1)),(.own 3 0 (List.length q43.2.2))]]⟩,⟨1,81,3,[]⟩,⟨1,48,5,[]⟩,⟨0,30,2,[[(.sl (List.map Ai q61.1.decls)),(.sl (List.map A3 q61.1.funcs))]]⟩]) (by first | (simp only[Sh.A7];done) | simp only[Sh.A7,ln33,ln34,ln44,ln45] | simp only[ln33,ln34,ln44,ln45])) ?_;exact A4 (L:=[(7,(.ptr 2 0 0 0)),(10,(i64 q43.1)),(87,(.bool (q61.2 != q11.2)))]) (st':=[⟨0,81,3,List.map (Aj 111 3) q43.2.1⟩,⟨0,48,5,List.map (BB 3 44) q43.2.2⟩,⟨0,30,2,[[(.own 0 0 (List.length q43.2.1)),(.own 1 0 (List.length q43.2.2))]]⟩]) (st1:=[⟨0,81,3,List.map (Aj 111 3) q43.2.1⟩,⟨0,48,5,List.map (BB 3 44) q43.2.2⟩,⟨0,30,2,[[(.own 2 0 (List.length q43.2.1)),(.own 3 0 (List.length q43.2.2))]]⟩]) [2,3,4] U .nil (by decide) rfl U (.deep (AL fun _=>U) (.deep (AL fun _=>U) (.raw U U .nil))) (.same U)))
     refine AK U (zm tb 3 U ?_)
     rcases Sh.Au h1 with ⟨b84,h1⟩ | ⟨b84,h1⟩
     ·refine zs b84 U ?_
      iterate 3 refine zs b84 rfl ?_
      refine zt b84 U (zq tb U ?_)
      iterate 3 refine zs rfl rfl ?_
      refine zt U U ?_
      exact AA (M38 true (Sh.AB h1).symm _ (by refine Wk.trans (DG (st:=[⟨0,25,2,[[(.sl (List.map Ai p0.decls)),(.sl (List.map A3 p0.funcs))]]⟩,⟨0,30,2,[[(.sl (List.map Ai q11.1.decls)),(.sl (List.map A3 q11.1.funcs))]]⟩,⟨0,81,3,List.map (Aj 111 3) q32.2.1⟩,⟨0,48,5,List.map (BB 3 44) q32.2.2⟩,⟨0,30,2,[[(.own 2 0 (List.length q13.decls)),(.own 3 0 (List.length q13.funcs))]]⟩,⟨0,81,3,List.map (Aj 111 3) q15.1.decls⟩,⟨0,48,5,List.map (BB 3 44) q15.1.funcs⟩,⟨0,30,2,[[(.own 5 0 (List.length q15.1.decls)),(.own 6 0 (List.length q15.1.funcs))]]⟩]) (st':=[⟨0,25,2,[[(.sl (List.map Ai p0.decls)),(.sl (List.map A3 p0.funcs))]]⟩,⟨0,30,2,[[(.sl (List.map Ai q11.1.decls)),(.sl (List.map A3 q11.1.funcs))]]⟩,⟨0,81,3,List.map (Aj 111 3) q32.2.1⟩,⟨0,48,5,List.map (BB 3 44) q32.2.2⟩,⟨0,30,2,[[(.own 2 0 (List.length q32.2.1)),(.own 3 0 (List.length q32.2.2))]]⟩,⟨0,81,3,List.map (Aj 111 3) q15.1.decls⟩,⟨0,48,5,List.map (BB 3 44) q15.1.funcs⟩,⟨0,30,2,[[(.own 5 0 (List.length q15.1.decls)),(.own 6 0 (List.length q15.1.funcs))]]⟩]) (by first | (simp only[Sh.A7];done) | simp only[Sh.A7,ln33,ln34] | simp only[ln33,ln34])) ?_;exact A4 (L:=[(1,(.ptr 0 0 0 0)),(4,(.ptr 1 0 0 0)),(5,(.bool q11.2)),(7,(.ptr 4 0 0 0)),(61,(.bool true))]) (st':=[⟨0,25,2,[[(.sl (List.map Ai p0.decls)),(.sl (List.map A3 p0.funcs))]]⟩,⟨0,30,2,[[(.sl (List.map Ai q11.1.decls)),(.sl (List.map A3 q11.1.funcs))]]⟩,⟨0,81,3,List.map (Aj 111 3) q15.1.decls⟩,⟨0,48,5,List.map (BB 3 44) q15.1.funcs⟩,⟨0,30,2,[[(.own 2 0 (List.length q15.1.decls)),(.own 3 0 (List.length q15.1.funcs))]]⟩]) (st1:=[⟨0,25,2,[[(.sl (List.map Ai p0.decls)),(.sl (List.map A3 p0.funcs))]]⟩,⟨0,30,2,[[(.sl (List.map Ai q11.1.decls)),(.sl (List.map A3 q11.1.funcs))]]⟩,⟨0,81,3,List.map (Aj 111 3) q15.1.decls⟩,⟨0,48,5,List.map (BB 3 44) q15.1.funcs⟩,⟨0,30,2,[[(.own 5 0 (List.length q15.1.decls)),(.own 6 0 (List.length q15.1.funcs))]]⟩]) [0,1,5,6,7] U .nil (by decide) rfl U (.raw U U (.raw U U (.deep (AL fun _=>U) (.deep (AL fun _=>U) (.raw U U .nil))))) (.same U)))
     ·refine zg tb b84 U (zg tb b84 U (bs h1 fun q85 gq85 h1=>J8 (v':=(.bool q85)) (DF U U b84) X7 (GU gq85) rfl (.agg (.ownD U U (fun _=>U) (fun x=>E1 x) (.ownD U U (fun _=>U) (fun x=>E2 x) .nil)) (.val U .nil)) rfl trivial U U (zg tb b84 U (zf b84 U (zq tb U ?_)))))
      rcases Sh.Au h1 with ⟨b86,h1⟩ | ⟨b86,h1⟩
      ·refine zs b86 U (zs b86 U (zs b86 U (zt b86 U ?_)))
       exact AA (M38 true (Sh.AB h1).symm _ (by refine Wk.trans (DG (st:=[⟨0,25,2,[[(.sl (List.map Ai p0.decls)),(.sl (List.map A3 p0.funcs))]]⟩,⟨0,30,2,[[(.sl (List.map Ai q11.1.decls)),(.sl (List.map A3 q11.1.funcs))]]⟩,⟨0,81,3,List.map (Aj 111 3) q32.2.1⟩,⟨0,48,5,List.map (BB 3 44) q32.2.2⟩,⟨0,30,2,[[(.own 2 0 (List.length q13.decls)),(.own 3 0 (List.length q13.funcs))]]⟩,⟨0,81,3,List.map (Aj 111 3) q15.1.decls⟩,⟨0,48,5,List.map (BB 3 44) q15.1.funcs⟩,⟨0,30,2,[[(.own 5 0 (List.length q15.1.decls)),(.own 6 0 (List.length q15.1.funcs))]]⟩]) (st':=[⟨0,25,2,[[(.sl (List.map Ai p0.decls)),(.sl (List.map A3 p0.funcs))]]⟩,⟨0,30,2,[[(.sl (List.map Ai q11.1.decls)),(.sl (List.map A3 q11.1.funcs))]]⟩,⟨0,81,3,List.map (Aj 111 3) q32.2.1⟩,⟨0,48,5,List.map (BB 3 44) q32.2.2⟩,⟨0,30,2,[[(.own 2 0 (List.length q32.2.1)),(.own 3 0 (List.length q32.2.2))]]⟩,⟨0,81,3,List.map (Aj 111 3) q15.1.decls⟩,⟨0,48,5,List.map (BB 3 44) q15.1.funcs⟩,⟨0,30,2,[[(.own 5 0 (List.length q15.1.decls)),(.own 6 0 (List.length q15.1.funcs))]]⟩]) (by first | (simp only[Sh.A7];done) | simp only[Sh.A7,ln33,ln34] | simp only[ln33,ln34])) ?_;exact A4 (L:=[(1,(.ptr 0 0 0 0)),(4,(.ptr 1 0 0 0)),(5,(.bool q11.2)),(7,(.ptr 4 0 0 0)),(61,(.bool true))]) (st':=[⟨0,25,2,[[(.sl (List.map Ai p0.decls)),(.sl (List.map A3 p0.funcs))]]⟩,⟨0,30,2,[[(.sl (List.map Ai q11.1.decls)),(.sl (List.map A3 q11.1.funcs))]]⟩,⟨0,81,3,List.map (Aj 111 3) q15.1.decls⟩,⟨0,48,5,List.map (BB 3 44) q15.1.funcs⟩,⟨0,30,2,[[(.own 2 0 (List.length q15.1.decls)),(.own 3 0 (List.length q15.1.funcs))]]⟩]) (st1:=[⟨0,25,2,[[(.sl (List.map Ai p0.decls)),(.sl (List.map A3 p0.funcs))]]⟩,⟨0,30,2,[[(.sl (List.map Ai q11.1.decls)),(.sl (List.map A3 q11.1.funcs))]]⟩,⟨0,81,3,List.map (Aj 111 3) q15.1.decls⟩,⟨0,48,5,List.map (BB 3 44) q15.1.funcs⟩,⟨0,30,2,[[(.own 5 0 (List.length q15.1.decls)),(.own 6 0 (List.length q15.1.funcs))]]⟩]) [0,1,5,6,7] U .nil (by decide) rfl U (.raw U U (.raw U U (.deep (AL fun _=>U) (.deep (AL fun _=>U) (.raw U U .nil))))) (.same U)))
      ·refine zg tb b86 U (zg tb b86 U (zg tb b86 U (zf b86 U ?_)))
       exact AA (M38 (q15.2 != q11.2) (Sh.AB h1).symm _ (by refine Wk.trans (DG (st:=[⟨0,25,2,[[(.sl (List.map Ai p0.decls)),(.sl (List.map A3 p0.funcs))]]⟩,⟨0,30,2,[[(.sl (List.map Ai q11.1.decls)),(.sl (List.map A3 q11.1.funcs))]]⟩,⟨0,81,3,List.map (Aj 111 3) q32.2.1⟩,⟨0,48,5,List.map (BB 3 44) q32.2.2⟩,⟨0,30,2,[[(.own 2 0 (List.length q13.decls)),(.own 3 0 (List.length q13.funcs))]]⟩,⟨0,81,3,List.map (Aj 111 3) q15.1.decls⟩,⟨0,48,5,List.map (BB 3 44) q15.1.funcs⟩,⟨0,30,2,[[(.own 5 0 (List.length q15.1.decls)),(.own 6 0 (List.length q15.1.funcs))]]⟩]) (st':=[⟨0,25,2,[[(.sl (List.map Ai p0.decls)),(.sl (List.map A3 p0.funcs))]]⟩,⟨0,30,2,[[(.sl (List.map Ai q11.1.decls)),(.sl (List.map A3 q11.1.funcs))]]⟩,⟨0,81,3,List.map (Aj 111 3) q32.2.1⟩,⟨0,48,5,List.map (BB 3 44) q32.2.2⟩,⟨0,30,2,[[(.own 2 0 (List.length q32.2.1)),(.own 3 0 (List.length q32.2.2))]]⟩,⟨0,81,3,List.map (Aj 111 3) q15.1.decls⟩,⟨0,48,5,List.map (BB 3 44) q15.1.funcs⟩,⟨0,30,2,[[(.own 5 0 (List.length q15.1.decls)),(.own 6 0 (List.length q15.1.funcs))]]⟩]) (by first | (simp only[Sh.A7];done) | simp only[Sh.A7,ln33,ln34] | simp only[ln33,ln34])) ?_;exact A4 (L:=[(1,(.ptr 0 0 0 0)),(4,(.ptr 1 0 0 0)),(5,(.bool q11.2)),(7,(.ptr 4 0 0 0)),(61,(.bool (q15.2 != q11.2)))]) (st':=[⟨0,25,2,[[(.sl (List.map Ai p0.decls)),(.sl (List.map A3 p0.funcs))]]⟩,⟨0,30,2,[[(.sl (List.map Ai q11.1.decls)),(.sl (List.map A3 q11.1.funcs))]]⟩,⟨0,81,3,List.map (Aj 111 3) q15.1.decls⟩,⟨0,48,5,List.map (BB 3 44) q15.1.funcs⟩,⟨0,30,2,[[(.own 2 0 (List.length q15.1.decls)),(.own 3 0 (List.length q15.1.funcs))]]⟩]) (st1:=[⟨0,25,2,[[(.sl (List.map Ai p0.decls)),(.sl (List.map A3 p0.funcs))]]⟩,⟨0,30,2,[[(.sl (List.map Ai q11.1.decls)),(.sl (List.map A3 q11.1.funcs))]]⟩,⟨0,81,3,List.map (Aj 111 3) q15.1.decls⟩,⟨0,48,5,List.map (BB 3 44) q15.1.funcs⟩,⟨0,30,2,[[(.own 5 0 (List.length q15.1.decls)),(.own 6 0 (List.length q15.1.funcs))]]⟩]) [0,1,5,6,7] U .nil (by decide) rfl U (.raw U U (.raw U U (.deep (AL fun _=>U) (.deep (AL fun _=>U) (.raw U U .nil))))) (.same U)))
  refine AK U (zm tb 2 U (bs h1 fun q87 gq87 h1=>J8 (v':=(.bool q87)) Ah X7 (GU gq87) rfl (.agg (.ownD U U (fun _=>U) (fun x=>E1 x) (.ownD U U (fun _=>U) (fun x=>E2 x) .nil)) (.val U .nil)) rfl trivial U U (zm tb 2 U ?_)))
  rcases Sh.Au h1 with ⟨b88,h1⟩ | ⟨b88,h1⟩
  ·refine zs b88 U (zs b88 U (zs b88 U (zt b88 U ?_)))
   exact AA (M19 true (Sh.AB h1).symm _ (A4 (L:=[(1,Ar),(4,Ay),(5,(.bool q11.2)),(6,LG),(7,(.ptr 7 0 0 0)),(8,(.bool q15.2)),(40,(.bool true))]) (st':=[(T1 p0.decls p0.funcs),(Mj q11.1.decls q11.1.funcs),(ro 0 81 3 (Aj 111 3) q13.decls),(Ny q13),⟨0,30,2,[[(ow 2 0 q13.decls),(ow 3 0 q13.funcs)]]⟩,(EC q15.1.decls),(CA q15.1.funcs),⟨0,30,2,[[(ow 5 0 q15.1.decls),(ow 6 0 q15.1.funcs)]]⟩]) (st1:=[(T1 p0.decls p0.funcs),(Mj q11.1.decls q11.1.funcs),(ro 0 81 3 (Aj 111 3) q13.decls),(Ny q13),⟨0,30,2,[[(ow 4 0 q13.decls),(ow 5 0 q13.funcs)]]⟩,(EC q15.1.decls),(CA q15.1.funcs),⟨0,30,2,[[(ow 7 0 q15.1.decls),(ow 8 0 q15.1.funcs)]]⟩]) [0,3,4,5,6,7,8,9] U .nil (by decide) rfl U (.raw U U (.raw U U (.deep (AL fun _=>U) (.deep (AL fun _=>U) (.raw U U (.deep (AL fun _=>U) (.deep (AL fun _=>U) (.raw U U .nil)))))))) (.same U)))
  ·refine zg tb b88 U (zg tb b88 U (zg tb b88 U (zf b88 U ?_)))
   exact AA (M19 (q15.2 != q11.2) (Sh.AB h1).symm _ (A4 (L:=[(1,Ar),(4,Ay),(5,(.bool q11.2)),(6,LG),(7,(.ptr 7 0 0 0)),(8,(.bool q15.2)),(40,(.bool (q15.2 != q11.2)))]) (st':=[(T1 p0.decls p0.funcs),(Mj q11.1.decls q11.1.funcs),(ro 0 81 3 (Aj 111 3) q13.decls),(Ny q13),⟨0,30,2,[[(ow 2 0 q13.decls),(ow 3 0 q13.funcs)]]⟩,(EC q15.1.decls),(CA q15.1.funcs),⟨0,30,2,[[(ow 5 0 q15.1.decls),(ow 6 0 q15.1.funcs)]]⟩]) (st1:=[(T1 p0.decls p0.funcs),(Mj q11.1.decls q11.1.funcs),(ro 0 81 3 (Aj 111 3) q13.decls),(Ny q13),⟨0,30,2,[[(ow 4 0 q13.decls),(ow 5 0 q13.funcs)]]⟩,(EC q15.1.decls),(CA q15.1.funcs),⟨0,30,2,[[(ow 7 0 q15.1.decls),(ow 8 0 q15.1.funcs)]]⟩]) [0,3,4,5,6,7,8,9] U .nil (by decide) rfl U (.raw U U (.raw U U (.deep (AL fun _=>U) (.deep (AL fun _=>U) (.raw U U (.deep (AL fun _=>U) (.deep (AL fun _=>U) (.raw U U .nil)))))))) (.same U)))
end Go.Proofs.YtpahalfiiahddaaGreat

