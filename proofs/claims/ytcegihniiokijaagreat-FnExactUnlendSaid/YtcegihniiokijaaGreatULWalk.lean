import Derived.Test.YtcegihniiokijaaGreatProg
import Derived.Test.YtcegihniiokijaaGreatGEncCToULDefs
import Derived.Test.YtcegihniiokijaaGreatCLWalk
import Derived.Test.YtcegihniiokijaaGreatULWalkP3
namespace Go.Proofs.YtcegihniiokijaaGreat
open Go Go.Abs RC
attribute [local irreducible] Go.Abs.Cc
set_option maxRecDepth 100000
set_option maxHeartbeats 4000000

theorem WZ:Aq Tryz.prog 10=true:=by kernel_rfl
theorem WR:Aq Tryz.prog 12=true:=by kernel_rfl
theorem aS:Aq Tryz.prog 13=true:=by kernel_rfl
theorem aM:Aq Tryz.prog 14=true:=by kernel_rfl
theorem av:Aq Tryz.prog 141=true:=by kernel_rfl
theorem X5:Aq Tryz.prog 142=true:=by kernel_rfl
theorem bY:Aq Tryz.prog 143=true:=by kernel_rfl
theorem cT:Aq Tryz.prog 144=true:=by kernel_rfl
theorem bd:Aq Tryz.prog 187=true:=by kernel_rfl
theorem cQ:Aq Tryz.prog 188=true:=by kernel_rfl
theorem Wb:Aq Tryz.prog 19=true:=by kernel_rfl
theorem WS:Aq Tryz.prog 20=true:=by kernel_rfl
theorem Wn:Aq Tryz.prog 21=true:=by kernel_rfl
theorem bm:Aq Tryz.prog 211=true:=by kernel_rfl
theorem cl:Aq Tryz.prog 22=true:=by kernel_rfl
theorem aF:Aq Tryz.prog 23=true:=by kernel_rfl
theorem bI:Aq Tryz.prog 231=true:=by kernel_rfl
theorem dW:Aq Tryz.prog 41=true:=by kernel_rfl
theorem cd:Aq Tryz.prog 42=true:=by kernel_rfl
theorem ct:Aq Tryz.prog 43=true:=by kernel_rfl
theorem dZ:Aq Tryz.prog 44=true:=by kernel_rfl
theorem dH:Aq Tryz.prog 45=true:=by kernel_rfl
theorem dR:Aq Tryz.prog 46=true:=by kernel_rfl
theorem dx:Aq Tryz.prog 8=true:=by kernel_rfl
theorem dQ:Aq Tryz.prog 89=true:=by kernel_rfl
theorem cu:Aq Tryz.prog 90=true:=by kernel_rfl
theorem dO:Aq Tryz.prog 91=true:=by kernel_rfl
theorem aY:Aq Tryz.prog 92=true:=by kernel_rfl
theorem ck:Aq Tryz.prog 93=true:=by kernel_rfl
theorem aZ:Aq Tryz.prog 94=true:=by kernel_rfl
theorem dj:CI Tryz.prog 53=true:=by kernel_rfl

theorem H0 {N:Nat} {p0:(List Int)} {p1:(List Int)} {r:Bool} (h0:Fg N p0 p1=some r):Ae Tryz.prog 19 [(ls eI p0),(ls eI p1)] [] (fun v st=>v=(.bool r)∧st=[]):=by
 unfold Fg at h0
 refine ai Tryz.func19 U U U U (zr tb U U (AE fun K2 hK2=>sr U fun K3 hK3=>zq tb U (zl tb U U (zq tb U (zl tb U U (zq tb U (dn hK3 U ?_)))))))
 refine ci h0 U ?_ ?_ <;> clear h0
 ·intro b4 h0
  have b5:decide ((Sh.len p0)=(Sh.len p1))=false:=by simpa using b4
  refine zr tb U U ?_
  replace h0:=Sh.AA h0
  subst r
  exact AK (xr (AF (L:=[(4,(.bool false))]) ⟨.rfl,trivial⟩))
 ·intro b4 h0
  have b7:decide ((Sh.len p0)=(Sh.len p1))=true:=by simpa using b4
  refine AI (hK2 _ (AE fun K8 hK8=>zr tb U U ?_))
  obtain⟨o11,h1,h0⟩:=Sh.A8 h0
  have M11 :∀(_:Unit),o11=Sum.inr ()→∀s,Wk 0 s ⟨26,Ad [],[]⟩→K8 s:=by
   intro _ hq s hw
   subst o11
   try dsimp only at h0
   refine hK8 _ (AS hw (zr tb U U ?_))
   replace h0:=Sh.AA h0
   subst r
   exact AK (xr (AF (L:=[(4,(.bool true))]) ⟨.rfl,trivial⟩))
  refine Aa (Au (σ:=Int) (fun n v=>D6 p0 p1 n v=some o11) (fun i10=>⟨26,Ad [(0,(ls eI p0)),(1,(ls eI p1)),(5,(i64 i10))],[]⟩) N 0 h1 (AN U) (fun _ hv=>by rw[D6] at hv;cases hv) ?_)
  rintro n i10 h1
  try dsimp only at h1 ⊢
  rw[D6] at h1
  refine AE fun K13 hK13=>sr U fun K14 hK14=>zm tb 2 U (zl tb U U (zq tb U (dn hK14 U ?_)))
  refine ci h1 U ?_ ?_ <;> clear h1
  ·intro b15 h1
   refine AI (hK13 _ (AE fun K16 hK16=>Aa (AE fun K17 hK17=>?_)))
   refine Bz (by kernel_rfl) (by kernel_rfl) (by rfl) ?_
   iterate 2 refine yq tb rfl ?_
   refine bs h1 fun c18 gc18 h1=>yx BN gc18 U U U ?_
   iterate 3 refine yq tb rfl ?_
   refine bs h1 fun c19 gc19 h1=>yx BN gc19 U U U ?_
   iterate 2 refine yq tb rfl ?_
   refine BS (hK17 _ ?_)
   refine ci h1 U ?_ ?_ <;> clear h1
   ·intro b20 h1
    have b21:decide (c18=c19)=false:=by simpa using b20
    refine zr tb U U ?_
    replace h1:=Sh.AA h1
    subst o11
    try dsimp only[id] at h0
    replace h0:=Sh.AA h0
    subst r
    exact AK (xr (AF (L:=[(4,(.bool false))]) ⟨.rfl,trivial⟩))
   ·intro b20 h1
    have b23:decide (c18=c19)=true:=by simpa using b20
    exact AI (hK16 _ (AJ U (zm tb 3 U (AB (xi (Sh.w (i10+1)) h1 (AN U))))))
  ·intro b15 h1
   exact Ay (M11 () (Sh.AA h1).symm _ (AN U))
theorem SJ {N:Nat} {p0:BO} {p1:BO} {r:Bool} (h0:JU N p0 p1=some r):Ae Tryz.prog 187 [(.agg (Ar p0)),(.agg (Ar p1))] [] (fun v st=>v=(.bool r)∧st=[]):=by
 unfold JU at h0
 refine ai Tryz.func187 U U U U (sr U fun K1 hK1=>BI (m:=0) (st':=[⟨0,134,1,[(Ar p0)]⟩]) Ah U U U U U (BI (m:=1) (st':=[⟨0,134,1,[(Ar p0)]⟩,⟨0,134,1,[(Ar p1)]⟩]) Ah U U U U U (zq tb U (dn hK1 U (AE fun K2 hK2=>sr U fun K3 hK3=>zm tb 4 U (bs h0 fun q4 gq4 h0=>zc Wb (H0 gq4) rfl U U (zq tb U ?_)))))))
 refine dn hK3 U ?_
 refine ci h0 U ?_ ?_ <;> clear h0
 ·intro b5 h0
  have b6:q4=false:=by simpa using b5
  refine zr tb U U ?_
  replace h0:=Sh.AA h0
  subst r
  exact AK (xr (Ai [(4,(.bool false))] U))
 ·intro b5 h0
  have b8:q4=true:=by simpa using b5
  refine AI (hK2 _ (zr tb U U ?_))
  replace h0:=Sh.AA h0
  subst r
  exact AK (xr (Ai [(4,(.bool true))] U))
theorem Qp {N:Nat} {p0:(List BO)} {p1:(List BO)} {r:Bool} (h0:IN N p0 p1=some r):Ae Tryz.prog 141 [(ls Ar p0),(ls Ar p1)] [] (fun v st=>v=(.bool r)∧st=[]):=by
 unfold IN at h0
 refine ai Tryz.func141 U U U U (zr tb U U (AE fun K2 hK2=>sr U fun K3 hK3=>zq tb U (zl tb U U (zq tb U (zl tb U U (zq tb U (dn hK3 U ?_)))))))
 refine ci h0 U ?_ ?_ <;> clear h0
 ·intro b4 h0
  have b5:decide ((Sh.len p0)=(Sh.len p1))=false:=by simpa using b4
  refine zr tb U U ?_
  replace h0:=Sh.AA h0
  subst r
  exact AK (xr (AF (L:=[(4,(.bool false))]) ⟨.rfl,trivial⟩))
 ·intro b4 h0
  have b7:decide ((Sh.len p0)=(Sh.len p1))=true:=by simpa using b4
  refine AI (hK2 _ (AE fun K8 hK8=>zr tb U U ?_))
  obtain⟨o11,h1,h0⟩:=Sh.A8 h0
  have M11 :∀(_:Unit),o11=Sum.inr ()→∀s,Wk 0 s ⟨27,Ad [],[]⟩→K8 s:=by
   intro _ hq s hw
   subst o11
   try dsimp only at h0
   refine hK8 _ (AS hw (zr tb U U ?_))
   replace h0:=Sh.AA h0
   subst r
   exact AK (xr (AF (L:=[(4,(.bool true))]) ⟨.rfl,trivial⟩))
  refine Aa (Au (σ:=Int) (fun n v=>EW N p0 p1 n v=some o11) (fun i10=>⟨27,Ad [(0,(ls Ar p0)),(1,(ls Ar p1)),(5,(i64 i10))],[]⟩) N 0 h1 (AN U) (fun _ hv=>by rw[EW] at hv;cases hv) ?_)
  rintro n i10 h1
  try dsimp only at h1 ⊢
  rw[EW] at h1
  refine AE fun K13 hK13=>sr U fun K14 hK14=>zm tb 2 U (zl tb U U (zq tb U (dn hK14 U ?_)))
  refine ci h1 U ?_ ?_ <;> clear h1
  ·intro b15 h1
   refine AI (hK13 _ (AE fun K16 hK16=>Aa (AE fun K17 hK17=>?_)))
   refine Bz (by kernel_rfl) (by kernel_rfl) (by rfl) ?_
   iterate 2 refine yq tb rfl ?_
   refine bs h1 fun c18 gc18 h1=>yx IC gc18 U U U ?_
   iterate 3 refine yq tb rfl ?_
   refine bs h1 fun c19 gc19 h1=>yx IC gc19 U U U (yq tb U (bs h1 fun q20 gq20 h1=>CR (v:=(.bool q20)) Ah bd (SJ gq20) rfl U U (yq tb U (BS (hK17 _ ?_)))))
   refine ci h1 U ?_ ?_ <;> clear h1
   ·intro b21 h1
    have b22:q20=false:=by simpa using b21
    refine zr tb U U ?_
    replace h1:=Sh.AA h1
    subst o11
    try dsimp only[id] at h0
    replace h0:=Sh.AA h0
    subst r
    exact AK (xr (AF (L:=[(4,(.bool false))]) ⟨.rfl,trivial⟩))
   ·intro b21 h1
    have b24:q20=true:=by simpa using b21
    exact AI (hK16 _ (AJ U (zm tb 3 U (AB (xi (Sh.w (i10+1)) h1 (AN U))))))
  ·intro b15 h1
   exact Ay (M11 () (Sh.AA h1).symm _ (AN U))
theorem Qv {N:Nat} {p0:Ag} {p1:Ag} {r:Bool} (h0:IU N p0 p1=some r):Ae Tryz.prog 89 [(.agg (AG p0)),(.agg (AG p1))] [] (fun v st=>v=(.bool r)∧st=[]):=by
 unfold IU at h0
 refine ai Tryz.func89 U U U U (sr U fun K1 hK1=>BI (m:=0) (st':=[⟨0,98,3,[(AG p0)]⟩]) Ah U U U U U (BI (m:=1) (st':=[⟨0,98,3,[(AG p0)]⟩,⟨0,98,3,[(AG p1)]⟩]) Ah U U U U U (zq tb U (dn hK1 U (AE fun K2 hK2=>zr tb U U ?_)))))
 refine ci h0 U ?_ ?_ <;> clear h0
 ·intro b4 h0
  have b5:decide (p0.from_=p1.from_)=false:=by simpa using b4
  refine zr tb U U ?_
  replace h0:=Sh.AA h0
  subst r
  exact AK (xr (Ai [(4,(.bool false))] U))
 ·intro b4 h0
  have b7:decide (p0.from_=p1.from_)=true:=by simpa using b4
  refine AI (hK2 _ (AE fun K8 hK8=>zr tb U U ?_))
  refine ci h0 U ?_ ?_ <;> clear h0
  ·intro b10 h0
   have b11:decide (p0.to=p1.to)=false:=by simpa using b10
   refine zr tb U U ?_
   replace h0:=Sh.AA h0
   subst r
   exact AK (xr (Ai [(4,(.bool false))] U))
  ·intro b10 h0
   have b13:decide (p0.to=p1.to)=true:=by simpa using b10
   refine AI (hK8 _ (AE fun K14 hK14=>sr U fun K15 hK15=>zm tb 4 U (bs h0 fun q16 gq16 h0=>zc av (Qp gq16) rfl U U (zq tb U (dn hK15 U ?_)))))
   refine ci h0 U ?_ ?_ <;> clear h0
   ·intro b17 h0
    have b18:q16=false:=by simpa using b17
    refine zr tb U U ?_
    replace h0:=Sh.AA h0
    subst r
    exact AK (xr (Ai [(4,(.bool false))] U))
   ·intro b17 h0
    have b20:q16=true:=by simpa using b17
    refine AI (hK14 _ (zr tb U U ?_))
    replace h0:=Sh.AA h0
    subst r
    exact AK (xr (Ai [(4,(.bool true))] U))
theorem P0 {N:Nat} {p0:(List Ag)} {p1:(List Ag)} {r:Bool} (h0:HY N p0 p1=some r):Ae Tryz.prog 41 [(ls AG p0),(ls AG p1)] [] (fun v st=>v=(.bool r)∧st=[]):=by
 unfold HY at h0
 refine ai Tryz.func41 U U U U (zr tb U U (AE fun K2 hK2=>sr U fun K3 hK3=>zq tb U (zl tb U U (zq tb U (zl tb U U (zq tb U (dn hK3 U ?_)))))))
 refine ci h0 U ?_ ?_ <;> clear h0
 ·intro b4 h0
  have b5:decide ((Sh.len p0)=(Sh.len p1))=false:=by simpa using b4
  refine zr tb U U ?_
  replace h0:=Sh.AA h0
  subst r
  exact AK (xr (AF (L:=[(4,(.bool false))]) ⟨.rfl,trivial⟩))
 ·intro b4 h0
  have b7:decide ((Sh.len p0)=(Sh.len p1))=true:=by simpa using b4
  refine AI (hK2 _ (AE fun K8 hK8=>zr tb U U ?_))
  obtain⟨o11,h1,h0⟩:=Sh.A8 h0
  have M11 :∀(_:Unit),o11=Sum.inr ()→∀s,Wk 0 s ⟨27,Ad [],[]⟩→K8 s:=by
   intro _ hq s hw
   subst o11
   try dsimp only at h0
   refine hK8 _ (AS hw (zr tb U U ?_))
   replace h0:=Sh.AA h0
   subst r
   exact AK (xr (AF (L:=[(4,(.bool true))]) ⟨.rfl,trivial⟩))
  refine Aa (Au (σ:=Int) (fun n v=>EG N p0 p1 n v=some o11) (fun i10=>⟨27,Ad [(0,(ls AG p0)),(1,(ls AG p1)),(5,(i64 i10))],[]⟩) N 0 h1 (AN U) (fun _ hv=>by rw[EG] at hv;cases hv) ?_)
  rintro n i10 h1
  try dsimp only at h1 ⊢
  rw[EG] at h1
  refine AE fun K13 hK13=>sr U fun K14 hK14=>zm tb 2 U (zl tb U U (zq tb U (dn hK14 U ?_)))
  refine ci h1 U ?_ ?_ <;> clear h1
  ·intro b15 h1
   refine AI (hK13 _ (AE fun K16 hK16=>Aa (AE fun K17 hK17=>?_)))
   refine Bz (by kernel_rfl) (by kernel_rfl) (by rfl) ?_
   iterate 2 refine yq tb rfl ?_
   refine bs h1 fun c18 gc18 h1=>yx DA gc18 U U U ?_
   iterate 3 refine yq tb rfl ?_
   refine bs h1 fun c19 gc19 h1=>yx DA gc19 U U U (yq tb U (bs h1 fun q20 gq20 h1=>CR (v:=(.bool q20)) Ah dQ (Qv gq20) rfl U U (yq tb U (BS (hK17 _ ?_)))))
   refine ci h1 U ?_ ?_ <;> clear h1
   ·intro b21 h1
    have b22:q20=false:=by simpa using b21
    refine zr tb U U ?_
    replace h1:=Sh.AA h1
    subst o11
    try dsimp only[id] at h0
    replace h0:=Sh.AA h0
    subst r
    exact AK (xr (AF (L:=[(4,(.bool false))]) ⟨.rfl,trivial⟩))
   ·intro b21 h1
    have b24:q20=true:=by simpa using b21
    exact AI (hK16 _ (AJ U (zm tb 3 U (AB (xi (Sh.w (i10+1)) h1 (AN U))))))
  ·intro b15 h1
   exact Ay (M11 () (Sh.AA h1).symm _ (AN U))
theorem Ox {N:Nat} {rec_laws_eqBlock:Block→Block→Option (Bool)} (hrec_laws_eqBlock :∀{p0:Block} {p1:Block} {r:Bool},rec_laws_eqBlock p0 p1=some r→Ae Tryz.prog 142 [(.agg [(ls Al p0.steps),(i64 p0.result)]),(.agg [(ls Al p1.steps),(i64 p1.result)])] [] (fun v st=>v=(.bool r)∧st=[])) {p0:(List Block)} {p1:(List Block)} {r:Bool} (h0:IH N rec_laws_eqBlock p0 p1=some r):Ae Tryz.prog 231 [(ls A2 p0),(ls A2 p1)] [] (fun v st=>v=(.bool r)∧st=[]):=by
 unfold IH at h0
 refine ai Tryz.func231 U U U U (zr tb U U (AE fun K2 hK2=>sr U fun K3 hK3=>zq tb U (zl tb U U (zq tb U (zl tb U U (zq tb U (dn hK3 U ?_)))))))
 refine ci h0 U ?_ ?_ <;> clear h0
 ·intro b4 h0
  have b5:decide ((Sh.len p0)=(Sh.len p1))=false:=by simpa using b4
  refine zr tb U U ?_
  replace h0:=Sh.AA h0
  subst r
  exact AK (xr (AF (L:=[(4,(.bool false))]) ⟨.rfl,trivial⟩))
 ·intro b4 h0
  have b7:decide ((Sh.len p0)=(Sh.len p1))=true:=by simpa using b4
  refine AI (hK2 _ (AE fun K8 hK8=>zr tb U U ?_))
  obtain⟨o11,h1,h0⟩:=Sh.A8 h0
  have M11 :∀(_:Unit),o11=Sum.inr ()→∀s,Wk 0 s ⟨27,Ad [],[]⟩→K8 s:=by
   intro _ hq s hw
   subst o11
   try dsimp only at h0
   refine hK8 _ (AS hw (zr tb U U ?_))
   replace h0:=Sh.AA h0
   subst r
   exact AK (xr (AF (L:=[(4,(.bool true))]) ⟨.rfl,trivial⟩))
  refine Aa (Au (σ:=Int) (fun n v=>DI p0 p1 rec_laws_eqBlock n v=some o11) (fun i10=>⟨27,Ad [(0,(ls A2 p0)),(1,(ls A2 p1)),(5,(i64 i10))],[]⟩) N 0 h1 (AN U) (fun _ hv=>by rw[DI] at hv;cases hv) ?_)
  rintro n i10 h1
  try dsimp only at h1 ⊢
  rw[DI] at h1
  refine AE fun K13 hK13=>sr U fun K14 hK14=>zm tb 2 U (zl tb U U (zq tb U (dn hK14 U ?_)))
  refine ci h1 U ?_ ?_ <;> clear h1
  ·intro b15 h1
   refine AI (hK13 _ (AE fun K16 hK16=>Aa (AE fun K17 hK17=>?_)))
   refine Bz (by kernel_rfl) (by kernel_rfl) (by rfl) ?_
   iterate 2 refine yq tb rfl ?_
   refine bs h1 fun c18 gc18 h1=>yx Hi gc18 U U U ?_
   iterate 3 refine yq tb rfl ?_
   refine bs h1 fun c19 gc19 h1=>yx Hi gc19 U U U (yq tb U (bs h1 fun q20 gq20 h1=>CR (v:=(.bool q20)) Ah X5 (hrec_laws_eqBlock gq20) rfl U U (yq tb U (BS (hK17 _ ?_)))))
   refine ci h1 U ?_ ?_ <;> clear h1
   ·intro b21 h1
    have b22:q20=false:=by simpa using b21
    refine zr tb U U ?_
    replace h1:=Sh.AA h1
    subst o11
    try dsimp only[id] at h0
    replace h0:=Sh.AA h0
    subst r
    exact AK (xr (AF (L:=[(4,(.bool false))]) ⟨.rfl,trivial⟩))
   ·intro b21 h1
    have b24:q20=true:=by simpa using b21
    exact AI (hK16 _ (AJ U (zm tb 3 U (AB (xi (Sh.w (i10+1)) h1 (AN U))))))
  ·intro b15 h1
   exact Ay (M11 () (Sh.AA h1).symm _ (AN U))
noncomputable abbrev dF (p0:Step):Go.Abs.Row:=⟨0,71,5,[[(i64 p0.op),(i64 p0.num),(i64 p0.Ax),(ls eI p0.args),(ls A2 p0.kids)]]⟩
theorem Q1 {N:Nat} {rec_laws_eqBlock:Block→Block→Option (Bool)} (hrec_laws_eqBlock :∀{p0:Block} {p1:Block} {r:Bool},rec_laws_eqBlock p0 p1=some r→Ae Tryz.prog 142 [(.agg [(ls Al p0.steps),(i64 p0.result)]),(.agg [(ls Al p1.steps),(i64 p1.result)])] [] (fun v st=>v=(.bool r)∧st=[])) {p0:Step} {p1:Step} {r:Bool} (h0:IG N rec_laws_eqBlock p0 p1=some r):Ae Tryz.prog 211 [(.agg [(i64 p0.op),(i64 p0.num),(i64 p0.Ax),(ls eI p0.args),(ls A2 p0.kids)]),(.agg [(i64 p1.op),(i64 p1.num),(i64 p1.Ax),(ls eI p1.args),(ls A2 p1.kids)])] [] (fun v st=>v=(.bool r)∧st=[]):=by
 unfold IG at h0
 refine ai Tryz.func211 U U U U (sr U fun K1 hK1=>BI (m:=0) (st':=[(dF p0)]) Ah U U U U U (BI (m:=1) (st':=[(dF p0),⟨0,71,5,[[(i64 p1.op),(i64 p1.num),(i64 p1.Ax),(ls eI p1.args),(ls A2 p1.kids)]]⟩]) Ah U U U U U (zq tb U (dn hK1 U (AE fun K2 hK2=>zr tb U U ?_)))))
 refine ci h0 U ?_ ?_ <;> clear h0
 ·intro b4 h0
  have b5:decide (p0.op=p1.op)=false:=by simpa using b4
  refine zr tb U U ?_
  replace h0:=Sh.AA h0
  subst r
  exact AK (xr (Ai [(4,(.bool false))] U))
 ·intro b4 h0
  have b7:decide (p0.op=p1.op)=true:=by simpa using b4
  refine AI (hK2 _ (AE fun K8 hK8=>zr tb U U ?_))
  refine ci h0 U ?_ ?_ <;> clear h0
  ·intro b10 h0
   have b11:decide (p0.num=p1.num)=false:=by simpa using b10
   refine zr tb U U ?_
   replace h0:=Sh.AA h0
   subst r
   exact AK (xr (Ai [(4,(.bool false))] U))
  ·intro b10 h0
   have b13:decide (p0.num=p1.num)=true:=by simpa using b10
   refine AI (hK8 _ (AE fun K14 hK14=>zr tb U U ?_))
   refine ci h0 U ?_ ?_ <;> clear h0
   ·intro b16 h0
    have b17:decide (p0.Ax=p1.Ax)=false:=by simpa using b16
    refine zr tb U U ?_
    replace h0:=Sh.AA h0
    subst r
    exact AK (xr (Ai [(4,(.bool false))] U))
   ·intro b16 h0
    have b19:decide (p0.Ax=p1.Ax)=true:=by simpa using b16
    refine AI (hK14 _ (AE fun K20 hK20=>sr U fun K21 hK21=>zm tb 4 U (bs h0 fun q22 gq22 h0=>zc Wb (H0 gq22) rfl U U (zq tb U (dn hK21 U ?_)))))
    refine ci h0 U ?_ ?_ <;> clear h0
    ·intro b23 h0
     have b24:q22=false:=by simpa using b23
     refine zr tb U U ?_
     replace h0:=Sh.AA h0
     subst r
     exact AK (xr (Ai [(4,(.bool false))] U))
    ·intro b23 h0
     have b26:q22=true:=by simpa using b23
     refine AI (hK20 _ (AE fun K27 hK27=>sr U fun K28 hK28=>zm tb 4 U (bs h0 fun q29 gq29 h0=>zc bI (Ox hrec_laws_eqBlock gq29) rfl U U (zq tb U (dn hK28 U ?_)))))
     refine ci h0 U ?_ ?_ <;> clear h0
     ·intro b30 h0
      have b31:q29=false:=by simpa using b30
      refine zr tb U U ?_
      replace h0:=Sh.AA h0
      subst r
      exact AK (xr (Ai [(4,(.bool false))] U))
     ·intro b30 h0
      have b33:q29=true:=by simpa using b30
      refine AI (hK27 _ (zr tb U U ?_))
      replace h0:=Sh.AA h0
      subst r
      exact AK (xr (Ai [(4,(.bool true))] U))
theorem Pg {N:Nat} {rec_laws_eqBlock:Block→Block→Option (Bool)} (hrec_laws_eqBlock :∀{p0:Block} {p1:Block} {r:Bool},rec_laws_eqBlock p0 p1=some r→Ae Tryz.prog 142 [(.agg [(ls Al p0.steps),(i64 p0.result)]),(.agg [(ls Al p1.steps),(i64 p1.result)])] [] (fun v st=>v=(.bool r)∧st=[])) {p0:(List Step)} {p1:(List Step)} {r:Bool} (h0:JD N rec_laws_eqBlock p0 p1=some r):Ae Tryz.prog 188 [(ls Al p0),(ls Al p1)] [] (fun v st=>v=(.bool r)∧st=[]):=by
 unfold JD at h0
 refine ai Tryz.func188 U U U U (zr tb U U (AE fun K2 hK2=>sr U fun K3 hK3=>zq tb U (zl tb U U (zq tb U (zl tb U U (zq tb U (dn hK3 U ?_)))))))
 refine ci h0 U ?_ ?_ <;> clear h0
 ·intro b4 h0
  have b5:decide ((Sh.len p0)=(Sh.len p1))=false:=by simpa using b4
  refine zr tb U U ?_
  replace h0:=Sh.AA h0
  subst r
  exact AK (xr (AF (L:=[(4,(.bool false))]) ⟨.rfl,trivial⟩))
 ·intro b4 h0
  have b7:decide ((Sh.len p0)=(Sh.len p1))=true:=by simpa using b4
  refine AI (hK2 _ (AE fun K8 hK8=>zr tb U U ?_))
  obtain⟨o11,h1,h0⟩:=Sh.A8 h0
  have M11 :∀(_:Unit),o11=Sum.inr ()→∀s,Wk 0 s ⟨27,Ad [],[]⟩→K8 s:=by
   intro _ hq s hw
   subst o11
   try dsimp only at h0
   refine hK8 _ (AS hw (zr tb U U ?_))
   replace h0:=Sh.AA h0
   subst r
   exact AK (xr (AF (L:=[(4,(.bool true))]) ⟨.rfl,trivial⟩))
  refine Aa (Au (σ:=Int) (fun n v=>Dc N p0 p1 rec_laws_eqBlock n v=some o11) (fun i10=>⟨27,Ad [(0,(ls Al p0)),(1,(ls Al p1)),(5,(i64 i10))],[]⟩) N 0 h1 (AN U) (fun _ hv=>by rw[Dc] at hv;cases hv) ?_)
  rintro n i10 h1
  try dsimp only at h1 ⊢
  rw[Dc] at h1
  refine AE fun K13 hK13=>sr U fun K14 hK14=>zm tb 2 U (zl tb U U (zq tb U (dn hK14 U ?_)))
  refine ci h1 U ?_ ?_ <;> clear h1
  ·intro b15 h1
   refine AI (hK13 _ (AE fun K16 hK16=>Aa (AE fun K17 hK17=>?_)))
   refine Bz (by kernel_rfl) (by kernel_rfl) (by rfl) ?_
   iterate 2 refine yq tb rfl ?_
   refine bs h1 fun c18 gc18 h1=>yz (.BF [(i64 c18.op),(i64 c18.num),(i64 c18.Ax),(ls eI c18.args),(ls A2 c18.kids)] 0) (Di FD U U gc18 (Bw _) rfl) rfl ?_
   iterate 3 refine yq tb rfl ?_
   refine bs h1 fun c19 gc19 h1=>yz (.BF [(i64 c19.op),(i64 c19.num),(i64 c19.Ax),(ls eI c19.args),(ls A2 c19.kids)] 0) (Di FD U U gc19 (Bw _) rfl) rfl (yq tb U (bs h1 fun q20 gq20 h1=>CR (v:=(.bool q20)) Ah bm (Q1 hrec_laws_eqBlock gq20) rfl U U (yq tb U (BS (hK17 _ ?_)))))
   refine ci h1 U ?_ ?_ <;> clear h1
   ·intro b21 h1
    have b22:q20=false:=by simpa using b21
    refine zr tb U U ?_
    replace h1:=Sh.AA h1
    subst o11
    try dsimp only[id] at h0
    replace h0:=Sh.AA h0
    subst r
    exact AK (xr (AF (L:=[(4,(.bool false))]) ⟨.rfl,trivial⟩))
   ·intro b21 h1
    have b24:q20=true:=by simpa using b21
    exact AI (hK16 _ (AJ U (zm tb 3 U (AB (xi (Sh.w (i10+1)) h1 (AN U))))))
  ·intro b15 h1
   exact Ay (M11 () (Sh.AA h1).symm _ (AN U))
theorem OD {N:Nat} {rec_laws_eqBlock:Block→Block→Option (Bool)} (hrec_laws_eqBlock :∀{p0:Block} {p1:Block} {r:Bool},rec_laws_eqBlock p0 p1=some r→Ae Tryz.prog 142 [(.agg [(ls Al p0.steps),(i64 p0.result)]),(.agg [(ls Al p1.steps),(i64 p1.result)])] [] (fun v st=>v=(.bool r)∧st=[])) {p0:Block} {p1:Block} {r:Bool} (h0:Ho N rec_laws_eqBlock p0 p1=some r):Ae Tryz.prog 142 [(.agg [(ls Al p0.steps),(i64 p0.result)]),(.agg [(ls Al p1.steps),(i64 p1.result)])] [] (fun v st=>v=(.bool r)∧st=[]):=by
 unfold Ho at h0
 refine ai Tryz.func142 U U U U (sr U fun K1 hK1=>BI (m:=0) (st':=[⟨0,55,2,[[(ls Al p0.steps),(i64 p0.result)]]⟩]) Ah U U U U U (BI (m:=1) (st':=[⟨0,55,2,[[(ls Al p0.steps),(i64 p0.result)]]⟩,⟨0,55,2,[[(ls Al p1.steps),(i64 p1.result)]]⟩]) Ah U U U U U (zq tb U (dn hK1 U (AE fun K2 hK2=>sr U fun K3 hK3=>zm tb 4 U (bs h0 fun q4 gq4 h0=>zc cQ (Pg hrec_laws_eqBlock gq4) rfl U U (zq tb U ?_)))))))
 refine dn hK3 U ?_
 refine ci h0 U ?_ ?_ <;> clear h0
 ·intro b5 h0
  have b6:q4=false:=by simpa using b5
  refine zr tb U U ?_
  replace h0:=Sh.AA h0
  subst r
  exact AK (xr (Ai [(4,(.bool false))] U))
 ·intro b5 h0
  have b8:q4=true:=by simpa using b5
  refine AI (hK2 _ (AE fun K9 hK9=>zr tb U U ?_))
  refine ci h0 U ?_ ?_ <;> clear h0
  ·intro b11 h0
   have b12:decide (p0.result=p1.result)=false:=by simpa using b11
   refine zr tb U U ?_
   replace h0:=Sh.AA h0
   subst r
   exact AK (xr (Ai [(4,(.bool false))] U))
  ·intro b11 h0
   have b14:decide (p0.result=p1.result)=true:=by simpa using b11
   refine AI (hK9 _ (zr tb U U ?_))
   replace h0:=Sh.AA h0
   subst r
   exact AK (xr (Ai [(4,(.bool true))] U))

theorem Oe {N:Nat} :∀(n:Nat),∀{p0:Block} {p1:Block} {r:Bool},E3 N n p0 p1=some r→Ae Tryz.prog 142 [(.agg [(ls Al p0.steps),(i64 p0.result)]),(.agg [(ls Al p1.steps),(i64 p1.result)])] [] (fun v st=>v=(.bool r)∧st=[]):=by
 intro n
 induction n with
 | zero=>intro p0 p1 r h0;cases h0
 | succ n ih=>
  intro p0 p1 r h0
  rw[E3] at h0
  exact OD (fun h=>ih h) h0
theorem Px {N:Nat} :∀{p0:Block} {p1:Block} {r:Bool},JF N p0 p1=some r→Ae Tryz.prog 142 [(.agg [(ls Al p0.steps),(i64 p0.result)]),(.agg [(ls Al p1.steps),(i64 p1.result)])] [] (fun v st=>v=(.bool r)∧st=[]):=by
 intro p0 p1 r h0
 exact Oe N h0
noncomputable abbrev dY (p0:Ac):Go.Abs.Row:=⟨0,57,5,[[(ls eI p0.params),(ls eI p0.At),(i64 p0.result),(ls Al p0.body.steps),(i64 p0.body.result)]]⟩
theorem OT {N:Nat} {p0:Ac} {p1:Ac} {r:Bool} (h0:Gg N p0 p1=some r):Ae Tryz.prog 90 [(.agg [(ls eI p0.params),(ls eI p0.At),(i64 p0.result),(ls Al p0.body.steps),(i64 p0.body.result)]),(.agg [(ls eI p1.params),(ls eI p1.At),(i64 p1.result),(ls Al p1.body.steps),(i64 p1.body.result)])] [] (fun v st=>v=(.bool r)∧st=[]):=by
 unfold Gg at h0
 refine ai Tryz.func90 U U U U (sr U fun K1 hK1=>BI (m:=0) (st':=[(dY p0)]) Ah U U U U U (BI (m:=1) (st':=[(dY p0),⟨0,57,5,[[(ls eI p1.params),(ls eI p1.At),(i64 p1.result),(ls Al p1.body.steps),(i64 p1.body.result)]]⟩]) Ah U U U U U (zq tb U (dn hK1 U (AE fun K2 hK2=>sr U fun K3 hK3=>zm tb 4 U (bs h0 fun q4 gq4 h0=>zc Wb (H0 gq4) rfl U U (zq tb U ?_)))))))
 refine dn hK3 U ?_
 refine ci h0 U ?_ ?_ <;> clear h0
 ·intro b5 h0
  have b6:q4=false:=by simpa using b5
  refine zr tb U U ?_
  replace h0:=Sh.AA h0
  subst r
  exact AK (xr (Ai [(4,(.bool false))] U))
 ·intro b5 h0
  have b8:q4=true:=by simpa using b5
  refine AI (hK2 _ (AE fun K9 hK9=>sr U fun K10 hK10=>zm tb 4 U (bs h0 fun q11 gq11 h0=>zc Wb (H0 gq11) rfl U U (zq tb U (dn hK10 U ?_)))))
  refine ci h0 U ?_ ?_ <;> clear h0
  ·intro b12 h0
   have b13:q11=false:=by simpa using b12
   refine zr tb U U ?_
   replace h0:=Sh.AA h0
   subst r
   exact AK (xr (Ai [(4,(.bool false))] U))
  ·intro b12 h0
   have b15:q11=true:=by simpa using b12
   refine AI (hK9 _ (AE fun K16 hK16=>zr tb U U ?_))
   refine ci h0 U ?_ ?_ <;> clear h0
   ·intro b18 h0
    have b19:decide (p0.result=p1.result)=false:=by simpa using b18
    refine zr tb U U ?_
    replace h0:=Sh.AA h0
    subst r
    exact AK (xr (Ai [(4,(.bool false))] U))
   ·intro b18 h0
    have b21:decide (p0.result=p1.result)=true:=by simpa using b18
    refine AI (hK16 _ (AE fun K22 hK22=>sr U fun K23 hK23=>zm tb 4 U (bs h0 fun q24 gq24 h0=>zc X5 (Px gq24) rfl U U (zq tb U (dn hK23 U ?_)))))
    refine ci h0 U ?_ ?_ <;> clear h0
    ·intro b25 h0
     have b26:q24=false:=by simpa using b25
     refine zr tb U U ?_
     replace h0:=Sh.AA h0
     subst r
     exact AK (xr (Ai [(4,(.bool false))] U))
    ·intro b25 h0
     have b28:q24=true:=by simpa using b25
     refine AI (hK22 _ (zr tb U U ?_))
     replace h0:=Sh.AA h0
     subst r
     exact AK (xr (Ai [(4,(.bool true))] U))
theorem NY {N:Nat} {p0:(List Ac)} {p1:(List Ac)} {r:Bool} (h0:Fy N p0 p1=some r):Ae Tryz.prog 42 [(ls AT p0),(ls AT p1)] [] (fun v st=>v=(.bool r)∧st=[]):=by
 unfold Fy at h0
 refine ai Tryz.func42 U U U U (zr tb U U (AE fun K2 hK2=>sr U fun K3 hK3=>zq tb U (zl tb U U (zq tb U (zl tb U U (zq tb U (dn hK3 U ?_)))))))
 refine ci h0 U ?_ ?_ <;> clear h0
 ·intro b4 h0
  have b5:decide ((Sh.len p0)=(Sh.len p1))=false:=by simpa using b4
  refine zr tb U U ?_
  replace h0:=Sh.AA h0
  subst r
  exact AK (xr (AF (L:=[(4,(.bool false))]) ⟨.rfl,trivial⟩))
 ·intro b4 h0
  have b7:decide ((Sh.len p0)=(Sh.len p1))=true:=by simpa using b4
  refine AI (hK2 _ (AE fun K8 hK8=>zr tb U U ?_))
  obtain⟨o11,h1,h0⟩:=Sh.A8 h0
  have M11 :∀(_:Unit),o11=Sum.inr ()→∀s,Wk 0 s ⟨27,Ad [],[]⟩→K8 s:=by
   intro _ hq s hw
   subst o11
   try dsimp only at h0
   refine hK8 _ (AS hw (zr tb U U ?_))
   replace h0:=Sh.AA h0
   subst r
   exact AK (xr (AF (L:=[(4,(.bool true))]) ⟨.rfl,trivial⟩))
  refine Aa (Au (σ:=Int) (fun n v=>DB N p0 p1 n v=some o11) (fun i10=>⟨27,Ad [(0,(ls AT p0)),(1,(ls AT p1)),(5,(i64 i10))],[]⟩) N 0 h1 (AN U) (fun _ hv=>by rw[DB] at hv;cases hv) ?_)
  rintro n i10 h1
  try dsimp only at h1 ⊢
  rw[DB] at h1
  refine AE fun K13 hK13=>sr U fun K14 hK14=>zm tb 2 U (zl tb U U (zq tb U (dn hK14 U ?_)))
  refine ci h1 U ?_ ?_ <;> clear h1
  ·intro b15 h1
   refine AI (hK13 _ (AE fun K16 hK16=>Aa (AE fun K17 hK17=>?_)))
   refine Bz (by kernel_rfl) (by kernel_rfl) (by rfl) ?_
   iterate 2 refine yq tb rfl ?_
   refine bs h1 fun c18 gc18 h1=>yx E7 gc18 U U U ?_
   iterate 3 refine yq tb rfl ?_
   refine bs h1 fun c19 gc19 h1=>yx E7 gc19 U U U (yq tb U (bs h1 fun q20 gq20 h1=>CR (v:=(.bool q20)) Ah cu (OT gq20) rfl U U (yq tb U (BS (hK17 _ ?_)))))
   refine ci h1 U ?_ ?_ <;> clear h1
   ·intro b21 h1
    have b22:q20=false:=by simpa using b21
    refine zr tb U U ?_
    replace h1:=Sh.AA h1
    subst o11
    try dsimp only[id] at h0
    replace h0:=Sh.AA h0
    subst r
    exact AK (xr (AF (L:=[(4,(.bool false))]) ⟨.rfl,trivial⟩))
   ·intro b21 h1
    have b24:q20=true:=by simpa using b21
    exact AI (hK16 _ (AJ U (zm tb 3 U (AB (xi (Sh.w (i10+1)) h1 (AN U))))))
  ·intro b15 h1
   exact Ay (M11 () (Sh.AA h1).symm _ (AN U))
theorem G2 {N:Nat} {p0:Aj} {p1:Aj} {r:Bool} (h0:Ew N p0 p1=some r):Ae Tryz.prog 12 [(.agg [(ls AG p0.decls),(ls AT p0.AD)]),(.agg [(ls AG p1.decls),(ls AT p1.AD)])] [] (fun v st=>v=(.bool r)∧st=[]):=by
 unfold Ew at h0
 refine ai Tryz.func12 U U U U (sr U fun K1 hK1=>BI (m:=0) (st':=[⟨0,30,2,[[(ls AG p0.decls),(ls AT p0.AD)]]⟩]) Ah U U U U U (BI (m:=1) (st':=[⟨0,30,2,[[(ls AG p0.decls),(ls AT p0.AD)]]⟩,⟨0,30,2,[[(ls AG p1.decls),(ls AT p1.AD)]]⟩]) Ah U U U U U (zq tb U (dn hK1 U (AE fun K2 hK2=>sr U fun K3 hK3=>zm tb 4 U (bs h0 fun q4 gq4 h0=>zc dW (P0 gq4) rfl U U (zq tb U ?_)))))))
 refine dn hK3 U ?_
 refine ci h0 U ?_ ?_ <;> clear h0
 ·intro b5 h0
  have b6:q4=false:=by simpa using b5
  refine zr tb U U ?_
  replace h0:=Sh.AA h0
  subst r
  exact AK (xr (Ai [(4,(.bool false))] U))
 ·intro b5 h0
  have b8:q4=true:=by simpa using b5
  refine AI (hK2 _ (AE fun K9 hK9=>sr U fun K10 hK10=>zm tb 4 U (bs h0 fun q11 gq11 h0=>zc cd (NY gq11) rfl U U (zq tb U (dn hK10 U ?_)))))
  refine ci h0 U ?_ ?_ <;> clear h0
  ·intro b12 h0
   have b13:q11=false:=by simpa using b12
   refine zr tb U U ?_
   replace h0:=Sh.AA h0
   subst r
   exact AK (xr (Ai [(4,(.bool false))] U))
  ·intro b12 h0
   have b15:q11=true:=by simpa using b12
   refine AI (hK9 _ (zr tb U U ?_))
   replace h0:=Sh.AA h0
   subst r
   exact AK (xr (Ai [(4,(.bool true))] U))
theorem Gx {N:Nat} {s0:(List Int)} {p1:Int} {r:Int×(List Int)} (h0:Ep N s0 p1=some r):Ae Tryz.prog 20 [(ow 0 0 s0),(i64 p1)] [(ro 0 3 1 eI s0)] (fun v st=>v=(i64 r.1)∧st=[(ro 0 3 1 eI r.2)]):=by
 unfold Ep at h0
 refine ai Tryz.func20 U U U U (zr tb U U (AE fun K2 hK2=>zr tb U U (bs h0 fun o9 h1 h0=>?_)))
 have M9 :∀(k7:Int) (l8:(List Int)),o9=(k7,l8)→∀s,Wk 1 s ⟨19,Ad [(1,(i64 k7))],[(ro 0 3 1 eI l8)]⟩→K2 s:=by
  intro k7 l8 hq s hw
  subst o9
  try dsimp only at h0
  refine hK2 _ (AS hw (zr tb U U ?_))
  replace h0:=Sh.AA h0
  subst r
  exact AK (xr (AF (L:=[(4,(i64 k7))]) ⟨.rfl,trivial⟩))
 refine Aa (Au (σ:=Int×Int×(List Int)) (fun n v=>Dt  n v.1 v.2.1 v.2.2=some o9) (fun (k4,i5,l6)=>⟨19,Ad [(0,(ow 0 0 l6)),(1,(i64 k4)),(5,(i64 i5))],[(ro 0 3 1 eI l6)]⟩) N (p1,0,s0) h1 (AN U) (fun _ hv=>by rw[Dt] at hv;cases hv) ?_)
 rintro n ⟨k4,i5,l6⟩ h1
 try dsimp only at h1 ⊢
 rw[Dt] at h1
 refine AE fun K11 hK11=>sr U fun K12 hK12=>zm tb 2 U (zz (i64 (Sh.len l6)) (Ek Ga U U U) rfl (zq tb U (dn hK12 U ?_)))
 refine ci h1 U ?_ ?_ <;> clear h1
 ·intro b13 h1
  refine AI (hK11 _ (AE fun K14 hK14=>Aa (sr U fun K15 hK15=>zm tb 3 U (bs h1 fun c16 gc16 h1=>zz (.ptr 0 0 (Int.toNat i5) 0) (B8 BN U U U U gc16) rfl (JI (st':=[(ro 0 3 1 eI (Sh.put l6 i5 k4))]) (u':=k4) Ah HN U U gc16 U U U (show 0+1≤1 by decide) rfl U (dn hK15 U (AJ U (zm tb 3 U (dn hK14 U ?_)))))))))
  refine AJ U (zm tb 3 U ?_)
  exact AB (xi (Sh.w (k4+1),Sh.w (i5+1),Sh.put l6 i5 k4) h1 (AF (L:=[(0,(.own 0 0 (List.length (Sh.put l6 i5 k4)))),(1,(i64 (Sh.w (k4+1)))),(5,(i64 (Sh.w (i5+1))))]) ⟨(.len (by simp only[Sh.BB])),.rfl,.rfl,trivial⟩))
 ·intro b13 h1
  exact Ay (M9 k4 l6 (Sh.AA h1).symm _ (AN U))
theorem O4 {N:Nat} {s0:(List BO)} {p1:Int} {r:Int×(List BO)} (h0:G7 N s0 p1=some r):Ae Tryz.prog 91 [(ow 0 0 s0),(i64 p1)] [(ro 0 134 1 (BD 3) s0)] (fun v st=>v=(i64 r.1)∧st=[(ro 0 134 1 (BD 3) r.2)]):=by
 unfold G7 at h0
 refine ai Tryz.func91 U U U U (zr tb U U (AE fun K2 hK2=>zr tb U U (bs h0 fun o9 h1 h0=>?_)))
 have M9 :∀(k7:Int) (l8:(List BO)),o9=(k7,l8)→∀s,Wk 1 s ⟨20,Ad [(1,(i64 k7))],[(ro 0 134 1 (BD 3) l8)]⟩→K2 s:=by
  intro k7 l8 hq s hw
  subst o9
  try dsimp only at h0
  refine hK2 _ (AS hw (zr tb U U ?_))
  replace h0:=Sh.AA h0
  subst r
  exact AK (xr (AF (L:=[(4,(i64 k7))]) ⟨.rfl,trivial⟩))
 refine Aa (Au (σ:=Int×Int×(List BO)) (fun n v=>Dv N n v.1 v.2.1 v.2.2=some o9) (fun (k4,i5,l6)=>⟨20,Ad [(0,(ow 0 0 l6)),(1,(i64 k4)),(5,(i64 i5))],[(ro 0 134 1 (BD 3) l6)]⟩) N (p1,0,s0) h1 (AN U) (fun _ hv=>by rw[Dv] at hv;cases hv) ?_)
 rintro n ⟨k4,i5,l6⟩ h1
 try dsimp only at h1 ⊢
 rw[Dv] at h1
 refine AE fun K11 hK11=>sr U fun K12 hK12=>zm tb 2 U (zz (i64 (Sh.len l6)) (Ek Nn U U U) rfl (zq tb U (dn hK12 U ?_)))
 refine ci h1 U ?_ ?_ <;> clear h1
 ·intro b13 h1
  refine AI (hK11 _ (AE fun K14 hK14=>Aa (AJ U (zm tb 2 U (bs h1 fun c15 gc15 h1=>zz (.ptr 0 0 (Int.toNat i5) 0) (B8 IC U U U U gc15) rfl (zq tb U (Az (GP (id:=0) (j:=0) (i:=i5) (c:=c15) (ys:=c15.fields) (encY:=eI) (x:=[(.dv 3 1 (List.map eI c15.fields))]) (x':=[(ow 1 0 c15.fields)]) (st':=[⟨0,134,1,hole l6 (BD 3) i5 [(ow 1 0 c15.fields)]⟩,(ro 0 3 1 eI c15.fields)]) rfl gc15 U U U U U) (zz (ow 1 0 c15.fields) (Cf Iu U U (Gl gc15) rfl) rfl (zq tb U (bs h1 fun q16 gq16 h1=>?_))))))))))
  refine Ed (rowsP:=[⟨0,3,1,List.map eI c15.fields⟩]) (rows0:=[⟨0,3,1,List.map eI c15.fields⟩]) (rows1:=[⟨0,3,1,List.map eI q16.2⟩]) (rows2:=[]) (rows1':=[⟨0,3,1,List.map eI q16.2⟩]) (rows2':=[]) (st':=[⟨0,134,1,hole l6 (BD 3) i5 [(.own 1 0 (List.length c15.fields))]⟩,⟨0,3,1,List.map eI q16.2⟩]) (v':=(i64 q16.1)) [1] Ah WS (Gx gq16) rfl (by decide) rfl U (.pure (Ak fun _=>U) .nil) rfl U (.pure (Ak fun _=>U) .nil) .nil U U (fun hln=>?_)
  have ln17:List.length q16.2=List.length c15.fields:=by simpa only[List.length_map] using hln 0 _ _ rfl rfl rfl
  refine Az (Wk.take (id:=0) (m:=1) (j:=0) (i:=i5) (c:=c15) (ys:=q16.2) (encY:=eI) (x':=[(.dv 3 1 (List.map eI q16.2))]) (st':=[⟨0,134,1,hole l6 (BD 3) i5 [(.dv 3 1 (List.map eI q16.2))]⟩,⟨1,3,1,[]⟩]) rfl gc15 U U (by first | (simp only[Sh.BB];done) | (simp only[Sh.BB];omega) | omega) (by decide) (show 1≤1 by decide) (fun _=>U) rfl U) ?_
  refine Az (DK (id:=0) (i:=i5) (u:=(BO.mk q16.2)) (st':=[(ro 0 134 1 (BD 3) (Sh.put l6 i5 (BO.mk q16.2))),⟨1,3,1,[]⟩]) rfl U U) (zq tb U (dn hK14 U (AJ U (zm tb 3 U ?_))))
  exact AB (xi (q16.1,Sh.w (i5+1),Sh.put l6 i5 (BO.mk q16.2)) h1 (by refine Wk.trans (AP (L:=[(0,(.own 0 0 (List.length l6))),(1,(i64 q16.1)),(5,(i64 (Sh.w (i5+1))))]) (st':=[⟨0,134,1,List.map (BD 3) (Sh.put l6 i5 (BO.mk q16.2))⟩]) (st1:=[⟨0,134,1,List.map (BD 3) (Sh.put l6 i5 (BO.mk q16.2))⟩]) [0] U (.deep (Af fun _=>U) .nil) (by decide) rfl U (.deep (Af fun _=>U) .nil) ⟨.rfl,.rfl,.rfl,trivial⟩) ?_;exact AF (L:=[(0,(.own 0 0 (List.length (Sh.put l6 i5 (BO.mk q16.2))))),(1,(i64 q16.1)),(5,(i64 (Sh.w (i5+1))))]) ⟨(.len (by first | (simp only[Sh.BB];done) | (simp only[Sh.BB];omega) | omega)),.rfl,.rfl,trivial⟩))
 ·intro b13 h1
  exact Ay (M9 k4 l6 (Sh.AA h1).symm _ (AN U))
theorem OG {N:Nat} {s0:(List Ag)} {p1:Int} {r:Int×(List Ag)} (h0:GZ N s0 p1=some r):Ae Tryz.prog 43 [(ow 0 0 s0),(i64 p1)] [(ro 0 98 3 (Ab 134 3) s0)] (fun v st=>v=(i64 r.1)∧st=[(ro 0 98 3 (Ab 134 3) r.2)]):=by
 unfold GZ at h0
 refine ai Tryz.func43 U U U U (zr tb U U (AE fun K2 hK2=>zr tb U U (bs h0 fun o9 h1 h0=>?_)))
 have M9 :∀(k7:Int) (l8:(List Ag)),o9=(k7,l8)→∀s,Wk 1 s ⟨34,Ad [(1,(i64 k7))],[(ro 0 98 3 (Ab 134 3) l8)]⟩→K2 s:=by
  intro k7 l8 hq s hw
  subst o9
  try dsimp only at h0
  refine hK2 _ (AS hw (zr tb U U ?_))
  replace h0:=Sh.AA h0
  subst r
  exact AK (xr (AF (L:=[(4,(i64 k7))]) ⟨.rfl,trivial⟩))
 refine Aa (Au (σ:=Int×Int×(List Ag)) (fun n v=>DY N n v.1 v.2.1 v.2.2=some o9) (fun (k4,i5,l6)=>⟨34,Ad [(0,(ow 0 0 l6)),(1,(i64 k4)),(5,(i64 i5))],[(ro 0 98 3 (Ab 134 3) l6)]⟩) N (p1,0,s0) h1 (AN U) (fun _ hv=>by rw[DY] at hv;cases hv) ?_)
 rintro n ⟨k4,i5,l6⟩ h1
 try dsimp only at h1 ⊢
 rw[DY] at h1
 refine AE fun K11 hK11=>sr U fun K12 hK12=>zm tb 2 U (zz (i64 (Sh.len l6)) (Ek Oz U U U) rfl (zq tb U (dn hK12 U ?_)))
 refine ci h1 U ?_ ?_ <;> clear h1
 ·intro b13 h1
  refine AI (hK11 _ (AE fun K14 hK14=>Aa (sr U fun K15 hK15=>zm tb 3 U (bs h1 fun c16 gc16 h1=>zz (.ptr 0 0 (Int.toNat i5) 0) (B8 DA U U U U gc16) rfl (zq tb U (JI (st':=[(ro 0 98 3 (Ab 134 3) (Sh.put l6 i5 (Ag.mk k4 c16.to c16.cons)))]) (u':=(Ag.mk k4 c16.to c16.cons)) Ah HN U U gc16 U U U (show 0+1≤3 by decide) rfl U (dn hK15 U (zr tb U U (sr U fun K18 hK18=>?_)))))))))
  refine zm tb 3 U (bs h1 fun c19 gc19 h1=>?_)
  refine zz (.ptr 0 0 (Int.toNat i5) 0) (B8 DA U U U (by simp only[Sh.BB]) gc19) rfl ?_
  refine zq tb U (JI (st':=[(ro 0 98 3 (Ab 134 3) (Sh.put (Sh.put l6 i5 (Ag.mk k4 c16.to c16.cons)) i5 (Ag.mk c19.from_ (Sh.w (k4+1)) c19.cons)))]) (u':=(Ag.mk c19.from_ (Sh.w (k4+1)) c19.cons)) Ah HN U U gc19 U U U (show 1+1≤3 by decide) rfl U (dn hK18 U (zr tb U U (AJ U (zm tb 2 U (bs h1 fun c21 gc21 h1=>?_))))))
  refine zz (.ptr 0 0 (Int.toNat i5) 0) (B8 DA U U U (by simp only[Sh.BB]) gc21) rfl ?_
  refine zq tb U (Az (GP (id:=0) (j:=2) (i:=i5) (c:=c21) (ys:=c21.cons) (encY:=(BD 3)) (x:=[(i64 c21.from_),(i64 c21.to),(.dv 134 1 (List.map (BD 3) c21.cons))]) (x':=[(i64 c21.from_),(i64 c21.to),(ow 1 0 c21.cons)]) (st':=[⟨0,98,3,hole (Sh.put (Sh.put l6 i5 (Ag.mk k4 c16.to c16.cons)) i5 (Ag.mk c19.from_ (Sh.w (k4+1)) c19.cons)) (Ab 134 3) i5 [(i64 c21.from_),(i64 c21.to),(ow 1 0 c21.cons)]⟩,(ro 0 134 1 (BD 3) c21.cons)]) rfl gc21 U U U U U) (zz (ow 1 0 c21.cons) (Cf N3 U U (Gl gc21) rfl) rfl (zq tb U (bs h1 fun q22 gq22 h1=>?_))))
  refine Ed (rowsP:=[⟨0,134,1,List.map (BD 3) c21.cons⟩]) (rows0:=[⟨0,134,1,List.map (BD 3) c21.cons⟩]) (rows1:=[⟨0,134,1,List.map (BD 3) q22.2⟩]) (rows2:=[]) (rows1':=[⟨0,134,1,List.map (BD 3) q22.2⟩]) (rows2':=[]) (st':=[⟨0,98,3,hole (Sh.put (Sh.put l6 i5 (Ag.mk k4 c16.to c16.cons)) i5 (Ag.mk c19.from_ (Sh.w (k4+1)) c19.cons)) (Ab 134 3) i5 [(i64 c21.from_),(i64 c21.to),(.own 1 0 (List.length c21.cons))]⟩,⟨0,134,1,List.map (BD 3) q22.2⟩]) (v':=(i64 q22.1)) [1] Ah dO (O4 gq22) rfl (by decide) rfl U (.deep (Af fun _=>U) .nil) rfl U (.deep (Af fun _=>U) .nil) .nil U U (fun hln=>?_)
  have ln23:List.length q22.2=List.length c21.cons:=by simpa only[List.length_map] using hln 0 _ _ rfl rfl rfl
  refine Az (Wk.take (id:=0) (m:=1) (j:=2) (i:=i5) (c:=c21) (ys:=q22.2) (encY:=(BD 3)) (x':=[(i64 c21.from_),(i64 c21.to),(.dv 134 1 (List.map (BD 3) q22.2))]) (st':=[⟨0,98,3,hole (Sh.put (Sh.put l6 i5 (Ag.mk k4 c16.to c16.cons)) i5 (Ag.mk c19.from_ (Sh.w (k4+1)) c19.cons)) (Ab 134 3) i5 [(i64 c21.from_),(i64 c21.to),(.dv 134 1 (List.map (BD 3) q22.2))]⟩,⟨1,134,1,[]⟩]) rfl gc21 U U (by first | (simp only[Sh.BB];done) | (simp only[Sh.BB];omega) | omega) (by decide) (show 1≤1 by decide) (fun _=>U) rfl U) ?_
  refine Az (DK (id:=0) (i:=i5) (u:=(Ag.mk c21.from_ c21.to q22.2)) (st':=[(ro 0 98 3 (Ab 134 3) (Sh.put (Sh.put (Sh.put l6 i5 (Ag.mk k4 c16.to c16.cons)) i5 (Ag.mk c19.from_ (Sh.w (k4+1)) c19.cons)) i5 (Ag.mk c21.from_ c21.to q22.2))),⟨1,134,1,[]⟩]) rfl U U) (zq tb U (dn hK14 U (AJ U (zm tb 3 U ?_))))
  exact AB (xi (q22.1,Sh.w (i5+1),Sh.put (Sh.put (Sh.put l6 i5 (Ag.mk k4 c16.to c16.cons)) i5 (Ag.mk c19.from_ (Sh.w (k4+1)) c19.cons)) i5 (Ag.mk c21.from_ c21.to q22.2)) h1 (by refine Wk.trans (AP (L:=[(0,(.own 0 0 (List.length l6))),(1,(i64 q22.1)),(5,(i64 (Sh.w (i5+1))))]) (st':=[⟨0,98,3,List.map (Ab 134 3) (Sh.put (Sh.put (Sh.put l6 i5 (Ag.mk k4 c16.to c16.cons)) i5 (Ag.mk c19.from_ (Sh.w (k4+1)) c19.cons)) i5 (Ag.mk c21.from_ c21.to q22.2))⟩]) (st1:=[⟨0,98,3,List.map (Ab 134 3) (Sh.put (Sh.put (Sh.put l6 i5 (Ag.mk k4 c16.to c16.cons)) i5 (Ag.mk c19.from_ (Sh.w (k4+1)) c19.cons)) i5 (Ag.mk c21.from_ c21.to q22.2))⟩]) [0] U (.deep (Af fun _=>U) .nil) (by decide) rfl U (.deep (Af fun _=>U) .nil) ⟨.rfl,.rfl,.rfl,trivial⟩) ?_;exact AF (L:=[(0,(.own 0 0 (List.length (Sh.put (Sh.put (Sh.put l6 i5 (Ag.mk k4 c16.to c16.cons)) i5 (Ag.mk c19.from_ (Sh.w (k4+1)) c19.cons)) i5 (Ag.mk c21.from_ c21.to q22.2))))),(1,(i64 q22.1)),(5,(i64 (Sh.w (i5+1))))]) ⟨(.len (by first | (simp only[Sh.BB];done) | (simp only[Sh.BB];omega) | omega)),.rfl,.rfl,trivial⟩))
 ·intro b13 h1
  exact Ay (M9 k4 l6 (Sh.AA h1).symm _ (AN U))
theorem Nk {N:Nat} {rec_laws_markStepS:(List Step)→Int→Option (Int×(List Step))} (hrec_laws_markStepS :∀{s0:(List Step)} {p1:Int} {r:Int×(List Step)},rec_laws_markStepS s0 p1=some r→Ae Tryz.prog 92 [(ow 0 0 s0),(i64 p1)] [(ro 0 71 5 (Am 3 55 71) s0)] (fun v st=>v=(i64 r.1)∧st=[(ro 0 71 5 (Am 3 55 71) r.2)])) {s0:(List Block)} {p1:Int} {r:Int×(List Block)} (h0:GD N rec_laws_markStepS s0 p1=some r):Ae Tryz.prog 143 [(ow 0 0 s0),(i64 p1)] [(ro 0 55 2 (A0 3 55 71) s0)] (fun v st=>v=(i64 r.1)∧st=[(ro 0 55 2 (A0 3 55 71) r.2)]):=by
 unfold GD at h0
 refine ai Tryz.func143 U U U U (zr tb U U (AE fun K2 hK2=>zr tb U U (bs h0 fun o9 h1 h0=>?_)))
 have M9 :∀(k7:Int) (l8:(List Block)),o9=(k7,l8)→∀s,Wk 1 s ⟨27,Ad [(1,(i64 k7))],[(ro 0 55 2 (A0 3 55 71) l8)]⟩→K2 s:=by
  intro k7 l8 hq s hw
  subst o9
  try dsimp only at h0
  refine hK2 _ (AS hw (zr tb U U ?_))
  replace h0:=Sh.AA h0
  subst r
  exact AK (xr (AF (L:=[(4,(i64 k7))]) ⟨.rfl,trivial⟩))
 refine Aa (Au (σ:=Int×Int×(List Block)) (fun n v=>C6 rec_laws_markStepS n v.1 v.2.1 v.2.2=some o9) (fun (k4,i5,l6)=>⟨27,Ad [(0,(ow 0 0 l6)),(1,(i64 k4)),(5,(i64 i5))],[(ro 0 55 2 (A0 3 55 71) l6)]⟩) N (p1,0,s0) h1 (AN U) (fun _ hv=>by rw[C6] at hv;cases hv) ?_)
 rintro n ⟨k4,i5,l6⟩ h1
 try dsimp only at h1 ⊢
 rw[C6] at h1
 refine AE fun K11 hK11=>sr U fun K12 hK12=>zm tb 2 U (zz (i64 (Sh.len l6)) (Ek Rz U U U) rfl (zq tb U (dn hK12 U ?_)))
 refine ci h1 U ?_ ?_ <;> clear h1
 ·intro b13 h1
  refine AI (hK11 _ (AE fun K14 hK14=>Aa (sr U fun K15 hK15=>zm tb 2 U (bs h1 fun c16 gc16 h1=>zz (.ptr 0 0 (Int.toNat i5) 0) (B8 Hi U U U U gc16) rfl (zq tb U (Az (GP (id:=0) (j:=0) (i:=i5) (c:=c16) (ys:=c16.steps) (encY:=(Am 3 55 71)) (x:=[(.dv 71 5 (List.map (Am 3 55 71) c16.steps)),(i64 c16.result)]) (x':=[(ow 1 0 c16.steps),(i64 c16.result)]) (st':=[⟨0,55,2,hole l6 (A0 3 55 71) i5 [(ow 1 0 c16.steps),(i64 c16.result)]⟩,(ro 0 71 5 (Am 3 55 71) c16.steps)]) rfl gc16 U U U U U) (zz (ow 1 0 c16.steps) (Cf Ub U U (Gl gc16) rfl) rfl (zq tb U (bs h1 fun q17 gq17 h1=>?_)))))))))
  refine Ed (rowsP:=[⟨0,71,5,List.map (Am 3 55 71) c16.steps⟩]) (rows0:=[⟨0,71,5,List.map (Am 3 55 71) c16.steps⟩]) (rows1:=[⟨0,71,5,List.map (Am 3 55 71) q17.2⟩]) (rows2:=[]) (rows1':=[⟨0,71,5,List.map (Am 3 55 71) q17.2⟩]) (rows2':=[]) (st':=[⟨0,55,2,hole l6 (A0 3 55 71) i5 [(.own 1 0 (List.length c16.steps)),(i64 c16.result)]⟩,⟨0,71,5,List.map (Am 3 55 71) q17.2⟩]) (v':=(i64 q17.1)) [1] Ah aY (hrec_laws_markStepS gq17) rfl (by decide) rfl U (.deep (Af BQ) .nil) rfl U (.deep (Af BQ) .nil) .nil U U (fun hln=>?_)
  have ln18:List.length q17.2=List.length c16.steps:=by simpa only[List.length_map] using hln 0 _ _ rfl rfl rfl
  refine Az (Wk.take (id:=0) (m:=1) (j:=0) (i:=i5) (c:=c16) (ys:=q17.2) (encY:=(Am 3 55 71)) (x':=[(.dv 71 5 (List.map (Am 3 55 71) q17.2)),(i64 c16.result)]) (st':=[⟨0,55,2,hole l6 (A0 3 55 71) i5 [(.dv 71 5 (List.map (Am 3 55 71) q17.2)),(i64 c16.result)]⟩,⟨1,71,5,[]⟩]) rfl gc16 U U (by first | (simp only[Sh.BB];done) | (simp only[Sh.BB];omega) | omega) (by decide) (show 1≤1 by decide) HO U U) ?_
  refine Az (DK (id:=0) (i:=i5) (u:=(Block.mk q17.2 c16.result)) (st':=[(ro 0 55 2 (A0 3 55 71) (Sh.put l6 i5 (Block.mk q17.2 c16.result))),⟨1,71,5,[]⟩]) rfl U U) (zq tb U (dn hK15 U (sr U fun K19 hK19=>zm tb 3 U (bs h1 fun c20 gc20 h1=>?_))))
  refine zz (.ptr 0 0 (Int.toNat i5) 0) (B8 Hi U U U (by first | (simp only[Sh.BB];done) | (simp only[Sh.BB];omega) | omega) gc20) rfl ?_
  refine zq tb U (JI (st':=[(ro 0 55 2 (A0 3 55 71) (Sh.put (Sh.put l6 i5 (Block.mk q17.2 c16.result)) i5 (Block.mk c20.steps q17.1))),⟨1,71,5,[]⟩]) (u':=(Block.mk c20.steps q17.1)) Ah HN U U gc20 U U U (show 1+1≤2 by decide) rfl U (dn hK19 U (AJ U (zm tb 3 U (dn hK14 U (AJ U (zm tb 3 U ?_)))))))
  exact AB (xi (Sh.w (q17.1+1),Sh.w (i5+1),Sh.put (Sh.put l6 i5 (Block.mk q17.2 c16.result)) i5 (Block.mk c20.steps q17.1)) h1 (by refine Wk.trans (AP (L:=[(0,(.own 0 0 (List.length l6))),(1,(i64 (Sh.w (q17.1+1)))),(5,(i64 (Sh.w (i5+1))))]) (st':=[⟨0,55,2,List.map (A0 3 55 71) (Sh.put (Sh.put l6 i5 (Block.mk q17.2 c16.result)) i5 (Block.mk c20.steps q17.1))⟩]) (st1:=[⟨0,55,2,List.map (A0 3 55 71) (Sh.put (Sh.put l6 i5 (Block.mk q17.2 c16.result)) i5 (Block.mk c20.steps q17.1))⟩]) [0] U (.deep (Af fun _=>U) .nil) (by decide) rfl U (.deep (Af fun _=>U) .nil) ⟨.rfl,.rfl,.rfl,trivial⟩) ?_;exact AF (L:=[(0,(.own 0 0 (List.length (Sh.put (Sh.put l6 i5 (Block.mk q17.2 c16.result)) i5 (Block.mk c20.steps q17.1))))),(1,(i64 (Sh.w (q17.1+1)))),(5,(i64 (Sh.w (i5+1))))]) ⟨(.len (by first | (simp only[Sh.BB];done) | (simp only[Sh.BB];omega) | omega)),.rfl,.rfl,trivial⟩))
 ·intro b13 h1
  exact Ay (M9 k4 l6 (Sh.AA h1).symm _ (AN U))
theorem MQ {N:Nat} {rec_laws_markStepS:(List Step)→Int→Option (Int×(List Step))} (hrec_laws_markStepS :∀{s0:(List Step)} {p1:Int} {r:Int×(List Step)},rec_laws_markStepS s0 p1=some r→Ae Tryz.prog 92 [(ow 0 0 s0),(i64 p1)] [(ro 0 71 5 (Am 3 55 71) s0)] (fun v st=>v=(i64 r.1)∧st=[(ro 0 71 5 (Am 3 55 71) r.2)])) {s0:(List Step)} {p1:Int} {r:Int×(List Step)} (h0:G0 N rec_laws_markStepS s0 p1=some r):Ae Tryz.prog 92 [(ow 0 0 s0),(i64 p1)] [(ro 0 71 5 (Am 3 55 71) s0)] (fun v st=>v=(i64 r.1)∧st=[(ro 0 71 5 (Am 3 55 71) r.2)]):=by
 unfold G0 at h0
 refine ai Tryz.func92 U U U U (zr tb U U (AE fun K2 hK2=>zr tb U U (bs h0 fun o9 h1 h0=>?_)))
 have M9 :∀(k7:Int) (l8:(List Step)),o9=(k7,l8)→∀s,Wk 1 s ⟨48,Ad [(1,(i64 k7))],[(ro 0 71 5 (Am 3 55 71) l8)]⟩→K2 s:=by
  intro k7 l8 hq s hw
  subst o9
  try dsimp only at h0
  refine hK2 _ (AS hw (zr tb U U ?_))
  replace h0:=Sh.AA h0
  subst r
  exact AK (xr (AF (L:=[(4,(i64 k7))]) ⟨.rfl,trivial⟩))
 refine Aa (Au (σ:=Int×Int×(List Step)) (fun n v=>Cn N rec_laws_markStepS n v.1 v.2.1 v.2.2=some o9) (fun (k4,i5,l6)=>⟨48,Ad [(0,(ow 0 0 l6)),(1,(i64 k4)),(5,(i64 i5))],[(ro 0 71 5 (Am 3 55 71) l6)]⟩) N (p1,0,s0) h1 (AN U) (fun _ hv=>by rw[Cn] at hv;cases hv) ?_)
 rintro n ⟨k4,i5,l6⟩ h1
 try dsimp only at h1 ⊢
 rw[Cn] at h1
 refine AE fun K11 hK11=>sr U fun K12 hK12=>zm tb 2 U (zz (i64 (Sh.len l6)) (Ek dj U U U) rfl (zq tb U (dn hK12 U ?_)))
 refine ci h1 U ?_ ?_ <;> clear h1
 ·intro b13 h1
  refine AI (hK11 _ (AE fun K14 hK14=>Aa (sr U fun K15 hK15=>zm tb 3 U (bs h1 fun c16 gc16 h1=>zz (.ptr 0 0 (Int.toNat i5) 0) (B8 FD U U U U gc16) rfl (zq tb U ?_)))))
  refine JI (st':=[(ro 0 71 5 (Am 3 55 71) (Sh.put l6 i5 (Step.mk k4 c16.num c16.Ax c16.args c16.kids)))]) (u':=(Step.mk k4 c16.num c16.Ax c16.args c16.kids)) Ah HN U U gc16 U U U (show 0+1≤5 by decide) (by rw[DX,DX];rfl) rfl ?_
  refine dn hK15 U (zr tb U U (sr U fun K18 hK18=>zm tb 3 U (bs h1 fun c19 gc19 h1=>?_)))
  refine zz (.ptr 0 0 (Int.toNat i5) 0) (B8 FD U U U (by simp only[Sh.BB]) gc19) rfl ?_
  refine zq tb U ?_
  refine JI (st':=[(ro 0 71 5 (Am 3 55 71) (Sh.put (Sh.put l6 i5 (Step.mk k4 c16.num c16.Ax c16.args c16.kids)) i5 (Step.mk c19.op (Sh.w (k4+1)) c19.Ax c19.args c19.kids)))]) (u':=(Step.mk c19.op (Sh.w (k4+1)) c19.Ax c19.args c19.kids)) Ah HN U U gc19 U U U (show 1+1≤5 by decide) (by rw[DX,DX];rfl) rfl ?_
  refine dn hK18 U (zr tb U U (sr U fun K21 hK21=>zm tb 3 U (bs h1 fun c22 gc22 h1=>?_)))
  refine zz (.ptr 0 0 (Int.toNat i5) 0) (B8 FD U U U (by simp only[Sh.BB]) gc22) rfl ?_
  refine zq tb U ?_
  refine JI (st':=[(ro 0 71 5 (Am 3 55 71) (Sh.put (Sh.put (Sh.put l6 i5 (Step.mk k4 c16.num c16.Ax c16.args c16.kids)) i5 (Step.mk c19.op (Sh.w (k4+1)) c19.Ax c19.args c19.kids)) i5 (Step.mk c22.op c22.num (Sh.w ((Sh.w (k4+1)) + 1)) c22.args c22.kids)))]) (u':=(Step.mk c22.op c22.num (Sh.w ((Sh.w (k4+1)) + 1)) c22.args c22.kids)) Ah HN U U gc22 U U U (show 2+1≤5 by decide) (by rw[DX,DX];rfl) rfl ?_
  refine dn hK21 U (zr tb U U (sr U fun K24 hK24=>zm tb 2 U (bs h1 fun c25 gc25 h1=>?_)))
  refine zz (.ptr 0 0 (Int.toNat i5) 0) (B8 FD U U U (by simp only[Sh.BB]) gc25) rfl ?_
  refine zq tb U (Az (GP (id:=0) (j:=3) (i:=i5) (c:=c25) (ys:=c25.args) (encY:=eI) (x:=[(i64 c25.op),(i64 c25.num),(i64 c25.Ax),(.dv 3 1 (List.map eI c25.args)),(.dv 55 2 (List.map (A0 3 55 71) c25.kids))]) (x':=[(i64 c25.op),(i64 c25.num),(i64 c25.Ax),(ow 1 0 c25.args),(.dv 55 2 (List.map (A0 3 55 71) c25.kids))]) (st':=[⟨0,71,5,hole (Sh.put (Sh.put (Sh.put l6 i5 (Step.mk k4 c16.num c16.Ax c16.args c16.kids)) i5 (Step.mk c19.op (Sh.w (k4+1)) c19.Ax c19.args c19.kids)) i5 (Step.mk c22.op c22.num (Sh.w ((Sh.w (k4+1)) + 1)) c22.args c22.kids)) (Am 3 55 71) i5 [(i64 c25.op),(i64 c25.num),(i64 c25.Ax),(ow 1 0 c25.args),(.dv 55 2 (List.map (A0 3 55 71) c25.kids))]⟩,(ro 0 3 1 eI c25.args)]) rfl gc25 (DX _) rfl U U U) (zz (ow 1 0 c25.args) (Cf Iu U U (Gl gc25) rfl) rfl (zq tb U (bs h1 fun q26 gq26 h1=>?_))))
  refine Ed (rowsP:=[⟨0,3,1,List.map eI c25.args⟩]) (rows0:=[⟨0,3,1,List.map eI c25.args⟩]) (rows1:=[⟨0,3,1,List.map eI q26.2⟩]) (rows2:=[]) (rows1':=[⟨0,3,1,List.map eI q26.2⟩]) (rows2':=[]) (st':=[⟨0,71,5,hole (Sh.put (Sh.put (Sh.put l6 i5 (Step.mk k4 c16.num c16.Ax c16.args c16.kids)) i5 (Step.mk c19.op (Sh.w (k4+1)) c19.Ax c19.args c19.kids)) i5 (Step.mk c22.op c22.num (Sh.w ((Sh.w (k4+1)) + 1)) c22.args c22.kids)) (Am 3 55 71) i5 [(i64 c25.op),(i64 c25.num),(i64 c25.Ax),(.own 1 0 (List.length c25.args)),(.dv 55 2 (List.map (A0 3 55 71) c25.kids))]⟩,⟨0,3,1,List.map eI q26.2⟩]) (v':=(i64 q26.1)) [1] Ah WS (Gx gq26) rfl (by decide) rfl U (.pure (Ak fun _=>U) .nil) rfl U (.pure (Ak fun _=>U) .nil) .nil U U (fun hln=>?_)
  have ln27:List.length q26.2=List.length c25.args:=by simpa only[List.length_map] using hln 0 _ _ rfl rfl rfl
  refine Az (Wk.take (id:=0) (m:=1) (j:=3) (i:=i5) (c:=c25) (ys:=q26.2) (encY:=eI) (x':=[(i64 c25.op),(i64 c25.num),(i64 c25.Ax),(.dv 3 1 (List.map eI q26.2)),(.dv 55 2 (List.map (A0 3 55 71) c25.kids))]) (st':=[⟨0,71,5,hole (Sh.put (Sh.put (Sh.put l6 i5 (Step.mk k4 c16.num c16.Ax c16.args c16.kids)) i5 (Step.mk c19.op (Sh.w (k4+1)) c19.Ax c19.args c19.kids)) i5 (Step.mk c22.op c22.num (Sh.w ((Sh.w (k4+1)) + 1)) c22.args c22.kids)) (Am 3 55 71) i5 [(i64 c25.op),(i64 c25.num),(i64 c25.Ax),(.dv 3 1 (List.map eI q26.2)),(.dv 55 2 (List.map (A0 3 55 71) c25.kids))]⟩,⟨1,3,1,[]⟩]) rfl gc25 U U (by first | (simp only[Sh.BB];done) | (simp only[Sh.BB];omega) | omega) (by decide) (show 1≤1 by decide) (fun _=>U) rfl U) ?_
  refine Az (DK (id:=0) (i:=i5) (u:=(Step.mk c25.op c25.num c25.Ax q26.2 c25.kids)) (st':=[(ro 0 71 5 (Am 3 55 71) (Sh.put (Sh.put (Sh.put (Sh.put l6 i5 (Step.mk k4 c16.num c16.Ax c16.args c16.kids)) i5 (Step.mk c19.op (Sh.w (k4+1)) c19.Ax c19.args c19.kids)) i5 (Step.mk c22.op c22.num (Sh.w ((Sh.w (k4+1)) + 1)) c22.args c22.kids)) i5 (Step.mk c25.op c25.num c25.Ax q26.2 c25.kids))),⟨1,3,1,[]⟩]) rfl (DX (Step.mk c25.op c25.num c25.Ax q26.2 c25.kids)).symm U) (zq tb U (dn hK24 U (AJ U (zm tb 2 U (bs h1 fun c28 gc28 h1=>?_)))))
  refine zz (.ptr 0 0 (Int.toNat i5) 0) (B8 FD U U U (by first | (simp only[Sh.BB];done) | (simp only[Sh.BB];omega) | omega) gc28) rfl ?_
  refine zq tb U (Az (GP (id:=0) (j:=4) (i:=i5) (c:=c28) (ys:=c28.kids) (encY:=(A0 3 55 71)) (x:=[(i64 c28.op),(i64 c28.num),(i64 c28.Ax),(.dv 3 1 (List.map eI c28.args)),(.dv 55 2 (List.map (A0 3 55 71) c28.kids))]) (x':=[(i64 c28.op),(i64 c28.num),(i64 c28.Ax),(.dv 3 1 (List.map eI c28.args)),(ow 2 0 c28.kids)]) (st':=[⟨0,71,5,hole (Sh.put (Sh.put (Sh.put (Sh.put l6 i5 (Step.mk k4 c16.num c16.Ax c16.args c16.kids)) i5 (Step.mk c19.op (Sh.w (k4+1)) c19.Ax c19.args c19.kids)) i5 (Step.mk c22.op c22.num (Sh.w ((Sh.w (k4+1)) + 1)) c22.args c22.kids)) i5 (Step.mk c25.op c25.num c25.Ax q26.2 c25.kids)) (Am 3 55 71) i5 [(i64 c28.op),(i64 c28.num),(i64 c28.Ax),(.dv 3 1 (List.map eI c28.args)),(ow 2 0 c28.kids)]⟩,⟨1,3,1,[]⟩,(ro 0 55 2 (A0 3 55 71) c28.kids)]) rfl gc28 (DX _) rfl U U U) (zz (ow 2 0 c28.kids) (Cf Ym U U (Gl gc28) rfl) rfl (zq tb U (bs h1 fun q29 gq29 h1=>?_))))
  refine Ed (rowsP:=[⟨0,55,2,List.map (A0 3 55 71) c28.kids⟩]) (rows0:=[⟨0,55,2,List.map (A0 3 55 71) c28.kids⟩]) (rows1:=[⟨0,55,2,List.map (A0 3 55 71) q29.2⟩]) (rows2:=[]) (rows1':=[⟨0,55,2,List.map (A0 3 55 71) q29.2⟩]) (rows2':=[]) (st':=[⟨0,71,5,hole (Sh.put (Sh.put (Sh.put (Sh.put l6 i5 (Step.mk k4 c16.num c16.Ax c16.args c16.kids)) i5 (Step.mk c19.op (Sh.w (k4+1)) c19.Ax c19.args c19.kids)) i5 (Step.mk c22.op c22.num (Sh.w ((Sh.w (k4+1)) + 1)) c22.args c22.kids)) i5 (Step.mk c25.op c25.num c25.Ax q26.2 c25.kids)) (Am 3 55 71) i5 [(i64 c28.op),(i64 c28.num),(i64 c28.Ax),(.dv 3 1 (List.map eI c28.args)),(.own 2 0 (List.length c28.kids))]⟩,⟨1,3,1,[]⟩,⟨0,55,2,List.map (A0 3 55 71) q29.2⟩]) (v':=(i64 q29.1)) [2] Ah bY (Nk hrec_laws_markStepS gq29) rfl (by decide) rfl U (.deep (Af fun _=>U) .nil) rfl U (.deep (Af fun _=>U) .nil) .nil U U (fun hln=>?_)
  have ln30:List.length q29.2=List.length c28.kids:=by simpa only[List.length_map] using hln 0 _ _ rfl rfl rfl
  refine Az (Wk.take (id:=0) (m:=2) (j:=4) (i:=i5) (c:=c28) (ys:=q29.2) (encY:=(A0 3 55 71)) (x':=[(i64 c28.op),(i64 c28.num),(i64 c28.Ax),(.dv 3 1 (List.map eI c28.args)),(.dv 55 2 (List.map (A0 3 55 71) q29.2))]) (st':=[⟨0,71,5,hole (Sh.put (Sh.put (Sh.put (Sh.put l6 i5 (Step.mk k4 c16.num c16.Ax c16.args c16.kids)) i5 (Step.mk c19.op (Sh.w (k4+1)) c19.Ax c19.args c19.kids)) i5 (Step.mk c22.op c22.num (Sh.w ((Sh.w (k4+1)) + 1)) c22.args c22.kids)) i5 (Step.mk c25.op c25.num c25.Ax q26.2 c25.kids)) (Am 3 55 71) i5 [(i64 c28.op),(i64 c28.num),(i64 c28.Ax),(.dv 3 1 (List.map eI c28.args)),(.dv 55 2 (List.map (A0 3 55 71) q29.2))]⟩,⟨1,3,1,[]⟩,⟨1,55,2,[]⟩]) rfl gc28 U U (by first | (simp only[Sh.BB];done) | (simp only[Sh.BB];omega) | omega) (by decide) (show 1≤2 by decide) (fun _=>U) rfl U) ?_
  refine Az (DK (id:=0) (i:=i5) (u:=(Step.mk c28.op c28.num c28.Ax c28.args q29.2)) (st':=[(ro 0 71 5 (Am 3 55 71) (Sh.put (Sh.put (Sh.put (Sh.put (Sh.put l6 i5 (Step.mk k4 c16.num c16.Ax c16.args c16.kids)) i5 (Step.mk c19.op (Sh.w (k4+1)) c19.Ax c19.args c19.kids)) i5 (Step.mk c22.op c22.num (Sh.w ((Sh.w (k4+1)) + 1)) c22.args c22.kids)) i5 (Step.mk c25.op c25.num c25.Ax q26.2 c25.kids)) i5 (Step.mk c28.op c28.num c28.Ax c28.args q29.2))),⟨1,3,1,[]⟩,⟨1,55,2,[]⟩]) rfl (DX (Step.mk c28.op c28.num c28.Ax c28.args q29.2)).symm U) (zq tb U (dn hK14 U (AJ U (zm tb 3 U ?_))))
  exact AB (xi (q29.1,Sh.w (i5+1),Sh.put (Sh.put (Sh.put (Sh.put (Sh.put l6 i5 (Step.mk k4 c16.num c16.Ax c16.args c16.kids)) i5 (Step.mk c19.op (Sh.w (k4+1)) c19.Ax c19.args c19.kids)) i5 (Step.mk c22.op c22.num (Sh.w ((Sh.w (k4+1)) + 1)) c22.args c22.kids)) i5 (Step.mk c25.op c25.num c25.Ax q26.2 c25.kids)) i5 (Step.mk c28.op c28.num c28.Ax c28.args q29.2)) h1 (by refine Wk.trans (AP (L:=[(0,(.own 0 0 (List.length l6))),(1,(i64 q29.1)),(5,(i64 (Sh.w (i5+1))))]) (st':=[⟨0,71,5,List.map (Am 3 55 71) (Sh.put (Sh.put (Sh.put (Sh.put (Sh.put l6 i5 (Step.mk k4 c16.num c16.Ax c16.args c16.kids)) i5 (Step.mk c19.op (Sh.w (k4+1)) c19.Ax c19.args c19.kids)) i5 (Step.mk c22.op c22.num (Sh.w ((Sh.w (k4+1)) + 1)) c22.args c22.kids)) i5 (Step.mk c25.op c25.num c25.Ax q26.2 c25.kids)) i5 (Step.mk c28.op c28.num c28.Ax c28.args q29.2))⟩]) (st1:=[⟨0,71,5,List.map (Am 3 55 71) (Sh.put (Sh.put (Sh.put (Sh.put (Sh.put l6 i5 (Step.mk k4 c16.num c16.Ax c16.args c16.kids)) i5 (Step.mk c19.op (Sh.w (k4+1)) c19.Ax c19.args c19.kids)) i5 (Step.mk c22.op c22.num (Sh.w ((Sh.w (k4+1)) + 1)) c22.args c22.kids)) i5 (Step.mk c25.op c25.num c25.Ax q26.2 c25.kids)) i5 (Step.mk c28.op c28.num c28.Ax c28.args q29.2))⟩]) [0] U (.deep (Af BQ) .nil) (by decide) rfl U (.deep (Af BQ) .nil) ⟨.rfl,.rfl,.rfl,trivial⟩) ?_;exact AF (L:=[(0,(.own 0 0 (List.length (Sh.put (Sh.put (Sh.put (Sh.put (Sh.put l6 i5 (Step.mk k4 c16.num c16.Ax c16.args c16.kids)) i5 (Step.mk c19.op (Sh.w (k4+1)) c19.Ax c19.args c19.kids)) i5 (Step.mk c22.op c22.num (Sh.w ((Sh.w (k4+1)) + 1)) c22.args c22.kids)) i5 (Step.mk c25.op c25.num c25.Ax q26.2 c25.kids)) i5 (Step.mk c28.op c28.num c28.Ax c28.args q29.2))))),(1,(i64 q29.1)),(5,(i64 (Sh.w (i5+1))))]) ⟨(.len (by first | (simp only[Sh.BB];done) | (simp only[Sh.BB];omega) | omega)),.rfl,.rfl,trivial⟩))
 ·intro b13 h1
  exact Ay (M9 k4 l6 (Sh.AA h1).symm _ (AN U))

theorem MO {N:Nat} :∀(n:Nat),∀{s0:(List Step)} {p1:Int} {r:Int×(List Step)},DG N n s0 p1=some r→Ae Tryz.prog 92 [(ow 0 0 s0),(i64 p1)] [(ro 0 71 5 (Am 3 55 71) s0)] (fun v st=>v=(i64 r.1)∧st=[(ro 0 71 5 (Am 3 55 71) r.2)]):=by
 intro n
 induction n with
 | zero=>intro s0 p1 r h0;cases h0
 | succ n ih=>
  intro s0 p1 r h0
  rw[DG] at h0
  exact MQ (fun h=>ih h) h0
theorem N8 {N:Nat} :∀{s0:(List Step)} {p1:Int} {r:Int×(List Step)},Hu N s0 p1=some r→Ae Tryz.prog 92 [(ow 0 0 s0),(i64 p1)] [(ro 0 71 5 (Am 3 55 71) s0)] (fun v st=>v=(i64 r.1)∧st=[(ro 0 71 5 (Am 3 55 71) r.2)]):=by
 intro s0 p1 r h0
 exact MO N h0
theorem L7 {N:Nat} {s0:(List Ac)} {p1:Int} {r:Int×(List Ac)} (h0:FU N s0 p1=some r):Ae Tryz.prog 44 [(ow 0 0 s0),(i64 p1)] [(ro 0 57 5 (AM 3 3 3 55 71) s0)] (fun v st=>v=(i64 r.1)∧st=[(ro 0 57 5 (AM 3 3 3 55 71) r.2)]):=by
 unfold FU at h0
 refine ai Tryz.func44 U U U U (zr tb U U (AE fun K2 hK2=>zr tb U U (bs h0 fun o9 h1 h0=>?_)))
 have M9 :∀(k7:Int) (l8:(List Ac)),o9=(k7,l8)→∀s,Wk 1 s ⟨50,Ad [(1,(i64 k7))],[(ro 0 57 5 (AM 3 3 3 55 71) l8)]⟩→K2 s:=by
  intro k7 l8 hq s hw
  subst o9
  try dsimp only at h0
  refine hK2 _ (AS hw (zr tb U U ?_))
  replace h0:=Sh.AA h0
  subst r
  exact AK (xr (AF (L:=[(4,(i64 k7))]) ⟨.rfl,trivial⟩))
 refine Aa (Au (σ:=Int×Int×(List Ac)) (fun n v=>CW N n v.1 v.2.1 v.2.2=some o9) (fun (k4,i5,l6)=>⟨50,Ad [(0,(ow 0 0 l6)),(1,(i64 k4)),(5,(i64 i5))],[(ro 0 57 5 (AM 3 3 3 55 71) l6)]⟩) N (p1,0,s0) h1 (AN U) (fun _ hv=>by rw[CW] at hv;cases hv) ?_)
 rintro n ⟨k4,i5,l6⟩ h1
 try dsimp only at h1 ⊢
 rw[CW] at h1
 refine AE fun K11 hK11=>sr U fun K12 hK12=>zm tb 2 U (zz (i64 (Sh.len l6)) (Ek aT U U U) rfl (zq tb U (dn hK12 U ?_)))
 refine ci h1 U ?_ ?_ <;> clear h1
 ·intro b13 h1
  refine AI (hK11 _ (AE fun K14 hK14=>Aa (sr U fun K15 hK15=>zm tb 2 U (bs h1 fun c16 gc16 h1=>zz (.ptr 0 0 (Int.toNat i5) 0) (B8 E7 U U U U gc16) rfl (zq tb U (Az (GP (id:=0) (j:=0) (i:=i5) (c:=c16) (ys:=c16.params) (encY:=eI) (x:=[(.dv 3 1 (List.map eI c16.params)),(.dv 3 1 (List.map eI c16.At)),(i64 c16.result),(.dv 71 5 (List.map (Am 3 55 71) c16.body.steps)),(i64 c16.body.result)]) (x':=[(ow 1 0 c16.params),(.dv 3 1 (List.map eI c16.At)),(i64 c16.result),(.dv 71 5 (List.map (Am 3 55 71) c16.body.steps)),(i64 c16.body.result)]) (st':=[⟨0,57,5,hole l6 (AM 3 3 3 55 71) i5 [(ow 1 0 c16.params),(.dv 3 1 (List.map eI c16.At)),(i64 c16.result),(.dv 71 5 (List.map (Am 3 55 71) c16.body.steps)),(i64 c16.body.result)]⟩,(ro 0 3 1 eI c16.params)]) rfl gc16 U U U U U) (zz (ow 1 0 c16.params) (Cf Iu U U (Gl gc16) rfl) rfl (zq tb U (bs h1 fun q17 gq17 h1=>?_)))))))))
  refine Ed (rowsP:=[⟨0,3,1,List.map eI c16.params⟩]) (rows0:=[⟨0,3,1,List.map eI c16.params⟩]) (rows1:=[⟨0,3,1,List.map eI q17.2⟩]) (rows2:=[]) (rows1':=[⟨0,3,1,List.map eI q17.2⟩]) (rows2':=[]) (st':=[⟨0,57,5,hole l6 (AM 3 3 3 55 71) i5 [(.own 1 0 (List.length c16.params)),(.dv 3 1 (List.map eI c16.At)),(i64 c16.result),(.dv 71 5 (List.map (Am 3 55 71) c16.body.steps)),(i64 c16.body.result)]⟩,⟨0,3,1,List.map eI q17.2⟩]) (v':=(i64 q17.1)) [1] Ah WS (Gx gq17) rfl (by decide) rfl U (.pure (Ak fun _=>U) .nil) rfl U (.pure (Ak fun _=>U) .nil) .nil U U (fun hln=>?_)
  have ln18:List.length q17.2=List.length c16.params:=by simpa only[List.length_map] using hln 0 _ _ rfl rfl rfl
  refine Az (Wk.take (id:=0) (m:=1) (j:=0) (i:=i5) (c:=c16) (ys:=q17.2) (encY:=eI) (x':=[(.dv 3 1 (List.map eI q17.2)),(.dv 3 1 (List.map eI c16.At)),(i64 c16.result),(.dv 71 5 (List.map (Am 3 55 71) c16.body.steps)),(i64 c16.body.result)]) (st':=[⟨0,57,5,hole l6 (AM 3 3 3 55 71) i5 [(.dv 3 1 (List.map eI q17.2)),(.dv 3 1 (List.map eI c16.At)),(i64 c16.result),(.dv 71 5 (List.map (Am 3 55 71) c16.body.steps)),(i64 c16.body.result)]⟩,⟨1,3,1,[]⟩]) rfl gc16 U U (by first | (simp only[Sh.BB];done) | (simp only[Sh.BB];omega) | omega) (by decide) (show 1≤1 by decide) (fun _=>U) rfl U) ?_
  refine Az (DK (id:=0) (i:=i5) (u:=(Ac.mk q17.2 c16.At c16.result c16.body)) (st':=[(ro 0 57 5 (AM 3 3 3 55 71) (Sh.put l6 i5 (Ac.mk q17.2 c16.At c16.result c16.body))),⟨1,3,1,[]⟩]) rfl U U) (zq tb U (dn hK15 U (sr U fun K19 hK19=>zm tb 2 U (bs h1 fun c20 gc20 h1=>?_))))
  refine zz (.ptr 0 0 (Int.toNat i5) 0) (B8 E7 U U U (by first | (simp only[Sh.BB];done) | (simp only[Sh.BB];omega) | omega) gc20) rfl ?_
  refine zq tb U (Az (GP (id:=0) (j:=1) (i:=i5) (c:=c20) (ys:=c20.At) (encY:=eI) (x:=[(.dv 3 1 (List.map eI c20.params)),(.dv 3 1 (List.map eI c20.At)),(i64 c20.result),(.dv 71 5 (List.map (Am 3 55 71) c20.body.steps)),(i64 c20.body.result)]) (x':=[(.dv 3 1 (List.map eI c20.params)),(ow 2 0 c20.At),(i64 c20.result),(.dv 71 5 (List.map (Am 3 55 71) c20.body.steps)),(i64 c20.body.result)]) (st':=[⟨0,57,5,hole (Sh.put l6 i5 (Ac.mk q17.2 c16.At c16.result c16.body)) (AM 3 3 3 55 71) i5 [(.dv 3 1 (List.map eI c20.params)),(ow 2 0 c20.At),(i64 c20.result),(.dv 71 5 (List.map (Am 3 55 71) c20.body.steps)),(i64 c20.body.result)]⟩,⟨1,3,1,[]⟩,(ro 0 3 1 eI c20.At)]) rfl gc20 U U U U U) (zz (ow 2 0 c20.At) (Cf Iu U U (Gl gc20) rfl) rfl (zq tb U (bs h1 fun q21 gq21 h1=>?_))))
  refine Ed (rowsP:=[⟨0,3,1,List.map eI c20.At⟩]) (rows0:=[⟨0,3,1,List.map eI c20.At⟩]) (rows1:=[⟨0,3,1,List.map eI q21.2⟩]) (rows2:=[]) (rows1':=[⟨0,3,1,List.map eI q21.2⟩]) (rows2':=[]) (st':=[⟨0,57,5,hole (Sh.put l6 i5 (Ac.mk q17.2 c16.At c16.result c16.body)) (AM 3 3 3 55 71) i5 [(.dv 3 1 (List.map eI c20.params)),(.own 2 0 (List.length c20.At)),(i64 c20.result),(.dv 71 5 (List.map (Am 3 55 71) c20.body.steps)),(i64 c20.body.result)]⟩,⟨1,3,1,[]⟩,⟨0,3,1,List.map eI q21.2⟩]) (v':=(i64 q21.1)) [2] Ah WS (Gx gq21) rfl (by decide) rfl U (.pure (Ak fun _=>U) .nil) rfl U (.pure (Ak fun _=>U) .nil) .nil U U (fun hln=>?_)
  have ln22:List.length q21.2=List.length c20.At:=by simpa only[List.length_map] using hln 0 _ _ rfl rfl rfl
  refine Az (Wk.take (id:=0) (m:=2) (j:=1) (i:=i5) (c:=c20) (ys:=q21.2) (encY:=eI) (x':=[(.dv 3 1 (List.map eI c20.params)),(.dv 3 1 (List.map eI q21.2)),(i64 c20.result),(.dv 71 5 (List.map (Am 3 55 71) c20.body.steps)),(i64 c20.body.result)]) (st':=[⟨0,57,5,hole (Sh.put l6 i5 (Ac.mk q17.2 c16.At c16.result c16.body)) (AM 3 3 3 55 71) i5 [(.dv 3 1 (List.map eI c20.params)),(.dv 3 1 (List.map eI q21.2)),(i64 c20.result),(.dv 71 5 (List.map (Am 3 55 71) c20.body.steps)),(i64 c20.body.result)]⟩,⟨1,3,1,[]⟩,⟨1,3,1,[]⟩]) rfl gc20 U U (by first | (simp only[Sh.BB];done) | (simp only[Sh.BB];omega) | omega) (by decide) (show 1≤2 by decide) (fun _=>U) rfl U) ?_
  refine Az (DK (id:=0) (i:=i5) (u:=(Ac.mk c20.params q21.2 c20.result c20.body)) (st':=[(ro 0 57 5 (AM 3 3 3 55 71) (Sh.put (Sh.put l6 i5 (Ac.mk q17.2 c16.At c16.result c16.body)) i5 (Ac.mk c20.params q21.2 c20.result c20.body))),⟨1,3,1,[]⟩,⟨1,3,1,[]⟩]) rfl U U) (zq tb U (dn hK19 U (sr U fun K23 hK23=>zm tb 3 U (bs h1 fun c24 gc24 h1=>?_))))
  refine zz (.ptr 0 0 (Int.toNat i5) 0) (B8 E7 U U U (by first | (simp only[Sh.BB];done) | (simp only[Sh.BB];omega) | omega) gc24) rfl ?_
  refine zq tb U (JI (st':=[(ro 0 57 5 (AM 3 3 3 55 71) (Sh.put (Sh.put (Sh.put l6 i5 (Ac.mk q17.2 c16.At c16.result c16.body)) i5 (Ac.mk c20.params q21.2 c20.result c20.body)) i5 (Ac.mk c24.params c24.At q21.1 c24.body))),⟨1,3,1,[]⟩,⟨1,3,1,[]⟩]) (u':=(Ac.mk c24.params c24.At q21.1 c24.body)) Ah HN U U gc24 U U U (show 2+1≤5 by decide) rfl U (dn hK23 U (zr tb U U (sr U fun K26 hK26=>zm tb 2 U (bs h1 fun c27 gc27 h1=>?_)))))
  refine zz (.ptr 0 0 (Int.toNat i5) 0) (B8 E7 U U U (by first | (simp only[Sh.BB];done) | (simp only[Sh.BB];omega) | omega) gc27) rfl ?_
  refine zm tb 2 U (Az (GP (id:=0) (j:=3) (i:=i5) (c:=c27) (ys:=c27.body.steps) (encY:=(Am 3 55 71)) (x:=[(.dv 3 1 (List.map eI c27.params)),(.dv 3 1 (List.map eI c27.At)),(i64 c27.result),(.dv 71 5 (List.map (Am 3 55 71) c27.body.steps)),(i64 c27.body.result)]) (x':=[(.dv 3 1 (List.map eI c27.params)),(.dv 3 1 (List.map eI c27.At)),(i64 c27.result),(ow 3 0 c27.body.steps),(i64 c27.body.result)]) (st':=[⟨0,57,5,hole (Sh.put (Sh.put (Sh.put l6 i5 (Ac.mk q17.2 c16.At c16.result c16.body)) i5 (Ac.mk c20.params q21.2 c20.result c20.body)) i5 (Ac.mk c24.params c24.At q21.1 c24.body)) (AM 3 3 3 55 71) i5 [(.dv 3 1 (List.map eI c27.params)),(.dv 3 1 (List.map eI c27.At)),(i64 c27.result),(ow 3 0 c27.body.steps),(i64 c27.body.result)]⟩,⟨1,3,1,[]⟩,⟨1,3,1,[]⟩,(ro 0 71 5 (Am 3 55 71) c27.body.steps)]) rfl gc27 U U U U U) (zz (ow 3 0 c27.body.steps) (Cf Ub U U (Gl gc27) rfl) rfl (zq tb U (bs h1 fun q28 gq28 h1=>?_))))
  refine Ed (rowsP:=[⟨0,71,5,List.map (Am 3 55 71) c27.body.steps⟩]) (rows0:=[⟨0,71,5,List.map (Am 3 55 71) c27.body.steps⟩]) (rows1:=[⟨0,71,5,List.map (Am 3 55 71) q28.2⟩]) (rows2:=[]) (rows1':=[⟨0,71,5,List.map (Am 3 55 71) q28.2⟩]) (rows2':=[]) (st':=[⟨0,57,5,hole (Sh.put (Sh.put (Sh.put l6 i5 (Ac.mk q17.2 c16.At c16.result c16.body)) i5 (Ac.mk c20.params q21.2 c20.result c20.body)) i5 (Ac.mk c24.params c24.At q21.1 c24.body)) (AM 3 3 3 55 71) i5 [(.dv 3 1 (List.map eI c27.params)),(.dv 3 1 (List.map eI c27.At)),(i64 c27.result),(.own 3 0 (List.length c27.body.steps)),(i64 c27.body.result)]⟩,⟨1,3,1,[]⟩,⟨1,3,1,[]⟩,⟨0,71,5,List.map (Am 3 55 71) q28.2⟩]) (v':=(i64 q28.1)) [3] Ah aY (N8 gq28) rfl (by decide) rfl U (.deep (Af BQ) .nil) rfl U (.deep (Af BQ) .nil) .nil U U (fun hln=>?_)
  have ln29:List.length q28.2=List.length c27.body.steps:=by simpa only[List.length_map] using hln 0 _ _ rfl rfl rfl
  refine Az (Wk.take (id:=0) (m:=3) (j:=3) (i:=i5) (c:=c27) (ys:=q28.2) (encY:=(Am 3 55 71)) (x':=[(.dv 3 1 (List.map eI c27.params)),(.dv 3 1 (List.map eI c27.At)),(i64 c27.result),(.dv 71 5 (List.map (Am 3 55 71) q28.2)),(i64 c27.body.result)]) (st':=[⟨0,57,5,hole (Sh.put (Sh.put (Sh.put l6 i5 (Ac.mk q17.2 c16.At c16.result c16.body)) i5 (Ac.mk c20.params q21.2 c20.result c20.body)) i5 (Ac.mk c24.params c24.At q21.1 c24.body)) (AM 3 3 3 55 71) i5 [(.dv 3 1 (List.map eI c27.params)),(.dv 3 1 (List.map eI c27.At)),(i64 c27.result),(.dv 71 5 (List.map (Am 3 55 71) q28.2)),(i64 c27.body.result)]⟩,⟨1,3,1,[]⟩,⟨1,3,1,[]⟩,⟨1,71,5,[]⟩]) rfl gc27 U U (by first | (simp only[Sh.BB];done) | (simp only[Sh.BB];omega) | omega) (by decide) (show 1≤3 by decide) HO U U) ?_
  refine Az (DK (id:=0) (i:=i5) (u:=(Ac.mk c27.params c27.At c27.result (Block.mk q28.2 c27.body.result))) (st':=[(ro 0 57 5 (AM 3 3 3 55 71) (Sh.put (Sh.put (Sh.put (Sh.put l6 i5 (Ac.mk q17.2 c16.At c16.result c16.body)) i5 (Ac.mk c20.params q21.2 c20.result c20.body)) i5 (Ac.mk c24.params c24.At q21.1 c24.body)) i5 (Ac.mk c27.params c27.At c27.result (Block.mk q28.2 c27.body.result)))),⟨1,3,1,[]⟩,⟨1,3,1,[]⟩,⟨1,71,5,[]⟩]) rfl U U) (zq tb U (dn hK26 U (sr U fun K30 hK30=>zm tb 3 U (bs h1 fun c31 gc31 h1=>?_))))
  refine zz (.ptr 0 0 (Int.toNat i5) 0) (B8 E7 U U U (by first | (simp only[Sh.BB];done) | (simp only[Sh.BB];omega) | omega) gc31) rfl ?_
  refine zm tb 2 U (JI (st':=[(ro 0 57 5 (AM 3 3 3 55 71) (Sh.put (Sh.put (Sh.put (Sh.put (Sh.put l6 i5 (Ac.mk q17.2 c16.At c16.result c16.body)) i5 (Ac.mk c20.params q21.2 c20.result c20.body)) i5 (Ac.mk c24.params c24.At q21.1 c24.body)) i5 (Ac.mk c27.params c27.At c27.result (Block.mk q28.2 c27.body.result))) i5 (Ac.mk c31.params c31.At c31.result (Block.mk c31.body.steps q28.1)))),⟨1,3,1,[]⟩,⟨1,3,1,[]⟩,⟨1,71,5,[]⟩]) (u':=(Ac.mk c31.params c31.At c31.result (Block.mk c31.body.steps q28.1))) Ah HN U U gc31 U U U (show 4+1≤5 by decide) rfl U (dn hK30 U (AJ U (zm tb 3 U (dn hK14 U (AJ U (zm tb 3 U ?_)))))))
  exact AB (xi (Sh.w (q28.1+1),Sh.w (i5+1),Sh.put (Sh.put (Sh.put (Sh.put (Sh.put l6 i5 (Ac.mk q17.2 c16.At c16.result c16.body)) i5 (Ac.mk c20.params q21.2 c20.result c20.body)) i5 (Ac.mk c24.params c24.At q21.1 c24.body)) i5 (Ac.mk c27.params c27.At c27.result (Block.mk q28.2 c27.body.result))) i5 (Ac.mk c31.params c31.At c31.result (Block.mk c31.body.steps q28.1))) h1 (by refine Wk.trans (AP (L:=[(0,(.own 0 0 (List.length l6))),(1,(i64 (Sh.w (q28.1+1)))),(5,(i64 (Sh.w (i5+1))))]) (st':=[⟨0,57,5,List.map (AM 3 3 3 55 71) (Sh.put (Sh.put (Sh.put (Sh.put (Sh.put l6 i5 (Ac.mk q17.2 c16.At c16.result c16.body)) i5 (Ac.mk c20.params q21.2 c20.result c20.body)) i5 (Ac.mk c24.params c24.At q21.1 c24.body)) i5 (Ac.mk c27.params c27.At c27.result (Block.mk q28.2 c27.body.result))) i5 (Ac.mk c31.params c31.At c31.result (Block.mk c31.body.steps q28.1)))⟩]) (st1:=[⟨0,57,5,List.map (AM 3 3 3 55 71) (Sh.put (Sh.put (Sh.put (Sh.put (Sh.put l6 i5 (Ac.mk q17.2 c16.At c16.result c16.body)) i5 (Ac.mk c20.params q21.2 c20.result c20.body)) i5 (Ac.mk c24.params c24.At q21.1 c24.body)) i5 (Ac.mk c27.params c27.At c27.result (Block.mk q28.2 c27.body.result))) i5 (Ac.mk c31.params c31.At c31.result (Block.mk c31.body.steps q28.1)))⟩]) [0] U (.deep (Af fun _=>U) .nil) (by decide) rfl U (.deep (Af fun _=>U) .nil) ⟨.rfl,.rfl,.rfl,trivial⟩) ?_;exact AF (L:=[(0,(.own 0 0 (List.length (Sh.put (Sh.put (Sh.put (Sh.put (Sh.put l6 i5 (Ac.mk q17.2 c16.At c16.result c16.body)) i5 (Ac.mk c20.params q21.2 c20.result c20.body)) i5 (Ac.mk c24.params c24.At q21.1 c24.body)) i5 (Ac.mk c27.params c27.At c27.result (Block.mk q28.2 c27.body.result))) i5 (Ac.mk c31.params c31.At c31.result (Block.mk c31.body.steps q28.1)))))),(1,(i64 (Sh.w (q28.1+1)))),(5,(i64 (Sh.w (i5+1))))]) ⟨(.len (by first | (simp only[Sh.BB];done) | (simp only[Sh.BB];omega) | omega)),.rfl,.rfl,trivial⟩))
 ·intro b13 h1
  exact Ay (M9 k4 l6 (Sh.AA h1).symm _ (AN U))
noncomputable abbrev bn (s0:(List Ag)) (s1:(List Ac)):Go.Abs.Row:=⟨0,30,2,[[(.own 0 0 (List.length s0)),(.own 1 0 (List.length s1))]]⟩
theorem Jk {N:Nat} {s0:(List Ag)} {s1:(List Ac)} {p1:Int} {r:Int×(List Ag)×(List Ac)} (h0:FG N s0 s1 p1=some r):Ae Tryz.prog 13 [(.agg [(ow 0 0 s0),(ow 1 0 s1)]),(i64 p1)] [(ro 0 98 3 (Ab 134 3) s0),(ro 0 57 5 (AM 3 3 3 55 71) s1)] (fun v st=>v=(i64 r.1)∧st=[(ro 0 98 3 (Ab 134 3) r.2.1),(ro 0 57 5 (AM 3 3 3 55 71) r.2.2)]):=by
 unfold FG at h0
 refine ai Tryz.func13 U U U U (sr U fun K1 hK1=>BI (m:=2) (st':=[(ro 0 98 3 (Ab 134 3) s0),(ro 0 57 5 (AM 3 3 3 55 71) s1),⟨0,30,2,[[(ow 0 0 s0),(ow 1 0 s1)]]⟩]) Ah U U U U U (zq tb U (dn hK1 U (sr U fun K2 hK2=>zm tb 3 U (bs h0 fun q3 gq3 h0=>?_)))))
 refine Ed (rowsP:=[⟨0,98,3,List.map (Ab 134 3) s0⟩]) (rows0:=[⟨0,98,3,List.map (Ab 134 3) s0⟩]) (rows1:=[⟨0,98,3,List.map (Ab 134 3) q3.2⟩]) (rows2:=[]) (rows1':=[⟨0,98,3,List.map (Ab 134 3) q3.2⟩]) (rows2':=[]) (st':=[⟨0,98,3,List.map (Ab 134 3) q3.2⟩,⟨0,57,5,List.map (AM 3 3 3 55 71) s1⟩,(bn s0 s1)]) (v':=(i64 q3.1)) [0] Ah ct (OG gq3) rfl (by decide) rfl U (.deep (Af fun _=>U) .nil) rfl U (.deep (Af fun _=>U) .nil) .nil U U (fun hln=>?_)
 have ln4:List.length q3.2=List.length s0:=by simpa only[List.length_map] using hln 0 _ _ rfl rfl rfl
 refine zq tb U (dn hK2 U (sr U fun K5 hK5=>zm tb 3 U (bs h0 fun q6 gq6 h0=>?_)))
 refine Ed (rowsP:=[⟨0,57,5,List.map (AM 3 3 3 55 71) s1⟩]) (rows0:=[⟨0,57,5,List.map (AM 3 3 3 55 71) s1⟩]) (rows1:=[⟨0,57,5,List.map (AM 3 3 3 55 71) q6.2⟩]) (rows2:=[]) (rows1':=[⟨0,57,5,List.map (AM 3 3 3 55 71) q6.2⟩]) (rows2':=[]) (st':=[⟨0,98,3,List.map (Ab 134 3) q3.2⟩,⟨0,57,5,List.map (AM 3 3 3 55 71) q6.2⟩,(bn s0 s1)]) (v':=(i64 q6.1)) [1] Ah dZ (L7 gq6) rfl (by decide) rfl U (.deep (Af fun _=>U) .nil) rfl U (.deep (Af fun _=>U) .nil) .nil U U (fun hln=>?_)
 have ln7:List.length q6.2=List.length s1:=by simpa only[List.length_map] using hln 0 _ _ rfl rfl rfl
 refine zq tb U (dn hK5 U (zr tb U U ?_))
 replace h0:=Sh.AA h0
 subst r
 exact AK (Exists.intro _ (And.intro (((DQ (st:=[⟨0,98,3,List.map (Ab 134 3) q3.2⟩,⟨0,57,5,List.map (AM 3 3 3 55 71) q6.2⟩,(bn s0 s1)]) (st':=[⟨0,98,3,List.map (Ab 134 3) q3.2⟩,⟨0,57,5,List.map (AM 3 3 3 55 71) q6.2⟩,⟨0,30,2,[[(.own 0 0 (List.length q3.2)),(.own 1 0 (List.length q6.2))]]⟩]) (by first | (simp only[Sh.BB];done) | simp only[Sh.BB,ln4,ln7] | simp only[ln4,ln7])).trans (AP (L:=[(4,(i64 q6.1))]) (st':=[⟨0,98,3,List.map (Ab 134 3) q3.2⟩,⟨0,57,5,List.map (AM 3 3 3 55 71) q6.2⟩]) (st1:=[⟨0,98,3,List.map (Ab 134 3) q3.2⟩,⟨0,57,5,List.map (AM 3 3 3 55 71) q6.2⟩]) [0,1] U (.deep (Af fun _=>U) (.deep (Af fun _=>U) .nil)) (by decide) rfl U (.deep (Af fun _=>U) (.deep (Af fun _=>U) .nil)) ⟨.rfl,trivial⟩)).trans (AF (L:=[(4,(i64 q6.1))]) ⟨.rfl,trivial⟩)) (And.intro U U)))
theorem Gv {N:Nat} {p0:(List Int)} {p1:Int} {r:Int} (h0:Ey N p0 p1=some r):Ae Tryz.prog 21 [(ls eI p0),(i64 p1)] [] (fun v st=>v=(i64 r)∧st=[]):=by
 unfold Ey at h0
 refine ai Tryz.func21 U U U U (zr tb U U (AE fun K2 hK2=>zr tb U U ?_))
 obtain⟨o7,h1,h0⟩:=Sh.A8 h0
 have M7 :∀(k6:Int),o7=Sum.inr k6→∀s,Wk 0 s ⟨21,Ad [(1,(i64 k6))],[]⟩→K2 s:=by
  intro k6 hq s hw
  subst o7
  try dsimp only at h0
  refine hK2 _ (AS hw (zr tb U U ?_))
  replace h0:=Sh.AA h0
  subst r
  exact AK (xr (AF (L:=[(4,(i64 k6))]) ⟨.rfl,trivial⟩))
 refine Aa (Au (σ:=Int×Int) (fun n v=>Dr p0 n v.1 v.2=some o7) (fun (k4,i5)=>⟨21,Ad [(0,(ls eI p0)),(1,(i64 k4)),(5,(i64 i5))],[]⟩) N (p1,0) h1 (AN U) (fun _ hv=>by rw[Dr] at hv;cases hv) ?_)
 rintro n ⟨k4,i5⟩ h1
 try dsimp only at h1 ⊢
 rw[Dr] at h1
 refine AE fun K9 hK9=>sr U fun K10 hK10=>zm tb 2 U (zl tb U U (zq tb U (dn hK10 U ?_)))
 refine ci h1 U ?_ ?_ <;> clear h1
 ·intro b11 h1
  refine AI (hK9 _ (AE fun K12 hK12=>Aa (AE fun K13 hK13=>sr U fun K14 hK14=>zm tb 2 U (bs h1 fun c15 gc15 h1=>zx BN gc15 U U U (zm tb 3 U (dn hK14 U ?_))))))
  refine ci h1 U ?_ ?_ <;> clear h1
  ·intro b16 h1
   have b17:decide (c15=k4)=false:=by simpa using b16
   refine zr tb U U ?_
   replace h1:=Sh.AA h1
   subst o7
   try dsimp only[id] at h0
   replace h0:=Sh.AA h0
   subst r
   exact AK (xr (AF (L:=[(4,(i64 (-1)))]) ⟨.rfl,trivial⟩))
  ·intro b16 h1
   have b19:decide (c15=k4)=true:=by simpa using b16
   exact AI (hK13 _ (AJ U (zm tb 3 U (dn hK12 U (AJ U (zm tb 3 U (AB (xi (Sh.w (k4+1),Sh.w (i5+1)) h1 (AN U)))))))))
 ·intro b11 h1
  exact Ay (M7 k4 (Sh.AA h1).symm _ (AN U))
theorem O9 {N:Nat} {p0:(List BO)} {p1:Int} {r:Int} (h0:G5 N p0 p1=some r):Ae Tryz.prog 93 [(ls Ar p0),(i64 p1)] [] (fun v st=>v=(i64 r)∧st=[]):=by
 unfold G5 at h0
 refine ai Tryz.func93 U U U U (zr tb U U (AE fun K2 hK2=>zr tb U U ?_))
 obtain⟨o7,h1,h0⟩:=Sh.A8 h0
 have M7 :∀(k6:Int),o7=Sum.inr k6→∀s,Wk 0 s ⟨22,Ad [(1,(i64 k6))],[]⟩→K2 s:=by
  intro k6 hq s hw
  subst o7
  try dsimp only at h0
  refine hK2 _ (AS hw (zr tb U U ?_))
  replace h0:=Sh.AA h0
  subst r
  exact AK (xr (AF (L:=[(4,(i64 k6))]) ⟨.rfl,trivial⟩))
 refine Aa (Au (σ:=Int×Int) (fun n v=>Ds N p0 n v.1 v.2=some o7) (fun (k4,i5)=>⟨22,Ad [(0,(ls Ar p0)),(1,(i64 k4)),(5,(i64 i5))],[]⟩) N (p1,0) h1 (AN U) (fun _ hv=>by rw[Ds] at hv;cases hv) ?_)
 rintro n ⟨k4,i5⟩ h1
 try dsimp only at h1 ⊢
 rw[Ds] at h1
 refine AE fun K9 hK9=>sr U fun K10 hK10=>zm tb 2 U (zl tb U U (zq tb U (dn hK10 U ?_)))
 refine ci h1 U ?_ ?_ <;> clear h1
 ·intro b11 h1
  refine AI (hK9 _ (AE fun K12 hK12=>Aa (sr U fun K13 hK13=>zm tb 2 U (bs h1 fun c14 gc14 h1=>zx IC gc14 U U U (zm tb 3 U (bs h1 fun q15 gq15 h1=>zc Wn (Gv gq15) rfl U U (zq tb U (dn hK13 U ?_))))))))
  refine zr tb U U ?_
  refine ci h1 U ?_ ?_ <;> clear h1
  ·intro b17 h1
   refine zr tb U U ?_
   replace h1:=Sh.AA h1
   subst o7
   try dsimp only[id] at h0
   replace h0:=Sh.AA h0
   subst r
   exact AK (xr (AF (L:=[(4,(i64 (-1)))]) ⟨.rfl,trivial⟩))
  ·intro b17 h1
   exact AI (hK12 _ (AJ U (zm tb 3 U (AB (xi (q15,Sh.w (i5+1)) h1 (AN U))))))
 ·intro b11 h1
  exact Ay (M7 k4 (Sh.AA h1).symm _ (AN U))
theorem OB {N:Nat} {p0:(List Ag)} {p1:Int} {r:Int} (h0:Gc N p0 p1=some r):Ae Tryz.prog 45 [(ls AG p0),(i64 p1)] [] (fun v st=>v=(i64 r)∧st=[]):=by
 unfold Gc at h0
 refine ai Tryz.func45 U U U U (zr tb U U (AE fun K2 hK2=>zr tb U U ?_))
 obtain⟨o7,h1,h0⟩:=Sh.A8 h0
 have M7 :∀(k6:Int),o7=Sum.inr k6→∀s,Wk 0 s ⟨40,Ad [(1,(i64 k6))],[]⟩→K2 s:=by
  intro k6 hq s hw
  subst o7
  try dsimp only at h0
  refine hK2 _ (AS hw (zr tb U U ?_))
  replace h0:=Sh.AA h0
  subst r
  exact AK (xr (AF (L:=[(4,(i64 k6))]) ⟨.rfl,trivial⟩))
 refine Aa (Au (σ:=Int×Int) (fun n v=>DT N p0 n v.1 v.2=some o7) (fun (k4,i5)=>⟨40,Ad [(0,(ls AG p0)),(1,(i64 k4)),(5,(i64 i5))],[]⟩) N (p1,0) h1 (AN U) (fun _ hv=>by rw[DT] at hv;cases hv) ?_)
 rintro n ⟨k4,i5⟩ h1
 try dsimp only at h1 ⊢
 rw[DT] at h1
 refine AE fun K9 hK9=>sr U fun K10 hK10=>zm tb 2 U (zl tb U U (zq tb U (dn hK10 U ?_)))
 refine ci h1 U ?_ ?_ <;> clear h1
 ·intro b11 h1
  refine AI (hK9 _ (AE fun K12 hK12=>Aa (AE fun K13 hK13=>sr U fun K14 hK14=>zm tb 2 U (bs h1 fun c15 gc15 h1=>zx DA gc15 U U U (zm tb 4 U (dn hK14 U ?_))))))
  refine ci h1 U ?_ ?_ <;> clear h1
  ·intro b16 h1
   have b17:decide (c15.from_=k4)=false:=by simpa using b16
   refine zr tb U U ?_
   replace h1:=Sh.AA h1
   subst o7
   try dsimp only[id] at h0
   replace h0:=Sh.AA h0
   subst r
   exact AK (xr (AF (L:=[(4,(i64 (-1)))]) ⟨.rfl,trivial⟩))
  ·intro b16 h1
   have b19:decide (c15.from_=k4)=true:=by simpa using b16
   refine AI (hK13 _ (zr tb U U (AE fun K21 hK21=>sr U fun K22 hK22=>zm tb 2 U (zx DA gc15 U U U (zm tb 4 U (dn hK22 U ?_))))))
   refine ci h1 U ?_ ?_ <;> clear h1
   ·intro b23 h1
    have b24:decide (c15.to=(Sh.w (k4+1)))=false:=by simpa using b23
    refine zr tb U U ?_
    replace h1:=Sh.AA h1
    subst o7
    try dsimp only[id] at h0
    replace h0:=Sh.AA h0
    subst r
    exact AK (xr (AF (L:=[(4,(i64 (-1)))]) ⟨.rfl,trivial⟩))
   ·intro b23 h1
    have b26:decide (c15.to=(Sh.w (k4+1)))=true:=by simpa using b23
    refine AI (hK21 _ (zr tb U U (sr U fun K28 hK28=>zm tb 2 U (zx DA gc15 U U U (zm tb 3 U (bs h1 fun q29 gq29 h1=>zc ck (O9 gq29) rfl U U (zq tb U (dn hK28 U (zr tb U U ?_)))))))))
    refine ci h1 U ?_ ?_ <;> clear h1
    ·intro b31 h1
     refine zr tb U U ?_
     replace h1:=Sh.AA h1
     subst o7
     try dsimp only[id] at h0
     replace h0:=Sh.AA h0
     subst r
     exact AK (xr (AF (L:=[(4,(i64 (-1)))]) ⟨.rfl,trivial⟩))
    ·intro b31 h1
     exact AI (hK12 _ (AJ U (zm tb 3 U (AB (xi (q29,Sh.w (i5+1)) h1 (AN U))))))
 ·intro b11 h1
  exact Ay (M7 k4 (Sh.AA h1).symm _ (AN U))
theorem NZ {N:Nat} {rec_laws_heldStepS:(List Step)→Int→Option (Int)} (hrec_laws_heldStepS :∀{p0:(List Step)} {p1:Int} {r:Int},rec_laws_heldStepS p0 p1=some r→Ae Tryz.prog 94 [(ls Al p0),(i64 p1)] [] (fun v st=>v=(i64 r)∧st=[])) {p0:(List Block)} {p1:Int} {r:Int} (h0:F7 N rec_laws_heldStepS p0 p1=some r):Ae Tryz.prog 144 [(ls A2 p0),(i64 p1)] [] (fun v st=>v=(i64 r)∧st=[]):=by
 unfold F7 at h0
 refine ai Tryz.func144 U U U U (zr tb U U (AE fun K2 hK2=>zr tb U U ?_))
 obtain⟨o7,h1,h0⟩:=Sh.A8 h0
 have M7 :∀(k6:Int),o7=Sum.inr k6→∀s,Wk 0 s ⟨31,Ad [(1,(i64 k6))],[]⟩→K2 s:=by
  intro k6 hq s hw
  subst o7
  try dsimp only at h0
  refine hK2 _ (AS hw (zr tb U U ?_))
  replace h0:=Sh.AA h0
  subst r
  exact AK (xr (AF (L:=[(4,(i64 k6))]) ⟨.rfl,trivial⟩))
 refine Aa (Au (σ:=Int×Int) (fun n v=>C4 p0 rec_laws_heldStepS n v.1 v.2=some o7) (fun (k4,i5)=>⟨31,Ad [(0,(ls A2 p0)),(1,(i64 k4)),(5,(i64 i5))],[]⟩) N (p1,0) h1 (AN U) (fun _ hv=>by rw[C4] at hv;cases hv) ?_)
 rintro n ⟨k4,i5⟩ h1
 try dsimp only at h1 ⊢
 rw[C4] at h1
 refine AE fun K9 hK9=>sr U fun K10 hK10=>zm tb 2 U (zl tb U U (zq tb U (dn hK10 U ?_)))
 refine ci h1 U ?_ ?_ <;> clear h1
 ·intro b11 h1
  refine AI (hK9 _ (AE fun K12 hK12=>Aa (sr U fun K13 hK13=>zm tb 2 U (bs h1 fun c14 gc14 h1=>zx Hi gc14 U U U (zm tb 3 U (bs h1 fun q15 gq15 h1=>zc aZ (hrec_laws_heldStepS gq15) rfl U U (zq tb U (dn hK13 U ?_))))))))
  refine AE fun K16 hK16=>zr tb U U ?_
  refine ci h1 U ?_ ?_ <;> clear h1
  ·intro b18 h1
   refine zr tb U U ?_
   replace h1:=Sh.AA h1
   subst o7
   try dsimp only[id] at h0
   replace h0:=Sh.AA h0
   subst r
   exact AK (xr (AF (L:=[(4,(i64 (-1)))]) ⟨.rfl,trivial⟩))
  ·intro b18 h1
   refine AI (hK16 _ (AE fun K20 hK20=>sr U fun K21 hK21=>zm tb 2 U (zx Hi gc14 U U U (zm tb 4 U (dn hK21 U ?_)))))
   refine ci h1 U ?_ ?_ <;> clear h1
   ·intro b22 h1
    have b23:decide (c14.result=q15)=false:=by simpa using b22
    refine zr tb U U ?_
    replace h1:=Sh.AA h1
    subst o7
    try dsimp only[id] at h0
    replace h0:=Sh.AA h0
    subst r
    exact AK (xr (AF (L:=[(4,(i64 (-1)))]) ⟨.rfl,trivial⟩))
   ·intro b22 h1
    have b25:decide (c14.result=q15)=true:=by simpa using b22
    exact AI (hK20 _ (AJ U (zm tb 3 U (dn hK12 U (AJ U (zm tb 3 U (AB (xi (Sh.w (q15+1),Sh.w (i5+1)) h1 (AN U)))))))))
 ·intro b11 h1
  exact Ay (M7 k4 (Sh.AA h1).symm _ (AN U))
theorem Mr {N:Nat} {rec_laws_heldStepS:(List Step)→Int→Option (Int)} (hrec_laws_heldStepS :∀{p0:(List Step)} {p1:Int} {r:Int},rec_laws_heldStepS p0 p1=some r→Ae Tryz.prog 94 [(ls Al p0),(i64 p1)] [] (fun v st=>v=(i64 r)∧st=[])) {p0:(List Step)} {p1:Int} {r:Int} (h0:G3 N rec_laws_heldStepS p0 p1=some r):Ae Tryz.prog 94 [(ls Al p0),(i64 p1)] [] (fun v st=>v=(i64 r)∧st=[]):=by
 unfold G3 at h0
 refine ai Tryz.func94 U U U U (zr tb U U (AE fun K2 hK2=>zr tb U U ?_))
 obtain⟨o7,h1,h0⟩:=Sh.A8 h0
 have M7 :∀(k6:Int),o7=Sum.inr k6→∀s,Wk 0 s ⟨58,Ad [(1,(i64 k6))],[]⟩→K2 s:=by
  intro k6 hq s hw
  subst o7
  try dsimp only at h0
  refine hK2 _ (AS hw (zr tb U U ?_))
  replace h0:=Sh.AA h0
  subst r
  exact AK (xr (AF (L:=[(4,(i64 k6))]) ⟨.rfl,trivial⟩))
 refine Aa (Au (σ:=Int×Int) (fun n v=>Ci N p0 rec_laws_heldStepS n v.1 v.2=some o7) (fun (k4,i5)=>⟨58,Ad [(0,(ls Al p0)),(1,(i64 k4)),(5,(i64 i5))],[]⟩) N (p1,0) h1 (AN U) (fun _ hv=>by rw[Ci] at hv;cases hv) ?_)
 rintro n ⟨k4,i5⟩ h1
 try dsimp only at h1 ⊢
 rw[Ci] at h1
 refine AE fun K9 hK9=>sr U fun K10 hK10=>zm tb 2 U (zl tb U U (zq tb U (dn hK10 U ?_)))
 refine ci h1 U ?_ ?_ <;> clear h1
 ·intro b11 h1
  refine AI (hK9 _ (AE fun K12 hK12=>Aa (AE fun K13 hK13=>sr U fun K14 hK14=>zm tb 2 U (bs h1 fun c15 gc15 h1=>zz (.BF [(i64 c15.op),(i64 c15.num),(i64 c15.Ax),(ls eI c15.args),(ls A2 c15.kids)] 0) (Di FD U U gc15 (Bw _) rfl) rfl (zm tb 4 U (dn hK14 U ?_))))))
  refine ci h1 U ?_ ?_ <;> clear h1
  ·intro b16 h1
   have b17:decide (c15.op=k4)=false:=by simpa using b16
   refine zr tb U U ?_
   replace h1:=Sh.AA h1
   subst o7
   try dsimp only[id] at h0
   replace h0:=Sh.AA h0
   subst r
   exact AK (xr (AF (L:=[(4,(i64 (-1)))]) ⟨.rfl,trivial⟩))
  ·intro b16 h1
   have b19:decide (c15.op=k4)=true:=by simpa using b16
   refine AI (hK13 _ (zr tb U U (AE fun K21 hK21=>sr U fun K22 hK22=>zm tb 2 U (zz (.BF [(i64 c15.op),(i64 c15.num),(i64 c15.Ax),(ls eI c15.args),(ls A2 c15.kids)] 0) (Di FD U U gc15 (Bw _) rfl) rfl (zm tb 4 U (dn hK22 U ?_))))))
   refine ci h1 U ?_ ?_ <;> clear h1
   ·intro b23 h1
    have b24:decide (c15.num=(Sh.w (k4+1)))=false:=by simpa using b23
    refine zr tb U U ?_
    replace h1:=Sh.AA h1
    subst o7
    try dsimp only[id] at h0
    replace h0:=Sh.AA h0
    subst r
    exact AK (xr (AF (L:=[(4,(i64 (-1)))]) ⟨.rfl,trivial⟩))
   ·intro b23 h1
    have b26:decide (c15.num=(Sh.w (k4+1)))=true:=by simpa using b23
    refine AI (hK21 _ (zr tb U U (AE fun K28 hK28=>sr U fun K29 hK29=>zm tb 2 U (zz (.BF [(i64 c15.op),(i64 c15.num),(i64 c15.Ax),(ls eI c15.args),(ls A2 c15.kids)] 0) (Di FD U U gc15 (Bw _) rfl) rfl (zm tb 4 U (dn hK29 U ?_))))))
    refine ci h1 U ?_ ?_ <;> clear h1
    ·intro b30 h1
     have b31:decide (c15.Ax=(Sh.w ((Sh.w (k4+1)) + 1)))=false:=by simpa using b30
     refine zr tb U U ?_
     replace h1:=Sh.AA h1
     subst o7
     try dsimp only[id] at h0
     replace h0:=Sh.AA h0
     subst r
     exact AK (xr (AF (L:=[(4,(i64 (-1)))]) ⟨.rfl,trivial⟩))
    ·intro b30 h1
     have b33:decide (c15.Ax=(Sh.w ((Sh.w (k4+1)) + 1)))=true:=by simpa using b30
     refine AI (hK28 _ (zr tb U U (sr U fun K35 hK35=>zm tb 2 U (zz (.BF [(i64 c15.op),(i64 c15.num),(i64 c15.Ax),(ls eI c15.args),(ls A2 c15.kids)] 0) (Di FD U U gc15 (Bw _) rfl) rfl (zm tb 3 U (bs h1 fun q36 gq36 h1=>zc Wn (Gv gq36) rfl U U (zq tb U (dn hK35 U (AE fun K37 hK37=>zr tb U U ?_)))))))))
     refine ci h1 U ?_ ?_ <;> clear h1
     ·intro b39 h1
      refine zr tb U U ?_
      replace h1:=Sh.AA h1
      subst o7
      try dsimp only[id] at h0
      replace h0:=Sh.AA h0
      subst r
      exact AK (xr (AF (L:=[(4,(i64 (-1)))]) ⟨.rfl,trivial⟩))
     ·intro b39 h1
      refine AI (hK37 _ (sr U fun K41 hK41=>zm tb 2 U (zz (.BF [(i64 c15.op),(i64 c15.num),(i64 c15.Ax),(ls eI c15.args),(ls A2 c15.kids)] 0) (Di FD U U gc15 (Bw _) rfl) rfl (zm tb 3 U (bs h1 fun q42 gq42 h1=>zc cT (NZ hrec_laws_heldStepS gq42) rfl U U (zq tb U (dn hK41 U (zr tb U U ?_))))))))
      refine ci h1 U ?_ ?_ <;> clear h1
      ·intro b44 h1
       refine zr tb U U ?_
       replace h1:=Sh.AA h1
       subst o7
       try dsimp only[id] at h0
       replace h0:=Sh.AA h0
       subst r
       exact AK (xr (AF (L:=[(4,(i64 (-1)))]) ⟨.rfl,trivial⟩))
      ·intro b44 h1
       exact AI (hK12 _ (AJ U (zm tb 3 U (AB (xi (q42,Sh.w (i5+1)) h1 (AN U))))))
 ·intro b11 h1
  exact Ay (M7 k4 (Sh.AA h1).symm _ (AN U))

theorem Md {N:Nat} :∀(n:Nat),∀{p0:(List Step)} {p1:Int} {r:Int},DJ N n p0 p1=some r→Ae Tryz.prog 94 [(ls Al p0),(i64 p1)] [] (fun v st=>v=(i64 r)∧st=[]):=by
 intro n
 induction n with
 | zero=>intro p0 p1 r h0;cases h0
 | succ n ih=>
  intro p0 p1 r h0
  rw[DJ] at h0
  exact Mr (fun h=>ih h) h0
theorem OJ {N:Nat} :∀{p0:(List Step)} {p1:Int} {r:Int},Hq N p0 p1=some r→Ae Tryz.prog 94 [(ls Al p0),(i64 p1)] [] (fun v st=>v=(i64 r)∧st=[]):=by
 intro p0 p1 r h0
 exact Md N h0
theorem L8 {N:Nat} {p0:(List Ac)} {p1:Int} {r:Int} (h0:FR N p0 p1=some r):Ae Tryz.prog 46 [(ls AT p0),(i64 p1)] [] (fun v st=>v=(i64 r)∧st=[]):=by
 unfold FR at h0
 refine ai Tryz.func46 U U U U (zr tb U U (AE fun K2 hK2=>zr tb U U ?_))
 obtain⟨o7,h1,h0⟩:=Sh.A8 h0
 have M7 :∀(k6:Int),o7=Sum.inr k6→∀s,Wk 0 s ⟨60,Ad [(1,(i64 k6))],[]⟩→K2 s:=by
  intro k6 hq s hw
  subst o7
  try dsimp only at h0
  refine hK2 _ (AS hw (zr tb U U ?_))
  replace h0:=Sh.AA h0
  subst r
  exact AK (xr (AF (L:=[(4,(i64 k6))]) ⟨.rfl,trivial⟩))
 refine Aa (Au (σ:=Int×Int) (fun n v=>CT N p0 n v.1 v.2=some o7) (fun (k4,i5)=>⟨60,Ad [(0,(ls AT p0)),(1,(i64 k4)),(5,(i64 i5))],[]⟩) N (p1,0) h1 (AN U) (fun _ hv=>by rw[CT] at hv;cases hv) ?_)
 rintro n ⟨k4,i5⟩ h1
 try dsimp only at h1 ⊢
 rw[CT] at h1
 refine AE fun K9 hK9=>sr U fun K10 hK10=>zm tb 2 U (zl tb U U (zq tb U (dn hK10 U ?_)))
 refine ci h1 U ?_ ?_ <;> clear h1
 ·intro b11 h1
  refine AI (hK9 _ (AE fun K12 hK12=>Aa (sr U fun K13 hK13=>zm tb 2 U (bs h1 fun c14 gc14 h1=>zx E7 gc14 U U U (zm tb 3 U (bs h1 fun q15 gq15 h1=>zc Wn (Gv gq15) rfl U U (zq tb U (dn hK13 U ?_))))))))
  refine AE fun K16 hK16=>zr tb U U ?_
  refine ci h1 U ?_ ?_ <;> clear h1
  ·intro b18 h1
   refine zr tb U U ?_
   replace h1:=Sh.AA h1
   subst o7
   try dsimp only[id] at h0
   replace h0:=Sh.AA h0
   subst r
   exact AK (xr (AF (L:=[(4,(i64 (-1)))]) ⟨.rfl,trivial⟩))
  ·intro b18 h1
   refine AI (hK16 _ (sr U fun K20 hK20=>zm tb 2 U (zx E7 gc14 U U U (zm tb 3 U (bs h1 fun q21 gq21 h1=>zc Wn (Gv gq21) rfl U U (zq tb U (dn hK20 U (AE fun K22 hK22=>zr tb U U ?_))))))))
   refine ci h1 U ?_ ?_ <;> clear h1
   ·intro b24 h1
    refine zr tb U U ?_
    replace h1:=Sh.AA h1
    subst o7
    try dsimp only[id] at h0
    replace h0:=Sh.AA h0
    subst r
    exact AK (xr (AF (L:=[(4,(i64 (-1)))]) ⟨.rfl,trivial⟩))
   ·intro b24 h1
    refine AI (hK22 _ (AE fun K26 hK26=>sr U fun K27 hK27=>zm tb 2 U (zx E7 gc14 U U U (zm tb 4 U (dn hK27 U ?_)))))
    refine ci h1 U ?_ ?_ <;> clear h1
    ·intro b28 h1
     have b29:decide (c14.result=q21)=false:=by simpa using b28
     refine zr tb U U ?_
     replace h1:=Sh.AA h1
     subst o7
     try dsimp only[id] at h0
     replace h0:=Sh.AA h0
     subst r
     exact AK (xr (AF (L:=[(4,(i64 (-1)))]) ⟨.rfl,trivial⟩))
    ·intro b28 h1
     have b31:decide (c14.result=q21)=true:=by simpa using b28
     refine AI (hK26 _ (zr tb U U (sr U fun K33 hK33=>zm tb 2 U (zx E7 gc14 U U U (zm tb 4 U (bs h1 fun q34 gq34 h1=>zc aZ (OJ gq34) rfl U U (zq tb U (dn hK33 U (AE fun K35 hK35=>zr tb U U ?_)))))))))
     refine ci h1 U ?_ ?_ <;> clear h1
     ·intro b37 h1
      refine zr tb U U ?_
      replace h1:=Sh.AA h1
      subst o7
      try dsimp only[id] at h0
      replace h0:=Sh.AA h0
      subst r
      exact AK (xr (AF (L:=[(4,(i64 (-1)))]) ⟨.rfl,trivial⟩))
     ·intro b37 h1
      refine AI (hK35 _ (AE fun K39 hK39=>sr U fun K40 hK40=>zm tb 2 U (zx E7 gc14 U U U (zm tb 5 U (dn hK40 U ?_)))))
      refine ci h1 U ?_ ?_ <;> clear h1
      ·intro b41 h1
       have b42:decide (c14.body.result=q34)=false:=by simpa using b41
       refine zr tb U U ?_
       replace h1:=Sh.AA h1
       subst o7
       try dsimp only[id] at h0
       replace h0:=Sh.AA h0
       subst r
       exact AK (xr (AF (L:=[(4,(i64 (-1)))]) ⟨.rfl,trivial⟩))
      ·intro b41 h1
       have b44:decide (c14.body.result=q34)=true:=by simpa using b41
       exact AI (hK39 _ (AJ U (zm tb 3 U (dn hK12 U (AJ U (zm tb 3 U (AB (xi (Sh.w (q34+1),Sh.w (i5+1)) h1 (AN U)))))))))
 ·intro b11 h1
  exact Ay (M7 k4 (Sh.AA h1).symm _ (AN U))
theorem Ji {N:Nat} {p0:Aj} {p1:Int} {r:Int} (h0:FI N p0 p1=some r):Ae Tryz.prog 14 [(.agg [(ls AG p0.decls),(ls AT p0.AD)]),(i64 p1)] [] (fun v st=>v=(i64 r)∧st=[]):=by
 unfold FI at h0
 refine ai Tryz.func14 U U U U (sr U fun K1 hK1=>BI (m:=0) (st':=[⟨0,30,2,[[(ls AG p0.decls),(ls AT p0.AD)]]⟩]) Ah U U U U U (zq tb U (dn hK1 U (sr U fun K2 hK2=>zm tb 3 U (bs h0 fun q3 gq3 h0=>zc dH (OB gq3) rfl U U (zq tb U (dn hK2 U (AE fun K4 hK4=>?_))))))))
 refine zr tb U U ?_
 refine ci h0 U ?_ ?_ <;> clear h0
 ·intro b6 h0
  refine zr tb U U ?_
  replace h0:=Sh.AA h0
  subst r
  exact AK (xr (Ai [(4,(i64 (-1)))] U))
 ·intro b6 h0
  refine AI (hK4 _ (sr U fun K8 hK8=>zm tb 3 U (bs h0 fun q9 gq9 h0=>zc dR (L8 gq9) rfl U U (zq tb U (dn hK8 U (AE fun K10 hK10=>zr tb U U ?_))))))
  refine ci h0 U ?_ ?_ <;> clear h0
  ·intro b12 h0
   refine zr tb U U ?_
   replace h0:=Sh.AA h0
   subst r
   exact AK (xr (Ai [(4,(i64 (-1)))] U))
  ·intro b12 h0
   refine AI (hK10 _ (zr tb U U ?_))
   replace h0:=Sh.AA h0
   subst r
   exact AK (xr (Ai [(4,(i64 q9))] U))
noncomputable abbrev Jz (p0:Aj):Go.Abs.Row:=⟨0,25,2,[[(.sl (List.map AG p0.decls)),(.sl (List.map AT p0.AD))]]⟩
noncomputable abbrev JR (p0:Aj):Go.Abs.Row:=⟨0,25,2,[[(ls AG p0.decls),(ls AT p0.AD)]]⟩
theorem LV {N:Nat} {p0:Aj} {r:Bool} (h0:Fw N p0=some r):Ae Tryz.prog 6 [(.agg [(ls AG p0.decls),(ls AT p0.AD)])] [] (fun v st=>v=(.bool r)∧st=[]):=by
 unfold Fw at h0
 refine ai Tryz.func6 U U U U (sr U fun K1 hK1=>BI (m:=0) (st':=[(JR p0)]) Ah U U U U U (zq tb U (dn hK1 U (zr tb U U (sr U fun K3 hK3=>zm tb 2 U (bs h0 fun q4 gq4 h0=>zc dx (PE gq4) rfl U U (zq tb U (dn hK3 U ?_))))))))
 refine AE fun K5 hK5=>zr tb U U ?_
 refine ci h0 U ?_ ?_ <;> clear h0
 ·intro b7 h0
  refine zr tb U U ?_
  replace h0:=Sh.AA h0
  subst r
  exact AK (xr (Ai [(2,(.bool true))] U))
 ·intro b7 h0
  refine AI (hK5 _ (sr U fun K9 hK9=>zq tb U (bs h0 fun q10 gq10 h0=>BW (v':=(.agg [(ow 1 0 q10.decls),(ow 2 0 q10.AD)])) (st':=[(JR p0),(ro 0 98 3 (Ab 134 3) q10.decls),(ro 0 57 5 (AM 3 3 3 55 71) q10.AD)]) Ah WZ (Gz gq10) rfl U ⟨(Af fun _=>U),⟨(Af fun _=>U),trivial⟩⟩ U U (Az (I6 (L:=[(1,(.ptr 0 0 0 0)),(21,(.agg [(ls AG q10.decls),(ow 2 0 q10.AD)]))]) (st':=[(JR p0),⟨1,98,3,[]⟩,(ro 0 57 5 (AM 3 3 3 55 71) q10.AD)]) (id:=1) rfl (show 0≤1 by decide) (Go.Abs.GQ (fun _=>U)) ⟨.rfl,(.agg ⟨(.Jh U (fun x=>Eh x)),.rfl,trivial⟩),trivial⟩ U) (Az (I6 (L:=[(1,(.ptr 0 0 0 0)),(21,(.agg [(ls AG q10.decls),(ls AT q10.AD)]))]) (st':=[(JR p0),⟨1,98,3,[]⟩,⟨1,57,5,[]⟩]) (id:=2) rfl (show 0≤2 by decide) (Go.Abs.GQ (fun _=>U)) ⟨.rfl,(.agg ⟨.rfl,(.Jh U (fun x=>Da x)),trivial⟩),trivial⟩ U) (bs h0 fun q11 gq11 h0=>zc (v':=(.BZ [(.agg [(ls AG q11.1.decls),(ls AT q11.1.AD)]),(.bool q11.2)])) cl (Qd gq11) rfl U U (zm tb 3 U (Ap (m:=3) (st':=[(JR p0),⟨1,98,3,[]⟩,⟨1,57,5,[]⟩,⟨0,30,2,[[.zc,.zc]]⟩]) Ah JQ U U (A3 (st':=[(JR p0),⟨1,98,3,[]⟩,⟨1,57,5,[]⟩,⟨0,30,2,[[(ls AG q11.1.decls),(ls AT q11.1.AD)]]⟩]) Ah Hl U U U U U U (show 0+2≤2 by decide) rfl ?_)))))))))
  refine zq tb U (dn hK9 U (sr U fun K12 hK12=>zq tb U (bs h0 fun q13 gq13 h0=>BW (v':=(.agg [(ow 4 0 q13.decls),(ow 5 0 q13.AD)])) (st':=[(JR p0),⟨1,98,3,[]⟩,⟨1,57,5,[]⟩,⟨0,30,2,[[(ls AG q11.1.decls),(ls AT q11.1.AD)]]⟩,(ro 0 98 3 (Ab 134 3) q13.decls),(ro 0 57 5 (AM 3 3 3 55 71) q13.AD)]) Ah WZ (Gz gq13) rfl U ⟨(Af fun _=>U),⟨(Af fun _=>U),trivial⟩⟩ U U (Ap (m:=6) (st':=[(JR p0),⟨1,98,3,[]⟩,⟨1,57,5,[]⟩,⟨0,30,2,[[(ls AG q11.1.decls),(ls AT q11.1.AD)]]⟩,(ro 0 98 3 (Ab 134 3) q13.decls),(ro 0 57 5 (AM 3 3 3 55 71) q13.AD),⟨0,30,2,[[.zc,.zc]]⟩]) Ah JQ U U (A3 (st':=[(JR p0),⟨1,98,3,[]⟩,⟨1,57,5,[]⟩,⟨0,30,2,[[(ls AG q11.1.decls),(ls AT q11.1.AD)]]⟩,(ro 0 98 3 (Ab 134 3) q13.decls),(ro 0 57 5 (AM 3 3 3 55 71) q13.AD),⟨0,30,2,[[(ow 4 0 q13.decls),(ow 5 0 q13.AD)]]⟩]) Ah Hl U U U U U U (show 0+2≤2 by decide) rfl (dn hK12 U (sr U fun K14 hK14=>zq tb U (bs h0 fun q15 gq15 h0=>?_))))))))
  refine I4 (v':=(.BZ [(.agg [(ow 7 0 q15.1.decls),(ow 8 0 q15.1.AD)]),(.bool q15.2)])) (st':=[(JR p0),⟨1,98,3,[]⟩,⟨1,57,5,[]⟩,⟨0,30,2,[[(ls AG q11.1.decls),(ls AT q11.1.AD)]]⟩,(ro 0 98 3 (Ab 134 3) q13.decls),(ro 0 57 5 (AM 3 3 3 55 71) q13.AD),⟨0,30,2,[[(ow 4 0 q13.decls),(ow 5 0 q13.AD)]]⟩,(ro 0 98 3 (Ab 134 3) q15.1.decls),(ro 0 57 5 (AM 3 3 3 55 71) q15.1.AD)]) Ah aF (Lx gq15) rfl (.agg (.ownD U U (fun _=>U) (fun x=>Eh x) (.ownD U U (fun _=>U) (fun x=>Da x) .nil)) .nil) rfl (Tx (fun _=>U) (Tx (fun _=>U) trivial)) rfl U (zm tb 3 U (Ap (m:=9) (st':=[(JR p0),⟨1,98,3,[]⟩,⟨1,57,5,[]⟩,⟨0,30,2,[[(ls AG q11.1.decls),(ls AT q11.1.AD)]]⟩,(ro 0 98 3 (Ab 134 3) q13.decls),(ro 0 57 5 (AM 3 3 3 55 71) q13.AD),⟨0,30,2,[[(ow 4 0 q13.decls),(ow 5 0 q13.AD)]]⟩,(ro 0 98 3 (Ab 134 3) q15.1.decls),(ro 0 57 5 (AM 3 3 3 55 71) q15.1.AD),⟨0,30,2,[[.zc,.zc]]⟩]) Ah JQ U U (A3 (st':=[(JR p0),⟨1,98,3,[]⟩,⟨1,57,5,[]⟩,⟨0,30,2,[[(ls AG q11.1.decls),(ls AT q11.1.AD)]]⟩,(ro 0 98 3 (Ab 134 3) q13.decls),(ro 0 57 5 (AM 3 3 3 55 71) q13.AD),⟨0,30,2,[[(ow 4 0 q13.decls),(ow 5 0 q13.AD)]]⟩,(ro 0 98 3 (Ab 134 3) q15.1.decls),(ro 0 57 5 (AM 3 3 3 55 71) q15.1.AD),⟨0,30,2,[[(ow 7 0 q15.1.decls),(ow 8 0 q15.1.AD)]]⟩]) Ah Hl U U U U U U (show 0+2≤2 by decide) rfl (zq tb U (dn hK14 U (AE fun K16 hK16=>AE fun K17 hK17=>bs h0 fun o19 h1 h0=>?_))))))
  have M19 :∀(t18:Bool),o19=t18→∀s,Wk 0 s ⟨96,Ad [(1,(.ptr 0 0 0 0)),(4,(.ptr 1 0 0 0)),(5,(.bool q11.2)),(6,(.ptr 4 0 0 0)),(7,(.ptr 7 0 0 0)),(8,(.bool q15.2)),(40,(.bool t18))],[(JR p0),⟨0,30,2,[[(ls AG q11.1.decls),(ls AT q11.1.AD)]]⟩,(ro 0 98 3 (Ab 134 3) q13.decls),(ro 0 57 5 (AM 3 3 3 55 71) q13.AD),⟨0,30,2,[[(ow 2 0 q13.decls),(ow 3 0 q13.AD)]]⟩,(ro 0 98 3 (Ab 134 3) q15.1.decls),(ro 0 57 5 (AM 3 3 3 55 71) q15.1.AD),⟨0,30,2,[[(ow 5 0 q15.1.decls),(ow 6 0 q15.1.AD)]]⟩]⟩→K17 s:=by
   intro t18 hq s hw
   subst o19
   try dsimp only at h0
   refine hK17 _ (AS hw ?_)
   refine ci h0 U ?_ ?_ <;> clear h0
   ·intro b20 h0
    refine zr tb U U ?_
    replace h0:=Sh.AA h0
    subst r
    exact AK (xr (Ai [(2,(.bool false))] U))
   ·intro b20 h0
    refine AI (hK16 _ (AE fun K22 hK22=>AE fun K23 hK23=>?_))
    refine Bz (by kernel_rfl) (by kernel_rfl) (by rfl) ?_
    iterate 2 refine yq tb rfl ?_
    refine bs h0 fun q24 gq24 h0=>?_
    refine CR (v:=(.agg [(ls AG q24.decls),(ls AT q24.AD)])) Ah WZ (Ae.wk (Gz gq24) (by refine Wk.trans (I6 (L:=[(0,(.agg [(ls AG q24.decls),(ow 1 0 q24.AD)]))]) (st':=[⟨1,98,3,[]⟩,(ro 0 57 5 (AM 3 3 3 55 71) q24.AD)]) (id:=0) rfl (show 0≤0 by decide) (Go.Abs.GQ (fun _=>U)) ⟨(.agg ⟨(.Jh U (fun x=>Eh x)),.rfl,trivial⟩),trivial⟩ U) ?_;refine Wk.trans (I6 (L:=[(0,(.agg [(ls AG q24.decls),(ls AT q24.AD)]))]) (st':=[⟨1,98,3,[]⟩,⟨1,57,5,[]⟩]) (id:=1) rfl (show 0≤1 by decide) (Go.Abs.GQ (fun _=>U)) ⟨(.agg ⟨.rfl,(.Jh U (fun x=>Da x)),trivial⟩),trivial⟩ U) ?_;refine Wk.trans (AP (L:=[(0,(.agg [(ls AG q24.decls),(ls AT q24.AD)]))]) (st':=[]) (st1:=[]) [] U .nil (by decide) rfl U .nil ⟨.rfl,trivial⟩) ?_;exact AF (L:=[(0,(.agg [(ls AG q24.decls),(ls AT q24.AD)]))]) ⟨.rfl,trivial⟩)) rfl U U ?_
    refine bs h0 fun q25 gq25 h0=>SH (v':=(.bool q25)) Ah WR (G2 gq25) rfl (.agg (.ownD U U (fun _=>U) (fun x=>Eh x) (.ownD U U (fun _=>U) (fun x=>Da x) .nil)) (.val U .nil)) rfl U (yq tb U (BS (hK23 _ ?_)))
    refine ci h0 U ?_ ?_ <;> clear h0
    ·intro b26 h0
     have b27:q25=false:=by simpa using b26
     refine zr tb U U ?_
     replace h0:=Sh.AA h0
     subst r
     exact AK (xr (Ai [(2,(.bool false))] U))
    ·intro b26 h0
     have b29:q25=true:=by simpa using b26
     refine AI (hK22 _ (zr tb U U (sr U fun K31 hK31=>zm tb 2 U (bs h0 fun q32 gq32 h0=>?_))))
     refine Ed (rowsP:=[⟨0,98,3,List.map (Ab 134 3) q13.decls⟩,⟨0,57,5,List.map (AM 3 3 3 55 71) q13.AD⟩]) (rows0:=[⟨0,98,3,List.map (Ab 134 3) q13.decls⟩,⟨0,57,5,List.map (AM 3 3 3 55 71) q13.AD⟩]) (rows1:=[⟨0,98,3,List.map (Ab 134 3) q32.2.1⟩,⟨0,57,5,List.map (AM 3 3 3 55 71) q32.2.2⟩]) (rows2:=[]) (rows1':=[⟨0,98,3,List.map (Ab 134 3) q32.2.1⟩,⟨0,57,5,List.map (AM 3 3 3 55 71) q32.2.2⟩]) (rows2':=[]) (st':=[(Jz p0),⟨0,30,2,[[(.sl (List.map AG q11.1.decls)),(.sl (List.map AT q11.1.AD))]]⟩,⟨0,98,3,List.map (Ab 134 3) q32.2.1⟩,⟨0,57,5,List.map (AM 3 3 3 55 71) q32.2.2⟩,⟨0,30,2,[[(.own 2 0 (List.length q13.decls)),(.own 3 0 (List.length q13.AD))]]⟩,⟨0,98,3,List.map (Ab 134 3) q15.1.decls⟩,⟨0,57,5,List.map (AM 3 3 3 55 71) q15.1.AD⟩,⟨0,30,2,[[(.own 5 0 (List.length q15.1.decls)),(.own 6 0 (List.length q15.1.AD))]]⟩]) (v':=(i64 q32.1)) [2,3] Ah aS (Jk gq32) rfl (by decide) rfl U (.deep (Af fun _=>U) (.deep (Af fun _=>U) .nil)) rfl U (.deep (Af fun _=>U) (.deep (Af fun _=>U) .nil)) .nil U U (fun hln=>?_)
     have ln33:List.length q32.2.1=List.length q13.decls:=by simpa only[List.length_map] using hln 0 _ _ rfl rfl rfl
     have ln34:List.length q32.2.2=List.length q13.AD:=by simpa only[List.length_map] using hln 1 _ _ rfl rfl rfl
     refine zq tb U (dn hK31 U (AE fun K35 hK35=>AE fun K36 hK36=>bs h0 fun o38 h1 h0=>?_))
     have M38 :∀(t37:Bool),o38=t37→∀s,Wk 0 s ⟨96,Ad [(1,(.ptr 0 0 0 0)),(4,(.ptr 1 0 0 0)),(5,(.bool q11.2)),(7,(.ptr 4 0 0 0)),(61,(.bool t37))],[(JR p0),⟨0,30,2,[[(ls AG q11.1.decls),(ls AT q11.1.AD)]]⟩,(ro 0 98 3 (Ab 134 3) q15.1.decls),(ro 0 57 5 (AM 3 3 3 55 71) q15.1.AD),⟨0,30,2,[[(ow 2 0 q15.1.decls),(ow 3 0 q15.1.AD)]]⟩]⟩→K36 s:=by
      intro t37 hq s hw
      subst o38
      try dsimp only at h0
      refine hK36 _ (AS hw ?_)
      refine ci h0 U ?_ ?_ <;> clear h0
      ·intro b39 h0
       refine zr tb U U ?_
       replace h0:=Sh.AA h0
       subst r
       exact AK (xr (Ai [(2,(.bool false))] U))
      ·intro b39 h0
       refine AI (hK35 _ (zr tb U U (sr U fun K42 hK42=>zm tb 2 U (bs h0 fun q43 gq43 h0=>?_))))
       refine Ed (rowsP:=[⟨0,98,3,List.map (Ab 134 3) q15.1.decls⟩,⟨0,57,5,List.map (AM 3 3 3 55 71) q15.1.AD⟩]) (rows0:=[⟨0,98,3,List.map (Ab 134 3) q15.1.decls⟩,⟨0,57,5,List.map (AM 3 3 3 55 71) q15.1.AD⟩]) (rows1:=[⟨0,98,3,List.map (Ab 134 3) q43.2.1⟩,⟨0,57,5,List.map (AM 3 3 3 55 71) q43.2.2⟩]) (rows2:=[]) (rows1':=[⟨0,98,3,List.map (Ab 134 3) q43.2.1⟩,⟨0,57,5,List.map (AM 3 3 3 55 71) q43.2.2⟩]) (rows2':=[]) (st':=[(Jz p0),⟨0,30,2,[[(.sl (List.map AG q11.1.decls)),(.sl (List.map AT q11.1.AD))]]⟩,⟨0,98,3,List.map (Ab 134 3) q43.2.1⟩,⟨0,57,5,List.map (AM 3 3 3 55 71) q43.2.2⟩,⟨0,30,2,[[(.own 2 0 (List.length q15.1.decls)),(.own 3 0 (List.length q15.1.AD))]]⟩]) (v':=(i64 q43.1)) [2,3] Ah aS (Jk gq43) rfl (by decide) rfl U (.deep (Af fun _=>U) (.deep (Af fun _=>U) .nil)) rfl U (.deep (Af fun _=>U) (.deep (Af fun _=>U) .nil)) .nil U U (fun hln=>?_)
       have ln44:List.length q43.2.1=List.length q15.1.decls:=by simpa only[List.length_map] using hln 0 _ _ rfl rfl rfl
       have ln45:List.length q43.2.2=List.length q15.1.AD:=by simpa only[List.length_map] using hln 1 _ _ rfl rfl rfl
       refine zq tb U (dn hK42 U (zr tb U U (sr U fun K47 hK47=>zm tb 2 U (bs h0 fun q48 gq48 h0=>?_))))
       refine I4 (v':=(i64 q48)) (st':=[(Jz p0),⟨0,30,2,[[(.sl (List.map AG q11.1.decls)),(.sl (List.map AT q11.1.AD))]]⟩,⟨0,98,3,List.map (Ab 134 3) q43.2.1⟩,⟨0,57,5,List.map (AM 3 3 3 55 71) q43.2.2⟩,⟨0,30,2,[[(.own 2 0 (List.length q15.1.decls)),(.own 3 0 (List.length q15.1.AD))]]⟩]) Ah aM (Ji gq48) rfl (.agg (.ownD U (by first | (simp only[Sh.BB];done) | (simp only[Sh.BB];omega) | omega) (fun _=>U) (fun x=>Eh x) (.ownD U (by first | (simp only[Sh.BB];done) | (simp only[Sh.BB];omega) | omega) (fun _=>U) (fun x=>Da x) .nil)) (.val U .nil)) rfl trivial U U ?_
       refine zq tb U (dn hK47 U (AE fun K49 hK49=>zr tb U U ?_))
       refine ci h0 U ?_ ?_ <;> clear h0
       ·intro b51 h0
        refine zr tb U U ?_
        replace h0:=Sh.AA h0
        subst r
        exact AK (Exists.intro _ (And.intro (((DQ (st:=[(Jz p0),⟨0,30,2,[[(.sl (List.map AG q11.1.decls)),(.sl (List.map AT q11.1.AD))]]⟩,⟨0,98,3,List.map (Ab 134 3) q43.2.1⟩,⟨0,57,5,List.map (AM 3 3 3 55 71) q43.2.2⟩,⟨0,30,2,[[(.own 2 0 (List.length q15.1.decls)),(.own 3 0 (List.length q15.1.AD))]]⟩]) (st':=[(Jz p0),⟨0,30,2,[[(.sl (List.map AG q11.1.decls)),(.sl (List.map AT q11.1.AD))]]⟩,⟨0,98,3,List.map (Ab 134 3) q43.2.1⟩,⟨0,57,5,List.map (AM 3 3 3 55 71) q43.2.2⟩,⟨0,30,2,[[(.own 2 0 (List.length q43.2.1)),(.own 3 0 (List.length q43.2.2))]]⟩]) (by first | (simp only[Sh.BB];done) | simp only[Sh.BB,ln33,ln34,ln44,ln45] | simp only[ln33,ln34,ln44,ln45])).trans (AP (L:=[(2,(.bool false))]) (st':=[]) (st1:=[]) [] U .nil (by decide) rfl U .nil ⟨.rfl,trivial⟩)).trans (AF (L:=[(2,(.bool false))]) ⟨.rfl,trivial⟩)) (And.intro U U)))
       ·intro b51 h0
        refine AI (hK49 _ (AE fun K53 hK53=>zr tb U U ?_))
        refine ci h0 U ?_ ?_ <;> clear h0
        ·intro b55 h0
         have b56:decide (q48=q43.1)=false:=by simpa using b55
         refine zr tb U U ?_
         replace h0:=Sh.AA h0
         subst r
         exact AK (Exists.intro _ (And.intro (((DQ (st:=[(Jz p0),⟨0,30,2,[[(.sl (List.map AG q11.1.decls)),(.sl (List.map AT q11.1.AD))]]⟩,⟨0,98,3,List.map (Ab 134 3) q43.2.1⟩,⟨0,57,5,List.map (AM 3 3 3 55 71) q43.2.2⟩,⟨0,30,2,[[(.own 2 0 (List.length q15.1.decls)),(.own 3 0 (List.length q15.1.AD))]]⟩]) (st':=[(Jz p0),⟨0,30,2,[[(.sl (List.map AG q11.1.decls)),(.sl (List.map AT q11.1.AD))]]⟩,⟨0,98,3,List.map (Ab 134 3) q43.2.1⟩,⟨0,57,5,List.map (AM 3 3 3 55 71) q43.2.2⟩,⟨0,30,2,[[(.own 2 0 (List.length q43.2.1)),(.own 3 0 (List.length q43.2.2))]]⟩]) (by first | (simp only[Sh.BB];done) | simp only[Sh.BB,ln33,ln34,ln44,ln45] | simp only[ln33,ln34,ln44,ln45])).trans (AP (L:=[(2,(.bool false))]) (st':=[]) (st1:=[]) [] U .nil (by decide) rfl U .nil ⟨.rfl,trivial⟩)).trans (AF (L:=[(2,(.bool false))]) ⟨.rfl,trivial⟩)) (And.intro U U)))
        ·intro b55 h0
         have b58:decide (q48=q43.1)=true:=by simpa using b55
         refine AI (hK53 _ (sr U fun K59 hK59=>zq tb U (bs h0 fun q60 gq60 h0=>BW (v':=(.agg [(ow 5 0 q60.decls),(ow 6 0 q60.AD)])) (st':=[(JR p0),⟨0,30,2,[[(ls AG q11.1.decls),(ls AT q11.1.AD)]]⟩,(ro 0 98 3 (Ab 134 3) q43.2.1),(ro 0 57 5 (AM 3 3 3 55 71) q43.2.2),⟨0,30,2,[[(ow 2 0 q15.1.decls),(ow 3 0 q15.1.AD)]]⟩,(ro 0 98 3 (Ab 134 3) q60.decls),(ro 0 57 5 (AM 3 3 3 55 71) q60.AD)]) Ah WZ (Gz gq60) rfl U ⟨(Af fun _=>U),⟨(Af fun _=>U),trivial⟩⟩ U U (bs h0 fun q61 gq61 h0=>I4 (v':=(.BZ [(.agg [(ow 7 0 q61.1.decls),(ow 8 0 q61.1.AD)]),(.bool q61.2)])) (st':=[(JR p0),⟨0,30,2,[[(ls AG q11.1.decls),(ls AT q11.1.AD)]]⟩,(ro 0 98 3 (Ab 134 3) q43.2.1),(ro 0 57 5 (AM 3 3 3 55 71) q43.2.2),⟨0,30,2,[[(ow 2 0 q15.1.decls),(ow 3 0 q15.1.AD)]]⟩,(ro 0 98 3 (Ab 134 3) q60.decls),(ro 0 57 5 (AM 3 3 3 55 71) q60.AD),(ro 0 98 3 (Ab 134 3) q61.1.decls),(ro 0 57 5 (AM 3 3 3 55 71) q61.1.AD)]) Ah aF (Lx gq61) rfl (.agg (.ownD U U (fun _=>U) (fun x=>Eh x) (.ownD U U (fun _=>U) (fun x=>Da x) .nil)) .nil) rfl (Tx (fun _=>U) (Tx (fun _=>U) trivial)) rfl U (zm tb 3 U (Ap (m:=9) (st':=[(JR p0),⟨0,30,2,[[(ls AG q11.1.decls),(ls AT q11.1.AD)]]⟩,(ro 0 98 3 (Ab 134 3) q43.2.1),(ro 0 57 5 (AM 3 3 3 55 71) q43.2.2),⟨0,30,2,[[(ow 2 0 q15.1.decls),(ow 3 0 q15.1.AD)]]⟩,(ro 0 98 3 (Ab 134 3) q60.decls),(ro 0 57 5 (AM 3 3 3 55 71) q60.AD),(ro 0 98 3 (Ab 134 3) q61.1.decls),(ro 0 57 5 (AM 3 3 3 55 71) q61.1.AD),⟨0,30,2,[[.zc,.zc]]⟩]) Ah JQ U U (Az (I6 (L:=[(4,(.ptr 1 0 0 0)),(5,(.bool q11.2)),(7,(.ptr 4 0 0 0)),(10,(i64 q43.1)),(12,(.ptr 9 0 0 0)),(77,(.agg [(ls AG q61.1.decls),(ow 8 0 q61.1.AD)])),(78,(.bool q61.2))]) (st':=[(JR p0),⟨0,30,2,[[(ls AG q11.1.decls),(ls AT q11.1.AD)]]⟩,(ro 0 98 3 (Ab 134 3) q43.2.1),(ro 0 57 5 (AM 3 3 3 55 71) q43.2.2),⟨0,30,2,[[(ow 2 0 q15.1.decls),(ow 3 0 q15.1.AD)]]⟩,(ro 0 98 3 (Ab 134 3) q60.decls),(ro 0 57 5 (AM 3 3 3 55 71) q60.AD),⟨1,98,3,[]⟩,(ro 0 57 5 (AM 3 3 3 55 71) q61.1.AD),⟨0,30,2,[[.zc,.zc]]⟩]) (id:=7) rfl (show 0≤7 by decide) (Go.Abs.GQ (fun _=>U)) ⟨.rfl,.rfl,.rfl,.rfl,.rfl,(.agg ⟨(.Jh U (fun x=>Eh x)),.rfl,trivial⟩),.rfl,trivial⟩ U) (Az (I6 (L:=[(4,(.ptr 1 0 0 0)),(5,(.bool q11.2)),(7,(.ptr 4 0 0 0)),(10,(i64 q43.1)),(12,(.ptr 9 0 0 0)),(77,(.agg [(ls AG q61.1.decls),(ls AT q61.1.AD)])),(78,(.bool q61.2))]) (st':=[(JR p0),⟨0,30,2,[[(ls AG q11.1.decls),(ls AT q11.1.AD)]]⟩,(ro 0 98 3 (Ab 134 3) q43.2.1),(ro 0 57 5 (AM 3 3 3 55 71) q43.2.2),⟨0,30,2,[[(ow 2 0 q15.1.decls),(ow 3 0 q15.1.AD)]]⟩,(ro 0 98 3 (Ab 134 3) q60.decls),(ro 0 57 5 (AM 3 3 3 55 71) q60.AD),⟨1,98,3,[]⟩,⟨1,57,5,[]⟩,⟨0,30,2,[[.zc,.zc]]⟩]) (id:=8) rfl (show 0≤8 by decide) (Go.Abs.GQ (fun _=>U)) ⟨.rfl,.rfl,.rfl,.rfl,.rfl,(.agg ⟨.rfl,(.Jh U (fun x=>Da x)),trivial⟩),.rfl,trivial⟩ U) (A3 (st':=[(JR p0),⟨0,30,2,[[(ls AG q11.1.decls),(ls AT q11.1.AD)]]⟩,(ro 0 98 3 (Ab 134 3) q43.2.1),(ro 0 57 5 (AM 3 3 3 55 71) q43.2.2),⟨0,30,2,[[(ow 2 0 q15.1.decls),(ow 3 0 q15.1.AD)]]⟩,(ro 0 98 3 (Ab 134 3) q60.decls),(ro 0 57 5 (AM 3 3 3 55 71) q60.AD),⟨1,98,3,[]⟩,⟨1,57,5,[]⟩,⟨0,30,2,[[(ls AG q61.1.decls),(ls AT q61.1.AD)]]⟩]) Ah Hl U U U U U U (show 0+2≤2 by decide) rfl ?_)))))))))
         refine zq tb U (dn hK59 U (AE fun K62 hK62=>AE fun K63 hK63=>bs h0 fun o65 h1 h0=>?_))
         have M65 :∀(t64:Bool),o65=t64→∀s,Wk 0 s ⟨96,Ad [(7,(.ptr 2 0 0 0)),(10,(i64 q43.1)),(87,(.bool t64))],[(ro 0 98 3 (Ab 134 3) q43.2.1),(ro 0 57 5 (AM 3 3 3 55 71) q43.2.2),⟨0,30,2,[[(ow 0 0 q43.2.1),(ow 1 0 q43.2.2)]]⟩]⟩→K63 s:=by
          intro t64 hq s hw
          subst o65
          try dsimp only at h0
          refine hK63 _ (AS hw ?_)
          refine ci h0 U ?_ ?_ <;> clear h0
          ·intro b66 h0
           refine zr tb U U ?_
           replace h0:=Sh.AA h0
           subst r
           exact AK (xr (Ai [(2,(.bool false))] U))
          ·intro b66 h0
           refine AI (hK62 _ (zr tb U U (sr U fun K69 hK69=>zm tb 2 U (bs h0 fun q70 gq70 h0=>I4 (v':=(i64 q70)) (st':=[(ro 0 98 3 (Ab 134 3) q43.2.1),(ro 0 57 5 (AM 3 3 3 55 71) q43.2.2),⟨0,30,2,[[(ow 0 0 q43.2.1),(ow 1 0 q43.2.2)]]⟩]) Ah aM (Ji gq70) rfl (.agg (.ownD U U (fun _=>U) (fun x=>Eh x) (.ownD U U (fun _=>U) (fun x=>Da x) .nil)) (.val U .nil)) rfl trivial U U (zq tb U (dn hK69 U (AE fun K71 hK71=>zr tb U U ?_)))))))
           refine ci h0 U ?_ ?_ <;> clear h0
           ·intro b73 h0
            refine zr tb U U ?_
            replace h0:=Sh.AA h0
            subst r
            exact AK (xr (Ai [(2,(.bool false))] U))
           ·intro b73 h0
            refine AI (hK71 _ (AE fun K75 hK75=>zr tb U U ?_))
            refine ci h0 U ?_ ?_ <;> clear h0
            ·intro b77 h0
             have b78:decide (q70=q43.1)=false:=by simpa using b77
             refine zr tb U U ?_
             replace h0:=Sh.AA h0
             subst r
             exact AK (xr (Ai [(2,(.bool false))] U))
            ·intro b77 h0
             have b80:decide (q70=q43.1)=true:=by simpa using b77
             refine AI (hK75 _ (zr tb U U ?_))
             replace h0:=Sh.AA h0
             subst r
             exact AK (xr (Ai [(2,(.bool true))] U))
         refine AJ U (zm tb 2 U (bs h1 fun q82 gq82 h1=>zc WR (G2 gq82) rfl U U (zm tb 2 U ?_)))
         rcases Sh.As h1 with ⟨b83,h1⟩ | ⟨b83,h1⟩
         ·refine zs b83 U (zs b83 U (zs b83 U (zt b83 U ?_)))
          exact AB (M65 true (Sh.AA h1).symm _ (by refine Wk.trans (DQ (st:=[(Jz p0),⟨0,30,2,[[(.sl (List.map AG q11.1.decls)),(.sl (List.map AT q11.1.AD))]]⟩,⟨0,98,3,List.map (Ab 134 3) q43.2.1⟩,⟨0,57,5,List.map (AM 3 3 3 55 71) q43.2.2⟩,⟨0,30,2,[[(.own 2 0 (List.length q15.1.decls)),(.own 3 0 (List.length q15.1.AD))]]⟩,⟨0,98,3,List.map (Ab 134 3) q60.decls⟩,⟨0,57,5,List.map (AM 3 3 3 55 71) q60.AD⟩,⟨1,98,3,[]⟩,⟨1,57,5,[]⟩,⟨0,30,2,[[(.sl (List.map AG q61.1.decls)),(.sl (List.map AT q61.1.AD))]]⟩]) (st':=[(Jz p0),⟨0,30,2,[[(.sl (List.map AG q11.1.decls)),(.sl (List.map AT q11.1.AD))]]⟩,⟨0,98,3,List.map (Ab 134 3) q43.2.1⟩,⟨0,57,5,List.map (AM 3 3 3 55 71) q43.2.2⟩,⟨0,30,2,[[(.own 2 0 (List.length q43.2.1)),(.own 3 0 (List.length q43.2.2))]]⟩,⟨0,98,3,List.map (Ab 134 3) q60.decls⟩,⟨0,57,5,List.map (AM 3 3 3 55 71) q60.AD⟩,⟨1,98,3,[]⟩,⟨1,57,5,[]⟩,⟨0,30,2,[[(.sl (List.map AG q61.1.decls)),(.sl (List.map AT q61.1.AD))]]⟩]) (by first | (simp only[Sh.BB];done) | simp only[Sh.BB,ln33,ln34,ln44,ln45] | simp only[ln33,ln34,ln44,ln45])) ?_;exact AP (L:=[(7,(.ptr 2 0 0 0)),(10,(i64 q43.1)),(87,(.bool true))]) (st':=[⟨0,98,3,List.map (Ab 134 3) q43.2.1⟩,⟨0,57,5,List.map (AM 3 3 3 55 71) q43.2.2⟩,⟨0,30,2,[[(.own 0 0 (List.length q43.2.1)),(.own 1 0 (List.length q43.2.2))]]⟩]) (st1:=[⟨0,98,3,List.map (Ab 134 3) q43.2.1⟩,⟨0,57,5,List.map (AM 3 3 3 55 71) q43.2.2⟩,⟨0,30,2,[[(.own 2 0 (List.length q43.2.1)),(.own 3 0 (List.length q43.2.2))]]⟩]) [2,3,4] U .nil (by decide) rfl U (.deep (Af fun _=>U) (.deep (Af fun _=>U) (.raw U U .nil))) ⟨.rfl,.rfl,.rfl,trivial⟩))
         ·refine zg tb b83 U (zg tb b83 U (zg tb b83 U (zf b83 U ?_)))
          exact AB (M65 (q61.2 != q11.2) (Sh.AA h1).symm _ (by refine Wk.trans (DQ (st:=[(Jz p0),⟨0,30,2,[[(.sl (List.map AG q11.1.decls)),(.sl (List.map AT q11.1.AD))]]⟩,⟨0,98,3,List.map (Ab 134 3) q43.2.1⟩,⟨0,57,5,List.map (AM 3 3 3 55 71) q43.2.2⟩,⟨0,30,2,[[(.own 2 0 (List.length q15.1.decls)),(.own 3 0 (List.length q15.1.AD))]]⟩,⟨0,98,3,List.map (Ab 134 3) q60.decls⟩,⟨0,57,5,List.map (AM 3 3 3 55 71) q60.AD⟩,⟨1,98,3,[]⟩,⟨1,57,5,[]⟩,⟨0,30,2,[[(.sl (List.map AG q61.1.decls)),(.sl (List.map AT q61.1.AD))]]⟩]) (st':=[(Jz p0),⟨0,30,2,[[(.sl (List.map AG q11.1.decls)),(.sl (List.map AT q11.1.AD))]]⟩,⟨0,98,3,List.map (Ab 134 3) q43.2.1⟩,⟨0,57,5,List.map (AM 3 3 3 55 71) q43.2.2⟩,⟨0,30,2,[[(.own 2 0 (List.length q43.2.1)),(.own 3 0 (List.length q43.2.2))]]⟩,⟨0,98,3,List.map (Ab 134 3) q60.decls⟩,⟨0,57,5,List.map (AM 3 3 3 55 71) q60.AD⟩,⟨1,98,3,[]⟩,⟨1,57,5,[]⟩,⟨0,30,2,[[(.sl (List.map AG q61.1.decls)),(.sl (List.map AT q61.1.AD))]]⟩]) (by first | (simp only[Sh.BB];done) | simp only[Sh.BB,ln33,ln34,ln44,ln45] | simp only[ln33,ln34,ln44,ln45])) ?_;exact AP (L:=[(7,(.ptr 2 0 0 0)),(10,(i64 q43.1)),(87,(.bool (q61.2 != q11.2)))]) (st':=[⟨0,98,3,List.map (Ab 134 3) q43.2.1⟩,⟨0,57,5,List.map (AM 3 3 3 55 71) q43.2.2⟩,⟨0,30,2,[[(.own 0 0 (List.length q43.2.1)),(.own 1 0 (List.length q43.2.2))]]⟩]) (st1:=[⟨0,98,3,List.map (Ab 134 3) q43.2.1⟩,⟨0,57,5,List.map (AM 3 3 3 55 71) q43.2.2⟩,⟨0,30,2,[[(.own 2 0 (List.length q43.2.1)),(.own 3 0 (List.length q43.2.2))]]⟩]) [2,3,4] U .nil (by decide) rfl U (.deep (Af fun _=>U) (.deep (Af fun _=>U) (.raw U U .nil))) ⟨.rfl,.rfl,.rfl,trivial⟩))
     refine AJ U (zm tb 3 U ?_)
     rcases Sh.As h1 with ⟨b84,h1⟩ | ⟨b84,h1⟩
     ·refine zs b84 U ?_
      iterate 3 refine zs b84 rfl ?_
      refine zt b84 U (zq tb U ?_)
      iterate 3 refine zs rfl rfl ?_
      refine zt U U ?_
      exact AB (M38 true (Sh.AA h1).symm _ (by refine Wk.trans (DQ (st:=[(Jz p0),⟨0,30,2,[[(.sl (List.map AG q11.1.decls)),(.sl (List.map AT q11.1.AD))]]⟩,⟨0,98,3,List.map (Ab 134 3) q32.2.1⟩,⟨0,57,5,List.map (AM 3 3 3 55 71) q32.2.2⟩,⟨0,30,2,[[(.own 2 0 (List.length q13.decls)),(.own 3 0 (List.length q13.AD))]]⟩,⟨0,98,3,List.map (Ab 134 3) q15.1.decls⟩,⟨0,57,5,List.map (AM 3 3 3 55 71) q15.1.AD⟩,⟨0,30,2,[[(.own 5 0 (List.length q15.1.decls)),(.own 6 0 (List.length q15.1.AD))]]⟩]) (st':=[(Jz p0),⟨0,30,2,[[(.sl (List.map AG q11.1.decls)),(.sl (List.map AT q11.1.AD))]]⟩,⟨0,98,3,List.map (Ab 134 3) q32.2.1⟩,⟨0,57,5,List.map (AM 3 3 3 55 71) q32.2.2⟩,⟨0,30,2,[[(.own 2 0 (List.length q32.2.1)),(.own 3 0 (List.length q32.2.2))]]⟩,⟨0,98,3,List.map (Ab 134 3) q15.1.decls⟩,⟨0,57,5,List.map (AM 3 3 3 55 71) q15.1.AD⟩,⟨0,30,2,[[(.own 5 0 (List.length q15.1.decls)),(.own 6 0 (List.length q15.1.AD))]]⟩]) (by first | (simp only[Sh.BB];done) | simp only[Sh.BB,ln33,ln34] | simp only[ln33,ln34])) ?_;exact AP (L:=[(1,(.ptr 0 0 0 0)),(4,(.ptr 1 0 0 0)),(5,(.bool q11.2)),(7,(.ptr 4 0 0 0)),(61,(.bool true))]) (st':=[(Jz p0),⟨0,30,2,[[(.sl (List.map AG q11.1.decls)),(.sl (List.map AT q11.1.AD))]]⟩,⟨0,98,3,List.map (Ab 134 3) q15.1.decls⟩,⟨0,57,5,List.map (AM 3 3 3 55 71) q15.1.AD⟩,⟨0,30,2,[[(.own 2 0 (List.length q15.1.decls)),(.own 3 0 (List.length q15.1.AD))]]⟩]) (st1:=[(Jz p0),⟨0,30,2,[[(.sl (List.map AG q11.1.decls)),(.sl (List.map AT q11.1.AD))]]⟩,⟨0,98,3,List.map (Ab 134 3) q15.1.decls⟩,⟨0,57,5,List.map (AM 3 3 3 55 71) q15.1.AD⟩,⟨0,30,2,[[(.own 5 0 (List.length q15.1.decls)),(.own 6 0 (List.length q15.1.AD))]]⟩]) [0,1,5,6,7] U .nil (by decide) rfl U (.raw U U (.raw U U (.deep (Af fun _=>U) (.deep (Af fun _=>U) (.raw U U .nil))))) ⟨.rfl,.rfl,.rfl,.rfl,.rfl,trivial⟩))
     ·refine zg tb b84 U (zg tb b84 U (bs h1 fun q85 gq85 h1=>I4 (v':=(.bool q85)) (st':=[(JR p0),⟨0,30,2,[[(ls AG q11.1.decls),(ls AT q11.1.AD)]]⟩,(ro 0 98 3 (Ab 134 3) q32.2.1),(ro 0 57 5 (AM 3 3 3 55 71) q32.2.2),⟨0,30,2,[[(ow 2 0 q13.decls),(ow 3 0 q13.AD)]]⟩,(ro 0 98 3 (Ab 134 3) q15.1.decls),(ro 0 57 5 (AM 3 3 3 55 71) q15.1.AD),⟨0,30,2,[[(ow 5 0 q15.1.decls),(ow 6 0 q15.1.AD)]]⟩]) (Bb U U b84) WR (G2 gq85) rfl (.agg (.ownD U U (fun _=>U) (fun x=>Eh x) (.ownD U U (fun _=>U) (fun x=>Da x) .nil)) (.val U .nil)) rfl trivial U U (zg tb b84 U (zf b84 U (zq tb U ?_)))))
      rcases Sh.As h1 with ⟨b86,h1⟩ | ⟨b86,h1⟩
      ·refine zs b86 U (zs b86 U (zs b86 U (zt b86 U ?_)))
       exact AB (M38 true (Sh.AA h1).symm _ (by refine Wk.trans (DQ (st:=[(Jz p0),⟨0,30,2,[[(.sl (List.map AG q11.1.decls)),(.sl (List.map AT q11.1.AD))]]⟩,⟨0,98,3,List.map (Ab 134 3) q32.2.1⟩,⟨0,57,5,List.map (AM 3 3 3 55 71) q32.2.2⟩,⟨0,30,2,[[(.own 2 0 (List.length q13.decls)),(.own 3 0 (List.length q13.AD))]]⟩,⟨0,98,3,List.map (Ab 134 3) q15.1.decls⟩,⟨0,57,5,List.map (AM 3 3 3 55 71) q15.1.AD⟩,⟨0,30,2,[[(.own 5 0 (List.length q15.1.decls)),(.own 6 0 (List.length q15.1.AD))]]⟩]) (st':=[(Jz p0),⟨0,30,2,[[(.sl (List.map AG q11.1.decls)),(.sl (List.map AT q11.1.AD))]]⟩,⟨0,98,3,List.map (Ab 134 3) q32.2.1⟩,⟨0,57,5,List.map (AM 3 3 3 55 71) q32.2.2⟩,⟨0,30,2,[[(.own 2 0 (List.length q32.2.1)),(.own 3 0 (List.length q32.2.2))]]⟩,⟨0,98,3,List.map (Ab 134 3) q15.1.decls⟩,⟨0,57,5,List.map (AM 3 3 3 55 71) q15.1.AD⟩,⟨0,30,2,[[(.own 5 0 (List.length q15.1.decls)),(.own 6 0 (List.length q15.1.AD))]]⟩]) (by first | (simp only[Sh.BB];done) | simp only[Sh.BB,ln33,ln34] | simp only[ln33,ln34])) ?_;exact AP (L:=[(1,(.ptr 0 0 0 0)),(4,(.ptr 1 0 0 0)),(5,(.bool q11.2)),(7,(.ptr 4 0 0 0)),(61,(.bool true))]) (st':=[(Jz p0),⟨0,30,2,[[(.sl (List.map AG q11.1.decls)),(.sl (List.map AT q11.1.AD))]]⟩,⟨0,98,3,List.map (Ab 134 3) q15.1.decls⟩,⟨0,57,5,List.map (AM 3 3 3 55 71) q15.1.AD⟩,⟨0,30,2,[[(.own 2 0 (List.length q15.1.decls)),(.own 3 0 (List.length q15.1.AD))]]⟩]) (st1:=[(Jz p0),⟨0,30,2,[[(.sl (List.map AG q11.1.decls)),(.sl (List.map AT q11.1.AD))]]⟩,⟨0,98,3,List.map (Ab 134 3) q15.1.decls⟩,⟨0,57,5,List.map (AM 3 3 3 55 71) q15.1.AD⟩,⟨0,30,2,[[(.own 5 0 (List.length q15.1.decls)),(.own 6 0 (List.length q15.1.AD))]]⟩]) [0,1,5,6,7] U .nil (by decide) rfl U (.raw U U (.raw U U (.deep (Af fun _=>U) (.deep (Af fun _=>U) (.raw U U .nil))))) ⟨.rfl,.rfl,.rfl,.rfl,.rfl,trivial⟩))
      ·refine zg tb b86 U (zg tb b86 U (zg tb b86 U (zf b86 U ?_)))
       exact AB (M38 (q15.2 != q11.2) (Sh.AA h1).symm _ (by refine Wk.trans (DQ (st:=[(Jz p0),⟨0,30,2,[[(.sl (List.map AG q11.1.decls)),(.sl (List.map AT q11.1.AD))]]⟩,⟨0,98,3,List.map (Ab 134 3) q32.2.1⟩,⟨0,57,5,List.map (AM 3 3 3 55 71) q32.2.2⟩,⟨0,30,2,[[(.own 2 0 (List.length q13.decls)),(.own 3 0 (List.length q13.AD))]]⟩,⟨0,98,3,List.map (Ab 134 3) q15.1.decls⟩,⟨0,57,5,List.map (AM 3 3 3 55 71) q15.1.AD⟩,⟨0,30,2,[[(.own 5 0 (List.length q15.1.decls)),(.own 6 0 (List.length q15.1.AD))]]⟩]) (st':=[(Jz p0),⟨0,30,2,[[(.sl (List.map AG q11.1.decls)),(.sl (List.map AT q11.1.AD))]]⟩,⟨0,98,3,List.map (Ab 134 3) q32.2.1⟩,⟨0,57,5,List.map (AM 3 3 3 55 71) q32.2.2⟩,⟨0,30,2,[[(.own 2 0 (List.length q32.2.1)),(.own 3 0 (List.length q32.2.2))]]⟩,⟨0,98,3,List.map (Ab 134 3) q15.1.decls⟩,⟨0,57,5,List.map (AM 3 3 3 55 71) q15.1.AD⟩,⟨0,30,2,[[(.own 5 0 (List.length q15.1.decls)),(.own 6 0 (List.length q15.1.AD))]]⟩]) (by first | (simp only[Sh.BB];done) | simp only[Sh.BB,ln33,ln34] | simp only[ln33,ln34])) ?_;exact AP (L:=[(1,(.ptr 0 0 0 0)),(4,(.ptr 1 0 0 0)),(5,(.bool q11.2)),(7,(.ptr 4 0 0 0)),(61,(.bool (q15.2 != q11.2)))]) (st':=[(Jz p0),⟨0,30,2,[[(.sl (List.map AG q11.1.decls)),(.sl (List.map AT q11.1.AD))]]⟩,⟨0,98,3,List.map (Ab 134 3) q15.1.decls⟩,⟨0,57,5,List.map (AM 3 3 3 55 71) q15.1.AD⟩,⟨0,30,2,[[(.own 2 0 (List.length q15.1.decls)),(.own 3 0 (List.length q15.1.AD))]]⟩]) (st1:=[(Jz p0),⟨0,30,2,[[(.sl (List.map AG q11.1.decls)),(.sl (List.map AT q11.1.AD))]]⟩,⟨0,98,3,List.map (Ab 134 3) q15.1.decls⟩,⟨0,57,5,List.map (AM 3 3 3 55 71) q15.1.AD⟩,⟨0,30,2,[[(.own 5 0 (List.length q15.1.decls)),(.own 6 0 (List.length q15.1.AD))]]⟩]) [0,1,5,6,7] U .nil (by decide) rfl U (.raw U U (.raw U U (.deep (Af fun _=>U) (.deep (Af fun _=>U) (.raw U U .nil))))) ⟨.rfl,.rfl,.rfl,.rfl,.rfl,trivial⟩))
  refine AJ U (zm tb 2 U (bs h1 fun q87 gq87 h1=>I4 (v':=(.bool q87)) (st':=[(JR p0),⟨1,98,3,[]⟩,⟨1,57,5,[]⟩,⟨0,30,2,[[(ls AG q11.1.decls),(ls AT q11.1.AD)]]⟩,(ro 0 98 3 (Ab 134 3) q13.decls),(ro 0 57 5 (AM 3 3 3 55 71) q13.AD),⟨0,30,2,[[(ow 4 0 q13.decls),(ow 5 0 q13.AD)]]⟩,(ro 0 98 3 (Ab 134 3) q15.1.decls),(ro 0 57 5 (AM 3 3 3 55 71) q15.1.AD),⟨0,30,2,[[(ow 7 0 q15.1.decls),(ow 8 0 q15.1.AD)]]⟩]) Ah WR (G2 gq87) rfl (.agg (.ownD U U (fun _=>U) (fun x=>Eh x) (.ownD U U (fun _=>U) (fun x=>Da x) .nil)) (.val U .nil)) rfl trivial U U (zm tb 2 U ?_)))
  rcases Sh.As h1 with ⟨b88,h1⟩ | ⟨b88,h1⟩
  ·refine zs b88 U (zs b88 U (zs b88 U (zt b88 U ?_)))
   exact AB (M19 true (Sh.AA h1).symm _ (AP (L:=[(1,(.ptr 0 0 0 0)),(4,(.ptr 1 0 0 0)),(5,(.bool q11.2)),(6,(.ptr 4 0 0 0)),(7,(.ptr 7 0 0 0)),(8,(.bool q15.2)),(40,(.bool true))]) (st':=[(JR p0),⟨0,30,2,[[(ls AG q11.1.decls),(ls AT q11.1.AD)]]⟩,(ro 0 98 3 (Ab 134 3) q13.decls),(ro 0 57 5 (AM 3 3 3 55 71) q13.AD),⟨0,30,2,[[(ow 2 0 q13.decls),(ow 3 0 q13.AD)]]⟩,(ro 0 98 3 (Ab 134 3) q15.1.decls),(ro 0 57 5 (AM 3 3 3 55 71) q15.1.AD),⟨0,30,2,[[(ow 5 0 q15.1.decls),(ow 6 0 q15.1.AD)]]⟩]) (st1:=[(JR p0),⟨0,30,2,[[(ls AG q11.1.decls),(ls AT q11.1.AD)]]⟩,(ro 0 98 3 (Ab 134 3) q13.decls),(ro 0 57 5 (AM 3 3 3 55 71) q13.AD),⟨0,30,2,[[(ow 4 0 q13.decls),(ow 5 0 q13.AD)]]⟩,(ro 0 98 3 (Ab 134 3) q15.1.decls),(ro 0 57 5 (AM 3 3 3 55 71) q15.1.AD),⟨0,30,2,[[(ow 7 0 q15.1.decls),(ow 8 0 q15.1.AD)]]⟩]) [0,3,4,5,6,7,8,9] U .nil (by decide) rfl U (.raw U U (.raw U U (.deep (Af fun _=>U) (.deep (Af fun _=>U) (.raw U U (.deep (Af fun _=>U) (.deep (Af fun _=>U) (.raw U U .nil)))))))) ⟨.rfl,.rfl,.rfl,.rfl,.rfl,.rfl,.rfl,trivial⟩))
  ·refine zg tb b88 U (zg tb b88 U (zg tb b88 U (zf b88 U ?_)))
   exact AB (M19 (q15.2 != q11.2) (Sh.AA h1).symm _ (AP (L:=[(1,(.ptr 0 0 0 0)),(4,(.ptr 1 0 0 0)),(5,(.bool q11.2)),(6,(.ptr 4 0 0 0)),(7,(.ptr 7 0 0 0)),(8,(.bool q15.2)),(40,(.bool (q15.2 != q11.2)))]) (st':=[(JR p0),⟨0,30,2,[[(ls AG q11.1.decls),(ls AT q11.1.AD)]]⟩,(ro 0 98 3 (Ab 134 3) q13.decls),(ro 0 57 5 (AM 3 3 3 55 71) q13.AD),⟨0,30,2,[[(ow 2 0 q13.decls),(ow 3 0 q13.AD)]]⟩,(ro 0 98 3 (Ab 134 3) q15.1.decls),(ro 0 57 5 (AM 3 3 3 55 71) q15.1.AD),⟨0,30,2,[[(ow 5 0 q15.1.decls),(ow 6 0 q15.1.AD)]]⟩]) (st1:=[(JR p0),⟨0,30,2,[[(ls AG q11.1.decls),(ls AT q11.1.AD)]]⟩,(ro 0 98 3 (Ab 134 3) q13.decls),(ro 0 57 5 (AM 3 3 3 55 71) q13.AD),⟨0,30,2,[[(ow 4 0 q13.decls),(ow 5 0 q13.AD)]]⟩,(ro 0 98 3 (Ab 134 3) q15.1.decls),(ro 0 57 5 (AM 3 3 3 55 71) q15.1.AD),⟨0,30,2,[[(ow 7 0 q15.1.decls),(ow 8 0 q15.1.AD)]]⟩]) [0,3,4,5,6,7,8,9] U .nil (by decide) rfl U (.raw U U (.raw U U (.deep (Af fun _=>U) (.deep (Af fun _=>U) (.raw U U (.deep (Af fun _=>U) (.deep (Af fun _=>U) (.raw U U .nil)))))))) ⟨.rfl,.rfl,.rfl,.rfl,.rfl,.rfl,.rfl,trivial⟩))
end Go.Proofs.YtcegihniiokijaaGreat

