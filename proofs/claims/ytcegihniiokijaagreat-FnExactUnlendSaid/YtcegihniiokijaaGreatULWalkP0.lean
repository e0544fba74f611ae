import Derived.Test.YtcegihniiokijaaGreatProg
import Derived.Test.YtcegihniiokijaaGreatGEncCToULDefs
import Derived.Test.YtcegihniiokijaaGreatAbsQ
import Derived.Test.YtcegihniiokijaaGreatCLWalk
namespace Go.Proofs.YtcegihniiokijaaGreat
open Go Go.Abs RC
attribute [local irreducible] Go.Abs.Cc
set_option maxRecDepth 100000
set_option maxHeartbeats 4000000

def tb:Kh Tryz.prog where
 t:=[(102,true,3),(134,true,1),(168,false,1),(170,true,2),(178,true,1),(205,true,5),(209,false,1),(211,true,5),(22,false,1),(23,false,1),(25,true,2),(27,false,1),(28,false,1),(3,false,1),(30,true,2),(37,false,1),(4,false,1),(47,false,1),(49,true,2),(53,false,1),(55,true,2),(57,true,5),(69,false,1),(71,true,5),(81,false,1),(83,true,3),(85,false,1),(87,true,2),(89,true,5),(96,false,1),(98,true,3)]
 f:=[(102,0,0),(102,1,1),(102,2,2),(134,0,0),(170,0,0),(170,1,1),(178,0,0),(205,0,0),(205,1,1),(211,0,0),(211,1,1),(211,2,2),(211,3,3),(211,4,4),(25,0,0),(25,1,1),(30,0,0),(30,1,1),(49,0,0),(49,1,1),(55,0,0),(55,1,1),(57,0,0),(57,1,1),(57,2,2),(57,3,3),(71,0,0),(71,1,1),(71,2,2),(71,3,3),(71,4,4),(83,0,0),(83,1,1),(83,2,2),(87,0,0),(87,1,1),(89,0,0),(89,1,1),(89,2,2),(89,3,3),(98,0,0),(98,1,1),(98,2,2)]
 v:=[]
 b:=[4]
 s:=[168,209,22,23,27,28,37,47,53,69,74,81,85,96]
 ht:=by kernel_rfl
 hf:=by kernel_rfl
 hv:=by kernel_rfl
 hb:=by kernel_rfl
 hs:=by kernel_rfl

theorem cJ:GC Tryz.prog 170=true:=by kernel_rfl
theorem aj:GC Tryz.prog 205=true:=by kernel_rfl
theorem bh:HH Tryz.prog 170=some [(0,1),(1,1)]:=by kernel_rfl
theorem ao:HH Tryz.prog 205=some [(0,1),(1,1),(2,3)]:=by kernel_rfl
theorem Pw:CF Tryz.prog 168=some ⟨205,5,72,[.sl [],.int .i64 0,.int .i64 0,.int .i64 0,.sl []]⟩:=by kernel_rfl
theorem Yx:CF Tryz.prog 209=some ⟨87,2,32,[.sl [],.int .i64 0]⟩:=by kernel_rfl
theorem aR:CF Tryz.prog 22=some ⟨83,3,40,[.int .i64 0,.int .i64 0,.sl []]⟩:=by kernel_rfl
theorem aN:CF Tryz.prog 23=some ⟨89,5,88,[.sl [],.sl [],.int .i64 0,.sl [],.int .i64 0]⟩:=by kernel_rfl
theorem DA:CF Tryz.prog 27=some ⟨98,3,40,[.int .i64 0,.int .i64 0,.sl []]⟩:=by kernel_rfl
theorem E7:CF Tryz.prog 28=some ⟨57,5,88,[.sl [],.sl [],.int .i64 0,.sl [],.int .i64 0]⟩:=by kernel_rfl
theorem BN:CF Tryz.prog 37=some ⟨3,1,8,[.int .i64 0]⟩:=by kernel_rfl
theorem FD:CF Tryz.prog 53=some ⟨71,5,72,[.int .i64 0,.int .i64 0,.int .i64 0,.sl [],.sl []]⟩:=by kernel_rfl
theorem Hi:CF Tryz.prog 69=some ⟨55,2,32,[.sl [],.int .i64 0]⟩:=by kernel_rfl
theorem aL:CF Tryz.prog 81=some ⟨178,1,24,[.sl []]⟩:=by kernel_rfl
theorem aX:CF Tryz.prog 85=some ⟨211,5,72,[.int .i64 0,.int .i64 0,.int .i64 0,.sl [],.sl []]⟩:=by kernel_rfl
theorem IC:CF Tryz.prog 96=some ⟨134,1,24,[.sl []]⟩:=by kernel_rfl
theorem Y3:Aq Tryz.prog 100=true:=by kernel_rfl
theorem PZ:Aq Tryz.prog 103=true:=by kernel_rfl
theorem bM:Aq Tryz.prog 109=true:=by kernel_rfl
theorem TP:Aq Tryz.prog 110=true:=by kernel_rfl
theorem ZI:Aq Tryz.prog 111=true:=by kernel_rfl
theorem Ye:Aq Tryz.prog 113=true:=by kernel_rfl
theorem cI:Aq Tryz.prog 120=true:=by kernel_rfl
theorem Tr:Aq Tryz.prog 121=true:=by kernel_rfl
theorem Y7:Aq Tryz.prog 122=true:=by kernel_rfl
theorem az:Aq Tryz.prog 154=true:=by kernel_rfl
theorem ak:Aq Tryz.prog 155=true:=by kernel_rfl
theorem bV:Aq Tryz.prog 156=true:=by kernel_rfl
theorem Gs:Aq Tryz.prog 158=true:=by kernel_rfl
theorem cU:Aq Tryz.prog 163=true:=by kernel_rfl
theorem bT:Aq Tryz.prog 164=true:=by kernel_rfl
theorem ND:Aq Tryz.prog 167=true:=by kernel_rfl
theorem Vc:Aq Tryz.prog 168=true:=by kernel_rfl
theorem ZG:Aq Tryz.prog 169=true:=by kernel_rfl
theorem X4:Aq Tryz.prog 172=true:=by kernel_rfl
theorem bt:Aq Tryz.prog 175=true:=by kernel_rfl
theorem cA:Aq Tryz.prog 176=true:=by kernel_rfl
theorem cK:Aq Tryz.prog 177=true:=by kernel_rfl
theorem bC:Aq Tryz.prog 178=true:=by kernel_rfl
theorem bp:Aq Tryz.prog 201=true:=by kernel_rfl
theorem Yn:Aq Tryz.prog 202=true:=by kernel_rfl
theorem bQ:Aq Tryz.prog 206=true:=by kernel_rfl
theorem Vm:Aq Tryz.prog 207=true:=by kernel_rfl
theorem ab:Aq Tryz.prog 208=true:=by kernel_rfl
theorem br:Aq Tryz.prog 209=true:=by kernel_rfl
theorem bB:Aq Tryz.prog 228=true:=by kernel_rfl
theorem bF:Aq Tryz.prog 229=true:=by kernel_rfl
theorem bb:Aq Tryz.prog 230=true:=by kernel_rfl
theorem cg:Aq Tryz.prog 26=true:=by kernel_rfl
theorem dk:Aq Tryz.prog 27=true:=by kernel_rfl
theorem dJ:Aq Tryz.prog 31=true:=by kernel_rfl
theorem da:Aq Tryz.prog 32=true:=by kernel_rfl
theorem cr:Aq Tryz.prog 64=true:=by kernel_rfl
theorem cZ:Aq Tryz.prog 65=true:=by kernel_rfl
theorem dm:Aq Tryz.prog 72=true:=by kernel_rfl
theorem cy:Aq Tryz.prog 73=true:=by kernel_rfl
theorem bG:CI Tryz.prog 168=true:=by kernel_rfl
theorem Oz:CI Tryz.prog 27=true:=by kernel_rfl
theorem Ga:CI Tryz.prog 37=true:=by kernel_rfl
theorem Rz:CI Tryz.prog 69=true:=by kernel_rfl
theorem Nn:CI Tryz.prog 96=true:=by kernel_rfl
theorem Ix:CP Tryz.prog 134=some (true,1):=by kernel_rfl
theorem ah:CP Tryz.prog 168=some (false,1):=by kernel_rfl
theorem Vl:CP Tryz.prog 170=some (true,2):=by kernel_rfl
theorem aq:CP Tryz.prog 205=some (true,5):=by kernel_rfl
theorem cc:CP Tryz.prog 27=some (false,1):=by kernel_rfl
theorem Y5:CP Tryz.prog 28=some (false,1):=by kernel_rfl
theorem HN:CP Tryz.prog 3=some (false,1):=by kernel_rfl
theorem Hl:CP Tryz.prog 30=some (true,2):=by kernel_rfl
theorem Iu:CP Tryz.prog 37=some (false,1):=by kernel_rfl
theorem Ub:CP Tryz.prog 53=some (false,1):=by kernel_rfl
theorem JV:CP Tryz.prog 55=some (true,2):=by kernel_rfl
theorem NJ:CP Tryz.prog 57=some (true,5):=by kernel_rfl
theorem Ym:CP Tryz.prog 69=some (false,1):=by kernel_rfl
theorem KZ:CP Tryz.prog 71=some (true,5):=by kernel_rfl
theorem N3:CP Tryz.prog 96=some (false,1):=by kernel_rfl
theorem Hm:CP Tryz.prog 98=some (true,3):=by kernel_rfl
theorem Kd:GG Tryz.prog 134=some [.zc]:=by kernel_rfl
theorem VT:GG Tryz.prog 170=some [.zc,.zc]:=by kernel_rfl
theorem ZA:GG Tryz.prog 205=some [.zc,.int .i64 0,.int .i64 0,.int .i64 0,.zc]:=by kernel_rfl
theorem JQ:GG Tryz.prog 30=some [.zc,.zc]:=by kernel_rfl
theorem Kv:GG Tryz.prog 55=some [.zc,.int .i64 0]:=by kernel_rfl
theorem Lt:GG Tryz.prog 57=some [.zc,.zc,.int .i64 0,.zc,.int .i64 0]:=by kernel_rfl
theorem Np:GG Tryz.prog 71=some [.int .i64 0,.int .i64 0,.int .i64 0,.zc,.zc]:=by kernel_rfl
theorem B2:GG Tryz.prog 98=some [.int .i64 0,.int .i64 0,.zc]:=by kernel_rfl

theorem H2 {p0:(List Int)} {p1:Int} {r:Int} (h0:Fh p0 p1=some r):Ae Tryz.prog 110 [(ls eI p0),(i64 p1)] [] (fun v st=>v=(i64 r)∧st=[]):=by
 unfold Fh at h0
 refine ai Tryz.func110 U U U U (zr tb U U (sr U fun K2 hK2=>zm tb 2 U (zl tb U U (zm tb 2 U (dn hK2 U (AE fun K3 hK3=>zr tb U U ?_))))))
 refine ci h0 U ?_ ?_ <;> clear h0
 ·intro b5 h0
  refine zr tb U U ?_
  replace h0:=Sh.AA h0
  subst r
  exact AK (xr (AF (L:=[(4,(i64 (-1)))]) ⟨.rfl,trivial⟩))
 ·intro b5 h0
  refine AI (hK3 _ (zr tb U U ?_))
  replace h0:=Sh.AA h0
  subst r
  exact AK (xr (AF (L:=[(4,(i64 (Sh.w (p1 - (Sh.len p0)))))]) ⟨.rfl,trivial⟩))
theorem Rv {p0:BO} {p1:Int} {r:Int} (h0:JL p0 p1=some r):Ae Tryz.prog 163 [(.agg (Ar p0)),(i64 p1)] [] (fun v st=>v=(i64 r)∧st=[]):=by
 unfold JL at h0
 refine ai Tryz.func163 U U U U (sr U fun K1 hK1=>BI (m:=0) (st':=[⟨0,178,1,[(Ar p0)]⟩]) Ah U U U U U (zq tb U (dn hK1 U (sr U fun K2 hK2=>zm tb 3 U (bs h0 fun q3 gq3 h0=>zc TP (H2 gq3) rfl U U (zq tb U (dn hK2 U (AE fun K4 hK4=>?_))))))))
 refine zr tb U U ?_
 refine ci h0 U ?_ ?_ <;> clear h0
 ·intro b6 h0
  refine zr tb U U ?_
  replace h0:=Sh.AA h0
  subst r
  exact AK (xr (Ai [(4,(i64 (-1)))] U))
 ·intro b6 h0
  refine AI (hK4 _ (zr tb U U ?_))
  replace h0:=Sh.AA h0
  subst r
  exact AK (xr (Ai [(4,(i64 q3))] U))
theorem Q0 {N:Nat} {p0:(List BO)} {p1:Int} {r:Int} (h0:IS N p0 p1=some r):Ae Tryz.prog 109 [(ls Ar p0),(i64 p1)] [] (fun v st=>v=(i64 r)∧st=[]):=by
 unfold IS at h0
 refine ai Tryz.func109 U U U U (zr tb U U (sr U fun K2 hK2=>zm tb 2 U (zl tb U U (zm tb 2 U (dn hK2 U (AE fun K3 hK3=>zr tb U U ?_))))))
 refine ci h0 U ?_ ?_ <;> clear h0
 ·intro b5 h0
  refine zr tb U U ?_
  replace h0:=Sh.AA h0
  subst r
  exact AK (xr (AF (L:=[(4,(i64 (-1)))]) ⟨.rfl,trivial⟩))
 ·intro b5 h0
  refine AI (hK3 _ (AE fun K7 hK7=>zr tb U U ?_))
  obtain⟨o12,h1,h0⟩:=Sh.A8 h0
  have M12 :∀(left11:Int),o12=Sum.inr left11→∀s,Wk 0 s ⟨27,Ad [(1,(i64 left11))],[]⟩→K7 s:=by
   intro left11 hq s hw
   subst o12
   try dsimp only at h0
   refine hK7 _ (AS hw (zr tb U U ?_))
   replace h0:=Sh.AA h0
   subst r
   exact AK (xr (AF (L:=[(4,(i64 left11))]) ⟨.rfl,trivial⟩))
  refine Aa (Au (σ:=Int×Int) (fun n v=>EU p0 n v.1 v.2=some o12) (fun (left9,i10)=>⟨27,Ad [(0,(ls Ar p0)),(1,(i64 left9)),(5,(i64 i10))],[]⟩) N (Sh.w (p1 - (Sh.len p0)),0) h1 (AN U) (fun _ hv=>by rw[EU] at hv;cases hv) ?_)
  rintro n ⟨left9,i10⟩ h1
  try dsimp only at h1 ⊢
  rw[EU] at h1
  refine AE fun K14 hK14=>sr U fun K15 hK15=>zm tb 2 U (zl tb U U (zq tb U (dn hK15 U ?_)))
  refine ci h1 U ?_ ?_ <;> clear h1
  ·intro b16 h1
   refine AI (hK14 _ (AE fun K17 hK17=>Aa (sr U fun K18 hK18=>zm tb 2 U (bs h1 fun c19 gc19 h1=>zx aL gc19 U U U (zm tb 2 U (bs h1 fun q20 gq20 h1=>zc cU (Rv gq20) rfl U U (zq tb U (dn hK18 U ?_))))))))
   refine zr tb U U ?_
   refine ci h1 U ?_ ?_ <;> clear h1
   ·intro b22 h1
    refine zr tb U U ?_
    replace h1:=Sh.AA h1
    subst o12
    try dsimp only[id] at h0
    replace h0:=Sh.AA h0
    subst r
    exact AK (xr (AF (L:=[(4,(i64 (-1)))]) ⟨.rfl,trivial⟩))
   ·intro b22 h1
    exact AI (hK17 _ (AJ U (zm tb 3 U (AB (xi (q20,Sh.w (i10+1)) h1 (AN U))))))
  ·intro b16 h1
   exact Ay (M12 left9 (Sh.AA h1).symm _ (AN U))
theorem Qb {N:Nat} {p0:Ag} {p1:Int} {r:Int} (h0:IY N p0 p1=some r):Ae Tryz.prog 64 [(.agg (AG p0)),(i64 p1)] [] (fun v st=>v=(i64 r)∧st=[]):=by
 unfold IY at h0
 refine ai Tryz.func64 U U U U (sr U fun K1 hK1=>BI (m:=0) (st':=[⟨0,83,3,[(AG p0)]⟩]) Ah U U U U U (zq tb U (dn hK1 U (sr U fun K2 hK2=>zm tb 3 U (bs h0 fun q3 gq3 h0=>zc bM (Q0 gq3) rfl U U (zq tb U (dn hK2 U (AE fun K4 hK4=>?_))))))))
 refine zr tb U U ?_
 refine ci h0 U ?_ ?_ <;> clear h0
 ·intro b6 h0
  refine zr tb U U ?_
  replace h0:=Sh.AA h0
  subst r
  exact AK (xr (Ai [(4,(i64 (-1)))] U))
 ·intro b6 h0
  refine AI (hK4 _ (zr tb U U ?_))
  replace h0:=Sh.AA h0
  subst r
  exact AK (xr (Ai [(4,(i64 q3))] U))
theorem Pr {N:Nat} {p0:(List Ag)} {p1:Int} {r:Int} (h0:He N p0 p1=some r):Ae Tryz.prog 26 [(ls AG p0),(i64 p1)] [] (fun v st=>v=(i64 r)∧st=[]):=by
 unfold He at h0
 refine ai Tryz.func26 U U U U (zr tb U U (sr U fun K2 hK2=>zm tb 2 U (zl tb U U (zm tb 2 U (dn hK2 U (AE fun K3 hK3=>zr tb U U ?_))))))
 refine ci h0 U ?_ ?_ <;> clear h0
 ·intro b5 h0
  refine zr tb U U ?_
  replace h0:=Sh.AA h0
  subst r
  exact AK (xr (AF (L:=[(4,(i64 (-1)))]) ⟨.rfl,trivial⟩))
 ·intro b5 h0
  refine AI (hK3 _ (AE fun K7 hK7=>zr tb U U ?_))
  obtain⟨o12,h1,h0⟩:=Sh.A8 h0
  have M12 :∀(left11:Int),o12=Sum.inr left11→∀s,Wk 0 s ⟨27,Ad [(1,(i64 left11))],[]⟩→K7 s:=by
   intro left11 hq s hw
   subst o12
   try dsimp only at h0
   refine hK7 _ (AS hw (zr tb U U ?_))
   replace h0:=Sh.AA h0
   subst r
   exact AK (xr (AF (L:=[(4,(i64 left11))]) ⟨.rfl,trivial⟩))
  refine Aa (Au (σ:=Int×Int) (fun n v=>ED N p0 n v.1 v.2=some o12) (fun (left9,i10)=>⟨27,Ad [(0,(ls AG p0)),(1,(i64 left9)),(5,(i64 i10))],[]⟩) N (Sh.w (p1 - (Sh.len p0)),0) h1 (AN U) (fun _ hv=>by rw[ED] at hv;cases hv) ?_)
  rintro n ⟨left9,i10⟩ h1
  try dsimp only at h1 ⊢
  rw[ED] at h1
  refine AE fun K14 hK14=>sr U fun K15 hK15=>zm tb 2 U (zl tb U U (zq tb U (dn hK15 U ?_)))
  refine ci h1 U ?_ ?_ <;> clear h1
  ·intro b16 h1
   refine AI (hK14 _ (AE fun K17 hK17=>Aa (sr U fun K18 hK18=>zm tb 2 U (bs h1 fun c19 gc19 h1=>zx aR gc19 U U U (zm tb 2 U (bs h1 fun q20 gq20 h1=>zc cr (Qb gq20) rfl U U (zq tb U (dn hK18 U ?_))))))))
   refine zr tb U U ?_
   refine ci h1 U ?_ ?_ <;> clear h1
   ·intro b22 h1
    refine zr tb U U ?_
    replace h1:=Sh.AA h1
    subst o12
    try dsimp only[id] at h0
    replace h0:=Sh.AA h0
    subst r
    exact AK (xr (AF (L:=[(4,(i64 (-1)))]) ⟨.rfl,trivial⟩))
   ·intro b22 h1
    exact AI (hK17 _ (AJ U (zm tb 3 U (AB (xi (q20,Sh.w (i10+1)) h1 (AN U))))))
  ·intro b16 h1
   exact Ay (M12 left9 (Sh.AA h1).symm _ (AN U))
theorem PC {N:Nat} {rec_laws_szBlock:Block→Int→Option (Int)} (hrec_laws_szBlock :∀{p0:Block} {p1:Int} {r:Int},rec_laws_szBlock p0 p1=some r→Ae Tryz.prog 111 [(.agg [(ls Al p0.steps),(i64 p0.result)]),(i64 p1)] [] (fun v st=>v=(i64 r)∧st=[])) {p0:(List Block)} {p1:Int} {r:Int} (h0:G9 N rec_laws_szBlock p0 p1=some r):Ae Tryz.prog 229 [(ls A2 p0),(i64 p1)] [] (fun v st=>v=(i64 r)∧st=[]):=by
 unfold G9 at h0
 refine ai Tryz.func229 U U U U (zr tb U U (sr U fun K2 hK2=>zm tb 2 U (zl tb U U (zm tb 2 U (dn hK2 U (AE fun K3 hK3=>zr tb U U ?_))))))
 refine ci h0 U ?_ ?_ <;> clear h0
 ·intro b5 h0
  refine zr tb U U ?_
  replace h0:=Sh.AA h0
  subst r
  exact AK (xr (AF (L:=[(4,(i64 (-1)))]) ⟨.rfl,trivial⟩))
 ·intro b5 h0
  refine AI (hK3 _ (AE fun K7 hK7=>zr tb U U ?_))
  obtain⟨o12,h1,h0⟩:=Sh.A8 h0
  have M12 :∀(left11:Int),o12=Sum.inr left11→∀s,Wk 0 s ⟨27,Ad [(1,(i64 left11))],[]⟩→K7 s:=by
   intro left11 hq s hw
   subst o12
   try dsimp only at h0
   refine hK7 _ (AS hw (zr tb U U ?_))
   replace h0:=Sh.AA h0
   subst r
   exact AK (xr (AF (L:=[(4,(i64 left11))]) ⟨.rfl,trivial⟩))
  refine Aa (Au (σ:=Int×Int) (fun n v=>DL p0 rec_laws_szBlock n v.1 v.2=some o12) (fun (left9,i10)=>⟨27,Ad [(0,(ls A2 p0)),(1,(i64 left9)),(5,(i64 i10))],[]⟩) N (Sh.w (p1 - (Sh.len p0)),0) h1 (AN U) (fun _ hv=>by rw[DL] at hv;cases hv) ?_)
  rintro n ⟨left9,i10⟩ h1
  try dsimp only at h1 ⊢
  rw[DL] at h1
  refine AE fun K14 hK14=>sr U fun K15 hK15=>zm tb 2 U (zl tb U U (zq tb U (dn hK15 U ?_)))
  refine ci h1 U ?_ ?_ <;> clear h1
  ·intro b16 h1
   refine AI (hK14 _ (AE fun K17 hK17=>Aa (sr U fun K18 hK18=>zm tb 2 U (bs h1 fun c19 gc19 h1=>zx Yx gc19 U U U (zm tb 2 U (bs h1 fun q20 gq20 h1=>zc ZI (hrec_laws_szBlock gq20) rfl U U (zq tb U (dn hK18 U ?_))))))))
   refine zr tb U U ?_
   refine ci h1 U ?_ ?_ <;> clear h1
   ·intro b22 h1
    refine zr tb U U ?_
    replace h1:=Sh.AA h1
    subst o12
    try dsimp only[id] at h0
    replace h0:=Sh.AA h0
    subst r
    exact AK (xr (AF (L:=[(4,(i64 (-1)))]) ⟨.rfl,trivial⟩))
   ·intro b22 h1
    exact AI (hK17 _ (AJ U (zm tb 3 U (AB (xi (q20,Sh.w (i10+1)) h1 (AN U))))))
  ·intro b16 h1
   exact Ay (M12 left9 (Sh.AA h1).symm _ (AN U))
theorem Qz {N:Nat} {rec_laws_szBlock:Block→Int→Option (Int)} (hrec_laws_szBlock :∀{p0:Block} {p1:Int} {r:Int},rec_laws_szBlock p0 p1=some r→Ae Tryz.prog 111 [(.agg [(ls Al p0.steps),(i64 p0.result)]),(i64 p1)] [] (fun v st=>v=(i64 r)∧st=[])) {p0:Step} {p1:Int} {r:Int} (h0:Il N rec_laws_szBlock p0 p1=some r):Ae Tryz.prog 206 [(.agg [(i64 p0.op),(i64 p0.num),(i64 p0.Ax),(ls eI p0.args),(ls A2 p0.kids)]),(i64 p1)] [] (fun v st=>v=(i64 r)∧st=[]):=by
 unfold Il at h0
 refine ai Tryz.func206 U U U U (sr U fun K1 hK1=>BI (m:=0) (st':=[⟨0,211,5,[[(i64 p0.op),(i64 p0.num),(i64 p0.Ax),(ls eI p0.args),(ls A2 p0.kids)]]⟩]) Ah U U U U U (zq tb U (dn hK1 U (sr U fun K2 hK2=>zm tb 3 U (bs h0 fun q3 gq3 h0=>zc TP (H2 gq3) rfl U U (zq tb U (dn hK2 U (AE fun K4 hK4=>?_))))))))
 refine zr tb U U ?_
 refine ci h0 U ?_ ?_ <;> clear h0
 ·intro b6 h0
  refine zr tb U U ?_
  replace h0:=Sh.AA h0
  subst r
  exact AK (xr (Ai [(4,(i64 (-1)))] U))
 ·intro b6 h0
  refine AI (hK4 _ (sr U fun K8 hK8=>zm tb 3 U (bs h0 fun q9 gq9 h0=>zc bF (PC hrec_laws_szBlock gq9) rfl U U (zq tb U (dn hK8 U (AE fun K10 hK10=>zr tb U U ?_))))))
  refine ci h0 U ?_ ?_ <;> clear h0
  ·intro b12 h0
   refine zr tb U U ?_
   replace h0:=Sh.AA h0
   subst r
   exact AK (xr (Ai [(4,(i64 (-1)))] U))
  ·intro b12 h0
   refine AI (hK10 _ (zr tb U U ?_))
   replace h0:=Sh.AA h0
   subst r
   exact AK (xr (Ai [(4,(i64 q9))] U))
theorem QI {N:Nat} {rec_laws_szBlock:Block→Int→Option (Int)} (hrec_laws_szBlock :∀{p0:Block} {p1:Int} {r:Int},rec_laws_szBlock p0 p1=some r→Ae Tryz.prog 111 [(.agg [(ls Al p0.steps),(i64 p0.result)]),(i64 p1)] [] (fun v st=>v=(i64 r)∧st=[])) {p0:(List Step)} {p1:Int} {r:Int} (h0:JG N rec_laws_szBlock p0 p1=some r):Ae Tryz.prog 164 [(ls Al p0),(i64 p1)] [] (fun v st=>v=(i64 r)∧st=[]):=by
 unfold JG at h0
 refine ai Tryz.func164 U U U U (zr tb U U (sr U fun K2 hK2=>zm tb 2 U (zl tb U U (zm tb 2 U (dn hK2 U (AE fun K3 hK3=>zr tb U U ?_))))))
 refine ci h0 U ?_ ?_ <;> clear h0
 ·intro b5 h0
  refine zr tb U U ?_
  replace h0:=Sh.AA h0
  subst r
  exact AK (xr (AF (L:=[(4,(i64 (-1)))]) ⟨.rfl,trivial⟩))
 ·intro b5 h0
  refine AI (hK3 _ (AE fun K7 hK7=>zr tb U U ?_))
  obtain⟨o12,h1,h0⟩:=Sh.A8 h0
  have M12 :∀(left11:Int),o12=Sum.inr left11→∀s,Wk 0 s ⟨27,Ad [(1,(i64 left11))],[]⟩→K7 s:=by
   intro left11 hq s hw
   subst o12
   try dsimp only at h0
   refine hK7 _ (AS hw (zr tb U U ?_))
   replace h0:=Sh.AA h0
   subst r
   exact AK (xr (AF (L:=[(4,(i64 left11))]) ⟨.rfl,trivial⟩))
  refine Aa (Au (σ:=Int×Int) (fun n v=>Dg N p0 rec_laws_szBlock n v.1 v.2=some o12) (fun (left9,i10)=>⟨27,Ad [(0,(ls Al p0)),(1,(i64 left9)),(5,(i64 i10))],[]⟩) N (Sh.w (p1 - (Sh.len p0)),0) h1 (AN U) (fun _ hv=>by rw[Dg] at hv;cases hv) ?_)
  rintro n ⟨left9,i10⟩ h1
  try dsimp only at h1 ⊢
  rw[Dg] at h1
  refine AE fun K14 hK14=>sr U fun K15 hK15=>zm tb 2 U (zl tb U U (zq tb U (dn hK15 U ?_)))
  refine ci h1 U ?_ ?_ <;> clear h1
  ·intro b16 h1
   refine AI (hK14 _ (AE fun K17 hK17=>Aa (sr U fun K18 hK18=>zm tb 2 U (bs h1 fun c19 gc19 h1=>zz (.BF [(i64 c19.op),(i64 c19.num),(i64 c19.Ax),(ls eI c19.args),(ls A2 c19.kids)] 0) (Di aX U U gc19 (Bw _) rfl) rfl (zm tb 2 U (bs h1 fun q20 gq20 h1=>zc bQ (Qz hrec_laws_szBlock gq20) rfl U U (zq tb U (dn hK18 U ?_))))))))
   refine zr tb U U ?_
   refine ci h1 U ?_ ?_ <;> clear h1
   ·intro b22 h1
    refine zr tb U U ?_
    replace h1:=Sh.AA h1
    subst o12
    try dsimp only[id] at h0
    replace h0:=Sh.AA h0
    subst r
    exact AK (xr (AF (L:=[(4,(i64 (-1)))]) ⟨.rfl,trivial⟩))
   ·intro b22 h1
    exact AI (hK17 _ (AJ U (zm tb 3 U (AB (xi (q20,Sh.w (i10+1)) h1 (AN U))))))
  ·intro b16 h1
   exact Ay (M12 left9 (Sh.AA h1).symm _ (AN U))
theorem N9 {N:Nat} {rec_laws_szBlock:Block→Int→Option (Int)} (hrec_laws_szBlock :∀{p0:Block} {p1:Int} {r:Int},rec_laws_szBlock p0 p1=some r→Ae Tryz.prog 111 [(.agg [(ls Al p0.steps),(i64 p0.result)]),(i64 p1)] [] (fun v st=>v=(i64 r)∧st=[])) {p0:Block} {p1:Int} {r:Int} (h0:Hs N rec_laws_szBlock p0 p1=some r):Ae Tryz.prog 111 [(.agg [(ls Al p0.steps),(i64 p0.result)]),(i64 p1)] [] (fun v st=>v=(i64 r)∧st=[]):=by
 unfold Hs at h0
 refine ai Tryz.func111 U U U U (sr U fun K1 hK1=>BI (m:=0) (st':=[⟨0,87,2,[[(ls Al p0.steps),(i64 p0.result)]]⟩]) Ah U U U U U (zq tb U (dn hK1 U (sr U fun K2 hK2=>zm tb 3 U (bs h0 fun q3 gq3 h0=>zc bT (QI hrec_laws_szBlock gq3) rfl U U (zq tb U (dn hK2 U (AE fun K4 hK4=>?_))))))))
 refine zr tb U U ?_
 refine ci h0 U ?_ ?_ <;> clear h0
 ·intro b6 h0
  refine zr tb U U ?_
  replace h0:=Sh.AA h0
  subst r
  exact AK (xr (Ai [(4,(i64 (-1)))] U))
 ·intro b6 h0
  refine AI (hK4 _ (zr tb U U ?_))
  replace h0:=Sh.AA h0
  subst r
  exact AK (xr (Ai [(4,(i64 q3))] U))

theorem OC {N:Nat} :∀(n:Nat),∀{p0:Block} {p1:Int} {r:Int},E2 N n p0 p1=some r→Ae Tryz.prog 111 [(.agg [(ls Al p0.steps),(i64 p0.result)]),(i64 p1)] [] (fun v st=>v=(i64 r)∧st=[]):=by
 intro n
 induction n with
 | zero=>intro p0 p1 r h0;cases h0
 | succ n ih=>
  intro p0 p1 r h0
  rw[E2] at h0
  exact N9 (fun h=>ih h) h0
theorem Pv {N:Nat} :∀{p0:Block} {p1:Int} {r:Int},JC N p0 p1=some r→Ae Tryz.prog 111 [(.agg [(ls Al p0.steps),(i64 p0.result)]),(i64 p1)] [] (fun v st=>v=(i64 r)∧st=[]):=by
 intro p0 p1 r h0
 exact OC N h0
theorem OW {N:Nat} {p0:Ac} {p1:Int} {r:Int} (h0:Ge N p0 p1=some r):Ae Tryz.prog 65 [(.agg [(ls eI p0.params),(ls eI p0.At),(i64 p0.result),(ls Al p0.body.steps),(i64 p0.body.result)]),(i64 p1)] [] (fun v st=>v=(i64 r)∧st=[]):=by
 unfold Ge at h0
 refine ai Tryz.func65 U U U U (sr U fun K1 hK1=>BI (m:=0) (st':=[⟨0,89,5,[[(ls eI p0.params),(ls eI p0.At),(i64 p0.result),(ls Al p0.body.steps),(i64 p0.body.result)]]⟩]) Ah U U U U U (zq tb U (dn hK1 U (sr U fun K2 hK2=>zm tb 3 U (bs h0 fun q3 gq3 h0=>zc TP (H2 gq3) rfl U U (zq tb U (dn hK2 U (AE fun K4 hK4=>?_))))))))
 refine zr tb U U ?_
 refine ci h0 U ?_ ?_ <;> clear h0
 ·intro b6 h0
  refine zr tb U U ?_
  replace h0:=Sh.AA h0
  subst r
  exact AK (xr (Ai [(4,(i64 (-1)))] U))
 ·intro b6 h0
  refine AI (hK4 _ (sr U fun K8 hK8=>zm tb 3 U (bs h0 fun q9 gq9 h0=>zc TP (H2 gq9) rfl U U (zq tb U (dn hK8 U (AE fun K10 hK10=>zr tb U U ?_))))))
  refine ci h0 U ?_ ?_ <;> clear h0
  ·intro b12 h0
   refine zr tb U U ?_
   replace h0:=Sh.AA h0
   subst r
   exact AK (xr (Ai [(4,(i64 (-1)))] U))
  ·intro b12 h0
   refine AI (hK10 _ (sr U fun K14 hK14=>zm tb 3 U (bs h0 fun q15 gq15 h0=>zc ZI (Pv gq15) rfl U U (zq tb U (dn hK14 U (AE fun K16 hK16=>zr tb U U ?_))))))
   refine ci h0 U ?_ ?_ <;> clear h0
   ·intro b18 h0
    refine zr tb U U ?_
    replace h0:=Sh.AA h0
    subst r
    exact AK (xr (Ai [(4,(i64 (-1)))] U))
   ·intro b18 h0
    refine AI (hK16 _ (zr tb U U ?_))
    replace h0:=Sh.AA h0
    subst r
    exact AK (xr (Ai [(4,(i64 q15))] U))
theorem Nc {N:Nat} {p0:(List Ac)} {p1:Int} {r:Int} (h0:F6 N p0 p1=some r):Ae Tryz.prog 27 [(ls AT p0),(i64 p1)] [] (fun v st=>v=(i64 r)∧st=[]):=by
 unfold F6 at h0
 refine ai Tryz.func27 U U U U (zr tb U U (sr U fun K2 hK2=>zm tb 2 U (zl tb U U (zm tb 2 U (dn hK2 U (AE fun K3 hK3=>zr tb U U ?_))))))
 refine ci h0 U ?_ ?_ <;> clear h0
 ·intro b5 h0
  refine zr tb U U ?_
  replace h0:=Sh.AA h0
  subst r
  exact AK (xr (AF (L:=[(4,(i64 (-1)))]) ⟨.rfl,trivial⟩))
 ·intro b5 h0
  refine AI (hK3 _ (AE fun K7 hK7=>zr tb U U ?_))
  obtain⟨o12,h1,h0⟩:=Sh.A8 h0
  have M12 :∀(left11:Int),o12=Sum.inr left11→∀s,Wk 0 s ⟨27,Ad [(1,(i64 left11))],[]⟩→K7 s:=by
   intro left11 hq s hw
   subst o12
   try dsimp only at h0
   refine hK7 _ (AS hw (zr tb U U ?_))
   replace h0:=Sh.AA h0
   subst r
   exact AK (xr (AF (L:=[(4,(i64 left11))]) ⟨.rfl,trivial⟩))
  refine Aa (Au (σ:=Int×Int) (fun n v=>C8 N p0 n v.1 v.2=some o12) (fun (left9,i10)=>⟨27,Ad [(0,(ls AT p0)),(1,(i64 left9)),(5,(i64 i10))],[]⟩) N (Sh.w (p1 - (Sh.len p0)),0) h1 (AN U) (fun _ hv=>by rw[C8] at hv;cases hv) ?_)
  rintro n ⟨left9,i10⟩ h1
  try dsimp only at h1 ⊢
  rw[C8] at h1
  refine AE fun K14 hK14=>sr U fun K15 hK15=>zm tb 2 U (zl tb U U (zq tb U (dn hK15 U ?_)))
  refine ci h1 U ?_ ?_ <;> clear h1
  ·intro b16 h1
   refine AI (hK14 _ (AE fun K17 hK17=>Aa (sr U fun K18 hK18=>zm tb 2 U (bs h1 fun c19 gc19 h1=>zx aN gc19 U U U (zm tb 2 U (bs h1 fun q20 gq20 h1=>zc cZ (OW gq20) rfl U U (zq tb U (dn hK18 U ?_))))))))
   refine zr tb U U ?_
   refine ci h1 U ?_ ?_ <;> clear h1
   ·intro b22 h1
    refine zr tb U U ?_
    replace h1:=Sh.AA h1
    subst o12
    try dsimp only[id] at h0
    replace h0:=Sh.AA h0
    subst r
    exact AK (xr (AF (L:=[(4,(i64 (-1)))]) ⟨.rfl,trivial⟩))
   ·intro b22 h1
    exact AI (hK17 _ (AJ U (zm tb 3 U (AB (xi (q20,Sh.w (i10+1)) h1 (AN U))))))
  ·intro b16 h1
   exact Ay (M12 left9 (Sh.AA h1).symm _ (AN U))
theorem PE {N:Nat} {p0:Aj} {p1:Int} {r:Int} (h0:HA N p0 p1=some r):Ae Tryz.prog 8 [(.agg [(ls AG p0.decls),(ls AT p0.AD)]),(i64 p1)] [] (fun v st=>v=(i64 r)∧st=[]):=by
 unfold HA at h0
 refine ai Tryz.func8 U U U U (sr U fun K1 hK1=>BI (m:=0) (st':=[⟨0,25,2,[[(ls AG p0.decls),(ls AT p0.AD)]]⟩]) Ah U U U U U (zq tb U (dn hK1 U (sr U fun K2 hK2=>zm tb 3 U (bs h0 fun q3 gq3 h0=>zc cg (Pr gq3) rfl U U (zq tb U (dn hK2 U (AE fun K4 hK4=>?_))))))))
 refine zr tb U U ?_
 refine ci h0 U ?_ ?_ <;> clear h0
 ·intro b6 h0
  refine zr tb U U ?_
  replace h0:=Sh.AA h0
  subst r
  exact AK (xr (Ai [(4,(i64 (-1)))] U))
 ·intro b6 h0
  refine AI (hK4 _ (sr U fun K8 hK8=>zm tb 3 U (bs h0 fun q9 gq9 h0=>zc dk (Nc gq9) rfl U U (zq tb U (dn hK8 U (AE fun K10 hK10=>zr tb U U ?_))))))
  refine ci h0 U ?_ ?_ <;> clear h0
  ·intro b12 h0
   refine zr tb U U ?_
   replace h0:=Sh.AA h0
   subst r
   exact AK (xr (Ai [(4,(i64 (-1)))] U))
  ·intro b12 h0
   refine AI (hK10 _ (zr tb U U ?_))
   replace h0:=Sh.AA h0
   subst r
   exact AK (xr (Ai [(4,(i64 q9))] U))
theorem Hn {N:Nat} {p0:(List Int)} {r:(List Int)} (h0:Fa N p0=some r):Ae Tryz.prog 121 [(ls eI p0)] [] (fun v st=>v=(ow 0 0 r)∧st=[(ro 0 3 1 eI r)]):=by
 unfold Fa at h0
 refine ai Tryz.func121 U U U U (zr tb U U (sr U fun K2 hK2=>zq tb U (zl tb U U (bs h0 fun l3 gl3 h0=>Yb (m:=0) (st':=[(ro 0 3 1 eI l3)]) (enc:=eI) (u:=0) Ah BN U U U gl3 U U (zq tb U (dn hK2 U (AE fun K4 hK4=>zr tb U U (bs h0 fun o9 h1 h0=>?_))))))))
 have M9 :∀(l8:(List Int)),o9=l8→∀s,Wk 0 s ⟨22,Ad [(3,(ow 0 0 l8))],[(ro 0 3 1 eI l8)]⟩→K4 s:=by
  intro l8 hq s hw
  subst o9
  try dsimp only at h0
  refine hK4 _ (AS hw (zr tb U U ?_))
  replace h0:=Sh.AA h0
  subst r
  exact AK (xr (AF (L:=[(2,(ow 0 0 l8))]) ⟨.rfl,trivial⟩))
 refine Aa (Au (σ:=Int×(List Int)) (fun n v=>D2 p0 n v.1 v.2=some o9) (fun (i6,l7)=>⟨22,Ad [(0,(ls eI p0)),(3,(ow 0 0 l7)),(4,(i64 i6))],[(ro 0 3 1 eI l7)]⟩) N (0,l3) h1 (AN U) (fun _ hv=>by rw[D2] at hv;cases hv) ?_)
 rintro n ⟨i6,l7⟩ h1
 try dsimp only at h1 ⊢
 rw[D2] at h1
 refine AE fun K11 hK11=>sr U fun K12 hK12=>zm tb 2 U (zl tb U U (zq tb U (dn hK12 U ?_)))
 refine ci h1 U ?_ ?_ <;> clear h1
 ·intro b13 h1
  refine AI (hK11 _ (AE fun K14 hK14=>Aa (AJ U (zm tb 4 U (bs h1 fun c15 gc15 h1=>zx BN gc15 U U U (zq tb U (bs h1 fun c16 gc16 h1=>zz (.ptr 0 0 (Int.toNat i6) 0) (B8 BN U U U U gc16) rfl (JI (st':=[(ro 0 3 1 eI (Sh.put l7 i6 c15))]) (u':=c15) Ah HN U U gc16 U U U (show 0+1≤1 by decide) rfl U (dn hK14 U ?_)))))))))
  refine AJ U (zm tb 3 U ?_)
  exact AB (xi (Sh.w (i6+1),Sh.put l7 i6 c15) h1 (AF (L:=[(0,(.sl (List.map eI p0))),(3,(.own 0 0 (List.length (Sh.put l7 i6 c15)))),(4,(i64 (Sh.w (i6+1))))]) ⟨.rfl,(.len (by simp only[Sh.BB])),.rfl,trivial⟩))
 ·intro b13 h1
  exact Ay (M9 l7 (Sh.AA h1).symm _ (AN U))
theorem Re {N:Nat} {p0:BO} {r:BO} (h0:JP N p0=some r):Ae Tryz.prog 177 [(.agg (Ar p0))] [] (fun v st=>v=(.agg [(ow 0 0 r.fields)])∧st=[(ro 0 3 1 eI r.fields)]):=by
 unfold JP at h0
 refine Ae.wk (r0:=(.agg [(ow 0 0 r.fields)])) (st0:=[(ro 0 3 1 eI r.fields),⟨0,134,1,[[(ow 0 0 r.fields)]]⟩]) ?_ (FH (L:=[(0,(.agg [(ow 0 0 r.fields)]))]) (st':=[(ro 0 3 1 eI r.fields)]) [0] U (by decide) rfl U (.pure (Ak fun _=>U) trivial) ⟨.rfl,trivial⟩)
 refine ai Tryz.func177 U U U U (sr U fun K1 hK1=>BI (m:=0) (st':=[⟨0,178,1,[(Ar p0)]⟩]) Ah U U U U U (Ap (m:=1) (st':=[⟨0,178,1,[(Ar p0)]⟩,⟨0,134,1,[[.zc]]⟩]) Ah Kd U U (dn hK1 U (sr U fun K2 hK2=>Ap (m:=2) (st':=[⟨0,178,1,[(Ar p0)]⟩,⟨0,134,1,[[.zc]]⟩,⟨0,134,1,[[.zc]]⟩]) Ah Kd U U (dn hK2 U (sr U fun K3 hK3=>zm tb 2 U (bs h0 fun q4 gq4 h0=>BW (v':=(ow 3 0 q4)) (st':=[⟨0,178,1,[(Ar p0)]⟩,⟨0,134,1,[[.zc]]⟩,⟨0,134,1,[[.zc]]⟩,(ro 0 3 1 eI q4)]) Ah Tr (Hn gq4) rfl U ⟨(Bf fun _=>U),trivial⟩ U U ?_)))))))
 refine zq tb U (A3 (st':=[⟨0,178,1,[(Ar p0)]⟩,⟨0,134,1,[[.zc]]⟩,⟨0,134,1,[[(ow 3 0 q4)]]⟩,(ro 0 3 1 eI q4)]) Ah Iu U U U U U U (show 0+1≤1 by decide) rfl (dn hK3 U (sr U fun K5 hK5=>zq tb U (A3 (st':=[⟨0,178,1,[(Ar p0)]⟩,⟨0,134,1,[[(ow 3 0 q4)]]⟩,⟨0,134,1,[[(ow 3 0 q4)]]⟩,(ro 0 3 1 eI q4)]) Ah Ix U U U U U U (show 0+1≤1 by decide) rfl (dn hK5 U ?_)))))
 replace h0:=Sh.AA h0
 subst r
 exact AK (Exists.intro _ (And.intro ((AP (L:=[(2,(.ptr 1 0 0 0))]) (st':=[(ro 0 3 1 eI q4),⟨0,134,1,[[(ow 0 0 q4)]]⟩]) (st1:=[(ro 0 3 1 eI q4),⟨0,134,1,[[(ow 3 0 q4)]]⟩]) [3,1] U .nil (by decide) rfl U (.pure (Ak fun _=>U) (.raw U U .nil)) ⟨.rfl,trivial⟩).trans (AF (L:=[(2,(.ptr 1 0 0 0))]) ⟨.rfl,trivial⟩)) (Cb (x:=.tmp 2) (off:=0) (cs:=[(ow 0 0 q4)]) (vs:=[(ow 0 0 q4)]) Ix U U U (show 0+1≤1 by decide) rfl _ ⟨U,U⟩)))
theorem Qg {N:Nat} {p0:(List BO)} {r:(List BO)} (h0:IT N p0=some r):Ae Tryz.prog 120 [(ls Ar p0)] [] (fun v st=>v=(ow 0 0 r)∧st=[(ro 0 134 1 (BD 3) r)]):=by
 unfold IT at h0
 refine ai Tryz.func120 U U U U (zr tb U U (sr U fun K2 hK2=>zq tb U (zl tb U U (bs h0 fun l3 gl3 h0=>LJ (m:=0) (st':=[(ro 0 134 1 (BD 3) l3)]) (enc:=(BD 3)) (u:=(BO.mk [])) IC U U ⟨.inr ⟨U,_,_,U,by decide⟩,trivial⟩ gl3 U U (zq tb U (dn hK2 U (AE fun K4 hK4=>zr tb U U (bs h0 fun o9 h1 h0=>?_))))))))
 have M9 :∀(l8:(List BO)),o9=l8→∀s,Wk 0 s ⟨23,Ad [(3,(ow 0 0 l8))],[(ro 0 134 1 (BD 3) l8)]⟩→K4 s:=by
  intro l8 hq s hw
  subst o9
  try dsimp only at h0
  refine hK4 _ (AS hw (zr tb U U ?_))
  replace h0:=Sh.AA h0
  subst r
  exact AK (xr (AF (L:=[(2,(ow 0 0 l8))]) ⟨.rfl,trivial⟩))
 refine Aa (Au (σ:=Int×(List BO)) (fun n v=>EV N p0 n v.1 v.2=some o9) (fun (i6,l7)=>⟨23,Ad [(0,(ls Ar p0)),(3,(ow 0 0 l7)),(4,(i64 i6))],[(ro 0 134 1 (BD 3) l7)]⟩) N (0,l3) h1 (AN U) (fun _ hv=>by rw[EV] at hv;cases hv) ?_)
 rintro n ⟨i6,l7⟩ h1
 try dsimp only at h1 ⊢
 rw[EV] at h1
 refine AE fun K11 hK11=>sr U fun K12 hK12=>zm tb 2 U (zl tb U U (zq tb U (dn hK12 U ?_)))
 refine ci h1 U ?_ ?_ <;> clear h1
 ·intro b13 h1
  refine AI (hK11 _ (AE fun K14 hK14=>Aa (AJ U (zm tb 4 U (bs h1 fun c15 gc15 h1=>zx aL gc15 U U U (zq tb U (bs h1 fun q16 gq16 h1=>BW (v':=(.agg [(ow 1 0 q16.fields)])) (st':=[(ro 0 134 1 (BD 3) l7),(ro 0 3 1 eI q16.fields)]) Ah cK (Re gq16) rfl U ⟨(Bf fun _=>U),trivial⟩ U U (bs h1 fun c17 gc17 h1=>zz (.ptr 0 0 (Int.toNat i6) 0) (B8 IC U U U U gc17) rfl ?_))))))))
  refine PF (st':=[⟨0,134,1,hole l7 (BD 3) i6 [(ow 1 0 q16.fields)]⟩,(ro 0 3 1 eI q16.fields)]) Ah Ix U U gc17 U U U (show 1≤1 by decide) rfl U ?_
  refine Az (Wk.take (id:=0) (m:=1) (j:=0) (i:=i6) (c:=c17) (ys:=q16.fields) (encY:=eI) (x':=[(.dv 3 1 (List.map eI q16.fields))]) (st':=[⟨0,134,1,hole l7 (BD 3) i6 [(.dv 3 1 (List.map eI q16.fields))]⟩,⟨1,3,1,[]⟩]) rfl gc17 U U U (by decide) (show 0≤1 by decide) (fun _=>U) rfl U) ?_
  refine Az (DK (id:=0) (i:=i6) (u:=q16) (st':=[(ro 0 134 1 (BD 3) (Sh.put l7 i6 q16)),⟨1,3,1,[]⟩]) rfl U U) (dn hK14 U (AJ U (zm tb 3 U ?_)))
  exact AB (xi (Sh.w (i6+1),Sh.put l7 i6 q16) h1 (by refine Wk.trans (AP (L:=[(0,(.sl (List.map Ar p0))),(3,(.own 0 0 (List.length l7))),(4,(i64 (Sh.w (i6+1))))]) (st':=[⟨0,134,1,List.map (BD 3) (Sh.put l7 i6 q16)⟩]) (st1:=[⟨0,134,1,List.map (BD 3) (Sh.put l7 i6 q16)⟩]) [0] U .nil (by decide) rfl U (.deep (Af fun _=>U) .nil) ⟨.rfl,.rfl,.rfl,trivial⟩) ?_;exact AF (L:=[(0,(.sl (List.map Ar p0))),(3,(.own 0 0 (List.length (Sh.put l7 i6 q16)))),(4,(i64 (Sh.w (i6+1))))]) ⟨.rfl,(.len (by simp only[Sh.BB])),.rfl,trivial⟩))
 ·intro b13 h1
  exact Ay (M9 l7 (Sh.AA h1).symm _ (AN U))
noncomputable abbrev Ur:Go.Abs.Row:=⟨0,98,3,[[(i64 0),(i64 0),.zc]]⟩
theorem Qh {N:Nat} {p0:Ag} {r:Ag} (h0:IV N p0=some r):Ae Tryz.prog 72 [(.agg (AG p0))] [] (fun v st=>v=(.agg [(i64 r.from_),(i64 r.to),(ow 0 0 r.cons)])∧st=[(ro 0 134 1 (BD 3) r.cons)]):=by
 unfold IV at h0
 refine Ae.wk (r0:=(.agg [(i64 r.from_),(i64 r.to),(ow 0 0 r.cons)])) (st0:=[(ro 0 134 1 (BD 3) r.cons),⟨0,98,3,[[(i64 r.from_),(i64 r.to),(ow 0 0 r.cons)]]⟩]) ?_ (FH (L:=[(0,(.agg [(i64 r.from_),(i64 r.to),(ow 0 0 r.cons)]))]) (st':=[(ro 0 134 1 (BD 3) r.cons)]) [0] U (by decide) rfl U (.deep (Af fun _=>U) trivial) ⟨.rfl,trivial⟩)
 refine ai Tryz.func72 U U U U (sr U fun K1 hK1=>BI (m:=0) (st':=[⟨0,83,3,[(AG p0)]⟩]) Ah U U U U U (Ap (m:=1) (st':=[⟨0,83,3,[(AG p0)]⟩,Ur]) Ah B2 U U (dn hK1 U (sr U fun K2 hK2=>Ap (m:=2) (st':=[⟨0,83,3,[(AG p0)]⟩,Ur,Ur]) Ah B2 U U (dn hK2 U (sr U fun K3 hK3=>zm tb 3 U (A3 (st':=[⟨0,83,3,[(AG p0)]⟩,Ur,⟨0,98,3,[[(i64 p0.from_),(i64 0),.zc]]⟩]) Ah HN U U U U U U (show 0+1≤3 by decide) rfl (dn hK3 U ?_))))))))
 refine sr U fun K4 hK4=>zm tb 3 U (A3 (st':=[⟨0,83,3,[(AG p0)]⟩,Ur,⟨0,98,3,[[(i64 p0.from_),(i64 p0.to),.zc]]⟩]) Ah HN U U U U U U (show 1+1≤3 by decide) rfl (dn hK4 U (sr U fun K5 hK5=>zm tb 2 U (bs h0 fun q6 gq6 h0=>BW (v':=(ow 3 0 q6)) (st':=[⟨0,83,3,[(AG p0)]⟩,Ur,⟨0,98,3,[[(i64 p0.from_),(i64 p0.to),.zc]]⟩,(ro 0 134 1 (BD 3) q6)]) Ah cI (Qg gq6) rfl U ⟨(Af fun _=>U),trivial⟩ U U (zq tb U (A3 (st':=[⟨0,83,3,[(AG p0)]⟩,Ur,⟨0,98,3,[[(i64 p0.from_),(i64 p0.to),(ow 3 0 q6)]]⟩,(ro 0 134 1 (BD 3) q6)]) Ah N3 U U U U U U (show 2+1≤3 by decide) rfl (dn hK5 U (sr U fun K7 hK7=>?_))))))))
 refine zq tb U (A3 (st':=[⟨0,83,3,[(AG p0)]⟩,⟨0,98,3,[[(i64 p0.from_),(i64 p0.to),(ow 3 0 q6)]]⟩,⟨0,98,3,[[(i64 p0.from_),(i64 p0.to),(ow 3 0 q6)]]⟩,(ro 0 134 1 (BD 3) q6)]) Ah Hm U U U U U U (show 0+3≤3 by decide) rfl (dn hK7 U ?_))
 replace h0:=Sh.AA h0
 subst r
 exact AK (Exists.intro _ (And.intro ((AP (L:=[(2,(.ptr 1 0 0 0))]) (st':=[(ro 0 134 1 (BD 3) q6),⟨0,98,3,[[(i64 p0.from_),(i64 p0.to),(ow 0 0 q6)]]⟩]) (st1:=[(ro 0 134 1 (BD 3) q6),⟨0,98,3,[[(i64 p0.from_),(i64 p0.to),(ow 3 0 q6)]]⟩]) [3,1] U .nil (by decide) rfl U (.deep (Af fun _=>U) (.raw U U .nil)) ⟨.rfl,trivial⟩).trans (AF (L:=[(2,(.ptr 1 0 0 0))]) ⟨.rfl,trivial⟩)) (Cb (x:=.tmp 2) (off:=0) (cs:=[(i64 p0.from_),(i64 p0.to),(ow 0 0 q6)]) (vs:=[(i64 p0.from_),(i64 p0.to),(ow 0 0 q6)]) Hm U U U (show 0+3≤3 by decide) rfl _ ⟨U,U⟩)))
theorem Ps {N:Nat} {p0:(List Ag)} {r:(List Ag)} (h0:Hh N p0=some r):Ae Tryz.prog 31 [(ls AG p0)] [] (fun v st=>v=(ow 0 0 r)∧st=[(ro 0 98 3 (Ab 134 3) r)]):=by
 unfold Hh at h0
 refine ai Tryz.func31 U U U U (zr tb U U (sr U fun K2 hK2=>zq tb U (zl tb U U (bs h0 fun l3 gl3 h0=>LJ (m:=0) (st':=[(ro 0 98 3 (Ab 134 3) l3)]) (enc:=(Ab 134 3)) (u:=(Ag.mk 0 0 [])) DA U U ⟨.inl ⟨U,U⟩,⟨.inl ⟨U,U⟩,⟨.inr ⟨U,_,_,U,by decide⟩,trivial⟩⟩⟩ gl3 U U (zq tb U (dn hK2 U (AE fun K4 hK4=>zr tb U U (bs h0 fun o9 h1 h0=>?_))))))))
 have M9 :∀(l8:(List Ag)),o9=l8→∀s,Wk 0 s ⟨23,Ad [(3,(ow 0 0 l8))],[(ro 0 98 3 (Ab 134 3) l8)]⟩→K4 s:=by
  intro l8 hq s hw
  subst o9
  try dsimp only at h0
  refine hK4 _ (AS hw (zr tb U U ?_))
  replace h0:=Sh.AA h0
  subst r
  exact AK (xr (AF (L:=[(2,(ow 0 0 l8))]) ⟨.rfl,trivial⟩))
 refine Aa (Au (σ:=Int×(List Ag)) (fun n v=>EA N p0 n v.1 v.2=some o9) (fun (i6,l7)=>⟨23,Ad [(0,(ls AG p0)),(3,(ow 0 0 l7)),(4,(i64 i6))],[(ro 0 98 3 (Ab 134 3) l7)]⟩) N (0,l3) h1 (AN U) (fun _ hv=>by rw[EA] at hv;cases hv) ?_)
 rintro n ⟨i6,l7⟩ h1
 try dsimp only at h1 ⊢
 rw[EA] at h1
 refine AE fun K11 hK11=>sr U fun K12 hK12=>zm tb 2 U (zl tb U U (zq tb U (dn hK12 U ?_)))
 refine ci h1 U ?_ ?_ <;> clear h1
 ·intro b13 h1
  refine AI (hK11 _ (AE fun K14 hK14=>Aa (AJ U (zm tb 4 U (bs h1 fun c15 gc15 h1=>zx aR gc15 U U U (zq tb U (bs h1 fun q16 gq16 h1=>BW (v':=(.agg [(i64 q16.from_),(i64 q16.to),(ow 1 0 q16.cons)])) (st':=[(ro 0 98 3 (Ab 134 3) l7),(ro 0 134 1 (BD 3) q16.cons)]) Ah dm (Qh gq16) rfl U ⟨(Af fun _=>U),trivial⟩ U U (bs h1 fun c17 gc17 h1=>zz (.ptr 0 0 (Int.toNat i6) 0) (B8 DA U U U U gc17) rfl ?_))))))))
  refine PF (st':=[⟨0,98,3,hole l7 (Ab 134 3) i6 [(i64 q16.from_),(i64 q16.to),(ow 1 0 q16.cons)]⟩,(ro 0 134 1 (BD 3) q16.cons)]) Ah Hm U U gc17 U U U (show 3≤3 by decide) rfl U ?_
  refine Az (Wk.take (id:=0) (m:=1) (j:=2) (i:=i6) (c:=c17) (ys:=q16.cons) (encY:=(BD 3)) (x':=[(i64 q16.from_),(i64 q16.to),(.dv 134 1 (List.map (BD 3) q16.cons))]) (st':=[⟨0,98,3,hole l7 (Ab 134 3) i6 [(i64 q16.from_),(i64 q16.to),(.dv 134 1 (List.map (BD 3) q16.cons))]⟩,⟨1,134,1,[]⟩]) rfl gc17 U U U (by decide) (show 0≤1 by decide) (fun _=>U) rfl U) ?_
  refine Az (DK (id:=0) (i:=i6) (u:=q16) (st':=[(ro 0 98 3 (Ab 134 3) (Sh.put l7 i6 q16)),⟨1,134,1,[]⟩]) rfl U U) (dn hK14 U (AJ U (zm tb 3 U ?_)))
  exact AB (xi (Sh.w (i6+1),Sh.put l7 i6 q16) h1 (by refine Wk.trans (AP (L:=[(0,(.sl (List.map AG p0))),(3,(.own 0 0 (List.length l7))),(4,(i64 (Sh.w (i6+1))))]) (st':=[⟨0,98,3,List.map (Ab 134 3) (Sh.put l7 i6 q16)⟩]) (st1:=[⟨0,98,3,List.map (Ab 134 3) (Sh.put l7 i6 q16)⟩]) [0] U .nil (by decide) rfl U (.deep (Af fun _=>U) .nil) ⟨.rfl,.rfl,.rfl,trivial⟩) ?_;exact AF (L:=[(0,(.sl (List.map AG p0))),(3,(.own 0 0 (List.length (Sh.put l7 i6 q16)))),(4,(i64 (Sh.w (i6+1))))]) ⟨.rfl,(.len (by simp only[Sh.BB])),.rfl,trivial⟩))
 ·intro b13 h1
  exact Ay (M9 l7 (Sh.AA h1).symm _ (AN U))
theorem Ow {N:Nat} {rec_laws_toBlock:Block→Option (Block)} (hrec_laws_toBlock :∀{p0:Block} {r:Block},rec_laws_toBlock p0=some r→Ae Tryz.prog 122 [(.agg [(ls Al p0.steps),(i64 p0.result)])] [] (fun v st=>v=(.agg [(ow 0 0 r.steps),(i64 r.result)])∧st=[(ro 0 71 5 (Am 3 55 71) r.steps)])) {p0:(List Block)} {r:(List Block)} (h0:Ib N rec_laws_toBlock p0=some r):Ae Tryz.prog 230 [(ls A2 p0)] [] (fun v st=>v=(ow 0 0 r)∧st=[(ro 0 55 2 (A0 3 55 71) r)]):=by
 unfold Ib at h0
 refine ai Tryz.func230 U U U U (zr tb U U (sr U fun K2 hK2=>zq tb U (zl tb U U (bs h0 fun l3 gl3 h0=>LJ (m:=0) (st':=[(ro 0 55 2 (A0 3 55 71) l3)]) (enc:=(A0 3 55 71)) (u:=(Block.mk [] 0)) Hi U U ⟨.inr ⟨U,_,_,U,by decide⟩,⟨.inl ⟨U,U⟩,trivial⟩⟩ gl3 U U (zq tb U (dn hK2 U (AE fun K4 hK4=>zr tb U U (bs h0 fun o9 h1 h0=>?_))))))))
 have M9 :∀(l8:(List Block)),o9=l8→∀s,Wk 0 s ⟨23,Ad [(3,(ow 0 0 l8))],[(ro 0 55 2 (A0 3 55 71) l8)]⟩→K4 s:=by
  intro l8 hq s hw
  subst o9
  try dsimp only at h0
  refine hK4 _ (AS hw (zr tb U U ?_))
  replace h0:=Sh.AA h0
  subst r
  exact AK (xr (AF (L:=[(2,(ow 0 0 l8))]) ⟨.rfl,trivial⟩))
 refine Aa (Au (σ:=Int×(List Block)) (fun n v=>DE p0 rec_laws_toBlock n v.1 v.2=some o9) (fun (i6,l7)=>⟨23,Ad [(0,(ls A2 p0)),(3,(ow 0 0 l7)),(4,(i64 i6))],[(ro 0 55 2 (A0 3 55 71) l7)]⟩) N (0,l3) h1 (AN U) (fun _ hv=>by rw[DE] at hv;cases hv) ?_)
 rintro n ⟨i6,l7⟩ h1
 try dsimp only at h1 ⊢
 rw[DE] at h1
 refine AE fun K11 hK11=>sr U fun K12 hK12=>zm tb 2 U (zl tb U U (zq tb U (dn hK12 U ?_)))
 refine ci h1 U ?_ ?_ <;> clear h1
 ·intro b13 h1
  refine AI (hK11 _ (AE fun K14 hK14=>Aa (AJ U (zm tb 4 U (bs h1 fun c15 gc15 h1=>zx Yx gc15 U U U (zq tb U (bs h1 fun q16 gq16 h1=>BW (v':=(.agg [(ow 1 0 q16.steps),(i64 q16.result)])) (st':=[(ro 0 55 2 (A0 3 55 71) l7),(ro 0 71 5 (Am 3 55 71) q16.steps)]) Ah Y7 (hrec_laws_toBlock gq16) rfl U ⟨(Af BQ),trivial⟩ U U (bs h1 fun c17 gc17 h1=>zz (.ptr 0 0 (Int.toNat i6) 0) (B8 Hi U U U U gc17) rfl ?_))))))))
  refine PF (st':=[⟨0,55,2,hole l7 (A0 3 55 71) i6 [(ow 1 0 q16.steps),(i64 q16.result)]⟩,(ro 0 71 5 (Am 3 55 71) q16.steps)]) Ah JV U U gc17 U U U (show 2≤2 by decide) rfl U ?_
  refine Az (Wk.take (id:=0) (m:=1) (j:=0) (i:=i6) (c:=c17) (ys:=q16.steps) (encY:=(Am 3 55 71)) (x':=[(.dv 71 5 (List.map (Am 3 55 71) q16.steps)),(i64 q16.result)]) (st':=[⟨0,55,2,hole l7 (A0 3 55 71) i6 [(.dv 71 5 (List.map (Am 3 55 71) q16.steps)),(i64 q16.result)]⟩,⟨1,71,5,[]⟩]) rfl gc17 U U U (by decide) (show 0≤1 by decide) HO U U) ?_
  refine Az (DK (id:=0) (i:=i6) (u:=q16) (st':=[(ro 0 55 2 (A0 3 55 71) (Sh.put l7 i6 q16)),⟨1,71,5,[]⟩]) rfl U U) (dn hK14 U (AJ U (zm tb 3 U ?_)))
  exact AB (xi (Sh.w (i6+1),Sh.put l7 i6 q16) h1 (by refine Wk.trans (AP (L:=[(0,(.sl (List.map A2 p0))),(3,(.own 0 0 (List.length l7))),(4,(i64 (Sh.w (i6+1))))]) (st':=[⟨0,55,2,List.map (A0 3 55 71) (Sh.put l7 i6 q16)⟩]) (st1:=[⟨0,55,2,List.map (A0 3 55 71) (Sh.put l7 i6 q16)⟩]) [0] U .nil (by decide) rfl U (.deep (Af fun _=>U) .nil) ⟨.rfl,.rfl,.rfl,trivial⟩) ?_;exact AF (L:=[(0,(.sl (List.map A2 p0))),(3,(.own 0 0 (List.length (Sh.put l7 i6 q16)))),(4,(i64 (Sh.w (i6+1))))]) ⟨.rfl,(.len (by simp only[Sh.BB])),.rfl,trivial⟩))
 ·intro b13 h1
  exact Ay (M9 l7 (Sh.AA h1).symm _ (AN U))
noncomputable abbrev RI (p0:Step):Go.Abs.Row:=⟨0,211,5,[[(i64 p0.op),(i64 p0.num),(i64 p0.Ax),(ls eI p0.args),(ls A2 p0.kids)]]⟩
noncomputable abbrev SV:Go.Abs.Row:=⟨0,71,5,[[(i64 0),(i64 0),(i64 0),.zc,.zc]]⟩
theorem Qn {N:Nat} {rec_laws_toBlock:Block→Option (Block)} (hrec_laws_toBlock :∀{p0:Block} {r:Block},rec_laws_toBlock p0=some r→Ae Tryz.prog 122 [(.agg [(ls Al p0.steps),(i64 p0.result)])] [] (fun v st=>v=(.agg [(ow 0 0 r.steps),(i64 r.result)])∧st=[(ro 0 71 5 (Am 3 55 71) r.steps)])) {p0:Step} {r:Step} (h0:IM N rec_laws_toBlock p0=some r):Ae Tryz.prog 209 [(.agg [(i64 p0.op),(i64 p0.num),(i64 p0.Ax),(ls eI p0.args),(ls A2 p0.kids)])] [] (fun v st=>v=(.agg [(i64 r.op),(i64 r.num),(i64 r.Ax),(ow 0 0 r.args),(ow 1 0 r.kids)])∧st=[(ro 0 3 1 eI r.args),(ro 0 55 2 (A0 3 55 71) r.kids)]):=by
 unfold IM at h0
 refine Ae.wk (r0:=(.agg [(i64 r.op),(i64 r.num),(i64 r.Ax),(ow 0 0 r.args),(ow 1 0 r.kids)])) (st0:=[(ro 0 3 1 eI r.args),(ro 0 55 2 (A0 3 55 71) r.kids),⟨0,71,5,[[(i64 r.op),(i64 r.num),(i64 r.Ax),(ow 0 0 r.args),(ow 1 0 r.kids)]]⟩]) ?_ (FH (L:=[(0,(.agg [(i64 r.op),(i64 r.num),(i64 r.Ax),(ow 0 0 r.args),(ow 1 0 r.kids)]))]) (st':=[(ro 0 3 1 eI r.args),(ro 0 55 2 (A0 3 55 71) r.kids)]) [0,1] U (by decide) rfl U (.pure (Ak fun _=>U) (.deep (Af fun _=>U) trivial)) ⟨.rfl,trivial⟩)
 refine ai Tryz.func209 U U U U (sr U fun K1 hK1=>BI (m:=0) (st':=[(RI p0)]) Ah U U U U U (Ap (m:=1) (st':=[(RI p0),SV]) Ah Np U U (dn hK1 U (sr U fun K2 hK2=>Ap (m:=2) (st':=[(RI p0),SV,SV]) Ah Np U U (dn hK2 U (sr U fun K3 hK3=>zm tb 3 U (A3 (st':=[(RI p0),SV,⟨0,71,5,[[(i64 p0.op),(i64 0),(i64 0),.zc,.zc]]⟩]) Ah HN U U U U U U (show 0+1≤5 by decide) rfl (dn hK3 U ?_))))))))
 refine sr U fun K4 hK4=>zm tb 3 U (A3 (st':=[(RI p0),SV,⟨0,71,5,[[(i64 p0.op),(i64 p0.num),(i64 0),.zc,.zc]]⟩]) Ah HN U U U U U U (show 1+1≤5 by decide) rfl (dn hK4 U (sr U fun K5 hK5=>zm tb 3 U (A3 (st':=[(RI p0),SV,⟨0,71,5,[[(i64 p0.op),(i64 p0.num),(i64 p0.Ax),.zc,.zc]]⟩]) Ah HN U U U U U U (show 2+1≤5 by decide) rfl (dn hK5 U (sr U fun K6 hK6=>zm tb 2 U (bs h0 fun q7 gq7 h0=>BW (v':=(ow 3 0 q7)) (st':=[(RI p0),SV,⟨0,71,5,[[(i64 p0.op),(i64 p0.num),(i64 p0.Ax),.zc,.zc]]⟩,(ro 0 3 1 eI q7)]) Ah Tr (Hn gq7) rfl U ⟨(Bf fun _=>U),trivial⟩ U U ?_)))))))
 refine zq tb U (A3 (st':=[(RI p0),SV,⟨0,71,5,[[(i64 p0.op),(i64 p0.num),(i64 p0.Ax),(ow 3 0 q7),.zc]]⟩,(ro 0 3 1 eI q7)]) Ah Iu U U U U U U (show 3+1≤5 by decide) rfl (dn hK6 U (sr U fun K8 hK8=>zm tb 2 U (bs h0 fun q9 gq9 h0=>BW (v':=(ow 4 0 q9)) (st':=[(RI p0),SV,⟨0,71,5,[[(i64 p0.op),(i64 p0.num),(i64 p0.Ax),(ow 3 0 q7),.zc]]⟩,(ro 0 3 1 eI q7),(ro 0 55 2 (A0 3 55 71) q9)]) Ah bb (Ow hrec_laws_toBlock gq9) rfl U ⟨(Af fun _=>U),trivial⟩ U U (zq tb U (A3 (st':=[(RI p0),SV,⟨0,71,5,[[(i64 p0.op),(i64 p0.num),(i64 p0.Ax),(ow 3 0 q7),(ow 4 0 q9)]]⟩,(ro 0 3 1 eI q7),(ro 0 55 2 (A0 3 55 71) q9)]) Ah Ym U U U U U U (show 4+1≤5 by decide) rfl (dn hK8 U (sr U fun K10 hK10=>zq tb U ?_))))))))
 refine A3 (st':=[(RI p0),⟨0,71,5,[[(i64 p0.op),(i64 p0.num),(i64 p0.Ax),(ow 3 0 q7),(ow 4 0 q9)]]⟩,⟨0,71,5,[[(i64 p0.op),(i64 p0.num),(i64 p0.Ax),(ow 3 0 q7),(ow 4 0 q9)]]⟩,(ro 0 3 1 eI q7),(ro 0 55 2 (A0 3 55 71) q9)]) Ah KZ U U U U U U (show 0+5≤5 by decide) rfl (dn hK10 U ?_)
 replace h0:=Sh.AA h0
 subst r
 exact AK (Exists.intro _ (And.intro ((AP (L:=[(2,(.ptr 2 0 0 0))]) (st':=[(ro 0 3 1 eI q7),(ro 0 55 2 (A0 3 55 71) q9),⟨0,71,5,[[(i64 p0.op),(i64 p0.num),(i64 p0.Ax),(ow 0 0 q7),(ow 1 0 q9)]]⟩]) (st1:=[(ro 0 3 1 eI q7),(ro 0 55 2 (A0 3 55 71) q9),⟨0,71,5,[[(i64 p0.op),(i64 p0.num),(i64 p0.Ax),(ow 3 0 q7),(ow 4 0 q9)]]⟩]) [3,4,1] U .nil (by decide) rfl U (.pure (Ak fun _=>U) (.deep (Af fun _=>U) (.raw U U .nil))) ⟨.rfl,trivial⟩).trans (AF (L:=[(2,(.ptr 2 0 0 0))]) ⟨.rfl,trivial⟩)) (Cb (x:=.tmp 2) (off:=0) (cs:=[(i64 p0.op),(i64 p0.num),(i64 p0.Ax),(ow 0 0 q7),(ow 1 0 q9)]) (vs:=[(i64 p0.op),(i64 p0.num),(i64 p0.Ax),(ow 0 0 q7),(ow 1 0 q9)]) KZ U U U (show 0+5≤5 by decide) rfl _ ⟨U,U⟩)))
theorem PX {N:Nat} {rec_laws_toBlock:Block→Option (Block)} (hrec_laws_toBlock :∀{p0:Block} {r:Block},rec_laws_toBlock p0=some r→Ae Tryz.prog 122 [(.agg [(ls Al p0.steps),(i64 p0.result)])] [] (fun v st=>v=(.agg [(ow 0 0 r.steps),(i64 r.result)])∧st=[(ro 0 71 5 (Am 3 55 71) r.steps)])) {p0:(List Step)} {r:(List Step)} (h0:JB N rec_laws_toBlock p0=some r):Ae Tryz.prog 178 [(ls Al p0)] [] (fun v st=>v=(ow 0 0 r)∧st=[(ro 0 71 5 (Am 3 55 71) r)]):=by
 unfold JB at h0
 refine ai Tryz.func178 U U U U (zr tb U U (sr U fun K2 hK2=>zq tb U (zl tb U U (bs h0 fun l3 gl3 h0=>?_))))
 refine LJ (m:=0) (st':=[(ro 0 71 5 (Am 3 55 71) l3)]) (enc:=(Am 3 55 71)) (u:=(Step.mk 0 0 0 [] [])) FD U U (by rw[DX];exact⟨.inl ⟨U,U⟩,⟨.inl ⟨U,U⟩,⟨.inl ⟨U,U⟩,⟨.inr ⟨U,_,_,U,by decide⟩,⟨.inr ⟨U,_,_,U,by decide⟩,trivial⟩⟩⟩⟩⟩) gl3 U U ?_
 refine zq tb U (dn hK2 U (AE fun K4 hK4=>zr tb U U (bs h0 fun o9 h1 h0=>?_)))
 have M9 :∀(l8:(List Step)),o9=l8→∀s,Wk 0 s ⟨23,Ad [(3,(ow 0 0 l8))],[(ro 0 71 5 (Am 3 55 71) l8)]⟩→K4 s:=by
  intro l8 hq s hw
  subst o9
  try dsimp only at h0
  refine hK4 _ (AS hw (zr tb U U ?_))
  replace h0:=Sh.AA h0
  subst r
  exact AK (xr (AF (L:=[(2,(ow 0 0 l8))]) ⟨.rfl,trivial⟩))
 refine Aa (Au (σ:=Int×(List Step)) (fun n v=>De N p0 rec_laws_toBlock n v.1 v.2=some o9) (fun (i6,l7)=>⟨23,Ad [(0,(ls Al p0)),(3,(ow 0 0 l7)),(4,(i64 i6))],[(ro 0 71 5 (Am 3 55 71) l7)]⟩) N (0,l3) h1 (AN U) (fun _ hv=>by rw[De] at hv;cases hv) ?_)
 rintro n ⟨i6,l7⟩ h1
 try dsimp only at h1 ⊢
 rw[De] at h1
 refine AE fun K11 hK11=>sr U fun K12 hK12=>zm tb 2 U (zl tb U U (zq tb U (dn hK12 U ?_)))
 refine ci h1 U ?_ ?_ <;> clear h1
 ·intro b13 h1
  refine AI (hK11 _ (AE fun K14 hK14=>Aa (AJ U (zm tb 4 U (bs h1 fun c15 gc15 h1=>zz (.BF [(i64 c15.op),(i64 c15.num),(i64 c15.Ax),(ls eI c15.args),(ls A2 c15.kids)] 0) (Di aX U U gc15 (Bw _) rfl) rfl (zq tb U (bs h1 fun q16 gq16 h1=>BW (v':=(.agg [(i64 q16.op),(i64 q16.num),(i64 q16.Ax),(ow 1 0 q16.args),(ow 2 0 q16.kids)])) (st':=[(ro 0 71 5 (Am 3 55 71) l7),(ro 0 3 1 eI q16.args),(ro 0 55 2 (A0 3 55 71) q16.kids)]) Ah br (Qn hrec_laws_toBlock gq16) rfl U ⟨(Bf fun _=>U),⟨(Af fun _=>U),trivial⟩⟩ U U (bs h1 fun c17 gc17 h1=>zz (.ptr 0 0 (Int.toNat i6) 0) (B8 FD U U U U gc17) rfl ?_))))))))
  refine PF (st':=[⟨0,71,5,hole l7 (Am 3 55 71) i6 [(i64 q16.op),(i64 q16.num),(i64 q16.Ax),(ow 1 0 q16.args),(ow 2 0 q16.kids)]⟩,(ro 0 3 1 eI q16.args),(ro 0 55 2 (A0 3 55 71) q16.kids)]) Ah KZ U U gc17 U U U (show 5≤5 by decide) (Uz _) rfl ?_
  refine Az (Wk.take (id:=0) (m:=1) (j:=3) (i:=i6) (c:=c17) (ys:=q16.args) (encY:=eI) (x':=[(i64 q16.op),(i64 q16.num),(i64 q16.Ax),(.dv 3 1 (List.map eI q16.args)),(ow 2 0 q16.kids)]) (st':=[⟨0,71,5,hole l7 (Am 3 55 71) i6 [(i64 q16.op),(i64 q16.num),(i64 q16.Ax),(.dv 3 1 (List.map eI q16.args)),(ow 2 0 q16.kids)]⟩,⟨1,3,1,[]⟩,(ro 0 55 2 (A0 3 55 71) q16.kids)]) rfl gc17 U U U (by decide) (show 0≤1 by decide) (fun _=>U) rfl U) ?_
  refine Az (Wk.take (id:=0) (m:=2) (j:=4) (i:=i6) (c:=c17) (ys:=q16.kids) (encY:=(A0 3 55 71)) (x':=[(i64 q16.op),(i64 q16.num),(i64 q16.Ax),(.dv 3 1 (List.map eI q16.args)),(.dv 55 2 (List.map (A0 3 55 71) q16.kids))]) (st':=[⟨0,71,5,hole l7 (Am 3 55 71) i6 [(i64 q16.op),(i64 q16.num),(i64 q16.Ax),(.dv 3 1 (List.map eI q16.args)),(.dv 55 2 (List.map (A0 3 55 71) q16.kids))]⟩,⟨1,3,1,[]⟩,⟨1,55,2,[]⟩]) rfl gc17 U U U (by decide) (show 0≤2 by decide) (fun _=>U) rfl U) ?_
  refine Az (DK (id:=0) (i:=i6) (u:=q16) (st':=[(ro 0 71 5 (Am 3 55 71) (Sh.put l7 i6 q16)),⟨1,3,1,[]⟩,⟨1,55,2,[]⟩]) rfl (DX q16).symm U) (dn hK14 U (AJ U (zm tb 3 U ?_)))
  exact AB (xi (Sh.w (i6+1),Sh.put l7 i6 q16) h1 (by refine Wk.trans (AP (L:=[(0,(.sl (List.map Al p0))),(3,(.own 0 0 (List.length l7))),(4,(i64 (Sh.w (i6+1))))]) (st':=[⟨0,71,5,List.map (Am 3 55 71) (Sh.put l7 i6 q16)⟩]) (st1:=[⟨0,71,5,List.map (Am 3 55 71) (Sh.put l7 i6 q16)⟩]) [0] U .nil (by decide) rfl U (.deep (Af BQ) .nil) ⟨.rfl,.rfl,.rfl,trivial⟩) ?_;exact AF (L:=[(0,(.sl (List.map Al p0))),(3,(.own 0 0 (List.length (Sh.put l7 i6 q16)))),(4,(i64 (Sh.w (i6+1))))]) ⟨.rfl,(.len (by simp only[Sh.BB])),.rfl,trivial⟩))
 ·intro b13 h1
  exact Ay (M9 l7 (Sh.AA h1).symm _ (AN U))
noncomputable abbrev VX (p0:Block):Go.Abs.Row:=⟨0,87,2,[[(ls Al p0.steps),(i64 p0.result)]]⟩
theorem Ob {N:Nat} {rec_laws_toBlock:Block→Option (Block)} (hrec_laws_toBlock :∀{p0:Block} {r:Block},rec_laws_toBlock p0=some r→Ae Tryz.prog 122 [(.agg [(ls Al p0.steps),(i64 p0.result)])] [] (fun v st=>v=(.agg [(ow 0 0 r.steps),(i64 r.result)])∧st=[(ro 0 71 5 (Am 3 55 71) r.steps)])) {p0:Block} {r:Block} (h0:Hr N rec_laws_toBlock p0=some r):Ae Tryz.prog 122 [(.agg [(ls Al p0.steps),(i64 p0.result)])] [] (fun v st=>v=(.agg [(ow 0 0 r.steps),(i64 r.result)])∧st=[(ro 0 71 5 (Am 3 55 71) r.steps)]):=by
 unfold Hr at h0
 refine Ae.wk (r0:=(.agg [(ow 0 0 r.steps),(i64 r.result)])) (st0:=[(ro 0 71 5 (Am 3 55 71) r.steps),⟨0,55,2,[[(ow 0 0 r.steps),(i64 r.result)]]⟩]) ?_ (FH (L:=[(0,(.agg [(ow 0 0 r.steps),(i64 r.result)]))]) (st':=[(ro 0 71 5 (Am 3 55 71) r.steps)]) [0] U (by decide) rfl U (.deep (Af BQ) trivial) ⟨.rfl,trivial⟩)
 refine ai Tryz.func122 U U U U (sr U fun K1 hK1=>BI (m:=0) (st':=[(VX p0)]) Ah U U U U U (Ap (m:=1) (st':=[(VX p0),⟨0,55,2,[[.zc,(i64 0)]]⟩]) Ah Kv U U (dn hK1 U (sr U fun K2 hK2=>Ap (m:=2) (st':=[(VX p0),⟨0,55,2,[[.zc,(i64 0)]]⟩,⟨0,55,2,[[.zc,(i64 0)]]⟩]) Ah Kv U U (dn hK2 U (sr U fun K3 hK3=>zm tb 2 U (bs h0 fun q4 gq4 h0=>BW (v':=(ow 3 0 q4)) (st':=[(VX p0),⟨0,55,2,[[.zc,(i64 0)]]⟩,⟨0,55,2,[[.zc,(i64 0)]]⟩,(ro 0 71 5 (Am 3 55 71) q4)]) Ah bC (PX hrec_laws_toBlock gq4) rfl U ⟨(Af BQ),trivial⟩ U U ?_)))))))
 refine zq tb U (A3 (st':=[(VX p0),⟨0,55,2,[[.zc,(i64 0)]]⟩,⟨0,55,2,[[(ow 3 0 q4),(i64 0)]]⟩,(ro 0 71 5 (Am 3 55 71) q4)]) Ah Ub U U U U U U (show 0+1≤2 by decide) rfl (dn hK3 U (sr U fun K5 hK5=>zm tb 3 U (A3 (st':=[(VX p0),⟨0,55,2,[[.zc,(i64 0)]]⟩,⟨0,55,2,[[(ow 3 0 q4),(i64 p0.result)]]⟩,(ro 0 71 5 (Am 3 55 71) q4)]) Ah HN U U U U U U (show 1+1≤2 by decide) rfl (dn hK5 U (sr U fun K6 hK6=>zq tb U (A3 (st':=[(VX p0),⟨0,55,2,[[(ow 3 0 q4),(i64 p0.result)]]⟩,⟨0,55,2,[[(ow 3 0 q4),(i64 p0.result)]]⟩,(ro 0 71 5 (Am 3 55 71) q4)]) Ah JV U U U U U U (show 0+2≤2 by decide) rfl (dn hK6 U ?_))))))))
 replace h0:=Sh.AA h0
 subst r
 exact AK (Exists.intro _ (And.intro ((AP (L:=[(2,(.ptr 1 0 0 0))]) (st':=[(ro 0 71 5 (Am 3 55 71) q4),⟨0,55,2,[[(ow 0 0 q4),(i64 p0.result)]]⟩]) (st1:=[(ro 0 71 5 (Am 3 55 71) q4),⟨0,55,2,[[(ow 3 0 q4),(i64 p0.result)]]⟩]) [3,1] U .nil (by decide) rfl U (.deep (Af BQ) (.raw U U .nil)) ⟨.rfl,trivial⟩).trans (AF (L:=[(2,(.ptr 1 0 0 0))]) ⟨.rfl,trivial⟩)) (Cb (x:=.tmp 2) (off:=0) (cs:=[(ow 0 0 q4),(i64 p0.result)]) (vs:=[(ow 0 0 q4),(i64 p0.result)]) JV U U U (show 0+2≤2 by decide) rfl _ ⟨U,U⟩)))

theorem OE {N:Nat} :∀(n:Nat),∀{p0:Block} {r:Block},E4 N n p0=some r→Ae Tryz.prog 122 [(.agg [(ls Al p0.steps),(i64 p0.result)])] [] (fun v st=>v=(.agg [(ow 0 0 r.steps),(i64 r.result)])∧st=[(ro 0 71 5 (Am 3 55 71) r.steps)]):=by
 intro n
 induction n with
 | zero=>intro p0 r h0;cases h0
 | succ n ih=>
  intro p0 r h0
  rw[E4] at h0
  exact Ob (fun h=>ih h) h0
theorem Pb {N:Nat} :∀{p0:Block} {r:Block},JJ N p0=some r→Ae Tryz.prog 122 [(.agg [(ls Al p0.steps),(i64 p0.result)])] [] (fun v st=>v=(.agg [(ow 0 0 r.steps),(i64 r.result)])∧st=[(ro 0 71 5 (Am 3 55 71) r.steps)]):=by
 intro p0 r h0
 exact OE N h0
noncomputable abbrev SM (p0:Ac):Go.Abs.Row:=⟨0,89,5,[[(ls eI p0.params),(ls eI p0.At),(i64 p0.result),(ls Al p0.body.steps),(i64 p0.body.result)]]⟩
noncomputable abbrev Q3:Go.Abs.Row:=⟨0,57,5,[[.zc,.zc,(i64 0),.zc,(i64 0)]]⟩
theorem Of {N:Nat} {p0:Ac} {r:Ac} (h0:Gd N p0=some r):Ae Tryz.prog 73 [(.agg [(ls eI p0.params),(ls eI p0.At),(i64 p0.result),(ls Al p0.body.steps),(i64 p0.body.result)])] [] (fun v st=>v=(.agg [(ow 0 0 r.params),(ow 1 0 r.At),(i64 r.result),(ow 2 0 r.body.steps),(i64 r.body.result)])∧st=[(ro 0 3 1 eI r.params),(ro 0 3 1 eI r.At),(ro 0 71 5 (Am 3 55 71) r.body.steps)]):=by
 unfold Gd at h0
 refine Ae.wk (r0:=(.agg [(ow 0 0 r.params),(ow 1 0 r.At),(i64 r.result),(ow 2 0 r.body.steps),(i64 r.body.result)])) (st0:=[(ro 0 3 1 eI r.params),(ro 0 3 1 eI r.At),(ro 0 71 5 (Am 3 55 71) r.body.steps),⟨0,57,5,[[(ow 0 0 r.params),(ow 1 0 r.At),(i64 r.result),(ow 2 0 r.body.steps),(i64 r.body.result)]]⟩]) ?_ (FH (L:=[(0,(.agg [(ow 0 0 r.params),(ow 1 0 r.At),(i64 r.result),(ow 2 0 r.body.steps),(i64 r.body.result)]))]) (st':=[(ro 0 3 1 eI r.params),(ro 0 3 1 eI r.At),(ro 0 71 5 (Am 3 55 71) r.body.steps)]) [0,1,2] U (by decide) rfl U (.pure (Ak fun _=>U) (.pure (Ak fun _=>U) (.deep (Af BQ) trivial))) ⟨.rfl,trivial⟩)
 refine ai Tryz.func73 U U U U (sr U fun K1 hK1=>BI (m:=0) (st':=[(SM p0)]) Ah U U U U U (Ap (m:=1) (st':=[(SM p0),Q3]) Ah Lt U U (dn hK1 U (sr U fun K2 hK2=>Ap (m:=2) (st':=[(SM p0),Q3,Q3]) Ah Lt U U (dn hK2 U (sr U fun K3 hK3=>zm tb 2 U (bs h0 fun q4 gq4 h0=>BW (v':=(ow 3 0 q4)) (st':=[(SM p0),Q3,Q3,(ro 0 3 1 eI q4)]) Ah Tr (Hn gq4) rfl U ⟨(Bf fun _=>U),trivial⟩ U U ?_)))))))
 refine zq tb U (A3 (st':=[(SM p0),Q3,⟨0,57,5,[[(ow 3 0 q4),.zc,(i64 0),.zc,(i64 0)]]⟩,(ro 0 3 1 eI q4)]) Ah Iu U U U U U U (show 0+1≤5 by decide) rfl (dn hK3 U (sr U fun K5 hK5=>zm tb 2 U (bs h0 fun q6 gq6 h0=>BW (v':=(ow 4 0 q6)) (st':=[(SM p0),Q3,⟨0,57,5,[[(ow 3 0 q4),.zc,(i64 0),.zc,(i64 0)]]⟩,(ro 0 3 1 eI q4),(ro 0 3 1 eI q6)]) Ah Tr (Hn gq6) rfl U ⟨(Bf fun _=>U),trivial⟩ U U (zq tb U (A3 (st':=[(SM p0),Q3,⟨0,57,5,[[(ow 3 0 q4),(ow 4 0 q6),(i64 0),.zc,(i64 0)]]⟩,(ro 0 3 1 eI q4),(ro 0 3 1 eI q6)]) Ah Iu U U U U U U (show 1+1≤5 by decide) rfl (dn hK5 U (sr U fun K7 hK7=>zm tb 3 U ?_))))))))
 refine A3 (st':=[(SM p0),Q3,⟨0,57,5,[[(ow 3 0 q4),(ow 4 0 q6),(i64 p0.result),.zc,(i64 0)]]⟩,(ro 0 3 1 eI q4),(ro 0 3 1 eI q6)]) Ah HN U U U U U U (show 2+1≤5 by decide) rfl (dn hK7 U (sr U fun K8 hK8=>zm tb 2 U (bs h0 fun q9 gq9 h0=>BW (v':=(.agg [(ow 5 0 q9.steps),(i64 q9.result)])) (st':=[(SM p0),Q3,⟨0,57,5,[[(ow 3 0 q4),(ow 4 0 q6),(i64 p0.result),.zc,(i64 0)]]⟩,(ro 0 3 1 eI q4),(ro 0 3 1 eI q6),(ro 0 71 5 (Am 3 55 71) q9.steps)]) Ah Y7 (Pb gq9) rfl U ⟨(Af BQ),trivial⟩ U U (zq tb U (A3 (st':=[(SM p0),Q3,⟨0,57,5,[[(ow 3 0 q4),(ow 4 0 q6),(i64 p0.result),(ow 5 0 q9.steps),(i64 q9.result)]]⟩,(ro 0 3 1 eI q4),(ro 0 3 1 eI q6),(ro 0 71 5 (Am 3 55 71) q9.steps)]) Ah JV U U U U U U (show 3+2≤5 by decide) rfl (dn hK8 U (sr U fun K10 hK10=>zq tb U (A3 (st':=[(SM p0),⟨0,57,5,[[(ow 3 0 q4),(ow 4 0 q6),(i64 p0.result),(ow 5 0 q9.steps),(i64 q9.result)]]⟩,⟨0,57,5,[[(ow 3 0 q4),(ow 4 0 q6),(i64 p0.result),(ow 5 0 q9.steps),(i64 q9.result)]]⟩,(ro 0 3 1 eI q4),(ro 0 3 1 eI q6),(ro 0 71 5 (Am 3 55 71) q9.steps)]) Ah NJ U U U U U U (show 0+5≤5 by decide) rfl ?_))))))))
 refine dn hK10 U ?_
 replace h0:=Sh.AA h0
 subst r
 exact AK (Exists.intro _ (And.intro ((AP (L:=[(2,(.ptr 3 0 0 0))]) (st':=[(ro 0 3 1 eI q4),(ro 0 3 1 eI q6),(ro 0 71 5 (Am 3 55 71) q9.steps),⟨0,57,5,[[(ow 0 0 q4),(ow 1 0 q6),(i64 p0.result),(ow 2 0 q9.steps),(i64 q9.result)]]⟩]) (st1:=[(ro 0 3 1 eI q4),(ro 0 3 1 eI q6),(ro 0 71 5 (Am 3 55 71) q9.steps),⟨0,57,5,[[(ow 3 0 q4),(ow 4 0 q6),(i64 p0.result),(ow 5 0 q9.steps),(i64 q9.result)]]⟩]) [3,4,5,1] U .nil (by decide) rfl U (.pure (Ak fun _=>U) (.pure (Ak fun _=>U) (.deep (Af BQ) (.raw U U .nil)))) ⟨.rfl,trivial⟩).trans (AF (L:=[(2,(.ptr 3 0 0 0))]) ⟨.rfl,trivial⟩)) (Cb (x:=.tmp 2) (off:=0) (cs:=[(ow 0 0 q4),(ow 1 0 q6),(i64 p0.result),(ow 2 0 q9.steps),(i64 q9.result)]) (vs:=[(ow 0 0 q4),(ow 1 0 q6),(i64 p0.result),(ow 2 0 q9.steps),(i64 q9.result)]) NJ U U U (show 0+5≤5 by decide) rfl _ ⟨U,U⟩)))
theorem NV {N:Nat} {p0:(List Ac)} {r:(List Ac)} (h0:GI N p0=some r):Ae Tryz.prog 32 [(ls AT p0)] [] (fun v st=>v=(ow 0 0 r)∧st=[(ro 0 57 5 (AM 3 3 3 55 71) r)]):=by
 unfold GI at h0
 refine ai Tryz.func32 U U U U (zr tb U U (sr U fun K2 hK2=>zq tb U (zl tb U U (bs h0 fun l3 gl3 h0=>LJ (m:=0) (st':=[(ro 0 57 5 (AM 3 3 3 55 71) l3)]) (enc:=(AM 3 3 3 55 71)) (u:=(Ac.mk [] [] 0 (Block.mk [] 0))) E7 U U ⟨.inr ⟨U,_,_,U,by decide⟩,⟨.inr ⟨U,_,_,U,by decide⟩,⟨.inl ⟨U,U⟩,⟨.inr ⟨U,_,_,U,by decide⟩,⟨.inl ⟨U,U⟩,trivial⟩⟩⟩⟩⟩ gl3 U U (zq tb U (dn hK2 U (AE fun K4 hK4=>zr tb U U (bs h0 fun o9 h1 h0=>?_))))))))
 have M9 :∀(l8:(List Ac)),o9=l8→∀s,Wk 0 s ⟨23,Ad [(3,(ow 0 0 l8))],[(ro 0 57 5 (AM 3 3 3 55 71) l8)]⟩→K4 s:=by
  intro l8 hq s hw
  subst o9
  try dsimp only at h0
  refine hK4 _ (AS hw (zr tb U U ?_))
  replace h0:=Sh.AA h0
  subst r
  exact AK (xr (AF (L:=[(2,(ow 0 0 l8))]) ⟨.rfl,trivial⟩))
 refine Aa (Au (σ:=Int×(List Ac)) (fun n v=>C2 N p0 n v.1 v.2=some o9) (fun (i6,l7)=>⟨23,Ad [(0,(ls AT p0)),(3,(ow 0 0 l7)),(4,(i64 i6))],[(ro 0 57 5 (AM 3 3 3 55 71) l7)]⟩) N (0,l3) h1 (AN U) (fun _ hv=>by rw[C2] at hv;cases hv) ?_)
 rintro n ⟨i6,l7⟩ h1
 try dsimp only at h1 ⊢
 rw[C2] at h1
 refine AE fun K11 hK11=>sr U fun K12 hK12=>zm tb 2 U (zl tb U U (zq tb U (dn hK12 U ?_)))
 refine ci h1 U ?_ ?_ <;> clear h1
 ·intro b13 h1
  refine AI (hK11 _ (AE fun K14 hK14=>Aa (AJ U (zm tb 4 U (bs h1 fun c15 gc15 h1=>zx aN gc15 U U U (zq tb U (bs h1 fun q16 gq16 h1=>BW (v':=(.agg [(ow 1 0 q16.params),(ow 2 0 q16.At),(i64 q16.result),(ow 3 0 q16.body.steps),(i64 q16.body.result)])) (st':=[(ro 0 57 5 (AM 3 3 3 55 71) l7),(ro 0 3 1 eI q16.params),(ro 0 3 1 eI q16.At),(ro 0 71 5 (Am 3 55 71) q16.body.steps)]) Ah cy (Of gq16) rfl U ⟨(Bf fun _=>U),⟨(Bf fun _=>U),⟨(Af BQ),trivial⟩⟩⟩ U U (bs h1 fun c17 gc17 h1=>zz (.ptr 0 0 (Int.toNat i6) 0) (B8 E7 U U U U gc17) rfl ?_))))))))
  refine PF (st':=[⟨0,57,5,hole l7 (AM 3 3 3 55 71) i6 [(ow 1 0 q16.params),(ow 2 0 q16.At),(i64 q16.result),(ow 3 0 q16.body.steps),(i64 q16.body.result)]⟩,(ro 0 3 1 eI q16.params),(ro 0 3 1 eI q16.At),(ro 0 71 5 (Am 3 55 71) q16.body.steps)]) Ah NJ U U gc17 U U U (show 5≤5 by decide) rfl U ?_
  refine Az (Wk.take (id:=0) (m:=1) (j:=0) (i:=i6) (c:=c17) (ys:=q16.params) (encY:=eI) (x':=[(.dv 3 1 (List.map eI q16.params)),(ow 2 0 q16.At),(i64 q16.result),(ow 3 0 q16.body.steps),(i64 q16.body.result)]) (st':=[⟨0,57,5,hole l7 (AM 3 3 3 55 71) i6 [(.dv 3 1 (List.map eI q16.params)),(ow 2 0 q16.At),(i64 q16.result),(ow 3 0 q16.body.steps),(i64 q16.body.result)]⟩,⟨1,3,1,[]⟩,(ro 0 3 1 eI q16.At),(ro 0 71 5 (Am 3 55 71) q16.body.steps)]) rfl gc17 U U U (by decide) (show 0≤1 by decide) (fun _=>U) rfl U) ?_
  refine Az (Wk.take (id:=0) (m:=2) (j:=1) (i:=i6) (c:=c17) (ys:=q16.At) (encY:=eI) (x':=[(.dv 3 1 (List.map eI q16.params)),(.dv 3 1 (List.map eI q16.At)),(i64 q16.result),(ow 3 0 q16.body.steps),(i64 q16.body.result)]) (st':=[⟨0,57,5,hole l7 (AM 3 3 3 55 71) i6 [(.dv 3 1 (List.map eI q16.params)),(.dv 3 1 (List.map eI q16.At)),(i64 q16.result),(ow 3 0 q16.body.steps),(i64 q16.body.result)]⟩,⟨1,3,1,[]⟩,⟨1,3,1,[]⟩,(ro 0 71 5 (Am 3 55 71) q16.body.steps)]) rfl gc17 U U U (by decide) (show 0≤2 by decide) (fun _=>U) rfl U) ?_
  refine Az (Wk.take (id:=0) (m:=3) (j:=3) (i:=i6) (c:=c17) (ys:=q16.body.steps) (encY:=(Am 3 55 71)) (x':=[(.dv 3 1 (List.map eI q16.params)),(.dv 3 1 (List.map eI q16.At)),(i64 q16.result),(.dv 71 5 (List.map (Am 3 55 71) q16.body.steps)),(i64 q16.body.result)]) (st':=[⟨0,57,5,hole l7 (AM 3 3 3 55 71) i6 [(.dv 3 1 (List.map eI q16.params)),(.dv 3 1 (List.map eI q16.At)),(i64 q16.result),(.dv 71 5 (List.map (Am 3 55 71) q16.body.steps)),(i64 q16.body.result)]⟩,⟨1,3,1,[]⟩,⟨1,3,1,[]⟩,⟨1,71,5,[]⟩]) rfl gc17 U U U (by decide) (show 0≤3 by decide) HO U U) ?_
  refine Az (DK (id:=0) (i:=i6) (u:=q16) (st':=[(ro 0 57 5 (AM 3 3 3 55 71) (Sh.put l7 i6 q16)),⟨1,3,1,[]⟩,⟨1,3,1,[]⟩,⟨1,71,5,[]⟩]) rfl U U) (dn hK14 U (AJ U (zm tb 3 U ?_)))
  exact AB (xi (Sh.w (i6+1),Sh.put l7 i6 q16) h1 (by refine Wk.trans (AP (L:=[(0,(.sl (List.map AT p0))),(3,(.own 0 0 (List.length l7))),(4,(i64 (Sh.w (i6+1))))]) (st':=[⟨0,57,5,List.map (AM 3 3 3 55 71) (Sh.put l7 i6 q16)⟩]) (st1:=[⟨0,57,5,List.map (AM 3 3 3 55 71) (Sh.put l7 i6 q16)⟩]) [0] U .nil (by decide) rfl U (.deep (Af fun _=>U) .nil) ⟨.rfl,.rfl,.rfl,trivial⟩) ?_;exact AF (L:=[(0,(.sl (List.map AT p0))),(3,(.own 0 0 (List.length (Sh.put l7 i6 q16)))),(4,(i64 (Sh.w (i6+1))))]) ⟨.rfl,(.len (by simp only[Sh.BB])),.rfl,trivial⟩))
 ·intro b13 h1
  exact Ay (M9 l7 (Sh.AA h1).symm _ (AN U))
noncomputable abbrev UU (p0:Aj):Go.Abs.Row:=⟨0,25,2,[[(ls AG p0.decls),(ls AT p0.AD)]]⟩
theorem Gz {N:Nat} {p0:Aj} {r:Aj} (h0:Eo N p0=some r):Ae Tryz.prog 10 [(.agg [(ls AG p0.decls),(ls AT p0.AD)])] [] (fun v st=>v=(.agg [(ow 0 0 r.decls),(ow 1 0 r.AD)])∧st=[(ro 0 98 3 (Ab 134 3) r.decls),(ro 0 57 5 (AM 3 3 3 55 71) r.AD)]):=by
 unfold Eo at h0
 refine Ae.wk (r0:=(.agg [(ow 0 0 r.decls),(ow 1 0 r.AD)])) (st0:=[(ro 0 98 3 (Ab 134 3) r.decls),(ro 0 57 5 (AM 3 3 3 55 71) r.AD),⟨0,30,2,[[(ow 0 0 r.decls),(ow 1 0 r.AD)]]⟩]) ?_ (FH (L:=[(0,(.agg [(ow 0 0 r.decls),(ow 1 0 r.AD)]))]) (st':=[(ro 0 98 3 (Ab 134 3) r.decls),(ro 0 57 5 (AM 3 3 3 55 71) r.AD)]) [0,1] U (by decide) rfl U (.deep (Af fun _=>U) (.deep (Af fun _=>U) trivial)) ⟨.rfl,trivial⟩)
 refine ai Tryz.func10 U U U U (sr U fun K1 hK1=>BI (m:=0) (st':=[(UU p0)]) Ah U U U U U (Ap (m:=1) (st':=[(UU p0),⟨0,30,2,[[.zc,.zc]]⟩]) Ah JQ U U (dn hK1 U (sr U fun K2 hK2=>Ap (m:=2) (st':=[(UU p0),⟨0,30,2,[[.zc,.zc]]⟩,⟨0,30,2,[[.zc,.zc]]⟩]) Ah JQ U U (dn hK2 U (sr U fun K3 hK3=>zm tb 2 U (bs h0 fun q4 gq4 h0=>BW (v':=(ow 3 0 q4)) (st':=[(UU p0),⟨0,30,2,[[.zc,.zc]]⟩,⟨0,30,2,[[.zc,.zc]]⟩,(ro 0 98 3 (Ab 134 3) q4)]) Ah dJ (Ps gq4) rfl U ⟨(Af fun _=>U),trivial⟩ U U ?_)))))))
 refine zq tb U (A3 (st':=[(UU p0),⟨0,30,2,[[.zc,.zc]]⟩,⟨0,30,2,[[(ow 3 0 q4),.zc]]⟩,(ro 0 98 3 (Ab 134 3) q4)]) Ah cc U U U U U U (show 0+1≤2 by decide) rfl (dn hK3 U (sr U fun K5 hK5=>zm tb 2 U (bs h0 fun q6 gq6 h0=>BW (v':=(ow 4 0 q6)) (st':=[(UU p0),⟨0,30,2,[[.zc,.zc]]⟩,⟨0,30,2,[[(ow 3 0 q4),.zc]]⟩,(ro 0 98 3 (Ab 134 3) q4),(ro 0 57 5 (AM 3 3 3 55 71) q6)]) Ah da (NV gq6) rfl U ⟨(Af fun _=>U),trivial⟩ U U (zq tb U (A3 (st':=[(UU p0),⟨0,30,2,[[.zc,.zc]]⟩,⟨0,30,2,[[(ow 3 0 q4),(ow 4 0 q6)]]⟩,(ro 0 98 3 (Ab 134 3) q4),(ro 0 57 5 (AM 3 3 3 55 71) q6)]) Ah Y5 U U U U U U (show 1+1≤2 by decide) rfl (dn hK5 U (sr U fun K7 hK7=>zq tb U ?_))))))))
 refine A3 (st':=[(UU p0),⟨0,30,2,[[(ow 3 0 q4),(ow 4 0 q6)]]⟩,⟨0,30,2,[[(ow 3 0 q4),(ow 4 0 q6)]]⟩,(ro 0 98 3 (Ab 134 3) q4),(ro 0 57 5 (AM 3 3 3 55 71) q6)]) Ah Hl U U U U U U (show 0+2≤2 by decide) rfl (dn hK7 U ?_)
 replace h0:=Sh.AA h0
 subst r
 exact AK (Exists.intro _ (And.intro ((AP (L:=[(2,(.ptr 2 0 0 0))]) (st':=[(ro 0 98 3 (Ab 134 3) q4),(ro 0 57 5 (AM 3 3 3 55 71) q6),⟨0,30,2,[[(ow 0 0 q4),(ow 1 0 q6)]]⟩]) (st1:=[(ro 0 98 3 (Ab 134 3) q4),(ro 0 57 5 (AM 3 3 3 55 71) q6),⟨0,30,2,[[(ow 3 0 q4),(ow 4 0 q6)]]⟩]) [3,4,1] U .nil (by decide) rfl U (.deep (Af fun _=>U) (.deep (Af fun _=>U) (.raw U U .nil))) ⟨.rfl,trivial⟩).trans (AF (L:=[(2,(.ptr 2 0 0 0))]) ⟨.rfl,trivial⟩)) (Cb (x:=.tmp 2) (off:=0) (cs:=[(ow 0 0 q4),(ow 1 0 q6)]) (vs:=[(ow 0 0 q4),(ow 1 0 q6)]) Hl U U U (show 0+2≤2 by decide) rfl _ ⟨U,U⟩)))
noncomputable abbrev HL (p0:Aj):Go.Abs.Row:=⟨0,30,2,[[(ls AG p0.decls),(ls AT p0.AD)]]⟩
theorem Qw {N:Nat} {p0:Aj} {r:Co} (h0:Ia N p0=some r):Ae Tryz.prog 155 [(.agg [(ls AG p0.decls),(ls AT p0.AD)])] [] (fun v st=>v=(.agg [(ls AG r.decls),(ls Ef r.funcs)])∧st=[]):=by
 unfold Ia at h0
 refine El U (ai Tryz.func155 U U U U (sr U fun K1 hK1=>BI (m:=0) (st':=[(HL p0)]) Ah U U U U U (Ap (m:=1) (st':=[(HL p0),⟨0,170,2,[[.zc,.zc]]⟩]) Ah VT U U (dn hK1 U (sr U fun K2 hK2=>zm tb 2 U ?_)))))
 refine DV (m:=2) (st':=[(HL p0),⟨0,170,2,[[.zc,.zc]]⟩,(ro 0 205 5 Ef ([]:List Fp))]) (l:=([]:List Fp)) (enc:=Ef) Ah Pw (by decide) rfl U U U U U ?_
 refine zz (.agg [(ls AG p0.decls),(.own 2 0 (List.length ([]:List Fp)))]) (GV cJ bh VT U U) rfl (Ap (m:=3) (st':=[(HL p0),⟨0,170,2,[[.zc,.zc]]⟩,(ro 0 205 5 Ef ([]:List Fp)),⟨0,170,2,[[.zc,.zc]]⟩]) Ah VT U U (A3 (st':=[(HL p0),⟨0,170,2,[[.zc,.zc]]⟩,(ro 0 205 5 Ef ([]:List Fp)),⟨0,170,2,[[(ls AG p0.decls),(.own 2 0 (List.length ([]:List Fp)))]]⟩]) Ah Vl U U U U U U (show 0+2≤2 by decide) rfl (dn hK2 U (AE fun K3 hK3=>zr tb U U (bs h0 fun o8 h1 h0=>?_)))))
 have M8 :∀(l7:(List Fp)),o8=l7→∀s,Wk 0 s ⟨35,Ad [(2,(.ptr 0 0 0 0)),(3,(.ptr 2 0 0 0))],[⟨0,170,2,[[.zc,.zc]]⟩,(ro 0 205 5 Ef l7),⟨0,170,2,[[(ls AG p0.decls),(ow 1 0 l7)]]⟩]⟩→K3 s:=by
  intro l7 hq s hw
  subst o8
  try dsimp only at h0
  refine hK3 _ (AS hw (sr U fun K9 hK9=>zq tb U (Az (Wk.E5 (L:=[(2,(.ptr 0 0 0 0)),(34,(.agg [(ls AG p0.decls),(ls Ef l7)]))]) (st':=[⟨0,170,2,[[.zc,.zc]]⟩,⟨1,205,5,[]⟩,⟨0,170,2,[[(ls AG p0.decls),(ow 1 0 l7)]]⟩]) (id:=1) rfl (show 0≤1 by decide) (Ak fun _=>U) ⟨.rfl,(.agg ⟨.rfl,(.IA U),trivial⟩),trivial⟩ U) (A3 (st':=[⟨0,170,2,[[(ls AG p0.decls),(ls Ef l7)]]⟩,⟨1,205,5,[]⟩,⟨0,170,2,[[(ls AG p0.decls),(ow 1 0 l7)]]⟩]) Ah Vl U U U U U U (show 0+2≤2 by decide) rfl (dn hK9 U ?_)))))
  replace h0:=Sh.AA h0
  subst r
  exact AK (Exists.intro _ (And.intro (Jx _ _) (Cb (x:=.tmp 2) (off:=0) (cs:=[(ls AG p0.decls),(ls Ef l7)]) (vs:=[(ls AG p0.decls),(ls Ef l7)]) Vl U U U (show 0+2≤2 by decide) rfl _ U)))
 refine Aa (Au (σ:=Int×(List Fp)) (fun n v=>D5 p0 n v.1 v.2=some o8) (fun (i5,l6)=>⟨35,Ad [(1,(.ptr 0 0 0 0)),(2,(.ptr 1 0 0 0)),(3,(.ptr 3 0 0 0)),(4,(i64 i5))],[(HL p0),⟨0,170,2,[[.zc,.zc]]⟩,(ro 0 205 5 Ef l6),⟨0,170,2,[[(ls AG p0.decls),(ow 2 0 l6)]]⟩]⟩) N (0,[]) h1 (AN U) (fun _ hv=>by rw[D5] at hv;cases hv) ?_)
 rintro n ⟨i5,l6⟩ h1
 try dsimp only at h1 ⊢
 rw[D5] at h1
 refine AE fun K10 hK10=>sr U fun K11 hK11=>zm tb 3 U (zl tb U U (zq tb U (dn hK11 U ?_)))
 refine ci h1 U ?_ ?_ <;> clear h1
 ·intro b12 h1
  refine AI (hK10 _ (AE fun K13 hK13=>Aa ?_))
  refine CJ 16 (by kernel_rfl) (by kernel_rfl) (by rfl) ?_
  iterate 5 refine yq tb rfl ?_
  refine bs h1 fun c14 gc14 h1=>yx E7 gc14 U U U ?_
  iterate 5 refine yq tb rfl ?_
  refine yx E7 gc14 U U U ?_
  iterate 2 refine yq tb rfl ?_
  refine yz (.agg [(ls eI c14.params),(i64 c14.result),(i64 0),(i64 0),.zc]) (GV aj ao ZA U U) rfl ?_
  refine bZ (l:=([(Fp.mk c14.params c14.result (Cy.mk 0 0 []))])) (enc:=Ef) (pv':=[(0,(.agg [(ls eI c14.params),(i64 c14.result),(i64 0),(i64 0),(.sl (List.map Tf []))]))]) Ah Pw (by decide) rfl U (.cons (le.agg ⟨le.rfl,le.rfl,le.rfl,le.rfl,le.zc,trivial⟩) .nil) rfl U U (Ak fun _=>U) ?_
  exact BS (bs h1 fun l15 gl15 h1=>Eg (st':=[(HL p0),⟨0,170,2,[[.zc,.zc]]⟩,(ro 1 205 5 Ef l15),⟨0,170,2,[[(ls AG p0.decls),(ow 2 0 l6)]]⟩]) (l2:=([(Fp.mk c14.params c14.result (Cy.mk 0 0 []))])) Ah Pw U U U U Me (fun _=>U) gl15 U (zq tb U (A3 (st':=[(HL p0),⟨0,170,2,[[.zc,.zc]]⟩,(ro 1 205 5 Ef l15),⟨0,170,2,[[(ls AG p0.decls),(ow 2 1 l15)]]⟩]) Ah ah U U U U U U (show 1+1≤2 by decide) rfl (dn hK13 U (AJ U (zm tb 3 U (AB (xi (Sh.w (i5+1),l15) h1 (Cz (L:=[(1,(.ptr 0 0 0 0)),(2,(.ptr 1 0 0 0)),(3,(.ptr 3 0 0 0)),(4,(i64 (Sh.w (i5+1))))]) (st':=[(HL p0),⟨0,170,2,[[.zc,.zc]]⟩,(ro 0 205 5 Ef l15),⟨0,170,2,[[(ls AG p0.decls),(ow 2 0 l15)]]⟩]) (.raw U U (.raw U U (.pure (Ak fun _=>U) (.raw U U .nil)))) ⟨.rfl,.rfl,.rfl,.rfl,trivial⟩)))))))))
 ·intro b12 h1
  exact Ay (M8 l6 (Sh.AA h1).symm _ (AP (L:=[(2,(.ptr 0 0 0 0)),(3,(.ptr 2 0 0 0))]) (st':=[⟨0,170,2,[[.zc,.zc]]⟩,(ro 0 205 5 Ef l6),⟨0,170,2,[[(ls AG p0.decls),(ow 1 0 l6)]]⟩]) (st1:=[⟨0,170,2,[[.zc,.zc]]⟩,(ro 0 205 5 Ef l6),⟨0,170,2,[[(ls AG p0.decls),(ow 2 0 l6)]]⟩]) [1,2,3] U .nil (by decide) rfl U (.raw U U (.pure (Ak fun _=>U) (.raw U U .nil))) ⟨.rfl,.rfl,trivial⟩))
theorem BX {p0:Int} {p1:Int} {p2:Int} {r:Bool} (h0:BT p0 p1 p2=some r):Ae Tryz.prog 158 [(i64 p0),(i64 p1),(i64 p2)] [] (fun v st=>v=(.bool r)∧st=[]):=by
 unfold BT at h0
 refine ai Tryz.func158 U U U U (zr tb U U (AE fun K2 hK2=>bs h0 fun o4 h1 h0=>?_))
 have M4 :∀(t3:Bool),o4=t3→∀s,Wk 0 s ⟨15,Ad [(6,(.bool t3))],[]⟩→K2 s:=by
  intro t3 hq s hw
  subst o4
  try dsimp only at h0
  refine hK2 _ (AS hw ?_)
  replace h0:=Sh.AA h0
  subst r
  exact AK (xr (AF (L:=[(6,(.bool t3))]) ⟨.rfl,trivial⟩))
 refine AJ U (zm tb 4 U ?_)
 rcases Sh.As h1 with ⟨b5,h1⟩ | ⟨b5,h1⟩
 ·exact zg tb b5 U (zg tb b5 U (zg tb b5 U (zt b5 U (zq tb U (AB (M4 (decide (p0≤p2)) (Sh.AA h1).symm _ (AN U)))))))
 ·exact zs b5 U (zs b5 U (zs b5 U (zf b5 U (zq tb U (AB (M4 false (Sh.AA h1).symm _ (AN U)))))))
theorem KO {N:Nat} {p0:(List Ag)} {p1:(List Int)} {r:Bool} (h0:F4 N p0 p1=some r):Ae Tryz.prog 202 [(ls AG p0),(ls eI p1)] [] (fun v st=>v=(.bool r)∧st=[]):=by
 unfold F4 at h0
 refine ai Tryz.func202 U U U U (zr tb U U (AE fun K2 hK2=>zr tb U U ?_))
 obtain⟨o5,h1,h0⟩:=Sh.A8 h0
 have M5 :∀(_:Unit),o5=Sum.inr ()→∀s,Wk 0 s ⟨20,Ad [],[]⟩→K2 s:=by
  intro _ hq s hw
  subst o5
  try dsimp only at h0
  refine hK2 _ (AS hw (zr tb U U ?_))
  replace h0:=Sh.AA h0
  subst r
  exact AK (xr (AF (L:=[(4,(.bool true))]) ⟨.rfl,trivial⟩))
 refine Aa (Au (σ:=Int) (fun n v=>Dl p0 p1 n v=some o5) (fun i4=>⟨20,Ad [(0,(ls AG p0)),(1,(ls eI p1)),(5,(i64 i4))],[]⟩) N 0 h1 (AN U) (fun _ hv=>by rw[Dl] at hv;cases hv) ?_)
 rintro n i4 h1
 try dsimp only at h1 ⊢
 rw[Dl] at h1
 refine AE fun K7 hK7=>sr U fun K8 hK8=>zm tb 2 U (zl tb U U (zq tb U (dn hK8 U ?_)))
 refine ci h1 U ?_ ?_ <;> clear h1
 ·intro b9 h1
  refine AI (hK7 _ (AE fun K10 hK10=>Aa (sr U fun K11 hK11=>zm tb 2 U (bs h1 fun c12 gc12 h1=>zx BN gc12 U U U (zm tb 2 U (zl tb U U (bs h1 fun q13 gq13 h1=>zc Gs (BX gq13) rfl U U (zq tb U ?_))))))))
  refine dn hK11 U ?_
  refine ci h1 U ?_ ?_ <;> clear h1
  ·intro b14 h1
   have b15:q13=false:=by simpa using b14
   refine zr tb U U ?_
   replace h1:=Sh.AA h1
   subst o5
   try dsimp only[id] at h0
   replace h0:=Sh.AA h0
   subst r
   exact AK (xr (AF (L:=[(4,(.bool false))]) ⟨.rfl,trivial⟩))
  ·intro b14 h1
   have b17:q13=true:=by simpa using b14
   exact AI (hK10 _ (AJ U (zm tb 3 U (AB (xi (Sh.w (i4+1)) h1 (AN U))))))
 ·intro b9 h1
  exact Ay (M5 () (Sh.AA h1).symm _ (AN U))
theorem N4 {N:Nat} {p0:(List Ag)} {p1:Int} {r:Bool} (h0:Gj N p0 p1=some r):Ae Tryz.prog 228 [(ls AG p0),(i64 p1)] [] (fun v st=>v=(.bool r)∧st=[]):=by
 unfold Gj at h0
 refine ai Tryz.func228 U U U U (zr tb U U (sr U fun K2 hK2=>zm tb 2 U (bs h0 fun c3 gc3 h0=>zx DA gc3 U U U (zq tb U (Ap (m:=0) (st':=[Ur]) Ah B2 U U (A3 (st':=[⟨0,98,3,[(AG c3)]⟩]) Ah Hm U U U U U U (show 0+3≤3 by decide) rfl (dn hK2 U (AE fun K4 hK4=>sr U fun K5 hK5=>?_))))))))
 refine zm tb 2 U (zl tb U U (zq tb U (dn hK5 U ?_)))
 refine ci h0 U ?_ ?_ <;> clear h0
 ·intro b6 h0
  refine AE fun K7 hK7=>AE fun K8 hK8=>bs h0 fun o10 h1 h0=>?_
  have M10 :∀(t9:Bool),o10=t9→∀s,Wk 0 s ⟨100,Ad [(0,(ls AG p0)),(5,(.ptr 0 0 0 0)),(29,(.bool t9))],[⟨0,98,3,[(AG c3)]⟩]⟩→K8 s:=by
   intro t9 hq s hw
   subst o10
   try dsimp only at h0
   refine hK8 _ (AS hw ?_)
   refine ci h0 U ?_ ?_ <;> clear h0
   ·intro b11 h0
    refine zr tb U U ?_
    replace h0:=Sh.AA h0
    subst r
    exact AK (xr (Ai [(4,(.bool false))] U))
   ·intro b11 h0
    refine AI (hK7 _ (AE fun K13 hK13=>zr tb U U ?_))
    obtain⟨o16,h1,h0⟩:=Sh.A8 h0
    have M16 :∀(_:Unit),o16=Sum.inr ()→∀s,Wk 0 s ⟨100,Ad [],[]⟩→K13 s:=by
     intro _ hq s hw
     subst o16
     try dsimp only at h0
     refine hK13 _ (AS hw (zr tb U U ?_))
     replace h0:=Sh.AA h0
     subst r
     exact AK (xr (AF (L:=[(4,(.bool true))]) ⟨.rfl,trivial⟩))
    refine Aa (Au (σ:=Int) (fun n v=>DU N c3 p0 n v=some o16) (fun i15=>⟨100,Ad [(0,(ls AG p0)),(5,(.ptr 0 0 0 0)),(6,(i64 i15))],[⟨0,98,3,[(AG c3)]⟩]⟩) N 0 h1 (AN U) (fun _ hv=>by rw[DU] at hv;cases hv) ?_)
    rintro n i15 h1
    try dsimp only at h1 ⊢
    rw[DU] at h1
    refine AE fun K18 hK18=>sr U fun K19 hK19=>zm tb 3 U (zl tb U U (zq tb U (dn hK19 U ?_)))
    refine ci h1 U ?_ ?_ <;> clear h1
    ·intro b20 h1
     refine AI (hK18 _ (AE fun K21 hK21=>Aa (AE fun K22 hK22=>bs h1 fun o24 h2 h1=>?_)))
     have M24 :∀(t23:Bool),o24=t23→∀s,Wk 0 s ⟨100,Ad [(0,(ls AG p0)),(5,(.ptr 0 0 0 0)),(6,(i64 i15)),(55,(.bool t23))],[⟨0,98,3,[(AG c3)]⟩]⟩→K22 s:=by
      intro t23 hq s hw
      subst o24
      try dsimp only at h1
      refine hK22 _ (AS hw ?_)
      refine ci h1 U ?_ ?_ <;> clear h1
      ·intro b25 h1
       refine zr tb U U ?_
       replace h1:=Sh.AA h1
       subst o16
       try dsimp only[id] at h0
       replace h0:=Sh.AA h0
       subst r
       exact AK (xr (Ai [(4,(.bool false))] U))
      ·intro b25 h1
       exact AI (hK21 _ (AJ U (zm tb 3 U (AB (xi (Sh.w (i15+1)) h1 (AN U))))))
     refine AJ U (zm tb 3 U (bs h2 fun c27 gc27 h2=>zx IC gc27 U U U (zm tb 2 U (zl tb U U (zm tb 2 U ?_)))))
     rcases Sh.As h2 with ⟨b28,h2⟩ | ⟨b28,h2⟩
     ·refine zs b28 U ?_
      iterate 8 refine zs b28 rfl ?_
      exact zt b28 U (AB (M24 true (Sh.AA h2).symm _ (AN U)))
     ·refine zg tb b28 U ?_
      iterate 3 refine zg tb b28 rfl ?_
      exact A7 (v:=(.BF (Ar c27) 0)) (Bb U U b28) rfl (CL IC U U gc27 U) (zg tb b28 U (zg tb b28 U (bs h2 fun q29 gq29 h2=>zd b28 Yn (KO gq29) rfl U U U (zg tb b28 U (zf b28 U (AB (M24 (!q29) (Sh.AA h2).symm _ (AN U))))))))
    ·intro b20 h1
     exact Ay (M16 () (Sh.AA h1).symm _ (Ai _ U))
  refine AJ U (zm tb 2 U (zl tb U U (zm tb 2 U ?_)))
  rcases Sh.As h1 with ⟨b30,h1⟩ | ⟨b30,h1⟩
  ·refine zs b30 U (zs b30 U (zs b30 U (zt b30 U (zq tb U ?_))))
   iterate 3 refine zs rfl rfl ?_
   exact zt U U (AB (M10 true (Sh.AA h1).symm _ (AN U)))
  ·refine zg tb b30 U (zg tb b30 U (zg tb b30 U (zf b30 U (zq tb U ?_))))
   rcases Sh.As h1 with ⟨b31,h1⟩ | ⟨b31,h1⟩
   ·exact zs b31 U (zs b31 U (zs b31 U (zt b31 U (AB (M10 true (Sh.AA h1).symm _ (AN U))))))
   ·exact zg tb b31 U (zg tb b31 U (zg tb b31 U (zf b31 U (AB (M10 (!decide (c3.to=0)) (Sh.AA h1).symm _ (AN U))))))
 ·intro b6 h0
  refine AI (hK4 _ (AE fun K32 hK32=>zr tb U U ?_))
  obtain⟨o35,h1,h0⟩:=Sh.A8 h0
  have M35 :∀(_:Unit),o35=Sum.inr ()→∀s,Wk 0 s ⟨100,Ad [(0,(ls AG p0)),(5,(.ptr 0 0 0 0))],[⟨0,98,3,[(AG c3)]⟩]⟩→K32 s:=by
   intro _ hq s hw
   subst o35
   try dsimp only at h0
   refine hK32 _ (AS hw (AE fun K36 hK36=>bs h0 fun o38 h1 h0=>?_))
   have M38 :∀(t37:Bool),o38=t37→∀s,Wk 0 s ⟨100,Ad [(4,(.bool t37))],[]⟩→K36 s:=by
    intro t37 hq s hw
    subst o38
    try dsimp only at h0
    refine hK36 _ (AS hw ?_)
    replace h0:=Sh.AA h0
    subst r
    exact AK (xr (AF (L:=[(4,(.bool t37))]) ⟨.rfl,trivial⟩))
   refine AJ U (zm tb 3 U (zl tb U U (bs h1 fun q39 gq39 h1=>zc Gs (BX gq39) rfl U U (zq tb U ?_))))
   rcases Sh.As h1 with ⟨b40,h1⟩ | ⟨b40,h1⟩
   ·exact zg tb b40 U (zg tb b40 U (zg tb b40 U (A7 (v:=(i64 (Sh.len p0))) (Bb U U b40) rfl (Bo Oz U) (bs h1 fun q41 gq41 h1=>zd b40 Gs (BX gq41) rfl U U U (zt b40 U (zq tb U (AB (M38 q41 (Sh.AA h1).symm _ (Ai _ U)))))))))
   ·refine zs b40 U ?_
    iterate 4 refine zs b40 rfl ?_
    exact zf b40 U (zq tb U (AB (M38 false (Sh.AA h1).symm _ (Ai _ U))))
  refine Aa (Au (σ:=Int) (fun n v=>DW c3 p0 p1 n v=some o35) (fun i34=>⟨100,Ad [(0,(ls AG p0)),(1,(i64 p1)),(5,(.ptr 0 0 0 0)),(7,(i64 i34))],[⟨0,98,3,[(AG c3)]⟩]⟩) N 0 h1 (AN U) (fun _ hv=>by rw[DW] at hv;cases hv) ?_)
  rintro n i34 h1
  try dsimp only at h1 ⊢
  rw[DW] at h1
  refine AE fun K42 hK42=>zr tb U U ?_
  refine ci h1 U ?_ ?_ <;> clear h1
  ·intro b44 h1
   refine AI (hK42 _ (AE fun K45 hK45=>Aa (AE fun K46 hK46=>bs h1 fun o48 h2 h1=>?_)))
   have M48 :∀(t47:Bool),o48=t47→∀s,Wk 0 s ⟨100,Ad [(0,(ls AG p0)),(1,(i64 p1)),(5,(.ptr 0 0 0 0)),(7,(i64 i34)),(87,(.bool t47))],[⟨0,98,3,[(AG c3)]⟩]⟩→K46 s:=by
    intro t47 hq s hw
    subst o48
    try dsimp only at h1
    refine hK46 _ (AS hw ?_)
    refine ci h1 U ?_ ?_ <;> clear h1
    ·intro b49 h1
     refine zr tb U U ?_
     replace h1:=Sh.AA h1
     subst o35
     try dsimp only[id] at h0
     replace h0:=Sh.AA h0
     subst r
     exact AK (xr (Ai [(4,(.bool false))] U))
    ·intro b49 h1
     exact AI (hK45 _ (AJ U (zm tb 3 U (AB (xi (Sh.w (i34+1)) h1 (AN U))))))
   refine Bz (by kernel_rfl) (by kernel_rfl) (by rfl) ?_
   iterate 2 refine yq tb rfl ?_
   refine bs h2 fun c51 gc51 h2=>yx DA gc51 U U U ?_
   iterate 2 refine yq tb rfl ?_
   refine yl tb U U ?_
   iterate 2 refine yq tb rfl ?_
   rcases Sh.As h2 with ⟨b52,h2⟩ | ⟨b52,h2⟩
   ·refine yg tb b52 U (yg tb b52 U (H3 (v:=(.BF (AG c51) 0)) (Bb U U b52) rfl (CL DA U U gc51 U) ?_))
    iterate 5 refine yg tb b52 rfl ?_
    refine yt b52 U (yq tb U ?_)
    rcases Sh.As h2 with ⟨b53,h2⟩ | ⟨b53,h2⟩
    ·refine yg tb b53 U (yg tb b53 U (H3 (v:=(.BF (AG c51) 0)) (Bb U U b53) rfl (CL DA U U gc51 U) ?_))
     iterate 5 refine yg tb b53 rfl ?_
     exact yt b53 U (BS (M48 (decide (c51.to=c3.to)) (Sh.AA h2).symm _ (AN U)))
    ·refine ys b53 U ?_
     iterate 7 refine ys b53 rfl ?_
     exact yf b53 U (BS (M48 false (Sh.AA h2).symm _ (AN U)))
   ·refine ys b52 U ?_
    iterate 7 refine ys b52 rfl ?_
    refine yf b52 U (yq tb U ?_)
    iterate 8 refine ys rfl rfl ?_
    exact yf U U (BS (M48 false (Sh.AA h2).symm _ (AN U)))
  ·intro b44 h1
   exact Ay (M35 () (Sh.AA h1).symm _ (AN U))
theorem Na {N:Nat} {p0:(List Ag)} {r:Bool} (h0:Fz N p0=some r):Ae Tryz.prog 201 [(ls AG p0)] [] (fun v st=>v=(.bool r)∧st=[]):=by
 unfold Fz at h0
 refine ai Tryz.func201 U U U U (zr tb U U (AE fun K2 hK2=>sr U fun K3 hK3=>zq tb U (zl tb U U (zq tb U (dn hK3 U ?_)))))
 refine ci h0 U ?_ ?_ <;> clear h0
 ·intro b4 h0
  refine zr tb U U ?_
  replace h0:=Sh.AA h0
  subst r
  exact AK (xr (AF (L:=[(2,(.bool false))]) ⟨.rfl,trivial⟩))
 ·intro b4 h0
  refine AI (hK2 _ (AE fun K6 hK6=>zr tb U U ?_))
  obtain⟨o9,h1,h0⟩:=Sh.A8 h0
  have M9 :∀(_:Unit),o9=Sum.inr ()→∀s,Wk 0 s ⟨17,Ad [],[]⟩→K6 s:=by
   intro _ hq s hw
   subst o9
   try dsimp only at h0
   refine hK6 _ (AS hw (zr tb U U ?_))
   replace h0:=Sh.AA h0
   subst r
   exact AK (xr (AF (L:=[(2,(.bool true))]) ⟨.rfl,trivial⟩))
  refine Aa (Au (σ:=Int) (fun n v=>C5 N p0 n v=some o9) (fun i8=>⟨17,Ad [(0,(ls AG p0)),(3,(i64 i8))],[]⟩) N 0 h1 (AN U) (fun _ hv=>by rw[C5] at hv;cases hv) ?_)
  rintro n i8 h1
  try dsimp only at h1 ⊢
  rw[C5] at h1
  refine AE fun K11 hK11=>sr U fun K12 hK12=>zm tb 2 U (zl tb U U (zq tb U (dn hK12 U ?_)))
  refine ci h1 U ?_ ?_ <;> clear h1
  ·intro b13 h1
   refine AI (hK11 _ (AE fun K14 hK14=>Aa (sr U fun K15 hK15=>zm tb 2 U (bs h1 fun q16 gq16 h1=>zc bB (N4 gq16) rfl U U (zq tb U (dn hK15 U ?_))))))
   refine ci h1 U ?_ ?_ <;> clear h1
   ·intro b17 h1
    have b18:q16=false:=by simpa using b17
    refine zr tb U U ?_
    replace h1:=Sh.AA h1
    subst o9
    try dsimp only[id] at h0
    replace h0:=Sh.AA h0
    subst r
    exact AK (xr (AF (L:=[(2,(.bool false))]) ⟨.rfl,trivial⟩))
   ·intro b17 h1
    have b20:q16=true:=by simpa using b17
    exact AI (hK14 _ (AJ U (zm tb 3 U (AB (xi (Sh.w (i8+1)) h1 (AN U))))))
  ·intro b13 h1
   exact Ay (M9 () (Sh.AA h1).symm _ (AN U))
noncomputable abbrev P8 (p0:Co):Go.Abs.Row:=⟨0,170,2,[[(ls AG p0.decls),(ls Ef p0.funcs)]]⟩
theorem OR {N:Nat} {p0:Co} {r:Bool} (h0:Gk N p0=some r):Ae Tryz.prog 154 [(.agg [(ls AG p0.decls),(ls Ef p0.funcs)])] [] (fun v st=>v=(.bool r)∧st=[]):=by
 unfold Gk at h0
 refine ai Tryz.func154 U U U U (sr U fun K1 hK1=>BI (m:=0) (st':=[(P8 p0)]) Ah U U U U U (zq tb U (dn hK1 U (AE fun K2 hK2=>AE fun K3 hK3=>bs h0 fun o5 h1 h0=>?_))))
 have M5 :∀(t4:Bool),o5=t4→∀s,Wk 0 s ⟨64,Ad [(1,(.ptr 0 0 0 0)),(15,(.bool t4))],[(P8 p0)]⟩→K3 s:=by
  intro t4 hq s hw
  subst o5
  try dsimp only at h0
  refine hK3 _ (AS hw ?_)
  refine ci h0 U ?_ ?_ <;> clear h0
  ·intro b6 h0
   refine zr tb U U ?_
   replace h0:=Sh.AA h0
   subst r
   exact AK (xr (Ai [(2,(.bool false))] U))
  ·intro b6 h0
   refine AI (hK2 _ (AE fun K8 hK8=>zr tb U U ?_))
   obtain⟨o11,h1,h0⟩:=Sh.A8 h0
   have M11 :∀(_:Unit),o11=Sum.inr ()→∀s,Wk 0 s ⟨64,Ad [(1,(.ptr 0 0 0 0))],[(P8 p0)]⟩→K8 s:=by
    intro _ hq s hw
    subst o11
    try dsimp only at h0
    refine hK8 _ (AS hw (AE fun K12 hK12=>bs h0 fun o14 h1 h0=>?_))
    have M14 :∀(t13:Bool),o14=t13→∀s,Wk 0 s ⟨64,Ad [(2,(.bool t13))],[]⟩→K12 s:=by
     intro t13 hq s hw
     subst o14
     try dsimp only at h0
     refine hK12 _ (AS hw ?_)
     replace h0:=Sh.AA h0
     subst r
     exact AK (xr (AF (L:=[(2,(.bool t13))]) ⟨.rfl,trivial⟩))
    refine AJ U (zm tb 2 U (bs h1 fun c15 gc15 h1=>zx Pw gc15 U U U (zm tb 2 U (zl tb U U (zm tb 2 U ?_)))))
    rcases Sh.As h1 with ⟨b16,h1⟩ | ⟨b16,h1⟩
    ·refine zg tb b16 U (zg tb b16 U (A7 (v:=(.BF (Ef c15) 0)) (Bb U U b16) rfl (CL Pw U U gc15 U) ?_))
     iterate 3 refine zg tb b16 rfl ?_
     exact zt b16 U (zq tb U (AB (M14 (decide (c15.result=0)) (Sh.AA h1).symm _ (Ai _ U))))
    ·refine zs b16 U ?_
     iterate 5 refine zs b16 rfl ?_
     exact zf b16 U (zq tb U (AB (M14 false (Sh.AA h1).symm _ (Ai _ U))))
   refine Aa (Au (σ:=Int) (fun n v=>Cu N p0 n v=some o11) (fun i10=>⟨64,Ad [(1,(.ptr 0 0 0 0)),(3,(i64 i10))],[(P8 p0)]⟩) N 0 h1 (AN U) (fun _ hv=>by rw[Cu] at hv;cases hv) ?_)
   rintro n i10 h1
   try dsimp only at h1 ⊢
   rw[Cu] at h1
   refine AE fun K17 hK17=>sr U fun K18 hK18=>zm tb 3 U (zl tb U U (zq tb U (dn hK18 U ?_)))
   refine ci h1 U ?_ ?_ <;> clear h1
   ·intro b19 h1
    refine AI (hK17 _ (AE fun K20 hK20=>Aa (sr U fun K21 hK21=>zm tb 3 U (bs h1 fun c22 gc22 h1=>zx Pw gc22 U U U (zq tb U (Ap (m:=1) (st':=[(P8 p0),⟨0,205,5,[[.zc,(i64 0),(i64 0),(i64 0),.zc]]⟩]) Ah ZA U U (A3 (st':=[(P8 p0),⟨0,205,5,[[(ls eI c22.params),(i64 c22.result),(i64 c22.body.op),(i64 c22.body.num),(ls Tf c22.body.kids)]]⟩]) Ah aq U U U U U U (show 0+5≤5 by decide) rfl (dn hK21 U (AE fun K23 hK23=>?_)))))))))
    refine bs h1 fun o25 h2 h1=>?_
    have M25 :∀(t24:Bool),o25=t24→∀s,Wk 0 s ⟨64,Ad [(1,(.ptr 0 0 0 0)),(3,(i64 i10)),(48,(.bool t24))],[(P8 p0)]⟩→K23 s:=by
     intro t24 hq s hw
     subst o25
     try dsimp only at h1
     refine hK23 _ (AS hw ?_)
     refine ci h1 U ?_ ?_ <;> clear h1
     ·intro b26 h1
      refine zr tb U U ?_
      replace h1:=Sh.AA h1
      subst o11
      try dsimp only[id] at h0
      replace h0:=Sh.AA h0
      subst r
      exact AK (xr (Ai [(2,(.bool false))] U))
     ·intro b26 h1
      exact AI (hK20 _ (AJ U (zm tb 3 U (AB (xi (Sh.w (i10+1)) h1 (AN U))))))
    refine AJ U (zm tb 2 U (zl tb U U (zm tb 2 U ?_)))
    rcases Sh.As h2 with ⟨b28,h2⟩ | ⟨b28,h2⟩
    ·refine zs b28 U ?_
     iterate 5 refine zs b28 rfl ?_
     refine zt b28 U (zq tb U ?_)
     iterate 7 refine zs rfl rfl ?_
     refine zt U U ?_
     exact AB (M25 true (Sh.AA h2).symm _ (AP (L:=[(1,(.ptr 0 0 0 0)),(3,(i64 i10)),(48,(.bool true))]) (st':=[(P8 p0)]) (st1:=[(P8 p0)]) [0] U .nil (by decide) rfl U (.raw U U .nil) ⟨.rfl,.rfl,.rfl,trivial⟩))
    ·refine zg tb b28 U ?_
     iterate 3 refine zg tb b28 rfl ?_
     refine bs h2 fun q29 gq29 h2=>zd b28 Yn (KO gq29) rfl U U U (zg tb b28 U (zf b28 U (zq tb U ?_)))
     rcases Sh.As h2 with ⟨b30,h2⟩ | ⟨b30,h2⟩
     ·refine zs b30 U ?_
      iterate 6 refine zs b30 rfl ?_
      refine zt b30 U ?_
      exact AB (M25 true (Sh.AA h2).symm _ (AP (L:=[(1,(.ptr 0 0 0 0)),(3,(i64 i10)),(48,(.bool true))]) (st':=[(P8 p0)]) (st1:=[(P8 p0)]) [0] U .nil (by decide) rfl U (.raw U U .nil) ⟨.rfl,.rfl,.rfl,trivial⟩))
     ·refine zg tb b30 U ?_
      iterate 3 refine zg tb b30 rfl ?_
      refine A7 (v:=(i64 (Sh.len p0.decls))) (Bb U U b30) rfl (Bo Oz U) (bs h2 fun q31 gq31 h2=>zd b30 Gs (BX gq31) rfl U U U (zg tb b30 U (zf b30 U ?_)))
      exact AB (M25 (!q31) (Sh.AA h2).symm _ (AP (L:=[(1,(.ptr 0 0 0 0)),(3,(i64 i10)),(48,(.bool (!q31)))]) (st':=[(P8 p0)]) (st1:=[(P8 p0)]) [0] U .nil (by decide) rfl U (.raw U U .nil) ⟨.rfl,.rfl,.rfl,trivial⟩))
   ·intro b19 h1
    exact Ay (M11 () (Sh.AA h1).symm _ (AN U))
 refine AJ U (zm tb 2 U (bs h1 fun q32 gq32 h1=>zc bp (Na gq32) rfl U U (zm tb 2 U ?_)))
 rcases Sh.As h1 with ⟨b33,h1⟩ | ⟨b33,h1⟩
 ·refine zs b33 U ?_
  iterate 4 refine zs b33 rfl ?_
  exact zt b33 U (AB (M5 true (Sh.AA h1).symm _ (AN U)))
 ·exact zg tb b33 U (zg tb b33 U (A7 (v:=(i64 (Sh.len p0.funcs))) (Bb U U b33) rfl (Bo bG U) (bs h1 fun q34 gq34 h1=>zd b33 Gs (BX gq34) rfl U U U (zg tb b33 U (zf b33 U (AB (M5 (!q34) (Sh.AA h1).symm _ (AN U))))))))
theorem OX {N:Nat} {p0:(List Int)} {p1:(List Int)} {r:Bool} (h0:Gh N p0 p1=some r):Ae Tryz.prog 156 [(ls eI p0),(ls eI p1)] [] (fun v st=>v=(.bool r)∧st=[]):=by
 unfold Gh at h0
 refine ai Tryz.func156 U U U U (zr tb U U (AE fun K2 hK2=>zr tb U U ?_))
 obtain⟨o5,h1,h0⟩:=Sh.A8 h0
 have M5 :∀(_:Unit),o5=Sum.inr ()→∀s,Wk 0 s ⟨47,Ad [],[]⟩→K2 s:=by
  intro _ hq s hw
  subst o5
  try dsimp only at h0
  refine hK2 _ (AS hw (zr tb U U ?_))
  replace h0:=Sh.AA h0
  subst r
  exact AK (xr (AF (L:=[(4,(.bool true))]) ⟨.rfl,trivial⟩))
 refine Aa (Au (σ:=Int) (fun n v=>DS p0 p1 n v=some o5) (fun i4=>⟨47,Ad [(0,(ls eI p0)),(1,(ls eI p1)),(5,(i64 i4))],[]⟩) N 0 h1 (AN U) (fun _ hv=>by rw[DS] at hv;cases hv) ?_)
 rintro n i4 h1
 try dsimp only at h1 ⊢
 rw[DS] at h1
 refine AE fun K7 hK7=>sr U fun K8 hK8=>zm tb 2 U (zl tb U U (zq tb U (dn hK8 U ?_)))
 refine ci h1 U ?_ ?_ <;> clear h1
 ·intro b9 h1
  refine AI (hK7 _ (AE fun K10 hK10=>Aa (AE fun K11 hK11=>bs h1 fun o13 h2 h1=>?_)))
  have M13 :∀(t12:Bool),o13=t12→∀s,Wk 0 s ⟨47,Ad [(0,(ls eI p0)),(1,(ls eI p1)),(5,(i64 i4)),(46,(.bool t12))],[]⟩→K11 s:=by
   intro t12 hq s hw
   subst o13
   try dsimp only at h1
   refine hK11 _ (AS hw ?_)
   refine ci h1 U ?_ ?_ <;> clear h1
   ·intro b14 h1
    refine zr tb U U ?_
    replace h1:=Sh.AA h1
    subst o5
    try dsimp only[id] at h0
    replace h0:=Sh.AA h0
    subst r
    exact AK (xr (AF (L:=[(4,(.bool false))]) ⟨.rfl,trivial⟩))
   ·intro b14 h1
    exact AI (hK10 _ (AJ U (zm tb 3 U (AB (xi (Sh.w (i4+1)) h1 (AN U))))))
  refine Bz (by kernel_rfl) (by kernel_rfl) (by rfl) ?_
  iterate 2 refine yq tb rfl ?_
  refine bs h2 fun c16 gc16 h2=>yx BN gc16 U U U ?_
  iterate 2 refine yq tb rfl ?_
  refine yl tb U U (yq tb U (bs h2 fun q17 gq17 h2=>CR (v:=(.bool q17)) Ah Gs (BX gq17) rfl U U ?_))
  iterate 2 refine yq tb rfl ?_
  rcases Sh.As h2 with ⟨b18,h2⟩ | ⟨b18,h2⟩
  ·refine ys b18 U ?_
   iterate 7 refine ys b18 rfl ?_
   refine yt b18 U (yq tb U ?_)
   iterate 3 refine ys rfl rfl ?_
   iterate 10 refine yn rfl ?_
   exact ys U U (yt U U (BS (M13 true (Sh.AA h2).symm _ (AN U))))
  ·refine yg tb b18 U ?_
   iterate 2 refine yg tb b18 rfl ?_
   refine H3 (v:=(.BF (eI c16) 0)) (Bb U U b18) rfl (CL BN U U gc16 U) (yg tb b18 U (bs h2 fun c19 gc19 h2=>H3 (v:=(.BF (eI c19) 0)) (Bb U U b18) rfl (CL BN U U gc19 U) ?_))
   iterate 2 refine yg tb b18 rfl ?_
   refine yf b18 U (yq tb U ?_)
   rcases Sh.As h2 with ⟨b20,h2⟩ | ⟨b20,h2⟩
   ·refine ys b20 U ?_
    iterate 2 refine ys b20 rfl ?_
    iterate 10 refine yn rfl ?_
    exact ys b20 U (yt b20 U (BS (M13 true (Sh.AA h2).symm _ (AN U))))
   ·refine yg tb b20 U ?_
    iterate 2 refine yg tb b20 rfl ?_
    rcases Sh.As h2 with ⟨b21,h2⟩ | ⟨b21,h2⟩
    ·refine yg tb b21 U (yg tb b21 U (H3 (v:=(.BF (eI c16) 0)) (Bb U U b21) rfl (CL BN U U gc16 U) ?_))
     iterate 4 refine yg tb b21 rfl ?_
     refine bs h2 fun c22 gc22 h2=>H3 (v:=(.BF (eI c22) 0)) (Bb U U b21) rfl (CL BN U U gc22 U) ?_
     iterate 2 refine yg tb b21 rfl ?_
     exact H3 (v:=(.bool (decide (c16≤c22)))) (Bb U U b20) rfl (EK U b21 U) (yf b20 U (BS (M13 (decide (c16≤c22)) (Sh.AA h2).symm _ (AN U))))
    ·refine ys b21 U ?_
     iterate 9 refine ys b21 rfl ?_
     exact H3 (v:=(.bool false)) (Bb U U b20) rfl (EI U b21 U) (yf b20 U (BS (M13 false (Sh.AA h2).symm _ (AN U))))
 ·intro b9 h1
  exact Ay (M5 () (Sh.AA h1).symm _ (AN U))
theorem Ke {N:Nat} {p0:Aj} {r:Bool} (h0:Ea N p0=some r):Ae Tryz.prog 99 [(.agg [(ls AG p0.decls),(ls AT p0.AD)])] [] (fun v st=>v=(.bool r)∧st=[]):=by
 unfold Ea at h0
 refine ai Tryz.func99 U U U U (sr U fun K1 hK1=>BI (m:=0) (st':=[(HL p0)]) Ah U U U U U (zq tb U (dn hK1 U (AE fun K2 hK2=>AE fun K3 hK3=>bs h0 fun o5 h1 h0=>?_))))
 have M5 :∀(t4:Bool),o5=t4→∀s,Wk 0 s ⟨35,Ad [(1,(.ptr 0 0 0 0)),(13,(.bool t4))],[(HL p0)]⟩→K3 s:=by
  intro t4 hq s hw
  subst o5
  try dsimp only at h0
  refine hK3 _ (AS hw ?_)
  refine ci h0 U ?_ ?_ <;> clear h0
  ·intro b6 h0
   refine zr tb U U ?_
   replace h0:=Sh.AA h0
   subst r
   exact AK (xr (Ai [(2,(.bool false))] U))
  ·intro b6 h0
   refine AI (hK2 _ (AE fun K8 hK8=>zr tb U U ?_))
   obtain⟨o11,h1,h0⟩:=Sh.A8 h0
   have M11 :∀(_:Unit),o11=Sum.inr ()→∀s,Wk 0 s ⟨35,Ad [],[]⟩→K8 s:=by
    intro _ hq s hw
    subst o11
    try dsimp only at h0
    refine hK8 _ (AS hw (zr tb U U ?_))
    replace h0:=Sh.AA h0
    subst r
    exact AK (xr (AF (L:=[(2,(.bool true))]) ⟨.rfl,trivial⟩))
   refine Aa (Au (σ:=Int) (fun n v=>B0 N p0 n v=some o11) (fun i10=>⟨35,Ad [(1,(.ptr 0 0 0 0)),(3,(i64 i10))],[(HL p0)]⟩) N 0 h1 (AN U) (fun _ hv=>by rw[B0] at hv;cases hv) ?_)
   rintro n i10 h1
   try dsimp only at h1 ⊢
   rw[B0] at h1
   refine AE fun K13 hK13=>sr U fun K14 hK14=>zm tb 3 U (zl tb U U (zq tb U (dn hK14 U ?_)))
   refine ci h1 U ?_ ?_ <;> clear h1
   ·intro b15 h1
    refine AI (hK13 _ (AE fun K16 hK16=>Aa (AE fun K17 hK17=>?_)))
    refine Bz (by kernel_rfl) (by kernel_rfl) (by rfl) ?_
    iterate 3 refine yq tb rfl ?_
    refine bs h1 fun c18 gc18 h1=>yx E7 gc18 U U U ?_
    iterate 5 refine yq tb rfl ?_
    refine yx E7 gc18 U U U ?_
    iterate 2 refine yq tb rfl ?_
    refine bs h1 fun q19 gq19 h1=>CR (v:=(.bool q19)) Ah bV (OX gq19) rfl U U (yq tb U (BS (hK17 _ ?_)))
    refine ci h1 U ?_ ?_ <;> clear h1
    ·intro b20 h1
     have b21:q19=false:=by simpa using b20
     refine zr tb U U ?_
     replace h1:=Sh.AA h1
     subst o11
     try dsimp only[id] at h0
     replace h0:=Sh.AA h0
     subst r
     exact AK (xr (Ai [(2,(.bool false))] U))
    ·intro b20 h1
     have b23:q19=true:=by simpa using b20
     exact AI (hK16 _ (AJ U (zm tb 3 U (AB (xi (Sh.w (i10+1)) h1 (AN U))))))
   ·intro b15 h1
    exact Ay (M11 () (Sh.AA h1).symm _ (Ai _ U))
 refine AJ U (zm tb 2 U (zl tb U U (zm tb 2 U ?_)))
 rcases Sh.As h1 with ⟨b24,h1⟩ | ⟨b24,h1⟩
 ·refine zs b24 U ?_
  iterate 3 refine zs b24 rfl ?_
  exact zt b24 U (AB (M5 true (Sh.AA h1).symm _ (AN U)))
 ·exact zg tb b24 U (bs h1 fun q25 gq25 h1=>zd (v':=(.agg [(ls AG q25.decls),(ls Ef q25.funcs)])) b24 ak (Qw gq25) rfl U U U (bs h1 fun q26 gq26 h1=>zd b24 az (OR gq26) rfl U U U (zg tb b24 U (zf b24 U (AB (M5 (!q26) (Sh.AA h1).symm _ (AN U)))))))
noncomputable abbrev ZQ (p0:Block):Go.Abs.Row:=⟨0,55,2,[[(ls Al p0.steps),(i64 p0.result)]]⟩
theorem NC {N:Nat} {rec_spec_stepsLeft:Block→Int→Option (Int)} (hrec_spec_stepsLeft :∀{p0:Block} {p1:Int} {r:Int},rec_spec_stepsLeft p0 p1=some r→Ae Tryz.prog 113 [(.agg [(ls Al p0.steps),(i64 p0.result)]),(i64 p1)] [] (fun v st=>v=(i64 r)∧st=[])) {p0:Block} {p1:Int} {r:Int} (h0:Gy N rec_spec_stepsLeft p0 p1=some r):Ae Tryz.prog 113 [(.agg [(ls Al p0.steps),(i64 p0.result)]),(i64 p1)] [] (fun v st=>v=(i64 r)∧st=[]):=by
 unfold Gy at h0
 refine ai Tryz.func113 U U U U (sr U fun K1 hK1=>BI (m:=0) (st':=[(ZQ p0)]) Ah U U U U U (zq tb U (dn hK1 U (AE fun K2 hK2=>zr tb U U ?_))))
 obtain⟨o7,h1,h0⟩:=Sh.A8 h0
 have M7 :∀(left6:Int),o7=Sum.inr left6→∀s,Wk 0 s ⟨43,Ad [(1,(i64 left6))],[]⟩→K2 s:=by
  intro left6 hq s hw
  subst o7
  try dsimp only at h0
  refine hK2 _ (AS hw (zr tb U U ?_))
  replace h0:=Sh.AA h0
  subst r
  exact AK (xr (AF (L:=[(4,(i64 left6))]) ⟨.rfl,trivial⟩))
 refine Aa (Au (σ:=Int×Int) (fun n v=>CK N p0 rec_spec_stepsLeft n v.1 v.2=some o7) (fun (left4,i5)=>⟨43,Ad [(1,(i64 left4)),(2,(.ptr 0 0 0 0)),(5,(i64 i5))],[(ZQ p0)]⟩) N (p1,0) h1 (AN U) (fun _ hv=>by rw[CK] at hv;cases hv) ?_)
 rintro n ⟨left4,i5⟩ h1
 try dsimp only at h1 ⊢
 rw[CK] at h1
 refine AE fun K9 hK9=>sr U fun K10 hK10=>zm tb 3 U (zl tb U U (zq tb U (dn hK10 U ?_)))
 refine ci h1 U ?_ ?_ <;> clear h1
 ·intro b11 h1
  refine AI (hK9 _ (AE fun K12 hK12=>Aa (AE fun K13 hK13=>zr tb U U ?_)))
  refine ci h1 U ?_ ?_ <;> clear h1
  ·intro b15 h1
   refine zr tb U U ?_
   replace h1:=Sh.AA h1
   subst o7
   try dsimp only[id] at h0
   replace h0:=Sh.AA h0
   subst r
   exact AK (xr (Ai [(4,(i64 (-1)))] U))
  ·intro b15 h1
   refine AI (hK13 _ ?_)
   iterate 2 refine zr tb rfl rfl ?_
   obtain⟨o22,h2,h1⟩:=Sh.A8 h1
   have M22 :∀(left21:Int),o22=Sum.inr left21→∀s,Wk 0 s ⟨43,Ad [(1,(i64 left21)),(2,(.ptr 0 0 0 0)),(5,(i64 i5))],[(ZQ p0)]⟩→K12 s:=by
    intro left21 hq s hw
    subst o22
    try dsimp only at h1
    exact hK12 _ (AS hw (AJ U (zm tb 3 U (AB (xi (left21,Sh.w (i5+1)) h1 (AN U))))))
   refine Aa (Au (σ:=Int×Int) (fun n v=>CM i5 p0 rec_spec_stepsLeft n v.1 v.2=some o22) (fun (left19,k20)=>⟨43,Ad [(1,(i64 left19)),(2,(.ptr 0 0 0 0)),(5,(i64 i5)),(6,(i64 k20))],[(ZQ p0)]⟩) N (Sh.w (left4 - 1),0) h2 (AN U) (fun _ hv=>by rw[CM] at hv;cases hv) ?_)
   rintro n ⟨left19,k20⟩ h2
   try dsimp only at h2 ⊢
   rw[CM] at h2
   refine AE fun K23 hK23=>sr U fun K24 hK24=>zm tb 4 U (bs h2 fun c25 gc25 h2=>zz (.BF [(i64 c25.op),(i64 c25.num),(i64 c25.Ax),(ls eI c25.args),(ls A2 c25.kids)] 0) (Di FD U U gc25 (Bw _) rfl) rfl (zm tb 2 U (zl tb U U (zq tb U (dn hK24 U ?_)))))
   refine ci h2 U ?_ ?_ <;> clear h2
   ·intro b26 h2
    refine AI (hK23 _ (AE fun K27 hK27=>Aa (sr U fun K28 hK28=>zm tb 3 U (zz (.BF [(i64 c25.op),(i64 c25.num),(i64 c25.Ax),(ls eI c25.args),(ls A2 c25.kids)] 0) (Di FD U U gc25 (Bw _) rfl) rfl (zm tb 3 U (bs h2 fun c29 gc29 h2=>zx Hi gc29 U U U (zm tb 2 U (bs h2 fun q30 gq30 h2=>zc Ye (hrec_spec_stepsLeft gq30) rfl U U ?_))))))))
    refine zq tb U (dn hK28 U (zr tb U U ?_))
    refine ci h2 U ?_ ?_ <;> clear h2
    ·intro b32 h2
     refine zr tb U U ?_
     replace h2:=Sh.AA h2
     subst o22
     try dsimp only[id] at h1
     replace h1:=Sh.AA h1
     subst o7
     try dsimp only[id] at h0
     replace h0:=Sh.AA h0
     subst r
     exact AK (xr (Ai [(4,(i64 (-1)))] U))
    ·intro b32 h2
     exact AI (hK27 _ (AJ U (zm tb 3 U (AB (xi (q30,Sh.w (k20+1)) h2 (AN U))))))
   ·intro b26 h2
    exact Ay (M22 left19 (Sh.AA h2).symm _ (AN U))
 ·intro b11 h1
  exact Ay (M7 left4 (Sh.AA h1).symm _ (Ai _ U))

theorem Mg {N:Nat} :∀(n:Nat),∀{p0:Block} {p1:Int} {r:Int},EP N n p0 p1=some r→Ae Tryz.prog 113 [(.agg [(ls Al p0.steps),(i64 p0.result)]),(i64 p1)] [] (fun v st=>v=(i64 r)∧st=[]):=by
 intro n
 induction n with
 | zero=>intro p0 p1 r h0;cases h0
 | succ n ih=>
  intro p0 p1 r h0
  rw[EP] at h0
  exact NC (fun h=>ih h) h0
theorem OP {N:Nat} :∀{p0:Block} {p1:Int} {r:Int},Je N p0 p1=some r→Ae Tryz.prog 113 [(.agg [(ls Al p0.steps),(i64 p0.result)]),(i64 p1)] [] (fun v st=>v=(i64 r)∧st=[]):=by
 intro p0 p1 r h0
 exact Mg N h0
theorem QC {N:Nat} {p0:Block} {r:Int} (h0:Ha N p0=some r):Ae Tryz.prog 67 [(.agg [(ls Al p0.steps),(i64 p0.result)])] [] (fun v st=>v=(i64 r)∧st=[]):=by
 unfold Ha at h0
 refine ai Tryz.func67 U U U U (sr U fun K1 hK1=>BI (m:=0) (st':=[(ZQ p0)]) Ah U U U U U (zq tb U (dn hK1 U (sr U fun K2 hK2=>zq tb U (bs h0 fun q3 gq3 h0=>zc Ye (OP gq3) rfl U U (zq tb U (dn hK2 U (AE fun K4 hK4=>?_))))))))
 refine zr tb U U ?_
 refine ci h0 U ?_ ?_ <;> clear h0
 ·intro b6 h0
  refine zr tb U U ?_
  replace h0:=Sh.AA h0
  subst r
  exact AK (xr (Ai [(2,(i64 (-1)))] U))
 ·intro b6 h0
  refine AI (hK4 _ (zr tb U U ?_))
  replace h0:=Sh.AA h0
  subst r
  exact AK (xr (Ai [(2,(i64 (Sh.w (600 - q3))))] U))
theorem Ez {p0:(List Int)} {r:(List Int)} (h0:Cw p0=some r):Ae Tryz.prog 103 [(ls eI p0)] [] (fun v st=>v=(ow 0 0 r)∧st=[(ro 0 3 1 eI r)]):=by
 unfold Cw at h0
 refine ai Tryz.func103 U U U U (zr tb U U (sr U fun K2 hK2=>?_))
 refine DV (m:=0) (st':=[(ro 0 3 1 eI ([]:List Int))]) (l:=([]:List Int)) (enc:=eI) Ah BN (by decide) rfl U U U U U ?_
 refine zq tb U (bs h0 fun l3 gl3 h0=>Eg (st':=[(ro 1 3 1 eI l3)]) (l2:=p0) Ah BN U U U U Me (fun _=>U) gl3 U (zq tb U (dn hK2 U ?_)))
 replace h0:=Sh.AA h0
 subst r
 exact AK (xr (Cz (L:=[(2,(ow 0 0 l3))]) (st':=[(ro 0 3 1 eI l3)]) (.pure (Ak fun _=>U) .nil) ⟨.rfl,trivial⟩))
theorem Q2 {p0:Int} {r:Bool} (h0:HG p0=some r):Ae Tryz.prog 165 [(i64 p0)] [] (fun v st=>v=(.bool r)∧st=[]):=by
 unfold HG at h0
 refine ai Tryz.func165 U U U U (zr tb U U (AE fun K2 hK2=>bs h0 fun o4 h1 h0=>?_))
 have M4 :∀(t3:Bool),o4=t3→∀s,Wk 0 s ⟨21,Ad [(2,(.bool t3))],[]⟩→K2 s:=by
  intro t3 hq s hw
  subst o4
  try dsimp only at h0
  refine hK2 _ (AS hw ?_)
  replace h0:=Sh.AA h0
  subst r
  exact AK (xr (AF (L:=[(2,(.bool t3))]) ⟨.rfl,trivial⟩))
 refine AJ U (zm tb 3 U ?_)
 rcases Sh.As h1 with ⟨b5,h1⟩ | ⟨b5,h1⟩
 ·refine zs b5 U (zs b5 U (zt b5 U (zq tb U (zs U U (zs U U (zt U U (zq tb U (zs U U (zs U U (zt U U (zq tb U ?_)))))))))))
  exact zs U U (zs U U (zt U U (zq tb U (AB (M4 true (Sh.AA h1).symm _ (AN U))))))
 ·refine zg tb b5 U (zg tb b5 U (zf b5 U (zq tb U ?_)))
  rcases Sh.As h1 with ⟨b6,h1⟩ | ⟨b6,h1⟩
  ·refine zs b6 U (zs b6 U (zt b6 U (zq tb U (zs U U (zs U U (zt U U (zq tb U (zs U U (zs U U (zt U U (zq tb U ?_)))))))))))
   exact AB (M4 true (Sh.AA h1).symm _ (AN U))
  ·refine zg tb b6 U (zg tb b6 U (zf b6 U (zq tb U ?_)))
   rcases Sh.As h1 with ⟨b7,h1⟩ | ⟨b7,h1⟩
   ·exact zs b7 U (zs b7 U (zt b7 U (zq tb U (zs U U (zs U U (zt U U (zq tb U (AB (M4 true (Sh.AA h1).symm _ (AN U))))))))))
   ·refine zg tb b7 U (zg tb b7 U (zf b7 U (zq tb U ?_)))
    rcases Sh.As h1 with ⟨b8,h1⟩ | ⟨b8,h1⟩
    ·exact zs b8 U (zs b8 U (zt b8 U (zq tb U (AB (M4 true (Sh.AA h1).symm _ (AN U))))))
    ·exact zg tb b8 U (zg tb b8 U (zf b8 U (zq tb U (AB (M4 (decide (p0=10)) (Sh.AA h1).symm _ (AN U))))))
theorem J8 {p0:(List Int)} {p1:Step} {r:Bool} (h0:BU p0 p1=some r):Ae Tryz.prog 166 [(ls eI p0),(.agg [(i64 p1.op),(i64 p1.num),(i64 p1.Ax),(ls eI p1.args),(ls A2 p1.kids)])] [] (fun v st=>v=(.bool r)∧st=[]):=by
 unfold BU at h0
 refine ai Tryz.func166 U U U U (sr U fun K1 hK1=>BI (m:=0) (st':=[⟨0,71,5,[[(i64 p1.op),(i64 p1.num),(i64 p1.Ax),(ls eI p1.args),(ls A2 p1.kids)]]⟩]) Ah U U U U U (zq tb U (dn hK1 U (AE fun K2 hK2=>zr tb U U ?_))))
 refine ci h0 U ?_ ?_ <;> clear h0
 ·intro b4 h0
  refine zr tb U U ?_
  replace h0:=Sh.AA h0
  subst r
  exact AK (xr (Ai [(4,(.bool true))] U))
 ·intro b4 h0
  refine AI (hK2 _ (AE fun K6 hK6=>bs h0 fun o8 h1 h0=>?_))
  have M8 :∀(t7:Bool),o8=t7→∀s,Wk 0 s ⟨27,Ad [(4,(.bool t7))],[]⟩→K6 s:=by
   intro t7 hq s hw
   subst o8
   try dsimp only at h0
   refine hK6 _ (AS hw ?_)
   replace h0:=Sh.AA h0
   subst r
   exact AK (xr (AF (L:=[(4,(.bool t7))]) ⟨.rfl,trivial⟩))
  refine AJ U (zm tb 4 U ?_)
  rcases Sh.As h1 with ⟨b9,h1⟩ | ⟨b9,h1⟩
  ·refine zg tb b9 U (zg tb b9 U (zg tb b9 U (A7 (v:=(i64 (Sh.len p0))) (Bb U U b9) rfl (Bo Ga U) (bs h1 fun q10 gq10 h1=>zd b9 Gs (BX gq10) rfl U U U (zt b9 U (zq tb U ?_))))))
   rcases Sh.As h1 with ⟨b11,h1⟩ | ⟨b11,h1⟩
   ·refine zg tb b11 U ?_
    iterate 3 refine zg tb b11 rfl ?_
    exact bs h1 fun c12 gc12 h1=>A7 (v:=(.BF (eI c12) 0)) (Bb U U b11) rfl (CL BN U U gc12 U) (zg tb b11 U (zg tb b11 U (zt b11 U (zq tb U (AB (M8 (decide (0 < c12)) (Sh.AA h1).symm _ (Ai _ U)))))))
   ·refine zs b11 U ?_
    iterate 6 refine zs b11 rfl ?_
    exact zf b11 U (zq tb U (AB (M8 false (Sh.AA h1).symm _ (Ai _ U))))
  ·refine zs b9 U ?_
   iterate 4 refine zs b9 rfl ?_
   refine zf b9 U (zq tb U ?_)
   iterate 7 refine zs rfl rfl ?_
   exact zf U U (zq tb U (AB (M8 false (Sh.AA h1).symm _ (Ai _ U))))
theorem Em {N:Nat} {p0:(List Int)} {p1:(List Int)} {p2:(List Int)} {r:Bool} (h0:Bd N p0 p1 p2=some r):Ae Tryz.prog 167 [(ls eI p0),(ls eI p1),(ls eI p2)] [] (fun v st=>v=(.bool r)∧st=[]):=by
 unfold Bd at h0
 refine ai Tryz.func167 U U U U (zr tb U U (AE fun K2 hK2=>sr U fun K3 hK3=>zq tb U (zl tb U U (zq tb U (zl tb U U (zq tb U (dn hK3 U ?_)))))))
 refine ci h0 U ?_ ?_ <;> clear h0
 ·intro b4 h0
  have b5:decide ((Sh.len p1)=(Sh.len p2))=false:=by simpa using b4
  refine zr tb U U ?_
  replace h0:=Sh.AA h0
  subst r
  exact AK (xr (AF (L:=[(6,(.bool false))]) ⟨.rfl,trivial⟩))
 ·intro b4 h0
  have b7:decide ((Sh.len p1)=(Sh.len p2))=true:=by simpa using b4
  refine AI (hK2 _ (AE fun K8 hK8=>zr tb U U ?_))
  obtain⟨o11,h1,h0⟩:=Sh.A8 h0
  have M11 :∀(_:Unit),o11=Sum.inr ()→∀s,Wk 0 s ⟨42,Ad [],[]⟩→K8 s:=by
   intro _ hq s hw
   subst o11
   try dsimp only at h0
   refine hK8 _ (AS hw (zr tb U U ?_))
   replace h0:=Sh.AA h0
   subst r
   exact AK (xr (AF (L:=[(6,(.bool true))]) ⟨.rfl,trivial⟩))
  refine Aa (Au (σ:=Int) (fun n v=>Er p0 p1 p2 n v=some o11) (fun i10=>⟨42,Ad [(0,(ls eI p0)),(1,(ls eI p1)),(2,(ls eI p2)),(7,(i64 i10))],[]⟩) N 0 h1 (AN U) (fun _ hv=>by rw[Er] at hv;cases hv) ?_)
  rintro n i10 h1
  try dsimp only at h1 ⊢
  rw[Er] at h1
  refine AE fun K13 hK13=>sr U fun K14 hK14=>zm tb 2 U (zl tb U U (zq tb U (dn hK14 U ?_)))
  refine ci h1 U ?_ ?_ <;> clear h1
  ·intro b15 h1
   refine AI (hK13 _ (AE fun K16 hK16=>Aa (AE fun K17 hK17=>bs h1 fun o19 h2 h1=>?_)))
   have M19 :∀(t18:Bool),o19=t18→∀s,Wk 0 s ⟨42,Ad [(0,(ls eI p0)),(1,(ls eI p1)),(2,(ls eI p2)),(7,(i64 i10)),(41,(.bool t18))],[]⟩→K17 s:=by
    intro t18 hq s hw
    subst o19
    try dsimp only at h1
    refine hK17 _ (AS hw ?_)
    refine ci h1 U ?_ ?_ <;> clear h1
    ·intro b20 h1
     refine zr tb U U ?_
     replace h1:=Sh.AA h1
     subst o11
     try dsimp only[id] at h0
     replace h0:=Sh.AA h0
     subst r
     exact AK (xr (AF (L:=[(6,(.bool false))]) ⟨.rfl,trivial⟩))
    ·intro b20 h1
     exact AI (hK16 _ (AJ U (zm tb 3 U (AB (xi (Sh.w (i10+1)) h1 (AN U))))))
   refine Bz (by kernel_rfl) (by kernel_rfl) (by rfl) ?_
   iterate 2 refine yq tb rfl ?_
   refine bs h2 fun c22 gc22 h2=>yx BN gc22 U U U ?_
   iterate 2 refine yq tb rfl ?_
   refine yl tb U U (yq tb U (bs h2 fun q23 gq23 h2=>CR (v:=(.bool q23)) Ah Gs (BX gq23) rfl U U ?_))
   iterate 2 refine yq tb rfl ?_
   rcases Sh.As h2 with ⟨b24,h2⟩ | ⟨b24,h2⟩
   ·refine ys b24 U ?_
    iterate 11 refine ys b24 rfl ?_
    exact yt b24 U (BS (M19 true (Sh.AA h2).symm _ (AN U)))
   ·refine yg tb b24 U ?_
    iterate 2 refine yg tb b24 rfl ?_
    refine H3 (v:=(.BF (eI c22) 0)) (Bb U U b24) rfl (CL BN U U gc22 U) (yg tb b24 U (bs h2 fun c25 gc25 h2=>H3 (v:=(.BF (eI c25) 0)) (Bb U U b24) rfl (CL BN U U gc25 U) ?_))
    iterate 3 refine yg tb b24 rfl ?_
    refine bs h2 fun c26 gc26 h2=>H3 (v:=(.BF (eI c26) 0)) (Bb U U b24) rfl (CL BN U U gc26 U) ?_
    iterate 2 refine yg tb b24 rfl ?_
    exact yf b24 U (BS (M19 (!decide (c25=c26)) (Sh.AA h2).symm _ (AN U)))
  ·intro b15 h1
   exact Ay (M11 () (Sh.AA h1).symm _ (AN U))
theorem IJ {N:Nat} {p0:(List Ag)} {p1:Int} {r:Int} (h0:FQ N p0 p1=some r):Ae Tryz.prog 207 [(ls AG p0),(i64 p1)] [] (fun v st=>v=(i64 r)∧st=[]):=by
 unfold FQ at h0
 refine ai Tryz.func207 U U U U ?_
 iterate 2 refine zr tb rfl rfl ?_
 refine AE fun K3 hK3=>zr tb U U (bs h0 fun o8 h1 h0=>?_)
 have M8 :∀(n7:Int),o8=n7→∀s,Wk 0 s ⟨21,Ad [(5,(i64 n7))],[]⟩→K3 s:=by
  intro n7 hq s hw
  subst o8
  try dsimp only at h0
  refine hK3 _ (AS hw (zr tb U U ?_))
  replace h0:=Sh.AA h0
  subst r
  exact AK (xr (AF (L:=[(4,(i64 n7))]) ⟨.rfl,trivial⟩))
 refine Aa (Au (σ:=Int×Int) (fun n v=>DH p0 p1 n v.1 v.2=some o8) (fun (n5,i6)=>⟨21,Ad [(0,(ls AG p0)),(1,(i64 p1)),(5,(i64 n5)),(6,(i64 i6))],[]⟩) N (0,0) h1 (AN U) (fun _ hv=>by rw[DH] at hv;cases hv) ?_)
 rintro n ⟨n5,i6⟩ h1
 try dsimp only at h1 ⊢
 rw[DH] at h1
 refine AE fun K10 hK10=>zr tb U U ?_
 refine ci h1 U ?_ ?_ <;> clear h1
 ·intro b12 h1
  refine AI (hK10 _ (AE fun K13 hK13=>Aa (AJ U (zm tb 3 U (bs h1 fun c14 gc14 h1=>zx DA gc14 U U U (zm tb 2 U (zl tb U U (zm tb 2 U (dn hK13 U (AJ U ?_))))))))))
  exact zm tb 3 U (AB (xi (Sh.w (n5+(Sh.len c14.cons)),Sh.w (i6+1)) h1 (AN U)))
 ·intro b12 h1
  exact Ay (M8 n5 (Sh.AA h1).symm _ (AN U))
theorem I1 {N:Nat} {p0:(List Ag)} {p1:Int} {r:Int} (h0:CO N p0 p1=some r):Ae Tryz.prog 168 [(ls AG p0),(i64 p1)] [] (fun v st=>v=(i64 r)∧st=[]):=by
 unfold CO at h0
 refine ai Tryz.func168 U U U U (zr tb U U (AE fun K2 hK2=>zr tb U U ?_))
 obtain⟨o5,h1,h0⟩:=Sh.A8 h0
 have M5 :∀(_:Unit),o5=Sum.inr ()→∀s,Wk 0 s ⟨30,Ad [],[]⟩→K2 s:=by
  intro _ hq s hw
  subst o5
  try dsimp only at h0
  refine hK2 _ (AS hw (zr tb U U ?_))
  replace h0:=Sh.AA h0
  subst r
  exact AK (xr (AF (L:=[(4,(i64 (-1)))]) ⟨.rfl,trivial⟩))
 refine Aa (Au (σ:=Int) (fun n v=>Cd N p0 p1 n v=some o5) (fun i4=>⟨30,Ad [(0,(ls AG p0)),(1,(i64 p1)),(5,(i64 i4))],[]⟩) N 0 h1 (AN U) (fun _ hv=>by rw[Cd] at hv;cases hv) ?_)
 rintro n i4 h1
 try dsimp only at h1 ⊢
 rw[Cd] at h1
 refine AE fun K7 hK7=>sr U fun K8 hK8=>zm tb 2 U (zl tb U U (zq tb U (dn hK8 U ?_)))
 refine ci h1 U ?_ ?_ <;> clear h1
 ·intro b9 h1
  refine AI (hK7 _ (AE fun K10 hK10=>Aa (sr U fun K11 hK11=>zm tb 2 U (bs h1 fun q12 gq12 h1=>zc Vm (IJ gq12) rfl U U (zq tb U (dn hK11 U (sr U fun K13 hK13=>zm tb 5 U (bs h1 fun c14 gc14 h1=>?_))))))))
  refine zx DA gc14 U U U (zm tb 2 U (zl tb U U (zm tb 2 U (bs h1 fun q15 gq15 h1=>zc Gs (BX gq15) rfl U U (dn hK13 U ?_)))))
  refine ci h1 U ?_ ?_ <;> clear h1
  ·intro b16 h1
   refine zr tb U U ?_
   replace h1:=Sh.AA h1
   subst o5
   try dsimp only[id] at h0
   replace h0:=Sh.AA h0
   subst r
   exact AK (xr (AF (L:=[(4,(i64 (Sh.w (i4+1))))]) ⟨.rfl,trivial⟩))
  ·intro b16 h1
   exact AI (hK10 _ (AJ U (zm tb 3 U (AB (xi (Sh.w (i4+1)) h1 (AN U))))))
 ·intro b9 h1
  exact Ay (M5 () (Sh.AA h1).symm _ (AN U))
theorem Jy {N:Nat} {p0:(List Ag)} {p1:Int} {r:(List Int)} (h0:C0 N p0 p1=some r):Ae Tryz.prog 169 [(ls AG p0),(i64 p1)] [] (fun v st=>v=(ls eI r)∧st=[]):=by
 unfold C0 at h0
 refine ai Tryz.func169 U U U U (zr tb U U (sr U fun K2 hK2=>zm tb 2 U (bs h0 fun q3 gq3 h0=>zc Vc (I1 gq3) rfl U U (zq tb U (dn hK2 U (AE fun K4 hK4=>zr tb U U ?_))))))
 refine ci h0 U ?_ ?_ <;> clear h0
 ·intro b6 h0
  refine sr U fun K7 hK7=>?_
  refine DV (m:=0) (st':=[(ro 0 3 1 eI ([]:List Int))]) (l:=([]:List Int)) (enc:=eI) Ah BN (by decide) rfl U U U U U ?_
  refine zq tb U (dn hK7 U ?_)
  replace h0:=Sh.AA h0
  subst r
  exact AK (Exists.intro ⟨27,Ad [(4,(.sl (List.map eI [])))],[]⟩ (And.intro (by refine Wk.trans (Wk.E5 (L:=[(4,(.sl (List.map eI [])))]) (st':=[⟨1,3,1,[]⟩]) (id:=0) rfl (show 0≤0 by decide) (Ak fun _=>U) ⟨(.E5 U),trivial⟩ U) ?_;refine Wk.trans (AP (L:=[(4,(.sl (List.map eI [])))]) (st':=[]) (st1:=[]) [] U .nil (by decide) rfl U .nil ⟨.rfl,trivial⟩) ?_;exact AF (L:=[(4,(.sl (List.map eI [])))]) ⟨.rfl,trivial⟩) (And.intro U U)))
 ·intro b6 h0
  refine AI (hK4 _ (AE fun K8 hK8=>?_))
  refine Bz (by kernel_rfl) (by kernel_rfl) (by rfl) ?_
  iterate 3 refine yq tb rfl ?_
  refine bs h0 fun c9 gc9 h0=>yx DA gc9 U U U ?_
  iterate 6 refine yq tb rfl ?_
  refine bs h0 fun q10 gq10 h0=>CR (v:=(i64 q10)) Ah Vm (IJ gq10) rfl U U (yq tb U (bs h0 fun c11 gc11 h0=>yx IC gc11 U U U ?_))
  iterate 3 refine yq tb rfl ?_
  refine BS (hK8 _ ?_)
  replace h0:=Sh.AA h0
  subst r
  exact AK (xr (AF (L:=[(4,(ls eI c11.fields))]) ⟨.rfl,trivial⟩))
theorem Qo {N:Nat} {p0:(List Ag)} {p1:Int} {r:(List Int)} (h0:Ig N p0 p1=some r):Ae Tryz.prog 175 [(ls AG p0),(i64 p1)] [] (fun v st=>v=(ow 0 0 r)∧st=[(ro 0 3 1 eI r)]):=by
 unfold Ig at h0
 refine ai Tryz.func175 U U U U (zr tb U U (sr U fun K2 hK2=>?_))
 refine DV (m:=0) (st':=[(ro 0 3 1 eI ([]:List Int))]) (l:=([]:List Int)) (enc:=eI) Ah BN (by decide) rfl U U U U U ?_
 refine zq tb U (dn hK2 U (AE fun K3 hK3=>sr U fun K4 hK4=>zm tb 2 U (zl tb U U (bs h0 fun q5 gq5 h0=>zc Gs (BX gq5) rfl U U (zq tb U (dn hK4 U ?_))))))
 refine ci h0 U ?_ ?_ <;> clear h0
 ·intro b6 h0
  have b7:q5=false:=by simpa using b6
  refine zr tb U U ?_
  replace h0:=Sh.AA h0
  subst r
  exact AK (xr (AF (L:=[(4,(.own 0 0 (List.length ([]:List Int))))]) ⟨.rfl,trivial⟩))
 ·intro b6 h0
  have b9:q5=true:=by simpa using b6
  refine AI (hK3 _ (AE fun K10 hK10=>zr tb U U (bs h0 fun o15 h1 h0=>?_)))
  have M15 :∀(l14:(List Int)),o15=l14→∀s,Wk 0 s ⟨35,Ad [(5,(ow 0 0 l14))],[(ro 0 3 1 eI l14)]⟩→K10 s:=by
   intro l14 hq s hw
   subst o15
   try dsimp only at h0
   refine hK10 _ (AS hw (zr tb U U ?_))
   replace h0:=Sh.AA h0
   subst r
   exact AK (xr (AF (L:=[(4,(ow 0 0 l14))]) ⟨.rfl,trivial⟩))
  refine Aa (Au (σ:=Int×(List Int)) (fun n v=>D4 N p0 p1 n v.1 v.2=some o15) (fun (i12,l13)=>⟨35,Ad [(0,(ls AG p0)),(1,(i64 p1)),(5,(ow 0 0 l13)),(6,(i64 i12))],[(ro 0 3 1 eI l13)]⟩) N (0,[]) h1 (AN U) (fun _ hv=>by rw[D4] at hv;cases hv) ?_)
  rintro n ⟨i12,l13⟩ h1
  try dsimp only at h1 ⊢
  rw[D4] at h1
  refine AE fun K17 hK17=>sr U fun K18 hK18=>zm tb 4 U (bs h1 fun c19 gc19 h1=>zx DA gc19 U U U (zm tb 2 U (zl tb U U (zq tb U (dn hK18 U ?_)))))
  refine ci h1 U ?_ ?_ <;> clear h1
  ·intro b20 h1
   refine AI (hK17 _ (AE fun K21 hK21=>Aa (AJ U (zm tb 4 U (bs h1 fun q22 gq22 h1=>zc Vm (IJ gq22) rfl U U (zm tb 2 U ?_))))))
   refine DV (m:=1) (st':=[(ro 0 3 1 eI l13),(ro 0 3 1 eI [Sh.w (q22+i12)])]) (l:=[Sh.w (q22+i12)]) (enc:=eI) Ah BN (by decide) rfl U U U U U ?_
   refine bs h1 fun l23 gl23 h1=>Eg (st':=[(ro 1 3 1 eI l23),(ro 0 3 1 eI [Sh.w (q22+i12)])]) (l2:=[Sh.w (q22+i12)]) Ah BN U U U U (N0 U U) (fun _=>U) gl23 U (zq tb U (dn hK21 U (AJ U (zm tb 3 U ?_))))
   exact AB (xi (Sh.w (i12+1),l23) h1 (by refine Wk.trans (Cz (L:=[(0,(ls AG p0)),(1,(i64 p1)),(5,(ow 0 0 l23)),(6,(i64 (Sh.w (i12+1))))]) (st':=[(ro 0 3 1 eI l23),(ro 0 3 1 eI [Sh.w (q22+i12)])]) (.pure (Ak fun _=>U) (.pure (Ak fun _=>U) .nil)) ⟨.rfl,.rfl,.rfl,.rfl,trivial⟩) ?_;exact AP (L:=[(0,(ls AG p0)),(1,(i64 p1)),(5,(ow 0 0 l23)),(6,(i64 (Sh.w (i12+1))))]) (st':=[(ro 0 3 1 eI l23)]) (st1:=[(ro 0 3 1 eI l23)]) [0] U .nil (by decide) rfl U (.pure (Ak fun _=>U) .nil) ⟨.rfl,.rfl,.rfl,.rfl,trivial⟩))
  ·intro b20 h1
   exact Ay (M15 l13 (Sh.AA h1).symm _ (AN U))
theorem Qj {p0:(List Int)} {p1:(List Int)} {r:(List Int)} (h0:Im p0 p1=some r):Ae Tryz.prog 176 [(ls eI p0),(ls eI p1)] [] (fun v st=>v=(ow 0 0 r)∧st=[(ro 0 3 1 eI r)]):=by
 unfold Im at h0
 refine ai Tryz.func176 U U U U (zr tb U U (sr U fun K2 hK2=>zq tb U (bs h0 fun q3 gq3 h0=>BW (v':=(ow 0 0 q3)) (st':=[(ro 0 3 1 eI q3)]) Ah PZ (Ez gq3) rfl U ⟨(Bf fun _=>U),trivial⟩ U U (zq tb U (bs h0 fun l4 gl4 h0=>Eg (st':=[(ro 1 3 1 eI l4)]) (l2:=p1) Ah BN U U U U Me (fun _=>U) gl4 U (zq tb U (dn hK2 U ?_)))))))
 replace h0:=Sh.AA h0
 subst r
 exact AK (xr (Cz (L:=[(4,(ow 0 0 l4))]) (st':=[(ro 0 3 1 eI l4)]) (.pure (Ak fun _=>U) .nil) ⟨.rfl,trivial⟩))
noncomputable abbrev Lw (p2:Step):Go.Abs.Row:=⟨0,71,5,[[(i64 p2.op),(i64 p2.num),(i64 p2.Ax),(ls eI p2.args),(ls A2 p2.kids)]]⟩
theorem KU {N:Nat} {rec_spec_blockType:Aj→(List Int)→Block→Option (Int)} (hrec_spec_blockType :∀{p0:Aj} {p1:(List Int)} {p2:Block} {r:Int},rec_spec_blockType p0 p1 p2=some r→Ae Tryz.prog 100 [(.agg [(ls AG p0.decls),(ls AT p0.AD)]),(ls eI p1),(.agg [(ls Al p2.steps),(i64 p2.result)])] [] (fun v st=>v=(i64 r)∧st=[])) {p0:Aj} {p1:(List Int)} {p2:Step} {r:Int} (h0:Ev N rec_spec_blockType p0 p1 p2=some r):Ae Tryz.prog 170 [(.agg [(ls AG p0.decls),(ls AT p0.AD)]),(ls eI p1),(.agg [(i64 p2.op),(i64 p2.num),(i64 p2.Ax),(ls eI p2.args),(ls A2 p2.kids)])] [] (fun v st=>v=(i64 r)∧st=[]):=by
 unfold Ev at h0
 refine ai Tryz.func170 U U U U (sr U fun K1 hK1=>BI (m:=0) (st':=[(HL p0)]) Ah U U U U U (BI (m:=1) (st':=[(HL p0),(Lw p2)]) Ah U U U U U (zq tb U (dn hK1 U (sr U fun K2 hK2=>zm tb 4 U (bs h0 fun q3 gq3 h0=>BW (v':=(ow 2 0 q3)) (st':=[(HL p0),(Lw p2),(ro 0 3 1 eI q3)]) Ah bt (Qo gq3) rfl U ⟨(Bf fun _=>U),trivial⟩ U U (zq tb U (dn hK2 U ?_))))))))
 refine sr U fun K4 hK4=>zq tb U (zz (i64 (Sh.len q3)) (Ek Ga U U U) rfl (zq tb U (dn hK4 U (AE fun K5 hK5=>bs h0 fun o7 h1 h0=>?_))))
 have M7 :∀(many6:Int),o7=many6→∀s,Wk 0 s ⟨71,Ad [(1,(ls eI p1)),(3,(.ptr 0 0 0 0)),(5,(.ptr 1 0 0 0)),(7,(ow 2 0 q3)),(8,(i64 many6))],[(HL p0),(Lw p2),(ro 0 3 1 eI q3)]⟩→K5 s:=by
  intro many6 hq s hw
  subst o7
  try dsimp only at h0
  refine hK5 _ (AS hw (AE fun K8 hK8=>AE fun K9 hK9=>bs h0 fun o11 h1 h0=>?_))
  have M11 :∀(t10:Bool),o11=t10→∀s,Wk 0 s ⟨71,Ad [(1,(ls eI p1)),(3,(.ptr 0 0 0 0)),(5,(.ptr 1 0 0 0)),(7,(ow 2 0 q3)),(8,(i64 many6)),(31,(.bool t10))],[(HL p0),(Lw p2),(ro 0 3 1 eI q3)]⟩→K9 s:=by
   intro t10 hq s hw
   subst o11
   try dsimp only at h0
   refine hK9 _ (AS hw ?_)
   refine ci h0 U ?_ ?_ <;> clear h0
   ·intro b12 h0
    refine zr tb U U ?_
    replace h0:=Sh.AA h0
    subst r
    exact AK (xr (Ai [(6,(i64 (-1)))] U))
   ·intro b12 h0
    refine AI (hK8 _ (zr tb U U (AE fun K15 hK15=>zr tb U U ?_)))
    obtain⟨o20,h1,h0⟩:=Sh.A8 h0
    have M20 :∀(t19:Int),o20=Sum.inr t19→∀s,Wk 0 s ⟨71,Ad [(9,(i64 t19))],[]⟩→K15 s:=by
     intro t19 hq s hw
     subst o20
     try dsimp only at h0
     refine hK15 _ (AS hw (zr tb U U ?_))
     replace h0:=Sh.AA h0
     subst r
     exact AK (xr (AF (L:=[(6,(i64 t19))]) ⟨.rfl,trivial⟩))
    refine Aa (Au (σ:=Int×Int) (fun n v=>Dn N many6 p0 p1 p2 q3 rec_spec_blockType n v.1 v.2=some o20) (fun (t17,i18)=>⟨71,Ad [(1,(ls eI p1)),(3,(.ptr 0 0 0 0)),(5,(.ptr 1 0 0 0)),(7,(ow 2 0 q3)),(8,(i64 many6)),(9,(i64 t17)),(10,(i64 i18))],[(HL p0),(Lw p2),(ro 0 3 1 eI q3)]⟩) N (0,0) h1 (AN U) (fun _ hv=>by rw[Dn] at hv;cases hv) ?_)
    rintro n ⟨t17,i18⟩ h1
    try dsimp only at h1 ⊢
    rw[Dn] at h1
    refine AE fun K22 hK22=>zr tb U U ?_
    refine ci h1 U ?_ ?_ <;> clear h1
    ·intro b24 h1
     refine AI (hK22 _ (AE fun K25 hK25=>Aa (zr tb U U (AE fun K27 hK27=>bs h1 fun o29 h2 h1=>?_))))
     have M29 :∀(inner28:(List Int)),o29=inner28→∀s,Wk 0 s ⟨71,Ad [(1,(ls eI p1)),(3,(.ptr 0 0 0 0)),(5,(.ptr 1 0 0 0)),(7,(ow 2 0 q3)),(8,(i64 many6)),(9,(i64 t17)),(10,(i64 i18)),(11,(ls eI inner28))],[(HL p0),(Lw p2),(ro 0 3 1 eI q3)]⟩→K27 s:=by
      intro inner28 hq s hw
      subst o29
      try dsimp only at h1
      refine hK27 _ (AS hw (AE fun K30 hK30=>?_))
      refine Bz (by kernel_rfl) (by kernel_rfl) (by rfl) ?_
      iterate 5 refine yq tb rfl ?_
      refine bs h1 fun c31 gc31 h1=>yx Hi gc31 U U U (yq tb U (bs h1 fun q32 gq32 h1=>CR (v:=(i64 q32)) Ah Y3 (hrec_spec_blockType gq32) rfl U U (yq tb U (BS (hK30 _ (AE fun K33 hK33=>AE fun K34 hK34=>bs h1 fun o36 h2 h1=>?_))))))
      have M36 :∀(t35:Bool),o36=t35→∀s,Wk 0 s ⟨71,Ad [(1,(ls eI p1)),(3,(.ptr 0 0 0 0)),(5,(.ptr 1 0 0 0)),(7,(ow 2 0 q3)),(8,(i64 many6)),(10,(i64 i18)),(12,(i64 q32)),(68,(.bool t35))],[(HL p0),(Lw p2),(ro 0 3 1 eI q3)]⟩→K34 s:=by
       intro t35 hq s hw
       subst o36
       try dsimp only at h1
       refine hK34 _ (AS hw ?_)
       refine ci h1 U ?_ ?_ <;> clear h1
       ·intro b37 h1
        refine zr tb U U ?_
        replace h1:=Sh.AA h1
        subst o20
        try dsimp only[id] at h0
        replace h0:=Sh.AA h0
        subst r
        exact AK (xr (Ai [(6,(i64 (-1)))] U))
       ·intro b37 h1
        exact AI (hK33 _ (AJ U (zm tb 2 U (dn hK25 U (AJ U (zm tb 3 U (AB (xi (q32,Sh.w (i18+1)) h1 (AN U)))))))))
      refine AJ U (zm tb 3 U ?_)
      rcases Sh.As h2 with ⟨b39,h2⟩ | ⟨b39,h2⟩
      ·refine zs b39 U (zs b39 U (zs b39 U ?_))
       iterate 3 refine zn rfl ?_
       exact zs b39 U (zt b39 U (AB (M36 true (Sh.AA h2).symm _ (AN U))))
      ·refine zg tb b39 U (zg tb b39 U (zg tb b39 U ?_))
       rcases Sh.As h2 with ⟨b40,h2⟩ | ⟨b40,h2⟩
       ·exact zg tb b40 U (zg tb b40 U (zg tb b40 U (A7 (v:=(.bool (!decide (q32=t17)))) (Bb U U b39) rfl (EK U b40 U) (zf b39 U (AB (M36 (!decide (q32=t17)) (Sh.AA h2).symm _ (AN U)))))))
       ·exact zs b40 U (zs b40 U (zs b40 U (A7 (v:=(.bool false)) (Bb U U b39) rfl (EI U b40 U) (zf b39 U (AB (M36 false (Sh.AA h2).symm _ (AN U)))))))
     refine zr tb U U ?_
     refine ci h2 U ?_ ?_ <;> clear h2
     ·intro b42 h2
      refine CJ 9 (by kernel_rfl) (by kernel_rfl) (by rfl) ?_
      iterate 5 refine yq tb rfl ?_
      refine bs h2 fun c43 gc43 h2=>yz (.ptr 2 0 (Int.toNat i18) 0) (B8 BN U U U U gc43) rfl (yz (i64 c43) (Cf HN U U (ER gc43) rfl) rfl (bs h2 fun q44 gq44 h2=>CR (v:=(ls eI q44)) Ah ZG (Jy gq44) rfl U U (bs h2 fun q45 gq45 h2=>?_)))
      refine CR (v:=(ls eI q45)) Ah cA (Ae.wk (Qj gq45) (by refine Wk.trans (Wk.E5 (L:=[(0,(ls eI q45))]) (st':=[⟨1,3,1,[]⟩]) (id:=0) rfl (show 0≤0 by decide) (Ak fun _=>U) ⟨(.E5 U),trivial⟩ U) ?_;refine Wk.trans (AP (L:=[(0,(ls eI q45))]) (st':=[]) (st1:=[]) [] U .nil (by decide) rfl U .nil ⟨.rfl,trivial⟩) ?_;exact AF (L:=[(0,(ls eI q45))]) ⟨.rfl,trivial⟩)) rfl U U ?_
      exact BS (zq tb U (AB (M29 q45 (Sh.AA h2).symm _ (AN U))))
     ·intro b42 h2
      exact AI (M29 p1 (Sh.AA h2).symm _ (AN U))
    ·intro b24 h1
     exact Ay (M20 t17 (Sh.AA h1).symm _ (Ai _ U))
  refine AJ U (zm tb 3 U ?_)
  rcases Sh.As h1 with ⟨b46,h1⟩ | ⟨b46,h1⟩
  ·refine zs b46 U ?_
   iterate 4 refine zs b46 rfl ?_
   exact zt b46 U (AB (M11 true (Sh.AA h1).symm _ (AN U)))
  ·exact zg tb b46 U (zg tb b46 U (A7 (v:=(i64 (Sh.len p2.kids))) (Bb U U b46) rfl (Bo Rz U) (zg tb b46 U (zg tb b46 U (zf b46 U (AB (M11 (!decide ((Sh.len p2.kids)=many6)) (Sh.AA h1).symm _ (AN U))))))))
 refine zr tb U U ?_
 refine ci h1 U ?_ ?_ <;> clear h1
 ·intro b48 h1
  exact AJ U (zq tb U (AB (M7 2 (Sh.AA h1).symm _ (AN U))))
 ·intro b48 h1
  exact AI (M7 (Sh.len q3) (Sh.AA h1).symm _ (AN U))
theorem PQ {N:Nat} {p0:(List Ag)} {p1:Int} {p2:Int} {r:Int} (h0:Gp N p0 p1 p2=some r):Ae Tryz.prog 208 [(ls AG p0),(i64 p1),(i64 p2)] [] (fun v st=>v=(i64 r)∧st=[]):=by
 unfold Gp at h0
 refine ai Tryz.func208 U U U U (zr tb U U (AE fun K2 hK2=>zr tb U U ?_))
 obtain⟨o5,h1,h0⟩:=Sh.A8 h0
 have M5 :∀(_:Unit),o5=Sum.inr ()→∀s,Wk 0 s ⟨41,Ad [],[]⟩→K2 s:=by
  intro _ hq s hw
  subst o5
  try dsimp only at h0
  refine hK2 _ (AS hw (zr tb U U ?_))
  replace h0:=Sh.AA h0
  subst r
  exact AK (xr (AF (L:=[(6,(i64 (-1)))]) ⟨.rfl,trivial⟩))
 refine Aa (Au (σ:=Int) (fun n v=>Df p0 p1 p2 n v=some o5) (fun i4=>⟨41,Ad [(0,(ls AG p0)),(1,(i64 p1)),(2,(i64 p2)),(7,(i64 i4))],[]⟩) N 0 h1 (AN U) (fun _ hv=>by rw[Df] at hv;cases hv) ?_)
 rintro n i4 h1
 try dsimp only at h1 ⊢
 rw[Df] at h1
 refine AE fun K7 hK7=>sr U fun K8 hK8=>zm tb 2 U (zl tb U U (zq tb U (dn hK8 U ?_)))
 refine ci h1 U ?_ ?_ <;> clear h1
 ·intro b9 h1
  refine AI (hK7 _ (AE fun K10 hK10=>Aa (AE fun K11 hK11=>bs h1 fun o13 h2 h1=>?_)))
  have M13 :∀(t12:Bool),o13=t12→∀s,Wk 0 s ⟨41,Ad [(0,(ls AG p0)),(1,(i64 p1)),(2,(i64 p2)),(7,(i64 i4)),(38,(.bool t12))],[]⟩→K11 s:=by
   intro t12 hq s hw
   subst o13
   try dsimp only at h1
   refine hK11 _ (AS hw ?_)
   refine ci h1 U ?_ ?_ <;> clear h1
   ·intro b14 h1
    refine zr tb U U ?_
    replace h1:=Sh.AA h1
    subst o5
    try dsimp only[id] at h0
    replace h0:=Sh.AA h0
    subst r
    exact AK (xr (AF (L:=[(6,(i64 (Sh.w (i4+1))))]) ⟨.rfl,trivial⟩))
   ·intro b14 h1
    exact AI (hK10 _ (AJ U (zm tb 3 U (AB (xi (Sh.w (i4+1)) h1 (AN U))))))
  refine AJ U (zm tb 2 U (bs h2 fun c16 gc16 h2=>zx DA gc16 U U U (zm tb 2 U (zl tb U U (zm tb 2 U ?_)))))
  rcases Sh.As h2 with ⟨b17,h2⟩ | ⟨b17,h2⟩
  ·refine zg tb b17 U (zg tb b17 U (A7 (v:=(.BF (AG c16) 0)) (Bb U U b17) rfl (CL DA U U gc16 U) ?_))
   iterate 4 refine zg tb b17 rfl ?_
   refine zt b17 U (zq tb U ?_)
   rcases Sh.As h2 with ⟨b18,h2⟩ | ⟨b18,h2⟩
   ·refine zg tb b18 U (zg tb b18 U (A7 (v:=(.BF (AG c16) 0)) (Bb U U b18) rfl (CL DA U U gc16 U) ?_))
    iterate 4 refine zg tb b18 rfl ?_
    exact zt b18 U (AB (M13 (decide (c16.to=p2)) (Sh.AA h2).symm _ (AN U)))
   ·refine zs b18 U ?_
    iterate 6 refine zs b18 rfl ?_
    exact zf b18 U (AB (M13 false (Sh.AA h2).symm _ (AN U)))
  ·refine zs b17 U ?_
   iterate 6 refine zs b17 rfl ?_
   refine zf b17 U (zq tb U ?_)
   iterate 7 refine zs rfl rfl ?_
   exact zf U U (AB (M13 false (Sh.AA h2).symm _ (AN U)))
 ·intro b9 h1
  exact Ay (M5 () (Sh.AA h1).symm _ (AN U))
theorem MT {N:Nat} {p0:Aj} {p1:(List Int)} {p2:Step} {r:Int} (h0:Dm N p0 p1 p2=some r):Ae Tryz.prog 171 [(.agg [(ls AG p0.decls),(ls AT p0.AD)]),(ls eI p1),(.agg [(i64 p2.op),(i64 p2.num),(i64 p2.Ax),(ls eI p2.args),(ls A2 p2.kids)])] [] (fun v st=>v=(i64 r)∧st=[]):=by
 unfold Dm at h0
 refine ai Tryz.func171 U U U U (sr U fun K1 hK1=>BI (m:=0) (st':=[(HL p0)]) Ah U U U U U (BI (m:=1) (st':=[(HL p0),(Lw p2)]) Ah U U U U U (zq tb U (dn hK1 U (AE fun K2 hK2=>sr U fun K3 hK3=>zm tb 4 U (zl tb U U (zq tb U (bs h0 fun q4 gq4 h0=>?_))))))))
 refine zc Gs (BX gq4) rfl U U (zq tb U (dn hK3 U ?_))
 refine ci h0 U ?_ ?_ <;> clear h0
 ·intro b5 h0
  have b6:q4=false:=by simpa using b5
  refine zr tb U U ?_
  replace h0:=Sh.AA h0
  subst r
  exact AK (xr (Ai [(6,(i64 (-1)))] U))
 ·intro b5 h0
  have b8:q4=true:=by simpa using b5
  refine AI (hK2 _ (sr U fun K9 hK9=>zm tb 4 U (bs h0 fun c10 gc10 h0=>zx E7 gc10 U U U (zq tb U (Ap (m:=2) (st':=[(HL p0),(Lw p2),Q3]) Ah Lt U U (A3 (st':=[(HL p0),(Lw p2),⟨0,57,5,[[(ls eI c10.params),(ls eI c10.At),(i64 c10.result),(ls Al c10.body.steps),(i64 c10.body.result)]]⟩]) Ah NJ U U U U U U (show 0+5≤5 by decide) rfl (dn hK9 U (sr U fun K11 hK11=>zm tb 2 U (zl tb U U ?_)))))))))
  refine zq tb U (dn hK11 U (AE fun K12 hK12=>zr tb U U ?_))
  refine ci h0 U ?_ ?_ <;> clear h0
  ·intro b14 h0
   refine AE fun K15 hK15=>sr U fun K16 hK16=>zm tb 5 U (bs h0 fun q17 gq17 h0=>zc ND (Em gq17) rfl U U (zq tb U (dn hK16 U ?_)))
   refine ci h0 U ?_ ?_ <;> clear h0
   ·intro b18 h0
    have b19:q17=false:=by simpa using b18
    refine zr tb U U ?_
    replace h0:=Sh.AA h0
    subst r
    exact AK (xr (Ai [(6,(i64 (-1)))] U))
   ·intro b18 h0
    have b21:q17=true:=by simpa using b18
    refine AI (hK15 _ (zr tb U U ?_))
    replace h0:=Sh.AA h0
    subst r
    exact AK (xr (Ai [(6,(i64 c10.result))] U))
  ·intro b14 h0
   refine AI (hK12 _ (AE fun K23 hK23=>AE fun K24 hK24=>bs h0 fun o26 h1 h0=>?_))
   have M26 :∀(t25:Bool),o26=t25→∀s,Wk 0 s ⟨69,Ad [(3,(.ptr 0 0 0 0)),(7,(.ptr 1 0 0 0)),(8,(i64 (Sh.len c10.params))),(57,(.bool t25))],[(HL p0),⟨0,57,5,[[(ls eI c10.params),(ls eI c10.At),(i64 c10.result),(ls Al c10.body.steps),(i64 c10.body.result)]]⟩]⟩→K24 s:=by
    intro t25 hq s hw
    subst o26
    try dsimp only at h0
    refine hK24 _ (AS hw ?_)
    refine ci h0 U ?_ ?_ <;> clear h0
    ·intro b27 h0
     refine zr tb U U ?_
     replace h0:=Sh.AA h0
     subst r
     exact AK (xr (Ai [(6,(i64 (-1)))] U))
    ·intro b27 h0
     refine AI (hK23 _ (AE fun K29 hK29=>?_))
     refine Bz (by kernel_rfl) (by kernel_rfl) (by rfl) ?_
     iterate 6 refine yq tb rfl ?_
     refine bs h0 fun c30 gc30 h0=>yx BN gc30 U U U ?_
     iterate 3 refine yq tb rfl ?_
     refine bs h0 fun q31 gq31 h0=>CR (v:=(i64 q31)) Ah ab (PQ gq31) rfl U U (yq tb U (BS (hK29 _ ?_)))
     replace h0:=Sh.AA h0
     subst r
     exact AK (xr (Ai [(6,(i64 q31))] U))
   refine CJ 19 (by kernel_rfl) (by kernel_rfl) (by rfl) ?_
   iterate 3 refine yq tb rfl ?_
   rcases Sh.As h1 with ⟨b32,h1⟩ | ⟨b32,h1⟩
   ·refine ys b32 U ?_
    iterate 3 refine ys b32 rfl ?_
    refine yt b32 U (yq tb U ?_)
    iterate 10 refine ys rfl rfl ?_
    refine BS (zt U U ?_)
    exact AB (M26 true (Sh.AA h1).symm _ (AP (L:=[(3,(.ptr 0 0 0 0)),(7,(.ptr 1 0 0 0)),(8,(i64 (Sh.len c10.params))),(57,(.bool true))]) (st':=[(HL p0),⟨0,57,5,[[(ls eI c10.params),(ls eI c10.At),(i64 c10.result),(ls Al c10.body.steps),(i64 c10.body.result)]]⟩]) (st1:=[(HL p0),⟨0,57,5,[[(ls eI c10.params),(ls eI c10.At),(i64 c10.result),(ls Al c10.body.steps),(i64 c10.body.result)]]⟩]) [0,2] U .nil (by decide) rfl U (.raw U U (.raw U U .nil)) ⟨.rfl,.rfl,.rfl,.rfl,trivial⟩))
   ·refine yg tb b32 U (yg tb b32 U (H3 (v:=(i64 (Sh.len c10.At))) (Bb U U b32) rfl (Bo Ga U) (yg tb b32 U (yf b32 U (yq tb U ?_)))))
    rcases Sh.As h1 with ⟨b33,h1⟩ | ⟨b33,h1⟩
    ·refine ys b33 U ?_
     iterate 9 refine ys b33 rfl ?_
     refine BS (zt b33 U ?_)
     exact AB (M26 true (Sh.AA h1).symm _ (AP (L:=[(3,(.ptr 0 0 0 0)),(7,(.ptr 1 0 0 0)),(8,(i64 (Sh.len c10.params))),(57,(.bool true))]) (st':=[(HL p0),⟨0,57,5,[[(ls eI c10.params),(ls eI c10.At),(i64 c10.result),(ls Al c10.body.steps),(i64 c10.body.result)]]⟩]) (st1:=[(HL p0),⟨0,57,5,[[(ls eI c10.params),(ls eI c10.At),(i64 c10.result),(ls Al c10.body.steps),(i64 c10.body.result)]]⟩]) [0,2] U .nil (by decide) rfl U (.raw U U (.raw U U .nil)) ⟨.rfl,.rfl,.rfl,.rfl,trivial⟩))
    ·refine yg tb b33 U ?_
     iterate 6 refine yg tb b33 rfl ?_
     refine bs h1 fun l34 gl34 h1=>Yg (i:=0) (j:=Sh.w ((Sh.len c10.params) - 1)) (Bb U U b33) BN U U U (fun _=>U) gl34 (bs h1 fun q35 gq35 h1=>CR (v:=(.bool q35)) (Bb U U b33) ND (Em gq35) rfl U U (yg tb b33 U (BS (zf b33 U ?_))))
     exact AB (M26 (!q35) (Sh.AA h1).symm _ (AP (L:=[(3,(.ptr 0 0 0 0)),(7,(.ptr 1 0 0 0)),(8,(i64 (Sh.len c10.params))),(57,(.bool (!q35)))]) (st':=[(HL p0),⟨0,57,5,[[(ls eI c10.params),(ls eI c10.At),(i64 c10.result),(ls Al c10.body.steps),(i64 c10.body.result)]]⟩]) (st1:=[(HL p0),⟨0,57,5,[[(ls eI c10.params),(ls eI c10.At),(i64 c10.result),(ls Al c10.body.steps),(i64 c10.body.result)]]⟩]) [0,2] U .nil (by decide) rfl U (.raw U U (.raw U U .nil)) ⟨.rfl,.rfl,.rfl,.rfl,trivial⟩))
theorem LF {p0:(List Ag)} {p1:Int} {r:Bool} (h0:Fo p0 p1=some r):Ae Tryz.prog 172 [(ls AG p0),(i64 p1)] [] (fun v st=>v=(.bool r)∧st=[]):=by
 unfold Fo at h0
 refine ai Tryz.func172 U U U U (zr tb U U (AE fun K2 hK2=>bs h0 fun o4 h1 h0=>?_))
 have M4 :∀(t3:Bool),o4=t3→∀s,Wk 0 s ⟨19,Ad [(4,(.bool t3))],[]⟩→K2 s:=by
  intro t3 hq s hw
  subst o4
  try dsimp only at h0
  refine hK2 _ (AS hw ?_)
  replace h0:=Sh.AA h0
  subst r
  exact AK (xr (AF (L:=[(4,(.bool t3))]) ⟨.rfl,trivial⟩))
 refine AJ U (zm tb 2 U (zl tb U U (bs h1 fun q5 gq5 h1=>zc Gs (BX gq5) rfl U U (zq tb U ?_))))
 rcases Sh.As h1 with ⟨b6,h1⟩ | ⟨b6,h1⟩
 ·exact zg tb b6 U (zg tb b6 U (zg tb b6 U (bs h1 fun c7 gc7 h1=>A7 (v:=(.BF (AG c7) 0)) (Bb U U b6) rfl (CL DA U U gc7 U) (zg tb b6 U (zg tb b6 U (A7 (v:=(i64 (Sh.len c7.cons))) (Bb U U b6) rfl (Bo Nn U) (zg tb b6 U (zt b6 U (zq tb U (AB (M4 (decide ((Sh.len c7.cons)=0)) (Sh.AA h1).symm _ (AN U))))))))))))
 ·refine zs b6 U ?_
  iterate 7 refine zs b6 rfl ?_
  exact zf b6 U (zq tb U (AB (M4 false (Sh.AA h1).symm _ (AN U))))
theorem MG {p0:Aj} {p1:(List Int)} {p2:Step} {r:Int} (h0:Ec p0 p1 p2=some r):Ae Tryz.prog 173 [(.agg [(ls AG p0.decls),(ls AT p0.AD)]),(ls eI p1),(.agg [(i64 p2.op),(i64 p2.num),(i64 p2.Ax),(ls eI p2.args),(ls A2 p2.kids)])] [] (fun v st=>v=(i64 r)∧st=[]):=by
 unfold Ec at h0
 refine ai Tryz.func173 U U U U (sr U fun K1 hK1=>BI (m:=0) (st':=[(HL p0)]) Ah U U U U U (BI (m:=1) (st':=[(HL p0),(Lw p2)]) Ah U U U U U (zq tb U (dn hK1 U (AE fun K2 hK2=>AE fun K3 hK3=>bs h0 fun o5 h1 h0=>?_)))))
 have M5 :∀(t4:Bool),o5=t4→∀s,Wk 0 s ⟨52,Ad [(1,(ls eI p1)),(3,(.ptr 0 0 0 0)),(5,(.ptr 1 0 0 0)),(31,(.bool t4))],[(HL p0),(Lw p2)]⟩→K3 s:=by
  intro t4 hq s hw
  subst o5
  try dsimp only at h0
  refine hK3 _ (AS hw ?_)
  refine ci h0 U ?_ ?_ <;> clear h0
  ·intro b6 h0
   refine zr tb U U ?_
   replace h0:=Sh.AA h0
   subst r
   exact AK (xr (Ai [(6,(i64 (-1)))] U))
  ·intro b6 h0
   refine AI (hK2 _ (AE fun K8 hK8=>AE fun K9 hK9=>bs h0 fun o11 h1 h0=>?_))
   have M11 :∀(t10:Bool),o11=t10→∀s,Wk 0 s ⟨52,Ad [(51,(.bool t10))],[]⟩→K9 s:=by
    intro t10 hq s hw
    subst o11
    try dsimp only at h0
    refine hK9 _ (AS hw ?_)
    refine ci h0 U ?_ ?_ <;> clear h0
    ·intro b12 h0
     refine zr tb U U ?_
     replace h0:=Sh.AA h0
     subst r
     exact AK (xr (AF (L:=[(6,(i64 (-1)))]) ⟨.rfl,trivial⟩))
    ·intro b12 h0
     refine AI (hK8 _ (zr tb U U ?_))
     replace h0:=Sh.AA h0
     subst r
     exact AK (xr (AF (L:=[(6,(i64 0))]) ⟨.rfl,trivial⟩))
   refine Bz (by kernel_rfl) (by kernel_rfl) (by rfl) ?_
   iterate 4 refine yq tb rfl ?_
   rcases Sh.As h1 with ⟨b15,h1⟩ | ⟨b15,h1⟩
   ·refine yg tb b15 U ?_
    iterate 2 refine yg tb b15 rfl ?_
    refine yt b15 U (yq tb U ?_)
    rcases Sh.As h1 with ⟨b16,h1⟩ | ⟨b16,h1⟩
    ·refine yg tb b16 U ?_
     iterate 4 refine yg tb b16 rfl ?_
     exact bs h1 fun c17 gc17 h1=>H3 (v:=(.BF (eI c17) 0)) (Bb U U b16) rfl (CL BN U U gc17 U) (yg tb b16 U (bs h1 fun c18 gc18 h1=>H3 (v:=(.BF (eI c18) 0)) (Bb U U b16) rfl (CL BN U U gc18 U) (yg tb b16 U (bs h1 fun q19 gq19 h1=>CR (v:=(.bool q19)) (Bb U U b16) X4 (LF gq19) rfl U U (yt b16 U (BS (M11 q19 (Sh.AA h1).symm _ (Ai _ U))))))))
    ·refine ys b16 U ?_
     iterate 9 refine ys b16 rfl ?_
     exact yf b16 U (BS (M11 false (Sh.AA h1).symm _ (Ai _ U)))
   ·refine ys b15 U ?_
    iterate 2 refine ys b15 rfl ?_
    refine yf b15 U (yq tb U ?_)
    iterate 10 refine ys rfl rfl ?_
    exact yf U U (BS (M11 false (Sh.AA h1).symm _ (Ai _ U)))
 refine AJ U (zm tb 2 U (zl tb U U (zm tb 2 U ?_)))
 rcases Sh.As h1 with ⟨b20,h1⟩ | ⟨b20,h1⟩
 ·refine zs b20 U ?_
  iterate 8 refine zs b20 rfl ?_
  refine zt b20 U (zq tb U ?_)
  iterate 8 refine zs rfl rfl ?_
  exact zt U U (AB (M5 true (Sh.AA h1).symm _ (AN U)))
 ·refine zg tb b20 U (zg tb b20 U (bs h1 fun c21 gc21 h1=>A7 (v:=(.BF (eI c21) 0)) (Bb U U b20) rfl (CL BN U U gc21 U) (zg tb b20 U (zg tb b20 U (A7 (v:=(i64 (Sh.len p1))) (Bb U U b20) rfl (Bo Ga U) (zg tb b20 U (bs h1 fun q22 gq22 h1=>zd b20 Gs (BX gq22) rfl U U U (zg tb b20 U (zf b20 U ?_)))))))))
  refine zq tb U ?_
  rcases Sh.As h1 with ⟨b23,h1⟩ | ⟨b23,h1⟩
  ·refine zs b23 U ?_
   iterate 7 refine zs b23 rfl ?_
   exact zt b23 U (AB (M5 true (Sh.AA h1).symm _ (AN U)))
  ·exact zg tb b23 U (zg tb b23 U (zg tb b23 U (A7 (v:=(.BF (eI c21) 0)) (Bb U U b23) rfl (CL BN U U gc21 U) (zg tb b23 U (bs h1 fun c24 gc24 h1=>A7 (v:=(.BF (eI c24) 0)) (Bb U U b23) rfl (CL BN U U gc24 U) (zg tb b23 U (zg tb b23 U (zf b23 U (AB (M5 (decide (c24=0)) (Sh.AA h1).symm _ (AN U)))))))))))
end Go.Proofs.YtcegihniiokijaaGreat

