import Derived.Test.YtobjlimoekffaaaGreatProg
import Derived.Test.YtobjlimoekffaaaGreatGEncCToGCDefs
import Derived.Test.YtobjlimoekffaaaGreatAbsQ
namespace Go.Proofs.YtobjlimoekffaaaGreat
open Go Go.Abs RC
attribute [local irreducible] Go.Abs.DB
set_option maxRecDepth 100000
set_option maxHeartbeats 4000000

def tb:Je Tryz.prog where
 t:=[(102,false,1),(104,true,3),(119,false,1),(121,true,2),(127,false,1),(132,true,6),(136,false,1),(138,true,2),(155,true,1),(157,true,1),(159,true,6),(165,true,5),(172,true,3),(22,false,1),(23,false,1),(25,true,2),(26,false,1),(27,false,1),(28,false,1),(3,false,1),(30,true,7),(34,false,1),(35,false,1),(37,true,2),(39,false,1),(4,false,1),(40,false,1),(42,true,7),(71,true,3),(74,false,1),(76,true,3),(78,false,1),(80,true,5),(82,true,3),(85,true,6),(92,false,1),(94,true,6),(97,false,1),(99,true,5)]
 f:=[(104,0,0),(104,1,1),(104,2,2),(121,0,0),(121,1,1),(132,0,0),(132,1,1),(132,2,2),(132,3,3),(132,4,4),(132,5,5),(138,0,0),(138,1,1),(155,0,0),(157,0,0),(159,0,0),(159,1,1),(159,2,2),(159,3,3),(159,4,4),(159,5,5),(165,0,0),(165,1,1),(172,0,0),(172,1,1),(172,2,2),(25,0,0),(25,1,1),(30,0,0),(30,1,1),(30,2,2),(30,3,3),(30,4,4),(30,5,5),(30,6,6),(37,0,0),(37,1,1),(42,0,0),(42,1,1),(42,2,2),(42,3,3),(42,4,4),(42,5,5),(42,6,6),(71,0,0),(71,1,1),(71,2,2),(76,0,0),(76,1,1),(76,2,2),(80,0,0),(80,1,1),(80,2,2),(80,3,3),(80,4,4),(82,0,0),(82,1,1),(82,2,2),(85,0,0),(85,1,1),(85,2,2),(85,3,3),(85,4,4),(85,5,5),(94,0,0),(94,1,1),(94,2,2),(94,3,3),(94,4,4),(94,5,5),(99,0,0),(99,1,1),(99,2,2),(99,3,3),(99,4,4)]
 v:=[]
 b:=[4]
 s:=[102,119,136,22,23,26,27,28,34,35,39,40,74,78,92,97]
 ht:=by kernel_rfl
 hf:=by kernel_rfl
 hv:=by kernel_rfl
 hb:=by kernel_rfl
 hs:=by kernel_rfl

theorem cZ:JS Tryz.prog 121=true:=by kernel_rfl
theorem bL:JS Tryz.prog 165=true:=by kernel_rfl
theorem cm:KD Tryz.prog 121=some [(0,1),(1,1)]:=by kernel_rfl
theorem cH:KD Tryz.prog 165=some [(0,1),(1,1),(2,3)]:=by kernel_rfl
theorem Ke:Cn Tryz.prog 102=some ⟨155,1,24,[.sl []]⟩:=by kernel_rfl
theorem QD:Cn Tryz.prog 119=some ⟨165,5,72,[.sl [],.int .i64 0,.int .i64 0,.int .i64 0,.sl []]⟩:=by kernel_rfl
theorem aZ:Cn Tryz.prog 22=some ⟨76,3,40,[.int .i64 0,.int .i64 0,.sl []]⟩:=by kernel_rfl
theorem aj:Cn Tryz.prog 23=some ⟨80,5,88,[.sl [],.sl [],.int .i64 0,.int .i64 0,.sl []]⟩:=by kernel_rfl
theorem A2:Cn Tryz.prog 26=some ⟨3,1,8,[.int .i64 0]⟩:=by kernel_rfl
theorem aa:Cn Tryz.prog 27=some ⟨82,3,40,[.int .i64 0,.int .i64 0,.sl []]⟩:=by kernel_rfl
theorem aX:Cn Tryz.prog 28=some ⟨85,6,96,[.int .i64 0,.int .i64 0,.int .i64 0,.sl [],.sl [],.sl []]⟩:=by kernel_rfl
theorem HX:Cn Tryz.prog 34=some ⟨104,3,40,[.int .i64 0,.int .i64 0,.sl []]⟩:=by kernel_rfl
theorem IC:Cn Tryz.prog 35=some ⟨99,5,88,[.sl [],.sl [],.int .i64 0,.int .i64 0,.sl []]⟩:=by kernel_rfl
theorem FI:Cn Tryz.prog 39=some ⟨71,3,40,[.int .i64 0,.int .i64 0,.sl []]⟩:=by kernel_rfl
theorem Gf:Cn Tryz.prog 40=some ⟨94,6,96,[.int .i64 0,.int .i64 0,.int .i64 0,.sl [],.sl [],.sl []]⟩:=by kernel_rfl
theorem ao:Cn Tryz.prog 74=some ⟨157,1,24,[.sl []]⟩:=by kernel_rfl
theorem an:Cn Tryz.prog 78=some ⟨159,6,80,[.int .i64 0,.int .i64 0,.int .i64 0,.int .i64 0,.sl [],.sl []]⟩:=by kernel_rfl
theorem IB:Cn Tryz.prog 97=some ⟨132,6,80,[.int .i64 0,.int .i64 0,.int .i64 0,.int .i64 0,.sl [],.sl []]⟩:=by kernel_rfl
theorem bu:AZ Tryz.prog 109=true:=by kernel_rfl
theorem bm:AZ Tryz.prog 110=true:=by kernel_rfl
theorem bG:AZ Tryz.prog 111=true:=by kernel_rfl
theorem Y4:AZ Tryz.prog 112=true:=by kernel_rfl
theorem bD:AZ Tryz.prog 113=true:=by kernel_rfl
theorem cN:AZ Tryz.prog 114=true:=by kernel_rfl
theorem bX:AZ Tryz.prog 115=true:=by kernel_rfl
theorem bK:AZ Tryz.prog 116=true:=by kernel_rfl
theorem bk:AZ Tryz.prog 119=true:=by kernel_rfl
theorem bp:AZ Tryz.prog 120=true:=by kernel_rfl
theorem cC:AZ Tryz.prog 121=true:=by kernel_rfl
theorem bB:AZ Tryz.prog 131=true:=by kernel_rfl
theorem Yo:AZ Tryz.prog 132=true:=by kernel_rfl
theorem bC:AZ Tryz.prog 133=true:=by kernel_rfl
theorem ZR:AZ Tryz.prog 134=true:=by kernel_rfl
theorem cL:AZ Tryz.prog 135=true:=by kernel_rfl
theorem bt:AZ Tryz.prog 136=true:=by kernel_rfl
theorem WY:AZ Tryz.prog 144=true:=by kernel_rfl
theorem eX:AZ Tryz.prog 20=true:=by kernel_rfl
theorem eH:AZ Tryz.prog 21=true:=by kernel_rfl
theorem Na:AZ Tryz.prog 22=true:=by kernel_rfl
theorem dU:AZ Tryz.prog 23=true:=by kernel_rfl
theorem dO:AZ Tryz.prog 24=true:=by kernel_rfl
theorem cw:AZ Tryz.prog 28=true:=by kernel_rfl
theorem dQ:AZ Tryz.prog 29=true:=by kernel_rfl
theorem NT:AZ Tryz.prog 30=true:=by kernel_rfl
theorem fI:AZ Tryz.prog 31=true:=by kernel_rfl
theorem dJ:AZ Tryz.prog 32=true:=by kernel_rfl
theorem ep:AZ Tryz.prog 45=true:=by kernel_rfl
theorem eD:AZ Tryz.prog 46=true:=by kernel_rfl
theorem dN:AZ Tryz.prog 47=true:=by kernel_rfl
theorem fK:AZ Tryz.prog 48=true:=by kernel_rfl
theorem Ee:AZ Tryz.prog 50=true:=by kernel_rfl
theorem VG:AZ Tryz.prog 57=true:=by kernel_rfl
theorem ey:AZ Tryz.prog 61=true:=by kernel_rfl
theorem ee:AZ Tryz.prog 62=true:=by kernel_rfl
theorem de:AZ Tryz.prog 63=true:=by kernel_rfl
theorem eZ:AZ Tryz.prog 64=true:=by kernel_rfl
theorem dw:AZ Tryz.prog 76=true:=by kernel_rfl
theorem dB:AZ Tryz.prog 77=true:=by kernel_rfl
theorem dc:AZ Tryz.prog 78=true:=by kernel_rfl
theorem eR:AZ Tryz.prog 79=true:=by kernel_rfl
theorem du:AZ Tryz.prog 80=true:=by kernel_rfl
theorem XQ:AZ Tryz.prog 85=true:=by kernel_rfl
theorem ak:AZ Tryz.prog 89=true:=by kernel_rfl
theorem dY:AZ Tryz.prog 91=true:=by kernel_rfl
theorem df:AZ Tryz.prog 92=true:=by kernel_rfl
theorem bN:Df Tryz.prog 119=true:=by kernel_rfl
theorem EE:Df Tryz.prog 26=true:=by kernel_rfl
theorem Uu:Df Tryz.prog 34=true:=by kernel_rfl
theorem QV:Df Tryz.prog 97=true:=by kernel_rfl
theorem ZK:CY Tryz.prog 102=some (false,1):=by kernel_rfl
theorem MS:CY Tryz.prog 104=some (true,3):=by kernel_rfl
theorem bF:CY Tryz.prog 119=some (false,1):=by kernel_rfl
theorem Vx:CY Tryz.prog 121=some (true,2):=by kernel_rfl
theorem N3:CY Tryz.prog 132=some (true,6):=by kernel_rfl
theorem Lf:CY Tryz.prog 155=some (true,1):=by kernel_rfl
theorem cS:CY Tryz.prog 165=some (true,5):=by kernel_rfl
theorem Hn:CY Tryz.prog 26=some (false,1):=by kernel_rfl
theorem EF:CY Tryz.prog 3=some (false,1):=by kernel_rfl
theorem da:CY Tryz.prog 34=some (false,1):=by kernel_rfl
theorem dM:CY Tryz.prog 35=some (false,1):=by kernel_rfl
theorem YW:CY Tryz.prog 37=some (true,2):=by kernel_rfl
theorem et:CY Tryz.prog 39=some (false,1):=by kernel_rfl
theorem eM:CY Tryz.prog 40=some (false,1):=by kernel_rfl
theorem Ys:CY Tryz.prog 42=some (true,7):=by kernel_rfl
theorem QY:CY Tryz.prog 71=some (true,3):=by kernel_rfl
theorem QO:CY Tryz.prog 94=some (true,6):=by kernel_rfl
theorem au:CY Tryz.prog 97=some (false,1):=by kernel_rfl
theorem QQ:CY Tryz.prog 99=some (true,5):=by kernel_rfl
theorem Nu:GR Tryz.prog 104=some [.int .i64 0,.int .i64 0,.zc]:=by kernel_rfl
theorem Vs:GR Tryz.prog 121=some [.zc,.zc]:=by kernel_rfl
theorem PX:GR Tryz.prog 132=some [.int .i64 0,.int .i64 0,.int .i64 0,.int .i64 0,.zc,.zc]:=by kernel_rfl
theorem P5:GR Tryz.prog 155=some [.zc]:=by kernel_rfl
theorem YT:GR Tryz.prog 165=some [.zc,.int .i64 0,.int .i64 0,.int .i64 0,.zc]:=by kernel_rfl
theorem ZQ:GR Tryz.prog 37=some [.zc,.zc]:=by kernel_rfl
theorem ZJ:GR Tryz.prog 42=some [.int .i64 0,.int .i64 0,.int .i64 0,.int .i64 0,.zc,.zc,.zc]:=by kernel_rfl
theorem SW:GR Tryz.prog 71=some [.int .i64 0,.int .i64 0,.zc]:=by kernel_rfl
theorem SL:GR Tryz.prog 94=some [.int .i64 0,.int .i64 0,.int .i64 0,.zc,.zc,.zc]:=by kernel_rfl
theorem RF:GR Tryz.prog 99=some [.zc,.zc,.int .i64 0,.int .i64 0,.zc]:=by kernel_rfl

theorem DV {p0:(List Int)} {p1:Int} {r:Int} (h0:DE p0 p1=some r):AY Tryz.prog 22 [(ls eI p0),(i64 p1)] [] (fun v st=>v=(i64 r)∧st=[]):=by
 unfold DE at h0
 refine ai Tryz.func22 U U U U (zr tb U U (sr U fun K2 hK2=>zm tb 2 U (zl tb U U (zm tb 2 U (dn hK2 U (AB fun K3 hK3=>zr tb U U ?_))))))
 refine ci h0 U ?_ ?_ <;> clear h0
 ·intro b5 h0
  refine zr tb U U ?_
  replace h0:=Sh.AA h0
  subst r
  exact AH (xr (AM (L:=[(4,(i64 (-1)))]) ⟨.rfl,trivial⟩))
 ·intro b5 h0
  refine AG (hK3 _ (zr tb U U ?_))
  replace h0:=Sh.AA h0
  subst r
  exact AH (xr (AM (L:=[(4,(i64 (Sh.w (p1 - (Sh.len p0)))))]) ⟨.rfl,trivial⟩))
theorem SB {p0:By} {p1:Int} {r:Int} (h0:Ja p0 p1=some r):AY Tryz.prog 109 [(.agg (D5 p0)),(i64 p1)] [] (fun v st=>v=(i64 r)∧st=[]):=by
 unfold Ja at h0
 refine ai Tryz.func109 U U U U (sr U fun K1 hK1=>A8 (m:=0) Aa U U U U U (zq tb U (dn hK1 U (sr U fun K2 hK2=>zm tb 3 U (bs h0 fun q3 gq3 h0=>zc Na (DV gq3) rfl U U (zq tb U (dn hK2 U (AB fun K4 hK4=>?_))))))))
 refine zr tb U U ?_
 refine ci h0 U ?_ ?_ <;> clear h0
 ·intro b6 h0
  refine zr tb U U ?_
  replace h0:=Sh.AA h0
  subst r
  exact AH (xr (AR [(4,(i64 (-1)))] U))
 ·intro b6 h0
  refine AG (hK4 _ (zr tb U U ?_))
  replace h0:=Sh.AA h0
  subst r
  exact AH (xr (AR [(4,(i64 q3))] U))
theorem Qo {N:Nat} {p0:(List By)} {p1:Int} {r:Int} (h0:IL N p0 p1=some r):AY Tryz.prog 76 [(ls D5 p0),(i64 p1)] [] (fun v st=>v=(i64 r)∧st=[]):=by
 unfold IL at h0
 refine ai Tryz.func76 U U U U (zr tb U U (sr U fun K2 hK2=>zm tb 2 U (zl tb U U (zm tb 2 U (dn hK2 U (AB fun K3 hK3=>zr tb U U ?_))))))
 refine ci h0 U ?_ ?_ <;> clear h0
 ·intro b5 h0
  refine zr tb U U ?_
  replace h0:=Sh.AA h0
  subst r
  exact AH (xr (AM (L:=[(4,(i64 (-1)))]) ⟨.rfl,trivial⟩))
 ·intro b5 h0
  refine AG (hK3 _ (AB fun K7 hK7=>zr tb U U ?_))
  obtain⟨o12,h1,h0⟩:=Sh.A1 h0
  have M12 :∀(left11:Int),o12=Sum.inr left11→∀s,Wk 0 s ⟨27,AS [(1,(i64 left11))],[]⟩→K7 s:=by
   intro left11 hq s hw
   subst o12
   try dsimp only at h0
   refine hK7 _ (AI hw (zr tb U U ?_))
   replace h0:=Sh.AA h0
   subst r
   exact AH (xr (AM (L:=[(4,(i64 left11))]) ⟨.rfl,trivial⟩))
  refine AJ (AX (σ:=Int×Int) (fun n v=>Em p0 n v.1 v.2=some o12) (fun (left9,i10)=>⟨27,AS [(0,(ls D5 p0)),(1,(i64 left9)),(5,(i64 i10))],[]⟩) N (Sh.w (p1 - (Sh.len p0)),0) h1 (AE U) (fun _ hv=>by rw[Em] at hv;cases hv) ?_)
  rintro n ⟨left9,i10⟩ h1
  try dsimp only at h1 ⊢
  rw[Em] at h1
  refine AB fun K14 hK14=>sr U fun K15 hK15=>zm tb 2 U (zl tb U U (zq tb U (dn hK15 U ?_)))
  refine ci h1 U ?_ ?_ <;> clear h1
  ·intro b16 h1
   refine AG (hK14 _ (AB fun K17 hK17=>AJ (sr U fun K18 hK18=>zm tb 2 U (bs h1 fun c19 gc19 h1=>zx ao gc19 U U U (zm tb 2 U (bs h1 fun q20 gq20 h1=>zc bu (SB gq20) rfl U U (zq tb U (dn hK18 U ?_))))))))
   refine zr tb U U ?_
   refine ci h1 U ?_ ?_ <;> clear h1
   ·intro b22 h1
    refine zr tb U U ?_
    replace h1:=Sh.AA h1
    subst o12
    try dsimp only[id] at h0
    replace h0:=Sh.AA h0
    subst r
    exact AH (xr (AM (L:=[(4,(i64 (-1)))]) ⟨.rfl,trivial⟩))
   ·intro b22 h1
    exact AG (hK17 _ (AF U (zm tb 3 U (AD (xi (q20,Sh.w (i10+1)) h1 (AE U))))))
  ·intro b16 h1
   exact Ac (M12 left9 (Sh.AA h1).symm _ (AE U))
theorem Qp {N:Nat} {p0:An} {p1:Int} {r:Int} (h0:IY N p0 p1=some r):AY Tryz.prog 45 [(.agg (Ad p0)),(i64 p1)] [] (fun v st=>v=(i64 r)∧st=[]):=by
 unfold IY at h0
 refine ai Tryz.func45 U U U U (sr U fun K1 hK1=>A8 (m:=0) Aa U U U U U (zq tb U (dn hK1 U (sr U fun K2 hK2=>zm tb 3 U (bs h0 fun q3 gq3 h0=>zc dw (Qo gq3) rfl U U (zq tb U (dn hK2 U (AB fun K4 hK4=>?_))))))))
 refine zr tb U U ?_
 refine ci h0 U ?_ ?_ <;> clear h0
 ·intro b6 h0
  refine zr tb U U ?_
  replace h0:=Sh.AA h0
  subst r
  exact AH (xr (AR [(4,(i64 (-1)))] U))
 ·intro b6 h0
  refine AG (hK4 _ (zr tb U U ?_))
  replace h0:=Sh.AA h0
  subst r
  exact AH (xr (AR [(4,(i64 q3))] U))
theorem Ps {N:Nat} {p0:(List An)} {p1:Int} {r:Int} (h0:Ht N p0 p1=some r):AY Tryz.prog 20 [(ls Ad p0),(i64 p1)] [] (fun v st=>v=(i64 r)∧st=[]):=by
 unfold Ht at h0
 refine ai Tryz.func20 U U U U (zr tb U U (sr U fun K2 hK2=>zm tb 2 U (zl tb U U (zm tb 2 U (dn hK2 U (AB fun K3 hK3=>zr tb U U ?_))))))
 refine ci h0 U ?_ ?_ <;> clear h0
 ·intro b5 h0
  refine zr tb U U ?_
  replace h0:=Sh.AA h0
  subst r
  exact AH (xr (AM (L:=[(4,(i64 (-1)))]) ⟨.rfl,trivial⟩))
 ·intro b5 h0
  refine AG (hK3 _ (AB fun K7 hK7=>zr tb U U ?_))
  obtain⟨o12,h1,h0⟩:=Sh.A1 h0
  have M12 :∀(left11:Int),o12=Sum.inr left11→∀s,Wk 0 s ⟨27,AS [(1,(i64 left11))],[]⟩→K7 s:=by
   intro left11 hq s hw
   subst o12
   try dsimp only at h0
   refine hK7 _ (AI hw (zr tb U U ?_))
   replace h0:=Sh.AA h0
   subst r
   exact AH (xr (AM (L:=[(4,(i64 left11))]) ⟨.rfl,trivial⟩))
  refine AJ (AX (σ:=Int×Int) (fun n v=>EH N p0 n v.1 v.2=some o12) (fun (left9,i10)=>⟨27,AS [(0,(ls Ad p0)),(1,(i64 left9)),(5,(i64 i10))],[]⟩) N (Sh.w (p1 - (Sh.len p0)),0) h1 (AE U) (fun _ hv=>by rw[EH] at hv;cases hv) ?_)
  rintro n ⟨left9,i10⟩ h1
  try dsimp only at h1 ⊢
  rw[EH] at h1
  refine AB fun K14 hK14=>sr U fun K15 hK15=>zm tb 2 U (zl tb U U (zq tb U (dn hK15 U ?_)))
  refine ci h1 U ?_ ?_ <;> clear h1
  ·intro b16 h1
   refine AG (hK14 _ (AB fun K17 hK17=>AJ (sr U fun K18 hK18=>zm tb 2 U (bs h1 fun c19 gc19 h1=>zx aZ gc19 U U U (zm tb 2 U (bs h1 fun q20 gq20 h1=>zc ep (Qp gq20) rfl U U (zq tb U (dn hK18 U ?_))))))))
   refine zr tb U U ?_
   refine ci h1 U ?_ ?_ <;> clear h1
   ·intro b22 h1
    refine zr tb U U ?_
    replace h1:=Sh.AA h1
    subst o12
    try dsimp only[id] at h0
    replace h0:=Sh.AA h0
    subst r
    exact AH (xr (AM (L:=[(4,(i64 (-1)))]) ⟨.rfl,trivial⟩))
   ·intro b22 h1
    exact AG (hK17 _ (AF U (zm tb 3 U (AD (xi (q20,Sh.w (i10+1)) h1 (AE U))))))
  ·intro b16 h1
   exact Ac (M12 left9 (Sh.AA h1).symm _ (AE U))
theorem QE {p0:Ag} {p1:Int} {r:Int} (h0:Hl p0 p1=some r):AY Tryz.prog 110 [(.agg (AU p0)),(i64 p1)] [] (fun v st=>v=(i64 r)∧st=[]):=by
 unfold Hl at h0
 refine ai Tryz.func110 U U U U (sr U fun K1 hK1=>A8 (m:=0) Aa U U U U U (zq tb U (dn hK1 U (sr U fun K2 hK2=>zm tb 3 U (bs h0 fun q3 gq3 h0=>zc Na (DV gq3) rfl U U (zq tb U (dn hK2 U (AB fun K4 hK4=>?_))))))))
 refine zr tb U U ?_
 refine ci h0 U ?_ ?_ <;> clear h0
 ·intro b6 h0
  refine zr tb U U ?_
  replace h0:=Sh.AA h0
  subst r
  exact AH (xr (AR [(4,(i64 (-1)))] U))
 ·intro b6 h0
  refine AG (hK4 _ (sr U fun K8 hK8=>zm tb 3 U (bs h0 fun q9 gq9 h0=>zc Na (DV gq9) rfl U U (zq tb U (dn hK8 U (AB fun K10 hK10=>zr tb U U ?_))))))
  refine ci h0 U ?_ ?_ <;> clear h0
  ·intro b12 h0
   refine zr tb U U ?_
   replace h0:=Sh.AA h0
   subst r
   exact AH (xr (AR [(4,(i64 (-1)))] U))
  ·intro b12 h0
   refine AG (hK10 _ (zr tb U U ?_))
   replace h0:=Sh.AA h0
   subst r
   exact AH (xr (AR [(4,(i64 q9))] U))
theorem O6 {N:Nat} {p0:(List Ag)} {p1:Int} {r:Int} (h0:G6 N p0 p1=some r):AY Tryz.prog 77 [(ls AU p0),(i64 p1)] [] (fun v st=>v=(i64 r)∧st=[]):=by
 unfold G6 at h0
 refine ai Tryz.func77 U U U U (zr tb U U (sr U fun K2 hK2=>zm tb 2 U (zl tb U U (zm tb 2 U (dn hK2 U (AB fun K3 hK3=>zr tb U U ?_))))))
 refine ci h0 U ?_ ?_ <;> clear h0
 ·intro b5 h0
  refine zr tb U U ?_
  replace h0:=Sh.AA h0
  subst r
  exact AH (xr (AM (L:=[(4,(i64 (-1)))]) ⟨.rfl,trivial⟩))
 ·intro b5 h0
  refine AG (hK3 _ (AB fun K7 hK7=>zr tb U U ?_))
  obtain⟨o12,h1,h0⟩:=Sh.A1 h0
  have M12 :∀(left11:Int),o12=Sum.inr left11→∀s,Wk 0 s ⟨27,AS [(1,(i64 left11))],[]⟩→K7 s:=by
   intro left11 hq s hw
   subst o12
   try dsimp only at h0
   refine hK7 _ (AI hw (zr tb U U ?_))
   replace h0:=Sh.AA h0
   subst r
   exact AH (xr (AM (L:=[(4,(i64 left11))]) ⟨.rfl,trivial⟩))
  refine AJ (AX (σ:=Int×Int) (fun n v=>Dm p0 n v.1 v.2=some o12) (fun (left9,i10)=>⟨27,AS [(0,(ls AU p0)),(1,(i64 left9)),(5,(i64 i10))],[]⟩) N (Sh.w (p1 - (Sh.len p0)),0) h1 (AE U) (fun _ hv=>by rw[Dm] at hv;cases hv) ?_)
  rintro n ⟨left9,i10⟩ h1
  try dsimp only at h1 ⊢
  rw[Dm] at h1
  refine AB fun K14 hK14=>sr U fun K15 hK15=>zm tb 2 U (zl tb U U (zq tb U (dn hK15 U ?_)))
  refine ci h1 U ?_ ?_ <;> clear h1
  ·intro b16 h1
   refine AG (hK14 _ (AB fun K17 hK17=>AJ (sr U fun K18 hK18=>zm tb 2 U (bs h1 fun c19 gc19 h1=>zx an gc19 U U U (zm tb 2 U (bs h1 fun q20 gq20 h1=>zc bm (QE gq20) rfl U U (zq tb U (dn hK18 U ?_))))))))
   refine zr tb U U ?_
   refine ci h1 U ?_ ?_ <;> clear h1
   ·intro b22 h1
    refine zr tb U U ?_
    replace h1:=Sh.AA h1
    subst o12
    try dsimp only[id] at h0
    replace h0:=Sh.AA h0
    subst r
    exact AH (xr (AM (L:=[(4,(i64 (-1)))]) ⟨.rfl,trivial⟩))
   ·intro b22 h1
    exact AG (hK17 _ (AF U (zm tb 3 U (AD (xi (q20,Sh.w (i10+1)) h1 (AE U))))))
  ·intro b16 h1
   exact Ac (M12 left9 (Sh.AA h1).symm _ (AE U))
theorem QZ {N:Nat} {p0:A0} {p1:Int} {r:Int} (h0:IV N p0 p1=some r):AY Tryz.prog 46 [(.agg (Az p0)),(i64 p1)] [] (fun v st=>v=(i64 r)∧st=[]):=by
 unfold IV at h0
 refine ai Tryz.func46 U U U U (sr U fun K1 hK1=>A8 (m:=0) Aa U U U U U (zq tb U (dn hK1 U (sr U fun K2 hK2=>zm tb 3 U (bs h0 fun q3 gq3 h0=>zc Na (DV gq3) rfl U U (zq tb U (dn hK2 U (AB fun K4 hK4=>?_))))))))
 refine zr tb U U ?_
 refine ci h0 U ?_ ?_ <;> clear h0
 ·intro b6 h0
  refine zr tb U U ?_
  replace h0:=Sh.AA h0
  subst r
  exact AH (xr (AR [(4,(i64 (-1)))] U))
 ·intro b6 h0
  refine AG (hK4 _ (sr U fun K8 hK8=>zm tb 3 U (bs h0 fun q9 gq9 h0=>zc Na (DV gq9) rfl U U (zq tb U (dn hK8 U (AB fun K10 hK10=>zr tb U U ?_))))))
  refine ci h0 U ?_ ?_ <;> clear h0
  ·intro b12 h0
   refine zr tb U U ?_
   replace h0:=Sh.AA h0
   subst r
   exact AH (xr (AR [(4,(i64 (-1)))] U))
  ·intro b12 h0
   refine AG (hK10 _ (sr U fun K14 hK14=>zm tb 3 U (bs h0 fun q15 gq15 h0=>zc dB (O6 gq15) rfl U U (zq tb U (dn hK14 U (AB fun K16 hK16=>zr tb U U ?_))))))
   refine ci h0 U ?_ ?_ <;> clear h0
   ·intro b18 h0
    refine zr tb U U ?_
    replace h0:=Sh.AA h0
    subst r
    exact AH (xr (AR [(4,(i64 (-1)))] U))
   ·intro b18 h0
    refine AG (hK16 _ (zr tb U U ?_))
    replace h0:=Sh.AA h0
    subst r
    exact AH (xr (AR [(4,(i64 q15))] U))
theorem PO {N:Nat} {p0:(List A0)} {p1:Int} {r:Int} (h0:Hd N p0 p1=some r):AY Tryz.prog 21 [(ls Az p0),(i64 p1)] [] (fun v st=>v=(i64 r)∧st=[]):=by
 unfold Hd at h0
 refine ai Tryz.func21 U U U U (zr tb U U (sr U fun K2 hK2=>zm tb 2 U (zl tb U U (zm tb 2 U (dn hK2 U (AB fun K3 hK3=>zr tb U U ?_))))))
 refine ci h0 U ?_ ?_ <;> clear h0
 ·intro b5 h0
  refine zr tb U U ?_
  replace h0:=Sh.AA h0
  subst r
  exact AH (xr (AM (L:=[(4,(i64 (-1)))]) ⟨.rfl,trivial⟩))
 ·intro b5 h0
  refine AG (hK3 _ (AB fun K7 hK7=>zr tb U U ?_))
  obtain⟨o12,h1,h0⟩:=Sh.A1 h0
  have M12 :∀(left11:Int),o12=Sum.inr left11→∀s,Wk 0 s ⟨27,AS [(1,(i64 left11))],[]⟩→K7 s:=by
   intro left11 hq s hw
   subst o12
   try dsimp only at h0
   refine hK7 _ (AI hw (zr tb U U ?_))
   replace h0:=Sh.AA h0
   subst r
   exact AH (xr (AM (L:=[(4,(i64 left11))]) ⟨.rfl,trivial⟩))
  refine AJ (AX (σ:=Int×Int) (fun n v=>ER N p0 n v.1 v.2=some o12) (fun (left9,i10)=>⟨27,AS [(0,(ls Az p0)),(1,(i64 left9)),(5,(i64 i10))],[]⟩) N (Sh.w (p1 - (Sh.len p0)),0) h1 (AE U) (fun _ hv=>by rw[ER] at hv;cases hv) ?_)
  rintro n ⟨left9,i10⟩ h1
  try dsimp only at h1 ⊢
  rw[ER] at h1
  refine AB fun K14 hK14=>sr U fun K15 hK15=>zm tb 2 U (zl tb U U (zq tb U (dn hK15 U ?_)))
  refine ci h1 U ?_ ?_ <;> clear h1
  ·intro b16 h1
   refine AG (hK14 _ (AB fun K17 hK17=>AJ (sr U fun K18 hK18=>zm tb 2 U (bs h1 fun c19 gc19 h1=>zx aj gc19 U U U (zm tb 2 U (bs h1 fun q20 gq20 h1=>zc eD (QZ gq20) rfl U U (zq tb U (dn hK18 U ?_))))))))
   refine zr tb U U ?_
   refine ci h1 U ?_ ?_ <;> clear h1
   ·intro b22 h1
    refine zr tb U U ?_
    replace h1:=Sh.AA h1
    subst o12
    try dsimp only[id] at h0
    replace h0:=Sh.AA h0
    subst r
    exact AH (xr (AM (L:=[(4,(i64 (-1)))]) ⟨.rfl,trivial⟩))
   ·intro b22 h1
    exact AG (hK17 _ (AF U (zm tb 3 U (AD (xi (q20,Sh.w (i10+1)) h1 (AE U))))))
  ·intro b16 h1
   exact Ac (M12 left9 (Sh.AA h1).symm _ (AE U))
theorem Pv {N:Nat} {p0:Au} {p1:Int} {r:Int} (h0:Hs N p0 p1=some r):AY Tryz.prog 5 [(.agg (Ao p0)),(i64 p1)] [] (fun v st=>v=(i64 r)∧st=[]):=by
 unfold Hs at h0
 refine ai Tryz.func5 U U U U (sr U fun K1 hK1=>A8 (m:=0) Aa U U U U U (zq tb U (dn hK1 U (sr U fun K2 hK2=>zm tb 3 U (bs h0 fun q3 gq3 h0=>zc eX (Ps gq3) rfl U U (zq tb U (dn hK2 U (AB fun K4 hK4=>?_))))))))
 refine zr tb U U ?_
 refine ci h0 U ?_ ?_ <;> clear h0
 ·intro b6 h0
  refine zr tb U U ?_
  replace h0:=Sh.AA h0
  subst r
  exact AH (xr (AR [(4,(i64 (-1)))] U))
 ·intro b6 h0
  refine AG (hK4 _ (sr U fun K8 hK8=>zm tb 3 U (bs h0 fun q9 gq9 h0=>zc eH (PO gq9) rfl U U (zq tb U (dn hK8 U (AB fun K10 hK10=>zr tb U U ?_))))))
  refine ci h0 U ?_ ?_ <;> clear h0
  ·intro b12 h0
   refine zr tb U U ?_
   replace h0:=Sh.AA h0
   subst r
   exact AH (xr (AR [(4,(i64 (-1)))] U))
  ·intro b12 h0
   refine AG (hK10 _ (zr tb U U ?_))
   replace h0:=Sh.AA h0
   subst r
   exact AH (xr (AR [(4,(i64 q9))] U))
theorem Qv {p0:Cell} {p1:Int} {r:Int} (h0:Ie p0 p1=some r):AY Tryz.prog 47 [(.agg (Aj p0)),(i64 p1)] [] (fun v st=>v=(i64 r)∧st=[]):=by
 unfold Ie at h0
 refine ai Tryz.func47 U U U U (sr U fun K1 hK1=>A8 (m:=0) Aa U U U U U (zq tb U (dn hK1 U (sr U fun K2 hK2=>zm tb 3 U (bs h0 fun q3 gq3 h0=>zc Na (DV gq3) rfl U U (zq tb U (dn hK2 U (AB fun K4 hK4=>?_))))))))
 refine zr tb U U ?_
 refine ci h0 U ?_ ?_ <;> clear h0
 ·intro b6 h0
  refine zr tb U U ?_
  replace h0:=Sh.AA h0
  subst r
  exact AH (xr (AR [(4,(i64 (-1)))] U))
 ·intro b6 h0
  refine AG (hK4 _ (zr tb U U ?_))
  replace h0:=Sh.AA h0
  subst r
  exact AH (xr (AR [(4,(i64 q3))] U))
theorem PF {N:Nat} {p0:(List Cell)} {p1:Int} {r:Int} (h0:Hw N p0 p1=some r):AY Tryz.prog 23 [(ls Aj p0),(i64 p1)] [] (fun v st=>v=(i64 r)∧st=[]):=by
 unfold Hw at h0
 refine ai Tryz.func23 U U U U (zr tb U U (sr U fun K2 hK2=>zm tb 2 U (zl tb U U (zm tb 2 U (dn hK2 U (AB fun K3 hK3=>zr tb U U ?_))))))
 refine ci h0 U ?_ ?_ <;> clear h0
 ·intro b5 h0
  refine zr tb U U ?_
  replace h0:=Sh.AA h0
  subst r
  exact AH (xr (AM (L:=[(4,(i64 (-1)))]) ⟨.rfl,trivial⟩))
 ·intro b5 h0
  refine AG (hK3 _ (AB fun K7 hK7=>zr tb U U ?_))
  obtain⟨o12,h1,h0⟩:=Sh.A1 h0
  have M12 :∀(left11:Int),o12=Sum.inr left11→∀s,Wk 0 s ⟨27,AS [(1,(i64 left11))],[]⟩→K7 s:=by
   intro left11 hq s hw
   subst o12
   try dsimp only at h0
   refine hK7 _ (AI hw (zr tb U U ?_))
   replace h0:=Sh.AA h0
   subst r
   exact AH (xr (AM (L:=[(4,(i64 left11))]) ⟨.rfl,trivial⟩))
  refine AJ (AX (σ:=Int×Int) (fun n v=>EI p0 n v.1 v.2=some o12) (fun (left9,i10)=>⟨27,AS [(0,(ls Aj p0)),(1,(i64 left9)),(5,(i64 i10))],[]⟩) N (Sh.w (p1 - (Sh.len p0)),0) h1 (AE U) (fun _ hv=>by rw[EI] at hv;cases hv) ?_)
  rintro n ⟨left9,i10⟩ h1
  try dsimp only at h1 ⊢
  rw[EI] at h1
  refine AB fun K14 hK14=>sr U fun K15 hK15=>zm tb 2 U (zl tb U U (zq tb U (dn hK15 U ?_)))
  refine ci h1 U ?_ ?_ <;> clear h1
  ·intro b16 h1
   refine AG (hK14 _ (AB fun K17 hK17=>AJ (sr U fun K18 hK18=>zm tb 2 U (bs h1 fun c19 gc19 h1=>zx aa gc19 U U U (zm tb 2 U (bs h1 fun q20 gq20 h1=>zc dN (Qv gq20) rfl U U (zq tb U (dn hK18 U ?_))))))))
   refine zr tb U U ?_
   refine ci h1 U ?_ ?_ <;> clear h1
   ·intro b22 h1
    refine zr tb U U ?_
    replace h1:=Sh.AA h1
    subst o12
    try dsimp only[id] at h0
    replace h0:=Sh.AA h0
    subst r
    exact AH (xr (AM (L:=[(4,(i64 (-1)))]) ⟨.rfl,trivial⟩))
   ·intro b22 h1
    exact AG (hK17 _ (AF U (zm tb 3 U (AD (xi (q20,Sh.w (i10+1)) h1 (AE U))))))
  ·intro b16 h1
   exact Ac (M12 left9 (Sh.AA h1).symm _ (AE U))
theorem Pd {p0:Ai} {p1:Int} {r:Int} (h0:H0 p0 p1=some r):AY Tryz.prog 48 [(.agg (Ax p0)),(i64 p1)] [] (fun v st=>v=(i64 r)∧st=[]):=by
 unfold H0 at h0
 refine ai Tryz.func48 U U U U (sr U fun K1 hK1=>A8 (m:=0) Aa U U U U U (zq tb U (dn hK1 U (sr U fun K2 hK2=>zm tb 3 U (bs h0 fun q3 gq3 h0=>zc Na (DV gq3) rfl U U (zq tb U (dn hK2 U (AB fun K4 hK4=>?_))))))))
 refine zr tb U U ?_
 refine ci h0 U ?_ ?_ <;> clear h0
 ·intro b6 h0
  refine zr tb U U ?_
  replace h0:=Sh.AA h0
  subst r
  exact AH (xr (AR [(4,(i64 (-1)))] U))
 ·intro b6 h0
  refine AG (hK4 _ (sr U fun K8 hK8=>zm tb 3 U (bs h0 fun q9 gq9 h0=>zc Na (DV gq9) rfl U U (zq tb U (dn hK8 U (AB fun K10 hK10=>zr tb U U ?_))))))
  refine ci h0 U ?_ ?_ <;> clear h0
  ·intro b12 h0
   refine zr tb U U ?_
   replace h0:=Sh.AA h0
   subst r
   exact AH (xr (AR [(4,(i64 (-1)))] U))
  ·intro b12 h0
   refine AG (hK10 _ (sr U fun K14 hK14=>zm tb 3 U (bs h0 fun q15 gq15 h0=>zc Na (DV gq15) rfl U U (zq tb U (dn hK14 U (AB fun K16 hK16=>zr tb U U ?_))))))
   refine ci h0 U ?_ ?_ <;> clear h0
   ·intro b18 h0
    refine zr tb U U ?_
    replace h0:=Sh.AA h0
    subst r
    exact AH (xr (AR [(4,(i64 (-1)))] U))
   ·intro b18 h0
    refine AG (hK16 _ (zr tb U U ?_))
    replace h0:=Sh.AA h0
    subst r
    exact AH (xr (AR [(4,(i64 q15))] U))
theorem OY {N:Nat} {p0:(List Ai)} {p1:Int} {r:Int} (h0:HJ N p0 p1=some r):AY Tryz.prog 24 [(ls Ax p0),(i64 p1)] [] (fun v st=>v=(i64 r)∧st=[]):=by
 unfold HJ at h0
 refine ai Tryz.func24 U U U U (zr tb U U (sr U fun K2 hK2=>zm tb 2 U (zl tb U U (zm tb 2 U (dn hK2 U (AB fun K3 hK3=>zr tb U U ?_))))))
 refine ci h0 U ?_ ?_ <;> clear h0
 ·intro b5 h0
  refine zr tb U U ?_
  replace h0:=Sh.AA h0
  subst r
  exact AH (xr (AM (L:=[(4,(i64 (-1)))]) ⟨.rfl,trivial⟩))
 ·intro b5 h0
  refine AG (hK3 _ (AB fun K7 hK7=>zr tb U U ?_))
  obtain⟨o12,h1,h0⟩:=Sh.A1 h0
  have M12 :∀(left11:Int),o12=Sum.inr left11→∀s,Wk 0 s ⟨27,AS [(1,(i64 left11))],[]⟩→K7 s:=by
   intro left11 hq s hw
   subst o12
   try dsimp only at h0
   refine hK7 _ (AI hw (zr tb U U ?_))
   replace h0:=Sh.AA h0
   subst r
   exact AH (xr (AM (L:=[(4,(i64 left11))]) ⟨.rfl,trivial⟩))
  refine AJ (AX (σ:=Int×Int) (fun n v=>D1 p0 n v.1 v.2=some o12) (fun (left9,i10)=>⟨27,AS [(0,(ls Ax p0)),(1,(i64 left9)),(5,(i64 i10))],[]⟩) N (Sh.w (p1 - (Sh.len p0)),0) h1 (AE U) (fun _ hv=>by rw[D1] at hv;cases hv) ?_)
  rintro n ⟨left9,i10⟩ h1
  try dsimp only at h1 ⊢
  rw[D1] at h1
  refine AB fun K14 hK14=>sr U fun K15 hK15=>zm tb 2 U (zl tb U U (zq tb U (dn hK15 U ?_)))
  refine ci h1 U ?_ ?_ <;> clear h1
  ·intro b16 h1
   refine AG (hK14 _ (AB fun K17 hK17=>AJ (sr U fun K18 hK18=>zm tb 2 U (bs h1 fun c19 gc19 h1=>zx aX gc19 U U U (zm tb 2 U (bs h1 fun q20 gq20 h1=>zc fK (Pd gq20) rfl U U (zq tb U (dn hK18 U ?_))))))))
   refine zr tb U U ?_
   refine ci h1 U ?_ ?_ <;> clear h1
   ·intro b22 h1
    refine zr tb U U ?_
    replace h1:=Sh.AA h1
    subst o12
    try dsimp only[id] at h0
    replace h0:=Sh.AA h0
    subst r
    exact AH (xr (AM (L:=[(4,(i64 (-1)))]) ⟨.rfl,trivial⟩))
   ·intro b22 h1
    exact AG (hK17 _ (AF U (zm tb 3 U (AD (xi (q20,Sh.w (i10+1)) h1 (AE U))))))
  ·intro b16 h1
   exact Ac (M12 left9 (Sh.AA h1).symm _ (AE U))
theorem PZ {N:Nat} {p0:Av} {p1:Int} {r:Int} (h0:Hz N p0 p1=some r):AY Tryz.prog 6 [(.agg (Ah p0)),(i64 p1)] [] (fun v st=>v=(i64 r)∧st=[]):=by
 unfold Hz at h0
 refine ai Tryz.func6 U U U U (sr U fun K1 hK1=>A8 (m:=0) Aa U U U U U (zq tb U (dn hK1 U (sr U fun K2 hK2=>zm tb 3 U (bs h0 fun q3 gq3 h0=>zc Na (DV gq3) rfl U U (zq tb U (dn hK2 U (AB fun K4 hK4=>?_))))))))
 refine zr tb U U ?_
 refine ci h0 U ?_ ?_ <;> clear h0
 ·intro b6 h0
  refine zr tb U U ?_
  replace h0:=Sh.AA h0
  subst r
  exact AH (xr (AR [(4,(i64 (-1)))] U))
 ·intro b6 h0
  refine AG (hK4 _ (sr U fun K8 hK8=>zm tb 3 U (bs h0 fun q9 gq9 h0=>zc dU (PF gq9) rfl U U (zq tb U (dn hK8 U (AB fun K10 hK10=>zr tb U U ?_))))))
  refine ci h0 U ?_ ?_ <;> clear h0
  ·intro b12 h0
   refine zr tb U U ?_
   replace h0:=Sh.AA h0
   subst r
   exact AH (xr (AR [(4,(i64 (-1)))] U))
  ·intro b12 h0
   refine AG (hK10 _ (sr U fun K14 hK14=>zm tb 3 U (bs h0 fun q15 gq15 h0=>zc dO (OY gq15) rfl U U (zq tb U (dn hK14 U (AB fun K16 hK16=>zr tb U U ?_))))))
   refine ci h0 U ?_ ?_ <;> clear h0
   ·intro b18 h0
    refine zr tb U U ?_
    replace h0:=Sh.AA h0
    subst r
    exact AH (xr (AR [(4,(i64 (-1)))] U))
   ·intro b18 h0
    refine AG (hK16 _ (zr tb U U ?_))
    replace h0:=Sh.AA h0
    subst r
    exact AH (xr (AR [(4,(i64 q15))] U))
theorem DU {N:Nat} {p0:(List Int)} {r:(List Int)} (h0:DG N p0=some r):AY Tryz.prog 30 [(ls eI p0)] [] (fun v st=>v=(ow 0 0 r)∧st=[(ro 0 3 1 eI r)]):=by
 unfold DG at h0
 refine ai Tryz.func30 U U U U (zr tb U U (sr U fun K2 hK2=>zq tb U (zl tb U U (bs h0 fun l3 gl3 h0=>GU (m:=0) (enc:=eI) (u:=0) Aa A2 U U U gl3 U U (zq tb U (dn hK2 U (AB fun K4 hK4=>zr tb U U (bs h0 fun o9 h1 h0=>?_))))))))
 have M9 :∀(l8:(List Int)),o9=l8→∀s,Wk 0 s ⟨22,AS [(3,(ow 0 0 l8))],[(ro 0 3 1 eI l8)]⟩→K4 s:=by
  intro l8 hq s hw
  subst o9
  try dsimp only at h0
  refine hK4 _ (AI hw (zr tb U U ?_))
  replace h0:=Sh.AA h0
  subst r
  exact AH (xr (AM (L:=[(2,(ow 0 0 l8))]) ⟨.rfl,trivial⟩))
 refine AJ (AX (σ:=Int×(List Int)) (fun n v=>ED p0 n v.1 v.2=some o9) (fun (i6,l7)=>⟨22,AS [(0,(ls eI p0)),(3,(ow 0 0 l7)),(4,(i64 i6))],[(ro 0 3 1 eI l7)]⟩) N (0,l3) h1 (AE U) (fun _ hv=>by rw[ED] at hv;cases hv) ?_)
 rintro n ⟨i6,l7⟩ h1
 try dsimp only at h1 ⊢
 rw[ED] at h1
 refine AB fun K11 hK11=>sr U fun K12 hK12=>zm tb 2 U (zl tb U U (zq tb U (dn hK12 U ?_)))
 refine ci h1 U ?_ ?_ <;> clear h1
 ·intro b13 h1
  refine AG (hK11 _ (AB fun K14 hK14=>AJ (AF U (zm tb 4 U (bs h1 fun c15 gc15 h1=>zx A2 gc15 U U U (zq tb U (bs h1 fun c16 gc16 h1=>zz (.ptr 0 0 (Int.toNat i6) 0) (BD A2 U U U U gc16) rfl (Cz (u':=c15) Aa EF U U gc16 U U U (show 0+1≤1 by decide) rfl U (dn hK14 U ?_)))))))))
  refine AF U (zm tb 3 U ?_)
  exact AD (xi (Sh.w (i6+1),Sh.put l7 i6 c15) h1 (AM (L:=[(0,(.sl (List.map eI p0))),(3,(.own 0 0 (List.length (Sh.put l7 i6 c15)))),(4,(i64 (Sh.w (i6+1))))]) ⟨.rfl,(.len (by simp only[Sh.Af])),.rfl,trivial⟩))
 ·intro b13 h1
  exact Ac (M9 l7 (Sh.AA h1).symm _ (AE U))
theorem RO {N:Nat} {p0:By} {r:By} (h0:JR N p0=some r):AY Tryz.prog 120 [(.agg (D5 p0))] [] (fun v st=>v=(.agg [(ow 0 0 r.fields)])∧st=[(ro 0 3 1 eI r.fields)]):=by
 unfold JR at h0
 refine AY.wk (r0:=(.agg [(ow 0 0 r.fields)])) (st0:=[(ro 0 3 1 eI r.fields),⟨0,155,1,[[(ow 0 0 r.fields)]]⟩]) ?_ (HU (L:=[(0,(.agg [(ow 0 0 r.fields)]))]) (st':=[(ro 0 3 1 eI r.fields)]) [0] U (by decide) rfl U (.pure (AL fun _=>U) trivial) ⟨.rfl,trivial⟩)
 refine ai Tryz.func120 U U U U (sr U fun K1 hK1=>A8 (m:=0) Aa U U U U U (BF (m:=1) Aa P5 U U (dn hK1 U (sr U fun K2 hK2=>BF (m:=2) Aa P5 U U (dn hK2 U (sr U fun K3 hK3=>zm tb 2 U (bs h0 fun q4 gq4 h0=>BN (v':=(ow 3 0 q4)) Aa NT (DU gq4) rfl U ⟨(BB fun _=>U),trivial⟩ U U ?_)))))))
 refine zq tb U (A7 Aa Hn U U U U U U (show 0+1≤1 by decide) rfl (dn hK3 U (sr U fun K5 hK5=>zq tb U (A7 Aa Lf U U U U U U (show 0+1≤1 by decide) rfl (dn hK5 U ?_)))))
 replace h0:=Sh.AA h0
 subst r
 exact AH (Exists.intro _ (And.intro ((AN (L:=[(2,(.ptr 1 0 0 0))]) (st':=[(ro 0 3 1 eI q4),⟨0,155,1,[[(ow 0 0 q4)]]⟩]) (st1:=[(ro 0 3 1 eI q4),⟨0,155,1,[[(ow 3 0 q4)]]⟩]) [3,1] U .nil (by decide) rfl U (.pure (AL fun _=>U) (.raw U U .nil)) ⟨.rfl,trivial⟩).trans (AM (L:=[(2,(.ptr 1 0 0 0))]) ⟨.rfl,trivial⟩)) (Fc (x:=.tmp 2) (off:=0) (cs:=[(ow 0 0 q4)]) (vs:=[(ow 0 0 q4)]) Lf U U U (show 0+1≤1 by decide) rfl _ ⟨U,U⟩)))
theorem Qh {N:Nat} {p0:(List By)} {r:(List By)} (h0:IW N p0=some r):AY Tryz.prog 91 [(ls D5 p0)] [] (fun v st=>v=(ow 0 0 r)∧st=[(ro 0 155 1 (Cc 3) r)]):=by
 unfold IW at h0
 refine ai Tryz.func91 U U U U (zr tb U U (sr U fun K2 hK2=>zq tb U (zl tb U U (bs h0 fun l3 gl3 h0=>Js (m:=0) (st':=[(ro 0 155 1 (Cc 3) l3)]) (enc:=(Cc 3)) (u:=(By.mk [])) Ke U U ⟨.inr ⟨U,_,_,U,by decide⟩,trivial⟩ gl3 U U (zq tb U (dn hK2 U (AB fun K4 hK4=>zr tb U U (bs h0 fun o9 h1 h0=>?_))))))))
 have M9 :∀(l8:(List By)),o9=l8→∀s,Wk 0 s ⟨23,AS [(3,(ow 0 0 l8))],[(ro 0 155 1 (Cc 3) l8)]⟩→K4 s:=by
  intro l8 hq s hw
  subst o9
  try dsimp only at h0
  refine hK4 _ (AI hw (zr tb U U ?_))
  replace h0:=Sh.AA h0
  subst r
  exact AH (xr (AM (L:=[(2,(ow 0 0 l8))]) ⟨.rfl,trivial⟩))
 refine AJ (AX (σ:=Int×(List By)) (fun n v=>Ej N p0 n v.1 v.2=some o9) (fun (i6,l7)=>⟨23,AS [(0,(ls D5 p0)),(3,(ow 0 0 l7)),(4,(i64 i6))],[(ro 0 155 1 (Cc 3) l7)]⟩) N (0,l3) h1 (AE U) (fun _ hv=>by rw[Ej] at hv;cases hv) ?_)
 rintro n ⟨i6,l7⟩ h1
 try dsimp only at h1 ⊢
 rw[Ej] at h1
 refine AB fun K11 hK11=>sr U fun K12 hK12=>zm tb 2 U (zl tb U U (zq tb U (dn hK12 U ?_)))
 refine ci h1 U ?_ ?_ <;> clear h1
 ·intro b13 h1
  refine AG (hK11 _ (AB fun K14 hK14=>AJ (AF U (zm tb 4 U (bs h1 fun c15 gc15 h1=>zx ao gc15 U U U (zq tb U (bs h1 fun q16 gq16 h1=>BN (v':=(.agg [(ow 1 0 q16.fields)])) Aa bp (RO gq16) rfl U ⟨(BB fun _=>U),trivial⟩ U U (bs h1 fun c17 gc17 h1=>zz (.ptr 0 0 (Int.toNat i6) 0) (BD Ke U U U U gc17) rfl ?_))))))))
  refine Le (st':=[⟨0,155,1,hole l7 (Cc 3) i6 [(ow 1 0 q16.fields)]⟩,(ro 0 3 1 eI q16.fields)]) Aa Lf U U gc17 U U U (show 1≤1 by decide) rfl U ?_
  refine Al (Wk.take (id:=0) (m:=1) (j:=0) (i:=i6) (c:=c17) (ys:=q16.fields) (encY:=eI) rfl gc17 U U U (by decide) (show 0≤1 by decide) (fun _=>U) rfl U) ?_
  refine Al (CB (id:=0) (i:=i6) (u:=q16) rfl U U) (dn hK14 U (AF U (zm tb 3 U ?_)))
  exact AD (xi (Sh.w (i6+1),Sh.put l7 i6 q16) h1 (by refine Wk.trans (AN (L:=[(0,(.sl (List.map D5 p0))),(3,(.own 0 0 (List.length l7))),(4,(i64 (Sh.w (i6+1))))]) (st':=[⟨0,155,1,List.map (Cc 3) (Sh.put l7 i6 q16)⟩]) (st1:=[⟨0,155,1,List.map (Cc 3) (Sh.put l7 i6 q16)⟩]) [0] U .nil (by decide) rfl U (.deep (Ar fun _=>U) .nil) ⟨.rfl,.rfl,.rfl,trivial⟩) ?_;exact AM (L:=[(0,(.sl (List.map D5 p0))),(3,(.own 0 0 (List.length (Sh.put l7 i6 q16)))),(4,(i64 (Sh.w (i6+1))))]) ⟨.rfl,(.len (by simp only[Sh.Af])),.rfl,trivial⟩))
 ·intro b13 h1
  exact Ac (M9 l7 (Sh.AA h1).symm _ (AE U))
theorem Qt {N:Nat} {p0:An} {r:An} (h0:Ic N p0=some r):AY Tryz.prog 61 [(.agg (Ad p0))] [] (fun v st=>v=(.agg [(i64 r.from_),(i64 r.to),(ow 0 0 r.cons)])∧st=[(ro 0 155 1 (Cc 3) r.cons)]):=by
 unfold Ic at h0
 refine AY.wk (r0:=(.agg [(i64 r.from_),(i64 r.to),(ow 0 0 r.cons)])) (st0:=[(ro 0 155 1 (Cc 3) r.cons),⟨0,104,3,[[(i64 r.from_),(i64 r.to),(ow 0 0 r.cons)]]⟩]) ?_ (HU (L:=[(0,(.agg [(i64 r.from_),(i64 r.to),(ow 0 0 r.cons)]))]) (st':=[(ro 0 155 1 (Cc 3) r.cons)]) [0] U (by decide) rfl U (.deep (Ar fun _=>U) trivial) ⟨.rfl,trivial⟩)
 refine ai Tryz.func61 U U U U (sr U fun K1 hK1=>A8 (m:=0) Aa U U U U U (BF (m:=1) Aa Nu U U (dn hK1 U (sr U fun K2 hK2=>BF (m:=2) Aa Nu U U (dn hK2 U (sr U fun K3 hK3=>zm tb 3 U (A7 Aa EF U U U U U U (show 0+1≤3 by decide) rfl (dn hK3 U ?_))))))))
 refine sr U fun K4 hK4=>zm tb 3 U (A7 Aa EF U U U U U U (show 1+1≤3 by decide) rfl (dn hK4 U (sr U fun K5 hK5=>zm tb 2 U (bs h0 fun q6 gq6 h0=>BN (v':=(ow 3 0 q6)) Aa dY (Qh gq6) rfl U ⟨(Ar fun _=>U),trivial⟩ U U (zq tb U (A7 Aa ZK U U U U U U (show 2+1≤3 by decide) rfl (dn hK5 U (sr U fun K7 hK7=>?_))))))))
 refine zq tb U (A7 Aa MS U U U U U U (show 0+3≤3 by decide) rfl (dn hK7 U ?_))
 replace h0:=Sh.AA h0
 subst r
 exact AH (Exists.intro _ (And.intro ((AN (L:=[(2,(.ptr 1 0 0 0))]) (st':=[(ro 0 155 1 (Cc 3) q6),⟨0,104,3,[[(i64 p0.from_),(i64 p0.to),(ow 0 0 q6)]]⟩]) (st1:=[(ro 0 155 1 (Cc 3) q6),⟨0,104,3,[[(i64 p0.from_),(i64 p0.to),(ow 3 0 q6)]]⟩]) [3,1] U .nil (by decide) rfl U (.deep (Ar fun _=>U) (.raw U U .nil)) ⟨.rfl,trivial⟩).trans (AM (L:=[(2,(.ptr 1 0 0 0))]) ⟨.rfl,trivial⟩)) (Fc (x:=.tmp 2) (off:=0) (cs:=[(i64 p0.from_),(i64 p0.to),(ow 0 0 q6)]) (vs:=[(i64 p0.from_),(i64 p0.to),(ow 0 0 q6)]) MS U U U (show 0+3≤3 by decide) rfl _ ⟨U,U⟩)))
theorem Py {N:Nat} {p0:(List An)} {r:(List An)} (h0:Hk N p0=some r):AY Tryz.prog 28 [(ls Ad p0)] [] (fun v st=>v=(ow 0 0 r)∧st=[(ro 0 104 3 (BV 155 3) r)]):=by
 unfold Hk at h0
 refine ai Tryz.func28 U U U U (zr tb U U (sr U fun K2 hK2=>zq tb U (zl tb U U (bs h0 fun l3 gl3 h0=>Js (m:=0) (st':=[(ro 0 104 3 (BV 155 3) l3)]) (enc:=(BV 155 3)) (u:=(An.mk 0 0 [])) HX U U ⟨.inl ⟨U,U⟩,⟨.inl ⟨U,U⟩,⟨.inr ⟨U,_,_,U,by decide⟩,trivial⟩⟩⟩ gl3 U U (zq tb U (dn hK2 U (AB fun K4 hK4=>zr tb U U (bs h0 fun o9 h1 h0=>?_))))))))
 have M9 :∀(l8:(List An)),o9=l8→∀s,Wk 0 s ⟨23,AS [(3,(ow 0 0 l8))],[(ro 0 104 3 (BV 155 3) l8)]⟩→K4 s:=by
  intro l8 hq s hw
  subst o9
  try dsimp only at h0
  refine hK4 _ (AI hw (zr tb U U ?_))
  replace h0:=Sh.AA h0
  subst r
  exact AH (xr (AM (L:=[(2,(ow 0 0 l8))]) ⟨.rfl,trivial⟩))
 refine AJ (AX (σ:=Int×(List An)) (fun n v=>EG N p0 n v.1 v.2=some o9) (fun (i6,l7)=>⟨23,AS [(0,(ls Ad p0)),(3,(ow 0 0 l7)),(4,(i64 i6))],[(ro 0 104 3 (BV 155 3) l7)]⟩) N (0,l3) h1 (AE U) (fun _ hv=>by rw[EG] at hv;cases hv) ?_)
 rintro n ⟨i6,l7⟩ h1
 try dsimp only at h1 ⊢
 rw[EG] at h1
 refine AB fun K11 hK11=>sr U fun K12 hK12=>zm tb 2 U (zl tb U U (zq tb U (dn hK12 U ?_)))
 refine ci h1 U ?_ ?_ <;> clear h1
 ·intro b13 h1
  refine AG (hK11 _ (AB fun K14 hK14=>AJ (AF U (zm tb 4 U (bs h1 fun c15 gc15 h1=>zx aZ gc15 U U U (zq tb U (bs h1 fun q16 gq16 h1=>BN (v':=(.agg [(i64 q16.from_),(i64 q16.to),(ow 1 0 q16.cons)])) Aa ey (Qt gq16) rfl U ⟨(Ar fun _=>U),trivial⟩ U U (bs h1 fun c17 gc17 h1=>zz (.ptr 0 0 (Int.toNat i6) 0) (BD HX U U U U gc17) rfl ?_))))))))
  refine Le (st':=[⟨0,104,3,hole l7 (BV 155 3) i6 [(i64 q16.from_),(i64 q16.to),(ow 1 0 q16.cons)]⟩,(ro 0 155 1 (Cc 3) q16.cons)]) Aa MS U U gc17 U U U (show 3≤3 by decide) rfl U ?_
  refine Al (Wk.take (id:=0) (m:=1) (j:=2) (i:=i6) (c:=c17) (ys:=q16.cons) (encY:=(Cc 3)) rfl gc17 U U U (by decide) (show 0≤1 by decide) (fun _=>U) rfl U) ?_
  refine Al (CB (id:=0) (i:=i6) (u:=q16) rfl U U) (dn hK14 U (AF U (zm tb 3 U ?_)))
  exact AD (xi (Sh.w (i6+1),Sh.put l7 i6 q16) h1 (by refine Wk.trans (AN (L:=[(0,(.sl (List.map Ad p0))),(3,(.own 0 0 (List.length l7))),(4,(i64 (Sh.w (i6+1))))]) (st':=[⟨0,104,3,List.map (BV 155 3) (Sh.put l7 i6 q16)⟩]) (st1:=[⟨0,104,3,List.map (BV 155 3) (Sh.put l7 i6 q16)⟩]) [0] U .nil (by decide) rfl U (.deep (Ar fun _=>U) .nil) ⟨.rfl,.rfl,.rfl,trivial⟩) ?_;exact AM (L:=[(0,(.sl (List.map Ad p0))),(3,(.own 0 0 (List.length (Sh.put l7 i6 q16)))),(4,(i64 (Sh.w (i6+1))))]) ⟨.rfl,(.len (by simp only[Sh.Af])),.rfl,trivial⟩))
 ·intro b13 h1
  exact Ac (M9 l7 (Sh.AA h1).symm _ (AE U))
theorem PY {N:Nat} {p0:Ag} {r:Ag} (h0:Hq N p0=some r):AY Tryz.prog 121 [(.agg (AU p0))] [] (fun v st=>v=(.agg [(i64 r.op),(i64 r.dst),(i64 r.num),(i64 r.BY),(ow 0 0 r.args),(ow 1 0 r.jumps)])∧st=[(ro 0 3 1 eI r.args),(ro 0 3 1 eI r.jumps)]):=by
 unfold Hq at h0
 refine AY.wk (r0:=(.agg [(i64 r.op),(i64 r.dst),(i64 r.num),(i64 r.BY),(ow 0 0 r.args),(ow 1 0 r.jumps)])) (st0:=[(ro 0 3 1 eI r.args),(ro 0 3 1 eI r.jumps),⟨0,132,6,[[(i64 r.op),(i64 r.dst),(i64 r.num),(i64 r.BY),(ow 0 0 r.args),(ow 1 0 r.jumps)]]⟩]) ?_ (HU (L:=[(0,(.agg [(i64 r.op),(i64 r.dst),(i64 r.num),(i64 r.BY),(ow 0 0 r.args),(ow 1 0 r.jumps)]))]) (st':=[(ro 0 3 1 eI r.args),(ro 0 3 1 eI r.jumps)]) [0,1] U (by decide) rfl U (.pure (AL fun _=>U) (.pure (AL fun _=>U) trivial)) ⟨.rfl,trivial⟩)
 refine ai Tryz.func121 U U U U (sr U fun K1 hK1=>A8 (m:=0) Aa U U U U U (BF (m:=1) Aa PX U U (dn hK1 U (sr U fun K2 hK2=>BF (m:=2) Aa PX U U (dn hK2 U (sr U fun K3 hK3=>zm tb 3 U (A7 Aa EF U U U U U U (show 0+1≤6 by decide) rfl (dn hK3 U ?_))))))))
 refine sr U fun K4 hK4=>zm tb 3 U (A7 Aa EF U U U U U U (show 1+1≤6 by decide) rfl (dn hK4 U (sr U fun K5 hK5=>zm tb 3 U (A7 Aa EF U U U U U U (show 2+1≤6 by decide) rfl (dn hK5 U (sr U fun K6 hK6=>zm tb 3 U (A7 Aa EF U U U U U U (show 3+1≤6 by decide) rfl (dn hK6 U ?_))))))))
 refine sr U fun K7 hK7=>zm tb 2 U (bs h0 fun q8 gq8 h0=>BN (v':=(ow 3 0 q8)) Aa NT (DU gq8) rfl U ⟨(BB fun _=>U),trivial⟩ U U (zq tb U (A7 Aa Hn U U U U U U (show 4+1≤6 by decide) rfl (dn hK7 U (sr U fun K9 hK9=>zm tb 2 U (bs h0 fun q10 gq10 h0=>BN (v':=(ow 4 0 q10)) Aa NT (DU gq10) rfl U ⟨(BB fun _=>U),trivial⟩ U U (zq tb U ?_)))))))
 refine A7 Aa Hn U U U U U U (show 5+1≤6 by decide) rfl (dn hK9 U (sr U fun K11 hK11=>zq tb U (A7 Aa N3 U U U U U U (show 0+6≤6 by decide) rfl (dn hK11 U ?_))))
 replace h0:=Sh.AA h0
 subst r
 exact AH (Exists.intro _ (And.intro ((AN (L:=[(2,(.ptr 2 0 0 0))]) (st':=[(ro 0 3 1 eI q8),(ro 0 3 1 eI q10),⟨0,132,6,[[(i64 p0.op),(i64 p0.dst),(i64 p0.num),(i64 p0.BY),(ow 0 0 q8),(ow 1 0 q10)]]⟩]) (st1:=[(ro 0 3 1 eI q8),(ro 0 3 1 eI q10),⟨0,132,6,[[(i64 p0.op),(i64 p0.dst),(i64 p0.num),(i64 p0.BY),(ow 3 0 q8),(ow 4 0 q10)]]⟩]) [3,4,1] U .nil (by decide) rfl U (.pure (AL fun _=>U) (.pure (AL fun _=>U) (.raw U U .nil))) ⟨.rfl,trivial⟩).trans (AM (L:=[(2,(.ptr 2 0 0 0))]) ⟨.rfl,trivial⟩)) (Fc (x:=.tmp 2) (off:=0) (cs:=[(i64 p0.op),(i64 p0.dst),(i64 p0.num),(i64 p0.BY),(ow 0 0 q8),(ow 1 0 q10)]) (vs:=[(i64 p0.op),(i64 p0.dst),(i64 p0.num),(i64 p0.BY),(ow 0 0 q8),(ow 1 0 q10)]) N3 U U U (show 0+6≤6 by decide) rfl _ ⟨U,U⟩)))
theorem Om {N:Nat} {p0:(List Ag)} {r:(List Ag)} (h0:G3 N p0=some r):AY Tryz.prog 92 [(ls AU p0)] [] (fun v st=>v=(ow 0 0 r)∧st=[(ro 0 132 6 (Bb 3 3) r)]):=by
 unfold G3 at h0
 refine ai Tryz.func92 U U U U (zr tb U U (sr U fun K2 hK2=>zq tb U (zl tb U U (bs h0 fun l3 gl3 h0=>Js (m:=0) (st':=[(ro 0 132 6 (Bb 3 3) l3)]) (enc:=(Bb 3 3)) (u:=(Ag.mk 0 0 0 0 [] [])) IB U U ⟨.inl ⟨U,U⟩,⟨.inl ⟨U,U⟩,⟨.inl ⟨U,U⟩,⟨.inl ⟨U,U⟩,⟨.inr ⟨U,_,_,U,by decide⟩,⟨.inr ⟨U,_,_,U,by decide⟩,trivial⟩⟩⟩⟩⟩⟩ gl3 U U (zq tb U (dn hK2 U (AB fun K4 hK4=>zr tb U U (bs h0 fun o9 h1 h0=>?_))))))))
 have M9 :∀(l8:(List Ag)),o9=l8→∀s,Wk 0 s ⟨23,AS [(3,(ow 0 0 l8))],[(ro 0 132 6 (Bb 3 3) l8)]⟩→K4 s:=by
  intro l8 hq s hw
  subst o9
  try dsimp only at h0
  refine hK4 _ (AI hw (zr tb U U ?_))
  replace h0:=Sh.AA h0
  subst r
  exact AH (xr (AM (L:=[(2,(ow 0 0 l8))]) ⟨.rfl,trivial⟩))
 refine AJ (AX (σ:=Int×(List Ag)) (fun n v=>Dw N p0 n v.1 v.2=some o9) (fun (i6,l7)=>⟨23,AS [(0,(ls AU p0)),(3,(ow 0 0 l7)),(4,(i64 i6))],[(ro 0 132 6 (Bb 3 3) l7)]⟩) N (0,l3) h1 (AE U) (fun _ hv=>by rw[Dw] at hv;cases hv) ?_)
 rintro n ⟨i6,l7⟩ h1
 try dsimp only at h1 ⊢
 rw[Dw] at h1
 refine AB fun K11 hK11=>sr U fun K12 hK12=>zm tb 2 U (zl tb U U (zq tb U (dn hK12 U ?_)))
 refine ci h1 U ?_ ?_ <;> clear h1
 ·intro b13 h1
  refine AG (hK11 _ (AB fun K14 hK14=>AJ (AF U (zm tb 4 U (bs h1 fun c15 gc15 h1=>zx an gc15 U U U (zq tb U (bs h1 fun q16 gq16 h1=>BN (v':=(.agg [(i64 q16.op),(i64 q16.dst),(i64 q16.num),(i64 q16.BY),(ow 1 0 q16.args),(ow 2 0 q16.jumps)])) Aa cC (PY gq16) rfl U ⟨(BB fun _=>U),⟨(BB fun _=>U),trivial⟩⟩ U U (bs h1 fun c17 gc17 h1=>zz (.ptr 0 0 (Int.toNat i6) 0) (BD IB U U U U gc17) rfl ?_))))))))
  refine Le (st':=[⟨0,132,6,hole l7 (Bb 3 3) i6 [(i64 q16.op),(i64 q16.dst),(i64 q16.num),(i64 q16.BY),(ow 1 0 q16.args),(ow 2 0 q16.jumps)]⟩,(ro 0 3 1 eI q16.args),(ro 0 3 1 eI q16.jumps)]) Aa N3 U U gc17 U U U (show 6≤6 by decide) rfl U ?_
  refine Al (Wk.take (id:=0) (m:=1) (j:=4) (i:=i6) (c:=c17) (ys:=q16.args) (encY:=eI) rfl gc17 U U U (by decide) (show 0≤1 by decide) (fun _=>U) rfl U) ?_
  refine Al (Wk.take (id:=0) (m:=2) (j:=5) (i:=i6) (c:=c17) (ys:=q16.jumps) (encY:=eI) rfl gc17 U U U (by decide) (show 0≤2 by decide) (fun _=>U) rfl U) ?_
  refine Al (CB (id:=0) (i:=i6) (u:=q16) rfl U U) (dn hK14 U (AF U (zm tb 3 U ?_)))
  exact AD (xi (Sh.w (i6+1),Sh.put l7 i6 q16) h1 (by refine Wk.trans (AN (L:=[(0,(.sl (List.map AU p0))),(3,(.own 0 0 (List.length l7))),(4,(i64 (Sh.w (i6+1))))]) (st':=[⟨0,132,6,List.map (Bb 3 3) (Sh.put l7 i6 q16)⟩]) (st1:=[⟨0,132,6,List.map (Bb 3 3) (Sh.put l7 i6 q16)⟩]) [0] U .nil (by decide) rfl U (.deep (Ar fun _=>U) .nil) ⟨.rfl,.rfl,.rfl,trivial⟩) ?_;exact AM (L:=[(0,(.sl (List.map AU p0))),(3,(.own 0 0 (List.length (Sh.put l7 i6 q16)))),(4,(i64 (Sh.w (i6+1))))]) ⟨.rfl,(.len (by simp only[Sh.Af])),.rfl,trivial⟩))
 ·intro b13 h1
  exact Ac (M9 l7 (Sh.AA h1).symm _ (AE U))
theorem Qg {N:Nat} {p0:A0} {r:A0} (h0:Ih N p0=some r):AY Tryz.prog 62 [(.agg (Az p0))] [] (fun v st=>v=(.agg [(ow 0 0 r.params),(ow 1 0 r.BH),(i64 r.result),(i64 r.Ab),(ow 2 0 r.code)])∧st=[(ro 0 3 1 eI r.params),(ro 0 3 1 eI r.BH),(ro 0 132 6 (Bb 3 3) r.code)]):=by
 unfold Ih at h0
 refine AY.wk (r0:=(.agg [(ow 0 0 r.params),(ow 1 0 r.BH),(i64 r.result),(i64 r.Ab),(ow 2 0 r.code)])) (st0:=[(ro 0 3 1 eI r.params),(ro 0 3 1 eI r.BH),(ro 0 132 6 (Bb 3 3) r.code),⟨0,99,5,[[(ow 0 0 r.params),(ow 1 0 r.BH),(i64 r.result),(i64 r.Ab),(ow 2 0 r.code)]]⟩]) ?_ (HU (L:=[(0,(.agg [(ow 0 0 r.params),(ow 1 0 r.BH),(i64 r.result),(i64 r.Ab),(ow 2 0 r.code)]))]) (st':=[(ro 0 3 1 eI r.params),(ro 0 3 1 eI r.BH),(ro 0 132 6 (Bb 3 3) r.code)]) [0,1,2] U (by decide) rfl U (.pure (AL fun _=>U) (.pure (AL fun _=>U) (.deep (Ar fun _=>U) trivial))) ⟨.rfl,trivial⟩)
 refine ai Tryz.func62 U U U U (sr U fun K1 hK1=>A8 (m:=0) Aa U U U U U (BF (m:=1) Aa RF U U (dn hK1 U (sr U fun K2 hK2=>BF (m:=2) Aa RF U U (dn hK2 U (sr U fun K3 hK3=>zm tb 2 U (bs h0 fun q4 gq4 h0=>BN (v':=(ow 3 0 q4)) Aa NT (DU gq4) rfl U ⟨(BB fun _=>U),trivial⟩ U U ?_)))))))
 refine zq tb U (A7 Aa Hn U U U U U U (show 0+1≤5 by decide) rfl (dn hK3 U (sr U fun K5 hK5=>zm tb 2 U (bs h0 fun q6 gq6 h0=>BN (v':=(ow 4 0 q6)) Aa NT (DU gq6) rfl U ⟨(BB fun _=>U),trivial⟩ U U (zq tb U (A7 Aa Hn U U U U U U (show 1+1≤5 by decide) rfl (dn hK5 U (sr U fun K7 hK7=>zm tb 3 U ?_))))))))
 refine A7 Aa EF U U U U U U (show 2+1≤5 by decide) rfl (dn hK7 U (sr U fun K8 hK8=>zm tb 3 U (A7 Aa EF U U U U U U (show 3+1≤5 by decide) rfl (dn hK8 U (sr U fun K9 hK9=>zm tb 2 U (bs h0 fun q10 gq10 h0=>BN (v':=(ow 5 0 q10)) Aa df (Om gq10) rfl U ⟨(Ar fun _=>U),trivial⟩ U U (zq tb U (A7 Aa au U U U U U U (show 4+1≤5 by decide) rfl ?_))))))))
 refine dn hK9 U (sr U fun K11 hK11=>zq tb U (A7 Aa QQ U U U U U U (show 0+5≤5 by decide) rfl (dn hK11 U ?_)))
 replace h0:=Sh.AA h0
 subst r
 exact AH (Exists.intro _ (And.intro ((AN (L:=[(2,(.ptr 3 0 0 0))]) (st':=[(ro 0 3 1 eI q4),(ro 0 3 1 eI q6),(ro 0 132 6 (Bb 3 3) q10),⟨0,99,5,[[(ow 0 0 q4),(ow 1 0 q6),(i64 p0.result),(i64 p0.Ab),(ow 2 0 q10)]]⟩]) (st1:=[(ro 0 3 1 eI q4),(ro 0 3 1 eI q6),(ro 0 132 6 (Bb 3 3) q10),⟨0,99,5,[[(ow 3 0 q4),(ow 4 0 q6),(i64 p0.result),(i64 p0.Ab),(ow 5 0 q10)]]⟩]) [3,4,5,1] U .nil (by decide) rfl U (.pure (AL fun _=>U) (.pure (AL fun _=>U) (.deep (Ar fun _=>U) (.raw U U .nil)))) ⟨.rfl,trivial⟩).trans (AM (L:=[(2,(.ptr 3 0 0 0))]) ⟨.rfl,trivial⟩)) (Fc (x:=.tmp 2) (off:=0) (cs:=[(ow 0 0 q4),(ow 1 0 q6),(i64 p0.result),(i64 p0.Ab),(ow 2 0 q10)]) (vs:=[(ow 0 0 q4),(ow 1 0 q6),(i64 p0.result),(i64 p0.Ab),(ow 2 0 q10)]) QQ U U U (show 0+5≤5 by decide) rfl _ ⟨U,U⟩)))
theorem Pw {N:Nat} {p0:(List A0)} {r:(List A0)} (h0:Hg N p0=some r):AY Tryz.prog 29 [(ls Az p0)] [] (fun v st=>v=(ow 0 0 r)∧st=[(ro 0 99 5 (BQ 3 3 132 3 3) r)]):=by
 unfold Hg at h0
 refine ai Tryz.func29 U U U U (zr tb U U (sr U fun K2 hK2=>zq tb U (zl tb U U (bs h0 fun l3 gl3 h0=>Js (m:=0) (st':=[(ro 0 99 5 (BQ 3 3 132 3 3) l3)]) (enc:=(BQ 3 3 132 3 3)) (u:=(A0.mk [] [] 0 0 [])) IC U U ⟨.inr ⟨U,_,_,U,by decide⟩,⟨.inr ⟨U,_,_,U,by decide⟩,⟨.inl ⟨U,U⟩,⟨.inl ⟨U,U⟩,⟨.inr ⟨U,_,_,U,by decide⟩,trivial⟩⟩⟩⟩⟩ gl3 U U (zq tb U (dn hK2 U (AB fun K4 hK4=>zr tb U U (bs h0 fun o9 h1 h0=>?_))))))))
 have M9 :∀(l8:(List A0)),o9=l8→∀s,Wk 0 s ⟨23,AS [(3,(ow 0 0 l8))],[(ro 0 99 5 (BQ 3 3 132 3 3) l8)]⟩→K4 s:=by
  intro l8 hq s hw
  subst o9
  try dsimp only at h0
  refine hK4 _ (AI hw (zr tb U U ?_))
  replace h0:=Sh.AA h0
  subst r
  exact AH (xr (AM (L:=[(2,(ow 0 0 l8))]) ⟨.rfl,trivial⟩))
 refine AJ (AX (σ:=Int×(List A0)) (fun n v=>EP N p0 n v.1 v.2=some o9) (fun (i6,l7)=>⟨23,AS [(0,(ls Az p0)),(3,(ow 0 0 l7)),(4,(i64 i6))],[(ro 0 99 5 (BQ 3 3 132 3 3) l7)]⟩) N (0,l3) h1 (AE U) (fun _ hv=>by rw[EP] at hv;cases hv) ?_)
 rintro n ⟨i6,l7⟩ h1
 try dsimp only at h1 ⊢
 rw[EP] at h1
 refine AB fun K11 hK11=>sr U fun K12 hK12=>zm tb 2 U (zl tb U U (zq tb U (dn hK12 U ?_)))
 refine ci h1 U ?_ ?_ <;> clear h1
 ·intro b13 h1
  refine AG (hK11 _ (AB fun K14 hK14=>AJ (AF U (zm tb 4 U (bs h1 fun c15 gc15 h1=>zx aj gc15 U U U (zq tb U (bs h1 fun q16 gq16 h1=>BN (v':=(.agg [(ow 1 0 q16.params),(ow 2 0 q16.BH),(i64 q16.result),(i64 q16.Ab),(ow 3 0 q16.code)])) Aa ee (Qg gq16) rfl U ⟨(BB fun _=>U),⟨(BB fun _=>U),⟨(Ar fun _=>U),trivial⟩⟩⟩ U U (bs h1 fun c17 gc17 h1=>zz (.ptr 0 0 (Int.toNat i6) 0) (BD IC U U U U gc17) rfl ?_))))))))
  refine Le (st':=[⟨0,99,5,hole l7 (BQ 3 3 132 3 3) i6 [(ow 1 0 q16.params),(ow 2 0 q16.BH),(i64 q16.result),(i64 q16.Ab),(ow 3 0 q16.code)]⟩,(ro 0 3 1 eI q16.params),(ro 0 3 1 eI q16.BH),(ro 0 132 6 (Bb 3 3) q16.code)]) Aa QQ U U gc17 U U U (show 5≤5 by decide) rfl U ?_
  refine Al (Wk.take (id:=0) (m:=1) (j:=0) (i:=i6) (c:=c17) (ys:=q16.params) (encY:=eI) rfl gc17 U U U (by decide) (show 0≤1 by decide) (fun _=>U) rfl U) ?_
  refine Al (Wk.take (id:=0) (m:=2) (j:=1) (i:=i6) (c:=c17) (ys:=q16.BH) (encY:=eI) rfl gc17 U U U (by decide) (show 0≤2 by decide) (fun _=>U) rfl U) ?_
  refine Al (Wk.take (id:=0) (m:=3) (j:=4) (i:=i6) (c:=c17) (ys:=q16.code) (encY:=(Bb 3 3)) rfl gc17 U U U (by decide) (show 0≤3 by decide) (fun _=>U) rfl U) ?_
  refine Al (CB (id:=0) (i:=i6) (u:=q16) rfl U U) (dn hK14 U (AF U (zm tb 3 U ?_)))
  exact AD (xi (Sh.w (i6+1),Sh.put l7 i6 q16) h1 (by refine Wk.trans (AN (L:=[(0,(.sl (List.map Az p0))),(3,(.own 0 0 (List.length l7))),(4,(i64 (Sh.w (i6+1))))]) (st':=[⟨0,99,5,List.map (BQ 3 3 132 3 3) (Sh.put l7 i6 q16)⟩]) (st1:=[⟨0,99,5,List.map (BQ 3 3 132 3 3) (Sh.put l7 i6 q16)⟩]) [0] U .nil (by decide) rfl U (.deep (Ar fun _=>U) .nil) ⟨.rfl,.rfl,.rfl,trivial⟩) ?_;exact AM (L:=[(0,(.sl (List.map Az p0))),(3,(.own 0 0 (List.length (Sh.put l7 i6 q16)))),(4,(i64 (Sh.w (i6+1))))]) ⟨.rfl,(.len (by simp only[Sh.Af])),.rfl,trivial⟩))
 ·intro b13 h1
  exact Ac (M9 l7 (Sh.AA h1).symm _ (AE U))
theorem HV {N:Nat} {p0:Au} {r:Au} (h0:FL N p0=some r):AY Tryz.prog 8 [(.agg (Ao p0))] [] (fun v st=>v=(.agg [(ow 0 0 r.decls),(ow 1 0 r.procs)])∧st=[(ro 0 104 3 (BV 155 3) r.decls),(ro 0 99 5 (BQ 3 3 132 3 3) r.procs)]):=by
 unfold FL at h0
 refine AY.wk (r0:=(.agg [(ow 0 0 r.decls),(ow 1 0 r.procs)])) (st0:=[(ro 0 104 3 (BV 155 3) r.decls),(ro 0 99 5 (BQ 3 3 132 3 3) r.procs),⟨0,37,2,[[(ow 0 0 r.decls),(ow 1 0 r.procs)]]⟩]) ?_ (HU (L:=[(0,(.agg [(ow 0 0 r.decls),(ow 1 0 r.procs)]))]) (st':=[(ro 0 104 3 (BV 155 3) r.decls),(ro 0 99 5 (BQ 3 3 132 3 3) r.procs)]) [0,1] U (by decide) rfl U (.deep (Ar fun _=>U) (.deep (Ar fun _=>U) trivial)) ⟨.rfl,trivial⟩)
 refine ai Tryz.func8 U U U U (sr U fun K1 hK1=>A8 (m:=0) Aa U U U U U (BF (m:=1) Aa ZQ U U (dn hK1 U (sr U fun K2 hK2=>BF (m:=2) Aa ZQ U U (dn hK2 U (sr U fun K3 hK3=>zm tb 2 U (bs h0 fun q4 gq4 h0=>BN (v':=(ow 3 0 q4)) Aa cw (Py gq4) rfl U ⟨(Ar fun _=>U),trivial⟩ U U ?_)))))))
 refine zq tb U (A7 Aa da U U U U U U (show 0+1≤2 by decide) rfl (dn hK3 U (sr U fun K5 hK5=>zm tb 2 U (bs h0 fun q6 gq6 h0=>BN (v':=(ow 4 0 q6)) Aa dQ (Pw gq6) rfl U ⟨(Ar fun _=>U),trivial⟩ U U (zq tb U (A7 Aa dM U U U U U U (show 1+1≤2 by decide) rfl (dn hK5 U (sr U fun K7 hK7=>zq tb U ?_))))))))
 refine A7 Aa YW U U U U U U (show 0+2≤2 by decide) rfl (dn hK7 U ?_)
 replace h0:=Sh.AA h0
 subst r
 exact AH (Exists.intro _ (And.intro ((AN (L:=[(2,(.ptr 2 0 0 0))]) (st':=[(ro 0 104 3 (BV 155 3) q4),(ro 0 99 5 (BQ 3 3 132 3 3) q6),⟨0,37,2,[[(ow 0 0 q4),(ow 1 0 q6)]]⟩]) (st1:=[(ro 0 104 3 (BV 155 3) q4),(ro 0 99 5 (BQ 3 3 132 3 3) q6),⟨0,37,2,[[(ow 3 0 q4),(ow 4 0 q6)]]⟩]) [3,4,1] U .nil (by decide) rfl U (.deep (Ar fun _=>U) (.deep (Ar fun _=>U) (.raw U U .nil))) ⟨.rfl,trivial⟩).trans (AM (L:=[(2,(.ptr 2 0 0 0))]) ⟨.rfl,trivial⟩)) (Fc (x:=.tmp 2) (off:=0) (cs:=[(ow 0 0 q4),(ow 1 0 q6)]) (vs:=[(ow 0 0 q4),(ow 1 0 q6)]) YW U U U (show 0+2≤2 by decide) rfl _ ⟨U,U⟩)))
theorem Qm {N:Nat} {p0:Cell} {r:Cell} (h0:Ik N p0=some r):AY Tryz.prog 63 [(.agg (Aj p0))] [] (fun v st=>v=(.agg [(i64 r.count),(i64 r.tag),(ow 0 0 r.fields)])∧st=[(ro 0 3 1 eI r.fields)]):=by
 unfold Ik at h0
 refine AY.wk (r0:=(.agg [(i64 r.count),(i64 r.tag),(ow 0 0 r.fields)])) (st0:=[(ro 0 3 1 eI r.fields),⟨0,71,3,[[(i64 r.count),(i64 r.tag),(ow 0 0 r.fields)]]⟩]) ?_ (HU (L:=[(0,(.agg [(i64 r.count),(i64 r.tag),(ow 0 0 r.fields)]))]) (st':=[(ro 0 3 1 eI r.fields)]) [0] U (by decide) rfl U (.pure (AL fun _=>U) trivial) ⟨.rfl,trivial⟩)
 refine ai Tryz.func63 U U U U (sr U fun K1 hK1=>A8 (m:=0) Aa U U U U U (BF (m:=1) Aa SW U U (dn hK1 U (sr U fun K2 hK2=>BF (m:=2) Aa SW U U (dn hK2 U (sr U fun K3 hK3=>zm tb 3 U (A7 Aa EF U U U U U U (show 0+1≤3 by decide) rfl (dn hK3 U ?_))))))))
 refine sr U fun K4 hK4=>zm tb 3 U (A7 Aa EF U U U U U U (show 1+1≤3 by decide) rfl (dn hK4 U (sr U fun K5 hK5=>zm tb 2 U (bs h0 fun q6 gq6 h0=>BN (v':=(ow 3 0 q6)) Aa NT (DU gq6) rfl U ⟨(BB fun _=>U),trivial⟩ U U (zq tb U (A7 Aa Hn U U U U U U (show 2+1≤3 by decide) rfl (dn hK5 U (sr U fun K7 hK7=>?_))))))))
 refine zq tb U (A7 Aa QY U U U U U U (show 0+3≤3 by decide) rfl (dn hK7 U ?_))
 replace h0:=Sh.AA h0
 subst r
 exact AH (Exists.intro _ (And.intro ((AN (L:=[(2,(.ptr 1 0 0 0))]) (st':=[(ro 0 3 1 eI q6),⟨0,71,3,[[(i64 p0.count),(i64 p0.tag),(ow 0 0 q6)]]⟩]) (st1:=[(ro 0 3 1 eI q6),⟨0,71,3,[[(i64 p0.count),(i64 p0.tag),(ow 3 0 q6)]]⟩]) [3,1] U .nil (by decide) rfl U (.pure (AL fun _=>U) (.raw U U .nil)) ⟨.rfl,trivial⟩).trans (AM (L:=[(2,(.ptr 1 0 0 0))]) ⟨.rfl,trivial⟩)) (Fc (x:=.tmp 2) (off:=0) (cs:=[(i64 p0.count),(i64 p0.tag),(ow 0 0 q6)]) (vs:=[(i64 p0.count),(i64 p0.tag),(ow 0 0 q6)]) QY U U U (show 0+3≤3 by decide) rfl _ ⟨U,U⟩)))
theorem QA {N:Nat} {p0:(List Cell)} {r:(List Cell)} (h0:Hv N p0=some r):AY Tryz.prog 31 [(ls Aj p0)] [] (fun v st=>v=(ow 0 0 r)∧st=[(ro 0 71 3 (Be 3) r)]):=by
 unfold Hv at h0
 refine ai Tryz.func31 U U U U (zr tb U U (sr U fun K2 hK2=>zq tb U (zl tb U U (bs h0 fun l3 gl3 h0=>Js (m:=0) (st':=[(ro 0 71 3 (Be 3) l3)]) (enc:=(Be 3)) (u:=(Cell.mk 0 0 [])) FI U U ⟨.inl ⟨U,U⟩,⟨.inl ⟨U,U⟩,⟨.inr ⟨U,_,_,U,by decide⟩,trivial⟩⟩⟩ gl3 U U (zq tb U (dn hK2 U (AB fun K4 hK4=>zr tb U U (bs h0 fun o9 h1 h0=>?_))))))))
 have M9 :∀(l8:(List Cell)),o9=l8→∀s,Wk 0 s ⟨23,AS [(3,(ow 0 0 l8))],[(ro 0 71 3 (Be 3) l8)]⟩→K4 s:=by
  intro l8 hq s hw
  subst o9
  try dsimp only at h0
  refine hK4 _ (AI hw (zr tb U U ?_))
  replace h0:=Sh.AA h0
  subst r
  exact AH (xr (AM (L:=[(2,(ow 0 0 l8))]) ⟨.rfl,trivial⟩))
 refine AJ (AX (σ:=Int×(List Cell)) (fun n v=>De N p0 n v.1 v.2=some o9) (fun (i6,l7)=>⟨23,AS [(0,(ls Aj p0)),(3,(ow 0 0 l7)),(4,(i64 i6))],[(ro 0 71 3 (Be 3) l7)]⟩) N (0,l3) h1 (AE U) (fun _ hv=>by rw[De] at hv;cases hv) ?_)
 rintro n ⟨i6,l7⟩ h1
 try dsimp only at h1 ⊢
 rw[De] at h1
 refine AB fun K11 hK11=>sr U fun K12 hK12=>zm tb 2 U (zl tb U U (zq tb U (dn hK12 U ?_)))
 refine ci h1 U ?_ ?_ <;> clear h1
 ·intro b13 h1
  refine AG (hK11 _ (AB fun K14 hK14=>AJ (AF U (zm tb 4 U (bs h1 fun c15 gc15 h1=>zx aa gc15 U U U (zq tb U (bs h1 fun q16 gq16 h1=>BN (v':=(.agg [(i64 q16.count),(i64 q16.tag),(ow 1 0 q16.fields)])) Aa de (Qm gq16) rfl U ⟨(BB fun _=>U),trivial⟩ U U (bs h1 fun c17 gc17 h1=>zz (.ptr 0 0 (Int.toNat i6) 0) (BD FI U U U U gc17) rfl ?_))))))))
  refine Le (st':=[⟨0,71,3,hole l7 (Be 3) i6 [(i64 q16.count),(i64 q16.tag),(ow 1 0 q16.fields)]⟩,(ro 0 3 1 eI q16.fields)]) Aa QY U U gc17 U U U (show 3≤3 by decide) rfl U ?_
  refine Al (Wk.take (id:=0) (m:=1) (j:=2) (i:=i6) (c:=c17) (ys:=q16.fields) (encY:=eI) rfl gc17 U U U (by decide) (show 0≤1 by decide) (fun _=>U) rfl U) ?_
  refine Al (CB (id:=0) (i:=i6) (u:=q16) rfl U U) (dn hK14 U (AF U (zm tb 3 U ?_)))
  exact AD (xi (Sh.w (i6+1),Sh.put l7 i6 q16) h1 (by refine Wk.trans (AN (L:=[(0,(.sl (List.map Aj p0))),(3,(.own 0 0 (List.length l7))),(4,(i64 (Sh.w (i6+1))))]) (st':=[⟨0,71,3,List.map (Be 3) (Sh.put l7 i6 q16)⟩]) (st1:=[⟨0,71,3,List.map (Be 3) (Sh.put l7 i6 q16)⟩]) [0] U .nil (by decide) rfl U (.deep (Ar fun _=>U) .nil) ⟨.rfl,.rfl,.rfl,trivial⟩) ?_;exact AM (L:=[(0,(.sl (List.map Aj p0))),(3,(.own 0 0 (List.length (Sh.put l7 i6 q16)))),(4,(i64 (Sh.w (i6+1))))]) ⟨.rfl,(.len (by simp only[Sh.Af])),.rfl,trivial⟩))
 ·intro b13 h1
  exact Ac (M9 l7 (Sh.AA h1).symm _ (AE U))
theorem P8 {N:Nat} {p0:Ai} {r:Ai} (h0:Hr N p0=some r):AY Tryz.prog 64 [(.agg (Ax p0))] [] (fun v st=>v=(.agg [(i64 r.proc),(i64 r.at_),(i64 r.dst),(ow 0 0 r.Ab),(ow 1 0 r.own),(ow 2 0 r.held)])∧st=[(ro 0 3 1 eI r.Ab),(ro 0 3 1 eI r.own),(ro 0 3 1 eI r.held)]):=by
 unfold Hr at h0
 refine AY.wk (r0:=(.agg [(i64 r.proc),(i64 r.at_),(i64 r.dst),(ow 0 0 r.Ab),(ow 1 0 r.own),(ow 2 0 r.held)])) (st0:=[(ro 0 3 1 eI r.Ab),(ro 0 3 1 eI r.own),(ro 0 3 1 eI r.held),⟨0,94,6,[[(i64 r.proc),(i64 r.at_),(i64 r.dst),(ow 0 0 r.Ab),(ow 1 0 r.own),(ow 2 0 r.held)]]⟩]) ?_ (HU (L:=[(0,(.agg [(i64 r.proc),(i64 r.at_),(i64 r.dst),(ow 0 0 r.Ab),(ow 1 0 r.own),(ow 2 0 r.held)]))]) (st':=[(ro 0 3 1 eI r.Ab),(ro 0 3 1 eI r.own),(ro 0 3 1 eI r.held)]) [0,1,2] U (by decide) rfl U (.pure (AL fun _=>U) (.pure (AL fun _=>U) (.pure (AL fun _=>U) trivial))) ⟨.rfl,trivial⟩)
 refine ai Tryz.func64 U U U U (sr U fun K1 hK1=>A8 (m:=0) Aa U U U U U (BF (m:=1) Aa SL U U (dn hK1 U (sr U fun K2 hK2=>BF (m:=2) Aa SL U U (dn hK2 U (sr U fun K3 hK3=>zm tb 3 U (A7 Aa EF U U U U U U (show 0+1≤6 by decide) rfl (dn hK3 U ?_))))))))
 refine sr U fun K4 hK4=>zm tb 3 U (A7 Aa EF U U U U U U (show 1+1≤6 by decide) rfl (dn hK4 U (sr U fun K5 hK5=>zm tb 3 U (A7 Aa EF U U U U U U (show 2+1≤6 by decide) rfl (dn hK5 U (sr U fun K6 hK6=>zm tb 2 U (bs h0 fun q7 gq7 h0=>BN (v':=(ow 3 0 q7)) Aa NT (DU gq7) rfl U ⟨(BB fun _=>U),trivial⟩ U U ?_)))))))
 refine zq tb U (A7 Aa Hn U U U U U U (show 3+1≤6 by decide) rfl (dn hK6 U (sr U fun K8 hK8=>zm tb 2 U (bs h0 fun q9 gq9 h0=>BN (v':=(ow 4 0 q9)) Aa NT (DU gq9) rfl U ⟨(BB fun _=>U),trivial⟩ U U (zq tb U (A7 Aa Hn U U U U U U (show 4+1≤6 by decide) rfl (dn hK8 U (sr U fun K10 hK10=>zm tb 2 U ?_))))))))
 refine bs h0 fun q11 gq11 h0=>BN (v':=(ow 5 0 q11)) Aa NT (DU gq11) rfl U ⟨(BB fun _=>U),trivial⟩ U U (zq tb U (A7 Aa Hn U U U U U U (show 5+1≤6 by decide) rfl (dn hK10 U (sr U fun K12 hK12=>zq tb U (A7 Aa QO U U U U U U (show 0+6≤6 by decide) rfl (dn hK12 U ?_))))))
 replace h0:=Sh.AA h0
 subst r
 exact AH (Exists.intro _ (And.intro ((AN (L:=[(2,(.ptr 3 0 0 0))]) (st':=[(ro 0 3 1 eI q7),(ro 0 3 1 eI q9),(ro 0 3 1 eI q11),⟨0,94,6,[[(i64 p0.proc),(i64 p0.at_),(i64 p0.dst),(ow 0 0 q7),(ow 1 0 q9),(ow 2 0 q11)]]⟩]) (st1:=[(ro 0 3 1 eI q7),(ro 0 3 1 eI q9),(ro 0 3 1 eI q11),⟨0,94,6,[[(i64 p0.proc),(i64 p0.at_),(i64 p0.dst),(ow 3 0 q7),(ow 4 0 q9),(ow 5 0 q11)]]⟩]) [3,4,5,1] U .nil (by decide) rfl U (.pure (AL fun _=>U) (.pure (AL fun _=>U) (.pure (AL fun _=>U) (.raw U U .nil)))) ⟨.rfl,trivial⟩).trans (AM (L:=[(2,(.ptr 3 0 0 0))]) ⟨.rfl,trivial⟩)) (Fc (x:=.tmp 2) (off:=0) (cs:=[(i64 p0.proc),(i64 p0.at_),(i64 p0.dst),(ow 0 0 q7),(ow 1 0 q9),(ow 2 0 q11)]) (vs:=[(i64 p0.proc),(i64 p0.at_),(i64 p0.dst),(ow 0 0 q7),(ow 1 0 q9),(ow 2 0 q11)]) QO U U U (show 0+6≤6 by decide) rfl _ ⟨U,U⟩)))
theorem O3 {N:Nat} {p0:(List Ai)} {r:(List Ai)} (h0:HE N p0=some r):AY Tryz.prog 32 [(ls Ax p0)] [] (fun v st=>v=(ow 0 0 r)∧st=[(ro 0 94 6 (BG 3 3 3) r)]):=by
 unfold HE at h0
 refine ai Tryz.func32 U U U U (zr tb U U (sr U fun K2 hK2=>zq tb U (zl tb U U (bs h0 fun l3 gl3 h0=>Js (m:=0) (st':=[(ro 0 94 6 (BG 3 3 3) l3)]) (enc:=(BG 3 3 3)) (u:=(Ai.mk 0 0 0 [] [] [])) Gf U U ⟨.inl ⟨U,U⟩,⟨.inl ⟨U,U⟩,⟨.inl ⟨U,U⟩,⟨.inr ⟨U,_,_,U,by decide⟩,⟨.inr ⟨U,_,_,U,by decide⟩,⟨.inr ⟨U,_,_,U,by decide⟩,trivial⟩⟩⟩⟩⟩⟩ gl3 U U (zq tb U (dn hK2 U (AB fun K4 hK4=>zr tb U U (bs h0 fun o9 h1 h0=>?_))))))))
 have M9 :∀(l8:(List Ai)),o9=l8→∀s,Wk 0 s ⟨23,AS [(3,(ow 0 0 l8))],[(ro 0 94 6 (BG 3 3 3) l8)]⟩→K4 s:=by
  intro l8 hq s hw
  subst o9
  try dsimp only at h0
  refine hK4 _ (AI hw (zr tb U U ?_))
  replace h0:=Sh.AA h0
  subst r
  exact AH (xr (AM (L:=[(2,(ow 0 0 l8))]) ⟨.rfl,trivial⟩))
 refine AJ (AX (σ:=Int×(List Ai)) (fun n v=>D0 N p0 n v.1 v.2=some o9) (fun (i6,l7)=>⟨23,AS [(0,(ls Ax p0)),(3,(ow 0 0 l7)),(4,(i64 i6))],[(ro 0 94 6 (BG 3 3 3) l7)]⟩) N (0,l3) h1 (AE U) (fun _ hv=>by rw[D0] at hv;cases hv) ?_)
 rintro n ⟨i6,l7⟩ h1
 try dsimp only at h1 ⊢
 rw[D0] at h1
 refine AB fun K11 hK11=>sr U fun K12 hK12=>zm tb 2 U (zl tb U U (zq tb U (dn hK12 U ?_)))
 refine ci h1 U ?_ ?_ <;> clear h1
 ·intro b13 h1
  refine AG (hK11 _ (AB fun K14 hK14=>AJ (AF U (zm tb 4 U (bs h1 fun c15 gc15 h1=>zx aX gc15 U U U (zq tb U (bs h1 fun q16 gq16 h1=>BN (v':=(.agg [(i64 q16.proc),(i64 q16.at_),(i64 q16.dst),(ow 1 0 q16.Ab),(ow 2 0 q16.own),(ow 3 0 q16.held)])) Aa eZ (P8 gq16) rfl U ⟨(BB fun _=>U),⟨(BB fun _=>U),⟨(BB fun _=>U),trivial⟩⟩⟩ U U (bs h1 fun c17 gc17 h1=>zz (.ptr 0 0 (Int.toNat i6) 0) (BD Gf U U U U gc17) rfl ?_))))))))
  refine Le (st':=[⟨0,94,6,hole l7 (BG 3 3 3) i6 [(i64 q16.proc),(i64 q16.at_),(i64 q16.dst),(ow 1 0 q16.Ab),(ow 2 0 q16.own),(ow 3 0 q16.held)]⟩,(ro 0 3 1 eI q16.Ab),(ro 0 3 1 eI q16.own),(ro 0 3 1 eI q16.held)]) Aa QO U U gc17 U U U (show 6≤6 by decide) rfl U ?_
  refine Al (Wk.take (id:=0) (m:=1) (j:=3) (i:=i6) (c:=c17) (ys:=q16.Ab) (encY:=eI) rfl gc17 U U U (by decide) (show 0≤1 by decide) (fun _=>U) rfl U) ?_
  refine Al (Wk.take (id:=0) (m:=2) (j:=4) (i:=i6) (c:=c17) (ys:=q16.own) (encY:=eI) rfl gc17 U U U (by decide) (show 0≤2 by decide) (fun _=>U) rfl U) ?_
  refine Al (Wk.take (id:=0) (m:=3) (j:=5) (i:=i6) (c:=c17) (ys:=q16.held) (encY:=eI) rfl gc17 U U U (by decide) (show 0≤3 by decide) (fun _=>U) rfl U) ?_
  refine Al (CB (id:=0) (i:=i6) (u:=q16) rfl U U) (dn hK14 U (AF U (zm tb 3 U ?_)))
  exact AD (xi (Sh.w (i6+1),Sh.put l7 i6 q16) h1 (by refine Wk.trans (AN (L:=[(0,(.sl (List.map Ax p0))),(3,(.own 0 0 (List.length l7))),(4,(i64 (Sh.w (i6+1))))]) (st':=[⟨0,94,6,List.map (BG 3 3 3) (Sh.put l7 i6 q16)⟩]) (st1:=[⟨0,94,6,List.map (BG 3 3 3) (Sh.put l7 i6 q16)⟩]) [0] U .nil (by decide) rfl U (.deep (Ar fun _=>U) .nil) ⟨.rfl,.rfl,.rfl,trivial⟩) ?_;exact AM (L:=[(0,(.sl (List.map Ax p0))),(3,(.own 0 0 (List.length (Sh.put l7 i6 q16)))),(4,(i64 (Sh.w (i6+1))))]) ⟨.rfl,(.len (by simp only[Sh.Af])),.rfl,trivial⟩))
 ·intro b13 h1
  exact Ac (M9 l7 (Sh.AA h1).symm _ (AE U))
theorem HT {N:Nat} {p0:Av} {r:Av} (h0:FJ N p0=some r):AY Tryz.prog 9 [(.agg (Ah p0))] [] (fun v st=>v=(.agg [(i64 r.status),(i64 r.value),(i64 r.calls),(i64 r.CV),(ow 0 0 r.out),(ow 1 0 r.heap),(ow 2 0 r.AT)])∧st=[(ro 0 3 1 eI r.out),(ro 0 71 3 (Be 3) r.heap),(ro 0 94 6 (BG 3 3 3) r.AT)]):=by
 unfold FJ at h0
 refine AY.wk (r0:=(.agg [(i64 r.status),(i64 r.value),(i64 r.calls),(i64 r.CV),(ow 0 0 r.out),(ow 1 0 r.heap),(ow 2 0 r.AT)])) (st0:=[(ro 0 3 1 eI r.out),(ro 0 71 3 (Be 3) r.heap),(ro 0 94 6 (BG 3 3 3) r.AT),⟨0,42,7,[[(i64 r.status),(i64 r.value),(i64 r.calls),(i64 r.CV),(ow 0 0 r.out),(ow 1 0 r.heap),(ow 2 0 r.AT)]]⟩]) ?_ (HU (L:=[(0,(.agg [(i64 r.status),(i64 r.value),(i64 r.calls),(i64 r.CV),(ow 0 0 r.out),(ow 1 0 r.heap),(ow 2 0 r.AT)]))]) (st':=[(ro 0 3 1 eI r.out),(ro 0 71 3 (Be 3) r.heap),(ro 0 94 6 (BG 3 3 3) r.AT)]) [0,1,2] U (by decide) rfl U (.pure (AL fun _=>U) (.deep (Ar fun _=>U) (.deep (Ar fun _=>U) trivial))) ⟨.rfl,trivial⟩)
 refine ai Tryz.func9 U U U U (sr U fun K1 hK1=>A8 (m:=0) Aa U U U U U (BF (m:=1) Aa ZJ U U (dn hK1 U (sr U fun K2 hK2=>BF (m:=2) Aa ZJ U U (dn hK2 U (sr U fun K3 hK3=>zm tb 3 U (A7 Aa EF U U U U U U (show 0+1≤7 by decide) rfl (dn hK3 U ?_))))))))
 refine sr U fun K4 hK4=>zm tb 3 U (A7 Aa EF U U U U U U (show 1+1≤7 by decide) rfl (dn hK4 U (sr U fun K5 hK5=>zm tb 3 U (A7 Aa EF U U U U U U (show 2+1≤7 by decide) rfl (dn hK5 U (sr U fun K6 hK6=>zm tb 3 U (A7 Aa EF U U U U U U (show 3+1≤7 by decide) rfl (dn hK6 U ?_))))))))
 refine sr U fun K7 hK7=>zm tb 2 U (bs h0 fun q8 gq8 h0=>BN (v':=(ow 3 0 q8)) Aa NT (DU gq8) rfl U ⟨(BB fun _=>U),trivial⟩ U U (zq tb U (A7 Aa Hn U U U U U U (show 4+1≤7 by decide) rfl (dn hK7 U (sr U fun K9 hK9=>zm tb 2 U (bs h0 fun q10 gq10 h0=>BN (v':=(ow 4 0 q10)) Aa fI (QA gq10) rfl U ⟨(Ar fun _=>U),trivial⟩ U U (zq tb U ?_)))))))
 refine A7 Aa et U U U U U U (show 5+1≤7 by decide) rfl (dn hK9 U (sr U fun K11 hK11=>zm tb 2 U (bs h0 fun q12 gq12 h0=>BN (v':=(ow 5 0 q12)) Aa dJ (O3 gq12) rfl U ⟨(Ar fun _=>U),trivial⟩ U U (zq tb U (A7 Aa eM U U U U U U (show 6+1≤7 by decide) rfl (dn hK11 U (sr U fun K13 hK13=>zq tb U (A7 Aa Ys U U U U U U (show 0+7≤7 by decide) rfl ?_))))))))
 refine dn hK13 U ?_
 replace h0:=Sh.AA h0
 subst r
 exact AH (Exists.intro _ (And.intro ((AN (L:=[(2,(.ptr 3 0 0 0))]) (st':=[(ro 0 3 1 eI q8),(ro 0 71 3 (Be 3) q10),(ro 0 94 6 (BG 3 3 3) q12),⟨0,42,7,[[(i64 p0.status),(i64 p0.value),(i64 p0.calls),(i64 p0.CV),(ow 0 0 q8),(ow 1 0 q10),(ow 2 0 q12)]]⟩]) (st1:=[(ro 0 3 1 eI q8),(ro 0 71 3 (Be 3) q10),(ro 0 94 6 (BG 3 3 3) q12),⟨0,42,7,[[(i64 p0.status),(i64 p0.value),(i64 p0.calls),(i64 p0.CV),(ow 3 0 q8),(ow 4 0 q10),(ow 5 0 q12)]]⟩]) [3,4,5,1] U .nil (by decide) rfl U (.pure (AL fun _=>U) (.deep (Ar fun _=>U) (.deep (Ar fun _=>U) (.raw U U .nil)))) ⟨.rfl,trivial⟩).trans (AM (L:=[(2,(.ptr 3 0 0 0))]) ⟨.rfl,trivial⟩)) (Fc (x:=.tmp 2) (off:=0) (cs:=[(i64 p0.status),(i64 p0.value),(i64 p0.calls),(i64 p0.CV),(ow 0 0 q8),(ow 1 0 q10),(ow 2 0 q12)]) (vs:=[(i64 p0.status),(i64 p0.value),(i64 p0.calls),(i64 p0.CV),(ow 0 0 q8),(ow 1 0 q10),(ow 2 0 q12)]) Ys U U U (show 0+7≤7 by decide) rfl _ ⟨U,U⟩)))
theorem MH {N:Nat} {p0:Au} {r:IH} (h0:Fe N p0=some r):AY Tryz.prog 79 [(.agg (Ao p0))] [] (fun v st=>v=(.agg [(ls Ad r.decls),(ls ET r.funcs)])∧st=[]):=by
 unfold Fe at h0
 refine J1 U (ai Tryz.func79 U U U U (sr U fun K1 hK1=>A8 (m:=0) Aa U U U U U (BF (m:=1) Aa Vs U U (dn hK1 U (sr U fun K2 hK2=>zm tb 2 U ?_)))))
 refine DO (m:=2) (l:=([]:List IT)) (enc:=ET) Aa QD (by decide) rfl U U U U U ?_
 refine zz (.agg [(ls Ad p0.decls),(.own 2 0 (List.length ([]:List IT)))]) (PM cZ cm Vs U U) rfl (BF (m:=3) Aa Vs U U (A7 Aa Vx U U U U U U (show 0+2≤2 by decide) rfl (dn hK2 U (AB fun K3 hK3=>zr tb U U (bs h0 fun o8 h1 h0=>?_)))))
 have M8 :∀(l7:(List IT)),o8=l7→∀s,Wk 0 s ⟨35,AS [(2,(.ptr 0 0 0 0)),(3,(.ptr 2 0 0 0))],[⟨0,121,2,[[.zc,.zc]]⟩,(ro 0 165 5 ET l7),⟨0,121,2,[[(ls Ad p0.decls),(ow 1 0 l7)]]⟩]⟩→K3 s:=by
  intro l7 hq s hw
  subst o8
  try dsimp only at h0
  refine hK3 _ (AI hw (sr U fun K9 hK9=>zq tb U (Al (Wk.EW (L:=[(2,(.ptr 0 0 0 0)),(34,(.agg [(ls Ad p0.decls),(ls ET l7)]))]) (st':=[⟨0,121,2,[[.zc,.zc]]⟩,⟨1,165,5,[]⟩,⟨0,121,2,[[(ls Ad p0.decls),(ow 1 0 l7)]]⟩]) (id:=1) rfl (show 0≤1 by decide) (AL fun _=>U) ⟨.rfl,(.agg ⟨.rfl,(.Iz U),trivial⟩),trivial⟩ U) (A7 Aa Vx U U U U U U (show 0+2≤2 by decide) rfl (dn hK9 U ?_)))))
  replace h0:=Sh.AA h0
  subst r
  exact AH (Exists.intro _ (And.intro (RS _ _) (Fc (x:=.tmp 2) (off:=0) (cs:=[(ls Ad p0.decls),(ls ET l7)]) (vs:=[(ls Ad p0.decls),(ls ET l7)]) Vx U U U (show 0+2≤2 by decide) rfl _ U)))
 refine AJ (AX (σ:=Int×(List IT)) (fun n v=>CF p0 n v.1 v.2=some o8) (fun (i5,l6)=>⟨35,AS [(1,(.ptr 0 0 0 0)),(2,(.ptr 1 0 0 0)),(3,(.ptr 3 0 0 0)),(4,(i64 i5))],[⟨0,37,2,[(Ao p0)]⟩,⟨0,121,2,[[.zc,.zc]]⟩,(ro 0 165 5 ET l6),⟨0,121,2,[[(ls Ad p0.decls),(ow 2 0 l6)]]⟩]⟩) N (0,[]) h1 (AE U) (fun _ hv=>by rw[CF] at hv;cases hv) ?_)
 rintro n ⟨i5,l6⟩ h1
 try dsimp only at h1 ⊢
 rw[CF] at h1
 refine AB fun K10 hK10=>sr U fun K11 hK11=>zm tb 3 U (zl tb U U (zq tb U (dn hK11 U ?_)))
 refine ci h1 U ?_ ?_ <;> clear h1
 ·intro b12 h1
  refine AG (hK10 _ (AB fun K13 hK13=>AJ ?_))
  refine Cw 16 (by kernel_rfl) (by kernel_rfl) (by rfl) ?_
  iterate 5 refine yq tb rfl ?_
  refine bs h1 fun c14 gc14 h1=>yx IC gc14 U U U ?_
  iterate 5 refine yq tb rfl ?_
  refine yx IC gc14 U U U ?_
  iterate 2 refine yq tb rfl ?_
  refine yz (.agg [(ls eI c14.params),(i64 c14.result),(i64 0),(i64 0),.zc]) (PM bL cH YT U U) rfl ?_
  refine bO (l:=([(IT.mk c14.params c14.result (Ib.mk 0 0 []))])) (enc:=ET) (pv':=[(0,(.agg [(ls eI c14.params),(i64 c14.result),(i64 0),(i64 0),(.sl (List.map W9 []))]))]) Aa QD (by decide) rfl U (.cons (le.agg ⟨le.rfl,le.rfl,le.rfl,le.rfl,le.zc,trivial⟩) .nil) rfl U U (AL fun _=>U) ?_
  exact BP (bs h1 fun l15 gl15 h1=>Ex (l2:=([(IT.mk c14.params c14.result (Ib.mk 0 0 []))])) Aa QD U U U U TW (fun _=>U) gl15 U (zq tb U (A7 Aa bF U U U U U U (show 1+1≤2 by decide) rfl (dn hK13 U (AF U (zm tb 3 U (AD (xi (Sh.w (i5+1),l15) h1 (Cf (L:=[(1,(.ptr 0 0 0 0)),(2,(.ptr 1 0 0 0)),(3,(.ptr 3 0 0 0)),(4,(i64 (Sh.w (i5+1))))]) (st':=[⟨0,37,2,[(Ao p0)]⟩,⟨0,121,2,[[.zc,.zc]]⟩,(ro 0 165 5 ET l15),⟨0,121,2,[[(ls Ad p0.decls),(ow 2 0 l15)]]⟩]) (.raw U U (.raw U U (.pure (AL fun _=>U) (.raw U U .nil)))) ⟨.rfl,.rfl,.rfl,.rfl,trivial⟩)))))))))
 ·intro b12 h1
  exact Ac (M8 l6 (Sh.AA h1).symm _ (AN (L:=[(2,(.ptr 0 0 0 0)),(3,(.ptr 2 0 0 0))]) (st':=[⟨0,121,2,[[.zc,.zc]]⟩,(ro 0 165 5 ET l6),⟨0,121,2,[[(ls Ad p0.decls),(ow 1 0 l6)]]⟩]) (st1:=[⟨0,121,2,[[.zc,.zc]]⟩,(ro 0 165 5 ET l6),⟨0,121,2,[[(ls Ad p0.decls),(ow 2 0 l6)]]⟩]) [1,2,3] U .nil (by decide) rfl U (.raw U U (.pure (AL fun _=>U) (.raw U U .nil))) ⟨.rfl,.rfl,trivial⟩))
theorem Aw {p0:Int} {p1:Int} {p2:Int} {r:Bool} (h0:At p0 p1 p2=some r):AY Tryz.prog 50 [(i64 p0),(i64 p1),(i64 p2)] [] (fun v st=>v=(.bool r)∧st=[]):=by
 unfold At at h0
 refine ai Tryz.func50 U U U U (zr tb U U (AB fun K2 hK2=>bs h0 fun o4 h1 h0=>?_))
 have M4 :∀(t3:Bool),o4=t3→∀s,Wk 0 s ⟨15,AS [(6,(.bool t3))],[]⟩→K2 s:=by
  intro t3 hq s hw
  subst o4
  try dsimp only at h0
  refine hK2 _ (AI hw ?_)
  replace h0:=Sh.AA h0
  subst r
  exact AH (xr (AM (L:=[(6,(.bool t3))]) ⟨.rfl,trivial⟩))
 refine AF U (zm tb 4 U ?_)
 rcases Sh.AP h1 with ⟨b5,h1⟩ | ⟨b5,h1⟩
 ·exact zg tb b5 U (zg tb b5 U (zg tb b5 U (zt b5 U (zq tb U (AD (M4 (decide (p0≤p2)) (Sh.AA h1).symm _ (AE U)))))))
 ·exact zs b5 U (zs b5 U (zs b5 U (zf b5 U (zq tb U (AD (M4 false (Sh.AA h1).symm _ (AE U)))))))
theorem KG {N:Nat} {p0:(List An)} {p1:(List Int)} {r:Bool} (h0:Fz N p0 p1=some r):AY Tryz.prog 112 [(ls Ad p0),(ls eI p1)] [] (fun v st=>v=(.bool r)∧st=[]):=by
 unfold Fz at h0
 refine ai Tryz.func112 U U U U (zr tb U U (AB fun K2 hK2=>zr tb U U ?_))
 obtain⟨o5,h1,h0⟩:=Sh.A1 h0
 have M5 :∀(_:Unit),o5=Sum.inr ()→∀s,Wk 0 s ⟨20,AS [],[]⟩→K2 s:=by
  intro _ hq s hw
  subst o5
  try dsimp only at h0
  refine hK2 _ (AI hw (zr tb U U ?_))
  replace h0:=Sh.AA h0
  subst r
  exact AH (xr (AM (L:=[(4,(.bool true))]) ⟨.rfl,trivial⟩))
 refine AJ (AX (σ:=Int) (fun n v=>Dr p0 p1 n v=some o5) (fun i4=>⟨20,AS [(0,(ls Ad p0)),(1,(ls eI p1)),(5,(i64 i4))],[]⟩) N 0 h1 (AE U) (fun _ hv=>by rw[Dr] at hv;cases hv) ?_)
 rintro n i4 h1
 try dsimp only at h1 ⊢
 rw[Dr] at h1
 refine AB fun K7 hK7=>sr U fun K8 hK8=>zm tb 2 U (zl tb U U (zq tb U (dn hK8 U ?_)))
 refine ci h1 U ?_ ?_ <;> clear h1
 ·intro b9 h1
  refine AG (hK7 _ (AB fun K10 hK10=>AJ (sr U fun K11 hK11=>zm tb 2 U (bs h1 fun c12 gc12 h1=>zx A2 gc12 U U U (zm tb 2 U (zl tb U U (bs h1 fun q13 gq13 h1=>zc Ee (Aw gq13) rfl U U (zq tb U ?_))))))))
  refine dn hK11 U ?_
  refine ci h1 U ?_ ?_ <;> clear h1
  ·intro b14 h1
   have b15:q13=false:=by simpa using b14
   refine zr tb U U ?_
   replace h1:=Sh.AA h1
   subst o5
   try dsimp only[id] at h0
   replace h0:=Sh.AA h0
   subst r
   exact AH (xr (AM (L:=[(4,(.bool false))]) ⟨.rfl,trivial⟩))
  ·intro b14 h1
   have b17:q13=true:=by simpa using b14
   exact AG (hK10 _ (AF U (zm tb 3 U (AD (xi (Sh.w (i4+1)) h1 (AE U))))))
 ·intro b9 h1
  exact Ac (M5 () (Sh.AA h1).symm _ (AE U))
theorem Nj {N:Nat} {p0:(List An)} {p1:Int} {r:Bool} (h0:Gr N p0 p1=some r):AY Tryz.prog 131 [(ls Ad p0),(i64 p1)] [] (fun v st=>v=(.bool r)∧st=[]):=by
 unfold Gr at h0
 refine ai Tryz.func131 U U U U (zr tb U U (sr U fun K2 hK2=>zm tb 2 U (bs h0 fun c3 gc3 h0=>zx HX gc3 U U U (zq tb U (BF (m:=0) Aa Nu U U (A7 Aa MS U U U U U U (show 0+3≤3 by decide) rfl (dn hK2 U (AB fun K4 hK4=>sr U fun K5 hK5=>?_))))))))
 refine zm tb 2 U (zl tb U U (zq tb U (dn hK5 U ?_)))
 refine ci h0 U ?_ ?_ <;> clear h0
 ·intro b6 h0
  refine AB fun K7 hK7=>AB fun K8 hK8=>bs h0 fun o10 h1 h0=>?_
  have M10 :∀(t9:Bool),o10=t9→∀s,Wk 0 s ⟨100,AS [(0,(ls Ad p0)),(5,(.ptr 0 0 0 0)),(29,(.bool t9))],[⟨0,104,3,[(Ad c3)]⟩]⟩→K8 s:=by
   intro t9 hq s hw
   subst o10
   try dsimp only at h0
   refine hK8 _ (AI hw ?_)
   refine ci h0 U ?_ ?_ <;> clear h0
   ·intro b11 h0
    refine zr tb U U ?_
    replace h0:=Sh.AA h0
    subst r
    exact AH (xr (AR [(4,(.bool false))] U))
   ·intro b11 h0
    refine AG (hK7 _ (AB fun K13 hK13=>zr tb U U ?_))
    obtain⟨o16,h1,h0⟩:=Sh.A1 h0
    have M16 :∀(_:Unit),o16=Sum.inr ()→∀s,Wk 0 s ⟨100,AS [],[]⟩→K13 s:=by
     intro _ hq s hw
     subst o16
     try dsimp only at h0
     refine hK13 _ (AI hw (zr tb U U ?_))
     replace h0:=Sh.AA h0
     subst r
     exact AH (xr (AM (L:=[(4,(.bool true))]) ⟨.rfl,trivial⟩))
    refine AJ (AX (σ:=Int) (fun n v=>DR N c3 p0 n v=some o16) (fun i15=>⟨100,AS [(0,(ls Ad p0)),(5,(.ptr 0 0 0 0)),(6,(i64 i15))],[⟨0,104,3,[(Ad c3)]⟩]⟩) N 0 h1 (AE U) (fun _ hv=>by rw[DR] at hv;cases hv) ?_)
    rintro n i15 h1
    try dsimp only at h1 ⊢
    rw[DR] at h1
    refine AB fun K18 hK18=>sr U fun K19 hK19=>zm tb 3 U (zl tb U U (zq tb U (dn hK19 U ?_)))
    refine ci h1 U ?_ ?_ <;> clear h1
    ·intro b20 h1
     refine AG (hK18 _ (AB fun K21 hK21=>AJ (AB fun K22 hK22=>bs h1 fun o24 h2 h1=>?_)))
     have M24 :∀(t23:Bool),o24=t23→∀s,Wk 0 s ⟨100,AS [(0,(ls Ad p0)),(5,(.ptr 0 0 0 0)),(6,(i64 i15)),(55,(.bool t23))],[⟨0,104,3,[(Ad c3)]⟩]⟩→K22 s:=by
      intro t23 hq s hw
      subst o24
      try dsimp only at h1
      refine hK22 _ (AI hw ?_)
      refine ci h1 U ?_ ?_ <;> clear h1
      ·intro b25 h1
       refine zr tb U U ?_
       replace h1:=Sh.AA h1
       subst o16
       try dsimp only[id] at h0
       replace h0:=Sh.AA h0
       subst r
       exact AH (xr (AR [(4,(.bool false))] U))
      ·intro b25 h1
       exact AG (hK21 _ (AF U (zm tb 3 U (AD (xi (Sh.w (i15+1)) h1 (AE U))))))
     refine AF U (zm tb 3 U (bs h2 fun c27 gc27 h2=>zx Ke gc27 U U U (zm tb 2 U (zl tb U U (zm tb 2 U ?_)))))
     rcases Sh.AP h2 with ⟨b28,h2⟩ | ⟨b28,h2⟩
     ·refine zs b28 U ?_
      iterate 8 refine zs b28 rfl ?_
      exact zt b28 U (AD (M24 true (Sh.AA h2).symm _ (AE U)))
     ·refine zg tb b28 U ?_
      iterate 3 refine zg tb b28 rfl ?_
      exact A5 (v:=(.Bi (D5 c27) 0)) (A9 U U b28) rfl (Bh Ke U U gc27 U) (zg tb b28 U (zg tb b28 U (bs h2 fun q29 gq29 h2=>zd b28 Y4 (KG gq29) rfl U U U (zg tb b28 U (zf b28 U (AD (M24 (!q29) (Sh.AA h2).symm _ (AE U))))))))
    ·intro b20 h1
     exact Ac (M16 () (Sh.AA h1).symm _ (AR _ U))
  refine AF U (zm tb 2 U (zl tb U U (zm tb 2 U ?_)))
  rcases Sh.AP h1 with ⟨b30,h1⟩ | ⟨b30,h1⟩
  ·refine zs b30 U (zs b30 U (zs b30 U (zt b30 U (zq tb U ?_))))
   iterate 3 refine zs rfl rfl ?_
   exact zt U U (AD (M10 true (Sh.AA h1).symm _ (AE U)))
  ·refine zg tb b30 U (zg tb b30 U (zg tb b30 U (zf b30 U (zq tb U ?_))))
   rcases Sh.AP h1 with ⟨b31,h1⟩ | ⟨b31,h1⟩
   ·exact zs b31 U (zs b31 U (zs b31 U (zt b31 U (AD (M10 true (Sh.AA h1).symm _ (AE U))))))
   ·exact zg tb b31 U (zg tb b31 U (zg tb b31 U (zf b31 U (AD (M10 (!decide (c3.to=0)) (Sh.AA h1).symm _ (AE U))))))
 ·intro b6 h0
  refine AG (hK4 _ (AB fun K32 hK32=>zr tb U U ?_))
  obtain⟨o35,h1,h0⟩:=Sh.A1 h0
  have M35 :∀(_:Unit),o35=Sum.inr ()→∀s,Wk 0 s ⟨100,AS [(0,(ls Ad p0)),(5,(.ptr 0 0 0 0))],[⟨0,104,3,[(Ad c3)]⟩]⟩→K32 s:=by
   intro _ hq s hw
   subst o35
   try dsimp only at h0
   refine hK32 _ (AI hw (AB fun K36 hK36=>bs h0 fun o38 h1 h0=>?_))
   have M38 :∀(t37:Bool),o38=t37→∀s,Wk 0 s ⟨100,AS [(4,(.bool t37))],[]⟩→K36 s:=by
    intro t37 hq s hw
    subst o38
    try dsimp only at h0
    refine hK36 _ (AI hw ?_)
    replace h0:=Sh.AA h0
    subst r
    exact AH (xr (AM (L:=[(4,(.bool t37))]) ⟨.rfl,trivial⟩))
   refine AF U (zm tb 3 U (zl tb U U (bs h1 fun q39 gq39 h1=>zc Ee (Aw gq39) rfl U U (zq tb U ?_))))
   rcases Sh.AP h1 with ⟨b40,h1⟩ | ⟨b40,h1⟩
   ·exact zg tb b40 U (zg tb b40 U (zg tb b40 U (A5 (v:=(i64 (Sh.len p0))) (A9 U U b40) rfl (BL Uu U) (bs h1 fun q41 gq41 h1=>zd b40 Ee (Aw gq41) rfl U U U (zt b40 U (zq tb U (AD (M38 q41 (Sh.AA h1).symm _ (AR _ U)))))))))
   ·refine zs b40 U ?_
    iterate 4 refine zs b40 rfl ?_
    exact zf b40 U (zq tb U (AD (M38 false (Sh.AA h1).symm _ (AR _ U))))
  refine AJ (AX (σ:=Int) (fun n v=>DS c3 p0 p1 n v=some o35) (fun i34=>⟨100,AS [(0,(ls Ad p0)),(1,(i64 p1)),(5,(.ptr 0 0 0 0)),(7,(i64 i34))],[⟨0,104,3,[(Ad c3)]⟩]⟩) N 0 h1 (AE U) (fun _ hv=>by rw[DS] at hv;cases hv) ?_)
  rintro n i34 h1
  try dsimp only at h1 ⊢
  rw[DS] at h1
  refine AB fun K42 hK42=>zr tb U U ?_
  refine ci h1 U ?_ ?_ <;> clear h1
  ·intro b44 h1
   refine AG (hK42 _ (AB fun K45 hK45=>AJ (AB fun K46 hK46=>bs h1 fun o48 h2 h1=>?_)))
   have M48 :∀(t47:Bool),o48=t47→∀s,Wk 0 s ⟨100,AS [(0,(ls Ad p0)),(1,(i64 p1)),(5,(.ptr 0 0 0 0)),(7,(i64 i34)),(87,(.bool t47))],[⟨0,104,3,[(Ad c3)]⟩]⟩→K46 s:=by
    intro t47 hq s hw
    subst o48
    try dsimp only at h1
    refine hK46 _ (AI hw ?_)
    refine ci h1 U ?_ ?_ <;> clear h1
    ·intro b49 h1
     refine zr tb U U ?_
     replace h1:=Sh.AA h1
     subst o35
     try dsimp only[id] at h0
     replace h0:=Sh.AA h0
     subst r
     exact AH (xr (AR [(4,(.bool false))] U))
    ·intro b49 h1
     exact AG (hK45 _ (AF U (zm tb 3 U (AD (xi (Sh.w (i34+1)) h1 (AE U))))))
   refine B1 (by kernel_rfl) (by kernel_rfl) (by rfl) ?_
   iterate 2 refine yq tb rfl ?_
   refine bs h2 fun c51 gc51 h2=>yx HX gc51 U U U ?_
   iterate 2 refine yq tb rfl ?_
   refine yl tb U U ?_
   iterate 2 refine yq tb rfl ?_
   rcases Sh.AP h2 with ⟨b52,h2⟩ | ⟨b52,h2⟩
   ·refine yg tb b52 U (yg tb b52 U (Dk (v:=(.Bi (Ad c51) 0)) (A9 U U b52) rfl (Bh HX U U gc51 U) ?_))
    iterate 5 refine yg tb b52 rfl ?_
    refine yt b52 U (yq tb U ?_)
    rcases Sh.AP h2 with ⟨b53,h2⟩ | ⟨b53,h2⟩
    ·refine yg tb b53 U (yg tb b53 U (Dk (v:=(.Bi (Ad c51) 0)) (A9 U U b53) rfl (Bh HX U U gc51 U) ?_))
     iterate 5 refine yg tb b53 rfl ?_
     exact yt b53 U (BP (M48 (decide (c51.to=c3.to)) (Sh.AA h2).symm _ (AE U)))
    ·refine ys b53 U ?_
     iterate 7 refine ys b53 rfl ?_
     exact yf b53 U (BP (M48 false (Sh.AA h2).symm _ (AE U)))
   ·refine ys b52 U ?_
    iterate 7 refine ys b52 rfl ?_
    refine yf b52 U (yq tb U ?_)
    iterate 8 refine ys rfl rfl ?_
    exact yf U U (BP (M48 false (Sh.AA h2).symm _ (AE U)))
  ·intro b44 h1
   exact Ac (M35 () (Sh.AA h1).symm _ (AE U))
theorem NA {N:Nat} {p0:(List An)} {r:Bool} (h0:F7 N p0=some r):AY Tryz.prog 111 [(ls Ad p0)] [] (fun v st=>v=(.bool r)∧st=[]):=by
 unfold F7 at h0
 refine ai Tryz.func111 U U U U (zr tb U U (AB fun K2 hK2=>sr U fun K3 hK3=>zq tb U (zl tb U U (zq tb U (dn hK3 U ?_)))))
 refine ci h0 U ?_ ?_ <;> clear h0
 ·intro b4 h0
  refine zr tb U U ?_
  replace h0:=Sh.AA h0
  subst r
  exact AH (xr (AM (L:=[(2,(.bool false))]) ⟨.rfl,trivial⟩))
 ·intro b4 h0
  refine AG (hK2 _ (AB fun K6 hK6=>zr tb U U ?_))
  obtain⟨o9,h1,h0⟩:=Sh.A1 h0
  have M9 :∀(_:Unit),o9=Sum.inr ()→∀s,Wk 0 s ⟨17,AS [],[]⟩→K6 s:=by
   intro _ hq s hw
   subst o9
   try dsimp only at h0
   refine hK6 _ (AI hw (zr tb U U ?_))
   replace h0:=Sh.AA h0
   subst r
   exact AH (xr (AM (L:=[(2,(.bool true))]) ⟨.rfl,trivial⟩))
  refine AJ (AX (σ:=Int) (fun n v=>C9 N p0 n v=some o9) (fun i8=>⟨17,AS [(0,(ls Ad p0)),(3,(i64 i8))],[]⟩) N 0 h1 (AE U) (fun _ hv=>by rw[C9] at hv;cases hv) ?_)
  rintro n i8 h1
  try dsimp only at h1 ⊢
  rw[C9] at h1
  refine AB fun K11 hK11=>sr U fun K12 hK12=>zm tb 2 U (zl tb U U (zq tb U (dn hK12 U ?_)))
  refine ci h1 U ?_ ?_ <;> clear h1
  ·intro b13 h1
   refine AG (hK11 _ (AB fun K14 hK14=>AJ (sr U fun K15 hK15=>zm tb 2 U (bs h1 fun q16 gq16 h1=>zc bB (Nj gq16) rfl U U (zq tb U (dn hK15 U ?_))))))
   refine ci h1 U ?_ ?_ <;> clear h1
   ·intro b17 h1
    have b18:q16=false:=by simpa using b17
    refine zr tb U U ?_
    replace h1:=Sh.AA h1
    subst o9
    try dsimp only[id] at h0
    replace h0:=Sh.AA h0
    subst r
    exact AH (xr (AM (L:=[(2,(.bool false))]) ⟨.rfl,trivial⟩))
   ·intro b17 h1
    have b20:q16=true:=by simpa using b17
    exact AG (hK14 _ (AF U (zm tb 3 U (AD (xi (Sh.w (i8+1)) h1 (AE U))))))
  ·intro b13 h1
   exact Ac (M9 () (Sh.AA h1).symm _ (AE U))
theorem Nv {N:Nat} {p0:IH} {r:Bool} (h0:GZ N p0=some r):AY Tryz.prog 78 [(.agg [(ls Ad p0.decls),(ls ET p0.funcs)])] [] (fun v st=>v=(.bool r)∧st=[]):=by
 unfold GZ at h0
 refine ai Tryz.func78 U U U U (sr U fun K1 hK1=>A8 (m:=0) Aa U U U U U (zq tb U (dn hK1 U (AB fun K2 hK2=>AB fun K3 hK3=>bs h0 fun o5 h1 h0=>?_))))
 have M5 :∀(t4:Bool),o5=t4→∀s,Wk 0 s ⟨64,AS [(1,(.ptr 0 0 0 0)),(15,(.bool t4))],[⟨0,121,2,[[(ls Ad p0.decls),(ls ET p0.funcs)]]⟩]⟩→K3 s:=by
  intro t4 hq s hw
  subst o5
  try dsimp only at h0
  refine hK3 _ (AI hw ?_)
  refine ci h0 U ?_ ?_ <;> clear h0
  ·intro b6 h0
   refine zr tb U U ?_
   replace h0:=Sh.AA h0
   subst r
   exact AH (xr (AR [(2,(.bool false))] U))
  ·intro b6 h0
   refine AG (hK2 _ (AB fun K8 hK8=>zr tb U U ?_))
   obtain⟨o11,h1,h0⟩:=Sh.A1 h0
   have M11 :∀(_:Unit),o11=Sum.inr ()→∀s,Wk 0 s ⟨64,AS [(1,(.ptr 0 0 0 0))],[⟨0,121,2,[[(ls Ad p0.decls),(ls ET p0.funcs)]]⟩]⟩→K8 s:=by
    intro _ hq s hw
    subst o11
    try dsimp only at h0
    refine hK8 _ (AI hw (AB fun K12 hK12=>bs h0 fun o14 h1 h0=>?_))
    have M14 :∀(t13:Bool),o14=t13→∀s,Wk 0 s ⟨64,AS [(2,(.bool t13))],[]⟩→K12 s:=by
     intro t13 hq s hw
     subst o14
     try dsimp only at h0
     refine hK12 _ (AI hw ?_)
     replace h0:=Sh.AA h0
     subst r
     exact AH (xr (AM (L:=[(2,(.bool t13))]) ⟨.rfl,trivial⟩))
    refine AF U (zm tb 2 U (bs h1 fun c15 gc15 h1=>zx QD gc15 U U U (zm tb 2 U (zl tb U U (zm tb 2 U ?_)))))
    rcases Sh.AP h1 with ⟨b16,h1⟩ | ⟨b16,h1⟩
    ·refine zg tb b16 U (zg tb b16 U (A5 (v:=(.Bi (ET c15) 0)) (A9 U U b16) rfl (Bh QD U U gc15 U) ?_))
     iterate 3 refine zg tb b16 rfl ?_
     exact zt b16 U (zq tb U (AD (M14 (decide (c15.result=0)) (Sh.AA h1).symm _ (AR _ U))))
    ·refine zs b16 U ?_
     iterate 5 refine zs b16 rfl ?_
     exact zf b16 U (zq tb U (AD (M14 false (Sh.AA h1).symm _ (AR _ U))))
   refine AJ (AX (σ:=Int) (fun n v=>Ct N p0 n v=some o11) (fun i10=>⟨64,AS [(1,(.ptr 0 0 0 0)),(3,(i64 i10))],[⟨0,121,2,[[(ls Ad p0.decls),(ls ET p0.funcs)]]⟩]⟩) N 0 h1 (AE U) (fun _ hv=>by rw[Ct] at hv;cases hv) ?_)
   rintro n i10 h1
   try dsimp only at h1 ⊢
   rw[Ct] at h1
   refine AB fun K17 hK17=>sr U fun K18 hK18=>zm tb 3 U (zl tb U U (zq tb U (dn hK18 U ?_)))
   refine ci h1 U ?_ ?_ <;> clear h1
   ·intro b19 h1
    refine AG (hK17 _ (AB fun K20 hK20=>AJ (sr U fun K21 hK21=>zm tb 3 U (bs h1 fun c22 gc22 h1=>zx QD gc22 U U U (zq tb U (BF (m:=1) Aa YT U U (A7 Aa cS U U U U U U (show 0+5≤5 by decide) rfl (dn hK21 U (AB fun K23 hK23=>?_)))))))))
    refine bs h1 fun o25 h2 h1=>?_
    have M25 :∀(t24:Bool),o25=t24→∀s,Wk 0 s ⟨64,AS [(1,(.ptr 0 0 0 0)),(3,(i64 i10)),(48,(.bool t24))],[⟨0,121,2,[[(ls Ad p0.decls),(ls ET p0.funcs)]]⟩]⟩→K23 s:=by
     intro t24 hq s hw
     subst o25
     try dsimp only at h1
     refine hK23 _ (AI hw ?_)
     refine ci h1 U ?_ ?_ <;> clear h1
     ·intro b26 h1
      refine zr tb U U ?_
      replace h1:=Sh.AA h1
      subst o11
      try dsimp only[id] at h0
      replace h0:=Sh.AA h0
      subst r
      exact AH (xr (AR [(2,(.bool false))] U))
     ·intro b26 h1
      exact AG (hK20 _ (AF U (zm tb 3 U (AD (xi (Sh.w (i10+1)) h1 (AE U))))))
    refine AF U (zm tb 2 U (zl tb U U (zm tb 2 U ?_)))
    rcases Sh.AP h2 with ⟨b28,h2⟩ | ⟨b28,h2⟩
    ·refine zs b28 U ?_
     iterate 5 refine zs b28 rfl ?_
     refine zt b28 U (zq tb U ?_)
     iterate 7 refine zs rfl rfl ?_
     refine zt U U ?_
     exact AD (M25 true (Sh.AA h2).symm _ (AN (L:=[(1,(.ptr 0 0 0 0)),(3,(i64 i10)),(48,(.bool true))]) (st':=[⟨0,121,2,[[(ls Ad p0.decls),(ls ET p0.funcs)]]⟩]) (st1:=[⟨0,121,2,[[(ls Ad p0.decls),(ls ET p0.funcs)]]⟩]) [0] U .nil (by decide) rfl U (.raw U U .nil) ⟨.rfl,.rfl,.rfl,trivial⟩))
    ·refine zg tb b28 U ?_
     iterate 3 refine zg tb b28 rfl ?_
     refine bs h2 fun q29 gq29 h2=>zd b28 Y4 (KG gq29) rfl U U U (zg tb b28 U (zf b28 U (zq tb U ?_)))
     rcases Sh.AP h2 with ⟨b30,h2⟩ | ⟨b30,h2⟩
     ·refine zs b30 U ?_
      iterate 6 refine zs b30 rfl ?_
      refine zt b30 U ?_
      exact AD (M25 true (Sh.AA h2).symm _ (AN (L:=[(1,(.ptr 0 0 0 0)),(3,(i64 i10)),(48,(.bool true))]) (st':=[⟨0,121,2,[[(ls Ad p0.decls),(ls ET p0.funcs)]]⟩]) (st1:=[⟨0,121,2,[[(ls Ad p0.decls),(ls ET p0.funcs)]]⟩]) [0] U .nil (by decide) rfl U (.raw U U .nil) ⟨.rfl,.rfl,.rfl,trivial⟩))
     ·refine zg tb b30 U ?_
      iterate 3 refine zg tb b30 rfl ?_
      refine A5 (v:=(i64 (Sh.len p0.decls))) (A9 U U b30) rfl (BL Uu U) (bs h2 fun q31 gq31 h2=>zd b30 Ee (Aw gq31) rfl U U U (zg tb b30 U (zf b30 U ?_)))
      exact AD (M25 (!q31) (Sh.AA h2).symm _ (AN (L:=[(1,(.ptr 0 0 0 0)),(3,(i64 i10)),(48,(.bool (!q31)))]) (st':=[⟨0,121,2,[[(ls Ad p0.decls),(ls ET p0.funcs)]]⟩]) (st1:=[⟨0,121,2,[[(ls Ad p0.decls),(ls ET p0.funcs)]]⟩]) [0] U .nil (by decide) rfl U (.raw U U .nil) ⟨.rfl,.rfl,.rfl,trivial⟩))
   ·intro b19 h1
    exact Ac (M11 () (Sh.AA h1).symm _ (AE U))
 refine AF U (zm tb 2 U (bs h1 fun q32 gq32 h1=>zc bG (NA gq32) rfl U U (zm tb 2 U ?_)))
 rcases Sh.AP h1 with ⟨b33,h1⟩ | ⟨b33,h1⟩
 ·refine zs b33 U ?_
  iterate 4 refine zs b33 rfl ?_
  exact zt b33 U (AD (M5 true (Sh.AA h1).symm _ (AE U)))
 ·exact zg tb b33 U (zg tb b33 U (A5 (v:=(i64 (Sh.len p0.funcs))) (A9 U U b33) rfl (BL bN U) (bs h1 fun q34 gq34 h1=>zd b33 Ee (Aw gq34) rfl U U U (zg tb b33 U (zf b33 U (AD (M5 (!q34) (Sh.AA h1).symm _ (AE U))))))))
theorem Nz {N:Nat} {p0:(List Int)} {p1:(List Int)} {r:Bool} (h0:GY N p0 p1=some r):AY Tryz.prog 113 [(ls eI p0),(ls eI p1)] [] (fun v st=>v=(.bool r)∧st=[]):=by
 unfold GY at h0
 refine ai Tryz.func113 U U U U (zr tb U U (AB fun K2 hK2=>zr tb U U ?_))
 obtain⟨o5,h1,h0⟩:=Sh.A1 h0
 have M5 :∀(_:Unit),o5=Sum.inr ()→∀s,Wk 0 s ⟨47,AS [],[]⟩→K2 s:=by
  intro _ hq s hw
  subst o5
  try dsimp only at h0
  refine hK2 _ (AI hw (zr tb U U ?_))
  replace h0:=Sh.AA h0
  subst r
  exact AH (xr (AM (L:=[(4,(.bool true))]) ⟨.rfl,trivial⟩))
 refine AJ (AX (σ:=Int) (fun n v=>DQ p0 p1 n v=some o5) (fun i4=>⟨47,AS [(0,(ls eI p0)),(1,(ls eI p1)),(5,(i64 i4))],[]⟩) N 0 h1 (AE U) (fun _ hv=>by rw[DQ] at hv;cases hv) ?_)
 rintro n i4 h1
 try dsimp only at h1 ⊢
 rw[DQ] at h1
 refine AB fun K7 hK7=>sr U fun K8 hK8=>zm tb 2 U (zl tb U U (zq tb U (dn hK8 U ?_)))
 refine ci h1 U ?_ ?_ <;> clear h1
 ·intro b9 h1
  refine AG (hK7 _ (AB fun K10 hK10=>AJ (AB fun K11 hK11=>bs h1 fun o13 h2 h1=>?_)))
  have M13 :∀(t12:Bool),o13=t12→∀s,Wk 0 s ⟨47,AS [(0,(ls eI p0)),(1,(ls eI p1)),(5,(i64 i4)),(46,(.bool t12))],[]⟩→K11 s:=by
   intro t12 hq s hw
   subst o13
   try dsimp only at h1
   refine hK11 _ (AI hw ?_)
   refine ci h1 U ?_ ?_ <;> clear h1
   ·intro b14 h1
    refine zr tb U U ?_
    replace h1:=Sh.AA h1
    subst o5
    try dsimp only[id] at h0
    replace h0:=Sh.AA h0
    subst r
    exact AH (xr (AM (L:=[(4,(.bool false))]) ⟨.rfl,trivial⟩))
   ·intro b14 h1
    exact AG (hK10 _ (AF U (zm tb 3 U (AD (xi (Sh.w (i4+1)) h1 (AE U))))))
  refine B1 (by kernel_rfl) (by kernel_rfl) (by rfl) ?_
  iterate 2 refine yq tb rfl ?_
  refine bs h2 fun c16 gc16 h2=>yx A2 gc16 U U U ?_
  iterate 2 refine yq tb rfl ?_
  refine yl tb U U (yq tb U (bs h2 fun q17 gq17 h2=>E0 (v:=(.bool q17)) Aa Ee (Aw gq17) rfl U U ?_))
  iterate 2 refine yq tb rfl ?_
  rcases Sh.AP h2 with ⟨b18,h2⟩ | ⟨b18,h2⟩
  ·refine ys b18 U ?_
   iterate 7 refine ys b18 rfl ?_
   refine yt b18 U (yq tb U ?_)
   iterate 3 refine ys rfl rfl ?_
   iterate 10 refine yn rfl ?_
   exact ys U U (yt U U (BP (M13 true (Sh.AA h2).symm _ (AE U))))
  ·refine yg tb b18 U ?_
   iterate 2 refine yg tb b18 rfl ?_
   refine Dk (v:=(.Bi (eI c16) 0)) (A9 U U b18) rfl (Bh A2 U U gc16 U) (yg tb b18 U (bs h2 fun c19 gc19 h2=>Dk (v:=(.Bi (eI c19) 0)) (A9 U U b18) rfl (Bh A2 U U gc19 U) ?_))
   iterate 2 refine yg tb b18 rfl ?_
   refine yf b18 U (yq tb U ?_)
   rcases Sh.AP h2 with ⟨b20,h2⟩ | ⟨b20,h2⟩
   ·refine ys b20 U ?_
    iterate 2 refine ys b20 rfl ?_
    iterate 10 refine yn rfl ?_
    exact ys b20 U (yt b20 U (BP (M13 true (Sh.AA h2).symm _ (AE U))))
   ·refine yg tb b20 U ?_
    iterate 2 refine yg tb b20 rfl ?_
    rcases Sh.AP h2 with ⟨b21,h2⟩ | ⟨b21,h2⟩
    ·refine yg tb b21 U (yg tb b21 U (Dk (v:=(.Bi (eI c16) 0)) (A9 U U b21) rfl (Bh A2 U U gc16 U) ?_))
     iterate 4 refine yg tb b21 rfl ?_
     refine bs h2 fun c22 gc22 h2=>Dk (v:=(.Bi (eI c22) 0)) (A9 U U b21) rfl (Bh A2 U U gc22 U) ?_
     iterate 2 refine yg tb b21 rfl ?_
     exact Dk (v:=(.bool (decide (c16≤c22)))) (A9 U U b20) rfl (Br U b21 U) (yf b20 U (BP (M13 (decide (c16≤c22)) (Sh.AA h2).symm _ (AE U))))
    ·refine ys b21 U ?_
     iterate 9 refine ys b21 rfl ?_
     exact Dk (v:=(.bool false)) (A9 U U b20) rfl (CE U b21 U) (yf b20 U (BP (M13 false (Sh.AA h2).symm _ (AE U))))
 ·intro b9 h1
  exact Ac (M5 () (Sh.AA h1).symm _ (AE U))
theorem P1 {p0:Int} {r:Bool} (h0:JK p0=some r):AY Tryz.prog 119 [(i64 p0)] [] (fun v st=>v=(.bool r)∧st=[]):=by
 unfold JK at h0
 refine ai Tryz.func119 U U U U (zr tb U U (sr U fun K2 hK2=>zq tb U (bs h0 fun q3 gq3 h0=>zc Ee (Aw gq3) rfl U U (zq tb U (dn hK2 U ?_)))))
 replace h0:=Sh.AA h0
 subst r
 exact AH (xr (AM (L:=[(2,(.bool q3))]) ⟨.rfl,trivial⟩))
theorem NW {p0:Int} {r:Bool} (h0:I2 p0=some r):AY Tryz.prog 89 [(i64 p0)] [] (fun v st=>v=(.bool r)∧st=[]):=by
 unfold I2 at h0
 refine ai Tryz.func89 U U U U (zr tb U U (AB fun K2 hK2=>bs h0 fun o4 h1 h0=>?_))
 have M4 :∀(t3:Bool),o4=t3→∀s,Wk 0 s ⟨21,AS [(2,(.bool t3))],[]⟩→K2 s:=by
  intro t3 hq s hw
  subst o4
  try dsimp only at h0
  refine hK2 _ (AI hw ?_)
  replace h0:=Sh.AA h0
  subst r
  exact AH (xr (AM (L:=[(2,(.bool t3))]) ⟨.rfl,trivial⟩))
 refine AF U (zq tb U (bs h1 fun q5 gq5 h1=>zc bk (P1 gq5) rfl U U (zq tb U ?_)))
 rcases Sh.AP h1 with ⟨b6,h1⟩ | ⟨b6,h1⟩
 ·refine zg tb b6 U (zg tb b6 U (zt b6 U (zq tb U ?_)))
  rcases Sh.AP h1 with ⟨b7,h1⟩ | ⟨b7,h1⟩
  ·refine zg tb b7 U (zg tb b7 U (zt b7 U (zq tb U ?_)))
   rcases Sh.AP h1 with ⟨b8,h1⟩ | ⟨b8,h1⟩
   ·exact zs b8 U (zs b8 U (zt b8 U (zq tb U (zs U U (zs U U (zt U U (zq tb U (AD (M4 true (Sh.AA h1).symm _ (AE U))))))))))
   ·refine zg tb b8 U (zg tb b8 U (zf b8 U (zq tb U ?_)))
    rcases Sh.AP h1 with ⟨b9,h1⟩ | ⟨b9,h1⟩
    ·exact zs b9 U (zs b9 U (zt b9 U (zq tb U (AD (M4 true (Sh.AA h1).symm _ (AE U))))))
    ·exact zg tb b9 U (zg tb b9 U (zf b9 U (zq tb U (AD (M4 (decide (p0=19)) (Sh.AA h1).symm _ (AE U))))))
  ·refine zs b7 U (zs b7 U (zf b7 U (zq tb U (zg tb U U (zg tb U U (zf U U (zq tb U ?_)))))))
   rcases Sh.AP h1 with ⟨b10,h1⟩ | ⟨b10,h1⟩
   ·exact zs b10 U (zs b10 U (zt b10 U (zq tb U (AD (M4 true (Sh.AA h1).symm _ (AE U))))))
   ·exact zg tb b10 U (zg tb b10 U (zf b10 U (zq tb U (AD (M4 (decide (p0=19)) (Sh.AA h1).symm _ (AE U))))))
 ·refine zs b6 U (zs b6 U (zf b6 U (zq tb U (zs U U (zs U U (zf U U (zq tb U (zg tb U U (zg tb U U (zf U U (zq tb U ?_)))))))))))
  rcases Sh.AP h1 with ⟨b11,h1⟩ | ⟨b11,h1⟩
  ·exact zs b11 U (zs b11 U (zt b11 U (zq tb U (AD (M4 true (Sh.AA h1).symm _ (AE U))))))
  ·exact zg tb b11 U (zg tb b11 U (zf b11 U (zq tb U (AD (M4 (decide (p0=19)) (Sh.AA h1).symm _ (AE U))))))
theorem Ip {N:Nat} {p0:(List An)} {p1:Int} {r:Int} (h0:FQ N p0 p1=some r):AY Tryz.prog 144 [(ls Ad p0),(i64 p1)] [] (fun v st=>v=(i64 r)∧st=[]):=by
 unfold FQ at h0
 refine ai Tryz.func144 U U U U ?_
 iterate 2 refine zr tb rfl rfl ?_
 refine AB fun K3 hK3=>zr tb U U (bs h0 fun o8 h1 h0=>?_)
 have M8 :∀(n7:Int),o8=n7→∀s,Wk 0 s ⟨21,AS [(5,(i64 n7))],[]⟩→K3 s:=by
  intro n7 hq s hw
  subst o8
  try dsimp only at h0
  refine hK3 _ (AI hw (zr tb U U ?_))
  replace h0:=Sh.AA h0
  subst r
  exact AH (xr (AM (L:=[(4,(i64 n7))]) ⟨.rfl,trivial⟩))
 refine AJ (AX (σ:=Int×Int) (fun n v=>DF p0 p1 n v.1 v.2=some o8) (fun (n5,i6)=>⟨21,AS [(0,(ls Ad p0)),(1,(i64 p1)),(5,(i64 n5)),(6,(i64 i6))],[]⟩) N (0,0) h1 (AE U) (fun _ hv=>by rw[DF] at hv;cases hv) ?_)
 rintro n ⟨n5,i6⟩ h1
 try dsimp only at h1 ⊢
 rw[DF] at h1
 refine AB fun K10 hK10=>zr tb U U ?_
 refine ci h1 U ?_ ?_ <;> clear h1
 ·intro b12 h1
  refine AG (hK10 _ (AB fun K13 hK13=>AJ (AF U (zm tb 3 U (bs h1 fun c14 gc14 h1=>zx HX gc14 U U U (zm tb 2 U (zl tb U U (zm tb 2 U (dn hK13 U (AF U ?_))))))))))
  exact zm tb 3 U (AD (xi (Sh.w (n5+(Sh.len c14.cons)),Sh.w (i6+1)) h1 (AE U)))
 ·intro b12 h1
  exact Ac (M8 n5 (Sh.AA h1).symm _ (AE U))
theorem LL {N:Nat} {p0:(List An)} {p1:Int} {r:Int} (h0:Ez N p0 p1=some r):AY Tryz.prog 132 [(ls Ad p0),(i64 p1)] [] (fun v st=>v=(i64 r)∧st=[]):=by
 unfold Ez at h0
 refine ai Tryz.func132 U U U U (zr tb U U (AB fun K2 hK2=>zr tb U U ?_))
 obtain⟨o5,h1,h0⟩:=Sh.A1 h0
 have M5 :∀(_:Unit),o5=Sum.inr ()→∀s,Wk 0 s ⟨30,AS [],[]⟩→K2 s:=by
  intro _ hq s hw
  subst o5
  try dsimp only at h0
  refine hK2 _ (AI hw (zr tb U U ?_))
  replace h0:=Sh.AA h0
  subst r
  exact AH (xr (AM (L:=[(4,(i64 (-1)))]) ⟨.rfl,trivial⟩))
 refine AJ (AX (σ:=Int) (fun n v=>CZ N p0 p1 n v=some o5) (fun i4=>⟨30,AS [(0,(ls Ad p0)),(1,(i64 p1)),(5,(i64 i4))],[]⟩) N 0 h1 (AE U) (fun _ hv=>by rw[CZ] at hv;cases hv) ?_)
 rintro n i4 h1
 try dsimp only at h1 ⊢
 rw[CZ] at h1
 refine AB fun K7 hK7=>sr U fun K8 hK8=>zm tb 2 U (zl tb U U (zq tb U (dn hK8 U ?_)))
 refine ci h1 U ?_ ?_ <;> clear h1
 ·intro b9 h1
  refine AG (hK7 _ (AB fun K10 hK10=>AJ (sr U fun K11 hK11=>zm tb 2 U (bs h1 fun q12 gq12 h1=>zc WY (Ip gq12) rfl U U (zq tb U (dn hK11 U (sr U fun K13 hK13=>zm tb 5 U (bs h1 fun c14 gc14 h1=>?_))))))))
  refine zx HX gc14 U U U (zm tb 2 U (zl tb U U (zm tb 2 U (bs h1 fun q15 gq15 h1=>zc Ee (Aw gq15) rfl U U (dn hK13 U ?_)))))
  refine ci h1 U ?_ ?_ <;> clear h1
  ·intro b16 h1
   refine zr tb U U ?_
   replace h1:=Sh.AA h1
   subst o5
   try dsimp only[id] at h0
   replace h0:=Sh.AA h0
   subst r
   exact AH (xr (AM (L:=[(4,(i64 (Sh.w (i4+1))))]) ⟨.rfl,trivial⟩))
  ·intro b16 h1
   exact AG (hK10 _ (AF U (zm tb 3 U (AD (xi (Sh.w (i4+1)) h1 (AE U))))))
 ·intro b9 h1
  exact Ac (M5 () (Sh.AA h1).symm _ (AE U))
theorem N6 {N:Nat} {p0:(List An)} {p1:Int} {r:(List Int)} (h0:Fa N p0 p1=some r):AY Tryz.prog 133 [(ls Ad p0),(i64 p1)] [] (fun v st=>v=(ls eI r)∧st=[]):=by
 unfold Fa at h0
 refine ai Tryz.func133 U U U U (zr tb U U (sr U fun K2 hK2=>zm tb 2 U (bs h0 fun q3 gq3 h0=>zc Yo (LL gq3) rfl U U (zq tb U (dn hK2 U (AB fun K4 hK4=>zr tb U U ?_))))))
 refine ci h0 U ?_ ?_ <;> clear h0
 ·intro b6 h0
  refine sr U fun K7 hK7=>?_
  refine DO (m:=0) (l:=([]:List Int)) (enc:=eI) Aa A2 (by decide) rfl U U U U U ?_
  refine zq tb U (dn hK7 U ?_)
  replace h0:=Sh.AA h0
  subst r
  exact AH (Exists.intro ⟨27,AS [(4,(.sl (List.map eI [])))],[]⟩ (And.intro (by refine Wk.trans (Wk.EW (L:=[(4,(.sl (List.map eI [])))]) (st':=[⟨1,3,1,[]⟩]) (id:=0) rfl (show 0≤0 by decide) (AL fun _=>U) ⟨(.EW U),trivial⟩ U) ?_;refine Wk.trans (AN (L:=[(4,(.sl (List.map eI [])))]) (st':=[]) (st1:=[]) [] U .nil (by decide) rfl U .nil ⟨.rfl,trivial⟩) ?_;exact AM (L:=[(4,(.sl (List.map eI [])))]) ⟨.rfl,trivial⟩) (And.intro U U)))
 ·intro b6 h0
  refine AG (hK4 _ (AB fun K8 hK8=>?_))
  refine B1 (by kernel_rfl) (by kernel_rfl) (by rfl) ?_
  iterate 3 refine yq tb rfl ?_
  refine bs h0 fun c9 gc9 h0=>yx HX gc9 U U U ?_
  iterate 6 refine yq tb rfl ?_
  refine bs h0 fun q10 gq10 h0=>E0 (v:=(i64 q10)) Aa WY (Ip gq10) rfl U U (yq tb U (bs h0 fun c11 gc11 h0=>yx Ke gc11 U U U ?_))
  iterate 3 refine yq tb rfl ?_
  refine BP (hK8 _ ?_)
  replace h0:=Sh.AA h0
  subst r
  exact AH (xr (AM (L:=[(4,(ls eI c11.fields))]) ⟨.rfl,trivial⟩))
theorem KM {p0:Au} {p1:Int} {p2:Int} {p3:Int} {r:Bool} (h0:EY p0 p1 p2 p3=some r):AY Tryz.prog 134 [(.agg (Ao p0)),(i64 p1),(i64 p2),(i64 p3)] [] (fun v st=>v=(.bool r)∧st=[]):=by
 unfold EY at h0
 refine ai Tryz.func134 U U U U (sr U fun K1 hK1=>A8 (m:=0) Aa U U U U U (zq tb U (dn hK1 U (AB fun K2 hK2=>bs h0 fun o4 h1 h0=>?_))))
 have M4 :∀(t3:Bool),o4=t3→∀s,Wk 0 s ⟨28,AS [(8,(.bool t3))],[]⟩→K2 s:=by
  intro t3 hq s hw
  subst o4
  try dsimp only at h0
  refine hK2 _ (AI hw ?_)
  replace h0:=Sh.AA h0
  subst r
  exact AH (xr (AM (L:=[(8,(.bool t3))]) ⟨.rfl,trivial⟩))
 refine AF U (zm tb 3 U (zl tb U U (zq tb U (bs h1 fun q5 gq5 h1=>zc Ee (Aw gq5) rfl U U (zq tb U ?_)))))
 rcases Sh.AP h1 with ⟨b6,h1⟩ | ⟨b6,h1⟩
 ·refine zg tb b6 U (zg tb b6 U (zg tb b6 U (bs h1 fun c7 gc7 h1=>A5 (v:=(.Bi (Az c7) 0)) (A9 U U b6) rfl (Bh IC U U gc7 U) (zg tb b6 U (zg tb b6 U (A5 (v:=(i64 (Sh.len c7.params))) (A9 U U b6) rfl (BL EE U) ?_))))))
  iterate 4 refine zg tb b6 rfl ?_
  exact zt b6 U (zq tb U (AD (M4 (decide ((Sh.len c7.params)=(Sh.w (p2+p3)))) (Sh.AA h1).symm _ (AR _ U))))
 ·refine zs b6 U ?_
  iterate 10 refine zs b6 rfl ?_
  exact zf b6 U (zq tb U (AD (M4 false (Sh.AA h1).symm _ (AR _ U))))
theorem Qj {N:Nat} {p0:(List An)} {p1:Int} {r:(List Int)} (h0:HS N p0 p1=some r):AY Tryz.prog 135 [(ls Ad p0),(i64 p1)] [] (fun v st=>v=(ow 0 0 r)∧st=[(ro 0 3 1 eI r)]):=by
 unfold HS at h0
 refine ai Tryz.func135 U U U U (zr tb U U (sr U fun K2 hK2=>?_))
 refine DO (m:=0) (l:=([]:List Int)) (enc:=eI) Aa A2 (by decide) rfl U U U U U ?_
 refine zq tb U (dn hK2 U (AB fun K3 hK3=>sr U fun K4 hK4=>zm tb 2 U (zl tb U U (bs h0 fun q5 gq5 h0=>zc Ee (Aw gq5) rfl U U (zq tb U (dn hK4 U ?_))))))
 refine ci h0 U ?_ ?_ <;> clear h0
 ·intro b6 h0
  have b7:q5=false:=by simpa using b6
  refine zr tb U U ?_
  replace h0:=Sh.AA h0
  subst r
  exact AH (xr (AM (L:=[(4,(.own 0 0 (List.length ([]:List Int))))]) ⟨.rfl,trivial⟩))
 ·intro b6 h0
  have b9:q5=true:=by simpa using b6
  refine AG (hK3 _ (AB fun K10 hK10=>zr tb U U (bs h0 fun o15 h1 h0=>?_)))
  have M15 :∀(l14:(List Int)),o15=l14→∀s,Wk 0 s ⟨35,AS [(5,(ow 0 0 l14))],[(ro 0 3 1 eI l14)]⟩→K10 s:=by
   intro l14 hq s hw
   subst o15
   try dsimp only at h0
   refine hK10 _ (AI hw (zr tb U U ?_))
   replace h0:=Sh.AA h0
   subst r
   exact AH (xr (AM (L:=[(4,(ow 0 0 l14))]) ⟨.rfl,trivial⟩))
  refine AJ (AX (σ:=Int×(List Int)) (fun n v=>EA N p0 p1 n v.1 v.2=some o15) (fun (i12,l13)=>⟨35,AS [(0,(ls Ad p0)),(1,(i64 p1)),(5,(ow 0 0 l13)),(6,(i64 i12))],[(ro 0 3 1 eI l13)]⟩) N (0,[]) h1 (AE U) (fun _ hv=>by rw[EA] at hv;cases hv) ?_)
  rintro n ⟨i12,l13⟩ h1
  try dsimp only at h1 ⊢
  rw[EA] at h1
  refine AB fun K17 hK17=>sr U fun K18 hK18=>zm tb 4 U (bs h1 fun c19 gc19 h1=>zx HX gc19 U U U (zm tb 2 U (zl tb U U (zq tb U (dn hK18 U ?_)))))
  refine ci h1 U ?_ ?_ <;> clear h1
  ·intro b20 h1
   refine AG (hK17 _ (AB fun K21 hK21=>AJ (AF U (zm tb 4 U (bs h1 fun q22 gq22 h1=>zc WY (Ip gq22) rfl U U (zm tb 2 U ?_))))))
   refine DO (m:=1) (l:=[Sh.w (q22+i12)]) (enc:=eI) Aa A2 (by decide) rfl U U U U U ?_
   refine bs h1 fun l23 gl23 h1=>Ex (l2:=[Sh.w (q22+i12)]) Aa A2 U U U U (J0 U U) (fun _=>U) gl23 U (zq tb U (dn hK21 U (AF U (zm tb 3 U ?_))))
   exact AD (xi (Sh.w (i12+1),l23) h1 (by refine Wk.trans (Cf (L:=[(0,(ls Ad p0)),(1,(i64 p1)),(5,(ow 0 0 l23)),(6,(i64 (Sh.w (i12+1))))]) (st':=[(ro 0 3 1 eI l23),(ro 0 3 1 eI [Sh.w (q22+i12)])]) (.pure (AL fun _=>U) (.pure (AL fun _=>U) .nil)) ⟨.rfl,.rfl,.rfl,.rfl,trivial⟩) ?_;exact AN (L:=[(0,(ls Ad p0)),(1,(i64 p1)),(5,(ow 0 0 l23)),(6,(i64 (Sh.w (i12+1))))]) (st':=[(ro 0 3 1 eI l23)]) (st1:=[(ro 0 3 1 eI l23)]) [0] U .nil (by decide) rfl U (.pure (AL fun _=>U) .nil) ⟨.rfl,.rfl,.rfl,.rfl,trivial⟩))
  ·intro b20 h1
   exact Ac (M15 l13 (Sh.AA h1).symm _ (AE U))
theorem Mz {N:Nat} {p0:(List Int)} {p1:Int} {p2:Int} {p3:Int} {r:Bool} (h0:FO N p0 p1 p2 p3=some r):AY Tryz.prog 136 [(ls eI p0),(i64 p1),(i64 p2),(i64 p3)] [] (fun v st=>v=(.bool r)∧st=[]):=by
 unfold FO at h0
 refine ai Tryz.func136 U U U U (zr tb U U (AB fun K2 hK2=>sr U fun K3 hK3=>zq tb U (zl tb U U (zm tb 2 U (dn hK3 U ?_)))))
 refine ci h0 U ?_ ?_ <;> clear h0
 ·intro b4 h0
  have b5:decide ((Sh.len p0)=p1)=false:=by simpa using b4
  refine zr tb U U ?_
  replace h0:=Sh.AA h0
  subst r
  exact AH (xr (AM (L:=[(8,(.bool false))]) ⟨.rfl,trivial⟩))
 ·intro b4 h0
  have b7:decide ((Sh.len p0)=p1)=true:=by simpa using b4
  refine AG (hK2 _ (AB fun K8 hK8=>zr tb U U ?_))
  obtain⟨o11,h1,h0⟩:=Sh.A1 h0
  have M11 :∀(_:Unit),o11=Sum.inr ()→∀s,Wk 0 s ⟨29,AS [],[]⟩→K8 s:=by
   intro _ hq s hw
   subst o11
   try dsimp only at h0
   refine hK8 _ (AI hw (zr tb U U ?_))
   replace h0:=Sh.AA h0
   subst r
   exact AH (xr (AM (L:=[(8,(.bool true))]) ⟨.rfl,trivial⟩))
  refine AJ (AX (σ:=Int) (fun n v=>C3 p0 p1 p2 p3 n v=some o11) (fun i10=>⟨29,AS [(0,(ls eI p0)),(1,(i64 p1)),(2,(i64 p2)),(3,(i64 p3)),(9,(i64 i10))],[]⟩) N 0 h1 (AE U) (fun _ hv=>by rw[C3] at hv;cases hv) ?_)
  rintro n i10 h1
  try dsimp only at h1 ⊢
  rw[C3] at h1
  refine AB fun K13 hK13=>zr tb U U ?_
  refine ci h1 U ?_ ?_ <;> clear h1
  ·intro b15 h1
   refine AG (hK13 _ (AB fun K16 hK16=>AJ (sr U fun K17 hK17=>zm tb 2 U (bs h1 fun c18 gc18 h1=>zx A2 gc18 U U U (zm tb 5 U (bs h1 fun q19 gq19 h1=>zc Ee (Aw gq19) rfl U U (zq tb U (dn hK17 U ?_))))))))
   refine ci h1 U ?_ ?_ <;> clear h1
   ·intro b20 h1
    have b21:q19=false:=by simpa using b20
    refine zr tb U U ?_
    replace h1:=Sh.AA h1
    subst o11
    try dsimp only[id] at h0
    replace h0:=Sh.AA h0
    subst r
    exact AH (xr (AM (L:=[(8,(.bool false))]) ⟨.rfl,trivial⟩))
   ·intro b20 h1
    have b23:q19=true:=by simpa using b20
    exact AG (hK16 _ (AF U (zm tb 3 U (AD (xi (Sh.w (i10+1)) h1 (AE U))))))
  ·intro b15 h1
   exact Ac (M11 () (Sh.AA h1).symm _ (AE U))
theorem ND {N:Nat} {p0:Au} {p1:A0} {p2:Int} {r:Bool} (h0:Eu N p0 p1 p2=some r):AY Tryz.prog 114 [(.agg (Ao p0)),(.agg (Az p1)),(i64 p2)] [] (fun v st=>v=(.bool r)∧st=[]):=by
 unfold Eu at h0
 refine ai Tryz.func114 U U U U (sr U fun K1 hK1=>A8 (m:=0) Aa U U U U U (A8 (m:=1) Aa U U U U U (zq tb U (dn hK1 U (sr U fun K2 hK2=>zm tb 3 U (bs h0 fun c3 gc3 h0=>zx IB gc3 U U U (zq tb U (BF (m:=2) Aa PX U U ?_))))))))
 refine A7 Aa N3 U U U U U U (show 0+6≤6 by decide) rfl (dn hK2 U (sr U fun K4 hK4=>zm tb 2 U (zl tb U U (zq tb U (dn hK4 U (AB fun K5 hK5=>zr tb U U ?_))))))
 obtain⟨o8,h1,h0⟩:=Sh.A1 h0
 have M8 :∀(_:Unit),o8=Sum.inr ()→∀s,Wk 0 s ⟨234,AS [(2,(i64 p2)),(3,(.ptr 0 0 0 0)),(4,(.ptr 1 0 0 0)),(7,(.ptr 2 0 0 0)),(8,(i64 (Sh.len c3.args)))],[⟨0,37,2,[(Ao p0)]⟩,⟨0,99,5,[(Az p1)]⟩,⟨0,132,6,[(AU c3)]⟩]⟩→K5 s:=by
  intro _ hq s hw
  subst o8
  try dsimp only at h0
  refine hK5 _ (AI hw (AB fun K9 hK9=>AB fun K10 hK10=>bs h0 fun o12 h1 h0=>?_))
  have M12 :∀(t11:Bool),o12=t11→∀s,Wk 0 s ⟨234,AS [(2,(i64 p2)),(3,(.ptr 0 0 0 0)),(4,(.ptr 1 0 0 0)),(7,(.ptr 2 0 0 0)),(8,(i64 (Sh.len c3.args))),(72,(.bool t11))],[⟨0,37,2,[(Ao p0)]⟩,⟨0,99,5,[(Az p1)]⟩,⟨0,132,6,[(AU c3)]⟩]⟩→K10 s:=by
   intro t11 hq s hw
   subst o12
   try dsimp only at h0
   refine hK10 _ (AI hw ?_)
   refine ci h0 U ?_ ?_ <;> clear h0
   ·intro b13 h0
    refine zr tb U U ?_
    replace h0:=Sh.AA h0
    subst r
    exact AH (xr (AR [(6,(.bool false))] U))
   ·intro b13 h0
    refine AG (hK9 _ (AB fun K15 hK15=>zr tb U U (AJ (zr tb U U ?_))))
    refine ci h0 U ?_ ?_ <;> clear h0
    ·intro b18 h0
     refine AB fun K19 hK19=>bs h0 fun o21 h1 h0=>?_
     have M21 :∀(t20:Bool),o21=t20→∀s,Wk 0 s ⟨234,AS [(6,(.bool t20))],[]⟩→K19 s:=by
      intro t20 hq s hw
      subst o21
      try dsimp only at h0
      refine hK19 _ (AI hw ?_)
      replace h0:=Sh.AA h0
      subst r
      exact AH (xr (AM (L:=[(6,(.bool t20))]) ⟨.rfl,trivial⟩))
     refine AF U (zm tb 3 U ?_)
     rcases Sh.AP h1 with ⟨b22,h1⟩ | ⟨b22,h1⟩
     ·exact zg tb b22 U (zg tb b22 U (bs h1 fun q23 gq23 h1=>zd b22 Ee (Aw gq23) rfl U U U (zt b22 U (zq tb U (AD (M21 q23 (Sh.AA h1).symm _ (AR _ U)))))))
     ·exact zs b22 U (zs b22 U (zs b22 U (zf b22 U (zq tb U (AD (M21 false (Sh.AA h1).symm _ (AR _ U)))))))
    ·intro b18 h0
     refine AB fun K24 hK24=>bs h0 fun o26 h1 h0=>?_
     have M26 :∀(t25:Bool),o26=t25→∀s,Wk 0 s ⟨234,AS [(2,(i64 p2)),(3,(.ptr 0 0 0 0)),(4,(.ptr 1 0 0 0)),(7,(.ptr 2 0 0 0)),(8,(i64 (Sh.len c3.args))),(74,(i64 c3.op)),(84,(.bool t25))],[⟨0,37,2,[(Ao p0)]⟩,⟨0,99,5,[(Az p1)]⟩,⟨0,132,6,[(AU c3)]⟩]⟩→K24 s:=by
      intro t25 hq s hw
      subst o26
      try dsimp only at h0
      refine hK24 _ (AI hw ?_)
      refine ci h0 U ?_ ?_ <;> clear h0
      ·intro b27 h0
       refine AB fun K28 hK28=>bs h0 fun o30 h1 h0=>?_
       have M30 :∀(t29:Bool),o30=t29→∀s,Wk 0 s ⟨234,AS [(6,(.bool t29))],[]⟩→K28 s:=by
        intro t29 hq s hw
        subst o30
        try dsimp only at h0
        refine hK28 _ (AI hw ?_)
        replace h0:=Sh.AA h0
        subst r
        exact AH (xr (AM (L:=[(6,(.bool t29))]) ⟨.rfl,trivial⟩))
       refine AF U (zm tb 3 U ?_)
       rcases Sh.AP h1 with ⟨b31,h1⟩ | ⟨b31,h1⟩
       ·exact zg tb b31 U (zg tb b31 U (zg tb b31 U (zt b31 U (zq tb U (AD (M30 (decide (c3.num=0)) (Sh.AA h1).symm _ (AR _ U)))))))
       ·exact zs b31 U (zs b31 U (zs b31 U (zf b31 U (zq tb U (AD (M30 false (Sh.AA h1).symm _ (AR _ U)))))))
      ·intro b27 h0
       refine AB fun K32 hK32=>bs h0 fun o34 h1 h0=>?_
       have M34 :∀(t33:Bool),o34=t33→∀s,Wk 0 s ⟨234,AS [(2,(i64 p2)),(3,(.ptr 0 0 0 0)),(4,(.ptr 1 0 0 0)),(7,(.ptr 2 0 0 0)),(8,(i64 (Sh.len c3.args))),(74,(i64 c3.op)),(97,(.bool t33))],[⟨0,37,2,[(Ao p0)]⟩,⟨0,99,5,[(Az p1)]⟩,⟨0,132,6,[(AU c3)]⟩]⟩→K32 s:=by
        intro t33 hq s hw
        subst o34
        try dsimp only at h0
        refine hK32 _ (AI hw ?_)
        refine ci h0 U ?_ ?_ <;> clear h0
        ·intro b35 h0
         refine AB fun K36 hK36=>bs h0 fun o38 h1 h0=>?_
         have M38 :∀(t37:Bool),o38=t37→∀s,Wk 0 s ⟨234,AS [(6,(.bool t37))],[]⟩→K36 s:=by
          intro t37 hq s hw
          subst o38
          try dsimp only at h0
          refine hK36 _ (AI hw ?_)
          replace h0:=Sh.AA h0
          subst r
          exact AH (xr (AM (L:=[(6,(.bool t37))]) ⟨.rfl,trivial⟩))
         refine AF U (zm tb 3 U ?_)
         rcases Sh.AP h1 with ⟨b39,h1⟩ | ⟨b39,h1⟩
         ·exact zg tb b39 U (zg tb b39 U (zg tb b39 U (zt b39 U (zq tb U (AD (M38 (decide (c3.num=0)) (Sh.AA h1).symm _ (AR _ U)))))))
         ·exact zs b39 U (zs b39 U (zs b39 U (zf b39 U (zq tb U (AD (M38 false (Sh.AA h1).symm _ (AR _ U)))))))
        ·intro b35 h0
         refine zr tb U U ?_
         refine ci h0 U ?_ ?_ <;> clear h0
         ·intro b41 h0
          refine AB fun K42 hK42=>bs h0 fun o44 h1 h0=>?_
          have M44 :∀(t43:Bool),o44=t43→∀s,Wk 0 s ⟨234,AS [(6,(.bool t43))],[]⟩→K42 s:=by
           intro t43 hq s hw
           subst o44
           try dsimp only at h0
           refine hK42 _ (AI hw ?_)
           replace h0:=Sh.AA h0
           subst r
           exact AH (xr (AM (L:=[(6,(.bool t43))]) ⟨.rfl,trivial⟩))
          refine AF U (zm tb 4 U (bs h1 fun q45 gq45 h1=>zc Yo (LL gq45) rfl U U (zm tb 2 U ?_)))
          rcases Sh.AP h1 with ⟨b46,h1⟩ | ⟨b46,h1⟩
          ·refine zg tb b46 U ?_
           iterate 4 refine zg tb b46 rfl ?_
           refine bs h1 fun q47 gq47 h1=>zd b46 bC (N6 gq47) rfl U U U (A5 (v:=(i64 (Sh.len q47))) (A9 U U b46) rfl (BL EE U) (zg tb b46 U (zt b46 U (zq tb U ?_))))
           rcases Sh.AP h1 with ⟨b48,h1⟩ | ⟨b48,h1⟩
           ·refine zg tb b48 U ?_
            iterate 3 refine zg tb b48 rfl ?_
            exact bs h1 fun q49 gq49 h1=>zd b48 Ee (Aw gq49) rfl U U U (zt b48 U (zq tb U (AD (M44 q49 (Sh.AA h1).symm _ (AR _ U)))))
           ·refine zs b48 U ?_
            iterate 4 refine zs b48 rfl ?_
            exact zf b48 U (zq tb U (AD (M44 false (Sh.AA h1).symm _ (AR _ U))))
          ·refine zs b46 U ?_
           iterate 7 refine zs b46 rfl ?_
           refine zf b46 U (zq tb U ?_)
           iterate 5 refine zs rfl rfl ?_
           exact zf U U (zq tb U (AD (M44 false (Sh.AA h1).symm _ (AR _ U))))
         ·intro b41 h0
          refine AB fun K50 hK50=>bs h0 fun o52 h1 h0=>?_
          have M52 :∀(t51:Bool),o52=t51→∀s,Wk 0 s ⟨234,AS [(2,(i64 p2)),(3,(.ptr 0 0 0 0)),(4,(.ptr 1 0 0 0)),(7,(.ptr 2 0 0 0)),(8,(i64 (Sh.len c3.args))),(74,(i64 c3.op)),(135,(.bool t51))],[⟨0,37,2,[(Ao p0)]⟩,⟨0,99,5,[(Az p1)]⟩,⟨0,132,6,[(AU c3)]⟩]⟩→K50 s:=by
           intro t51 hq s hw
           subst o52
           try dsimp only at h0
           refine hK50 _ (AI hw ?_)
           refine ci h0 U ?_ ?_ <;> clear h0
           ·intro b53 h0
            refine sr U fun K54 hK54=>zm tb 4 U (bs h0 fun q55 gq55 h0=>zc ZR (KM gq55) rfl U U (zq tb U (dn hK54 U ?_)))
            replace h0:=Sh.AA h0
            subst r
            exact AH (xr (AR [(6,(.bool q55))] U))
           ·intro b53 h0
            refine zr tb U U ?_
            refine ci h0 U ?_ ?_ <;> clear h0
            ·intro b57 h0
             refine AB fun K58 hK58=>bs h0 fun o60 h1 h0=>?_
             have M60 :∀(t59:Bool),o60=t59→∀s,Wk 0 s ⟨234,AS [(6,(.bool t59))],[]⟩→K58 s:=by
              intro t59 hq s hw
              subst o60
              try dsimp only at h0
              refine hK58 _ (AI hw ?_)
              replace h0:=Sh.AA h0
              subst r
              exact AH (xr (AM (L:=[(6,(.bool t59))]) ⟨.rfl,trivial⟩))
             refine AF U (zm tb 4 U (bs h1 fun q61 gq61 h1=>zc ZR (KM gq61) rfl U U (zq tb U ?_)))
             rcases Sh.AP h1 with ⟨b62,h1⟩ | ⟨b62,h1⟩
             ·refine zg tb b62 U ?_
              iterate 3 refine zg tb b62 rfl ?_
              exact bs h1 fun c63 gc63 h1=>A5 (v:=(.Bi (Az c63) 0)) (A9 U U b62) rfl (Bh IC U U gc63 U) (zg tb b62 U (zg tb b62 U (A5 (v:=(i64 (Sh.len c63.BH))) (A9 U U b62) rfl (BL EE U) (zg tb b62 U (zt b62 U (zq tb U (AD (M60 (decide ((Sh.len c63.BH)=0)) (Sh.AA h1).symm _ (AR _ U)))))))))
             ·refine zs b62 U ?_
              iterate 8 refine zs b62 rfl ?_
              exact zf b62 U (zq tb U (AD (M60 false (Sh.AA h1).symm _ (AR _ U))))
            ·intro b57 h0
             refine AB fun K64 hK64=>bs h0 fun o66 h1 h0=>?_
             have M66 :∀(t65:Bool),o66=t65→∀s,Wk 0 s ⟨234,AS [(2,(i64 p2)),(3,(.ptr 0 0 0 0)),(4,(.ptr 1 0 0 0)),(7,(.ptr 2 0 0 0)),(8,(i64 (Sh.len c3.args))),(74,(i64 c3.op)),(161,(.bool t65))],[⟨0,37,2,[(Ao p0)]⟩,⟨0,99,5,[(Az p1)]⟩,⟨0,132,6,[(AU c3)]⟩]⟩→K64 s:=by
              intro t65 hq s hw
              subst o66
              try dsimp only at h0
              refine hK64 _ (AI hw ?_)
              refine ci h0 U ?_ ?_ <;> clear h0
              ·intro b67 h0
               refine AB fun K68 hK68=>bs h0 fun o70 h1 h0=>?_
               have M70 :∀(t69:Bool),o70=t69→∀s,Wk 0 s ⟨234,AS [(6,(.bool t69))],[]⟩→K68 s:=by
                intro t69 hq s hw
                subst o70
                try dsimp only at h0
                refine hK68 _ (AI hw ?_)
                replace h0:=Sh.AA h0
                subst r
                exact AH (xr (AM (L:=[(6,(.bool t69))]) ⟨.rfl,trivial⟩))
               refine AF U (zq tb U (bs h1 fun q71 gq71 h1=>zc Ee (Aw gq71) rfl U U (zq tb U ?_)))
               rcases Sh.AP h1 with ⟨b72,h1⟩ | ⟨b72,h1⟩
               ·exact zg tb b72 U (zg tb b72 U (zg tb b72 U (zt b72 U (zq tb U (AD (M70 (decide (c3.num=0)) (Sh.AA h1).symm _ (AR _ U)))))))
               ·exact zs b72 U (zs b72 U (zs b72 U (zf b72 U (zq tb U (AD (M70 false (Sh.AA h1).symm _ (AR _ U)))))))
              ·intro b67 h0
               refine zr tb U U ?_
               refine ci h0 U ?_ ?_ <;> clear h0
               ·intro b74 h0
                refine AB fun K75 hK75=>bs h0 fun o77 h1 h0=>?_
                have M77 :∀(t76:Bool),o77=t76→∀s,Wk 0 s ⟨234,AS [(6,(.bool t76))],[]⟩→K75 s:=by
                 intro t76 hq s hw
                 subst o77
                 try dsimp only at h0
                 refine hK75 _ (AI hw ?_)
                 replace h0:=Sh.AA h0
                 subst r
                 exact AH (xr (AM (L:=[(6,(.bool t76))]) ⟨.rfl,trivial⟩))
                refine AF U (zm tb 3 U ?_)
                rcases Sh.AP h1 with ⟨b78,h1⟩ | ⟨b78,h1⟩
                ·exact zg tb b78 U (zg tb b78 U (bs h1 fun q79 gq79 h1=>zd b78 Ee (Aw gq79) rfl U U U (zt b78 U (zq tb U (AD (M77 q79 (Sh.AA h1).symm _ (AR _ U)))))))
                ·exact zs b78 U (zs b78 U (zs b78 U (zf b78 U (zq tb U (AD (M77 false (Sh.AA h1).symm _ (AR _ U)))))))
               ·intro b74 h0
                refine zr tb U U ?_
                refine ci h0 U ?_ ?_ <;> clear h0
                ·intro b81 h0
                 refine AB fun K82 hK82=>bs h0 fun o84 h1 h0=>?_
                 have M84 :∀(t83:Bool),o84=t83→∀s,Wk 0 s ⟨234,AS [(6,(.bool t83))],[]⟩→K82 s:=by
                  intro t83 hq s hw
                  subst o84
                  try dsimp only at h0
                  refine hK82 _ (AI hw ?_)
                  replace h0:=Sh.AA h0
                  subst r
                  exact AH (xr (AM (L:=[(6,(.bool t83))]) ⟨.rfl,trivial⟩))
                 refine AF U (zm tb 3 U ?_)
                 rcases Sh.AP h1 with ⟨b85,h1⟩ | ⟨b85,h1⟩
                 ·refine zg tb b85 U ?_
                  iterate 5 refine zg tb b85 rfl ?_
                  exact A5 (v:=(i64 (Sh.len p1.code))) (A9 U U b85) rfl (BL QV U) (zg tb b85 U (bs h1 fun q86 gq86 h1=>zd b85 Ee (Aw gq86) rfl U U U (zt b85 U (zq tb U (AD (M84 q86 (Sh.AA h1).symm _ (AR _ U)))))))
                 ·refine zs b85 U ?_
                  iterate 8 refine zs b85 rfl ?_
                  exact zf b85 U (zq tb U (AD (M84 false (Sh.AA h1).symm _ (AR _ U))))
                ·intro b81 h0
                 refine zr tb U U ?_
                 refine ci h0 U ?_ ?_ <;> clear h0
                 ·intro b88 h0
                  refine AB fun K89 hK89=>bs h0 fun o91 h1 h0=>?_
                  have M91 :∀(t90:Bool),o91=t90→∀s,Wk 0 s ⟨234,AS [(6,(.bool t90))],[]⟩→K89 s:=by
                   intro t90 hq s hw
                   subst o91
                   try dsimp only at h0
                   refine hK89 _ (AI hw ?_)
                   replace h0:=Sh.AA h0
                   subst r
                   exact AH (xr (AM (L:=[(6,(.bool t90))]) ⟨.rfl,trivial⟩))
                  refine AF U (zm tb 3 U ?_)
                  rcases Sh.AP h1 with ⟨b92,h1⟩ | ⟨b92,h1⟩
                  ·refine zg tb b92 U ?_
                   iterate 5 refine zg tb b92 rfl ?_
                   exact A5 (v:=(i64 (Sh.len p1.code))) (A9 U U b92) rfl (BL QV U) (zg tb b92 U (bs h1 fun q93 gq93 h1=>zd b92 Ee (Aw gq93) rfl U U U (zt b92 U (zq tb U (AD (M91 q93 (Sh.AA h1).symm _ (AR _ U)))))))
                  ·refine zs b92 U ?_
                   iterate 8 refine zs b92 rfl ?_
                   exact zf b92 U (zq tb U (AD (M91 false (Sh.AA h1).symm _ (AR _ U))))
                 ·intro b88 h0
                  refine zr tb U U ?_
                  refine ci h0 U ?_ ?_ <;> clear h0
                  ·intro b95 h0
                   refine sr U fun K96 hK96=>zm tb 4 U (bs h0 fun q97 gq97 h0=>BN (v':=(ow 3 0 q97)) Aa cL (Qj gq97) rfl U ⟨(BB fun _=>U),trivial⟩ U U (zz (i64 (Sh.len q97)) (Dj EE U U U) rfl (zq tb U (dn hK96 U (AB fun K98 hK98=>bs h0 fun o100 h1 h0=>?_)))))
                   have M100 :∀(t99:Bool),o100=t99→∀s,Wk 0 s ⟨234,AS [(6,(.bool t99))],[]⟩→K98 s:=by
                    intro t99 hq s hw
                    subst o100
                    try dsimp only at h0
                    refine hK98 _ (AI hw ?_)
                    replace h0:=Sh.AA h0
                    subst r
                    exact AH (xr (AM (L:=[(6,(.bool t99))]) ⟨.rfl,trivial⟩))
                   refine AF U (zm tb 3 U ?_)
                   rcases Sh.AP h1 with ⟨b101,h1⟩ | ⟨b101,h1⟩
                   ·refine zg tb b101 U (zg tb b101 U (zt b101 U (zq tb U ?_)))
                    rcases Sh.AP h1 with ⟨b102,h1⟩ | ⟨b102,h1⟩
                    ·refine zg tb b102 U ?_
                     iterate 5 refine zg tb b102 rfl ?_
                     exact A5 (v:=(i64 (Sh.len p1.code))) (A9 U U b102) rfl (BL QV U) (bs h1 fun q103 gq103 h1=>zd b102 bt (Mz gq103) rfl U U U (zt b102 U (zq tb U (AD (M100 q103 (Sh.AA h1).symm _ (AR _ U))))))
                    ·refine zs b102 U ?_
                     iterate 7 refine zs b102 rfl ?_
                     exact zf b102 U (zq tb U (AD (M100 false (Sh.AA h1).symm _ (AR _ U))))
                   ·refine zs b101 U (zs b101 U (zf b101 U (zq tb U ?_)))
                    iterate 8 refine zs rfl rfl ?_
                    exact zf U U (zq tb U (AD (M100 false (Sh.AA h1).symm _ (AR _ U))))
                  ·intro b95 h0
                   refine AG (hK15 _ (zr tb U U ?_))
                   replace h0:=Sh.AA h0
                   subst r
                   exact AH (xr (AR [(6,(.bool false))] U))
             refine zr tb U U ?_
             refine ci h1 U ?_ ?_ <;> clear h1
             ·intro b106 h1
              exact AG (M66 true (Sh.AA h1).symm _ (AM (L:=[(2,(i64 p2)),(3,(.ptr 0 0 0 0)),(4,(.ptr 1 0 0 0)),(7,(.ptr 2 0 0 0)),(8,(i64 (Sh.len c3.args))),(74,(i64 c3.op)),(161,(.bool true))]) ⟨.rfl,.rfl,.rfl,.rfl,.rfl,.rfl,(.of (congrArg AV.bool b106)),trivial⟩))
             ·intro b106 h1
              exact AF U (zm tb 2 U (AD (M66 (decide (c3.op=17)) (Sh.AA h1).symm _ (AE U))))
          refine zr tb U U ?_
          refine ci h1 U ?_ ?_ <;> clear h1
          ·intro b108 h1
           exact AG (M52 true (Sh.AA h1).symm _ (AM (L:=[(2,(i64 p2)),(3,(.ptr 0 0 0 0)),(4,(.ptr 1 0 0 0)),(7,(.ptr 2 0 0 0)),(8,(i64 (Sh.len c3.args))),(74,(i64 c3.op)),(135,(.bool true))]) ⟨.rfl,.rfl,.rfl,.rfl,.rfl,.rfl,(.of (congrArg AV.bool b108)),trivial⟩))
          ·intro b108 h1
           exact AF U (zm tb 2 U (AD (M52 (decide (c3.op=24)) (Sh.AA h1).symm _ (AE U))))
       refine zr tb U U ?_
       refine ci h1 U ?_ ?_ <;> clear h1
       ·intro b110 h1
        exact AG (M34 true (Sh.AA h1).symm _ (AM (L:=[(2,(i64 p2)),(3,(.ptr 0 0 0 0)),(4,(.ptr 1 0 0 0)),(7,(.ptr 2 0 0 0)),(8,(i64 (Sh.len c3.args))),(74,(i64 c3.op)),(97,(.bool true))]) ⟨.rfl,.rfl,.rfl,.rfl,.rfl,.rfl,(.of (congrArg AV.bool b110)),trivial⟩))
       ·intro b110 h1
        refine zr tb U U ?_
        refine ci h1 U ?_ ?_ <;> clear h1
        ·intro b112 h1
         exact AG (M34 true (Sh.AA h1).symm _ (AM (L:=[(2,(i64 p2)),(3,(.ptr 0 0 0 0)),(4,(.ptr 1 0 0 0)),(7,(.ptr 2 0 0 0)),(8,(i64 (Sh.len c3.args))),(74,(i64 c3.op)),(97,(.bool true))]) ⟨.rfl,.rfl,.rfl,.rfl,.rfl,.rfl,(.of (congrArg AV.bool b112)),trivial⟩))
        ·intro b112 h1
         refine zr tb U U ?_
         refine ci h1 U ?_ ?_ <;> clear h1
         ·intro b114 h1
          exact AG (M34 true (Sh.AA h1).symm _ (AM (L:=[(2,(i64 p2)),(3,(.ptr 0 0 0 0)),(4,(.ptr 1 0 0 0)),(7,(.ptr 2 0 0 0)),(8,(i64 (Sh.len c3.args))),(74,(i64 c3.op)),(97,(.bool true))]) ⟨.rfl,.rfl,.rfl,.rfl,.rfl,.rfl,(.of (congrArg AV.bool b114)),trivial⟩))
         ·intro b114 h1
          refine zr tb U U ?_
          refine ci h1 U ?_ ?_ <;> clear h1
          ·intro b116 h1
           exact AG (M34 true (Sh.AA h1).symm _ (AM (L:=[(2,(i64 p2)),(3,(.ptr 0 0 0 0)),(4,(.ptr 1 0 0 0)),(7,(.ptr 2 0 0 0)),(8,(i64 (Sh.len c3.args))),(74,(i64 c3.op)),(97,(.bool true))]) ⟨.rfl,.rfl,.rfl,.rfl,.rfl,.rfl,(.of (congrArg AV.bool b116)),trivial⟩))
          ·intro b116 h1
           exact AF U (zm tb 2 U (AD (M34 (decide (c3.op=23)) (Sh.AA h1).symm _ (AE U))))
     refine zr tb U U ?_
     refine ci h1 U ?_ ?_ <;> clear h1
     ·intro b118 h1
      exact AG (M26 true (Sh.AA h1).symm _ (AM (L:=[(2,(i64 p2)),(3,(.ptr 0 0 0 0)),(4,(.ptr 1 0 0 0)),(7,(.ptr 2 0 0 0)),(8,(i64 (Sh.len c3.args))),(74,(i64 c3.op)),(84,(.bool true))]) ⟨.rfl,.rfl,.rfl,.rfl,.rfl,.rfl,(.of (congrArg AV.bool b118)),trivial⟩))
     ·intro b118 h1
      refine zr tb U U ?_
      refine ci h1 U ?_ ?_ <;> clear h1
      ·intro b120 h1
       exact AG (M26 true (Sh.AA h1).symm _ (AM (L:=[(2,(i64 p2)),(3,(.ptr 0 0 0 0)),(4,(.ptr 1 0 0 0)),(7,(.ptr 2 0 0 0)),(8,(i64 (Sh.len c3.args))),(74,(i64 c3.op)),(84,(.bool true))]) ⟨.rfl,.rfl,.rfl,.rfl,.rfl,.rfl,(.of (congrArg AV.bool b120)),trivial⟩))
      ·intro b120 h1
       refine zr tb U U ?_
       refine ci h1 U ?_ ?_ <;> clear h1
       ·intro b122 h1
        exact AG (M26 true (Sh.AA h1).symm _ (AM (L:=[(2,(i64 p2)),(3,(.ptr 0 0 0 0)),(4,(.ptr 1 0 0 0)),(7,(.ptr 2 0 0 0)),(8,(i64 (Sh.len c3.args))),(74,(i64 c3.op)),(84,(.bool true))]) ⟨.rfl,.rfl,.rfl,.rfl,.rfl,.rfl,(.of (congrArg AV.bool b122)),trivial⟩))
       ·intro b122 h1
        refine zr tb U U ?_
        refine ci h1 U ?_ ?_ <;> clear h1
        ·intro b124 h1
         exact AG (M26 true (Sh.AA h1).symm _ (AM (L:=[(2,(i64 p2)),(3,(.ptr 0 0 0 0)),(4,(.ptr 1 0 0 0)),(7,(.ptr 2 0 0 0)),(8,(i64 (Sh.len c3.args))),(74,(i64 c3.op)),(84,(.bool true))]) ⟨.rfl,.rfl,.rfl,.rfl,.rfl,.rfl,(.of (congrArg AV.bool b124)),trivial⟩))
        ·intro b124 h1
         exact AF U (zm tb 2 U (AD (M26 (decide (c3.op=11)) (Sh.AA h1).symm _ (AE U))))
  refine AF U (zm tb 5 U (bs h1 fun q125 gq125 h1=>zc Ee (Aw gq125) rfl U U (zm tb 2 U ?_)))
  rcases Sh.AP h1 with ⟨b126,h1⟩ | ⟨b126,h1⟩
  ·refine zs b126 U ?_
   iterate 3 refine zs b126 rfl ?_
   iterate 4 refine zn rfl ?_
   refine zs b126 U (zt b126 U (zq tb U ?_))
   iterate 4 refine zs rfl rfl ?_
   iterate 3 refine zn rfl ?_
   refine zs U U (zt U U (zq tb U ?_))
   iterate 4 refine zs rfl rfl ?_
   iterate 4 refine zn rfl ?_
   exact zs U U (zt U U (AD (M12 true (Sh.AA h1).symm _ (AE U))))
  ·refine zg tb b126 U ?_
   iterate 3 refine zg tb b126 rfl ?_
   rcases Sh.AP h1 with ⟨b127,h1⟩ | ⟨b127,h1⟩
   ·refine zg tb b127 U (zg tb b127 U (bs h1 fun q128 gq128 h1=>zd b127 ak (NW gq128) rfl U U U (zg tb b127 U (A5 (v:=(.bool (!q128))) (A9 U U b126) rfl (Br U b127 U) (zf b126 U (zq tb U ?_))))))
    rcases Sh.AP h1 with ⟨b129,h1⟩ | ⟨b129,h1⟩
    ·refine zs b129 U ?_
     iterate 3 refine zs b129 rfl ?_
     iterate 3 refine zn rfl ?_
     refine zs b129 U (zt b129 U (zq tb U ?_))
     iterate 4 refine zs rfl rfl ?_
     iterate 4 refine zn rfl ?_
     exact zs U U (zt U U (AD (M12 true (Sh.AA h1).symm _ (AE U))))
    ·refine zg tb b129 U ?_
     iterate 3 refine zg tb b129 rfl ?_
     rcases Sh.AP h1 with ⟨b130,h1⟩ | ⟨b130,h1⟩
     ·refine zg tb b130 U (zg tb b130 U (zg tb b130 U (A5 (v:=(.bool (!decide (c3.op=6)))) (A9 U U b129) rfl (Br U b130 U) (zf b129 U (zq tb U ?_)))))
      rcases Sh.AP h1 with ⟨b131,h1⟩ | ⟨b131,h1⟩
      ·refine zs b131 U ?_
       iterate 3 refine zs b131 rfl ?_
       iterate 4 refine zn rfl ?_
       exact zs b131 U (zt b131 U (AD (M12 true (Sh.AA h1).symm _ (AE U))))
      ·refine zg tb b131 U ?_
       iterate 3 refine zg tb b131 rfl ?_
       rcases Sh.AP h1 with ⟨b132,h1⟩ | ⟨b132,h1⟩
       ·exact zg tb b132 U (zg tb b132 U (A5 (v:=(i64 (Sh.len c3.jumps))) (A9 U U b132) rfl (BL EE U) (zg tb b132 U (A5 (v:=(.bool (decide (0 < (Sh.len c3.jumps))))) (A9 U U b131) rfl (Br U b132 U) (zf b131 U (AD (M12 (decide (0 < (Sh.len c3.jumps))) (Sh.AA h1).symm _ (AE U))))))))
       ·refine zs b132 U ?_
        iterate 3 refine zs b132 rfl ?_
        exact A5 (v:=(.bool false)) (A9 U U b131) rfl (CE U b132 U) (zf b131 U (AD (M12 false (Sh.AA h1).symm _ (AE U))))
     ·refine zs b130 U (zs b130 U (zs b130 U (A5 (v:=(.bool false)) (A9 U U b129) rfl (CE U b130 U) (zf b129 U (zq tb U ?_)))))
      iterate 4 refine zg tb rfl rfl ?_
      rcases Sh.AP h1 with ⟨b133,h1⟩ | ⟨b133,h1⟩
      ·exact zg tb b133 U (zg tb b133 U (A5 (v:=(i64 (Sh.len c3.jumps))) (A9 U U b133) rfl (BL EE U) (zg tb b133 U (A5 (v:=(.bool (decide (0 < (Sh.len c3.jumps))))) (A9 U U U) rfl (Br U b133 U) (zf U U (AD (M12 (decide (0 < (Sh.len c3.jumps))) (Sh.AA h1).symm _ (AE U))))))))
      ·refine zs b133 U ?_
       iterate 3 refine zs b133 rfl ?_
       exact A5 (v:=(.bool false)) (A9 U U U) rfl (CE U b133 U) (zf U U (AD (M12 false (Sh.AA h1).symm _ (AE U))))
   ·refine zs b127 U ?_
    iterate 3 refine zs b127 rfl ?_
    refine A5 (v:=(.bool false)) (A9 U U b126) rfl (CE U b127 U) (zf b126 U (zq tb U ?_))
    iterate 4 refine zg tb rfl rfl ?_
    rcases Sh.AP h1 with ⟨b134,h1⟩ | ⟨b134,h1⟩
    ·refine zg tb b134 U (zg tb b134 U (zg tb b134 U (A5 (v:=(.bool (!decide (c3.op=6)))) (A9 U U U) rfl (Br U b134 U) (zf U U (zq tb U ?_)))))
     rcases Sh.AP h1 with ⟨b135,h1⟩ | ⟨b135,h1⟩
     ·refine zs b135 U ?_
      iterate 3 refine zs b135 rfl ?_
      iterate 4 refine zn rfl ?_
      exact zs b135 U (zt b135 U (AD (M12 true (Sh.AA h1).symm _ (AE U))))
     ·refine zg tb b135 U ?_
      iterate 3 refine zg tb b135 rfl ?_
      rcases Sh.AP h1 with ⟨b136,h1⟩ | ⟨b136,h1⟩
      ·exact zg tb b136 U (zg tb b136 U (A5 (v:=(i64 (Sh.len c3.jumps))) (A9 U U b136) rfl (BL EE U) (zg tb b136 U (A5 (v:=(.bool (decide (0 < (Sh.len c3.jumps))))) (A9 U U b135) rfl (Br U b136 U) (zf b135 U (AD (M12 (decide (0 < (Sh.len c3.jumps))) (Sh.AA h1).symm _ (AE U))))))))
      ·refine zs b136 U ?_
       iterate 3 refine zs b136 rfl ?_
       exact A5 (v:=(.bool false)) (A9 U U b135) rfl (CE U b136 U) (zf b135 U (AD (M12 false (Sh.AA h1).symm _ (AE U))))
    ·refine zs b134 U (zs b134 U (zs b134 U (A5 (v:=(.bool false)) (A9 U U U) rfl (CE U b134 U) (zf U U (zq tb U ?_)))))
     iterate 4 refine zg tb rfl rfl ?_
     rcases Sh.AP h1 with ⟨b137,h1⟩ | ⟨b137,h1⟩
     ·exact zg tb b137 U (zg tb b137 U (A5 (v:=(i64 (Sh.len c3.jumps))) (A9 U U b137) rfl (BL EE U) (zg tb b137 U (A5 (v:=(.bool (decide (0 < (Sh.len c3.jumps))))) (A9 U U U) rfl (Br U b137 U) (zf U U (AD (M12 (decide (0 < (Sh.len c3.jumps))) (Sh.AA h1).symm _ (AE U))))))))
     ·refine zs b137 U ?_
      iterate 3 refine zs b137 rfl ?_
      exact A5 (v:=(.bool false)) (A9 U U U) rfl (CE U b137 U) (zf U U (AD (M12 false (Sh.AA h1).symm _ (AE U))))
 refine AJ (AX (σ:=Int) (fun n v=>CQ c3 p1 n v=some o8) (fun k7=>⟨234,AS [(2,(i64 p2)),(3,(.ptr 0 0 0 0)),(4,(.ptr 1 0 0 0)),(7,(.ptr 2 0 0 0)),(8,(i64 (Sh.len c3.args))),(9,(i64 k7))],[⟨0,37,2,[(Ao p0)]⟩,⟨0,99,5,[(Az p1)]⟩,⟨0,132,6,[(AU c3)]⟩]⟩) N 0 h1 (AE U) (fun _ hv=>by rw[CQ] at hv;cases hv) ?_)
 rintro n k7 h1
 try dsimp only at h1 ⊢
 rw[CQ] at h1
 refine AB fun K138 hK138=>zr tb U U ?_
 refine ci h1 U ?_ ?_ <;> clear h1
 ·intro b140 h1
  refine AG (hK138 _ (AB fun K141 hK141=>AJ (AB fun K142 hK142=>?_)))
  refine B1 (by kernel_rfl) (by kernel_rfl) (by rfl) ?_
  iterate 3 refine yq tb rfl ?_
  refine bs h1 fun c143 gc143 h1=>yx A2 gc143 U U U ?_
  iterate 4 refine yq tb rfl ?_
  refine bs h1 fun q144 gq144 h1=>E0 (v:=(.bool q144)) Aa Ee (Aw gq144) rfl U U (yq tb U (BP (hK142 _ ?_)))
  refine ci h1 U ?_ ?_ <;> clear h1
  ·intro b145 h1
   have b146:q144=false:=by simpa using b145
   refine zr tb U U ?_
   replace h1:=Sh.AA h1
   subst o8
   try dsimp only[id] at h0
   replace h0:=Sh.AA h0
   subst r
   exact AH (xr (AR [(6,(.bool false))] U))
  ·intro b145 h1
   have b148:q144=true:=by simpa using b145
   exact AG (hK141 _ (AF U (zm tb 3 U (AD (xi (Sh.w (k7+1)) h1 (AE U))))))
 ·intro b140 h1
  exact Ac (M8 () (Sh.AA h1).symm _ (AE U))
theorem Nk {N:Nat} {p0:Au} {p1:A0} {r:Bool} (h0:GW N p0 p1=some r):AY Tryz.prog 80 [(.agg (Ao p0)),(.agg (Az p1))] [] (fun v st=>v=(.bool r)∧st=[]):=by
 unfold GW at h0
 refine ai Tryz.func80 U U U U (sr U fun K1 hK1=>A8 (m:=0) Aa U U U U U (A8 (m:=1) Aa U U U U U (zq tb U (dn hK1 U (sr U fun K2 hK2=>zm tb 2 U (zl tb U U (zq tb U (dn hK2 U (AB fun K3 hK3=>?_)))))))))
 refine AB fun K4 hK4=>bs h0 fun o6 h1 h0=>?_
 have M6 :∀(t5:Bool),o6=t5→∀s,Wk 0 s ⟨59,AS [(2,(.ptr 0 0 0 0)),(3,(.ptr 1 0 0 0)),(5,(i64 (Sh.len p1.code))),(30,(.bool t5))],[⟨0,37,2,[(Ao p0)]⟩,⟨0,99,5,[(Az p1)]⟩]⟩→K4 s:=by
  intro t5 hq s hw
  subst o6
  try dsimp only at h0
  refine hK4 _ (AI hw ?_)
  refine ci h0 U ?_ ?_ <;> clear h0
  ·intro b7 h0
   refine zr tb U U ?_
   replace h0:=Sh.AA h0
   subst r
   exact AH (xr (AR [(4,(.bool false))] U))
  ·intro b7 h0
   refine AG (hK3 _ (AB fun K9 hK9=>zr tb U U ?_))
   obtain⟨o12,h1,h0⟩:=Sh.A1 h0
   have M12 :∀(_:Unit),o12=Sum.inr ()→∀s,Wk 0 s ⟨59,AS [(3,(.ptr 0 0 0 0)),(5,(i64 (Sh.len p1.code)))],[⟨0,99,5,[(Az p1)]⟩]⟩→K9 s:=by
    intro _ hq s hw
    subst o12
    try dsimp only at h0
    refine hK9 _ (AI hw (AB fun K13 hK13=>bs h0 fun o15 h1 h0=>?_))
    have M15 :∀(t14:Bool),o15=t14→∀s,Wk 0 s ⟨59,AS [(4,(.bool t14))],[]⟩→K13 s:=by
     intro t14 hq s hw
     subst o15
     try dsimp only at h0
     refine hK13 _ (AI hw ?_)
     replace h0:=Sh.AA h0
     subst r
     exact AH (xr (AM (L:=[(4,(.bool t14))]) ⟨.rfl,trivial⟩))
    refine AF U (zm tb 4 U (bs h1 fun c16 gc16 h1=>zx IB gc16 U U U (zm tb 4 U ?_)))
    rcases Sh.AP h1 with ⟨b17,h1⟩ | ⟨b17,h1⟩
    ·refine zs b17 U ?_
     iterate 7 refine zs b17 rfl ?_
     exact zt b17 U (zq tb U (AD (M15 true (Sh.AA h1).symm _ (AR _ U))))
    ·refine zg tb b17 U ?_
     iterate 3 refine zg tb b17 rfl ?_
     refine A5 (v:=(.Bi (AU c16) 0)) (A9 U U b17) rfl (Bh IB U U gc16 U) ?_
     iterate 3 refine zg tb b17 rfl ?_
     exact zf b17 U (zq tb U (AD (M15 (decide (c16.op=24)) (Sh.AA h1).symm _ (AR _ U))))
   refine AJ (AX (σ:=Int) (fun n v=>DT N p0 p1 n v=some o12) (fun at11=>⟨59,AS [(2,(.ptr 0 0 0 0)),(3,(.ptr 1 0 0 0)),(5,(i64 (Sh.len p1.code))),(6,(i64 at11))],[⟨0,37,2,[(Ao p0)]⟩,⟨0,99,5,[(Az p1)]⟩]⟩) N 0 h1 (AE U) (fun _ hv=>by rw[DT] at hv;cases hv) ?_)
   rintro n at11 h1
   try dsimp only at h1 ⊢
   rw[DT] at h1
   refine AB fun K18 hK18=>zr tb U U ?_
   refine ci h1 U ?_ ?_ <;> clear h1
   ·intro b20 h1
    refine AG (hK18 _ (AB fun K21 hK21=>AJ (sr U fun K22 hK22=>zm tb 3 U (bs h1 fun q23 gq23 h1=>zc cN (ND gq23) rfl U U (zq tb U (dn hK22 U ?_))))))
    refine ci h1 U ?_ ?_ <;> clear h1
    ·intro b24 h1
     have b25:q23=false:=by simpa using b24
     refine zr tb U U ?_
     replace h1:=Sh.AA h1
     subst o12
     try dsimp only[id] at h0
     replace h0:=Sh.AA h0
     subst r
     exact AH (xr (AR [(4,(.bool false))] U))
    ·intro b24 h1
     have b27:q23=true:=by simpa using b24
     exact AG (hK21 _ (AF U (zm tb 3 U (AD (xi (Sh.w (at11+1)) h1 (AE U))))))
   ·intro b20 h1
    exact Ac (M12 () (Sh.AA h1).symm _ (AN (L:=[(3,(.ptr 0 0 0 0)),(5,(i64 (Sh.len p1.code)))]) (st':=[⟨0,99,5,[(Az p1)]⟩]) (st1:=[⟨0,99,5,[(Az p1)]⟩]) [1] U .nil (by decide) rfl U (.raw U U .nil) ⟨.rfl,.rfl,trivial⟩))
 refine AF U (zm tb 4 U (bs h1 fun q28 gq28 h1=>zc bD (Nz gq28) rfl U U (zm tb 2 U ?_)))
 rcases Sh.AP h1 with ⟨b29,h1⟩ | ⟨b29,h1⟩
 ·refine zs b29 U ?_
  iterate 7 refine zs b29 rfl ?_
  refine zt b29 U (zq tb U ?_)
  iterate 3 refine zs rfl rfl ?_
  exact zt U U (AD (M6 true (Sh.AA h1).symm _ (AE U)))
 ·refine zg tb b29 U ?_
  iterate 3 refine zg tb b29 rfl ?_
  refine A5 (v:=(i64 (Sh.len p1.params))) (A9 U U b29) rfl (BL EE U) (A5 (v:=(i64 (if (Sh.len p1.params) > 1 then (Sh.len p1.params) else 1))) (A9 U U b29) rfl (XS U U) (bs h1 fun q30 gq30 h1=>zd b29 Ee (Aw gq30) rfl U U U (zg tb b29 U (zf b29 U (zq tb U ?_)))))
  rcases Sh.AP h1 with ⟨b31,h1⟩ | ⟨b31,h1⟩
  ·exact zs b31 U (zs b31 U (zs b31 U (zt b31 U (AD (M6 true (Sh.AA h1).symm _ (AE U))))))
  ·exact zg tb b31 U (bs h1 fun q32 gq32 h1=>zd b31 Ee (Aw gq32) rfl U U U (zg tb b31 U (zf b31 U (AD (M6 (!q32) (Sh.AA h1).symm _ (AE U))))))
theorem NB {N:Nat} {p0:Au} {r:Bool} (h0:Dh N p0=some r):AY Tryz.prog 49 [(.agg (Ao p0))] [] (fun v st=>v=(.bool r)∧st=[]):=by
 unfold Dh at h0
 refine ai Tryz.func49 U U U U (sr U fun K1 hK1=>A8 (m:=0) Aa U U U U U (zq tb U (dn hK1 U (AB fun K2 hK2=>AB fun K3 hK3=>bs h0 fun o5 h1 h0=>?_))))
 have M5 :∀(t4:Bool),o5=t4→∀s,Wk 0 s ⟨29,AS [(1,(.ptr 0 0 0 0)),(13,(.bool t4))],[⟨0,37,2,[(Ao p0)]⟩]⟩→K3 s:=by
  intro t4 hq s hw
  subst o5
  try dsimp only at h0
  refine hK3 _ (AI hw ?_)
  refine ci h0 U ?_ ?_ <;> clear h0
  ·intro b6 h0
   refine zr tb U U ?_
   replace h0:=Sh.AA h0
   subst r
   exact AH (xr (AR [(2,(.bool false))] U))
  ·intro b6 h0
   refine AG (hK2 _ (AB fun K8 hK8=>zr tb U U ?_))
   obtain⟨o11,h1,h0⟩:=Sh.A1 h0
   have M11 :∀(_:Unit),o11=Sum.inr ()→∀s,Wk 0 s ⟨29,AS [],[]⟩→K8 s:=by
    intro _ hq s hw
    subst o11
    try dsimp only at h0
    refine hK8 _ (AI hw (zr tb U U ?_))
    replace h0:=Sh.AA h0
    subst r
    exact AH (xr (AM (L:=[(2,(.bool true))]) ⟨.rfl,trivial⟩))
   refine AJ (AX (σ:=Int) (fun n v=>CP N p0 n v=some o11) (fun i10=>⟨29,AS [(1,(.ptr 0 0 0 0)),(3,(i64 i10))],[⟨0,37,2,[(Ao p0)]⟩]⟩) N 0 h1 (AE U) (fun _ hv=>by rw[CP] at hv;cases hv) ?_)
   rintro n i10 h1
   try dsimp only at h1 ⊢
   rw[CP] at h1
   refine AB fun K13 hK13=>sr U fun K14 hK14=>zm tb 3 U (zl tb U U (zq tb U (dn hK14 U ?_)))
   refine ci h1 U ?_ ?_ <;> clear h1
   ·intro b15 h1
    refine AG (hK13 _ (AB fun K16 hK16=>AJ (AB fun K17 hK17=>?_)))
    refine B1 (by kernel_rfl) (by kernel_rfl) (by rfl) ?_
    iterate 4 refine yq tb rfl ?_
    refine bs h1 fun c18 gc18 h1=>yx IC gc18 U U U (yq tb U (bs h1 fun q19 gq19 h1=>E0 (v:=(.bool q19)) Aa du (Nk gq19) rfl U U (yq tb U (BP (hK17 _ ?_)))))
    refine ci h1 U ?_ ?_ <;> clear h1
    ·intro b20 h1
     have b21:q19=false:=by simpa using b20
     refine zr tb U U ?_
     replace h1:=Sh.AA h1
     subst o11
     try dsimp only[id] at h0
     replace h0:=Sh.AA h0
     subst r
     exact AH (xr (AR [(2,(.bool false))] U))
    ·intro b20 h1
     have b23:q19=true:=by simpa using b20
     exact AG (hK16 _ (AF U (zm tb 3 U (AD (xi (Sh.w (i10+1)) h1 (AE U))))))
   ·intro b15 h1
    exact Ac (M11 () (Sh.AA h1).symm _ (AR _ U))
 refine AF U (zm tb 2 U (zl tb U U (zm tb 2 U ?_)))
 rcases Sh.AP h1 with ⟨b24,h1⟩ | ⟨b24,h1⟩
 ·refine zs b24 U ?_
  iterate 3 refine zs b24 rfl ?_
  exact zt b24 U (AD (M5 true (Sh.AA h1).symm _ (AE U)))
 ·exact zg tb b24 U (bs h1 fun q25 gq25 h1=>zd (v':=(.agg [(ls Ad q25.decls),(ls ET q25.funcs)])) b24 eR (MH gq25) rfl U U U (bs h1 fun q26 gq26 h1=>zd b24 dc (Nv gq26) rfl U U U (zg tb b24 U (zf b24 U (AD (M5 (!q26) (Sh.AA h1).symm _ (AE U)))))))
theorem NC {N:Nat} {p0:(List Int)} {r:Bool} (h0:FN N p0=some r):AY Tryz.prog 51 [(ls eI p0)] [] (fun v st=>v=(.bool r)∧st=[]):=by
 unfold FN at h0
 refine ai Tryz.func51 U U U U (zr tb U U (AB fun K2 hK2=>zr tb U U ?_))
 obtain⟨o5,h1,h0⟩:=Sh.A1 h0
 have M5 :∀(_:Unit),o5=Sum.inr ()→∀s,Wk 0 s ⟨16,AS [],[]⟩→K2 s:=by
  intro _ hq s hw
  subst o5
  try dsimp only at h0
  refine hK2 _ (AI hw (zr tb U U ?_))
  replace h0:=Sh.AA h0
  subst r
  exact AH (xr (AM (L:=[(2,(.bool true))]) ⟨.rfl,trivial⟩))
 refine AJ (AX (σ:=Int) (fun n v=>C6 p0 n v=some o5) (fun i4=>⟨16,AS [(0,(ls eI p0)),(3,(i64 i4))],[]⟩) N 0 h1 (AE U) (fun _ hv=>by rw[C6] at hv;cases hv) ?_)
 rintro n i4 h1
 try dsimp only at h1 ⊢
 rw[C6] at h1
 refine AB fun K7 hK7=>sr U fun K8 hK8=>zm tb 2 U (zl tb U U (zq tb U (dn hK8 U ?_)))
 refine ci h1 U ?_ ?_ <;> clear h1
 ·intro b9 h1
  refine AG (hK7 _ (AB fun K10 hK10=>AJ (sr U fun K11 hK11=>zm tb 2 U (bs h1 fun c12 gc12 h1=>zx A2 gc12 U U U (zq tb U (bs h1 fun q13 gq13 h1=>zc Ee (Aw gq13) rfl U U (zq tb U (dn hK11 U ?_))))))))
  refine ci h1 U ?_ ?_ <;> clear h1
  ·intro b14 h1
   have b15:q13=false:=by simpa using b14
   refine zr tb U U ?_
   replace h1:=Sh.AA h1
   subst o5
   try dsimp only[id] at h0
   replace h0:=Sh.AA h0
   subst r
   exact AH (xr (AM (L:=[(2,(.bool false))]) ⟨.rfl,trivial⟩))
  ·intro b14 h1
   have b17:q13=true:=by simpa using b14
   exact AG (hK10 _ (AF U (zm tb 3 U (AD (xi (Sh.w (i4+1)) h1 (AE U))))))
 ·intro b9 h1
  exact Ac (M5 () (Sh.AA h1).symm _ (AE U))
theorem PS {N:Nat} {p0:(List Int)} {r:Bool} (h0:Hy N p0=some r):AY Tryz.prog 115 [(ls eI p0)] [] (fun v st=>v=(.bool r)∧st=[]):=by
 unfold Hy at h0
 refine ai Tryz.func115 U U U U (zr tb U U (AB fun K2 hK2=>zr tb U U ?_))
 obtain⟨o5,h1,h0⟩:=Sh.A1 h0
 have M5 :∀(_:Unit),o5=Sum.inr ()→∀s,Wk 0 s ⟨15,AS [],[]⟩→K2 s:=by
  intro _ hq s hw
  subst o5
  try dsimp only at h0
  refine hK2 _ (AI hw (zr tb U U ?_))
  replace h0:=Sh.AA h0
  subst r
  exact AH (xr (AM (L:=[(2,(.bool true))]) ⟨.rfl,trivial⟩))
 refine AJ (AX (σ:=Int) (fun n v=>Dg p0 n v=some o5) (fun i4=>⟨15,AS [(0,(ls eI p0)),(3,(i64 i4))],[]⟩) N 0 h1 (AE U) (fun _ hv=>by rw[Dg] at hv;cases hv) ?_)
 rintro n i4 h1
 try dsimp only at h1 ⊢
 rw[Dg] at h1
 refine AB fun K7 hK7=>sr U fun K8 hK8=>zm tb 2 U (zl tb U U (zq tb U (dn hK8 U ?_)))
 refine ci h1 U ?_ ?_ <;> clear h1
 ·intro b9 h1
  refine AG (hK7 _ (AB fun K10 hK10=>AJ (sr U fun K11 hK11=>zm tb 2 U (bs h1 fun c12 gc12 h1=>zx A2 gc12 U U U (zm tb 2 U (dn hK11 U ?_))))))
  refine ci h1 U ?_ ?_ <;> clear h1
  ·intro b13 h1
   have b14:decide (c12=0)=false:=by simpa using b13
   refine zr tb U U ?_
   replace h1:=Sh.AA h1
   subst o5
   try dsimp only[id] at h0
   replace h0:=Sh.AA h0
   subst r
   exact AH (xr (AM (L:=[(2,(.bool false))]) ⟨.rfl,trivial⟩))
  ·intro b13 h1
   have b16:decide (c12=0)=true:=by simpa using b13
   exact AG (hK10 _ (AF U (zm tb 3 U (AD (xi (Sh.w (i4+1)) h1 (AE U))))))
 ·intro b9 h1
  exact Ac (M5 () (Sh.AA h1).symm _ (AE U))
theorem GP {p0:Int} {r:Bool} (h0:Cx p0=some r):AY Tryz.prog 85 [(i64 p0)] [] (fun v st=>v=(.bool r)∧st=[]):=by
 unfold Cx at h0
 refine ai Tryz.func85 U U U U ?_
 iterate 2 refine zr tb rfl rfl ?_
 replace h0:=Sh.AA h0
 subst r
 exact AH (xr (AM (L:=[(2,(.bool (decide (1000≤p0))))]) ⟨.rfl,trivial⟩))
theorem Gb {p0:(List Cell)} {p1:Int} {r:Bool} (h0:FF p0 p1=some r):AY Tryz.prog 57 [(ls Aj p0),(i64 p1)] [] (fun v st=>v=(.bool r)∧st=[]):=by
 unfold FF at h0
 refine ai Tryz.func57 U U U U (zr tb U U (AB fun K2 hK2=>bs h0 fun o4 h1 h0=>?_))
 have M4 :∀(t3:Bool),o4=t3→∀s,Wk 0 s ⟨24,AS [(4,(.bool t3))],[]⟩→K2 s:=by
  intro t3 hq s hw
  subst o4
  try dsimp only at h0
  refine hK2 _ (AI hw ?_)
  replace h0:=Sh.AA h0
  subst r
  exact AH (xr (AM (L:=[(4,(.bool t3))]) ⟨.rfl,trivial⟩))
 refine AF U (zm tb 3 U (zl tb U U (zq tb U (bs h1 fun q5 gq5 h1=>zc Ee (Aw gq5) rfl U U (zq tb U ?_)))))
 rcases Sh.AP h1 with ⟨b6,h1⟩ | ⟨b6,h1⟩
 ·refine zg tb b6 U (bs h1 fun q7 gq7 h1=>zd b6 XQ (GP gq7) rfl U U U (zt b6 U (zq tb U ?_)))
  rcases Sh.AP h1 with ⟨b8,h1⟩ | ⟨b8,h1⟩
  ·refine zg tb b8 U (zg tb b8 U (zg tb b8 U (bs h1 fun c9 gc9 h1=>A5 (v:=(.Bi (Aj c9) 0)) (A9 U U b8) rfl (Bh FI U U gc9 U) ?_)))
   iterate 3 refine zg tb b8 rfl ?_
   exact zt b8 U (zq tb U (AD (M4 (decide (0 < c9.count)) (Sh.AA h1).symm _ (AE U))))
  ·refine zs b8 U ?_
   iterate 6 refine zs b8 rfl ?_
   exact zf b8 U (zq tb U (AD (M4 false (Sh.AA h1).symm _ (AE U))))
 ·refine zs b6 U (zs b6 U (zf b6 U (zq tb U ?_)))
  iterate 7 refine zs rfl rfl ?_
  exact zf U U (zq tb U (AD (M4 false (Sh.AA h1).symm _ (AE U))))
theorem Qn {p0:(List Cell)} {p1:Int} {r:Bool} (h0:Iv p0 p1=some r):AY Tryz.prog 116 [(ls Aj p0),(i64 p1)] [] (fun v st=>v=(.bool r)∧st=[]):=by
 unfold Iv at h0
 refine ai Tryz.func116 U U U U (zr tb U U (AB fun K2 hK2=>bs h0 fun o4 h1 h0=>?_))
 have M4 :∀(t3:Bool),o4=t3→∀s,Wk 0 s ⟨12,AS [(4,(.bool t3))],[]⟩→K2 s:=by
  intro t3 hq s hw
  subst o4
  try dsimp only at h0
  refine hK2 _ (AI hw ?_)
  replace h0:=Sh.AA h0
  subst r
  exact AH (xr (AM (L:=[(4,(.bool t3))]) ⟨.rfl,trivial⟩))
 refine AF U (zq tb U (bs h1 fun q5 gq5 h1=>zc Ee (Aw gq5) rfl U U (zq tb U ?_)))
 rcases Sh.AP h1 with ⟨b6,h1⟩ | ⟨b6,h1⟩
 ·exact zs b6 U (zs b6 U (zs b6 U (zt b6 U (zq tb U (AD (M4 true (Sh.AA h1).symm _ (AE U)))))))
 ·exact zg tb b6 U (zg tb b6 U (bs h1 fun q7 gq7 h1=>zd b6 VG (Gb gq7) rfl U U U (zf b6 U (zq tb U (AD (M4 q7 (Sh.AA h1).symm _ (AE U)))))))
theorem N8 {N:Nat} {p0:(List Cell)} {p1:Cell} {r:Bool} (h0:Gd N p0 p1=some r):AY Tryz.prog 81 [(ls Aj p0),(.agg (Aj p1))] [] (fun v st=>v=(.bool r)∧st=[]):=by
 unfold Gd at h0
 refine ai Tryz.func81 U U U U (sr U fun K1 hK1=>A8 (m:=0) Aa U U U U U (zq tb U (dn hK1 U (AB fun K2 hK2=>AB fun K3 hK3=>bs h0 fun o5 h1 h0=>?_))))
 have M5 :∀(t4:Bool),o5=t4→∀s,Wk 0 s ⟨56,AS [(0,(ls Aj p0)),(3,(.ptr 0 0 0 0)),(15,(.bool t4))],[⟨0,71,3,[(Aj p1)]⟩]⟩→K3 s:=by
  intro t4 hq s hw
  subst o5
  try dsimp only at h0
  refine hK3 _ (AI hw ?_)
  refine ci h0 U ?_ ?_ <;> clear h0
  ·intro b6 h0
   refine zr tb U U ?_
   replace h0:=Sh.AA h0
   subst r
   exact AH (xr (AR [(4,(.bool false))] U))
  ·intro b6 h0
   refine AG (hK2 _ (AB fun K8 hK8=>zr tb U U ?_))
   refine ci h0 U ?_ ?_ <;> clear h0
   ·intro b10 h0
    refine AB fun K11 hK11=>bs h0 fun o13 h1 h0=>?_
    have M13 :∀(t12:Bool),o13=t12→∀s,Wk 0 s ⟨56,AS [(4,(.bool t12))],[]⟩→K11 s:=by
     intro t12 hq s hw
     subst o13
     try dsimp only at h0
     refine hK11 _ (AI hw ?_)
     replace h0:=Sh.AA h0
     subst r
     exact AH (xr (AM (L:=[(4,(.bool t12))]) ⟨.rfl,trivial⟩))
    refine AF U (zm tb 4 U ?_)
    rcases Sh.AP h1 with ⟨b14,h1⟩ | ⟨b14,h1⟩
    ·refine zg tb b14 U (zg tb b14 U (bs h1 fun q15 gq15 h1=>zd b14 bX (PS gq15) rfl U U U (zt b14 U (zq tb U ?_))))
     rcases Sh.AP h1 with ⟨b16,h1⟩ | ⟨b16,h1⟩
     ·refine zg tb b16 U ?_
      iterate 3 refine zg tb b16 rfl ?_
      rcases Sh.AP h1 with ⟨b17,h1⟩ | ⟨b17,h1⟩
      ·refine zs b17 U ?_
       iterate 3 refine zs b17 rfl ?_
       exact A5 (v:=(.bool true)) (A9 U U b16) rfl (Br U b17 U) (zt b16 U (zq tb U (AD (M13 true (Sh.AA h1).symm _ (AR _ U)))))
      ·exact zg tb b17 U (zg tb b17 U (A5 (v:=(i64 (Sh.len p1.fields))) (A9 U U b17) rfl (BL EE U) (zg tb b17 U (A5 (v:=(.bool (decide ((Sh.len p1.fields)=0)))) (A9 U U b16) rfl (CE U b17 U) (zt b16 U (zq tb U (AD (M13 (decide ((Sh.len p1.fields)=0)) (Sh.AA h1).symm _ (AR _ U)))))))))
     ·refine zs b16 U ?_
      iterate 3 refine zs b16 rfl ?_
      iterate 4 refine zn rfl ?_
      exact zs b16 U (zf b16 U (zq tb U (AD (M13 false (Sh.AA h1).symm _ (AR _ U)))))
    ·refine zs b14 U (zs b14 U (zs b14 U (zf b14 U (zq tb U ?_))))
     iterate 4 refine zs rfl rfl ?_
     iterate 4 refine zn rfl ?_
     exact zs U U (zf U U (zq tb U (AD (M13 false (Sh.AA h1).symm _ (AR _ U)))))
   ·intro b10 h0
    refine AG (hK8 _ (AB fun K18 hK18=>zr tb U U ?_))
    obtain⟨o21,h1,h0⟩:=Sh.A1 h0
    have M21 :∀(_:Unit),o21=Sum.inr ()→∀s,Wk 0 s ⟨56,AS [(3,(.ptr 0 0 0 0))],[⟨0,71,3,[(Aj p1)]⟩]⟩→K18 s:=by
     intro _ hq s hw
     subst o21
     try dsimp only at h0
     refine hK18 _ (AI hw (sr U fun K22 hK22=>zm tb 2 U (bs h0 fun q23 gq23 h0=>zc Ee (Aw gq23) rfl U U (zq tb U (dn hK22 U ?_)))))
     replace h0:=Sh.AA h0
     subst r
     exact AH (xr (AR [(4,(.bool q23))] U))
    refine AJ (AX (σ:=Int) (fun n v=>Ck p0 p1 n v=some o21) (fun i20=>⟨56,AS [(0,(ls Aj p0)),(3,(.ptr 0 0 0 0)),(5,(i64 i20))],[⟨0,71,3,[(Aj p1)]⟩]⟩) N 0 h1 (AE U) (fun _ hv=>by rw[Ck] at hv;cases hv) ?_)
    rintro n i20 h1
    try dsimp only at h1 ⊢
    rw[Ck] at h1
    refine AB fun K24 hK24=>sr U fun K25 hK25=>zm tb 3 U (zl tb U U (zq tb U (dn hK25 U ?_)))
    refine ci h1 U ?_ ?_ <;> clear h1
    ·intro b26 h1
     refine AG (hK24 _ (AB fun K27 hK27=>AJ (sr U fun K28 hK28=>zm tb 4 U (bs h1 fun c29 gc29 h1=>zx A2 gc29 U U U (zq tb U (bs h1 fun q30 gq30 h1=>zc bK (Qn gq30) rfl U U (zq tb U (dn hK28 U ?_))))))))
     refine ci h1 U ?_ ?_ <;> clear h1
     ·intro b31 h1
      have b32:q30=false:=by simpa using b31
      refine zr tb U U ?_
      replace h1:=Sh.AA h1
      subst o21
      try dsimp only[id] at h0
      replace h0:=Sh.AA h0
      subst r
      exact AH (xr (AR [(4,(.bool false))] U))
     ·intro b31 h1
      have b34:q30=true:=by simpa using b31
      exact AG (hK27 _ (AF U (zm tb 3 U (AD (xi (Sh.w (i20+1)) h1 (AE U))))))
    ·intro b26 h1
     exact Ac (M21 () (Sh.AA h1).symm _ (AE U))
 refine AF U (zm tb 2 U (zl tb U U (zm tb 2 U ?_)))
 rcases Sh.AP h1 with ⟨b35,h1⟩ | ⟨b35,h1⟩
 ·refine zs b35 U ?_
  iterate 3 refine zs b35 rfl ?_
  exact zt b35 U (AD (M5 true (Sh.AA h1).symm _ (AE U)))
 ·exact zg tb b35 U (zg tb b35 U (bs h1 fun q36 gq36 h1=>zd b35 Ee (Aw gq36) rfl U U U (zg tb b35 U (zf b35 U (AD (M5 (!q36) (Sh.AA h1).symm _ (AE U)))))))
theorem Ls {N:Nat} {p0:(List Cell)} {r:(List Int)} (h0:HO N p0=some r):AY Tryz.prog 82 [(ls Aj p0)] [] (fun v st=>v=(ow 0 0 r)∧st=[(ro 0 3 1 eI r)]):=by
 unfold HO at h0
 refine ai Tryz.func82 U U U U (zr tb U U (sr U fun K2 hK2=>zq tb U (zl tb U U (bs h0 fun l3 gl3 h0=>GU (m:=0) (enc:=eI) (u:=0) Aa A2 U U U gl3 U U (zq tb U (dn hK2 U (AB fun K4 hK4=>zr tb U U (bs h0 fun o9 h1 h0=>?_))))))))
 have M9 :∀(l8:(List Int)),o9=l8→∀s,Wk 0 s ⟨54,AS [(3,(ow 0 0 l8))],[(ro 0 3 1 eI l8)]⟩→K4 s:=by
  intro l8 hq s hw
  subst o9
  try dsimp only at h0
  refine hK4 _ (AI hw (zr tb U U ?_))
  replace h0:=Sh.AA h0
  subst r
  exact AH (xr (AM (L:=[(2,(ow 0 0 l8))]) ⟨.rfl,trivial⟩))
 refine AJ (AX (σ:=Int×(List Int)) (fun n v=>EC N p0 n v.1 v.2=some o9) (fun (i6,l7)=>⟨54,AS [(0,(ls Aj p0)),(3,(ow 0 0 l7)),(4,(i64 i6))],[(ro 0 3 1 eI l7)]⟩) N (0,l3) h1 (AE U) (fun _ hv=>by rw[EC] at hv;cases hv) ?_)
 rintro n ⟨i6,l7⟩ h1
 try dsimp only at h1 ⊢
 rw[EC] at h1
 refine AB fun K11 hK11=>sr U fun K12 hK12=>zm tb 2 U (zl tb U U (zq tb U (dn hK12 U ?_)))
 refine ci h1 U ?_ ?_ <;> clear h1
 ·intro b13 h1
  refine AG (hK11 _ (AB fun K14 hK14=>AJ (zr tb U U (bs h1 fun o19 h2 h1=>?_))))
  have M19 :∀(l18:(List Int)),o19=l18→∀s,Wk 0 s ⟨54,AS [(0,(ls Aj p0)),(3,(ow 0 0 l18)),(4,(i64 i6))],[(ro 0 3 1 eI l18)]⟩→K14 s:=by
   intro l18 hq s hw
   subst o19
   try dsimp only at h1
   exact hK14 _ (AI hw (AF U (zm tb 3 U (AD (xi (Sh.w (i6+1),l18) h1 (AE U))))))
  refine AJ (AX (σ:=Int×(List Int)) (fun n v=>D7 i6 p0 n v.1 v.2=some o19) (fun (k16,l17)=>⟨54,AS [(0,(ls Aj p0)),(3,(ow 0 0 l17)),(4,(i64 i6)),(5,(i64 k16))],[(ro 0 3 1 eI l17)]⟩) N (0,l7) h2 (AE U) (fun _ hv=>by rw[D7] at hv;cases hv) ?_)
  rintro n ⟨k16,l17⟩ h2
  try dsimp only at h2 ⊢
  rw[D7] at h2
  refine AB fun K20 hK20=>sr U fun K21 hK21=>zm tb 3 U (bs h2 fun c22 gc22 h2=>zx FI gc22 U U U (zm tb 2 U (zl tb U U (zq tb U (dn hK21 U ?_)))))
  refine ci h2 U ?_ ?_ <;> clear h2
  ·intro b23 h2
   refine AG (hK20 _ (AB fun K24 hK24=>bs h2 fun o26 h3 h2=>?_))
   have M26 :∀(l25:(List Int)),o26=l25→∀s,Wk 0 s ⟨54,AS [(0,(ls Aj p0)),(3,(ow 0 0 l25)),(4,(i64 i6)),(5,(i64 k16))],[(ro 0 3 1 eI l25)]⟩→K24 s:=by
    intro l25 hq s hw
    subst o26
    try dsimp only at h2
    exact hK24 _ (AI hw (AF U (zm tb 3 U (AD (xi (Sh.w (k16+1),l25) h2 (AE U))))))
   refine AJ (sr U fun K27 hK27=>zm tb 3 U (zx FI gc22 U U U (zm tb 3 U (bs h3 fun c28 gc28 h3=>zx A2 gc28 U U U (zq tb U (bs h3 fun q29 gq29 h3=>zc VG (Gb gq29) rfl U U (dn hK27 U ?_)))))))
   refine ci h3 U ?_ ?_ <;> clear h3
   ·intro b30 h3
    refine sr U fun K31 hK31=>zm tb 2 U (zx FI gc22 U U U (zm tb 3 U (zx A2 gc28 U U U (zm tb 3 U (dn hK31 U (AF U (zm tb 4 U (bs h3 fun c32 gc32 h3=>zz (.ptr 0 0 (Int.toNat (Sh.w (c28 - 1000))) 0) (BD A2 U U U U gc32) rfl (zz (i64 c32) (Bf EF U U (Bp gc32) rfl) rfl ?_)))))))))
    refine zq tb U (zz (.ptr 0 0 (Int.toNat (Sh.w (c28 - 1000))) 0) (BD A2 U U U U gc32) rfl (Cz (u':=Sh.w (c32+1)) Aa EF U U gc32 U U U (show 0+1≤1 by decide) rfl U ?_))
    exact AD (M26 (Sh.put l17 (Sh.w (c28 - 1000)) (Sh.w (c32+1))) (Sh.AA h3).symm _ (AM (L:=[(0,(.sl (List.map Aj p0))),(3,(.own 0 0 (List.length (Sh.put l17 (Sh.w (c28 - 1000)) (Sh.w (c32+1)))))),(4,(i64 i6)),(5,(i64 k16))]) ⟨.rfl,(.len (by simp only[Sh.Af])),.rfl,.rfl,trivial⟩))
   ·intro b30 h3
    exact AG (M26 l17 (Sh.AA h3).symm _ (AE U))
  ·intro b23 h2
   exact Ac (M19 l17 (Sh.AA h2).symm _ (AE U))
 ·intro b13 h1
  exact Ac (M9 l7 (Sh.AA h1).symm _ (AE U))
end Go.Proofs.YtobjlimoekffaaaGreat

