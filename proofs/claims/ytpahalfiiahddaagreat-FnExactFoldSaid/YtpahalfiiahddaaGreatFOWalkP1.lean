import Derived.Test.YtpahalfiiahddaaGreatProg
import Derived.Test.YtpahalfiiahddaaGreatGAbsXToSSDefs
import Derived.Test.YtpahalfiiahddaaGreatGHADefsToFODefs
import Derived.Test.YtpahalfiiahddaaGreatCFWalk
import Derived.Test.YtpahalfiiahddaaGreatLAWalk
import Derived.Test.YtpahalfiiahddaaGreatFOWalkP0
namespace Go.Proofs.YtpahalfiiahddaaGreat
open Go Go.Abs RC
attribute [local irreducible] Go.Abs.C3
set_option maxRecDepth 100000
set_option maxHeartbeats 4000000

theorem Zy:HA Tryz.prog 111=true:=by kernel_rfl
theorem aQ:HA Tryz.prog 116=true:=by kernel_rfl
theorem dN:HA Tryz.prog 119=true:=by kernel_rfl
theorem Sw:HA Tryz.prog 30=true:=by kernel_rfl
theorem aR:HA Tryz.prog 48=true:=by kernel_rfl
theorem cI:HA Tryz.prog 81=true:=by kernel_rfl
theorem aw:IX Tryz.prog 111=some [(0,1)]:=by kernel_rfl
theorem aO:IX Tryz.prog 116=some [(0,1),(1,1),(2,1)]:=by kernel_rfl
theorem dK:IX Tryz.prog 119=some [(0,1),(1,1)]:=by kernel_rfl
theorem TJ:IX Tryz.prog 30=some [(0,1),(1,1)]:=by kernel_rfl
theorem aj:IX Tryz.prog 48=some [(0,1),(1,1),(2,3)]:=by kernel_rfl
theorem cM:IX Tryz.prog 81=some [(0,1),(1,1),(2,1)]:=by kernel_rfl
theorem LL:CQ Tryz.prog 114=some ⟨116,3,56,[.sl [],.sl [],.int .i64 0]⟩:=by kernel_rfl
theorem JA:CQ Tryz.prog 141=some ⟨46,1,24,[.sl []]⟩:=by kernel_rfl
theorem Nc:Ao Tryz.prog 101=true:=by kernel_rfl
theorem ZR:Ao Tryz.prog 106=true:=by kernel_rfl
theorem dY:Ao Tryz.prog 113=true:=by kernel_rfl
theorem dF:Ao Tryz.prog 125=true:=by kernel_rfl
theorem UY:Ao Tryz.prog 126=true:=by kernel_rfl
theorem Z8:Ao Tryz.prog 131=true:=by kernel_rfl
theorem VT:Ao Tryz.prog 137=true:=by kernel_rfl
theorem dQ:Ao Tryz.prog 141=true:=by kernel_rfl
theorem eT:Ao Tryz.prog 19=true:=by kernel_rfl
theorem eJ:Ao Tryz.prog 21=true:=by kernel_rfl
theorem fj:Ao Tryz.prog 47=true:=by kernel_rfl
theorem ee:Ao Tryz.prog 48=true:=by kernel_rfl
theorem cn:Ao Tryz.prog 50=true:=by kernel_rfl
theorem eh:Ao Tryz.prog 98=true:=by kernel_rfl
theorem Zj:Ao Tryz.prog 99=true:=by kernel_rfl
theorem gG:Program.underlying Tryz.prog 3=some (.int .i64):=by kernel_rfl
theorem XS:Cv Tryz.prog 114=true:=by kernel_rfl
theorem dg:Cr Tryz.prog 114=some (false,1):=by kernel_rfl
theorem dS:Cr Tryz.prog 116=some (true,3):=by kernel_rfl
theorem Xc:Cr Tryz.prog 119=some (true,2):=by kernel_rfl
theorem Ww:G9 Tryz.prog 116=some [.zc,.zc,.int .i64 0]:=by kernel_rfl
theorem X3:G9 Tryz.prog 119=some [.zc,.zc]:=by kernel_rfl
theorem fr:G9 Tryz.prog 3=some [.int .i64 0]:=by kernel_rfl

theorem O8 {N:Nat} {p0:(List Ab)} {r:(List Ab)} (h0:Gg N p0=some r):Ag Tryz.prog 48 [(BT p0)] [] (fun v st=>v=(ow 0 0 r)∧st=[(Um r)]):=by
 unfold Gg at h0
 refine ai Tryz.func48 U U U U (zr tb U U (sr U fun K2 hK2=>?_))
 refine Cb (m:=0) (l:=([]:List Ab)) (enc:=Ai) Ah DC (by decide) rfl U U U U U ?_
 refine zq tb U (dn hK2 U (AF fun K3 hK3=>zr tb U U (bs h0 fun o8 h1 h0=>?_)))
 have M8 :∀(l7:(List Ab)),o8=l7→∀s,Wk 0 s ⟨55,AP [(3,(ow 0 0 l7))],[(Um l7)]⟩→K3 s:=by
  intro l7 hq s hw
  subst o8
  try dsimp only at h0
  refine hK3 _ (AR hw (zr tb U U ?_))
  replace h0:=Sh.AB h0
  subst r
  exact AJ (xr (AT (L:=[(2,(ow 0 0 l7))]) (.same U)))
 refine AU (As (σ:=Int×(List Ab)) (fun n v=>DP N p0 n v.1 v.2=some o8) (fun (i5,l6)=>⟨55,AP [(0,(BT p0)),(3,(ow 0 0 l6)),(4,(i64 i5))],[(Um l6)]⟩) N (0,[]) h1 (AD U) (fun _ hv=>by rw[DP] at hv;cases hv) ?_)
 rintro n ⟨i5,l6⟩ h1
 try dsimp only at h1 ⊢
 rw[DP] at h1
 refine AF fun K10 hK10=>sr U fun K11 hK11=>zm tb 2 U (zl tb U U (zq tb U (dn hK11 U ?_)))
 refine ci h1 U ?_ ?_ <;> clear h1
 ·intro b12 h1
  refine AI (hK10 _ (AF fun K13 hK13=>AU (sr U fun K14 hK14=>?_)))
  refine Cb (m:=1) (l:=([]:List BU)) (enc:=BZ) Ah ID (by decide) rfl U U U U U ?_
  refine zq tb U (dn hK14 U (AF fun K15 hK15=>zr tb U U (bs h1 fun o20 h2 h1=>?_)))
  have M20 :∀(l19:(List BU)),o20=l19→∀s,Wk 0 s ⟨55,AP [(0,(BT p0)),(3,(ow 0 0 l6)),(4,(i64 i5)),(5,(ow 1 0 l19))],[(Um l6),(ro 0 111 1 BZ l19)]⟩→K15 s:=by
   intro l19 hq s hw
   subst o20
   try dsimp only at h1
   refine hK15 _ (AR hw (AR (Wk.Er (L:=[(0,(BT p0)),(3,(ow 0 0 l6)),(4,(i64 i5)),(5,(ls BZ l19))]) (st':=[(Um l6),⟨1,111,1,[]⟩]) (id:=1) rfl (show 0≤1 by decide) (AN fun _=>U) ⟨.rfl,.rfl,.rfl,(.Er U),trivial⟩ U) ?_))
   refine Be 14 (by kernel_rfl) (by kernel_rfl) (by rfl) ?_
   iterate 3 refine yq tb rfl ?_
   refine bs h1 fun c21 gc21 h1=>yx DC gc21 U U U ?_
   iterate 4 refine yq tb rfl ?_
   refine yx DC gc21 U U U ?_
   iterate 3 refine yq tb rfl ?_
   refine yz (.agg [(i64 c21.from_),(i64 c21.to),(ls BZ l19)]) (FG cI cM GR U U) rfl ?_
   refine UG (l:=[(Ab.mk c21.from_ c21.to l19)]) (enc:=Ai) Ah DC (by decide) rfl U U U U (AN fun _=>U) ?_
   refine BR (bs h1 fun l22 gl22 h1=>Fb (l2:=[(Ab.mk c21.from_ c21.to l19)]) Ah DC U U U U NN (fun _=>U) gl22 U (zq tb U (dn hK13 U (AK U (zm tb 3 U ?_)))))
   exact AA (xi (Sh.w (i5+1),l22) h1 (by refine Wk.trans (Dx (L:=[(0,(BT p0)),(3,(ow 0 0 l22)),(4,(KL i5))]) (st':=[(Um l22),⟨0,111,1,[]⟩]) (.pure (AN fun _=>U) (.pure (by intro x hx;cases hx) .nil)) (.same U)) ?_;exact Af [0] U (by decide) rfl U (.pure (AN fun _=>U) .nil) (.same U)))
  refine AU (As (σ:=Int×(List BU)) (fun n v=>Cx i5 p0 n v.1 v.2=some o20) (fun (k17,l18)=>⟨55,AP [(0,(BT p0)),(3,(ow 0 0 l6)),(4,(i64 i5)),(5,(ow 1 0 l18)),(6,(i64 k17))],[(Um l6),(ro 0 111 1 BZ l18)]⟩) N (0,[]) h2 (AD U) (fun _ hv=>by rw[Cx] at hv;cases hv) ?_)
  rintro n ⟨k17,l18⟩ h2
  try dsimp only at h2 ⊢
  rw[Cx] at h2
  refine AF fun K23 hK23=>sr U fun K24 hK24=>zm tb 3 U (bs h2 fun c25 gc25 h2=>zx DC gc25 U U U (zm tb 2 U (zl tb U U (zq tb U (dn hK24 U ?_)))))
  refine ci h2 U ?_ ?_ <;> clear h2
  ·intro b26 h2
   refine AI (hK23 _ (AF fun K27 hK27=>AU (AK U (zm tb 3 U (zx DC gc25 U U U (zm tb 3 U (bs h2 fun c28 gc28 h2=>zx ID gc28 U U U (zm tb 2 U (bs h2 fun q29 gq29 h2=>BY (v':=(ow 2 0 q29)) Ah aJ (IN gq29) rfl U ⟨(B2 fun _=>U),trivial⟩ U U ?_)))))))))
   refine zz (.agg [(ow 2 0 q29)]) (FG Zy aw LK U U) rfl (Ak (Wk.Er (L:=[(0,(BT p0)),(3,(ow 0 0 l6)),(4,(i64 i5)),(6,(i64 k17)),(25,(ow 1 0 l18)),(36,(.agg [(ls eI q29)]))]) (st':=[(Um l6),(ro 0 111 1 BZ l18),⟨1,3,1,[]⟩]) (id:=2) rfl (show 0≤2 by decide) (AN fun _=>U) ⟨.rfl,.rfl,.rfl,.rfl,.rfl,(.agg ⟨(.Iu U),trivial⟩),trivial⟩ U) ?_)
   refine Cb (m:=3) (l:=[(BU.mk q29)]) (enc:=BZ) Ah ID (by decide) rfl U U U U U ?_
   refine bs h2 fun l30 gl30 h2=>Fb (l2:=[(BU.mk q29)]) Ah ID U U U U (Jc U U) (fun _=>U) gl30 U (zq tb U (dn hK27 U (AK U (zm tb 3 U ?_))))
   exact AA (xi (Sh.w (k17+1),l30) h2 (by refine Wk.trans (Dx (L:=[(0,(BT p0)),(3,(ow 0 0 l6)),(4,(i64 i5)),(5,(ow 1 0 l30)),(6,(KL k17))]) (st':=[(Um l6),(ro 0 111 1 BZ l30),⟨0,3,1,[]⟩,(ro 0 111 1 BZ [(BU.mk q29)])]) (.pure (AN fun _=>U) (.pure (AN fun _=>U) (.pure (by intro x hx;cases hx) (.pure (AN fun _=>U) .nil)))) (.same U)) ?_;exact Af [0,1] U (by decide) rfl U (.pure (AN fun _=>U) (.pure (AN fun _=>U) .nil)) (.same U)))
  ·intro b26 h2
   exact Aw (M20 l18 (Sh.AB h2).symm _ (AD U))
 ·intro b12 h1
  exact Aw (M8 l6 (Sh.AB h1).symm _ (AD U))
theorem NG {N:Nat} {rec_spec_copyExpr_5:AG→Option (AG)} (hrec_spec_copyExpr_5 :∀{p0:AG} {r:AG},rec_spec_copyExpr_5 p0=some r→Ag Tryz.prog 50 [(B5 p0)] [] (fun v st=>v=(B5 r)∧st=[])) {p0:(List AG)} {r:(List AG)} (h0:G1 N rec_spec_copyExpr_5 p0=some r):Ag Tryz.prog 47 [(C4 p0)] [] (fun v st=>v=(ow 0 0 r)∧st=[(Pk r)]):=by
 unfold G1 at h0
 refine ai Tryz.func47 U U U U (zr tb U U (sr U fun K2 hK2=>?_))
 refine Cb (m:=0) (l:=([]:List AG)) (enc:=BS) Ah Bc (by decide) rfl U (by simp only[List.map,Ax];rfl) rfl U U ?_
 refine zq tb U (dn hK2 U (AF fun K3 hK3=>zr tb U U (bs h0 fun o8 h1 h0=>?_)))
 have M8 :∀(l7:(List AG)),o8=l7→∀s,Wk 0 s ⟨21,AP [(3,(ow 0 0 l7))],[(Pk l7)]⟩→K3 s:=by
  intro l7 hq s hw
  subst o8
  try dsimp only at h0
  refine hK3 _ (AR hw (zr tb U U ?_))
  replace h0:=Sh.AB h0
  subst r
  exact AJ (xr (AT (L:=[(2,(ow 0 0 l7))]) (.same U)))
 refine AU (As (σ:=Int×(List AG)) (fun n v=>Ca p0 rec_spec_copyExpr_5 n v.1 v.2=some o8) (fun (i5,l6)=>⟨21,AP [(0,(C4 p0)),(3,(ow 0 0 l6)),(4,(i64 i5))],[(Pk l6)]⟩) N (0,[]) h1 (AD U) (fun _ hv=>by rw[Ca] at hv;cases hv) ?_)
 rintro n ⟨i5,l6⟩ h1
 try dsimp only at h1 ⊢
 rw[Ca] at h1
 refine AF fun K10 hK10=>sr U fun K11 hK11=>zm tb 2 U (zl tb U U (zq tb U (dn hK11 U ?_)))
 refine ci h1 U ?_ ?_ <;> clear h1
 ·intro b12 h1
  refine AI (hK10 _ (AF fun K13 hK13=>AU (AK U (zm tb 3 U (bs h1 fun c14 gc14 h1=>zz (EI c14) (BM Bc U U gc14 (Ax _) rfl) rfl (zq tb U (bs h1 fun q15 gq15 h1=>zc (v':=(B5 q15)) cn (hrec_spec_copyExpr_5 gq15) rfl U U ?_)))))))
  refine Cb (m:=1) (l:=[q15]) (enc:=BS) Ah Bc (by decide) rfl U (by simp only[List.map,Ax];rfl) rfl U U ?_
  refine bs h1 fun l16 gl16 h1=>Fb (l2:=[q15]) Ah Bc U U U U (Jc U U PE) IE gl16 U (zq tb U (dn hK13 U (AK U (zm tb 3 U ?_))))
  exact AA (xi (Sh.w (i5+1),l16) h1 (by refine Wk.trans (Dx (L:=[(0,(C4 p0)),(3,(ow 0 0 l16)),(4,(KL i5))]) (st':=[(Pk l16),(ro 0 44 3 BS [q15])]) (.pure (AN Ci) (.pure (AN Ci) .nil)) (.same U)) ?_;exact Af [0] U (by decide) rfl U (.pure (AN Ci) .nil) (.same U)))
 ·intro b12 h1
  exact Aw (M8 l6 (Sh.AB h1).symm _ (AD U))
theorem Mm {N:Nat} {rec_spec_copyExpr_5:AG→Option (AG)} (hrec_spec_copyExpr_5 :∀{p0:AG} {r:AG},rec_spec_copyExpr_5 p0=some r→Ag Tryz.prog 50 [(B5 p0)] [] (fun v st=>v=(B5 r)∧st=[])) {p0:AG} {r:AG} (h0:GY N rec_spec_copyExpr_5 p0=some r):Ag Tryz.prog 50 [(B5 p0)] [] (fun v st=>v=(B5 r)∧st=[]):=by
 unfold GY at h0
 refine DX U (ai Tryz.func50 U U U U (sr U fun K1 hK1=>BH (m:=0) Ah U U U U U (A0 (m:=1) Ah Fz U U (dn hK1 U (AF fun K2 hK2=>?_)))))
 refine Be 8 (by kernel_rfl) (by kernel_rfl) (by rfl) ?_
 iterate 6 refine yq tb rfl ?_
 refine bs h0 fun q3 gq3 h0=>?_
 refine Bk (v:=(C4 q3)) Ah fj (Ag.wk (NG hrec_spec_copyExpr_5 gq3) (by refine Wk.trans (Wk.Er (L:=[(0,(C4 q3))]) (st':=[B3]) (id:=0) rfl (show 0≤0 by decide) (AN Ci) ⟨(.Er U),trivial⟩ U) ?_;exact Af [] U (by decide) rfl U .nil (.same U))) rfl U U ?_
 refine yz (.agg [(i64 p0.op),(i64 p0.num),(C4 q3)]) (FG RL RB Fz U U) rfl (BR (A1 Ah Bl U U U U U U (show 0+3≤3 by decide) rfl (dn hK2 U ?_)))
 replace h0:=Sh.AB h0
 subst r
 exact AJ (Exists.intro _ (And.intro (FC _ _) (BE (x:=.tmp 2) (off:=0) (cs:=[(i64 p0.op),(i64 p0.num),(C4 q3)]) (vs:=[(i64 p0.op),(i64 p0.num),(C4 q3)]) Bl U U U (show 0+3≤3 by decide) rfl _ U)))

theorem Mn {N:Nat} :∀(n:Nat),∀{p0:AG} {r:AG},DV N n p0=some r→Ag Tryz.prog 50 [(B5 p0)] [] (fun v st=>v=(B5 r)∧st=[]):=by
 intro n
 induction n with
 | zero=>intro p0 r h0;cases h0
 | succ n ih=>
  intro p0 r h0
  rw[DV] at h0
  exact Mm (fun h=>ih h) h0
theorem N4 {N:Nat} :∀{p0:AG} {r:AG},HQ N p0=some r→Ag Tryz.prog 50 [(B5 p0)] [] (fun v st=>v=(B5 r)∧st=[]):=by
 intro p0 r h0
 exact Mn N h0
theorem Mk {N:Nat} {p0:Aa} {p1:(List AG)} {r:Aa×Bool} (h0:Fa N p0 p1=some r):Ag Tryz.prog 21 [(HM p0),(C4 p1)] [] (fun v st=>v=(Yp r.1.decls r.1.funcs r.2)∧st=[]):=by
 unfold Fa at h0
 refine DX U (ai Tryz.func21 U U U U (sr U fun K1 hK1=>BH (m:=0) Ah U U U U U (A0 (m:=1) Ah HY U U (zq tb U (dn hK1 U (sr U fun K2 hK2=>zm tb 2 U (bs h0 fun q3 gq3 h0=>BY (v':=(ow 2 0 q3)) Ah ee (O8 gq3) rfl U ⟨(B2 fun _=>U),trivial⟩ U U ?_)))))))
 refine Cb (m:=3) (l:=([]:List Am)) (enc:=A3) Ah CR (by decide) rfl U U U U U ?_
 refine zz (.agg [(ow 2 0 q3),Y1]) (FG Sw TJ HY U U) rfl (A0 (m:=4) Ah HY U U (Ak (Wk.Er (L:=[(1,(C4 p1)),(2,Ar),(4,Ay),(6,LG),(12,(.agg [(BT q3),Y1]))]) (st':=[(LF p0.decls p0.funcs),QA,Uy,(ro 0 48 5 A3 ([]:List Am)),QA]) (id:=2) rfl (show 0≤2 by decide) (AN fun _=>U) ⟨.rfl,.rfl,.rfl,.rfl,(.agg ⟨(.Iu U),.rfl,trivial⟩),trivial⟩ U) (A1 Ah FV U U U U U U (show 0+2≤2 by decide) rfl (dn hK2 U (AF fun K4 hK4=>zr tb U U ?_)))))
 obtain⟨o9,h1,h0⟩:=Sh.BF h0
 have M9 :∀(l8:(List Am)),o9=Sum.inr l8→∀s,Wk 0 s ⟨52,AP [(4,Ar),(6,BK)],[QA,(ro 0 48 5 A3 l8),⟨0,30,2,[[(BT q3),(ow 1 0 l8)]]⟩]⟩→K4 s:=by
  intro l8 hq s hw
  subst o9
  try dsimp only at h0
  refine hK4 _ (AR hw (sr U fun K10 hK10=>zq tb U (Ak (Wk.Er (L:=[(4,Ar),(51,(.agg (Uv q3 l8)))]) (st':=[QA,⟨1,48,5,[]⟩,⟨0,30,2,[[(BT q3),(ow 1 0 l8)]]⟩]) (id:=1) rfl (show 0≤1 by decide) (AN fun _=>U) ⟨.rfl,(.agg ⟨.rfl,(.Iu U),trivial⟩),trivial⟩ U) (A1 Ah FV U U U U U U (show 0+2≤2 by decide) rfl (zq tb U (dn hK10 U ?_))))))
  replace h0:=Sh.AB h0
  subst r
  exact AJ (Exists.intro _ (And.intro ((Af (L:=[(4,Ar),(5,(.bool true))]) (st':=[(LF q3 l8)]) [0] U (by decide) rfl U (.raw U U .nil) ⟨.rfl,.rfl,trivial⟩).trans (AT (L:=[(4,Ar),(5,(.bool true))]) ⟨.rfl,.rfl,trivial⟩)) (BE (x:=.tmp 4) (off:=0) (cs:=(Uv q3 l8)) (vs:=(Uv q3 l8)) FV U U U (show 0+2≤2 by decide) rfl _ U)))
 refine AU (As (σ:=Int×(List Am)) (fun n v=>CF N p0 p1 n v.1 v.2=some o9) (fun (i6,l7)=>⟨52,AP [(1,(C4 p1)),(2,Ar),(4,Ay),(6,Ec),(7,(i64 i6))],[(LF p0.decls p0.funcs),QA,(ro 0 48 5 A3 l7),(ZN q3 l7)]⟩) N (0,[]) h1 (A4 (L:=[(1,(C4 p1)),(2,Ar),(4,Ay),(6,Ec),(7,(i64 0))]) (st':=[(LF p0.decls p0.funcs),QA,(ro 0 48 5 A3 ([]:List Am)),⟨0,30,2,[[(BT q3),(.own 2 0 (List.length ([]:List Am)))]]⟩]) (st1:=[(LF p0.decls p0.funcs),QA,(ro 0 48 5 A3 ([]:List Am)),⟨0,30,2,[[(BT q3),Y1]]⟩]) [0,1,3,4] U .nil (by decide) rfl U (.raw U U (.raw U U (.pure (AN fun _=>U) (.raw U U .nil)))) (.same U)) (fun _ hv=>by rw[CF] at hv;cases hv) ?_)
 rintro n ⟨i6,l7⟩ h1
 try dsimp only at h1 ⊢
 rw[CF] at h1
 refine AF fun K11 hK11=>sr U fun K12 hK12=>zm tb 3 U (zl tb U U (zq tb U (dn hK12 U ?_)))
 refine ci h1 U ?_ ?_ <;> clear h1
 ·intro b13 h1
  refine AI (hK11 _ (AF fun K14 hK14=>AU (AF fun K15 hK15=>sr U fun K16 hK16=>zm tb 2 U (bs h1 fun c17 gc17 h1=>zz (EI c17) (BM Bc U U gc17 (Ax _) rfl) rfl (zq tb U (bs h1 fun q18 gq18 h1=>zc cO (Ll gq18) rfl U U (zq tb U ?_)))))))
  refine dn hK16 U ?_
  refine ci h1 U ?_ ?_ <;> clear h1
  ·intro b19 h1
   refine sr U fun K20 hK20=>zz (.agg [.zc,.zc]) (FG Sw TJ HY U U) rfl (A1 Ah FV U U U U U U (show 0+2≤2 by decide) rfl (zq tb U (dn hK20 U ?_)))
   replace h1:=Sh.AB h1
   subst o9
   try dsimp only[id] at h0
   replace h0:=Sh.AB h0
   subst r
   exact AJ (Exists.intro _ (And.intro ((((Fv (id:=1) (cs:=[.zc,.zc]) (cs':=VU) (st':=[(LF p0.decls p0.funcs),⟨0,30,2,[VU]⟩,(ro 0 48 5 A3 l7),(ZN q3 l7)]) rfl ⟨le.zc,le.rfl,trivial⟩ U U).trans (Fv (id:=1) (cs:=VU) (cs':=T2) (st':=[(LF p0.decls p0.funcs),Ye,(ro 0 48 5 A3 l7),(ZN q3 l7)]) rfl ⟨le.rfl,le.zc,trivial⟩ U U)).trans (Af (L:=[(4,Ar),(5,(.bool false))]) (st':=[Ye]) [1] U (by decide) rfl U (.raw U U .nil) ⟨.rfl,.rfl,trivial⟩)).trans (AT (L:=[(4,Ar),(5,(.bool false))]) ⟨.rfl,.rfl,trivial⟩)) (BE (x:=.tmp 4) (off:=0) (cs:=T2) (vs:=T2) FV U U U (show 0+2≤2 by decide) rfl _ U)))
  ·intro b19 h1
   refine AI (hK15 _ ?_)
   refine Be 22 (by kernel_rfl) (by kernel_rfl) (by rfl) ?_
   iterate 5 refine yq tb rfl ?_
   refine bs h1 fun c21 gc21 h1=>yx CR gc21 U U U ?_
   iterate 2 refine yq tb rfl ?_
   refine bs h1 fun q22 gq22 h1=>?_
   refine Bk (v:=(ls eI q22)) Ah aJ (Ag.wk (IN gq22) (by refine Wk.trans (Wk.Er (L:=[(0,(ls eI q22))]) (st':=Vs) (id:=0) rfl (show 0≤0 by decide) (AN fun _=>U) ⟨(.Er U),trivial⟩ U) ?_;exact Af [] U (by decide) rfl U .nil (.same U))) rfl U U ?_
   iterate 3 refine yq tb rfl ?_
   refine yx CR gc21 U U U ?_
   iterate 4 refine yq tb rfl ?_
   refine yz (EI c17) (BM Bc U U gc17 (Ax _) rfl) rfl (yq tb U (bs h1 fun q23 gq23 h1=>Bk (v:=(B5 q23)) Ah cn (N4 gq23) rfl U U (yz (.agg [(ls eI q22),(i64 c21.result),(i64 q23.op),(i64 q23.num),(G8 q23)]) (FG aR aj Mx U U) rfl ?_)))
   refine UG (l:=[(Am.mk q22 c21.result q23)]) (enc:=A3) Ah CR (by decide) rfl U U U U (AN fun _=>U) ?_
   exact BR (bs h1 fun l24 gl24 h1=>Fb (l2:=[(Am.mk q22 c21.result q23)]) Ah CR U U U U NN (fun _=>U) gl24 U (zq tb U (A1 Ah af U U U U U U (show 1+1≤2 by decide) rfl (dn hK14 U (AK U (zm tb 3 U (AA (xi (Sh.w (i6+1),l24) h1 (Dx (L:=[(1,(C4 p1)),(2,Ar),(4,Ay),(6,Ec),(7,(KL i6))]) (st':=[(LF p0.decls p0.funcs),QA,(ro 0 48 5 A3 l24),(ZN q3 l24)]) (.raw U U (.raw U U (.pure (AN fun _=>U) (.raw U U .nil)))) (.same U))))))))))
 ·intro b13 h1
  exact Aw (M9 l7 (Sh.AB h1).symm _ (A4 (L:=[(4,Ar),(6,BK)]) (st':=[QA,(ro 0 48 5 A3 l7),⟨0,30,2,[[(BT q3),(ow 1 0 l7)]]⟩]) (st1:=[QA,(ro 0 48 5 A3 l7),(ZN q3 l7)]) [1,2,3] U .nil (by decide) rfl U (.raw U U (.pure (AN fun _=>U) (.raw U U .nil))) (.same U)))
theorem Ts {N:Nat} {p0:Aa} {r:Aa×Bool} (h0:KO N p0=some r):Ag Tryz.prog 13 [(HM p0)] [] (fun v st=>v=(Yp r.1.decls r.1.funcs r.2)∧st=[]):=by
 unfold KO at h0
 refine DX U (ai Tryz.func13 U U U U (sr U fun K1 hK1=>BH (m:=0) Ah U U U U U (A0 (m:=1) Ah HY U U (zq tb U (dn hK1 U (AF fun K2 hK2=>sr U fun K3 hK3=>zq tb U (bs h0 fun q4 gq4 h0=>zc eT (Mg gq4) rfl U U ?_)))))))
 refine zq tb U (dn hK3 U ?_)
 refine ci h0 U ?_ ?_ <;> clear h0
 ·intro b5 h0
  have b6:q4=false:=by simpa using b5
  refine sr U fun K7 hK7=>zz (.agg [.zc,.zc]) (FG Sw TJ HY U U) rfl (A1 Ah FV U U U U U U (show 0+2≤2 by decide) rfl (zq tb U (dn hK7 U ?_)))
  replace h0:=Sh.AB h0
  subst r
  exact AJ (Exists.intro _ (And.intro ((((Fv (id:=1) (cs:=[.zc,.zc]) (cs':=VU) (st':=[(LF p0.decls p0.funcs),⟨0,30,2,[VU]⟩]) rfl ⟨le.zc,le.rfl,trivial⟩ U U).trans (Fv (id:=1) (cs:=VU) (cs':=T2) (st':=[(LF p0.decls p0.funcs),Ye]) rfl ⟨le.rfl,le.zc,trivial⟩ U U)).trans (Af (L:=[(2,Ar),(3,(.bool false))]) (st':=[Ye]) [1] U (by decide) rfl U (.raw U U .nil) ⟨.rfl,.rfl,trivial⟩)).trans (AT (L:=[(2,Ar),(3,(.bool false))]) ⟨.rfl,.rfl,trivial⟩)) (BE (x:=.tmp 2) (off:=0) (cs:=T2) (vs:=T2) FV U U U (show 0+2≤2 by decide) rfl _ U)))
 ·intro b5 h0
  have b8:q4=true:=by simpa using b5
  refine AI (hK2 _ (sr U fun K9 hK9=>?_))
  refine Cb (m:=2) (l:=([]:List AG)) (enc:=BS) Ah Bc (by decide) rfl U (by simp only[List.map,Ax];rfl) rfl U U ?_
  refine zq tb U (dn hK9 U (AF fun K10 hK10=>zr tb U U (bs h0 fun o15 h1 h0=>?_)))
  have M15 :∀(l14:(List AG)),o15=l14→∀s,Wk 0 s ⟨41,AP [(1,Ar),(2,Ay),(4,(ow 2 0 l14))],[(LF p0.decls p0.funcs),QA,(Pk l14)]⟩→K10 s:=by
   intro l14 hq s hw
   subst o15
   try dsimp only at h0
   refine hK10 _ (AR hw (sr U fun K16 hK16=>zm tb 2 U (Ak (Wk.Er (L:=[(2,Ay),(36,(HM p0)),(37,(C4 l14))]) (st':=[(LF p0.decls p0.funcs),QA,B3]) (id:=2) rfl (show 0≤2 by decide) (AN Ci) ⟨.rfl,.rfl,(.Er U),trivial⟩ U) (bs h0 fun q17 gq17 h0=>zc (v':=(Yp q17.1.decls q17.1.funcs q17.2)) eJ (Mk gq17) rfl U U (zm tb 2 U (A1 Ah FV U U U U U U (show 0+2≤2 by decide) rfl (zq tb U (dn hK16 U ?_))))))))
   replace h0:=Sh.AB h0
   subst r
   exact AJ (Exists.intro _ (And.intro ((Af (L:=[(2,Ar),(3,(.bool q17.2))]) (st':=[(LF q17.1.decls q17.1.funcs)]) [1] U (by decide) rfl U (.raw U U .nil) ⟨.rfl,.rfl,trivial⟩).trans (AT (L:=[(2,Ar),(3,(.bool q17.2))]) ⟨.rfl,.rfl,trivial⟩)) (BE (x:=.tmp 2) (off:=0) (cs:=(Uv q17.1.decls q17.1.funcs)) (vs:=(Uv q17.1.decls q17.1.funcs)) FV U U U (show 0+2≤2 by decide) rfl _ U)))
  refine AU (As (σ:=Int×(List AG)) (fun n v=>E0 N p0 n v.1 v.2=some o15) (fun (i12,l13)=>⟨41,AP [(1,Ar),(2,Ay),(4,(ow 2 0 l13)),(5,(i64 i12))],[(LF p0.decls p0.funcs),QA,(Pk l13)]⟩) N (0,[]) h1 (AD U) (fun _ hv=>by rw[E0] at hv;cases hv) ?_)
  rintro n ⟨i12,l13⟩ h1
  try dsimp only at h1 ⊢
  rw[E0] at h1
  refine AF fun K18 hK18=>sr U fun K19 hK19=>zm tb 3 U (zl tb U U (zq tb U (dn hK19 U ?_)))
  refine ci h1 U ?_ ?_ <;> clear h1
  ·intro b20 h1
   refine AI (hK18 _ (AF fun K21 hK21=>AU ?_))
   refine Be 17 (by kernel_rfl) (by kernel_rfl) (by rfl) ?_
   iterate 5 refine yq tb rfl ?_
   refine bs h1 fun c22 gc22 h1=>yx CR gc22 U U U ?_
   iterate 5 refine yq tb rfl ?_
   refine yx CR gc22 U U U ?_
   iterate 2 refine yq tb rfl ?_
   refine yl tb U U (bs h1 fun q23 gq23 h1=>Bk (v:=(B5 q23)) Ah cW (Tc gq23) rfl U U ?_)
   refine UG (l:=[q23]) (enc:=BS) Ah Bc (by decide) rfl U U (by simp only[List.map,Ax];rfl) rfl (AN Ci) ?_
   exact BR (bs h1 fun l24 gl24 h1=>Fb (l2:=[q23]) Ah Bc U U U U NN IE gl24 U (zq tb U (dn hK21 U (AK U (zm tb 3 U (AA (xi (Sh.w (i12+1),l24) h1 (Dx (L:=[(1,Ar),(2,Ay),(4,(ow 2 0 l24)),(5,(KL i12))]) (st':=[(LF p0.decls p0.funcs),QA,(Pk l24)]) (.raw U U (.raw U U (.pure (AN Ci) .nil))) (.same U)))))))))
  ·intro b20 h1
   exact Aw (M15 l13 (Sh.AB h1).symm _ (AD U))
theorem Hz {p0:(List Ab)} {p1:Int} {r:Bool} (h0:Ft p0 p1=some r):Ag Tryz.prog 126 [(BT p0),(i64 p1)] [] (fun v st=>v=(.bool r)∧st=[]):=by
 unfold Ft at h0
 refine ai Tryz.func126 U U U U (zr tb U U (AF fun K2 hK2=>bs h0 fun o4 h1 h0=>?_))
 have M4 :∀(t3:Bool),o4=t3→∀s,Wk 0 s ⟨13,AP [(4,(.bool t3))],[]⟩→K2 s:=by
  intro t3 hq s hw
  subst o4
  try dsimp only at h0
  refine hK2 _ (AR hw ?_)
  replace h0:=Sh.AB h0
  subst r
  exact AJ (xr (AT (L:=[(4,(.bool t3))]) (.same U)))
 refine AK U (zm tb 3 U ?_)
 rcases Sh.Au h1 with ⟨b5,h1⟩ | ⟨b5,h1⟩
 ·exact zg tb b5 U (zg tb b5 U (BP (v:=(Bp p0)) (DF U U b5) rfl (Cq PV U) (zg tb b5 U (zt b5 U (zq tb U (AA (M4 (decide (p1≤(Sh.len p0))) (Sh.AB h1).symm _ (AD U))))))))
 ·refine zs b5 U ?_
  iterate 3 refine zs b5 rfl ?_
  exact zf b5 U (zq tb U (AA (M4 false (Sh.AB h1).symm _ (AD U))))
theorem Ie {N:Nat} {p0:(List Ab)} {p1:(List Int)} {r:Bool} (h0:FZ N p0 p1=some r):Ag Tryz.prog 99 [(BT p0),(ls eI p1)] [] (fun v st=>v=(.bool r)∧st=[]):=by
 unfold FZ at h0
 refine ai Tryz.func99 U U U U (zr tb U U (AF fun K2 hK2=>sr U fun K3 hK3=>zq tb U (zl tb U U (zq tb U (dn hK3 U ?_)))))
 obtain⟨o5,h1,h0⟩:=Sh.BF h0
 have M5 :∀(_:Unit),o5=Sum.inr ()→∀s,Wk 0 s ⟨18,AP [],[]⟩→K2 s:=by
  intro _ hq s hw
  subst o5
  try dsimp only at h0
  refine hK2 _ (AR hw (zr tb U U ?_))
  replace h0:=Sh.AB h0
  subst r
  exact AJ (xr (AT (L:=[(4,(.bool true))]) (.same U)))
 refine AU (As (σ:=Int) (fun n v=>Dq p0 p1 n v=some o5) (fun t4=>⟨18,AP [(0,(BT p0)),(7,(ls eI p1)),(8,(Bp p1)),(9,(i64 t4))],[]⟩) N 0 h1 (AD U) (fun _ hv=>by rw[Dq] at hv;cases hv) ?_)
 rintro n t4 h1
 try dsimp only at h1 ⊢
 rw[Dq] at h1
 refine zr tb U U (AF fun K8 hK8=>?_)
 refine ci h1 U ?_ ?_ <;> clear h1
 ·intro b9 h1
  refine AI (hK8 _ (AF fun K10 hK10=>AU (sr U fun K11 hK11=>bs h1 fun c12 gc12 h1=>zx Bm gc12 U U U (zm tb 2 U (dn hK11 U (sr U fun K13 hK13=>zm tb 2 U (bs h1 fun q14 gq14 h1=>zc UY (Hz gq14) rfl U U ?_)))))))
  refine zq tb U (dn hK13 U ?_)
  refine ci h1 U ?_ ?_ <;> clear h1
  ·intro b15 h1
   have b16:q14=false:=by simpa using b15
   refine zr tb U U ?_
   replace h1:=Sh.AB h1
   subst o5
   try dsimp only[id] at h0
   replace h0:=Sh.AB h0
   subst r
   exact AJ (xr (AT (L:=[(4,(.bool false))]) (.same U)))
  ·intro b15 h1
   have b18:q14=true:=by simpa using b15
   exact AI (hK10 _ (AK U (zm tb 2 U (AA (xi (Sh.w (t4+1)) h1 (AD U))))))
 ·intro b9 h1
  exact Aw (M5 () (Sh.AB h1).symm _ (AD U))
theorem Nz {N:Nat} {p0:(List Ab)} {r:Bool} (h0:GL N p0=some r):Ag Tryz.prog 125 [(BT p0)] [] (fun v st=>v=(.bool r)∧st=[]):=by
 unfold GL at h0
 refine ai Tryz.func125 U U U U (zr tb U U (AF fun K2 hK2=>sr U fun K3 hK3=>zq tb U (zl tb U U (zq tb U (dn hK3 U ?_)))))
 refine ci h0 U ?_ ?_ <;> clear h0
 ·intro b4 h0
  refine zr tb U U ?_
  replace h0:=Sh.AB h0
  subst r
  exact AJ (xr (AT (L:=[(2,(.bool false))]) (.same U)))
 ·intro b4 h0
  refine AI (hK2 _ (AF fun K6 hK6=>sr U fun K7 hK7=>zq tb U (zl tb U U (zq tb U (dn hK7 U ?_)))))
  obtain⟨o9,h1,h0⟩:=Sh.BF h0
  have M9 :∀(_:Unit),o9=Sum.inr ()→∀s,Wk 0 s ⟨106,AP [],[]⟩→K6 s:=by
   intro _ hq s hw
   subst o9
   try dsimp only at h0
   refine hK6 _ (AR hw (zr tb U U ?_))
   replace h0:=Sh.AB h0
   subst r
   exact AJ (xr (AT (L:=[(2,(.bool true))]) (.same U)))
  refine AU (As (σ:=Int) (fun n v=>DD N p0 n v=some o9) (fun t8=>⟨106,AP [(0,(BT p0)),(12,(BT p0)),(13,(Bp p0)),(14,(i64 t8))],[]⟩) N 0 h1 (AD U) (fun _ hv=>by rw[DD] at hv;cases hv) ?_)
  rintro n t8 h1
  try dsimp only at h1 ⊢
  rw[DD] at h1
  refine zr tb U U (AF fun K12 hK12=>?_)
  refine ci h1 U ?_ ?_ <;> clear h1
  ·intro b13 h1
   refine AI (hK12 _ (AF fun K14 hK14=>AU (sr U fun K15 hK15=>zq tb U (bs h1 fun c16 gc16 h1=>zx DC gc16 U U U (zq tb U (A0 (m:=0) Ah GR U U (zq tb U (A1 Ah I4 U U U U U U (show 0+3≤3 by decide) rfl (dn hK15 U ?_)))))))))
   refine AF fun K17 hK17=>AF fun K18 hK18=>bs h1 fun o20 h2 h1=>?_
   have M20 :∀(t19:Bool),o20=t19→∀s,Wk 0 s ⟨106,AP [(0,(BT p0)),(3,(i64 t8)),(4,Ar),(12,(BT p0)),(13,(Bp p0)),(14,(i64 t8)),(52,(.bool t19))],(O7 c16)⟩→K18 s:=by
    intro t19 hq s hw
    subst o20
    try dsimp only at h1
    refine hK18 _ (AR hw ?_)
    refine ci h1 U ?_ ?_ <;> clear h1
    ·intro b21 h1
     refine zr tb U U ?_
     replace h1:=Sh.AB h1
     subst o9
     try dsimp only[id] at h0
     replace h0:=Sh.AB h0
     subst r
     exact AJ (xr (An [(2,(.bool false))] U))
    ·intro b21 h1
     refine AI (hK17 _ (AF fun K23 hK23=>sr U fun K24 hK24=>zm tb 2 U (zl tb U U (zq tb U (dn hK24 U ?_)))))
     obtain⟨o26,h2,h1⟩:=Sh.BF h1
     have M26 :∀(_:Unit),o26=Sum.inr ()→∀s,Wk 0 s ⟨106,AP [(0,(BT p0)),(3,(i64 t8)),(4,Ar),(12,(BT p0)),(13,(Bp p0)),(14,(i64 t8))],(O7 c16)⟩→K23 s:=by
      intro _ hq s hw
      subst o26
      try dsimp only at h1
      refine hK23 _ (AR hw (sr U fun K27 hK27=>zm tb 2 U (bs h1 fun l28 gl28 h1=>VK (i:=0) (j:=t8) Ah DC U U U (fun _=>U) gl28 (zl tb U U (zq tb U (dn hK27 U ?_))))))
      obtain⟨o30,h2,h1⟩:=Sh.BF h1
      have M30 :∀(_:Unit),o30=Sum.inr ()→∀s,Wk 0 s ⟨106,AP [(0,(BT p0)),(12,(BT p0)),(13,(Bp p0)),(14,(i64 t8))],[]⟩→K14 s:=by
       intro _ hq s hw
       subst o30
       try dsimp only at h1
       exact hK14 _ (AR hw (AK U (zm tb 2 U (AA (xi (Sh.w (t8+1)) h1 (AD U))))))
      refine AU (As (σ:=Int) (fun n v=>Cg c16 l28 n v=some o30) (fun t29=>⟨106,AP [(0,(BT p0)),(4,Ar),(12,(BT p0)),(13,(Bp p0)),(14,(i64 t8)),(74,(BT l28)),(75,(Bp l28)),(76,(i64 t29))],(O7 c16)⟩) N 0 h2 (AD U) (fun _ hv=>by rw[Cg] at hv;cases hv) ?_)
      rintro n t29 h2
      try dsimp only at h2 ⊢
      rw[Cg] at h2
      refine zr tb U U (AF fun K32 hK32=>?_)
      refine ci h2 U ?_ ?_ <;> clear h2
      ·intro b33 h2
       refine AI (hK32 _ (AF fun K34 hK34=>AU (sr U fun K35 hK35=>bs h2 fun c36 gc36 h2=>zx DC gc36 U U U (zq tb U (A0 (m:=1) Ah GR U U (A1 Ah I4 U U U U U U (show 0+3≤3 by decide) rfl (dn hK35 U (AF fun K37 hK37=>bs h2 fun o39 h3 h2=>?_))))))))
       have M39 :∀(t38:Bool),o39=t38→∀s,Wk 0 s ⟨106,AP [(0,(BT p0)),(4,Ar),(12,(BT p0)),(13,(Bp p0)),(14,(i64 t8)),(74,(BT l28)),(75,(Bp l28)),(76,(i64 t29)),(103,(.bool t38))],(O7 c16)⟩→K37 s:=by
        intro t38 hq s hw
        subst o39
        try dsimp only at h2
        refine hK37 _ (AR hw ?_)
        refine ci h2 U ?_ ?_ <;> clear h2
        ·intro b40 h2
         refine zr tb U U ?_
         replace h2:=Sh.AB h2
         subst o30
         try dsimp only[id] at h1
         replace h1:=Sh.AB h1
         subst o9
         try dsimp only[id] at h0
         replace h0:=Sh.AB h0
         subst r
         exact AJ (xr (An [(2,(.bool false))] U))
        ·intro b40 h2
         exact AI (hK34 _ (AK U (zm tb 2 U (AA (xi (Sh.w (t29+1)) h2 (AD U))))))
       refine AK U (zm tb 2 U (zl tb U U (zm tb 2 U ?_)))
       rcases Sh.Au h3 with ⟨b42,h3⟩ | ⟨b42,h3⟩
       ·refine zg tb b42 U (zg tb b42 U (BP (v:=(TN c36)) (DF U U b42) rfl (Cq OD U) (zg tb b42 U (zt b42 U (zq tb U ?_)))))
        rcases Sh.Au h3 with ⟨b43,h3⟩ | ⟨b43,h3⟩
        ·refine zg tb b43 U ?_
         iterate 4 refine zg tb b43 rfl ?_
         refine zt b43 U (zq tb U ?_)
         rcases Sh.Au h3 with ⟨b44,h3⟩ | ⟨b44,h3⟩
         ·refine zg tb b44 U ?_
          iterate 4 refine zg tb b44 rfl ?_
          refine zt b44 U ?_
          exact AA (M39 (decide (c36.to=c16.to)) (Sh.AB h3).symm _ (Af [0] U (by decide) rfl U (.raw U U .nil) (.same U)))
         ·refine zs b44 U ?_
          iterate 4 refine zs b44 rfl ?_
          refine zf b44 U ?_
          exact AA (M39 false (Sh.AB h3).symm _ (Af [0] U (by decide) rfl U (.raw U U .nil) (.same U)))
        ·refine zs b43 U ?_
         iterate 4 refine zs b43 rfl ?_
         refine zf b43 U (zq tb U ?_)
         iterate 5 refine zs rfl rfl ?_
         refine zf U U ?_
         exact AA (M39 false (Sh.AB h3).symm _ (Af [0] U (by decide) rfl U (.raw U U .nil) (.same U)))
       ·refine zs b42 U ?_
        iterate 3 refine zs b42 rfl ?_
        refine zf b42 U (zq tb U ?_)
        iterate 5 refine zs rfl rfl ?_
        refine zf U U (zq tb U ?_)
        iterate 5 refine zs rfl rfl ?_
        refine zf U U ?_
        exact AA (M39 false (Sh.AB h3).symm _ (Af [0] U (by decide) rfl U (.raw U U .nil) (.same U)))
      ·intro b33 h2
       exact Aw (M30 () (Sh.AB h2).symm _ (An _ U))
     refine AU (As (σ:=Int) (fun n v=>Ch N c16 p0 n v=some o26) (fun t25=>⟨106,AP [(0,(BT p0)),(3,(i64 t8)),(4,Ar),(12,(BT p0)),(13,(Bp p0)),(14,(i64 t8)),(54,(ls BZ c16.cons)),(55,(TN c16)),(56,(i64 t25))],(O7 c16)⟩) N 0 h2 (AD U) (fun _ hv=>by rw[Ch] at hv;cases hv) ?_)
     rintro n t25 h2
     try dsimp only at h2 ⊢
     rw[Ch] at h2
     refine zr tb U U (AF fun K46 hK46=>?_)
     refine ci h2 U ?_ ?_ <;> clear h2
     ·intro b47 h2
      refine AI (hK46 _ (AF fun K48 hK48=>AU (sr U fun K49 hK49=>bs h2 fun c50 gc50 h2=>zx ID gc50 U U U (zq tb U (A0 (m:=1) Ah LK U U (A1 Ah JI U U U U U U (show 0+1≤1 by decide) rfl (dn hK49 U (AF fun K51 hK51=>bs h2 fun o53 h3 h2=>?_))))))))
      have M53 :∀(t52:Bool),o53=t52→∀s,Wk 0 s ⟨106,AP [(0,(BT p0)),(3,(i64 t8)),(4,Ar),(12,(BT p0)),(13,(Bp p0)),(14,(i64 t8)),(54,(ls BZ c16.cons)),(55,(TN c16)),(56,(i64 t25)),(70,(.bool t52))],(O7 c16)⟩→K51 s:=by
       intro t52 hq s hw
       subst o53
       try dsimp only at h2
       refine hK51 _ (AR hw ?_)
       refine ci h2 U ?_ ?_ <;> clear h2
       ·intro b54 h2
        refine zr tb U U ?_
        replace h2:=Sh.AB h2
        subst o26
        try dsimp only[id] at h1
        replace h1:=Sh.AB h1
        subst o9
        try dsimp only[id] at h0
        replace h0:=Sh.AB h0
        subst r
        exact AJ (xr (An [(2,(.bool false))] U))
       ·intro b54 h2
        exact AI (hK48 _ (AK U (zm tb 2 U (AA (xi (Sh.w (t25+1)) h2 (AD U))))))
      refine AK U (zm tb 2 U (zl tb U U (zm tb 2 U ?_)))
      rcases Sh.Au h3 with ⟨b56,h3⟩ | ⟨b56,h3⟩
      ·refine zs b56 U ?_
       iterate 4 refine zs b56 rfl ?_
       refine zt b56 U ?_
       exact AA (M53 true (Sh.AB h3).symm _ (Af [0] U (by decide) rfl U (.raw U U .nil) (.same U)))
      ·refine zg tb b56 U (zg tb b56 U (zg tb b56 U (bs h3 fun q57 gq57 h3=>zd b56 Zj (Ie gq57) rfl U U U (zg tb b56 U (zf b56 U ?_)))))
       exact AA (M53 (!q57) (Sh.AB h3).symm _ (Af [0] U (by decide) rfl U (.raw U U .nil) (.same U)))
     ·intro b47 h2
      exact Aw (M26 () (Sh.AB h2).symm _ (AD U))
   refine AK U (zm tb 3 U (bs h2 fun q58 gq58 h2=>zc UY (Hz gq58) rfl U U (zm tb 2 U ?_)))
   rcases Sh.Au h2 with ⟨b59,h2⟩ | ⟨b59,h2⟩
   ·refine zs b59 U ?_
    iterate 4 refine zs b59 rfl ?_
    refine zt b59 U (zq tb U ?_)
    iterate 4 refine zs rfl rfl ?_
    refine zt U U (zq tb U ?_)
    iterate 5 refine zs rfl rfl ?_
    iterate 8 refine zn rfl ?_
    exact zs U U (zt U U (AA (M20 true (Sh.AB h2).symm _ (AD U))))
   ·refine zg tb b59 U (zg tb b59 U (zg tb b59 U (bs h2 fun q60 gq60 h2=>zd b59 UY (Hz gq60) rfl U U U (zg tb b59 U (zf b59 U (zq tb U ?_))))))
    rcases Sh.Au h2 with ⟨b61,h2⟩ | ⟨b61,h2⟩
    ·refine zs b61 U ?_
     iterate 3 refine zs b61 rfl ?_
     refine zt b61 U (zq tb U ?_)
     iterate 5 refine zs rfl rfl ?_
     iterate 8 refine zn rfl ?_
     exact zs U U (zt U U (AA (M20 true (Sh.AB h2).symm _ (AD U))))
    ·refine zg tb b61 U (zg tb b61 U (BP (v:=(TN c16)) (DF U U b61) rfl (Cq OD U) (zg tb b61 U (zf b61 U (zq tb U ?_)))))
     rcases Sh.Au h2 with ⟨b62,h2⟩ | ⟨b62,h2⟩
     ·refine zs b62 U ?_
      iterate 4 refine zs b62 rfl ?_
      iterate 8 refine zn rfl ?_
      exact zs b62 U (zt b62 U (AA (M20 true (Sh.AB h2).symm _ (AD U))))
     ·refine zg tb b62 U (zg tb b62 U (BP (v:=(TN c16)) (DF U U b62) rfl (Cq OD U) (zg tb b62 U (zg tb b62 U ?_))))
      rcases Sh.Au h2 with ⟨b63,h2⟩ | ⟨b63,h2⟩
      ·refine zg tb b63 U ?_
       iterate 3 refine zg tb b63 rfl ?_
       rcases Sh.Au h2 with ⟨b64,h2⟩ | ⟨b64,h2⟩
       ·exact zs b64 U (zs b64 U (zs b64 U (BP (v:=(.bool true)) (DF U U b63) rfl (L6 U b64 U) (BP (v:=(.bool true)) (DF U U b62) rfl (L6 U b63 U) (zf b62 U (AA (M20 true (Sh.AB h2).symm _ (AD U))))))))
       ·exact zg tb b64 U (zg tb b64 U (zg tb b64 U (BP (v:=(.bool (!decide (c16.to=0)))) (DF U U b63) rfl (Nq U b64 U) (BP (v:=(.bool (!decide (c16.to=0)))) (DF U U b62) rfl (L6 U b63 U) (zf b62 U (AA (M20 (!decide (c16.to=0)) (Sh.AB h2).symm _ (AD U))))))))
      ·refine zs b63 U ?_
       iterate 3 refine zs b63 rfl ?_
       iterate 3 refine zn rfl ?_
       exact zs b63 U (BP (v:=(.bool false)) (DF U U b62) rfl (Nq U b63 U) (zf b62 U (AA (M20 false (Sh.AB h2).symm _ (AD U)))))
  ·intro b13 h1
   exact Aw (M9 () (Sh.AB h1).symm _ (AD U))
theorem Ov {N:Nat} {p0:(List Ab)} {p1:(List BX)} {r:Bool} (h0:Gi N p0 p1=some r):Ag Tryz.prog 98 [(BT p0),(TI p1)] [] (fun v st=>v=(.bool r)∧st=[]):=by
 unfold Gi at h0
 refine ai Tryz.func98 U U U U (zr tb U U (AF fun K2 hK2=>AF fun K3 hK3=>bs h0 fun o5 h1 h0=>?_))
 have M5 :∀(t4:Bool),o5=t4→∀s,Wk 0 s ⟨102,AP [(0,(BT p0)),(1,(TI p1)),(36,(.bool t4))],[]⟩→K3 s:=by
  intro t4 hq s hw
  subst o5
  try dsimp only at h0
  refine hK3 _ (AR hw ?_)
  refine ci h0 U ?_ ?_ <;> clear h0
  ·intro b6 h0
   refine zr tb U U ?_
   replace h0:=Sh.AB h0
   subst r
   exact AJ (xr (AT (L:=[(4,(.bool false))]) (.same U)))
  ·intro b6 h0
   refine AI (hK2 _ (AF fun K8 hK8=>sr U fun K9 hK9=>zq tb U (zl tb U U (zq tb U (dn hK9 U ?_)))))
   obtain⟨o11,h1,h0⟩:=Sh.BF h0
   have M11 :∀(_:Unit),o11=Sum.inr ()→∀s,Wk 0 s ⟨102,AP [],[]⟩→K8 s:=by
    intro _ hq s hw
    subst o11
    try dsimp only at h0
    refine hK8 _ (AR hw (zr tb U U ?_))
    replace h0:=Sh.AB h0
    subst r
    exact AJ (xr (AT (L:=[(4,(.bool true))]) (.same U)))
   refine AU (As (σ:=Int) (fun n v=>Cz N p0 p1 n v=some o11) (fun t10=>⟨102,AP [(0,(BT p0)),(37,(TI p1)),(38,(Bp p1)),(39,(i64 t10))],[]⟩) N 0 h1 (AD U) (fun _ hv=>by rw[Cz] at hv;cases hv) ?_)
   rintro n t10 h1
   try dsimp only at h1 ⊢
   rw[Cz] at h1
   refine zr tb U U (AF fun K14 hK14=>?_)
   refine ci h1 U ?_ ?_ <;> clear h1
   ·intro b15 h1
    refine AI (hK14 _ (AF fun K16 hK16=>AU (sr U fun K17 hK17=>bs h1 fun c18 gc18 h1=>zx LL gc18 U U U (zq tb U (A0 (m:=0) Ah Ww U U (A1 Ah dS U U U U U U (show 0+3≤3 by decide) rfl (dn hK17 U (AF fun K19 hK19=>AF fun K20 hK20=>?_))))))))
    refine bs h1 fun o22 h2 h1=>?_
    have M22 :∀(t21:Bool),o22=t21→∀s,Wk 0 s ⟨102,AP [(0,(BT p0)),(6,Ar),(37,(TI p1)),(38,(Bp p1)),(39,(i64 t10)),(60,(.bool t21))],(dT c18)⟩→K20 s:=by
     intro t21 hq s hw
     subst o22
     try dsimp only at h1
     refine hK20 _ (AR hw ?_)
     refine ci h1 U ?_ ?_ <;> clear h1
     ·intro b23 h1
      refine zr tb U U ?_
      replace h1:=Sh.AB h1
      subst o11
      try dsimp only[id] at h0
      replace h0:=Sh.AB h0
      subst r
      exact AJ (xr (An [(4,(.bool false))] U))
     ·intro b23 h1
      refine AI (hK19 _ (sr U fun K25 hK25=>zm tb 2 U (zl tb U U (zq tb U (dn hK25 U ?_)))))
      obtain⟨o27,h2,h1⟩:=Sh.BF h1
      have M27 :∀(_:Unit),o27=Sum.inr ()→∀s,Wk 0 s ⟨102,AP [(0,(BT p0)),(37,(TI p1)),(38,(Bp p1)),(39,(i64 t10))],[]⟩→K16 s:=by
       intro _ hq s hw
       subst o27
       try dsimp only at h1
       exact hK16 _ (AR hw (AK U (zm tb 2 U (AA (xi (Sh.w (t10+1)) h1 (AD U))))))
      refine AU (As (σ:=Int) (fun n v=>Cy c18 n v=some o27) (fun t26=>⟨102,AP [(0,(BT p0)),(6,Ar),(37,(TI p1)),(38,(Bp p1)),(39,(i64 t10)),(62,(ls eI c18.Ew)),(63,(i64 (Sh.len c18.Ew))),(64,(i64 t26))],(dT c18)⟩) N 0 h2 (AD U) (fun _ hv=>by rw[Cy] at hv;cases hv) ?_)
      rintro n t26 h2
      try dsimp only at h2 ⊢
      rw[Cy] at h2
      refine zr tb U U (AF fun K29 hK29=>?_)
      refine ci h2 U ?_ ?_ <;> clear h2
      ·intro b30 h2
       refine AI (hK29 _ (AF fun K31 hK31=>AU (sr U fun K32 hK32=>zq tb U (bs h2 fun c33 gc33 h2=>zx Bm gc33 U U U (zm tb 3 U (dn hK32 U (AF fun K34 hK34=>bs h2 fun o36 h3 h2=>?_)))))))
       have M36 :∀(t35:Bool),o36=t35→∀s,Wk 0 s ⟨102,AP [(0,(BT p0)),(6,Ar),(37,(TI p1)),(38,(Bp p1)),(39,(i64 t10)),(62,(ls eI c18.Ew)),(63,(i64 (Sh.len c18.Ew))),(64,(i64 t26)),(99,(.bool t35))],(dT c18)⟩→K34 s:=by
        intro t35 hq s hw
        subst o36
        try dsimp only at h2
        refine hK34 _ (AR hw ?_)
        refine ci h2 U ?_ ?_ <;> clear h2
        ·intro b37 h2
         refine zr tb U U ?_
         replace h2:=Sh.AB h2
         subst o27
         try dsimp only[id] at h1
         replace h1:=Sh.AB h1
         subst o11
         try dsimp only[id] at h0
         replace h0:=Sh.AB h0
         subst r
         exact AJ (xr (An [(4,(.bool false))] U))
        ·intro b37 h2
         exact AI (hK31 _ (AK U (zm tb 2 U (AA (xi (Sh.w (t26+1)) h2 (AD U))))))
       refine AK U (zm tb 3 U ?_)
       rcases Sh.Au h3 with ⟨b39,h3⟩ | ⟨b39,h3⟩
       ·refine zs b39 U ?_
        iterate 4 refine zs b39 rfl ?_
        refine zt b39 U (zq tb U ?_)
        iterate 6 refine zs rfl rfl ?_
        refine zt U U (zq tb U ?_)
        iterate 3 refine zs rfl rfl ?_
        iterate 8 refine zn rfl ?_
        exact zs U U (zt U U (AA (M36 true (Sh.AB h3).symm _ (AD U))))
       ·refine zg tb b39 U (zg tb b39 U (zg tb b39 U (BP (v:=(i64 (Sh.len c18.params))) (DF U U b39) rfl (Cq Ff U) (zg tb b39 U (zf b39 U (zq tb U ?_))))))
        rcases Sh.Au h3 with ⟨b40,h3⟩ | ⟨b40,h3⟩
        ·refine zs b40 U ?_
         iterate 5 refine zs b40 rfl ?_
         refine zt b40 U (zq tb U ?_)
         iterate 3 refine zs rfl rfl ?_
         iterate 8 refine zn rfl ?_
         exact zs U U (zt U U (AA (M36 true (Sh.AB h3).symm _ (AD U))))
        ·refine zg tb b40 U (zg tb b40 U (zg tb b40 U (bs h3 fun c41 gc41 h3=>BP (v:=(.Bu (eI c41) 0)) (DF U U b40) rfl (Ex Bm U U gc41 U) (zg tb b40 U (zg tb b40 U (zf b40 U (zq tb U ?_)))))))
         rcases Sh.Au h3 with ⟨b42,h3⟩ | ⟨b42,h3⟩
         ·refine zs b42 U (zs b42 U (zs b42 U ?_))
          iterate 8 refine zn rfl ?_
          exact zs b42 U (zt b42 U (AA (M36 true (Sh.AB h3).symm _ (AD U))))
         ·refine zg tb b42 U (zg tb b42 U (zg tb b42 U ?_))
          rcases Sh.Au h3 with ⟨b43,h3⟩ | ⟨b43,h3⟩
          ·refine zg tb b43 U ?_
           iterate 4 refine zg tb b43 rfl ?_
           exact bs h3 fun c44 gc44 h3=>BP (v:=(.Bu (eI c44) 0)) (DF U U b43) rfl (Ex Bm U U gc44 U) (zg tb b43 U (zg tb b43 U (BP (v:=(.bool (decide (c33≤c44)))) (DF U U b42) rfl (L6 U b43 U) (zf b42 U (AA (M36 (decide (c33≤c44)) (Sh.AB h3).symm _ (AD U)))))))
          ·refine zs b43 U ?_
           iterate 7 refine zs b43 rfl ?_
           exact BP (v:=(.bool false)) (DF U U b42) rfl (Nq U b43 U) (zf b42 U (AA (M36 false (Sh.AB h3).symm _ (AD U))))
      ·intro b30 h2
       exact Aw (M27 () (Sh.AB h2).symm _ (An _ U))
    refine AK U (zm tb 2 U (zl tb U U (zm tb 2 U ?_)))
    rcases Sh.Au h2 with ⟨b45,h2⟩ | ⟨b45,h2⟩
    ·refine zs b45 U ?_
     iterate 4 refine zs b45 rfl ?_
     refine zt b45 U (zq tb U ?_)
     iterate 5 refine zs rfl rfl ?_
     exact zt U U (AA (M22 true (Sh.AB h2).symm _ (AD U)))
    ·refine zg tb b45 U (zg tb b45 U (zg tb b45 U (bs h2 fun q46 gq46 h2=>zd b45 Zj (Ie gq46) rfl U U U (zg tb b45 U (zf b45 U (zq tb U ?_))))))
     rcases Sh.Au h2 with ⟨b47,h2⟩ | ⟨b47,h2⟩
     ·refine zs b47 U ?_
      iterate 4 refine zs b47 rfl ?_
      exact zt b47 U (AA (M22 true (Sh.AB h2).symm _ (AD U)))
     ·exact zg tb b47 U (zg tb b47 U (zg tb b47 U (bs h2 fun q48 gq48 h2=>zd b47 UY (Hz gq48) rfl U U U (zg tb b47 U (zf b47 U (AA (M22 (!q48) (Sh.AB h2).symm _ (AD U))))))))
   ·intro b15 h1
    exact Aw (M11 () (Sh.AB h1).symm _ (AD U))
 refine AK U (zq tb U (bs h1 fun q49 gq49 h1=>zc dF (Nz gq49) rfl U U (zm tb 2 U ?_)))
 rcases Sh.Au h1 with ⟨b50,h1⟩ | ⟨b50,h1⟩
 ·refine zs b50 U (zs b50 U (zs b50 U (zt b50 U (zq tb U ?_))))
  iterate 3 refine zs rfl rfl ?_
  refine zt U U (zq tb U ?_)
  iterate 6 refine zs rfl rfl ?_
  refine zt U U (zq tb U ?_)
  iterate 5 refine zs rfl rfl ?_
  exact zt U U (AA (M5 true (Sh.AB h1).symm _ (AD U)))
 ·refine zg tb b50 U (BP (v:=(Bp p1)) (DF U U b50) rfl (Cq XS U) (zg tb b50 U (zf b50 U (zq tb U ?_))))
  rcases Sh.Au h1 with ⟨b51,h1⟩ | ⟨b51,h1⟩
  ·refine zs b51 U (zs b51 U (zs b51 U (zt b51 U (zq tb U ?_))))
   iterate 6 refine zs rfl rfl ?_
   refine zt U U (zq tb U ?_)
   iterate 5 refine zs rfl rfl ?_
   exact zt U U (AA (M5 true (Sh.AB h1).symm _ (AD U)))
  ·refine zg tb b51 U (BP (v:=(Bp p1)) (DF U U b51) rfl (Cq XS U) (zg tb b51 U (zf b51 U (zq tb U ?_))))
   rcases Sh.Au h1 with ⟨b52,h1⟩ | ⟨b52,h1⟩
   ·refine zs b52 U ?_
    iterate 5 refine zs b52 rfl ?_
    refine zt b52 U (zq tb U ?_)
    iterate 5 refine zs rfl rfl ?_
    exact zt U U (AA (M5 true (Sh.AB h1).symm _ (AD U)))
   ·refine zg tb b52 U (bs h1 fun c53 gc53 h1=>BP (v:=(.Bu (C0 c53) 0)) (DF U U b52) rfl (Ex LL U U gc53 U) (zg tb b52 U (zg tb b52 U (BP (v:=(i64 (Sh.len c53.params))) (DF U U b52) rfl (Cq Ff U) (zg tb b52 U (zf b52 U (zq tb U ?_)))))))
    rcases Sh.Au h1 with ⟨b54,h1⟩ | ⟨b54,h1⟩
    ·refine zs b54 U ?_
     iterate 4 refine zs b54 rfl ?_
     exact zt b54 U (AA (M5 true (Sh.AB h1).symm _ (AD U)))
    ·refine zg tb b54 U (BP (v:=(.Bu (C0 c53) 0)) (DF U U b54) rfl (Ex LL U U gc53 U) ?_)
     iterate 3 refine zg tb b54 rfl ?_
     exact zf b54 U (AA (M5 (!decide (c53.result=0)) (Sh.AB h1).symm _ (AD U)))
theorem KT {N:Nat} {p0:Aa} {r:Bool} (h0:Fl N p0=some r):Ag Tryz.prog 53 [(HM p0)] [] (fun v st=>v=(.bool r)∧st=[]):=by
 unfold Fl at h0
 refine ai Tryz.func53 U U U U (sr U fun K1 hK1=>BH (m:=0) Ah U U U U U (zq tb U (dn hK1 U (sr U fun K2 hK2=>Yw (c:=4) (m:=1) (st':=[(LF p0.decls p0.funcs),bG]) LL U U U U U (zq tb U (dn hK2 U (AF fun K3 hK3=>sr U fun K4 hK4=>zm tb 2 U ?_)))))))
 refine zl tb U U (zq tb U (dn hK4 U ?_))
 refine ci h0 U ?_ ?_ <;> clear h0
 ·intro b5 h0
  refine zr tb U U ?_
  replace h0:=Sh.AB h0
  subst r
  exact AJ (xr (An [(2,(.bool false))] U))
 ·intro b5 h0
  refine AI (hK3 _ (AF fun K7 hK7=>sr U fun K8 hK8=>zm tb 2 U (zl tb U U (zq tb U (dn hK8 U (bs h0 fun o12 h1 h0=>?_))))))
  have M12 :∀(l11:(List BX)),o12=l11→∀s,Wk 0 s ⟨31,AP [(1,Ar),(3,(ow 1 0 l11))],[(LF p0.decls p0.funcs),(ro 0 116 3 C0 l11)]⟩→K7 s:=by
   intro l11 hq s hw
   subst o12
   try dsimp only at h0
   refine hK7 _ (AR hw (sr U fun K13 hK13=>zm tb 3 U (Ak (Wk.Er (L:=[(28,(ls Ai p0.decls)),(29,(TI l11))]) (st':=[(LF p0.decls p0.funcs),⟨1,116,3,[]⟩]) (id:=1) rfl (show 0≤1 by decide) (AN fun _=>U) ⟨.rfl,(.Er U),trivial⟩ U) (bs h0 fun q14 gq14 h0=>zc eh (Ov gq14) rfl U U (zq tb U (dn hK13 U ?_))))))
   replace h0:=Sh.AB h0
   subst r
   exact AJ (xr (An [(2,(.bool q14))] U))
  refine AU (As (σ:=Int×(List BX)) (fun n v=>Cd p0 n v.1 v.2=some o12) (fun (t9,l10)=>⟨31,AP [(1,Ar),(3,(ow 1 0 l10)),(12,(IQ p0)),(13,(i64 (Sh.len p0.funcs))),(14,(i64 t9))],[(LF p0.decls p0.funcs),(ro 0 116 3 C0 l10)]⟩) N (0,[]) h1 (AD U) (fun _ hv=>by rw[Cd] at hv;cases hv) ?_)
  rintro n ⟨t9,l10⟩ h1
  try dsimp only at h1 ⊢
  rw[Cd] at h1
  refine zr tb U U (AF fun K16 hK16=>?_)
  refine ci h1 U ?_ ?_ <;> clear h1
  ·intro b17 h1
   refine AI (hK16 _ (AF fun K18 hK18=>AU (sr U fun K19 hK19=>bs h1 fun c20 gc20 h1=>zx CR gc20 U U U (zq tb U (A0 (m:=2) Ah Mx U U (A1 Ah Pt U U U U U U (show 0+5≤5 by decide) rfl (dn hK19 U (AK U (zm tb 5 U ?_)))))))))
   refine zz (.agg [(ls eI c20.params),.zc,(i64 c20.result)]) (FG aQ aO Ww U U) rfl (Ak (AT (L:=[(1,Ar),(12,(IQ p0)),(13,(i64 (Sh.len p0.funcs))),(14,(i64 t9)),(18,(ow 1 0 l10)),(23,(.agg [(ls eI c20.params),Wd,(i64 c20.result)]))]) ⟨.rfl,.rfl,.rfl,.rfl,.rfl,(.agg ⟨.rfl,.zc,.rfl,trivial⟩),trivial⟩) ?_)
   refine Cb (m:=3) (l:=([(BX.mk c20.params [] c20.result)])) (enc:=C0) Ah LL (by decide) rfl U U U U U ?_
   refine bs h1 fun l21 gl21 h1=>Fb (l2:=([(BX.mk c20.params [] c20.result)])) Ah LL U U U U (Jc U U) (fun _=>U) gl21 U (zq tb U (dn hK18 U (AK U (zm tb 2 U ?_))))
   exact AA (xi (Sh.w (t9+1),l21) h1 (by refine Wk.trans (Dx (L:=[(1,Ar),(3,(ow 1 0 l21)),(12,(IQ p0)),(13,(i64 (Sh.len p0.funcs))),(14,(KL t9))]) (st':=[(LF p0.decls p0.funcs),(ro 0 116 3 C0 l21),⟨0,48,5,[(Sp c20)]⟩,(ro 0 116 3 C0 ([(BX.mk c20.params [] c20.result)]))]) (.raw U U (.pure (AN fun _=>U) (.raw U U (.pure (AN fun _=>U) .nil)))) (.same U)) ?_;exact Af [0,1] U (by decide) rfl U (.raw U U (.pure (AN fun _=>U) .nil)) (.same U)))
  ·intro b17 h1
   exact Aw (M12 l10 (Sh.AB h1).symm _ (AD U))
theorem Mi {N:Nat} {rec_impl_countNodes:Int→AG→Option (Bool×Int)} (hrec_impl_countNodes :∀{s0_0:Int} {p0:AG} {r:Bool×Int},rec_impl_countNodes s0_0 p0=some r→Ag Tryz.prog 106 [(B5 p0),Ar] [(OB s0_0)] (fun v st=>v=(.bool r.1)∧st=[(OB r.2)])) {s0_0:Int} {p0:AG} {r:Bool×Int} (h0:GV N rec_impl_countNodes s0_0 p0=some r):Ag Tryz.prog 106 [(B5 p0),Ar] [(OB s0_0)] (fun v st=>v=(.bool r.1)∧st=[(OB r.2)]):=by
 unfold GV at h0
 refine ai Tryz.func106 U U U U (sr U fun K1 hK1=>BH (m:=1) Ah U U U U U (zq tb U (dn hK1 U (AF fun K2 hK2=>sr U fun K3 hK3=>zm tb 5 U (A1 Ah IJ U U U U U U (show 0+1≤1 by decide) rfl (dn hK3 U (zr tb U U ?_)))))))
 refine ci h0 U ?_ ?_ <;> clear h0
 ·intro b5 h0
  refine zr tb U U ?_
  replace h0:=Sh.AB h0
  subst r
  exact AJ (xr (Af (L:=[(4,(.bool false))]) (st':=[⟨0,3,1,[[(KL s0_0)]]⟩]) [0] U (by decide) rfl U (.raw U U .nil) ⟨.rfl,trivial⟩))
 ·intro b5 h0
  refine AI (hK2 _ (AF fun K7 hK7=>sr U fun K8 hK8=>zm tb 2 U (zl tb U U (zq tb U (dn hK8 U ?_)))))
  obtain⟨o12,h1,h0⟩:=Sh.BF h0
  have M12 :∀(f11:Int),o12=Sum.inr f11→∀s,Wk 1 s ⟨28,AP [],[(OB f11)]⟩→K7 s:=by
   intro f11 hq s hw
   subst o12
   try dsimp only at h0
   refine hK7 _ (AR hw (zr tb U U ?_))
   replace h0:=Sh.AB h0
   subst r
   exact AJ (xr (AT (L:=[(4,(.bool true))]) (.same U)))
  refine AU (As (σ:=Int×Int) (fun n v=>CG p0 rec_impl_countNodes n v.1 v.2=some o12) (fun (t9,f10)=>⟨28,AP [(1,Ar),(17,(G8 p0)),(18,(IA p0)),(19,(i64 t9))],[(OB f10)]⟩) N (0,Sh.w (s0_0+1)) h1 (Af [0] U (by decide) rfl U (.raw U U .nil) (.same U)) (fun _ hv=>by rw[CG] at hv;cases hv) ?_)
  rintro n ⟨t9,f10⟩ h1
  try dsimp only at h1 ⊢
  rw[CG] at h1
  refine zr tb U U (AF fun K15 hK15=>?_)
  refine ci h1 U ?_ ?_ <;> clear h1
  ·intro b16 h1
   refine AI (hK15 _ (AF fun K17 hK17=>AU (sr U fun K18 hK18=>bs h1 fun c19 gc19 h1=>zz (EI c19) (BM Bc U U gc19 (Ax _) rfl) rfl (zq tb U (A0 (m:=1) Ah Fz U U (A1 Ah Bl U U U U U U (show 0+3≤3 by decide) rfl (dn hK18 U (sr U fun K20 hK20=>zm tb 2 U ?_))))))))
   refine bs h1 fun q21 gq21 h1=>?_
   refine OS (rows0:=[(OB f10)]) (rows1:=[(OB q21.2)]) (st':=[(OB q21.2),(VA c19.op c19.num c19.kids)]) (v':=(.bool q21.1)) [0] Ah ZR (hrec_impl_countNodes gq21) rfl (by decide) rfl U (.raw U U .nil) rfl U (.raw U U .nil) .nil U U ?_
   refine zq tb U (dn hK20 U ?_)
   refine ci h1 U ?_ ?_ <;> clear h1
   ·intro b22 h1
    have b23:q21.1=false:=by simpa using b22
    refine zr tb U U ?_
    replace h1:=Sh.AB h1
    subst o12
    try dsimp only[id] at h0
    replace h0:=Sh.AB h0
    subst r
    exact AJ (xr (Af (L:=[(4,(.bool false))]) (st':=[(OB q21.2)]) [0] U (by decide) rfl U (.raw U U .nil) ⟨.rfl,trivial⟩))
   ·intro b22 h1
    have b25:q21.1=true:=by simpa using b22
    refine AI (hK17 _ (AK U (zm tb 2 U ?_)))
    exact AA (xi (Sh.w (t9+1),q21.2) h1 (Af [0] U (by decide) rfl U (.raw U U .nil) (.same U)))
  ·intro b16 h1
   exact Aw (M12 f10 (Sh.AB h1).symm _ (AD U))

theorem Mf {N:Nat} :∀(n:Nat),∀{s0_0:Int} {p0:AG} {r:Bool×Int},Dc N n s0_0 p0=some r→Ag Tryz.prog 106 [(B5 p0),Ar] [(OB s0_0)] (fun v st=>v=(.bool r.1)∧st=[(OB r.2)]):=by
 intro n
 induction n with
 | zero=>intro s0_0 p0 r h0;cases h0
 | succ n ih=>
  intro s0_0 p0 r h0
  rw[Dc] at h0
  exact Mi (fun h=>ih h) h0
theorem N1 {N:Nat} :∀{s0_0:Int} {p0:AG} {r:Bool×Int},JD N s0_0 p0=some r→Ag Tryz.prog 106 [(B5 p0),Ar] [(OB s0_0)] (fun v st=>v=(.bool r.1)∧st=[(OB r.2)]):=by
 intro s0_0 p0 r h0
 exact Mf N h0
theorem LX {N:Nat} {p0:AG} {r:Int} (h0:Gw N p0=some r):Ag Tryz.prog 57 [(B5 p0)] [] (fun v st=>v=(i64 r)∧st=[]):=by
 unfold Gw at h0
 refine ai Tryz.func57 U U U U (sr U fun K1 hK1=>BH (m:=0) Ah U U U U U (zq tb U (dn hK1 U (sr U fun K2 hK2=>A0 (m:=1) Ah fr U U (A1 Ah IJ U U U U U U (show 0+1≤1 by decide) rfl (dn hK2 U (AF fun K3 hK3=>sr U fun K4 hK4=>zq tb U ?_)))))))
 refine bs h0 fun q5 gq5 h0=>?_
 refine OS (rows0:=[⟨0,3,1,[[(i64 0)]]⟩]) (rows1:=[(OB q5.2)]) (st':=[(VA p0.op p0.num p0.kids),(OB q5.2)]) (v':=(.bool q5.1)) [1] Ah ZR (N1 gq5) rfl (by decide) rfl U (.raw U U .nil) rfl U (.raw U U .nil) .nil U U ?_
 refine zq tb U (dn hK4 U ?_)
 refine ci h0 U ?_ ?_ <;> clear h0
 ·intro b6 h0
  have b7:q5.1=false:=by simpa using b6
  refine zr tb U U ?_
  replace h0:=Sh.AB h0
  subst r
  exact AJ (xr (An [(2,(i64 (-1)))] U))
 ·intro b6 h0
  have b9:q5.1=true:=by simpa using b6
  refine AI (hK3 _ (zr tb U U ?_))
  replace h0:=Sh.AB h0
  subst r
  exact AJ (xr (An [(2,(i64 q5.2))] U))
theorem MV {N:Nat} {p0:Aa} {r:A6} (h0:Is N p0=some r):Ag Tryz.prog 100 [(HM p0)] [] (fun v st=>v=(Fg r)∧st=[]):=by
 unfold Is at h0
 refine DX U (ai Tryz.func100 U U U U (sr U fun K1 hK1=>BH (m:=0) Ah U U U U U (A0 (m:=1) Ah X3 U U (dn hK1 U (sr U fun K2 hK2=>zm tb 2 U (zz (.agg [(ls Ai p0.decls),.zc]) (FG dN dK X3 U U) rfl (A0 (m:=2) Ah X3 U U (A1 Ah Xc U U U U U U (show 0+2≤2 by decide) rfl (dn hK2 U ?_)))))))))
 refine AF fun K3 hK3=>sr U fun K4 hK4=>zm tb 2 U (zl tb U U (zq tb U (dn hK4 U (bs h0 fun o8 h1 h0=>?_))))
 have M8 :∀(l7:(List BX)),o8=l7→∀s,Wk 0 s ⟨28,AP [(2,Ar),(3,Ay)],[Xk,⟨0,119,2,[[(ls Ai p0.decls),(ow 2 0 l7)]]⟩,(ro 0 116 3 C0 l7)]⟩→K3 s:=by
  intro l7 hq s hw
  subst o8
  try dsimp only at h0
  refine hK3 _ (AR hw (sr U fun K9 hK9=>zq tb U (Ak (Wk.Er (L:=[(2,Ar),(27,(.agg [(ls Ai p0.decls),(TI l7)]))]) (st':=[Xk,⟨0,119,2,[[(ls Ai p0.decls),(ow 2 0 l7)]]⟩,⟨1,116,3,[]⟩]) (id:=2) rfl (show 0≤2 by decide) (AN fun _=>U) ⟨.rfl,(.agg ⟨.rfl,(.Iu U),trivial⟩),trivial⟩ U) (A1 Ah Xc U U U U U U (show 0+2≤2 by decide) rfl (dn hK9 U ?_)))))
  replace h0:=Sh.AB h0
  subst r
  exact AJ (Exists.intro _ (And.intro (FC _ _) (BE (x:=.tmp 2) (off:=0) (cs:=[(ls Ai p0.decls),(TI l7)]) (vs:=[(ls Ai p0.decls),(TI l7)]) Xc U U U (show 0+2≤2 by decide) rfl _ U)))
 refine AU (As (σ:=Int×(List BX)) (fun n v=>D5 p0 n v.1 v.2=some o8) (fun (t5,l6)=>⟨28,AP [(2,Ar),(3,Ay),(10,(IQ p0)),(11,(i64 (Sh.len p0.funcs))),(12,(i64 t5))],[Xk,⟨0,119,2,[[(ls Ai p0.decls),(ow 2 0 l6)]]⟩,(ro 0 116 3 C0 l6)]⟩) N (0,[]) h1 (by refine Wk.trans (Fq (id:=2) (st':=[(LF p0.decls p0.funcs),Xk,⟨0,119,2,[[(ls Ai p0.decls),(.own 3 0 (List.length ([]:List BX)))]]⟩,bG]) (j:=1) rfl U 116 (size':=3) (by decide) rfl U U U) ?_;exact A4 (L:=[(2,Ar),(3,Ay),(10,(IQ p0)),(11,(i64 (Sh.len p0.funcs))),(12,(i64 0))]) (st':=[Xk,⟨0,119,2,[[(ls Ai p0.decls),(.own 2 0 (List.length ([]:List BX)))]]⟩,bG]) (st1:=[Xk,⟨0,119,2,[[(ls Ai p0.decls),(.own 3 0 (List.length ([]:List BX)))]]⟩,bG]) [1,2,3] U .nil (by decide) rfl U (.raw U U (.raw U U (.pure (AN fun _=>U) .nil))) (.same U)) (fun _ hv=>by rw[D5] at hv;cases hv) ?_)
 rintro n ⟨t5,l6⟩ h1
 try dsimp only at h1 ⊢
 rw[D5] at h1
 refine zr tb U U (AF fun K11 hK11=>?_)
 refine ci h1 U ?_ ?_ <;> clear h1
 ·intro b12 h1
  refine AI (hK11 _ (AF fun K13 hK13=>AU (sr U fun K14 hK14=>bs h1 fun c15 gc15 h1=>zx CR gc15 U U U (zq tb U (A0 (m:=3) Ah Mx U U (A1 Ah Pt U U U U U U (show 0+5≤5 by decide) rfl (dn hK14 U (AK U (zm tb 6 U ?_)))))))))
  refine zz (.agg [(ls eI c15.params),.zc,(i64 c15.result)]) (FG aQ aO Ww U U) rfl (Ak (AT (L:=[(2,Ar),(3,Ay),(10,(IQ p0)),(11,(i64 (Sh.len p0.funcs))),(12,(i64 t5)),(17,(ow 2 0 l6)),(22,(.agg [(ls eI c15.params),Wd,(i64 c15.result)]))]) ⟨.rfl,.rfl,.rfl,.rfl,.rfl,.rfl,(.agg ⟨.rfl,.zc,.rfl,trivial⟩),trivial⟩) ?_)
  refine Cb (m:=4) (l:=([(BX.mk c15.params [] c15.result)])) (enc:=C0) Ah LL (by decide) rfl U U U U U ?_
  refine bs h1 fun l16 gl16 h1=>Fb (l2:=([(BX.mk c15.params [] c15.result)])) Ah LL U U U U (Jc U U) (fun _=>U) gl16 U (zq tb U (A1 Ah dg U U U U U U (show 1+1≤2 by decide) rfl (dn hK13 U (AK U (zm tb 2 U ?_)))))
  exact AA (xi (Sh.w (t5+1),l16) h1 (by refine Wk.trans (Dx (L:=[(2,Ar),(3,Ay),(10,(IQ p0)),(11,(i64 (Sh.len p0.funcs))),(12,(KL t5))]) (st':=[Xk,⟨0,119,2,[[(ls Ai p0.decls),(ow 2 0 l16)]]⟩,(ro 0 116 3 C0 l16),⟨0,48,5,[(Sp c15)]⟩,(ro 0 116 3 C0 ([(BX.mk c15.params [] c15.result)]))]) (.raw U U (.raw U U (.pure (AN fun _=>U) (.raw U U (.pure (AN fun _=>U) .nil))))) (.same U)) ?_;exact Af [0,1,2] U (by decide) rfl U (.raw U U (.raw U U (.pure (AN fun _=>U) .nil))) (.same U)))
 ·intro b12 h1
  exact Aw (M8 l6 (Sh.AB h1).symm _ (AD U))
theorem B0 {p0:(List Int)} {r:(List Int)} (h0:Bh p0=some r):Ag Tryz.prog 102 [(ls eI p0)] [] (fun v st=>v=(ow 0 0 r)∧st=[(BL r)]):=by
 unfold Bh at h0
 refine ai Tryz.func102 U U U U (zr tb U U (AF fun K2 hK2=>sr U fun K3 hK3=>zq tb U ?_))
 refine R0 Ah Ff U (fun hn=>?_) ?_
 ·subst hn
  replace h0:some []=some r:=by rw[← h0];first | rfl | simp[Sh.app]
  refine dn hK3 U (E6 (b:=true) rfl (fun _=>zr tb U U ?_) (fun q=>nomatch (show true=false from (U:true=true).symm.trans q)))
  replace h0:=Sh.AB h0
  subst r
  exact AJ (Exists.intro _ (And.intro (((HE (t:=2) rfl 3 (size:=1) (by decide)).trans (AT (L:=[(2,XV)]) (.same U))).trans (AT (L:=[(2,XV)]) (.same U))) (And.intro U U)))
 ·refine dn hK3 U (E6 (b:=false) rfl (fun q=>nomatch (show false=true from (U:false=false).symm.trans q)) (fun _=>AI (hK2 _ (sr U fun K5 hK5=>?_))))
  refine Cb (m:=0) (l:=([]:List Int)) (enc:=eI) Ah Bm (by decide) rfl U U U U U ?_
  refine zq tb U (bs h0 fun l6 gl6 h0=>Fb (l2:=p0) Ah Bm U U U U NN (fun _=>U) gl6 U (zq tb U (dn hK5 U ?_)))
  replace h0:=Sh.AB h0
  subst r
  exact AJ (xr (Dx (L:=[(2,(ow 0 0 l6))]) (st':=[(BL l6)]) (.pure (AN fun _=>U) .nil) (.same U)))
theorem Ld {p1:Int} {r:(List Int)} (h0:E4 p1=some r):Ag Tryz.prog 141 [.zc,(i64 p1)] [] (fun v st=>v=(ow 0 0 r)∧st=[(BL r)]):=by
 unfold E4 at h0
 refine ai Tryz.func141 U U U U (zr tb U U (AF fun K2 hK2=>zr tb U U ?_))
 refine ci h0 U ?_ ?_ <;> clear h0
 ·intro b4 h0
  refine AK U ?_
  cases h0
 ·intro b4 h0
  refine AI (hK2 _ (AF fun K5 hK5=>bs h0 fun o7 h1 h0=>?_))
  have M7 :∀(l6:(List Int)),o7=l6→∀s,Wk 0 s ⟨27,AP [(0,(ow 0 0 l6))],[(BL l6)]⟩→K5 s:=by
   intro l6 hq s hw
   subst o7
   try dsimp only at h0
   refine hK5 _ (AR hw (zr tb U U ?_))
   replace h0:=Sh.AB h0
   subst r
   exact AJ (xr (AT (L:=[(4,(ow 0 0 l6))]) (.same U)))
  refine sr U fun K9 hK9=>zm tb 2 U (Vu Ff U (zq tb U (zz (i64 0) (V9 Ff U) rfl (zm tb 3 U (dn hK9 U (zr tb U U ?_))))))
  refine ci h1 U ?_ ?_ <;> clear h1
  ·intro b11 h1
   refine AK U (zm tb 2 U (Vu Ff U (br Bm U U (zq tb U (bs h1 fun l12 gl12 h1=>Z0 (u:=0) (enc:=eI) (m:=0) (st':=[(BL l12)]) Bm gG U U b11 U gl12 U U (zq tb U (zz (i64 0) (V9 Ff U) rfl (bs h1 fun l13 gl13 h1=>bJ Ah Bm U U U U gl13 U (zq tb U ?_)))))))))
   exact AA (M7 l13 (Sh.AB h1).symm _ (Dx (L:=[(0,(ow 0 0 l13))]) (st':=[(BL l13)]) (.pure (AN fun _=>U) .nil) (.same U)))
  ·intro b11 h1
   exact AI (M7 [] (Sh.AB h1).symm _ ((HE (t:=0) rfl 3 (size:=1) (by decide)).trans (AT (L:=[(0,XV)]) (.same U))))
theorem Eo {N:Nat} {p0:(List (List Int))} {r:(List Int)} (h0:Eb N p0=some r):Ag Tryz.prog 137 [(Fh p0)] [] (fun v st=>v=(ow 0 0 r)∧st=[(BL r)]):=by
 unfold Eb at h0
 refine ai Tryz.func137 U U U U ?_
 iterate 2 refine zr tb rfl rfl ?_
 refine AF fun K3 hK3=>sr U fun K4 hK4=>zq tb U (zl tb U U (zq tb U (dn hK4 U (bs h0 fun o8 h1 h0=>?_))))
 have M8 :∀(size7:Int),o8=size7→∀s,Wk 0 s ⟨36,AP [(0,(Fh p0)),(3,(i64 size7))],[]⟩→K3 s:=by
  intro size7 hq s hw
  subst o8
  try dsimp only at h0
  refine hK3 _ (AR hw (sr U fun K9 hK9=>zq tb U (bs h0 fun q10 gq10 h0=>BY (v':=(ow 0 0 q10)) Ah dQ (Ld gq10) rfl U ⟨(B2 fun _=>U),trivial⟩ U U (zq tb U (dn hK9 U (AF fun K11 hK11=>sr U fun K12 hK12=>zq tb U (zl tb U U (zq tb U ?_))))))))
  refine dn hK12 U (bs h0 fun o16 h1 h0=>?_)
  have M16 :∀(l15:(List Int)),o16=l15→∀s,Wk 0 s ⟨36,AP [(6,(ow 0 0 l15))],[(BL l15)]⟩→K11 s:=by
   intro l15 hq s hw
   subst o16
   try dsimp only at h0
   refine hK11 _ (AR hw (zr tb U U ?_))
   replace h0:=Sh.AB h0
   subst r
   exact AJ (xr (AT (L:=[(2,(ow 0 0 l15))]) (.same U)))
  refine AU (As (σ:=Int×(List Int)) (fun n v=>Bq p0 n v.1 v.2=some o16) (fun (t13,l14)=>⟨36,AP [(6,(ow 0 0 l14)),(25,(Fh p0)),(26,(Bp p0)),(27,(i64 t13))],[(BL l14)]⟩) N (0,q10) h1 (AD U) (fun _ hv=>by rw[Bq] at hv;cases hv) ?_)
  rintro n ⟨t13,l14⟩ h1
  try dsimp only at h1 ⊢
  rw[Bq] at h1
  refine zr tb U U (AF fun K19 hK19=>?_)
  refine ci h1 U ?_ ?_ <;> clear h1
  ·intro b20 h1
   refine AI (hK19 _ (AF fun K21 hK21=>AU (sr U fun K22 hK22=>bs h1 fun c23 gc23 h1=>zx JA gc23 U U U (zm tb 2 U (dn hK22 U (AK U (zm tb 2 U (bs h1 fun l24 gl24 h1=>Fb (l2:=c23) Ah Bm U U U U NN (fun _=>U) gl24 U ?_))))))))
   exact zq tb U (dn hK21 U (AK U (zm tb 2 U (AA (xi (Sh.w (t13+1),l24) h1 (Dx (L:=[(6,(ow 0 0 l24)),(25,(Fh p0)),(26,(Bp p0)),(27,(KL t13))]) (st':=[(BL l24)]) (.pure (AN fun _=>U) .nil) (.same U)))))))
  ·intro b20 h1
   exact Aw (M16 l14 (Sh.AB h1).symm _ (AD U))
 refine AU (As (σ:=Int×Int) (fun n v=>Bo p0 n v.1 v.2=some o8) (fun (size5,t6)=>⟨36,AP [(0,(Fh p0)),(3,(i64 size5)),(9,(Fh p0)),(10,(Bp p0)),(11,(i64 t6))],[]⟩) N (0,0) h1 (AD U) (fun _ hv=>by rw[Bo] at hv;cases hv) ?_)
 rintro n ⟨size5,t6⟩ h1
 try dsimp only at h1 ⊢
 rw[Bo] at h1
 refine zr tb U U (AF fun K26 hK26=>?_)
 refine ci h1 U ?_ ?_ <;> clear h1
 ·intro b27 h1
  refine AI (hK26 _ (AF fun K28 hK28=>AU (sr U fun K29 hK29=>bs h1 fun c30 gc30 h1=>zx JA gc30 U U U (zm tb 2 U (dn hK29 U (sr U fun K31 hK31=>zm tb 2 U (zl tb U U (zm tb 2 U ?_))))))))
  refine dn hK31 U (zr tb U U ?_)
  refine ci h1 U ?_ ?_ <;> clear h1
  ·intro b33 h1
   refine AK U ?_
   cases h1
  ·intro b33 h1
   exact AI (hK28 _ (AK U (zm tb 2 U (AA (xi (Sh.w (size5+(Sh.len c30)),Sh.w (t6+1)) h1 (AD U))))))
 ·intro b27 h1
  exact Aw (M8 size5 (Sh.AB h1).symm _ (AD U))
theorem G3 {N:Nat} {rec_impl_signatures_typeOf:(List Int)→A6→AG→Option (Int)} (hrec_impl_signatures_typeOf :∀{s0:(List Int)} {p0:A6} {p2:AG} {r:Int},rec_impl_signatures_typeOf s0 p0 p2=some r→Ag Tryz.prog 101 [(Fg p0),(ow 0 0 s0),(B5 p2)] [(BL s0)] (fun v st=>v=(i64 r)∧st=[(BL s0)])) {p0:A6} {p1:(List Int)} {p2:(List AG)} {p3:(List (List Int))} {r:Int} (h0:C8 N rec_impl_signatures_typeOf p0 p1 p2 p3=some r):Ag Tryz.prog 127 [(Fg p0),(ls eI p1),(C4 p2),(Fh p3)] [] (fun v st=>v=(i64 r)∧st=[]):=by
 unfold C8 at h0
 refine ai Tryz.func127 U U U U (sr U fun K1 hK1=>BH (m:=0) Ah U U U U U (zq tb U (dn hK1 U (zr tb U U (AF fun K3 hK3=>sr U fun K4 hK4=>zq tb U (zl tb U U (zq tb U (dn hK4 U ?_))))))))
 obtain⟨o8,h1,h0⟩:=Sh.BF h0
 have M8 :∀(result7:Int),o8=Sum.inr result7→∀s,Wk 0 s ⟨44,AP [(9,(i64 result7))],[]⟩→K3 s:=by
  intro result7 hq s hw
  subst o8
  try dsimp only at h0
  refine hK3 _ (AR hw (zr tb U U ?_))
  replace h0:=Sh.AB h0
  subst r
  exact AJ (xr (AT (L:=[(8,(i64 result7))]) (.same U)))
 refine AU (As (σ:=Int×Int) (fun n v=>BI N p0 p1 p2 p3 rec_impl_signatures_typeOf n v.1 v.2=some o8) (fun (result5,t6)=>⟨44,AP [(1,(ls eI p1)),(3,(Fh p3)),(4,Ar),(9,(i64 result5)),(13,(C4 p2)),(14,(Bp p2)),(15,(i64 t6))],[(D9 p0)]⟩) N (-1,0) h1 (AD U) (fun _ hv=>by rw[BI] at hv;cases hv) ?_)
 rintro n ⟨result5,t6⟩ h1
 try dsimp only at h1 ⊢
 rw[BI] at h1
 refine zr tb U U (AF fun K11 hK11=>?_)
 refine ci h1 U ?_ ?_ <;> clear h1
 ·intro b12 h1
  refine AI (hK11 _ (AF fun K13 hK13=>AU (sr U fun K14 hK14=>zq tb U (bs h1 fun c15 gc15 h1=>zz (EI c15) (BM Bc U U gc15 (Ax _) rfl) rfl (zq tb U (A0 (m:=1) Ah Fz U U (zq tb U (A1 Ah Bl U U U U U U (show 0+3≤3 by decide) rfl (dn hK14 U ?_)))))))))
  refine AF fun K16 hK16=>?_
  refine HK (by kernel_rfl) ?_
  refine bs h1 fun c17 gc17 h1=>bs h1 fun q18 gq18 h1=>bs h1 fun q19 gq19 h1=>JP fun A20 hA20=>?_
  have A20_0123456789a:A20 0 (bm 11 2047) ⟨44,AP [(1,(ls eI p1)),(3,(Fh p3)),(4,Ar),(9,(i64 result5)),(10,(i64 t6)),(12,(i64 q19)),(13,(C4 p2)),(14,(Bp p2)),(15,(i64 t6))],[(D9 p0)]⟩:=(hA20 _ _ _).2 (by
   refine GZ U (by kernel_rfl) ?_
   refine hK16 _ (AF fun K21 hK21=>AF fun K22 hK22=>bs h1 fun o24 h2 h1=>?_)
   have M24 :∀(t23:Bool),o24=t23→∀s,Wk 0 s ⟨44,AP [(1,(ls eI p1)),(3,(Fh p3)),(4,Ar),(12,(i64 q19)),(13,(C4 p2)),(14,(Bp p2)),(15,(i64 t6)),(40,(.bool t23))],[(D9 p0)]⟩→K22 s:=by
    intro t23 hq s hw
    subst o24
    try dsimp only at h1
    refine hK22 _ (AR hw ?_)
    refine ci h1 U ?_ ?_ <;> clear h1
    ·intro b25 h1
     refine zr tb U U ?_
     replace h1:=Sh.AB h1
     subst o8
     try dsimp only[id] at h0
     replace h0:=Sh.AB h0
     subst r
     exact AJ (xr (An [(8,(i64 (-1)))] U))
    ·intro b25 h1
     exact AI (hK21 _ (AK U (zm tb 2 U (dn hK13 U (AK U (zm tb 2 U (AA (xi (q19,Sh.w (t6+1)) h1 (AD U)))))))))
   refine AK U (zm tb 3 U ?_)
   rcases Sh.Au h2 with ⟨b27,h2⟩ | ⟨b27,h2⟩
   ·refine zs b27 U (zs b27 U (zs b27 U ?_))
    iterate 3 refine zn rfl ?_
    exact zs b27 U (zt b27 U (AA (M24 true (Sh.AB h2).symm _ (AD U))))
   ·refine zg tb b27 U (zg tb b27 U (zg tb b27 U ?_))
    rcases Sh.Au h2 with ⟨b28,h2⟩ | ⟨b28,h2⟩
    ·exact zg tb b28 U (zg tb b28 U (zg tb b28 U (BP (v:=(.bool (!decide (q19=result5)))) (DF U U b27) rfl (L6 U b28 U) (zf b27 U (AA (M24 (!decide (q19=result5)) (Sh.AB h2).symm _ (AD U)))))))
    ·exact zs b28 U (zs b28 U (zs b28 U (BP (v:=(.bool false)) (DF U U b27) rfl (Nq U b28 U) (zf b27 U (AA (M24 false (Sh.AB h2).symm _ (AT (L:=[(1,(ls eI p1)),(3,(Fh p3)),(4,Ar),(12,(i64 q19)),(13,(C4 p2)),(14,(Bp p2)),(15,(i64 t6)),(40,(.bool false))]) (.same U)))))))))
  have A20_0123456789:A20 1 (bm 11 1023) ⟨44,AP [(1,(ls eI p1)),(3,(Fh p3)),(4,Ar),(9,(i64 result5)),(10,(i64 t6)),(13,(C4 p2)),(14,(Bp p2)),(15,(i64 t6)),(29,(i64 q19))],[(D9 p0)]⟩:=(hA20 _ _ _).2 (by
   refine Bt 10 (v:=(i64 q19)) rfl U (by kernel_rfl) (by kernel_rfl) (by kernel_rfl) rfl (LQ U) ?_
   exact AE (by exact AD U) (AH (by kernel_rfl) ((hA20 _ _ _).1 A20_0123456789a)) rfl)
  have A20_012345678:A20 2 (bm 11 511) ⟨44,AP [(1,(ls eI p1)),(3,(Fh p3)),(4,Ar),(9,(i64 result5)),(10,(i64 t6)),(13,(C4 p2)),(14,(Bp p2)),(15,(i64 t6)),(20,(Fg p0)),(27,(ow 1 0 q18)),(28,(B5 c15))],[(D9 p0),(BL q18)]⟩:=(hA20 _ _ _).2 (by
   refine Ae [9] U (by kernel_rfl) (by decide) ⟨?_,trivial⟩
   ·refine Az.of (i:=9) rfl U (by rfl) ?_
    refine OS (rows0:=[(BL q18)]) (rows1:=[(BL q18)]) (st':=[(D9 p0),(BL q18)]) (v':=(i64 q19)) [1] Ah Nc (hrec_impl_signatures_typeOf gq19) rfl (by decide) rfl U (.pure (AN fun _=>U) .nil) rfl U (.pure (AN fun _=>U) .nil) .nil U U ?_
    refine AA ⟨U,?_⟩
    exact AE (by exact Af [0] U (by decide) rfl U (.raw U U .nil) (.same U)) (AH (by kernel_rfl) ((hA20 _ _ _).1 A20_0123456789)) rfl)
  have A20_01234567:A20 3 (bm 11 255) ⟨44,AP [(1,(ls eI p1)),(3,(Fh p3)),(4,Ar),(9,(i64 result5)),(10,(i64 t6)),(11,Ay),(13,(C4 p2)),(14,(Bp p2)),(15,(i64 t6)),(20,(Fg p0)),(27,(ow 2 0 q18))],[(D9 p0),(VA c15.op c15.num c15.kids),(BL q18)]⟩:=(hA20 _ _ _).2 (by
   refine Ae [8] U (by kernel_rfl) (by decide) ⟨?_,trivial⟩
   ·refine Az.of (i:=8) rfl U (by rfl) ?_
    refine zq tb U (AA ⟨U,?_⟩)
    exact AE (by exact Af [0,2] U (by decide) rfl U (.raw U U (.pure (AN fun _=>U) .nil)) (.same U)) (AH (by kernel_rfl) ((hA20 _ _ _).1 A20_012345678)) rfl)
  have A20_01234568:A20 3 (bm 11 383) ⟨44,AP [(1,(ls eI p1)),(3,(Fh p3)),(4,Ar),(9,(i64 result5)),(10,(i64 t6)),(13,(C4 p2)),(14,(Bp p2)),(15,(i64 t6)),(20,(Fg p0)),(26,(ow 1 0 [p1,c17])),(28,(B5 c15))],[(D9 p0),(ro 0 46 1 (eS eI) [p1,c17])]⟩:=(hA20 _ _ _).2 (by
   refine Ae [7] U (by kernel_rfl) (by decide) ⟨?_,trivial⟩
   ·refine Az.of (i:=7) rfl U (by rfl) ?_
    refine Ak (Wk.Er (L:=[(1,(ls eI p1)),(3,(Fh p3)),(4,Ar),(9,(i64 result5)),(10,(i64 t6)),(13,(C4 p2)),(14,(Bp p2)),(15,(i64 t6)),(20,(Fg p0)),(26,(ls (eS eI) [p1,c17])),(28,(B5 c15))]) (st':=[(D9 p0),⟨1,46,1,[]⟩]) (id:=1) rfl (show 0≤1 by decide) (AN fun _=>U) ⟨.rfl,.rfl,.rfl,.rfl,.rfl,.rfl,.rfl,.rfl,.rfl,(.Er U),.rfl,trivial⟩ U) (BY (v':=(ow 2 0 q18)) Ah VT (Eo gq18) rfl U ⟨(B2 fun _=>U),trivial⟩ U U (AA ⟨U,?_⟩))
    exact AE (by exact Af [0,2] U (by decide) rfl U (.raw U U (.pure (AN fun _=>U) .nil)) (.same U)) (AH (by kernel_rfl) ((hA20 _ _ _).1 A20_012345678)) rfl)
  have A20_0123456:A20 4 (bm 11 127) ⟨44,AP [(1,(ls eI p1)),(3,(Fh p3)),(4,Ar),(9,(i64 result5)),(10,(i64 t6)),(11,Ay),(13,(C4 p2)),(14,(Bp p2)),(15,(i64 t6)),(20,(Fg p0)),(26,(ow 2 0 [p1,c17]))],[(D9 p0),(VA c15.op c15.num c15.kids),(ro 0 46 1 (eS eI) [p1,c17])]⟩:=(hA20 _ _ _).2 (by
   refine Ae [7,8] U (by kernel_rfl) (by decide) ⟨?_,?_,trivial⟩
   ·refine Az.of (i:=7) rfl U (by rfl) ?_
    refine Ak (Wk.Er (L:=[(1,(ls eI p1)),(3,(Fh p3)),(4,Ar),(9,(i64 result5)),(10,(i64 t6)),(11,Ay),(13,(C4 p2)),(14,(Bp p2)),(15,(i64 t6)),(20,(Fg p0)),(26,(ls (eS eI) [p1,c17]))]) (st':=[(D9 p0),(VA c15.op c15.num c15.kids),⟨1,46,1,[]⟩]) (id:=2) rfl (show 0≤2 by decide) (AN fun _=>U) ⟨.rfl,.rfl,.rfl,.rfl,.rfl,.rfl,.rfl,.rfl,.rfl,.rfl,(.Er U),trivial⟩ U) (BY (v':=(ow 3 0 q18)) Ah VT (Eo gq18) rfl U ⟨(B2 fun _=>U),trivial⟩ U U (AA ⟨U,?_⟩))
    exact AE (by exact Af [0,1,3] U (by decide) rfl U (.raw U U (.raw U U (.pure (AN fun _=>U) .nil))) (.same U)) (AH (by kernel_rfl) ((hA20 _ _ _).1 A20_01234567)) rfl
   ·refine Az.of (i:=8) rfl U (by rfl) ?_
    refine zq tb U (AA ⟨U,?_⟩)
    exact AE (by exact Af [0,2] U (by decide) rfl U (.raw U U (.pure (AN fun _=>U) .nil)) (.same U)) (AH (by kernel_rfl) ((hA20 _ _ _).1 A20_01234568)) rfl)
  have A20_0123458:A20 4 (bm 11 319) ⟨44,AP [(1,(ls eI p1)),(3,(Fh p3)),(4,Ar),(9,(i64 result5)),(10,(i64 t6)),(13,(C4 p2)),(14,(Bp p2)),(15,(i64 t6)),(20,(Fg p0)),(21,(ls eI p1)),(25,(ls eI c17)),(28,(B5 c15))],[(D9 p0)]⟩:=(hA20 _ _ _).2 (by
   refine Ae [6] U (by kernel_rfl) (by decide) ⟨?_,trivial⟩
   ·refine Az.of (i:=6) rfl U (by rfl) ?_
    refine Cb (m:=1) (l:=[p1,c17]) (enc:=(eS eI)) Ah JA (by decide) rfl U U U U U ?_
    refine AA ⟨U,?_⟩
    exact AE (by exact AD U) (AH (by kernel_rfl) ((hA20 _ _ _).1 A20_01234568)) rfl)
  have A20_012345:A20 5 (bm 11 63) ⟨44,AP [(1,(ls eI p1)),(3,(Fh p3)),(4,Ar),(9,(i64 result5)),(10,(i64 t6)),(11,Ay),(13,(C4 p2)),(14,(Bp p2)),(15,(i64 t6)),(20,(Fg p0)),(21,(ls eI p1)),(25,(ls eI c17))],(Vb p0 c15)⟩:=(hA20 _ _ _).2 (by
   refine Ae [6,8] U (by kernel_rfl) (by decide) ⟨?_,?_,trivial⟩
   ·refine Az.of (i:=6) rfl U (by rfl) ?_
    refine Cb (m:=2) (l:=[p1,c17]) (enc:=(eS eI)) Ah JA (by decide) rfl U U U U U ?_
    refine AA ⟨U,?_⟩
    exact AE (by exact AD U) (AH (by kernel_rfl) ((hA20 _ _ _).1 A20_0123456)) rfl
   ·refine Az.of (i:=8) rfl U (by rfl) ?_
    refine zq tb U (AA ⟨U,?_⟩)
    exact AE (by exact Af [0] U (by decide) rfl U (.raw U U .nil) (.same U)) (AH (by kernel_rfl) ((hA20 _ _ _).1 A20_0123458)) rfl)
  have A20_012348:A20 5 (bm 11 287) ⟨44,AP [(1,(ls eI p1)),(3,(Fh p3)),(4,Ar),(9,(i64 result5)),(10,(i64 t6)),(13,(C4 p2)),(14,(Bp p2)),(15,(i64 t6)),(20,(Fg p0)),(21,(ls eI p1)),(24,(.Bu ((eS eI) c17) 0)),(28,(B5 c15))],[(D9 p0)]⟩:=(hA20 _ _ _).2 (by
   refine Ae [5] U (by kernel_rfl) (by decide) ⟨?_,trivial⟩
   ·refine Az.of (i:=5) rfl U (by rfl) ?_
    refine zq tb U (AA ⟨U,?_⟩)
    exact AE (by exact AD U) (AH (by kernel_rfl) ((hA20 _ _ _).1 A20_0123458)) rfl)
  have A20_01234:A20 6 (bm 11 31) ⟨44,AP [(1,(ls eI p1)),(3,(Fh p3)),(4,Ar),(9,(i64 result5)),(10,(i64 t6)),(11,Ay),(13,(C4 p2)),(14,(Bp p2)),(15,(i64 t6)),(20,(Fg p0)),(21,(ls eI p1)),(24,(.Bu ((eS eI) c17) 0))],(Vb p0 c15)⟩:=(hA20 _ _ _).2 (by
   refine Ae [5,8] U (by kernel_rfl) (by decide) ⟨?_,?_,trivial⟩
   ·refine Az.of (i:=5) rfl U (by rfl) ?_
    refine zq tb U (AA ⟨U,?_⟩)
    exact AE (by exact AD U) (AH (by kernel_rfl) ((hA20 _ _ _).1 A20_012345)) rfl
   ·refine Az.of (i:=8) rfl U (by rfl) ?_
    refine zq tb U (AA ⟨U,?_⟩)
    exact AE (by exact Af [0] U (by decide) rfl U (.raw U U .nil) (.same U)) (AH (by kernel_rfl) ((hA20 _ _ _).1 A20_012348)) rfl)
  have A20_01238:A20 6 (bm 11 271) ⟨44,AP [(1,(ls eI p1)),(3,(Fh p3)),(4,Ar),(9,(i64 result5)),(10,(i64 t6)),(13,(C4 p2)),(14,(Bp p2)),(15,(i64 t6)),(20,(Fg p0)),(21,(ls eI p1)),(22,(Fh p3)),(23,(i64 t6)),(28,(B5 c15))],[(D9 p0)]⟩:=(hA20 _ _ _).2 (by
   refine Ae [4] U (by kernel_rfl) (by decide) ⟨?_,trivial⟩
   ·refine Az.of (i:=4) rfl U (by rfl) ?_
    refine zx JA gc17 U U U (AA ⟨U,?_⟩)
    exact AE (by exact AD U) (AH (by kernel_rfl) ((hA20 _ _ _).1 A20_012348)) rfl)
  have A20_0123:A20 7 (bm 11 15) ⟨44,AP [(1,(ls eI p1)),(3,(Fh p3)),(4,Ar),(9,(i64 result5)),(10,(i64 t6)),(11,Ay),(13,(C4 p2)),(14,(Bp p2)),(15,(i64 t6)),(20,(Fg p0)),(21,(ls eI p1)),(22,(Fh p3)),(23,(i64 t6))],(Vb p0 c15)⟩:=(hA20 _ _ _).2 (by
   refine Ae [4,8] U (by kernel_rfl) (by decide) ⟨?_,?_,trivial⟩
   ·refine Az.of (i:=4) rfl U (by rfl) ?_
    refine zx JA gc17 U U U (AA ⟨U,?_⟩)
    exact AE (by exact AD U) (AH (by kernel_rfl) ((hA20 _ _ _).1 A20_01234)) rfl
   ·refine Az.of (i:=8) rfl U (by rfl) ?_
    refine zq tb U (AA ⟨U,?_⟩)
    exact AE (by exact Af [0] U (by decide) rfl U (.raw U U .nil) (.same U)) (AH (by kernel_rfl) ((hA20 _ _ _).1 A20_01238)) rfl)
  have A20_12345678:A20 3 (bm 11 510) ⟨44,AP [(1,(ls eI p1)),(3,(Fh p3)),(4,Ar),(9,(i64 result5)),(10,(i64 t6)),(13,(C4 p2)),(14,(Bp p2)),(15,(i64 t6)),(27,(ow 1 0 q18)),(28,(B5 c15))],[(D9 p0),(BL q18)]⟩:=(hA20 _ _ _).2 (by
   refine Ae [0] U (by kernel_rfl) (by decide) ⟨?_,trivial⟩
   ·refine Az.of (i:=0) rfl U (by rfl) ?_
    refine zq tb U (AA ⟨U,?_⟩)
    exact AE (by exact AD U) (AH (by kernel_rfl) ((hA20 _ _ _).1 A20_012345678)) rfl)
  have A20_1234567:A20 4 (bm 11 254) ⟨44,AP [(1,(ls eI p1)),(3,(Fh p3)),(4,Ar),(9,(i64 result5)),(10,(i64 t6)),(11,Ay),(13,(C4 p2)),(14,(Bp p2)),(15,(i64 t6)),(27,(ow 2 0 q18))],[(D9 p0),(VA c15.op c15.num c15.kids),(BL q18)]⟩:=(hA20 _ _ _).2 (by
   refine Ae [0,8] U (by kernel_rfl) (by decide) ⟨?_,?_,trivial⟩
   ·refine Az.of (i:=0) rfl U (by rfl) ?_
    refine zq tb U (AA ⟨U,?_⟩)
    exact AE (by exact AD U) (AH (by kernel_rfl) ((hA20 _ _ _).1 A20_01234567)) rfl
   ·refine Az.of (i:=8) rfl U (by rfl) ?_
    refine zq tb U (AA ⟨U,?_⟩)
    exact AE (by exact Af [0,2] U (by decide) rfl U (.raw U U (.pure (AN fun _=>U) .nil)) (.same U)) (AH (by kernel_rfl) ((hA20 _ _ _).1 A20_12345678)) rfl)
  have A20_1234568:A20 4 (bm 11 382) ⟨44,AP [(1,(ls eI p1)),(3,(Fh p3)),(4,Ar),(9,(i64 result5)),(10,(i64 t6)),(13,(C4 p2)),(14,(Bp p2)),(15,(i64 t6)),(26,(ow 1 0 [p1,c17])),(28,(B5 c15))],[(D9 p0),(ro 0 46 1 (eS eI) [p1,c17])]⟩:=(hA20 _ _ _).2 (by
   refine Ae [0,7] U (by kernel_rfl) (by decide) ⟨?_,?_,trivial⟩
   ·refine Az.of (i:=0) rfl U (by rfl) ?_
    refine zq tb U (AA ⟨U,?_⟩)
    exact AE (by exact AD U) (AH (by kernel_rfl) ((hA20 _ _ _).1 A20_01234568)) rfl
   ·refine Az.of (i:=7) rfl U (by rfl) ?_
    refine Ak (Wk.Er (L:=[(1,(ls eI p1)),(3,(Fh p3)),(4,Ar),(9,(i64 result5)),(10,(i64 t6)),(13,(C4 p2)),(14,(Bp p2)),(15,(i64 t6)),(26,(ls (eS eI) [p1,c17])),(28,(B5 c15))]) (st':=[(D9 p0),⟨1,46,1,[]⟩]) (id:=1) rfl (show 0≤1 by decide) (AN fun _=>U) ⟨.rfl,.rfl,.rfl,.rfl,.rfl,.rfl,.rfl,.rfl,(.Er U),.rfl,trivial⟩ U) (BY (v':=(ow 2 0 q18)) Ah VT (Eo gq18) rfl U ⟨(B2 fun _=>U),trivial⟩ U U (AA ⟨U,?_⟩))
    exact AE (by exact Af [0,2] U (by decide) rfl U (.raw U U (.pure (AN fun _=>U) .nil)) (.same U)) (AH (by kernel_rfl) ((hA20 _ _ _).1 A20_12345678)) rfl)
  have A20_123456:A20 5 (bm 11 126) ⟨44,AP [(1,(ls eI p1)),(3,(Fh p3)),(4,Ar),(9,(i64 result5)),(10,(i64 t6)),(11,Ay),(13,(C4 p2)),(14,(Bp p2)),(15,(i64 t6)),(26,(ow 2 0 [p1,c17]))],[(D9 p0),(VA c15.op c15.num c15.kids),(ro 0 46 1 (eS eI) [p1,c17])]⟩:=(hA20 _ _ _).2 (by
   refine Ae [0,7,8] U (by kernel_rfl) (by decide) ⟨?_,?_,?_,trivial⟩
   ·refine Az.of (i:=0) rfl U (by rfl) ?_
    refine zq tb U (AA ⟨U,?_⟩)
    exact AE (by exact AD U) (AH (by kernel_rfl) ((hA20 _ _ _).1 A20_0123456)) rfl
   ·refine Az.of (i:=7) rfl U (by rfl) ?_
    refine Ak (Wk.Er (L:=[(1,(ls eI p1)),(3,(Fh p3)),(4,Ar),(9,(i64 result5)),(10,(i64 t6)),(11,Ay),(13,(C4 p2)),(14,(Bp p2)),(15,(i64 t6)),(26,(ls (eS eI) [p1,c17]))]) (st':=[(D9 p0),(VA c15.op c15.num c15.kids),⟨1,46,1,[]⟩]) (id:=2) rfl (show 0≤2 by decide) (AN fun _=>U) ⟨.rfl,.rfl,.rfl,.rfl,.rfl,.rfl,.rfl,.rfl,.rfl,(.Er U),trivial⟩ U) (BY (v':=(ow 3 0 q18)) Ah VT (Eo gq18) rfl U ⟨(B2 fun _=>U),trivial⟩ U U (AA ⟨U,?_⟩))
    exact AE (by exact Af [0,1,3] U (by decide) rfl U (.raw U U (.raw U U (.pure (AN fun _=>U) .nil))) (.same U)) (AH (by kernel_rfl) ((hA20 _ _ _).1 A20_1234567)) rfl
   ·refine Az.of (i:=8) rfl U (by rfl) ?_
    refine zq tb U (AA ⟨U,?_⟩)
    exact AE (by exact Af [0,2] U (by decide) rfl U (.raw U U (.pure (AN fun _=>U) .nil)) (.same U)) (AH (by kernel_rfl) ((hA20 _ _ _).1 A20_1234568)) rfl)
  have A20_123458:A20 5 (bm 11 318) ⟨44,AP [(1,(ls eI p1)),(3,(Fh p3)),(4,Ar),(9,(i64 result5)),(10,(i64 t6)),(13,(C4 p2)),(14,(Bp p2)),(15,(i64 t6)),(21,(ls eI p1)),(25,(ls eI c17)),(28,(B5 c15))],[(D9 p0)]⟩:=(hA20 _ _ _).2 (by
   refine Ae [0,6] U (by kernel_rfl) (by decide) ⟨?_,?_,trivial⟩
   ·refine Az.of (i:=0) rfl U (by rfl) ?_
    refine zq tb U (AA ⟨U,?_⟩)
    exact AE (by exact AD U) (AH (by kernel_rfl) ((hA20 _ _ _).1 A20_0123458)) rfl
   ·refine Az.of (i:=6) rfl U (by rfl) ?_
    refine Cb (m:=1) (l:=[p1,c17]) (enc:=(eS eI)) Ah JA (by decide) rfl U U U U U ?_
    refine AA ⟨U,?_⟩
    exact AE (by exact AD U) (AH (by kernel_rfl) ((hA20 _ _ _).1 A20_1234568)) rfl)
  have A20_12345:A20 6 (bm 11 62) ⟨44,AP [(1,(ls eI p1)),(3,(Fh p3)),(4,Ar),(9,(i64 result5)),(10,(i64 t6)),(11,Ay),(13,(C4 p2)),(14,(Bp p2)),(15,(i64 t6)),(21,(ls eI p1)),(25,(ls eI c17))],(Vb p0 c15)⟩:=(hA20 _ _ _).2 (by
   refine Ae [0,6,8] U (by kernel_rfl) (by decide) ⟨?_,?_,?_,trivial⟩
   ·refine Az.of (i:=0) rfl U (by rfl) ?_
    refine zq tb U (AA ⟨U,?_⟩)
    exact AE (by exact AD U) (AH (by kernel_rfl) ((hA20 _ _ _).1 A20_012345)) rfl
   ·refine Az.of (i:=6) rfl U (by rfl) ?_
    refine Cb (m:=2) (l:=[p1,c17]) (enc:=(eS eI)) Ah JA (by decide) rfl U U U U U ?_
    refine AA ⟨U,?_⟩
    exact AE (by exact AD U) (AH (by kernel_rfl) ((hA20 _ _ _).1 A20_123456)) rfl
   ·refine Az.of (i:=8) rfl U (by rfl) ?_
    refine zq tb U (AA ⟨U,?_⟩)
    exact AE (by exact Af [0] U (by decide) rfl U (.raw U U .nil) (.same U)) (AH (by kernel_rfl) ((hA20 _ _ _).1 A20_123458)) rfl)
  have A20_12348:A20 6 (bm 11 286) ⟨44,AP [(1,(ls eI p1)),(3,(Fh p3)),(4,Ar),(9,(i64 result5)),(10,(i64 t6)),(13,(C4 p2)),(14,(Bp p2)),(15,(i64 t6)),(21,(ls eI p1)),(24,(.Bu ((eS eI) c17) 0)),(28,(B5 c15))],[(D9 p0)]⟩:=(hA20 _ _ _).2 (by
   refine Ae [0,5] U (by kernel_rfl) (by decide) ⟨?_,?_,trivial⟩
   ·refine Az.of (i:=0) rfl U (by rfl) ?_
    refine zq tb U (AA ⟨U,?_⟩)
    exact AE (by exact AD U) (AH (by kernel_rfl) ((hA20 _ _ _).1 A20_012348)) rfl
   ·refine Az.of (i:=5) rfl U (by rfl) ?_
    refine zq tb U (AA ⟨U,?_⟩)
    exact AE (by exact AD U) (AH (by kernel_rfl) ((hA20 _ _ _).1 A20_123458)) rfl)
  have A20_1234:A20 7 (bm 11 30) ⟨44,AP [(1,(ls eI p1)),(3,(Fh p3)),(4,Ar),(9,(i64 result5)),(10,(i64 t6)),(11,Ay),(13,(C4 p2)),(14,(Bp p2)),(15,(i64 t6)),(21,(ls eI p1)),(24,(.Bu ((eS eI) c17) 0))],(Vb p0 c15)⟩:=(hA20 _ _ _).2 (by
   refine Ae [0,5,8] U (by kernel_rfl) (by decide) ⟨?_,?_,?_,trivial⟩
   ·refine Az.of (i:=0) rfl U (by rfl) ?_
    refine zq tb U (AA ⟨U,?_⟩)
    exact AE (by exact AD U) (AH (by kernel_rfl) ((hA20 _ _ _).1 A20_01234)) rfl
   ·refine Az.of (i:=5) rfl U (by rfl) ?_
    refine zq tb U (AA ⟨U,?_⟩)
    exact AE (by exact AD U) (AH (by kernel_rfl) ((hA20 _ _ _).1 A20_12345)) rfl
   ·refine Az.of (i:=8) rfl U (by rfl) ?_
    refine zq tb U (AA ⟨U,?_⟩)
    exact AE (by exact Af [0] U (by decide) rfl U (.raw U U .nil) (.same U)) (AH (by kernel_rfl) ((hA20 _ _ _).1 A20_12348)) rfl)
  have A20_1238:A20 7 (bm 11 270) ⟨44,AP [(1,(ls eI p1)),(3,(Fh p3)),(4,Ar),(9,(i64 result5)),(10,(i64 t6)),(13,(C4 p2)),(14,(Bp p2)),(15,(i64 t6)),(21,(ls eI p1)),(22,(Fh p3)),(23,(i64 t6)),(28,(B5 c15))],[(D9 p0)]⟩:=(hA20 _ _ _).2 (by
   refine Ae [0,4] U (by kernel_rfl) (by decide) ⟨?_,?_,trivial⟩
   ·refine Az.of (i:=0) rfl U (by rfl) ?_
    refine zq tb U (AA ⟨U,?_⟩)
    exact AE (by exact AD U) (AH (by kernel_rfl) ((hA20 _ _ _).1 A20_01238)) rfl
   ·refine Az.of (i:=4) rfl U (by rfl) ?_
    refine zx JA gc17 U U U (AA ⟨U,?_⟩)
    exact AE (by exact AD U) (AH (by kernel_rfl) ((hA20 _ _ _).1 A20_12348)) rfl)
  have A20_123:A20 8 (bm 11 14) ⟨44,AP [(1,(ls eI p1)),(3,(Fh p3)),(4,Ar),(9,(i64 result5)),(10,(i64 t6)),(11,Ay),(13,(C4 p2)),(14,(Bp p2)),(15,(i64 t6)),(21,(ls eI p1)),(22,(Fh p3)),(23,(i64 t6))],(Vb p0 c15)⟩:=(hA20 _ _ _).2 (by
   refine Ae [0,4,8] U (by kernel_rfl) (by decide) ⟨?_,?_,?_,trivial⟩
   ·refine Az.of (i:=0) rfl U (by rfl) ?_
    refine zq tb U (AA ⟨U,?_⟩)
    exact AE (by exact AD U) (AH (by kernel_rfl) ((hA20 _ _ _).1 A20_0123)) rfl
   ·refine Az.of (i:=4) rfl U (by rfl) ?_
    refine zx JA gc17 U U U (AA ⟨U,?_⟩)
    exact AE (by exact AD U) (AH (by kernel_rfl) ((hA20 _ _ _).1 A20_1234)) rfl
   ·refine Az.of (i:=8) rfl U (by rfl) ?_
    refine zq tb U (AA ⟨U,?_⟩)
    exact AE (by exact Af [0] U (by decide) rfl U (.raw U U .nil) (.same U)) (AH (by kernel_rfl) ((hA20 _ _ _).1 A20_1238)) rfl)
  have A20_12:A20 9 (bm 11 6) ⟨44,AP [(1,(ls eI p1)),(3,(Fh p3)),(4,Ar),(9,(i64 result5)),(10,(i64 t6)),(11,Ay),(13,(C4 p2)),(14,(Bp p2)),(15,(i64 t6)),(21,(ls eI p1)),(22,(Fh p3))],(Vb p0 c15)⟩:=(hA20 _ _ _).2 (by
   refine Bt 3 (v:=(i64 t6)) rfl U (by kernel_rfl) (by kernel_rfl) (by kernel_rfl) rfl (CS U) ?_
   exact AE (by exact AD U) (AH (by kernel_rfl) ((hA20 _ _ _).1 A20_123)) rfl)
  have A20_1:A20 10 (bm 11 2) ⟨44,AP [(1,(ls eI p1)),(3,(Fh p3)),(4,Ar),(9,(i64 result5)),(10,(i64 t6)),(11,Ay),(13,(C4 p2)),(14,(Bp p2)),(15,(i64 t6)),(21,(ls eI p1))],(Vb p0 c15)⟩:=(hA20 _ _ _).2 (by
   refine Bt 2 (v:=(Fh p3)) rfl U (by kernel_rfl) (by kernel_rfl) (by kernel_rfl) rfl (CS U) ?_
   exact AE (by exact AD U) (AH (by kernel_rfl) ((hA20 _ _ _).1 A20_12)) rfl)
  have A20_e:A20 11 (bm 11 0) ⟨44,AP [(1,(ls eI p1)),(3,(Fh p3)),(4,Ar),(9,(i64 result5)),(10,(i64 t6)),(11,Ay),(13,(C4 p2)),(14,(Bp p2)),(15,(i64 t6))],(Vb p0 c15)⟩:=(hA20 _ _ _).2 (by
   refine Bt 1 (v:=(ls eI p1)) rfl U (by kernel_rfl) (by kernel_rfl) (by kernel_rfl) rfl (CS U) ?_
   exact AE (by exact AD U) (AH (by kernel_rfl) ((hA20 _ _ _).1 A20_1)) rfl)
  refine (hA20 _ _ _).2 ?_
  exact AE (by exact AD U) (AH (by kernel_rfl) ((hA20 _ _ _).1 A20_e)) rfl
 ·intro b12 h1
  exact Aw (M8 result5 (Sh.AB h1).symm _ (An _ U))
theorem Pz {N:Nat} {p0:(List Ab)} {r:Int} (h0:HJ N p0=some r):Ag Tryz.prog 113 [(BT p0)] [] (fun v st=>v=(i64 r)∧st=[]):=by
 unfold HJ at h0
 refine ai Tryz.func113 U U U U ?_
 iterate 2 refine zr tb rfl rfl ?_
 refine AF fun K3 hK3=>sr U fun K4 hK4=>zq tb U (zl tb U U (zq tb U (dn hK4 U (bs h0 fun o8 h1 h0=>?_))))
 have M8 :∀(n7:Int),o8=n7→∀s,Wk 0 s ⟨19,AP [(3,(i64 n7))],[]⟩→K3 s:=by
  intro n7 hq s hw
  subst o8
  try dsimp only at h0
  refine hK3 _ (AR hw (zr tb U U ?_))
  replace h0:=Sh.AB h0
  subst r
  exact AJ (xr (AT (L:=[(2,(i64 n7))]) (.same U)))
 refine AU (As (σ:=Int×Int) (fun n v=>DH p0 n v.1 v.2=some o8) (fun (n5,t6)=>⟨19,AP [(3,(i64 n5)),(6,(BT p0)),(7,(Bp p0)),(8,(i64 t6))],[]⟩) N (0,0) h1 (AD U) (fun _ hv=>by rw[DH] at hv;cases hv) ?_)
 rintro n ⟨n5,t6⟩ h1
 try dsimp only at h1 ⊢
 rw[DH] at h1
 refine zr tb U U (AF fun K11 hK11=>?_)
 refine ci h1 U ?_ ?_ <;> clear h1
 ·intro b12 h1
  refine AI (hK11 _ (AF fun K13 hK13=>AU (sr U fun K14 hK14=>bs h1 fun c15 gc15 h1=>zx DC gc15 U U U (zq tb U (A0 (m:=0) Ah GR U U (A1 Ah I4 U U U U U U (show 0+3≤3 by decide) rfl (dn hK14 U (AK U (zm tb 3 U ?_)))))))))
  exact zl tb U U (zm tb 2 U (dn hK13 U (AK U (zm tb 2 U (AA (xi (Sh.w (n5+(Sh.len c15.cons)),Sh.w (t6+1)) h1 (An _ U)))))))
 ·intro b12 h1
  exact Aw (M8 n5 (Sh.AB h1).symm _ (AD U))
theorem Jr {N:Nat} {p0:(List Ab)} {p1:Int} {r:(List Int)} (h0:Fx N p0 p1=some r):Ag Tryz.prog 70 [(BT p0),(i64 p1)] [] (fun v st=>v=(ow 0 0 r)∧st=[(BL r)]):=by
 unfold Fx at h0
 refine ai Tryz.func70 U U U U (zr tb U U (AF fun K2 hK2=>AF fun K3 hK3=>bs h0 fun o5 h1 h0=>?_))
 have M5 :∀(t4:Bool),o5=t4→∀s,Wk 0 s ⟨39,AP [(0,(BT p0)),(1,(i64 p1)),(15,(.bool t4))],[]⟩→K3 s:=by
  intro t4 hq s hw
  subst o5
  try dsimp only at h0
  refine hK3 _ (AR hw ?_)
  refine ci h0 U ?_ ?_ <;> clear h0
  ·intro b6 h0
   refine zr tb U U ?_
   replace h0:=Sh.AB h0
   subst r
   exact AJ (Exists.intro _ (And.intro (((HE (t:=4) rfl 3 (size:=1) (by decide)).trans (AT (L:=[(4,XV)]) (.same U))).trans (AT (L:=[(4,XV)]) (.same U))) (And.intro U U)))
  ·intro b6 h0
   refine AI (hK2 _ (sr U fun K8 hK8=>zm tb 3 U (bs h0 fun l9 gl9 h0=>VK (i:=0) (j:=Sh.w (p1 - 1)) Ah DC U U U (fun _=>U) gl9 (bs h0 fun q10 gq10 h0=>zc dY (Pz gq10) rfl U U (zq tb U (dn hK8 U (zr tb U U (AF fun K12 hK12=>sr U fun K13 hK13=>?_))))))))
   refine zm tb 3 U (bs h0 fun c14 gc14 h0=>zx DC gc14 U U U (zm tb 2 U (zl tb U U (zq tb U (dn hK13 U (bs h0 fun o18 h1 h0=>?_))))))
   have M18 :∀(l17:(List Int)),o18=l17→∀s,Wk 0 s ⟨39,AP [(6,(ow 0 0 l17))],[(BL l17)]⟩→K12 s:=by
    intro l17 hq s hw
    subst o18
    try dsimp only at h0
    refine hK12 _ (AR hw (zr tb U U ?_))
    replace h0:=Sh.AB h0
    subst r
    exact AJ (xr (AT (L:=[(4,(ow 0 0 l17))]) (.same U)))
   refine AU (As (σ:=Int×(List Int)) (fun n v=>D0 c14 q10 n v.1 v.2=some o18) (fun (t15,l16)=>⟨39,AP [(5,(i64 q10)),(6,(ow 0 0 l16)),(27,(TN c14)),(28,(i64 t15))],[(BL l16)]⟩) N (0,[]) h1 ((HE (t:=6) rfl 3 (size:=1) (by decide)).trans (AT (L:=[(5,(i64 q10)),(6,XV),(27,(TN c14)),(28,(i64 0))]) (.same U))) (fun _ hv=>by rw[D0] at hv;cases hv) ?_)
   rintro n ⟨t15,l16⟩ h1
   try dsimp only at h1 ⊢
   rw[D0] at h1
   refine zr tb U U (AF fun K21 hK21=>?_)
   refine ci h1 U ?_ ?_ <;> clear h1
   ·intro b22 h1
    refine AI (hK21 _ (AF fun K23 hK23=>AU (zr tb U U (AK U (zm tb 4 U ?_)))))
    refine Cb (m:=1) (l:=[Sh.w (q10+t15)]) (enc:=eI) Ah Bm (by decide) rfl U U U U U ?_
    refine bs h1 fun l25 gl25 h1=>Fb (l2:=[Sh.w (q10+t15)]) Ah Bm U U U U (Jc U U) (fun _=>U) gl25 U (zq tb U (dn hK23 U (AK U (zm tb 2 U ?_))))
    exact AA (xi (Sh.w (t15+1),l25) h1 (by refine Wk.trans (Dx (L:=[(5,(i64 q10)),(6,(ow 0 0 l25)),(27,(TN c14)),(28,(KL t15))]) (st':=[(BL l25),(ro 0 3 1 eI [Sh.w (q10+t15)])]) (.pure (AN fun _=>U) (.pure (AN fun _=>U) .nil)) (.same U)) ?_;exact Af [0] U (by decide) rfl U (.pure (AN fun _=>U) .nil) (.same U)))
   ·intro b22 h1
    exact Aw (M18 l16 (Sh.AB h1).symm _ (AD U))
 refine AK U (zm tb 3 U ?_)
 rcases Sh.Au h1 with ⟨b26,h1⟩ | ⟨b26,h1⟩
 ·refine zs b26 U ?_
  iterate 3 refine zs b26 rfl ?_
  exact zt b26 U (AA (M5 true (Sh.AB h1).symm _ (AD U)))
 ·exact zg tb b26 U (zg tb b26 U (BP (v:=(Bp p0)) (DF U U b26) rfl (Cq PV U) (zg tb b26 U (zf b26 U (AA (M5 (decide ((Sh.len p0) < p1)) (Sh.AB h1).symm _ (AD U)))))))
theorem NL {N:Nat} {p0:(List Ab)} {p1:Int} {r:Int×BU} (h0:GS N p0 p1=some r):Ag Tryz.prog 131 [(BT p0),(i64 p1)] [] (fun v st=>v=(.DT [(i64 r.1),(.agg (BZ r.2))])∧st=[]):=by
 unfold GS at h0
 refine DX U (ai Tryz.func131 U U U U (sr U fun K1 hK1=>zq tb U (A0 (m:=0) Ah LK U U (dn hK1 U (AF fun K2 hK2=>sr U fun K3 hK3=>zq tb U (zl tb U U (zq tb U (dn hK3 U ?_))))))))
 obtain⟨o6,h1,h0⟩:=Sh.BF h0
 have M6 :∀(_:Unit),o6=Sum.inr ()→∀s,Wk 0 s ⟨38,AP [(5,Ar)],[⟨0,111,1,[[.zc]]⟩]⟩→K2 s:=by
  intro _ hq s hw
  subst o6
  try dsimp only at h0
  refine hK2 _ (AR hw (sr U fun K7 hK7=>zz (.agg [.zc]) (FG Zy aw LK U U) rfl (zq tb U (A1 Ah JI U U U U U U (show 0+1≤1 by decide) rfl (dn hK7 U ?_)))))
  replace h0:=Sh.AB h0
  subst r
  exact AJ (Exists.intro _ (And.intro ((Fv (id:=0) (cs:=[.zc]) (cs':=[Wd]) (st':=[⟨0,111,1,[[Wd]]⟩]) rfl ⟨le.zc,trivial⟩ U U).trans (AT (L:=[(4,(i64 (-1))),(5,Ar)]) (.same U))) (BE (x:=.tmp 5) (off:=0) (cs:=[Wd]) (vs:=[Wd]) JI U U U (show 0+1≤1 by decide) rfl _ U)))
 refine AU (As (σ:=Int×Int) (fun n v=>Dw p0 n v.1 v.2=some o6) (fun (c4,t5)=>⟨38,AP [(1,(i64 c4)),(5,Ar),(8,(BT p0)),(9,(Bp p0)),(10,(i64 t5))],[⟨0,111,1,[[.zc]]⟩]⟩) N (p1,0) h1 (AD U) (fun _ hv=>by rw[Dw] at hv;cases hv) ?_)
 rintro n ⟨c4,t5⟩ h1
 try dsimp only at h1 ⊢
 rw[Dw] at h1
 refine zr tb U U (AF fun K9 hK9=>?_)
 refine ci h1 U ?_ ?_ <;> clear h1
 ·intro b10 h1
  refine AI (hK9 _ (AF fun K11 hK11=>AU (sr U fun K12 hK12=>zq tb U (bs h1 fun c13 gc13 h1=>zx DC gc13 U U U (zq tb U (A0 (m:=1) Ah GR U U (zq tb U (A1 Ah I4 U U U U U U (show 0+3≤3 by decide) rfl (dn hK12 U ?_)))))))))
  refine AF fun K14 hK14=>AF fun K15 hK15=>bs h1 fun o17 h2 h1=>?_
  have M17 :∀(t16:Bool),o17=t16→∀s,Wk 0 s ⟨38,AP [(1,(i64 c4)),(5,Ar),(6,(i64 t5)),(7,Ay),(8,(BT p0)),(9,(Bp p0)),(10,(i64 t5)),(23,(.bool t16))],[⟨0,111,1,[[.zc]]⟩,⟨0,81,3,[(Ai c13)]⟩]⟩→K15 s:=by
   intro t16 hq s hw
   subst o17
   try dsimp only at h1
   refine hK15 _ (AR hw ?_)
   refine ci h1 U ?_ ?_ <;> clear h1
   ·intro b18 h1
    refine AF fun K19 hK19=>?_
    refine Be 8 (by kernel_rfl) (by kernel_rfl) (by rfl) ?_
    iterate 5 refine yq tb rfl ?_
    refine bs h1 fun c20 gc20 h1=>yx ID gc20 U U U ?_
    iterate 2 refine yq tb rfl ?_
    refine BR (A1 Ah JI U U U U U U (show 0+1≤1 by decide) rfl (dn hK19 U ?_))
    replace h1:=Sh.AB h1
    subst o6
    try dsimp only[id] at h0
    replace h0:=Sh.AB h0
    subst r
    exact AJ (Exists.intro _ (And.intro ((Af (L:=[(4,(KL t5)),(5,Ar)]) (st':=[⟨0,111,1,[(BZ c20)]⟩]) [0] U (by decide) rfl U (.raw U U .nil) ⟨.rfl,.rfl,trivial⟩).trans (AT (L:=[(4,(KL t5)),(5,Ar)]) ⟨.rfl,.rfl,trivial⟩)) (BE (x:=.tmp 5) (off:=0) (cs:=(BZ c20)) (vs:=(BZ c20)) JI U U U (show 0+1≤1 by decide) rfl _ U)))
   ·intro b18 h1
    refine AI (hK14 _ (AK U (zm tb 3 U (zl tb U U (zm tb 2 U (dn hK11 U (AK U (zm tb 2 U ?_))))))))
    exact AA (xi (Sh.w (c4 - (Sh.len c13.cons)),Sh.w (t5+1)) h1 (Af [0] U (by decide) rfl U (.raw U U .nil) (.same U)))
  refine AK U (zm tb 3 U ?_)
  rcases Sh.Au h2 with ⟨b21,h2⟩ | ⟨b21,h2⟩
  ·exact zg tb b21 U (zg tb b21 U (zg tb b21 U (BP (v:=(TN c13)) (DF U U b21) rfl (Cq OD U) (zg tb b21 U (zt b21 U (AA (M17 (decide (c4 < (Sh.len c13.cons))) (Sh.AB h2).symm _ (AD U))))))))
  ·refine zs b21 U ?_
   iterate 4 refine zs b21 rfl ?_
   exact zf b21 U (AA (M17 false (Sh.AB h2).symm _ (AD U)))
 ·intro b10 h1
  exact Aw (M6 () (Sh.AB h1).symm _ (AD U))
theorem Ks {N:Nat} {p0:(List Ab)} {p1:Int} {r:(List Int)} (h0:C6 N p0 p1=some r):Ag Tryz.prog 105 [(BT p0),(i64 p1)] [] (fun v st=>v=(ls eI r)∧st=[]):=by
 unfold C6 at h0
 refine ai Tryz.func105 U U U U (zr tb U U (sr U fun K2 hK2=>zm tb 2 U (bs h0 fun q3 gq3 h0=>zc (v':=(.DT [(i64 q3.1),(.agg (BZ q3.2))])) Z8 (NL gq3) rfl U U (zm tb 3 U (A0 (m:=0) Ah LK U U (zq tb U (A1 Ah JI U U U U U U (show 0+1≤1 by decide) rfl (dn hK2 U (zr tb U U ?_)))))))))
 replace h0:=Sh.AB h0
 subst r
 exact AJ (xr (An [(4,(ls eI q3.2.fields))] U))
theorem Lr {p0:(List Ab)} {p1:Int} {r:Ab×Bool} (h0:Hg p0 p1=some r):Ag Tryz.prog 138 [(BT p0),(i64 p1)] [] (fun v st=>v=(Pj r.1 r.2)∧st=[]):=by
 unfold Hg at h0
 refine DX U (ai Tryz.func138 U U U U (sr U fun K1 hK1=>A0 (m:=0) Ah GR U U (zq tb U (dn hK1 U (AF fun K2 hK2=>AF fun K3 hK3=>bs h0 fun o5 h1 h0=>?_)))))
 have M5 :∀(t4:Bool),o5=t4→∀s,Wk 0 s ⟨30,AP [(0,(BT p0)),(1,(i64 p1)),(4,Ar),(23,(.bool t4))],[⟨0,81,3,[[(i64 0),(i64 0),.zc]]⟩]⟩→K3 s:=by
  intro t4 hq s hw
  subst o5
  try dsimp only at h0
  refine hK3 _ (AR hw ?_)
  refine ci h0 U ?_ ?_ <;> clear h0
  ·intro b6 h0
   refine sr U fun K7 hK7=>zz (.agg [(i64 0),(i64 0),.zc]) (FG cI cM GR U U) rfl (A1 Ah I4 U U U U U U (show 0+3≤3 by decide) rfl (zq tb U (dn hK7 U ?_)))
   replace h0:=Sh.AB h0
   subst r
   exact AJ (Exists.intro _ (And.intro ((Fv (id:=0) (cs:=[(i64 0),(i64 0),.zc]) (cs':=bX) (st':=[⟨0,81,3,[bX]⟩]) rfl ⟨le.rfl,le.rfl,le.zc,trivial⟩ U U).trans (AT (L:=[(4,Ar),(5,(.bool false))]) (.same U))) (BE (x:=.tmp 4) (off:=0) (cs:=bX) (vs:=bX) I4 U U U (show 0+3≤3 by decide) rfl _ U)))
  ·intro b6 h0
   refine AI (hK2 _ (sr U fun K8 hK8=>zm tb 3 U (bs h0 fun c9 gc9 h0=>zx DC gc9 U U U (zq tb U (A1 Ah I4 U U U U U U (show 0+3≤3 by decide) rfl (zq tb U (dn hK8 U ?_)))))))
   replace h0:=Sh.AB h0
   subst r
   exact AJ (Exists.intro _ (And.intro (AT (L:=[(4,Ar),(5,(.bool true))]) (.same U)) (BE (x:=.tmp 4) (off:=0) (cs:=(Ai c9)) (vs:=(Ai c9)) I4 U U U (show 0+3≤3 by decide) rfl _ U)))
 refine AK U (zm tb 3 U ?_)
 rcases Sh.Au h1 with ⟨b10,h1⟩ | ⟨b10,h1⟩
 ·refine zs b10 U ?_
  iterate 3 refine zs b10 rfl ?_
  refine zt b10 U (zq tb U ?_)
  iterate 8 refine zs rfl rfl ?_
  exact zt U U (AA (M5 true (Sh.AB h1).symm _ (AD U)))
 ·refine zg tb b10 U (zg tb b10 U (BP (v:=(Bp p0)) (DF U U b10) rfl (Cq PV U) (zg tb b10 U (zf b10 U (zq tb U ?_)))))
  rcases Sh.Au h1 with ⟨b11,h1⟩ | ⟨b11,h1⟩
  ·refine zs b11 U ?_
   iterate 7 refine zs b11 rfl ?_
   exact zt b11 U (AA (M5 true (Sh.AB h1).symm _ (AD U)))
  ·exact zg tb b11 U (zg tb b11 U (zg tb b11 U (bs h1 fun c12 gc12 h1=>BP (v:=(.Bu (Ai c12) 0)) (DF U U b11) rfl (Ex DC U U gc12 U) (zg tb b11 U (zg tb b11 U (BP (v:=(TN c12)) (DF U U b11) rfl (Cq OD U) (zg tb b11 U (zf b11 U (AA (M5 (decide (0 < (Sh.len c12.cons))) (Sh.AB h1).symm _ (AD U)))))))))))
theorem Ez {N:Nat} {p0:(List Int)} {p1:(List Int)} {r:Bool} (h0:CH N p0 p1=some r):Ag Tryz.prog 139 [(ls eI p0),(ls eI p1)] [] (fun v st=>v=(.bool r)∧st=[]):=by
 unfold CH at h0
 refine ai Tryz.func139 U U U U (zr tb U U (AF fun K2 hK2=>sr U fun K3 hK3=>zq tb U (zl tb U U (zq tb U (zl tb U U (zq tb U (dn hK3 U ?_)))))))
 refine ci h0 U ?_ ?_ <;> clear h0
 ·intro b4 h0
  have b5:decide ((Sh.len p0)=(Sh.len p1))=false:=by simpa using b4
  refine zr tb U U ?_
  replace h0:=Sh.AB h0
  subst r
  exact AJ (xr (AT (L:=[(4,(.bool false))]) (.same U)))
 ·intro b4 h0
  have b7:decide ((Sh.len p0)=(Sh.len p1))=true:=by simpa using b4
  refine AI (hK2 _ (AF fun K8 hK8=>sr U fun K9 hK9=>zq tb U (zl tb U U (zq tb U (dn hK9 U ?_)))))
  obtain⟨o11,h1,h0⟩:=Sh.BF h0
  have M11 :∀(_:Unit),o11=Sum.inr ()→∀s,Wk 0 s ⟨26,AP [],[]⟩→K8 s:=by
   intro _ hq s hw
   subst o11
   try dsimp only at h0
   refine hK8 _ (AR hw (zr tb U U ?_))
   replace h0:=Sh.AB h0
   subst r
   exact AJ (xr (AT (L:=[(4,(.bool true))]) (.same U)))
  refine AU (As (σ:=Int) (fun n v=>B7 p0 p1 n v=some o11) (fun t10=>⟨26,AP [(0,(ls eI p0)),(1,(ls eI p1)),(12,(Bp p0)),(13,(i64 t10))],[]⟩) N 0 h1 (AD U) (fun _ hv=>by rw[B7] at hv;cases hv) ?_)
  rintro n t10 h1
  try dsimp only at h1 ⊢
  rw[B7] at h1
  refine zr tb U U (AF fun K14 hK14=>?_)
  refine ci h1 U ?_ ?_ <;> clear h1
  ·intro b15 h1
   refine AI (hK14 _ (AF fun K16 hK16=>AU (zr tb U U (AF fun K18 hK18=>?_))))
   refine By (by kernel_rfl) (by kernel_rfl) (by rfl) ?_
   iterate 2 refine yq tb rfl ?_
   refine bs h1 fun c19 gc19 h1=>yx Bm gc19 U U U ?_
   iterate 3 refine yq tb rfl ?_
   refine bs h1 fun c20 gc20 h1=>yx Bm gc20 U U U ?_
   iterate 2 refine yq tb rfl ?_
   refine BR (hK18 _ ?_)
   refine ci h1 U ?_ ?_ <;> clear h1
   ·intro b21 h1
    have b22:decide (c19=c20)=false:=by simpa using b21
    refine zr tb U U ?_
    replace h1:=Sh.AB h1
    subst o11
    try dsimp only[id] at h0
    replace h0:=Sh.AB h0
    subst r
    exact AJ (xr (AT (L:=[(4,(.bool false))]) (.same U)))
   ·intro b21 h1
    have b24:decide (c19=c20)=true:=by simpa using b21
    exact AI (hK16 _ (AK U (zm tb 2 U (AA (xi (Sh.w (t10+1)) h1 (AD U))))))
  ·intro b15 h1
   exact Aw (M11 () (Sh.AB h1).symm _ (AD U))
theorem Qc {N:Nat} {p0:(List Ab)} {p1:Int} {p2:Int} {r:Int} (h0:Hq N p0 p1 p2=some r):Ag Tryz.prog 140 [(BT p0),(i64 p1),(i64 p2)] [] (fun v st=>v=(i64 r)∧st=[]):=by
 unfold Hq at h0
 refine ai Tryz.func140 U U U U (zr tb U U (AF fun K2 hK2=>sr U fun K3 hK3=>zq tb U (zl tb U U (zq tb U (dn hK3 U ?_)))))
 obtain⟨o5,h1,h0⟩:=Sh.BF h0
 have M5 :∀(_:Unit),o5=Sum.inr ()→∀s,Wk 0 s ⟨35,AP [],[]⟩→K2 s:=by
  intro _ hq s hw
  subst o5
  try dsimp only at h0
  refine hK2 _ (AR hw (zr tb U U ?_))
  replace h0:=Sh.AB h0
  subst r
  exact AJ (xr (AT (L:=[(6,(i64 (-1)))]) (.same U)))
 refine AU (As (σ:=Int) (fun n v=>De p0 p1 p2 n v=some o5) (fun t4=>⟨35,AP [(1,(i64 p1)),(2,(i64 p2)),(9,(BT p0)),(10,(Bp p0)),(11,(i64 t4))],[]⟩) N 0 h1 (AD U) (fun _ hv=>by rw[De] at hv;cases hv) ?_)
 rintro n t4 h1
 try dsimp only at h1 ⊢
 rw[De] at h1
 refine zr tb U U (AF fun K8 hK8=>?_)
 refine ci h1 U ?_ ?_ <;> clear h1
 ·intro b9 h1
  refine AI (hK8 _ (AF fun K10 hK10=>AU (sr U fun K11 hK11=>zq tb U (bs h1 fun c12 gc12 h1=>zx DC gc12 U U U (zq tb U (A0 (m:=0) Ah GR U U (zq tb U (A1 Ah I4 U U U U U U (show 0+3≤3 by decide) rfl (dn hK11 U ?_)))))))))
  refine AF fun K13 hK13=>bs h1 fun o15 h2 h1=>?_
  have M15 :∀(t14:Bool),o15=t14→∀s,Wk 0 s ⟨35,AP [(1,(i64 p1)),(2,(i64 p2)),(7,(i64 t4)),(9,(BT p0)),(10,(Bp p0)),(11,(i64 t4)),(31,(.bool t14))],[]⟩→K13 s:=by
   intro t14 hq s hw
   subst o15
   try dsimp only at h1
   refine hK13 _ (AR hw ?_)
   refine ci h1 U ?_ ?_ <;> clear h1
   ·intro b16 h1
    refine zr tb U U ?_
    replace h1:=Sh.AB h1
    subst o5
    try dsimp only[id] at h0
    replace h0:=Sh.AB h0
    subst r
    exact AJ (xr (AT (L:=[(6,(KL t4))]) (.same U)))
   ·intro b16 h1
    exact AI (hK10 _ (AK U (zm tb 2 U (AA (xi (Sh.w (t4+1)) h1 (AD U))))))
  refine AK U (zm tb 2 U (zl tb U U (zm tb 2 U ?_)))
  rcases Sh.Au h2 with ⟨b18,h2⟩ | ⟨b18,h2⟩
  ·refine zg tb b18 U ?_
   iterate 3 refine zg tb b18 rfl ?_
   refine zt b18 U (zq tb U ?_)
   rcases Sh.Au h2 with ⟨b19,h2⟩ | ⟨b19,h2⟩
   ·refine zg tb b19 U ?_
    iterate 3 refine zg tb b19 rfl ?_
    exact zt b19 U (AA (M15 (decide (c12.to=p2)) (Sh.AB h2).symm _ (An _ U)))
   ·refine zs b19 U ?_
    iterate 3 refine zs b19 rfl ?_
    exact zf b19 U (AA (M15 false (Sh.AB h2).symm _ (An _ U)))
  ·refine zs b18 U ?_
   iterate 3 refine zs b18 rfl ?_
   refine zf b18 U (zq tb U ?_)
   iterate 4 refine zs rfl rfl ?_
   exact zf U U (AA (M15 false (Sh.AB h2).symm _ (An _ U)))
 ·intro b9 h1
  exact Aw (M5 () (Sh.AB h1).symm _ (AD U))
end Go.Proofs.YtpahalfiiahddaaGreat

