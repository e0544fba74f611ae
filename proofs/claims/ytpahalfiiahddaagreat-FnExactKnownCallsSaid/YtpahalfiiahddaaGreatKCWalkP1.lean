import Derived.Test.YtpahalfiiahddaaGreatProg
import Derived.Test.YtpahalfiiahddaaGreatGAbsXToSSDefs
import Derived.Test.YtpahalfiiahddaaGreatGHADefsToKCDefs
import Derived.Test.YtpahalfiiahddaaGreatCFWalk
import Derived.Test.YtpahalfiiahddaaGreatKCWalkP0
namespace Go.Proofs.YtpahalfiiahddaaGreat
open Go Go.Abs RC
attribute [local irreducible] Go.Abs.Cp
set_option maxRecDepth 100000
set_option maxHeartbeats 4000000

theorem XK:Hb Tryz.prog 111=true:=by kernel_rfl
theorem XA:Hb Tryz.prog 116=true:=by kernel_rfl
theorem ZY:Hb Tryz.prog 119=true:=by kernel_rfl
theorem RH:Hb Tryz.prog 30=true:=by kernel_rfl
theorem XT:Hb Tryz.prog 48=true:=by kernel_rfl
theorem ZM:Hb Tryz.prog 81=true:=by kernel_rfl
theorem Xv:I7 Tryz.prog 111=some [(0,1)]:=by kernel_rfl
theorem YB:I7 Tryz.prog 116=some [(0,1),(1,1),(2,1)]:=by kernel_rfl
theorem Z9:I7 Tryz.prog 119=some [(0,1),(1,1)]:=by kernel_rfl
theorem RN:I7 Tryz.prog 30=some [(0,1),(1,1)]:=by kernel_rfl
theorem XX:I7 Tryz.prog 48=some [(0,1),(1,1),(2,3)]:=by kernel_rfl
theorem ZP:I7 Tryz.prog 81=some [(0,1),(1,1),(2,1)]:=by kernel_rfl
theorem Kh:CM Tryz.prog 114=some ⟨116,3,56,[.sl [],.sl [],.int .i64 0]⟩:=by kernel_rfl
theorem Iu:CM Tryz.prog 141=some ⟨46,1,24,[.sl []]⟩:=by kernel_rfl
theorem Md:As Tryz.prog 101=true:=by kernel_rfl
theorem XB:As Tryz.prog 106=true:=by kernel_rfl
theorem Z5:As Tryz.prog 113=true:=by kernel_rfl
theorem Zu:As Tryz.prog 125=true:=by kernel_rfl
theorem TM:As Tryz.prog 126=true:=by kernel_rfl
theorem Xa:As Tryz.prog 131=true:=by kernel_rfl
theorem Sx:As Tryz.prog 137=true:=by kernel_rfl
theorem ZX:As Tryz.prog 141=true:=by kernel_rfl
theorem aH:As Tryz.prog 19=true:=by kernel_rfl
theorem aI:As Tryz.prog 21=true:=by kernel_rfl
theorem aT:As Tryz.prog 48=true:=by kernel_rfl
theorem aZ:As Tryz.prog 98=true:=by kernel_rfl
theorem XD:As Tryz.prog 99=true:=by kernel_rfl
theorem bY:Program.underlying Tryz.prog 3=some (.int .i64):=by kernel_rfl
theorem VA:Cu Tryz.prog 114=true:=by kernel_rfl
theorem Zy:DG Tryz.prog 114=some (false,1):=by kernel_rfl
theorem Zf:DG Tryz.prog 116=some (true,3):=by kernel_rfl
theorem Vq:DG Tryz.prog 119=some (true,2):=by kernel_rfl
theorem U4:HP Tryz.prog 116=some [.zc,.zc,.int .i64 0]:=by kernel_rfl
theorem Uo:HP Tryz.prog 119=some [.zc,.zc]:=by kernel_rfl
theorem bV:HP Tryz.prog 3=some [.int .i64 0]:=by kernel_rfl

theorem Ny {N:Nat} {p0:(List Ah)} {r:(List Ah)} (h0:GZ N p0=some r):Ak Tryz.prog 48 [(BS p0)] [] (fun v st=>v=(ow 0 0 r)∧st=[(ro 0 81 3 Ad r)]):=by
 unfold GZ at h0
 refine ai Tryz.func48 U U U U (zr tb U U (sr U fun K2 hK2=>?_))
 refine Bb (m:=0) (l:=([]:List Ah)) (enc:=Ad) Aj DA (by decide) rfl U U U U U ?_
 refine zq tb U (dn hK2 U (AJ fun K3 hK3=>zr tb U U (bs h0 fun o8 h1 h0=>?_)))
 have M8 :∀(l7:(List Ah)),o8=l7→∀s,Wk 0 s ⟨55,AM [(3,(ow 0 0 l7))],[(ro 0 81 3 Ad l7)]⟩→K3 s:=by
  intro l7 hq s hw
  subst o8
  try dsimp only at h0
  refine hK3 _ (Aa hw (zr tb U U ?_))
  replace h0:=Sh.AE h0
  subst r
  exact AP (xr (Ab (L:=[(2,(ow 0 0 l7))]) (.same U)))
 refine Ac (Aw (σ:=Int×(List Ah)) (fun n v=>DQ N p0 n v.1 v.2=some o8) (fun (i5,l6)=>⟨55,AM [(0,(BS p0)),(3,(ow 0 0 l6)),(4,(i64 i5))],[(ro 0 81 3 Ad l6)]⟩) N (0,[]) h1 (AB U) (fun _ hv=>by rw[DQ] at hv;cases hv) ?_)
 rintro n ⟨i5,l6⟩ h1
 try dsimp only at h1 ⊢
 rw[DQ] at h1
 refine AJ fun K10 hK10=>sr U fun K11 hK11=>zm tb 2 U (zl tb U U (zq tb U (dn hK11 U ?_)))
 refine ci h1 U ?_ ?_ <;> clear h1
 ·intro b12 h1
  refine AN (hK10 _ (AJ fun K13 hK13=>Ac (sr U fun K14 hK14=>?_)))
  refine Bb (m:=1) (l:=([]:List Ba)) (enc:=At) Aj H0 (by decide) rfl U U U U U ?_
  refine zq tb U (dn hK14 U (AJ fun K15 hK15=>zr tb U U (bs h1 fun o20 h2 h1=>?_)))
  have M20 :∀(l19:(List Ba)),o20=l19→∀s,Wk 0 s ⟨55,AM [(0,(BS p0)),(3,(ow 0 0 l6)),(4,(i64 i5)),(5,(ow 1 0 l19))],[(ro 0 81 3 Ad l6),(ro 0 111 1 At l19)]⟩→K15 s:=by
   intro l19 hq s hw
   subst o20
   try dsimp only at h1
   refine hK15 _ (Aa hw (Aa (Wk.Ey (L:=[(0,(BS p0)),(3,(ow 0 0 l6)),(4,(i64 i5)),(5,(ls At l19))]) (st':=[(ro 0 81 3 Ad l6),⟨1,111,1,[]⟩]) (id:=1) rfl (show 0≤1 by decide) (AS fun _=>U) ⟨.rfl,.rfl,.rfl,(.Ey U),trivial⟩ U) ?_))
   refine Cd 14 (by kernel_rfl) (by kernel_rfl) (by rfl) ?_
   iterate 3 refine yq tb rfl ?_
   refine bs h1 fun c21 gc21 h1=>yx DA gc21 U U U ?_
   iterate 4 refine yq tb rfl ?_
   refine yx DA gc21 U U U ?_
   iterate 3 refine yq tb rfl ?_
   refine yz (.agg [(i64 c21.from_),(i64 c21.to),(ls At l19)]) (FX ZM ZP GI U U) rfl ?_
   refine Xg (l:=[(Ah.mk c21.from_ c21.to l19)]) (enc:=Ad) Aj DA (by decide) rfl U U U U (AS fun _=>U) ?_
   refine Bh (bs h1 fun l22 gl22 h1=>FR (l2:=[(Ah.mk c21.from_ c21.to l19)]) Aj DA U U U U O0 (fun _=>U) gl22 U (zq tb U (dn hK13 U (AR U (zm tb 3 U ?_)))))
   exact AA (xi (Sh.w (i5+1),l22) h1 (by refine Wk.trans (Dv (L:=[(0,(BS p0)),(3,(ow 0 0 l22)),(4,(Kn i5))]) (st':=[(ro 0 81 3 Ad l22),⟨0,111,1,[]⟩]) (.pure (AS fun _=>U) (.pure (by intro x hx;cases hx) .nil)) (.same U)) ?_;exact Ai [0] U (by decide) rfl U (.pure (AS fun _=>U) .nil) (.same U)))
  refine Ac (Aw (σ:=Int×(List Ba)) (fun n v=>Cy i5 p0 n v.1 v.2=some o20) (fun (k17,l18)=>⟨55,AM [(0,(BS p0)),(3,(ow 0 0 l6)),(4,(i64 i5)),(5,(ow 1 0 l18)),(6,(i64 k17))],[(ro 0 81 3 Ad l6),(ro 0 111 1 At l18)]⟩) N (0,[]) h2 (AB U) (fun _ hv=>by rw[Cy] at hv;cases hv) ?_)
  rintro n ⟨k17,l18⟩ h2
  try dsimp only at h2 ⊢
  rw[Cy] at h2
  refine AJ fun K23 hK23=>sr U fun K24 hK24=>zm tb 3 U (bs h2 fun c25 gc25 h2=>zx DA gc25 U U U (zm tb 2 U (zl tb U U (zq tb U (dn hK24 U ?_)))))
  refine ci h2 U ?_ ?_ <;> clear h2
  ·intro b26 h2
   refine AN (hK23 _ (AJ fun K27 hK27=>Ac (AR U (zm tb 3 U (zx DA gc25 U U U (zm tb 3 U (bs h2 fun c28 gc28 h2=>zx H0 gc28 U U U (zm tb 2 U (bs h2 fun q29 gq29 h2=>BW (v':=(ow 2 0 q29)) Aj W4 (IY gq29) rfl U ⟨(Br fun _=>U),trivial⟩ U U ?_)))))))))
   refine zz (.agg [(ow 2 0 q29)]) (FX XK Xv Ki U U) rfl (Al (Wk.Ey (L:=[(0,(BS p0)),(3,(ow 0 0 l6)),(4,(i64 i5)),(6,(i64 k17)),(25,(ow 1 0 l18)),(36,(.agg [(ls eI q29)]))]) (st':=[(ro 0 81 3 Ad l6),(ro 0 111 1 At l18),⟨1,3,1,[]⟩]) (id:=2) rfl (show 0≤2 by decide) (AS fun _=>U) ⟨.rfl,.rfl,.rfl,.rfl,.rfl,(.agg ⟨(.IN U),trivial⟩),trivial⟩ U) ?_)
   refine Bb (m:=3) (l:=[(Ba.mk q29)]) (enc:=At) Aj H0 (by decide) rfl U U U U U ?_
   refine bs h2 fun l30 gl30 h2=>FR (l2:=[(Ba.mk q29)]) Aj H0 U U U U (Ig U U) (fun _=>U) gl30 U (zq tb U (dn hK27 U (AR U (zm tb 3 U ?_))))
   exact AA (xi (Sh.w (k17+1),l30) h2 (by refine Wk.trans (Dv (L:=[(0,(BS p0)),(3,(ow 0 0 l6)),(4,(i64 i5)),(5,(ow 1 0 l30)),(6,(Kn k17))]) (st':=[(ro 0 81 3 Ad l6),(ro 0 111 1 At l30),⟨0,3,1,[]⟩,(ro 0 111 1 At [(Ba.mk q29)])]) (.pure (AS fun _=>U) (.pure (AS fun _=>U) (.pure (by intro x hx;cases hx) (.pure (AS fun _=>U) .nil)))) (.same U)) ?_;exact Ai [0,1] U (by decide) rfl U (.pure (AS fun _=>U) (.pure (AS fun _=>U) .nil)) (.same U)))
  ·intro b26 h2
   exact A0 (M20 l18 (Sh.AE h2).symm _ (AB U))
 ·intro b12 h1
  exact A0 (M8 l6 (Sh.AE h1).symm _ (AB U))
theorem NZ {N:Nat} {p0:AK} {r:AK} (h0:GD N p0=some r):Ak Tryz.prog 50 [(B8 p0)] [] (fun v st=>v=(B8 r)∧st=[]):=by
 unfold GD at h0
 refine EP U (ai Tryz.func50 U U U U (sr U fun K1 hK1=>BY (m:=0) Aj U U U U U (A7 (m:=1) Aj Ik U U (dn hK1 U (AJ fun K2 hK2=>?_)))))
 refine Cd 8 (by kernel_rfl) (by kernel_rfl) (by rfl) ?_
 iterate 6 refine yq tb rfl ?_
 refine bs h0 fun q3 gq3 h0=>?_
 refine CH (v:=(Cx q3)) Aj Sp (Ak.wk (FJ gq3) (by refine Wk.trans (Wk.Ey (L:=[(0,(Cx q3))]) (st':=[B6]) (id:=0) rfl (show 0≤0 by decide) (AS Bg) ⟨(.Ey U),trivial⟩ U) ?_;exact Ai [] U (by decide) rfl U .nil (.same U))) rfl U U ?_
 refine yz (.agg [(i64 p0.op),(i64 p0.num),(Cx q3)]) (FX UE T3 Ik U U) rfl (Bh (BI Aj Bz U U U U U U (show 0+3≤3 by decide) rfl (dn hK2 U ?_)))
 replace h0:=Sh.AE h0
 subst r
 exact AP (Exists.intro _ (And.intro (Iz _ _) (A8 (x:=.tmp 2) (off:=0) (cs:=[(i64 p0.op),(i64 p0.num),(Cx q3)]) (vs:=[(i64 p0.op),(i64 p0.num),(Cx q3)]) Bz U U U (show 0+3≤3 by decide) rfl _ U)))
theorem NM {N:Nat} {p0:Ag} {p1:(List AK)} {r:Ag×Bool} (h0:GC N p0 p1=some r):Ak Tryz.prog 21 [(Gn p0),(Cx p1)] [] (fun v st=>v=(.Cm [(.agg [(BS r.1.decls),(ls A5 r.1.funcs)]),(.bool r.2)])∧st=[]):=by
 unfold GC at h0
 refine EP U (ai Tryz.func21 U U U U (sr U fun K1 hK1=>BY (m:=0) Aj U U U U U (A7 (m:=1) Aj HK U U (zq tb U (dn hK1 U (sr U fun K2 hK2=>zm tb 2 U (bs h0 fun q3 gq3 h0=>BW (v':=(ow 2 0 q3)) Aj aT (Ny gq3) rfl U ⟨(Br fun _=>U),trivial⟩ U U ?_)))))))
 refine Bb (m:=3) (l:=([]:List Av)) (enc:=A5) Aj CQ (by decide) rfl U U U U U ?_
 refine zz (.agg [(ow 2 0 q3),Wd]) (FX RH RN HK U U) rfl (A7 (m:=4) Aj HK U U (Al (Wk.Ey (L:=[(1,(Cx p1)),(2,Ax),(4,Ao),(6,(.ptr 4 0 0 0)),(12,(.agg [(BS q3),Wd]))]) (st':=[(Kp p0.decls p0.funcs),Og,⟨1,81,3,[]⟩,(ro 0 48 5 A5 ([]:List Av)),Og]) (id:=2) rfl (show 0≤2 by decide) (AS fun _=>U) ⟨.rfl,.rfl,.rfl,.rfl,(.agg ⟨(.IN U),.rfl,trivial⟩),trivial⟩ U) (BI Aj FE U U U U U U (show 0+2≤2 by decide) rfl (dn hK2 U (AJ fun K4 hK4=>zr tb U U ?_)))))
 obtain⟨o9,h1,h0⟩:=Sh.BN h0
 have M9 :∀(l8:(List Av)),o9=Sum.inr l8→∀s,Wk 0 s ⟨52,AM [(4,Ax),(6,CD)],[Og,(ro 0 48 5 A5 l8),⟨0,30,2,[[(BS q3),(ow 1 0 l8)]]⟩]⟩→K4 s:=by
  intro l8 hq s hw
  subst o9
  try dsimp only at h0
  refine hK4 _ (Aa hw (sr U fun K10 hK10=>zq tb U (Al (Wk.Ey (L:=[(4,Ax),(51,(.agg [(BS q3),(ls A5 l8)]))]) (st':=[Og,⟨1,48,5,[]⟩,⟨0,30,2,[[(BS q3),(ow 1 0 l8)]]⟩]) (id:=1) rfl (show 0≤1 by decide) (AS fun _=>U) ⟨.rfl,(.agg ⟨.rfl,(.IN U),trivial⟩),trivial⟩ U) (BI Aj FE U U U U U U (show 0+2≤2 by decide) rfl (zq tb U (dn hK10 U ?_))))))
  replace h0:=Sh.AE h0
  subst r
  exact AP (Exists.intro _ (And.intro ((Ai (L:=[(4,Ax),(5,(.bool true))]) (st':=[(Kp q3 l8)]) [0] U (by decide) rfl U (.raw U U .nil) ⟨.rfl,.rfl,trivial⟩).trans (Ab (L:=[(4,Ax),(5,(.bool true))]) ⟨.rfl,.rfl,trivial⟩)) (A8 (x:=.tmp 4) (off:=0) (cs:=[(BS q3),(ls A5 l8)]) (vs:=[(BS q3),(ls A5 l8)]) FE U U U (show 0+2≤2 by decide) rfl _ U)))
 refine Ac (Aw (σ:=Int×(List Av)) (fun n v=>Cb N p0 p1 n v.1 v.2=some o9) (fun (i6,l7)=>⟨52,AM [(1,(Cx p1)),(2,Ax),(4,Ao),(6,Jg),(7,(i64 i6))],[(Kp p0.decls p0.funcs),Og,(ro 0 48 5 A5 l7),⟨0,30,2,[[(BS q3),(ow 2 0 l7)]]⟩]⟩) N (0,[]) h1 (BM (L:=[(1,(Cx p1)),(2,Ax),(4,Ao),(6,Jg),(7,(i64 0))]) (st':=[(Kp p0.decls p0.funcs),Og,(ro 0 48 5 A5 ([]:List Av)),⟨0,30,2,[[(BS q3),(.own 2 0 (List.length ([]:List Av)))]]⟩]) (st1:=[(Kp p0.decls p0.funcs),Og,(ro 0 48 5 A5 ([]:List Av)),⟨0,30,2,[[(BS q3),Wd]]⟩]) [0,1,3,4] U .nil (by decide) rfl U (.raw U U (.raw U U (.pure (AS fun _=>U) (.raw U U .nil)))) (.same U)) (fun _ hv=>by rw[Cb] at hv;cases hv) ?_)
 rintro n ⟨i6,l7⟩ h1
 try dsimp only at h1 ⊢
 rw[Cb] at h1
 refine AJ fun K11 hK11=>sr U fun K12 hK12=>zm tb 3 U (zl tb U U (zq tb U (dn hK12 U ?_)))
 refine ci h1 U ?_ ?_ <;> clear h1
 ·intro b13 h1
  refine AN (hK11 _ (AJ fun K14 hK14=>Ac (AJ fun K15 hK15=>sr U fun K16 hK16=>zm tb 2 U (bs h1 fun c17 gc17 h1=>zz (FF c17) (Bq A2 U U gc17 (A4 _) rfl) rfl (zq tb U (bs h1 fun q18 gq18 h1=>zc Yt (Kx gq18) rfl U U (zq tb U ?_)))))))
  refine dn hK16 U ?_
  refine ci h1 U ?_ ?_ <;> clear h1
  ·intro b19 h1
   refine sr U fun K20 hK20=>zz (.agg [.zc,.zc]) (FX RH RN HK U U) rfl (BI Aj FE U U U U U U (show 0+2≤2 by decide) rfl (zq tb U (dn hK20 U ?_)))
   replace h1:=Sh.AE h1
   subst o9
   try dsimp only[id] at h0
   replace h0:=Sh.AE h0
   subst r
   exact AP (Exists.intro _ (And.intro ((((Fi (id:=1) (cs:=[.zc,.zc]) (cs':=TS) (st':=[(Kp p0.decls p0.funcs),⟨0,30,2,[TS]⟩,(ro 0 48 5 A5 l7),⟨0,30,2,[[(BS q3),(ow 2 0 l7)]]⟩]) rfl ⟨le.zc,le.rfl,trivial⟩ U U).trans (Fi (id:=1) (cs:=TS) (cs':=Nz) (st':=[(Kp p0.decls p0.funcs),⟨0,30,2,[Nz]⟩,(ro 0 48 5 A5 l7),⟨0,30,2,[[(BS q3),(ow 2 0 l7)]]⟩]) rfl ⟨le.rfl,le.zc,trivial⟩ U U)).trans (Ai (L:=[(4,Ax),(5,(.bool false))]) (st':=[⟨0,30,2,[Nz]⟩]) [1] U (by decide) rfl U (.raw U U .nil) ⟨.rfl,.rfl,trivial⟩)).trans (Ab (L:=[(4,Ax),(5,(.bool false))]) ⟨.rfl,.rfl,trivial⟩)) (A8 (x:=.tmp 4) (off:=0) (cs:=Nz) (vs:=Nz) FE U U U (show 0+2≤2 by decide) rfl _ U)))
  ·intro b19 h1
   refine AN (hK15 _ ?_)
   refine Cd 22 (by kernel_rfl) (by kernel_rfl) (by rfl) ?_
   iterate 5 refine yq tb rfl ?_
   refine bs h1 fun c21 gc21 h1=>yx CQ gc21 U U U ?_
   iterate 2 refine yq tb rfl ?_
   refine bs h1 fun q22 gq22 h1=>?_
   refine CH (v:=(ls eI q22)) Aj W4 (Ak.wk (IY gq22) (by refine Wk.trans (Wk.Ey (L:=[(0,(ls eI q22))]) (st':=[⟨1,3,1,[]⟩]) (id:=0) rfl (show 0≤0 by decide) (AS fun _=>U) ⟨(.Ey U),trivial⟩ U) ?_;exact Ai [] U (by decide) rfl U .nil (.same U))) rfl U U ?_
   iterate 3 refine yq tb rfl ?_
   refine yx CQ gc21 U U U ?_
   iterate 4 refine yq tb rfl ?_
   refine yz (FF c17) (Bq A2 U U gc17 (A4 _) rfl) rfl (yq tb U (bs h1 fun q23 gq23 h1=>CH (v:=(B8 q23)) Aj Y1 (NZ gq23) rfl U U (yz (.agg [(ls eI q22),(i64 c21.result),(i64 q23.op),(i64 q23.num),(Fq q23)]) (FX XT XX Mu U U) rfl ?_)))
   refine Xg (l:=[(Av.mk q22 c21.result q23)]) (enc:=A5) Aj CQ (by decide) rfl U U U U (AS fun _=>U) ?_
   exact Bh (bs h1 fun l24 gl24 h1=>FR (l2:=[(Av.mk q22 c21.result q23)]) Aj CQ U U U U O0 (fun _=>U) gl24 U (zq tb U (BI Aj Xk U U U U U U (show 1+1≤2 by decide) rfl (dn hK14 U (AR U (zm tb 3 U (AA (xi (Sh.w (i6+1),l24) h1 (Dv (L:=[(1,(Cx p1)),(2,Ax),(4,Ao),(6,Jg),(7,(Kn i6))]) (st':=[(Kp p0.decls p0.funcs),Og,(ro 0 48 5 A5 l24),⟨0,30,2,[[(BS q3),(ow 2 0 l24)]]⟩]) (.raw U U (.raw U U (.pure (AS fun _=>U) (.raw U U .nil)))) (.same U))))))))))
 ·intro b13 h1
  exact A0 (M9 l7 (Sh.AE h1).symm _ (BM (L:=[(4,Ax),(6,CD)]) (st':=[Og,(ro 0 48 5 A5 l7),⟨0,30,2,[[(BS q3),(ow 1 0 l7)]]⟩]) (st1:=[Og,(ro 0 48 5 A5 l7),⟨0,30,2,[[(BS q3),(ow 2 0 l7)]]⟩]) [1,2,3] U .nil (by decide) rfl U (.raw U U (.pure (AS fun _=>U) (.raw U U .nil))) (.same U)))
theorem NT {N:Nat} {p0:Ag} {r:Ag×Bool} (h0:F5 N p0=some r):Ak Tryz.prog 7 [(Gn p0)] [] (fun v st=>v=(.Cm [(.agg [(BS r.1.decls),(ls A5 r.1.funcs)]),(.bool r.2)])∧st=[]):=by
 unfold F5 at h0
 refine EP U (ai Tryz.func7 U U U U (sr U fun K1 hK1=>BY (m:=0) Aj U U U U U (A7 (m:=1) Aj HK U U (zq tb U (dn hK1 U (AJ fun K2 hK2=>sr U fun K3 hK3=>zq tb U (bs h0 fun q4 gq4 h0=>zc aH (L8 gq4) rfl U U ?_)))))))
 refine zq tb U (dn hK3 U ?_)
 refine ci h0 U ?_ ?_ <;> clear h0
 ·intro b5 h0
  have b6:q4=false:=by simpa using b5
  refine sr U fun K7 hK7=>zz (.agg [.zc,.zc]) (FX RH RN HK U U) rfl (BI Aj FE U U U U U U (show 0+2≤2 by decide) rfl (zq tb U (dn hK7 U ?_)))
  replace h0:=Sh.AE h0
  subst r
  exact AP (Exists.intro _ (And.intro ((((Fi (id:=1) (cs:=[.zc,.zc]) (cs':=TS) (st':=[(Kp p0.decls p0.funcs),⟨0,30,2,[TS]⟩]) rfl ⟨le.zc,le.rfl,trivial⟩ U U).trans (Fi (id:=1) (cs:=TS) (cs':=Nz) (st':=[(Kp p0.decls p0.funcs),⟨0,30,2,[Nz]⟩]) rfl ⟨le.rfl,le.zc,trivial⟩ U U)).trans (Ai (L:=[(2,Ax),(3,(.bool false))]) (st':=[⟨0,30,2,[Nz]⟩]) [1] U (by decide) rfl U (.raw U U .nil) ⟨.rfl,.rfl,trivial⟩)).trans (Ab (L:=[(2,Ax),(3,(.bool false))]) ⟨.rfl,.rfl,trivial⟩)) (A8 (x:=.tmp 2) (off:=0) (cs:=Nz) (vs:=Nz) FE U U U (show 0+2≤2 by decide) rfl _ U)))
 ·intro b5 h0
  have b8:q4=true:=by simpa using b5
  refine AN (hK2 _ (sr U fun K9 hK9=>?_))
  refine Bb (m:=2) (l:=([]:List AK)) (enc:=Bk) Aj A2 (by decide) rfl U (by simp only[List.map,A4];rfl) rfl U U ?_
  refine zq tb U (dn hK9 U (AJ fun K10 hK10=>zr tb U U (bs h0 fun o15 h1 h0=>?_)))
  have M15 :∀(l14:(List AK)),o15=l14→∀s,Wk 0 s ⟨33,AM [(1,Ax),(2,Ao),(4,(ow 2 0 l14))],[(Kp p0.decls p0.funcs),Og,(FC l14)]⟩→K10 s:=by
   intro l14 hq s hw
   subst o15
   try dsimp only at h0
   refine hK10 _ (Aa hw (sr U fun K16 hK16=>zm tb 2 U (Al (Wk.Ey (L:=[(2,Ao),(28,(Gn p0)),(29,(Cx l14))]) (st':=[(Kp p0.decls p0.funcs),Og,B6]) (id:=2) rfl (show 0≤2 by decide) (AS Bg) ⟨.rfl,.rfl,(.Ey U),trivial⟩ U) (bs h0 fun q17 gq17 h0=>zc (v':=(.Cm [(.agg [(BS q17.1.decls),(ls A5 q17.1.funcs)]),(.bool q17.2)])) aI (NM gq17) rfl U U (zm tb 2 U (BI Aj FE U U U U U U (show 0+2≤2 by decide) rfl (zq tb U (dn hK16 U ?_))))))))
   replace h0:=Sh.AE h0
   subst r
   exact AP (Exists.intro _ (And.intro ((Ai (L:=[(2,Ax),(3,(.bool q17.2))]) (st':=[(Kp q17.1.decls q17.1.funcs)]) [1] U (by decide) rfl U (.raw U U .nil) ⟨.rfl,.rfl,trivial⟩).trans (Ab (L:=[(2,Ax),(3,(.bool q17.2))]) ⟨.rfl,.rfl,trivial⟩)) (A8 (x:=.tmp 2) (off:=0) (cs:=[(BS q17.1.decls),(ls A5 q17.1.funcs)]) (vs:=[(BS q17.1.decls),(ls A5 q17.1.funcs)]) FE U U U (show 0+2≤2 by decide) rfl _ U)))
  refine Ac (Aw (σ:=Int×(List AK)) (fun n v=>CK N p0 n v.1 v.2=some o15) (fun (i12,l13)=>⟨33,AM [(1,Ax),(2,Ao),(4,(ow 2 0 l13)),(5,(i64 i12))],[(Kp p0.decls p0.funcs),Og,(FC l13)]⟩) N (0,[]) h1 (AB U) (fun _ hv=>by rw[CK] at hv;cases hv) ?_)
  rintro n ⟨i12,l13⟩ h1
  try dsimp only at h1 ⊢
  rw[CK] at h1
  refine AJ fun K18 hK18=>sr U fun K19 hK19=>zm tb 3 U (zl tb U U (zq tb U (dn hK19 U ?_)))
  refine ci h1 U ?_ ?_ <;> clear h1
  ·intro b20 h1
   refine AN (hK18 _ (AJ fun K21 hK21=>Ac (AR U (zm tb 4 U (bs h1 fun c22 gc22 h1=>zx CQ gc22 U U U (zm tb 2 U (bs h1 fun q23 gq23 h1=>zc (v':=(B8 q23)) Y2 (Qo gq23) rfl U U ?_)))))))
   refine Bb (m:=3) (l:=[q23]) (enc:=Bk) Aj A2 (by decide) rfl U (by simp only[List.map,A4];rfl) rfl U U ?_
   refine bs h1 fun l24 gl24 h1=>FR (l2:=[q23]) Aj A2 U U U U (Ig U U Jc) Hz gl24 U (zq tb U (dn hK21 U (AR U (zm tb 3 U ?_))))
   exact AA (xi (Sh.w (i12+1),l24) h1 (by refine Wk.trans (Dv (L:=[(1,Ax),(2,Ao),(4,(ow 2 0 l24)),(5,(Kn i12))]) (st':=[(Kp p0.decls p0.funcs),Og,(FC l24),(ro 0 44 3 Bk [q23])]) (.raw U U (.raw U U (.pure (AS Bg) (.pure (AS Bg) .nil)))) (.same U)) ?_;exact Ai [0,1,2] U (by decide) rfl U (.raw U U (.raw U U (.pure (AS Bg) .nil))) (.same U)))
  ·intro b20 h1
   exact A0 (M15 l13 (Sh.AE h1).symm _ (AB U))
theorem Hn {p0:(List Ah)} {p1:Int} {r:Bool} (h0:Fe p0 p1=some r):Ak Tryz.prog 126 [(BS p0),(i64 p1)] [] (fun v st=>v=(.bool r)∧st=[]):=by
 unfold Fe at h0
 refine ai Tryz.func126 U U U U (zr tb U U (AJ fun K2 hK2=>bs h0 fun o4 h1 h0=>?_))
 have M4 :∀(t3:Bool),o4=t3→∀s,Wk 0 s ⟨13,AM [(4,(.bool t3))],[]⟩→K2 s:=by
  intro t3 hq s hw
  subst o4
  try dsimp only at h0
  refine hK2 _ (Aa hw ?_)
  replace h0:=Sh.AE h0
  subst r
  exact AP (xr (Ab (L:=[(4,(.bool t3))]) (.same U)))
 refine AR U (zm tb 3 U ?_)
 rcases Sh.Az h1 with ⟨b5,h1⟩ | ⟨b5,h1⟩
 ·exact zg tb b5 U (zg tb b5 U (BU (v:=(Bx p0)) (DH U U b5) rfl (Ci OS U) (zg tb b5 U (zt b5 U (zq tb U (AA (M4 (decide (p1≤(Sh.len p0))) (Sh.AE h1).symm _ (AB U))))))))
 ·refine zs b5 U ?_
  iterate 3 refine zs b5 rfl ?_
  exact zf b5 U (zq tb U (AA (M4 false (Sh.AE h1).symm _ (AB U))))
theorem H9 {N:Nat} {p0:(List Ah)} {p1:(List Int)} {r:Bool} (h0:FN N p0 p1=some r):Ak Tryz.prog 99 [(BS p0),(ls eI p1)] [] (fun v st=>v=(.bool r)∧st=[]):=by
 unfold FN at h0
 refine ai Tryz.func99 U U U U (zr tb U U (AJ fun K2 hK2=>sr U fun K3 hK3=>zq tb U (zl tb U U (zq tb U (dn hK3 U ?_)))))
 obtain⟨o5,h1,h0⟩:=Sh.BN h0
 have M5 :∀(_:Unit),o5=Sum.inr ()→∀s,Wk 0 s ⟨18,AM [],[]⟩→K2 s:=by
  intro _ hq s hw
  subst o5
  try dsimp only at h0
  refine hK2 _ (Aa hw (zr tb U U ?_))
  replace h0:=Sh.AE h0
  subst r
  exact AP (xr (Ab (L:=[(4,(.bool true))]) (.same U)))
 refine Ac (Aw (σ:=Int) (fun n v=>Dg p0 p1 n v=some o5) (fun t4=>⟨18,AM [(0,(BS p0)),(7,(ls eI p1)),(8,(Bx p1)),(9,(i64 t4))],[]⟩) N 0 h1 (AB U) (fun _ hv=>by rw[Dg] at hv;cases hv) ?_)
 rintro n t4 h1
 try dsimp only at h1 ⊢
 rw[Dg] at h1
 refine zr tb U U (AJ fun K8 hK8=>?_)
 refine ci h1 U ?_ ?_ <;> clear h1
 ·intro b9 h1
  refine AN (hK8 _ (AJ fun K10 hK10=>Ac (sr U fun K11 hK11=>bs h1 fun c12 gc12 h1=>zx Bu gc12 U U U (zm tb 2 U (dn hK11 U (sr U fun K13 hK13=>zm tb 2 U (bs h1 fun q14 gq14 h1=>zc TM (Hn gq14) rfl U U ?_)))))))
  refine zq tb U (dn hK13 U ?_)
  refine ci h1 U ?_ ?_ <;> clear h1
  ·intro b15 h1
   have b16:q14=false:=by simpa using b15
   refine zr tb U U ?_
   replace h1:=Sh.AE h1
   subst o5
   try dsimp only[id] at h0
   replace h0:=Sh.AE h0
   subst r
   exact AP (xr (Ab (L:=[(4,(.bool false))]) (.same U)))
  ·intro b15 h1
   have b18:q14=true:=by simpa using b15
   exact AN (hK10 _ (AR U (zm tb 2 U (AA (xi (Sh.w (t4+1)) h1 (AB U))))))
 ·intro b9 h1
  exact A0 (M5 () (Sh.AE h1).symm _ (AB U))
theorem NN {N:Nat} {p0:(List Ah)} {r:Bool} (h0:GF N p0=some r):Ak Tryz.prog 125 [(BS p0)] [] (fun v st=>v=(.bool r)∧st=[]):=by
 unfold GF at h0
 refine ai Tryz.func125 U U U U (zr tb U U (AJ fun K2 hK2=>sr U fun K3 hK3=>zq tb U (zl tb U U (zq tb U (dn hK3 U ?_)))))
 refine ci h0 U ?_ ?_ <;> clear h0
 ·intro b4 h0
  refine zr tb U U ?_
  replace h0:=Sh.AE h0
  subst r
  exact AP (xr (Ab (L:=[(2,(.bool false))]) (.same U)))
 ·intro b4 h0
  refine AN (hK2 _ (AJ fun K6 hK6=>sr U fun K7 hK7=>zq tb U (zl tb U U (zq tb U (dn hK7 U ?_)))))
  obtain⟨o9,h1,h0⟩:=Sh.BN h0
  have M9 :∀(_:Unit),o9=Sum.inr ()→∀s,Wk 0 s ⟨106,AM [],[]⟩→K6 s:=by
   intro _ hq s hw
   subst o9
   try dsimp only at h0
   refine hK6 _ (Aa hw (zr tb U U ?_))
   replace h0:=Sh.AE h0
   subst r
   exact AP (xr (Ab (L:=[(2,(.bool true))]) (.same U)))
  refine Ac (Aw (σ:=Int) (fun n v=>C9 N p0 n v=some o9) (fun t8=>⟨106,AM [(0,(BS p0)),(12,(BS p0)),(13,(Bx p0)),(14,(i64 t8))],[]⟩) N 0 h1 (AB U) (fun _ hv=>by rw[C9] at hv;cases hv) ?_)
  rintro n t8 h1
  try dsimp only at h1 ⊢
  rw[C9] at h1
  refine zr tb U U (AJ fun K12 hK12=>?_)
  refine ci h1 U ?_ ?_ <;> clear h1
  ·intro b13 h1
   refine AN (hK12 _ (AJ fun K14 hK14=>Ac (sr U fun K15 hK15=>zq tb U (bs h1 fun c16 gc16 h1=>zx DA gc16 U U U (zq tb U (A7 (m:=0) Aj GI U U (zq tb U (BI Aj Im U U U U U U (show 0+3≤3 by decide) rfl (dn hK15 U ?_)))))))))
   refine AJ fun K17 hK17=>AJ fun K18 hK18=>bs h1 fun o20 h2 h1=>?_
   have M20 :∀(t19:Bool),o20=t19→∀s,Wk 0 s ⟨106,AM [(0,(BS p0)),(3,(i64 t8)),(4,Ax),(12,(BS p0)),(13,(Bx p0)),(14,(i64 t8)),(52,(.bool t19))],(N6 c16)⟩→K18 s:=by
    intro t19 hq s hw
    subst o20
    try dsimp only at h1
    refine hK18 _ (Aa hw ?_)
    refine ci h1 U ?_ ?_ <;> clear h1
    ·intro b21 h1
     refine zr tb U U ?_
     replace h1:=Sh.AE h1
     subst o9
     try dsimp only[id] at h0
     replace h0:=Sh.AE h0
     subst r
     exact AP (xr (Aq [(2,(.bool false))] U))
    ·intro b21 h1
     refine AN (hK17 _ (AJ fun K23 hK23=>sr U fun K24 hK24=>zm tb 2 U (zl tb U U (zq tb U (dn hK24 U ?_)))))
     obtain⟨o26,h2,h1⟩:=Sh.BN h1
     have M26 :∀(_:Unit),o26=Sum.inr ()→∀s,Wk 0 s ⟨106,AM [(0,(BS p0)),(3,(i64 t8)),(4,Ax),(12,(BS p0)),(13,(Bx p0)),(14,(i64 t8))],(N6 c16)⟩→K23 s:=by
      intro _ hq s hw
      subst o26
      try dsimp only at h1
      refine hK23 _ (Aa hw (sr U fun K27 hK27=>zm tb 2 U (bs h1 fun l28 gl28 h1=>TL (i:=0) (j:=t8) Aj DA U U U (fun _=>U) gl28 (zl tb U U (zq tb U (dn hK27 U ?_))))))
      obtain⟨o30,h2,h1⟩:=Sh.BN h1
      have M30 :∀(_:Unit),o30=Sum.inr ()→∀s,Wk 0 s ⟨106,AM [(0,(BS p0)),(12,(BS p0)),(13,(Bx p0)),(14,(i64 t8))],[]⟩→K14 s:=by
       intro _ hq s hw
       subst o30
       try dsimp only at h1
       exact hK14 _ (Aa hw (AR U (zm tb 2 U (AA (xi (Sh.w (t8+1)) h1 (AB U))))))
      refine Ac (Aw (σ:=Int) (fun n v=>CZ c16 l28 n v=some o30) (fun t29=>⟨106,AM [(0,(BS p0)),(4,Ax),(12,(BS p0)),(13,(Bx p0)),(14,(i64 t8)),(74,(BS l28)),(75,(Bx l28)),(76,(i64 t29))],(N6 c16)⟩) N 0 h2 (AB U) (fun _ hv=>by rw[CZ] at hv;cases hv) ?_)
      rintro n t29 h2
      try dsimp only at h2 ⊢
      rw[CZ] at h2
      refine zr tb U U (AJ fun K32 hK32=>?_)
      refine ci h2 U ?_ ?_ <;> clear h2
      ·intro b33 h2
       refine AN (hK32 _ (AJ fun K34 hK34=>Ac (sr U fun K35 hK35=>bs h2 fun c36 gc36 h2=>zx DA gc36 U U U (zq tb U (A7 (m:=1) Aj GI U U (BI Aj Im U U U U U U (show 0+3≤3 by decide) rfl (dn hK35 U (AJ fun K37 hK37=>bs h2 fun o39 h3 h2=>?_))))))))
       have M39 :∀(t38:Bool),o39=t38→∀s,Wk 0 s ⟨106,AM [(0,(BS p0)),(4,Ax),(12,(BS p0)),(13,(Bx p0)),(14,(i64 t8)),(74,(BS l28)),(75,(Bx l28)),(76,(i64 t29)),(103,(.bool t38))],(N6 c16)⟩→K37 s:=by
        intro t38 hq s hw
        subst o39
        try dsimp only at h2
        refine hK37 _ (Aa hw ?_)
        refine ci h2 U ?_ ?_ <;> clear h2
        ·intro b40 h2
         refine zr tb U U ?_
         replace h2:=Sh.AE h2
         subst o30
         try dsimp only[id] at h1
         replace h1:=Sh.AE h1
         subst o9
         try dsimp only[id] at h0
         replace h0:=Sh.AE h0
         subst r
         exact AP (xr (Aq [(2,(.bool false))] U))
        ·intro b40 h2
         exact AN (hK34 _ (AR U (zm tb 2 U (AA (xi (Sh.w (t29+1)) h2 (AB U))))))
       refine AR U (zm tb 2 U (zl tb U U (zm tb 2 U ?_)))
       rcases Sh.Az h3 with ⟨b42,h3⟩ | ⟨b42,h3⟩
       ·refine zg tb b42 U (zg tb b42 U (BU (v:=(i64 (Sh.len c36.cons))) (DH U U b42) rfl (Ci Nc U) (zg tb b42 U (zt b42 U (zq tb U ?_)))))
        rcases Sh.Az h3 with ⟨b43,h3⟩ | ⟨b43,h3⟩
        ·refine zg tb b43 U ?_
         iterate 4 refine zg tb b43 rfl ?_
         refine zt b43 U (zq tb U ?_)
         rcases Sh.Az h3 with ⟨b44,h3⟩ | ⟨b44,h3⟩
         ·refine zg tb b44 U ?_
          iterate 4 refine zg tb b44 rfl ?_
          refine zt b44 U ?_
          exact AA (M39 (decide (c36.to=c16.to)) (Sh.AE h3).symm _ (Ai [0] U (by decide) rfl U (.raw U U .nil) (.same U)))
         ·refine zs b44 U ?_
          iterate 4 refine zs b44 rfl ?_
          refine zf b44 U ?_
          exact AA (M39 false (Sh.AE h3).symm _ (Ai [0] U (by decide) rfl U (.raw U U .nil) (.same U)))
        ·refine zs b43 U ?_
         iterate 4 refine zs b43 rfl ?_
         refine zf b43 U (zq tb U ?_)
         iterate 5 refine zs rfl rfl ?_
         refine zf U U ?_
         exact AA (M39 false (Sh.AE h3).symm _ (Ai [0] U (by decide) rfl U (.raw U U .nil) (.same U)))
       ·refine zs b42 U ?_
        iterate 3 refine zs b42 rfl ?_
        refine zf b42 U (zq tb U ?_)
        iterate 5 refine zs rfl rfl ?_
        refine zf U U (zq tb U ?_)
        iterate 5 refine zs rfl rfl ?_
        refine zf U U ?_
        exact AA (M39 false (Sh.AE h3).symm _ (Ai [0] U (by decide) rfl U (.raw U U .nil) (.same U)))
      ·intro b33 h2
       exact A0 (M30 () (Sh.AE h2).symm _ (Aq _ U))
     refine Ac (Aw (σ:=Int) (fun n v=>Ca N c16 p0 n v=some o26) (fun t25=>⟨106,AM [(0,(BS p0)),(3,(i64 t8)),(4,Ax),(12,(BS p0)),(13,(Bx p0)),(14,(i64 t8)),(54,(ls At c16.cons)),(55,(i64 (Sh.len c16.cons))),(56,(i64 t25))],(N6 c16)⟩) N 0 h2 (AB U) (fun _ hv=>by rw[Ca] at hv;cases hv) ?_)
     rintro n t25 h2
     try dsimp only at h2 ⊢
     rw[Ca] at h2
     refine zr tb U U (AJ fun K46 hK46=>?_)
     refine ci h2 U ?_ ?_ <;> clear h2
     ·intro b47 h2
      refine AN (hK46 _ (AJ fun K48 hK48=>Ac (sr U fun K49 hK49=>bs h2 fun c50 gc50 h2=>zx H0 gc50 U U U (zq tb U (A7 (m:=1) Aj Ki U U (BI Aj Iw U U U U U U (show 0+1≤1 by decide) rfl (dn hK49 U (AJ fun K51 hK51=>bs h2 fun o53 h3 h2=>?_))))))))
      have M53 :∀(t52:Bool),o53=t52→∀s,Wk 0 s ⟨106,AM [(0,(BS p0)),(3,(i64 t8)),(4,Ax),(12,(BS p0)),(13,(Bx p0)),(14,(i64 t8)),(54,(ls At c16.cons)),(55,(i64 (Sh.len c16.cons))),(56,(i64 t25)),(70,(.bool t52))],(N6 c16)⟩→K51 s:=by
       intro t52 hq s hw
       subst o53
       try dsimp only at h2
       refine hK51 _ (Aa hw ?_)
       refine ci h2 U ?_ ?_ <;> clear h2
       ·intro b54 h2
        refine zr tb U U ?_
        replace h2:=Sh.AE h2
        subst o26
        try dsimp only[id] at h1
        replace h1:=Sh.AE h1
        subst o9
        try dsimp only[id] at h0
        replace h0:=Sh.AE h0
        subst r
        exact AP (xr (Aq [(2,(.bool false))] U))
       ·intro b54 h2
        exact AN (hK48 _ (AR U (zm tb 2 U (AA (xi (Sh.w (t25+1)) h2 (AB U))))))
      refine AR U (zm tb 2 U (zl tb U U (zm tb 2 U ?_)))
      rcases Sh.Az h3 with ⟨b56,h3⟩ | ⟨b56,h3⟩
      ·refine zs b56 U ?_
       iterate 4 refine zs b56 rfl ?_
       refine zt b56 U ?_
       exact AA (M53 true (Sh.AE h3).symm _ (Ai [0] U (by decide) rfl U (.raw U U .nil) (.same U)))
      ·refine zg tb b56 U (zg tb b56 U (zg tb b56 U (bs h3 fun q57 gq57 h3=>zd b56 XD (H9 gq57) rfl U U U (zg tb b56 U (zf b56 U ?_)))))
       exact AA (M53 (!q57) (Sh.AE h3).symm _ (Ai [0] U (by decide) rfl U (.raw U U .nil) (.same U)))
     ·intro b47 h2
      exact A0 (M26 () (Sh.AE h2).symm _ (AB U))
   refine AR U (zm tb 3 U (bs h2 fun q58 gq58 h2=>zc TM (Hn gq58) rfl U U (zm tb 2 U ?_)))
   rcases Sh.Az h2 with ⟨b59,h2⟩ | ⟨b59,h2⟩
   ·refine zs b59 U ?_
    iterate 4 refine zs b59 rfl ?_
    refine zt b59 U (zq tb U ?_)
    iterate 4 refine zs rfl rfl ?_
    refine zt U U (zq tb U ?_)
    iterate 5 refine zs rfl rfl ?_
    iterate 8 refine zn rfl ?_
    exact zs U U (zt U U (AA (M20 true (Sh.AE h2).symm _ (AB U))))
   ·refine zg tb b59 U (zg tb b59 U (zg tb b59 U (bs h2 fun q60 gq60 h2=>zd b59 TM (Hn gq60) rfl U U U (zg tb b59 U (zf b59 U (zq tb U ?_))))))
    rcases Sh.Az h2 with ⟨b61,h2⟩ | ⟨b61,h2⟩
    ·refine zs b61 U ?_
     iterate 3 refine zs b61 rfl ?_
     refine zt b61 U (zq tb U ?_)
     iterate 5 refine zs rfl rfl ?_
     iterate 8 refine zn rfl ?_
     exact zs U U (zt U U (AA (M20 true (Sh.AE h2).symm _ (AB U))))
    ·refine zg tb b61 U (zg tb b61 U (BU (v:=(i64 (Sh.len c16.cons))) (DH U U b61) rfl (Ci Nc U) (zg tb b61 U (zf b61 U (zq tb U ?_)))))
     rcases Sh.Az h2 with ⟨b62,h2⟩ | ⟨b62,h2⟩
     ·refine zs b62 U ?_
      iterate 4 refine zs b62 rfl ?_
      iterate 8 refine zn rfl ?_
      exact zs b62 U (zt b62 U (AA (M20 true (Sh.AE h2).symm _ (AB U))))
     ·refine zg tb b62 U (zg tb b62 U (BU (v:=(i64 (Sh.len c16.cons))) (DH U U b62) rfl (Ci Nc U) (zg tb b62 U (zg tb b62 U ?_))))
      rcases Sh.Az h2 with ⟨b63,h2⟩ | ⟨b63,h2⟩
      ·refine zg tb b63 U ?_
       iterate 3 refine zg tb b63 rfl ?_
       rcases Sh.Az h2 with ⟨b64,h2⟩ | ⟨b64,h2⟩
       ·exact zs b64 U (zs b64 U (zs b64 U (BU (v:=(.bool true)) (DH U U b63) rfl (Lp U b64 U) (BU (v:=(.bool true)) (DH U U b62) rfl (Lp U b63 U) (zf b62 U (AA (M20 true (Sh.AE h2).symm _ (AB U))))))))
       ·exact zg tb b64 U (zg tb b64 U (zg tb b64 U (BU (v:=(.bool (!decide (c16.to=0)))) (DH U U b63) rfl (NC U b64 U) (BU (v:=(.bool (!decide (c16.to=0)))) (DH U U b62) rfl (Lp U b63 U) (zf b62 U (AA (M20 (!decide (c16.to=0)) (Sh.AE h2).symm _ (AB U))))))))
      ·refine zs b63 U ?_
       iterate 3 refine zs b63 rfl ?_
       iterate 3 refine zn rfl ?_
       exact zs b63 U (BU (v:=(.bool false)) (DH U U b62) rfl (NC U b63 U) (zf b62 U (AA (M20 false (Sh.AE h2).symm _ (AB U)))))
  ·intro b13 h1
   exact A0 (M9 () (Sh.AE h1).symm _ (AB U))
theorem OB {N:Nat} {p0:(List Ah)} {p1:(List BV)} {r:Bool} (h0:GV N p0 p1=some r):Ak Tryz.prog 98 [(BS p0),(ls Bc p1)] [] (fun v st=>v=(.bool r)∧st=[]):=by
 unfold GV at h0
 refine ai Tryz.func98 U U U U (zr tb U U (AJ fun K2 hK2=>AJ fun K3 hK3=>bs h0 fun o5 h1 h0=>?_))
 have M5 :∀(t4:Bool),o5=t4→∀s,Wk 0 s ⟨102,AM [(0,(BS p0)),(1,(ls Bc p1)),(36,(.bool t4))],[]⟩→K3 s:=by
  intro t4 hq s hw
  subst o5
  try dsimp only at h0
  refine hK3 _ (Aa hw ?_)
  refine ci h0 U ?_ ?_ <;> clear h0
  ·intro b6 h0
   refine zr tb U U ?_
   replace h0:=Sh.AE h0
   subst r
   exact AP (xr (Ab (L:=[(4,(.bool false))]) (.same U)))
  ·intro b6 h0
   refine AN (hK2 _ (AJ fun K8 hK8=>sr U fun K9 hK9=>zq tb U (zl tb U U (zq tb U (dn hK9 U ?_)))))
   obtain⟨o11,h1,h0⟩:=Sh.BN h0
   have M11 :∀(_:Unit),o11=Sum.inr ()→∀s,Wk 0 s ⟨102,AM [],[]⟩→K8 s:=by
    intro _ hq s hw
    subst o11
    try dsimp only at h0
    refine hK8 _ (Aa hw (zr tb U U ?_))
    replace h0:=Sh.AE h0
    subst r
    exact AP (xr (Ab (L:=[(4,(.bool true))]) (.same U)))
   refine Ac (Aw (σ:=Int) (fun n v=>Cz N p0 p1 n v=some o11) (fun t10=>⟨102,AM [(0,(BS p0)),(37,(ls Bc p1)),(38,(Bx p1)),(39,(i64 t10))],[]⟩) N 0 h1 (AB U) (fun _ hv=>by rw[Cz] at hv;cases hv) ?_)
   rintro n t10 h1
   try dsimp only at h1 ⊢
   rw[Cz] at h1
   refine zr tb U U (AJ fun K14 hK14=>?_)
   refine ci h1 U ?_ ?_ <;> clear h1
   ·intro b15 h1
    refine AN (hK14 _ (AJ fun K16 hK16=>Ac (sr U fun K17 hK17=>bs h1 fun c18 gc18 h1=>zx Kh gc18 U U U (zq tb U (A7 (m:=0) Aj U4 U U (BI Aj Zf U U U U U U (show 0+3≤3 by decide) rfl (dn hK17 U (AJ fun K19 hK19=>AJ fun K20 hK20=>?_))))))))
    refine bs h1 fun o22 h2 h1=>?_
    have M22 :∀(t21:Bool),o22=t21→∀s,Wk 0 s ⟨102,AM [(0,(BS p0)),(6,Ax),(37,(ls Bc p1)),(38,(Bx p1)),(39,(i64 t10)),(60,(.bool t21))],[⟨0,116,3,[[(ls eI c18.params),(ls eI c18.Ec),(i64 c18.result)]]⟩]⟩→K20 s:=by
     intro t21 hq s hw
     subst o22
     try dsimp only at h1
     refine hK20 _ (Aa hw ?_)
     refine ci h1 U ?_ ?_ <;> clear h1
     ·intro b23 h1
      refine zr tb U U ?_
      replace h1:=Sh.AE h1
      subst o11
      try dsimp only[id] at h0
      replace h0:=Sh.AE h0
      subst r
      exact AP (xr (Aq [(4,(.bool false))] U))
     ·intro b23 h1
      refine AN (hK19 _ (sr U fun K25 hK25=>zm tb 2 U (zl tb U U (zq tb U (dn hK25 U ?_)))))
      obtain⟨o27,h2,h1⟩:=Sh.BN h1
      have M27 :∀(_:Unit),o27=Sum.inr ()→∀s,Wk 0 s ⟨102,AM [(0,(BS p0)),(37,(ls Bc p1)),(38,(Bx p1)),(39,(i64 t10))],[]⟩→K16 s:=by
       intro _ hq s hw
       subst o27
       try dsimp only at h1
       exact hK16 _ (Aa hw (AR U (zm tb 2 U (AA (xi (Sh.w (t10+1)) h1 (AB U))))))
      refine Ac (Aw (σ:=Int) (fun n v=>C0 c18 n v=some o27) (fun t26=>⟨102,AM [(0,(BS p0)),(6,Ax),(37,(ls Bc p1)),(38,(Bx p1)),(39,(i64 t10)),(62,(ls eI c18.Ec)),(63,(i64 (Sh.len c18.Ec))),(64,(i64 t26))],[⟨0,116,3,[[(ls eI c18.params),(ls eI c18.Ec),(i64 c18.result)]]⟩]⟩) N 0 h2 (AB U) (fun _ hv=>by rw[C0] at hv;cases hv) ?_)
      rintro n t26 h2
      try dsimp only at h2 ⊢
      rw[C0] at h2
      refine zr tb U U (AJ fun K29 hK29=>?_)
      refine ci h2 U ?_ ?_ <;> clear h2
      ·intro b30 h2
       refine AN (hK29 _ (AJ fun K31 hK31=>Ac (sr U fun K32 hK32=>zq tb U (bs h2 fun c33 gc33 h2=>zx Bu gc33 U U U (zm tb 3 U (dn hK32 U (AJ fun K34 hK34=>bs h2 fun o36 h3 h2=>?_)))))))
       have M36 :∀(t35:Bool),o36=t35→∀s,Wk 0 s ⟨102,AM [(0,(BS p0)),(6,Ax),(37,(ls Bc p1)),(38,(Bx p1)),(39,(i64 t10)),(62,(ls eI c18.Ec)),(63,(i64 (Sh.len c18.Ec))),(64,(i64 t26)),(99,(.bool t35))],[⟨0,116,3,[[(ls eI c18.params),(ls eI c18.Ec),(i64 c18.result)]]⟩]⟩→K34 s:=by
        intro t35 hq s hw
        subst o36
        try dsimp only at h2
        refine hK34 _ (Aa hw ?_)
        refine ci h2 U ?_ ?_ <;> clear h2
        ·intro b37 h2
         refine zr tb U U ?_
         replace h2:=Sh.AE h2
         subst o27
         try dsimp only[id] at h1
         replace h1:=Sh.AE h1
         subst o11
         try dsimp only[id] at h0
         replace h0:=Sh.AE h0
         subst r
         exact AP (xr (Aq [(4,(.bool false))] U))
        ·intro b37 h2
         exact AN (hK31 _ (AR U (zm tb 2 U (AA (xi (Sh.w (t26+1)) h2 (AB U))))))
       refine AR U (zm tb 3 U ?_)
       rcases Sh.Az h3 with ⟨b39,h3⟩ | ⟨b39,h3⟩
       ·refine zs b39 U ?_
        iterate 4 refine zs b39 rfl ?_
        refine zt b39 U (zq tb U ?_)
        iterate 6 refine zs rfl rfl ?_
        refine zt U U (zq tb U ?_)
        iterate 3 refine zs rfl rfl ?_
        iterate 8 refine zn rfl ?_
        exact zs U U (zt U U (AA (M36 true (Sh.AE h3).symm _ (AB U))))
       ·refine zg tb b39 U (zg tb b39 U (zg tb b39 U (BU (v:=(i64 (Sh.len c18.params))) (DH U U b39) rfl (Ci FU U) (zg tb b39 U (zf b39 U (zq tb U ?_))))))
        rcases Sh.Az h3 with ⟨b40,h3⟩ | ⟨b40,h3⟩
        ·refine zs b40 U ?_
         iterate 5 refine zs b40 rfl ?_
         refine zt b40 U (zq tb U ?_)
         iterate 3 refine zs rfl rfl ?_
         iterate 8 refine zn rfl ?_
         exact zs U U (zt U U (AA (M36 true (Sh.AE h3).symm _ (AB U))))
        ·refine zg tb b40 U (zg tb b40 U (zg tb b40 U (bs h3 fun c41 gc41 h3=>BU (v:=(.B1 (eI c41) 0)) (DH U U b40) rfl (Eo Bu U U gc41 U) (zg tb b40 U (zg tb b40 U (zf b40 U (zq tb U ?_)))))))
         rcases Sh.Az h3 with ⟨b42,h3⟩ | ⟨b42,h3⟩
         ·refine zs b42 U (zs b42 U (zs b42 U ?_))
          iterate 8 refine zn rfl ?_
          exact zs b42 U (zt b42 U (AA (M36 true (Sh.AE h3).symm _ (AB U))))
         ·refine zg tb b42 U (zg tb b42 U (zg tb b42 U ?_))
          rcases Sh.Az h3 with ⟨b43,h3⟩ | ⟨b43,h3⟩
          ·refine zg tb b43 U ?_
           iterate 4 refine zg tb b43 rfl ?_
           exact bs h3 fun c44 gc44 h3=>BU (v:=(.B1 (eI c44) 0)) (DH U U b43) rfl (Eo Bu U U gc44 U) (zg tb b43 U (zg tb b43 U (BU (v:=(.bool (decide (c33≤c44)))) (DH U U b42) rfl (Lp U b43 U) (zf b42 U (AA (M36 (decide (c33≤c44)) (Sh.AE h3).symm _ (AB U)))))))
          ·refine zs b43 U ?_
           iterate 7 refine zs b43 rfl ?_
           exact BU (v:=(.bool false)) (DH U U b42) rfl (NC U b43 U) (zf b42 U (AA (M36 false (Sh.AE h3).symm _ (AB U))))
      ·intro b30 h2
       exact A0 (M27 () (Sh.AE h2).symm _ (Aq _ U))
    refine AR U (zm tb 2 U (zl tb U U (zm tb 2 U ?_)))
    rcases Sh.Az h2 with ⟨b45,h2⟩ | ⟨b45,h2⟩
    ·refine zs b45 U ?_
     iterate 4 refine zs b45 rfl ?_
     refine zt b45 U (zq tb U ?_)
     iterate 5 refine zs rfl rfl ?_
     exact zt U U (AA (M22 true (Sh.AE h2).symm _ (AB U)))
    ·refine zg tb b45 U (zg tb b45 U (zg tb b45 U (bs h2 fun q46 gq46 h2=>zd b45 XD (H9 gq46) rfl U U U (zg tb b45 U (zf b45 U (zq tb U ?_))))))
     rcases Sh.Az h2 with ⟨b47,h2⟩ | ⟨b47,h2⟩
     ·refine zs b47 U ?_
      iterate 4 refine zs b47 rfl ?_
      exact zt b47 U (AA (M22 true (Sh.AE h2).symm _ (AB U)))
     ·exact zg tb b47 U (zg tb b47 U (zg tb b47 U (bs h2 fun q48 gq48 h2=>zd b47 TM (Hn gq48) rfl U U U (zg tb b47 U (zf b47 U (AA (M22 (!q48) (Sh.AE h2).symm _ (AB U))))))))
   ·intro b15 h1
    exact A0 (M11 () (Sh.AE h1).symm _ (AB U))
 refine AR U (zq tb U (bs h1 fun q49 gq49 h1=>zc Zu (NN gq49) rfl U U (zm tb 2 U ?_)))
 rcases Sh.Az h1 with ⟨b50,h1⟩ | ⟨b50,h1⟩
 ·refine zs b50 U (zs b50 U (zs b50 U (zt b50 U (zq tb U ?_))))
  iterate 3 refine zs rfl rfl ?_
  refine zt U U (zq tb U ?_)
  iterate 6 refine zs rfl rfl ?_
  refine zt U U (zq tb U ?_)
  iterate 5 refine zs rfl rfl ?_
  exact zt U U (AA (M5 true (Sh.AE h1).symm _ (AB U)))
 ·refine zg tb b50 U (BU (v:=(Bx p1)) (DH U U b50) rfl (Ci VA U) (zg tb b50 U (zf b50 U (zq tb U ?_))))
  rcases Sh.Az h1 with ⟨b51,h1⟩ | ⟨b51,h1⟩
  ·refine zs b51 U (zs b51 U (zs b51 U (zt b51 U (zq tb U ?_))))
   iterate 6 refine zs rfl rfl ?_
   refine zt U U (zq tb U ?_)
   iterate 5 refine zs rfl rfl ?_
   exact zt U U (AA (M5 true (Sh.AE h1).symm _ (AB U)))
  ·refine zg tb b51 U (BU (v:=(Bx p1)) (DH U U b51) rfl (Ci VA U) (zg tb b51 U (zf b51 U (zq tb U ?_))))
   rcases Sh.Az h1 with ⟨b52,h1⟩ | ⟨b52,h1⟩
   ·refine zs b52 U ?_
    iterate 5 refine zs b52 rfl ?_
    refine zt b52 U (zq tb U ?_)
    iterate 5 refine zs rfl rfl ?_
    exact zt U U (AA (M5 true (Sh.AE h1).symm _ (AB U)))
   ·refine zg tb b52 U (bs h1 fun c53 gc53 h1=>BU (v:=(.B1 (Bc c53) 0)) (DH U U b52) rfl (Eo Kh U U gc53 U) (zg tb b52 U (zg tb b52 U (BU (v:=(i64 (Sh.len c53.params))) (DH U U b52) rfl (Ci FU U) (zg tb b52 U (zf b52 U (zq tb U ?_)))))))
    rcases Sh.Az h1 with ⟨b54,h1⟩ | ⟨b54,h1⟩
    ·refine zs b54 U ?_
     iterate 4 refine zs b54 rfl ?_
     exact zt b54 U (AA (M5 true (Sh.AE h1).symm _ (AB U)))
    ·refine zg tb b54 U (BU (v:=(.B1 (Bc c53) 0)) (DH U U b54) rfl (Eo Kh U U gc53 U) ?_)
     iterate 3 refine zg tb b54 rfl ?_
     exact zf b54 U (AA (M5 (!decide (c53.result=0)) (Sh.AE h1).symm _ (AB U)))
theorem Ju {N:Nat} {p0:Ag} {r:Bool} (h0:Fc N p0=some r):Ak Tryz.prog 53 [(Gn p0)] [] (fun v st=>v=(.bool r)∧st=[]):=by
 unfold Fc at h0
 refine ai Tryz.func53 U U U U (sr U fun K1 hK1=>BY (m:=0) Aj U U U U U (zq tb U (dn hK1 U (sr U fun K2 hK2=>We (c:=4) (m:=1) (st':=[(Kp p0.decls p0.funcs),(ro 0 116 3 Bc ([]:List BV))]) Kh U U U U U (zq tb U (dn hK2 U (AJ fun K3 hK3=>sr U fun K4 hK4=>zm tb 2 U ?_)))))))
 refine zl tb U U (zq tb U (dn hK4 U ?_))
 refine ci h0 U ?_ ?_ <;> clear h0
 ·intro b5 h0
  refine zr tb U U ?_
  replace h0:=Sh.AE h0
  subst r
  exact AP (xr (Aq [(2,(.bool false))] U))
 ·intro b5 h0
  refine AN (hK3 _ (AJ fun K7 hK7=>sr U fun K8 hK8=>zm tb 2 U (zl tb U U (zq tb U (dn hK8 U (bs h0 fun o12 h1 h0=>?_))))))
  have M12 :∀(l11:(List BV)),o12=l11→∀s,Wk 0 s ⟨31,AM [(1,Ax),(3,(ow 1 0 l11))],[(Kp p0.decls p0.funcs),(ro 0 116 3 Bc l11)]⟩→K7 s:=by
   intro l11 hq s hw
   subst o12
   try dsimp only at h0
   refine hK7 _ (Aa hw (sr U fun K13 hK13=>zm tb 3 U (Al (Wk.Ey (L:=[(28,(ls Ad p0.decls)),(29,(ls Bc l11))]) (st':=[(Kp p0.decls p0.funcs),⟨1,116,3,[]⟩]) (id:=1) rfl (show 0≤1 by decide) (AS fun _=>U) ⟨.rfl,(.Ey U),trivial⟩ U) (bs h0 fun q14 gq14 h0=>zc aZ (OB gq14) rfl U U (zq tb U (dn hK13 U ?_))))))
   replace h0:=Sh.AE h0
   subst r
   exact AP (xr (Aq [(2,(.bool q14))] U))
  refine Ac (Aw (σ:=Int×(List BV)) (fun n v=>CX p0 n v.1 v.2=some o12) (fun (t9,l10)=>⟨31,AM [(1,Ax),(3,(ow 1 0 l10)),(12,(Ie p0)),(13,(i64 (Sh.len p0.funcs))),(14,(i64 t9))],[(Kp p0.decls p0.funcs),(ro 0 116 3 Bc l10)]⟩) N (0,[]) h1 (AB U) (fun _ hv=>by rw[CX] at hv;cases hv) ?_)
  rintro n ⟨t9,l10⟩ h1
  try dsimp only at h1 ⊢
  rw[CX] at h1
  refine zr tb U U (AJ fun K16 hK16=>?_)
  refine ci h1 U ?_ ?_ <;> clear h1
  ·intro b17 h1
   refine AN (hK16 _ (AJ fun K18 hK18=>Ac (sr U fun K19 hK19=>bs h1 fun c20 gc20 h1=>zx CQ gc20 U U U (zq tb U (A7 (m:=2) Aj Mu U U (BI Aj O9 U U U U U U (show 0+5≤5 by decide) rfl (dn hK19 U (AR U (zm tb 5 U ?_)))))))))
   refine zz (.agg [(ls eI c20.params),.zc,(i64 c20.result)]) (FX XA YB U4 U U) rfl (Al (Ab (L:=[(1,Ax),(12,(Ie p0)),(13,(i64 (Sh.len p0.funcs))),(14,(i64 t9)),(18,(ow 1 0 l10)),(23,(.agg [(ls eI c20.params),(.sl (List.map eI [])),(i64 c20.result)]))]) ⟨.rfl,.rfl,.rfl,.rfl,.rfl,(.agg ⟨.rfl,.zc,.rfl,trivial⟩),trivial⟩) ?_)
   refine Bb (m:=3) (l:=([(BV.mk c20.params [] c20.result)])) (enc:=Bc) Aj Kh (by decide) rfl U U U U U ?_
   refine bs h1 fun l21 gl21 h1=>FR (l2:=([(BV.mk c20.params [] c20.result)])) Aj Kh U U U U (Ig U U) (fun _=>U) gl21 U (zq tb U (dn hK18 U (AR U (zm tb 2 U ?_))))
   exact AA (xi (Sh.w (t9+1),l21) h1 (by refine Wk.trans (Dv (L:=[(1,Ax),(3,(ow 1 0 l21)),(12,(Ie p0)),(13,(i64 (Sh.len p0.funcs))),(14,(Kn t9))]) (st':=[(Kp p0.decls p0.funcs),(ro 0 116 3 Bc l21),⟨0,48,5,[(Q4 c20)]⟩,(ro 0 116 3 Bc ([(BV.mk c20.params [] c20.result)]))]) (.raw U U (.pure (AS fun _=>U) (.raw U U (.pure (AS fun _=>U) .nil)))) (.same U)) ?_;exact Ai [0,1] U (by decide) rfl U (.raw U U (.pure (AS fun _=>U) .nil)) (.same U)))
  ·intro b17 h1
   exact A0 (M12 l10 (Sh.AE h1).symm _ (AB U))
theorem ML {N:Nat} {rec_impl_countNodes:Int→AK→Option (Bool×Int)} (hrec_impl_countNodes :∀{s0_0:Int} {p0:AK} {r:Bool×Int},rec_impl_countNodes s0_0 p0=some r→Ak Tryz.prog 106 [(B8 p0),Ax] [(NW s0_0)] (fun v st=>v=(.bool r.1)∧st=[(NW r.2)])) {s0_0:Int} {p0:AK} {r:Bool×Int} (h0:GN N rec_impl_countNodes s0_0 p0=some r):Ak Tryz.prog 106 [(B8 p0),Ax] [(NW s0_0)] (fun v st=>v=(.bool r.1)∧st=[(NW r.2)]):=by
 unfold GN at h0
 refine ai Tryz.func106 U U U U (sr U fun K1 hK1=>BY (m:=1) Aj U U U U U (zq tb U (dn hK1 U (AJ fun K2 hK2=>sr U fun K3 hK3=>zm tb 5 U (BI Aj Em U U U U U U (show 0+1≤1 by decide) rfl (dn hK3 U (zr tb U U ?_)))))))
 refine ci h0 U ?_ ?_ <;> clear h0
 ·intro b5 h0
  refine zr tb U U ?_
  replace h0:=Sh.AE h0
  subst r
  exact AP (xr (Ai (L:=[(4,(.bool false))]) (st':=[⟨0,3,1,[[(Kn s0_0)]]⟩]) [0] U (by decide) rfl U (.raw U U .nil) ⟨.rfl,trivial⟩))
 ·intro b5 h0
  refine AN (hK2 _ (AJ fun K7 hK7=>sr U fun K8 hK8=>zm tb 2 U (zl tb U U (zq tb U (dn hK8 U ?_)))))
  obtain⟨o12,h1,h0⟩:=Sh.BN h0
  have M12 :∀(f11:Int),o12=Sum.inr f11→∀s,Wk 1 s ⟨28,AM [],[(NW f11)]⟩→K7 s:=by
   intro f11 hq s hw
   subst o12
   try dsimp only at h0
   refine hK7 _ (Aa hw (zr tb U U ?_))
   replace h0:=Sh.AE h0
   subst r
   exact AP (xr (Ab (L:=[(4,(.bool true))]) (.same U)))
  refine Ac (Aw (σ:=Int×Int) (fun n v=>CF p0 rec_impl_countNodes n v.1 v.2=some o12) (fun (t9,f10)=>⟨28,AM [(1,Ax),(17,(Fq p0)),(18,(Hx p0)),(19,(i64 t9))],[(NW f10)]⟩) N (0,Sh.w (s0_0+1)) h1 (Ai [0] U (by decide) rfl U (.raw U U .nil) (.same U)) (fun _ hv=>by rw[CF] at hv;cases hv) ?_)
  rintro n ⟨t9,f10⟩ h1
  try dsimp only at h1 ⊢
  rw[CF] at h1
  refine zr tb U U (AJ fun K15 hK15=>?_)
  refine ci h1 U ?_ ?_ <;> clear h1
  ·intro b16 h1
   refine AN (hK15 _ (AJ fun K17 hK17=>Ac (sr U fun K18 hK18=>bs h1 fun c19 gc19 h1=>zz (FF c19) (Bq A2 U U gc19 (A4 _) rfl) rfl (zq tb U (A7 (m:=1) Aj Ik U U (BI Aj Bz U U U U U U (show 0+3≤3 by decide) rfl (dn hK18 U (sr U fun K20 hK20=>zm tb 2 U ?_))))))))
   refine bs h1 fun q21 gq21 h1=>?_
   refine OO (rows0:=[(NW f10)]) (rows1:=[(NW q21.2)]) (st':=[(NW q21.2),(Te c19.op c19.num c19.kids)]) (v':=(.bool q21.1)) [0] Aj XB (hrec_impl_countNodes gq21) rfl (by decide) rfl U (.raw U U .nil) rfl U (.raw U U .nil) .nil U U ?_
   refine zq tb U (dn hK20 U ?_)
   refine ci h1 U ?_ ?_ <;> clear h1
   ·intro b22 h1
    have b23:q21.1=false:=by simpa using b22
    refine zr tb U U ?_
    replace h1:=Sh.AE h1
    subst o12
    try dsimp only[id] at h0
    replace h0:=Sh.AE h0
    subst r
    exact AP (xr (Ai (L:=[(4,(.bool false))]) (st':=[(NW q21.2)]) [0] U (by decide) rfl U (.raw U U .nil) ⟨.rfl,trivial⟩))
   ·intro b22 h1
    have b25:q21.1=true:=by simpa using b22
    refine AN (hK17 _ (AR U (zm tb 2 U ?_)))
    exact AA (xi (Sh.w (t9+1),q21.2) h1 (Ai [0] U (by decide) rfl U (.raw U U .nil) (.same U)))
  ·intro b16 h1
   exact A0 (M12 f10 (Sh.AE h1).symm _ (AB U))

theorem L9 {N:Nat} :∀(n:Nat),∀{s0_0:Int} {p0:AK} {r:Bool×Int},DU N n s0_0 p0=some r→Ak Tryz.prog 106 [(B8 p0),Ax] [(NW s0_0)] (fun v st=>v=(.bool r.1)∧st=[(NW r.2)]):=by
 intro n
 induction n with
 | zero=>intro s0_0 p0 r h0;cases h0
 | succ n ih=>
  intro s0_0 p0 r h0
  rw[DU] at h0
  exact ML (fun h=>ih h) h0
theorem NP {N:Nat} :∀{s0_0:Int} {p0:AK} {r:Bool×Int},Is N s0_0 p0=some r→Ak Tryz.prog 106 [(B8 p0),Ax] [(NW s0_0)] (fun v st=>v=(.bool r.1)∧st=[(NW r.2)]):=by
 intro s0_0 p0 r h0
 exact L9 N h0
theorem LN {N:Nat} {p0:AK} {r:Int} (h0:Gi N p0=some r):Ak Tryz.prog 57 [(B8 p0)] [] (fun v st=>v=(i64 r)∧st=[]):=by
 unfold Gi at h0
 refine ai Tryz.func57 U U U U (sr U fun K1 hK1=>BY (m:=0) Aj U U U U U (zq tb U (dn hK1 U (sr U fun K2 hK2=>A7 (m:=1) Aj bV U U (BI Aj Em U U U U U U (show 0+1≤1 by decide) rfl (dn hK2 U (AJ fun K3 hK3=>sr U fun K4 hK4=>zq tb U ?_)))))))
 refine bs h0 fun q5 gq5 h0=>?_
 refine OO (rows0:=[⟨0,3,1,[[(i64 0)]]⟩]) (rows1:=[(NW q5.2)]) (st':=[(Te p0.op p0.num p0.kids),(NW q5.2)]) (v':=(.bool q5.1)) [1] Aj XB (NP gq5) rfl (by decide) rfl U (.raw U U .nil) rfl U (.raw U U .nil) .nil U U ?_
 refine zq tb U (dn hK4 U ?_)
 refine ci h0 U ?_ ?_ <;> clear h0
 ·intro b6 h0
  have b7:q5.1=false:=by simpa using b6
  refine zr tb U U ?_
  replace h0:=Sh.AE h0
  subst r
  exact AP (xr (Aq [(2,(i64 (-1)))] U))
 ·intro b6 h0
  have b9:q5.1=true:=by simpa using b6
  refine AN (hK3 _ (zr tb U U ?_))
  replace h0:=Sh.AE h0
  subst r
  exact AP (xr (Aq [(2,(i64 q5.2))] U))
theorem L3 {N:Nat} {p0:Ag} {r:BH} (h0:IA N p0=some r):Ak Tryz.prog 100 [(Gn p0)] [] (fun v st=>v=(FV r)∧st=[]):=by
 unfold IA at h0
 refine EP U (ai Tryz.func100 U U U U (sr U fun K1 hK1=>BY (m:=0) Aj U U U U U (A7 (m:=1) Aj Uo U U (dn hK1 U (sr U fun K2 hK2=>zm tb 2 U (zz (.agg [(ls Ad p0.decls),.zc]) (FX ZY Z9 Uo U U) rfl (A7 (m:=2) Aj Uo U U (BI Aj Vq U U U U U U (show 0+2≤2 by decide) rfl (dn hK2 U ?_)))))))))
 refine AJ fun K3 hK3=>sr U fun K4 hK4=>zm tb 2 U (zl tb U U (zq tb U (dn hK4 U (bs h0 fun o8 h1 h0=>?_))))
 have M8 :∀(l7:(List BV)),o8=l7→∀s,Wk 0 s ⟨28,AM [(2,Ax),(3,Ao)],[Uq,⟨0,119,2,[[(ls Ad p0.decls),(ow 2 0 l7)]]⟩,(ro 0 116 3 Bc l7)]⟩→K3 s:=by
  intro l7 hq s hw
  subst o8
  try dsimp only at h0
  refine hK3 _ (Aa hw (sr U fun K9 hK9=>zq tb U (Al (Wk.Ey (L:=[(2,Ax),(27,(.agg [(ls Ad p0.decls),(ls Bc l7)]))]) (st':=[Uq,⟨0,119,2,[[(ls Ad p0.decls),(ow 2 0 l7)]]⟩,⟨1,116,3,[]⟩]) (id:=2) rfl (show 0≤2 by decide) (AS fun _=>U) ⟨.rfl,(.agg ⟨.rfl,(.IN U),trivial⟩),trivial⟩ U) (BI Aj Vq U U U U U U (show 0+2≤2 by decide) rfl (dn hK9 U ?_)))))
  replace h0:=Sh.AE h0
  subst r
  exact AP (Exists.intro _ (And.intro (Iz _ _) (A8 (x:=.tmp 2) (off:=0) (cs:=[(ls Ad p0.decls),(ls Bc l7)]) (vs:=[(ls Ad p0.decls),(ls Bc l7)]) Vq U U U (show 0+2≤2 by decide) rfl _ U)))
 refine Ac (Aw (σ:=Int×(List BV)) (fun n v=>D1 p0 n v.1 v.2=some o8) (fun (t5,l6)=>⟨28,AM [(2,Ax),(3,Ao),(10,(Ie p0)),(11,(i64 (Sh.len p0.funcs))),(12,(i64 t5))],[Uq,⟨0,119,2,[[(ls Ad p0.decls),(ow 2 0 l6)]]⟩,(ro 0 116 3 Bc l6)]⟩) N (0,[]) h1 (by refine Wk.trans (GS (id:=2) (st':=[(Kp p0.decls p0.funcs),Uq,⟨0,119,2,[[(ls Ad p0.decls),(.own 3 0 (List.length ([]:List BV)))]]⟩,(ro 0 116 3 Bc ([]:List BV))]) (j:=1) rfl U 116 (size':=3) (by decide) rfl U U U) ?_;exact BM (L:=[(2,Ax),(3,Ao),(10,(Ie p0)),(11,(i64 (Sh.len p0.funcs))),(12,(i64 0))]) (st':=[Uq,⟨0,119,2,[[(ls Ad p0.decls),(.own 2 0 (List.length ([]:List BV)))]]⟩,(ro 0 116 3 Bc ([]:List BV))]) (st1:=[Uq,⟨0,119,2,[[(ls Ad p0.decls),(.own 3 0 (List.length ([]:List BV)))]]⟩,(ro 0 116 3 Bc ([]:List BV))]) [1,2,3] U .nil (by decide) rfl U (.raw U U (.raw U U (.pure (AS fun _=>U) .nil))) (.same U)) (fun _ hv=>by rw[D1] at hv;cases hv) ?_)
 rintro n ⟨t5,l6⟩ h1
 try dsimp only at h1 ⊢
 rw[D1] at h1
 refine zr tb U U (AJ fun K11 hK11=>?_)
 refine ci h1 U ?_ ?_ <;> clear h1
 ·intro b12 h1
  refine AN (hK11 _ (AJ fun K13 hK13=>Ac (sr U fun K14 hK14=>bs h1 fun c15 gc15 h1=>zx CQ gc15 U U U (zq tb U (A7 (m:=3) Aj Mu U U (BI Aj O9 U U U U U U (show 0+5≤5 by decide) rfl (dn hK14 U (AR U (zm tb 6 U ?_)))))))))
  refine zz (.agg [(ls eI c15.params),.zc,(i64 c15.result)]) (FX XA YB U4 U U) rfl (Al (Ab (L:=[(2,Ax),(3,Ao),(10,(Ie p0)),(11,(i64 (Sh.len p0.funcs))),(12,(i64 t5)),(17,(ow 2 0 l6)),(22,(.agg [(ls eI c15.params),(.sl (List.map eI [])),(i64 c15.result)]))]) ⟨.rfl,.rfl,.rfl,.rfl,.rfl,.rfl,(.agg ⟨.rfl,.zc,.rfl,trivial⟩),trivial⟩) ?_)
  refine Bb (m:=4) (l:=([(BV.mk c15.params [] c15.result)])) (enc:=Bc) Aj Kh (by decide) rfl U U U U U ?_
  refine bs h1 fun l16 gl16 h1=>FR (l2:=([(BV.mk c15.params [] c15.result)])) Aj Kh U U U U (Ig U U) (fun _=>U) gl16 U (zq tb U (BI Aj Zy U U U U U U (show 1+1≤2 by decide) rfl (dn hK13 U (AR U (zm tb 2 U ?_)))))
  exact AA (xi (Sh.w (t5+1),l16) h1 (by refine Wk.trans (Dv (L:=[(2,Ax),(3,Ao),(10,(Ie p0)),(11,(i64 (Sh.len p0.funcs))),(12,(Kn t5))]) (st':=[Uq,⟨0,119,2,[[(ls Ad p0.decls),(ow 2 0 l16)]]⟩,(ro 0 116 3 Bc l16),⟨0,48,5,[(Q4 c15)]⟩,(ro 0 116 3 Bc ([(BV.mk c15.params [] c15.result)]))]) (.raw U U (.raw U U (.pure (AS fun _=>U) (.raw U U (.pure (AS fun _=>U) .nil))))) (.same U)) ?_;exact Ai [0,1,2] U (by decide) rfl U (.raw U U (.raw U U (.pure (AS fun _=>U) .nil))) (.same U)))
 ·intro b12 h1
  exact A0 (M8 l6 (Sh.AE h1).symm _ (AB U))
theorem B4 {p0:(List Int)} {r:(List Int)} (h0:Bi p0=some r):Ak Tryz.prog 102 [(ls eI p0)] [] (fun v st=>v=(ow 0 0 r)∧st=[(BT r)]):=by
 unfold Bi at h0
 refine ai Tryz.func102 U U U U (zr tb U U (AJ fun K2 hK2=>sr U fun K3 hK3=>zq tb U ?_))
 refine Qg Aj FU U (fun hn=>?_) ?_
 ·subst hn
  replace h0:some []=some r:=by rw[← h0];first | rfl | simp[Sh.app]
  refine dn hK3 U (Ew (b:=true) rfl (fun _=>zr tb U U ?_) (fun q=>nomatch (show true=false from (U:true=true).symm.trans q)))
  replace h0:=Sh.AE h0
  subst r
  exact AP (Exists.intro _ (And.intro (((G5 (t:=2) rfl 3 (size:=1) (by decide)).trans (Ab (L:=[(2,VM)]) (.same U))).trans (Ab (L:=[(2,VM)]) (.same U))) (And.intro U U)))
 ·refine dn hK3 U (Ew (b:=false) rfl (fun q=>nomatch (show false=true from (U:false=false).symm.trans q)) (fun _=>AN (hK2 _ (sr U fun K5 hK5=>?_))))
  refine Bb (m:=0) (l:=([]:List Int)) (enc:=eI) Aj Bu (by decide) rfl U U U U U ?_
  refine zq tb U (bs h0 fun l6 gl6 h0=>FR (l2:=p0) Aj Bu U U U U O0 (fun _=>U) gl6 U (zq tb U (dn hK5 U ?_)))
  replace h0:=Sh.AE h0
  subst r
  exact AP (xr (Dv (L:=[(2,(ow 0 0 l6))]) (st':=[(BT l6)]) (.pure (AS fun _=>U) .nil) (.same U)))
theorem Kt {p1:Int} {r:(List Int)} (h0:Eu p1=some r):Ak Tryz.prog 141 [.zc,(i64 p1)] [] (fun v st=>v=(ow 0 0 r)∧st=[(BT r)]):=by
 unfold Eu at h0
 refine ai Tryz.func141 U U U U (zr tb U U (AJ fun K2 hK2=>zr tb U U ?_))
 refine ci h0 U ?_ ?_ <;> clear h0
 ·intro b4 h0
  refine AR U ?_
  cases h0
 ·intro b4 h0
  refine AN (hK2 _ (AJ fun K5 hK5=>bs h0 fun o7 h1 h0=>?_))
  have M7 :∀(l6:(List Int)),o7=l6→∀s,Wk 0 s ⟨27,AM [(0,(ow 0 0 l6))],[(BT l6)]⟩→K5 s:=by
   intro l6 hq s hw
   subst o7
   try dsimp only at h0
   refine hK5 _ (Aa hw (zr tb U U ?_))
   replace h0:=Sh.AE h0
   subst r
   exact AP (xr (Ab (L:=[(4,(ow 0 0 l6))]) (.same U)))
  refine sr U fun K9 hK9=>zm tb 2 U (T2 FU U (zq tb U (zz (i64 0) (UF FU U) rfl (zm tb 3 U (dn hK9 U (zr tb U U ?_))))))
  refine ci h1 U ?_ ?_ <;> clear h1
  ·intro b11 h1
   refine AR U (zm tb 2 U (T2 FU U (Yg Bu U U (zq tb U (bs h1 fun l12 gl12 h1=>Xl (u:=0) (enc:=eI) (m:=0) (st':=[(BT l12)]) Bu bY U U b11 U gl12 U U (zq tb U (zz (i64 0) (UF FU U) rfl (bs h1 fun l13 gl13 h1=>YV Aj Bu U U U U gl13 U (zq tb U ?_)))))))))
   exact AA (M7 l13 (Sh.AE h1).symm _ (Dv (L:=[(0,(ow 0 0 l13))]) (st':=[(BT l13)]) (.pure (AS fun _=>U) .nil) (.same U)))
  ·intro b11 h1
   exact AN (M7 [] (Sh.AE h1).symm _ ((G5 (t:=0) rfl 3 (size:=1) (by decide)).trans (Ab (L:=[(0,VM)]) (.same U))))
theorem Eg {N:Nat} {p0:(List (List Int))} {r:(List Int)} (h0:EX N p0=some r):Ak Tryz.prog 137 [(FW p0)] [] (fun v st=>v=(ow 0 0 r)∧st=[(BT r)]):=by
 unfold EX at h0
 refine ai Tryz.func137 U U U U ?_
 iterate 2 refine zr tb rfl rfl ?_
 refine AJ fun K3 hK3=>sr U fun K4 hK4=>zq tb U (zl tb U U (zq tb U (dn hK4 U (bs h0 fun o8 h1 h0=>?_))))
 have M8 :∀(size7:Int),o8=size7→∀s,Wk 0 s ⟨36,AM [(0,(FW p0)),(3,(i64 size7))],[]⟩→K3 s:=by
  intro size7 hq s hw
  subst o8
  try dsimp only at h0
  refine hK3 _ (Aa hw (sr U fun K9 hK9=>zq tb U (bs h0 fun q10 gq10 h0=>BW (v':=(ow 0 0 q10)) Aj ZX (Kt gq10) rfl U ⟨(Br fun _=>U),trivial⟩ U U (zq tb U (dn hK9 U (AJ fun K11 hK11=>sr U fun K12 hK12=>zq tb U (zl tb U U (zq tb U ?_))))))))
  refine dn hK12 U (bs h0 fun o16 h1 h0=>?_)
  have M16 :∀(l15:(List Int)),o16=l15→∀s,Wk 0 s ⟨36,AM [(6,(ow 0 0 l15))],[(BT l15)]⟩→K11 s:=by
   intro l15 hq s hw
   subst o16
   try dsimp only at h0
   refine hK11 _ (Aa hw (zr tb U U ?_))
   replace h0:=Sh.AE h0
   subst r
   exact AP (xr (Ab (L:=[(2,(ow 0 0 l15))]) (.same U)))
  refine Ac (Aw (σ:=Int×(List Int)) (fun n v=>Bw p0 n v.1 v.2=some o16) (fun (t13,l14)=>⟨36,AM [(6,(ow 0 0 l14)),(25,(FW p0)),(26,(Bx p0)),(27,(i64 t13))],[(BT l14)]⟩) N (0,q10) h1 (AB U) (fun _ hv=>by rw[Bw] at hv;cases hv) ?_)
  rintro n ⟨t13,l14⟩ h1
  try dsimp only at h1 ⊢
  rw[Bw] at h1
  refine zr tb U U (AJ fun K19 hK19=>?_)
  refine ci h1 U ?_ ?_ <;> clear h1
  ·intro b20 h1
   refine AN (hK19 _ (AJ fun K21 hK21=>Ac (sr U fun K22 hK22=>bs h1 fun c23 gc23 h1=>zx Iu gc23 U U U (zm tb 2 U (dn hK22 U (AR U (zm tb 2 U (bs h1 fun l24 gl24 h1=>FR (l2:=c23) Aj Bu U U U U O0 (fun _=>U) gl24 U ?_))))))))
   exact zq tb U (dn hK21 U (AR U (zm tb 2 U (AA (xi (Sh.w (t13+1),l24) h1 (Dv (L:=[(6,(ow 0 0 l24)),(25,(FW p0)),(26,(Bx p0)),(27,(Kn t13))]) (st':=[(BT l24)]) (.pure (AS fun _=>U) .nil) (.same U)))))))
  ·intro b20 h1
   exact A0 (M16 l14 (Sh.AE h1).symm _ (AB U))
 refine Ac (Aw (σ:=Int×Int) (fun n v=>Bv p0 n v.1 v.2=some o8) (fun (size5,t6)=>⟨36,AM [(0,(FW p0)),(3,(i64 size5)),(9,(FW p0)),(10,(Bx p0)),(11,(i64 t6))],[]⟩) N (0,0) h1 (AB U) (fun _ hv=>by rw[Bv] at hv;cases hv) ?_)
 rintro n ⟨size5,t6⟩ h1
 try dsimp only at h1 ⊢
 rw[Bv] at h1
 refine zr tb U U (AJ fun K26 hK26=>?_)
 refine ci h1 U ?_ ?_ <;> clear h1
 ·intro b27 h1
  refine AN (hK26 _ (AJ fun K28 hK28=>Ac (sr U fun K29 hK29=>bs h1 fun c30 gc30 h1=>zx Iu gc30 U U U (zm tb 2 U (dn hK29 U (sr U fun K31 hK31=>zm tb 2 U (zl tb U U (zm tb 2 U ?_))))))))
  refine dn hK31 U (zr tb U U ?_)
  refine ci h1 U ?_ ?_ <;> clear h1
  ·intro b33 h1
   refine AR U ?_
   cases h1
  ·intro b33 h1
   exact AN (hK28 _ (AR U (zm tb 2 U (AA (xi (Sh.w (size5+(Sh.len c30)),Sh.w (t6+1)) h1 (AB U))))))
 ·intro b27 h1
  exact A0 (M8 size5 (Sh.AE h1).symm _ (AB U))
theorem Gv {N:Nat} {rec_impl_signatures_typeOf:(List Int)→BH→AK→Option (Int)} (hrec_impl_signatures_typeOf :∀{s0:(List Int)} {p0:BH} {p2:AK} {r:Int},rec_impl_signatures_typeOf s0 p0 p2=some r→Ak Tryz.prog 101 [(FV p0),(ow 0 0 s0),(B8 p2)] [(BT s0)] (fun v st=>v=(i64 r)∧st=[(BT s0)])) {p0:BH} {p1:(List Int)} {p2:(List AK)} {p3:(List (List Int))} {r:Int} (h0:C7 N rec_impl_signatures_typeOf p0 p1 p2 p3=some r):Ak Tryz.prog 127 [(FV p0),(ls eI p1),(Cx p2),(FW p3)] [] (fun v st=>v=(i64 r)∧st=[]):=by
 unfold C7 at h0
 refine ai Tryz.func127 U U U U (sr U fun K1 hK1=>BY (m:=0) Aj U U U U U (zq tb U (dn hK1 U (zr tb U U (AJ fun K3 hK3=>sr U fun K4 hK4=>zq tb U (zl tb U U (zq tb U (dn hK4 U ?_))))))))
 obtain⟨o8,h1,h0⟩:=Sh.BN h0
 have M8 :∀(result7:Int),o8=Sum.inr result7→∀s,Wk 0 s ⟨44,AM [(9,(i64 result7))],[]⟩→K3 s:=by
  intro result7 hq s hw
  subst o8
  try dsimp only at h0
  refine hK3 _ (Aa hw (zr tb U U ?_))
  replace h0:=Sh.AE h0
  subst r
  exact AP (xr (Ab (L:=[(8,(i64 result7))]) (.same U)))
 refine Ac (Aw (σ:=Int×Int) (fun n v=>BO N p0 p1 p2 p3 rec_impl_signatures_typeOf n v.1 v.2=some o8) (fun (result5,t6)=>⟨44,AM [(1,(ls eI p1)),(3,(FW p3)),(4,Ax),(9,(i64 result5)),(13,(Cx p2)),(14,(Bx p2)),(15,(i64 t6))],[(D5 p0)]⟩) N (-1,0) h1 (AB U) (fun _ hv=>by rw[BO] at hv;cases hv) ?_)
 rintro n ⟨result5,t6⟩ h1
 try dsimp only at h1 ⊢
 rw[BO] at h1
 refine zr tb U U (AJ fun K11 hK11=>?_)
 refine ci h1 U ?_ ?_ <;> clear h1
 ·intro b12 h1
  refine AN (hK11 _ (AJ fun K13 hK13=>Ac (sr U fun K14 hK14=>zq tb U (bs h1 fun c15 gc15 h1=>zz (FF c15) (Bq A2 U U gc15 (A4 _) rfl) rfl (zq tb U (A7 (m:=1) Aj Ik U U (zq tb U (BI Aj Bz U U U U U U (show 0+3≤3 by decide) rfl (dn hK14 U ?_)))))))))
  refine AJ fun K16 hK16=>?_
  refine GJ (by kernel_rfl) ?_
  refine bs h1 fun c17 gc17 h1=>bs h1 fun q18 gq18 h1=>bs h1 fun q19 gq19 h1=>I0 fun A20 hA20=>?_
  have A20_0123456789a:A20 0 (bm 11 2047) ⟨44,AM [(1,(ls eI p1)),(3,(FW p3)),(4,Ax),(9,(i64 result5)),(10,(i64 t6)),(12,(i64 q19)),(13,(Cx p2)),(14,(Bx p2)),(15,(i64 t6))],[(D5 p0)]⟩:=(hA20 _ _ _).2 (by
   refine GR U (by kernel_rfl) ?_
   refine hK16 _ (AJ fun K21 hK21=>AJ fun K22 hK22=>bs h1 fun o24 h2 h1=>?_)
   have M24 :∀(t23:Bool),o24=t23→∀s,Wk 0 s ⟨44,AM [(1,(ls eI p1)),(3,(FW p3)),(4,Ax),(12,(i64 q19)),(13,(Cx p2)),(14,(Bx p2)),(15,(i64 t6)),(40,(.bool t23))],[(D5 p0)]⟩→K22 s:=by
    intro t23 hq s hw
    subst o24
    try dsimp only at h1
    refine hK22 _ (Aa hw ?_)
    refine ci h1 U ?_ ?_ <;> clear h1
    ·intro b25 h1
     refine zr tb U U ?_
     replace h1:=Sh.AE h1
     subst o8
     try dsimp only[id] at h0
     replace h0:=Sh.AE h0
     subst r
     exact AP (xr (Aq [(8,(i64 (-1)))] U))
    ·intro b25 h1
     exact AN (hK21 _ (AR U (zm tb 2 U (dn hK13 U (AR U (zm tb 2 U (AA (xi (q19,Sh.w (t6+1)) h1 (AB U)))))))))
   refine AR U (zm tb 3 U ?_)
   rcases Sh.Az h2 with ⟨b27,h2⟩ | ⟨b27,h2⟩
   ·refine zs b27 U (zs b27 U (zs b27 U ?_))
    iterate 3 refine zn rfl ?_
    exact zs b27 U (zt b27 U (AA (M24 true (Sh.AE h2).symm _ (AB U))))
   ·refine zg tb b27 U (zg tb b27 U (zg tb b27 U ?_))
    rcases Sh.Az h2 with ⟨b28,h2⟩ | ⟨b28,h2⟩
    ·exact zg tb b28 U (zg tb b28 U (zg tb b28 U (BU (v:=(.bool (!decide (q19=result5)))) (DH U U b27) rfl (Lp U b28 U) (zf b27 U (AA (M24 (!decide (q19=result5)) (Sh.AE h2).symm _ (AB U)))))))
    ·exact zs b28 U (zs b28 U (zs b28 U (BU (v:=(.bool false)) (DH U U b27) rfl (NC U b28 U) (zf b27 U (AA (M24 false (Sh.AE h2).symm _ (Ab (L:=[(1,(ls eI p1)),(3,(FW p3)),(4,Ax),(12,(i64 q19)),(13,(Cx p2)),(14,(Bx p2)),(15,(i64 t6)),(40,(.bool false))]) (.same U)))))))))
  have A20_0123456789:A20 1 (bm 11 1023) ⟨44,AM [(1,(ls eI p1)),(3,(FW p3)),(4,Ax),(9,(i64 result5)),(10,(i64 t6)),(13,(Cx p2)),(14,(Bx p2)),(15,(i64 t6)),(29,(i64 q19))],[(D5 p0)]⟩:=(hA20 _ _ _).2 (by
   refine Bn 10 (v:=(i64 q19)) rfl U (by kernel_rfl) (by kernel_rfl) (by kernel_rfl) rfl (Jo U) ?_
   exact AI (by exact AB U) (AL (by kernel_rfl) ((hA20 _ _ _).1 A20_0123456789a)) rfl)
  have A20_012345678:A20 2 (bm 11 511) ⟨44,AM [(1,(ls eI p1)),(3,(FW p3)),(4,Ax),(9,(i64 result5)),(10,(i64 t6)),(13,(Cx p2)),(14,(Bx p2)),(15,(i64 t6)),(20,(FV p0)),(27,(ow 1 0 q18)),(28,(B8 c15))],[(D5 p0),(BT q18)]⟩:=(hA20 _ _ _).2 (by
   refine Af [9] U (by kernel_rfl) (by decide) ⟨?_,trivial⟩
   ·refine A3.of (i:=9) rfl U (by rfl) ?_
    refine OO (rows0:=[(BT q18)]) (rows1:=[(BT q18)]) (st':=[(D5 p0),(BT q18)]) (v':=(i64 q19)) [1] Aj Md (hrec_impl_signatures_typeOf gq19) rfl (by decide) rfl U (.pure (AS fun _=>U) .nil) rfl U (.pure (AS fun _=>U) .nil) .nil U U ?_
    refine AA ⟨U,?_⟩
    exact AI (by exact Ai [0] U (by decide) rfl U (.raw U U .nil) (.same U)) (AL (by kernel_rfl) ((hA20 _ _ _).1 A20_0123456789)) rfl)
  have A20_01234567:A20 3 (bm 11 255) ⟨44,AM [(1,(ls eI p1)),(3,(FW p3)),(4,Ax),(9,(i64 result5)),(10,(i64 t6)),(11,Ao),(13,(Cx p2)),(14,(Bx p2)),(15,(i64 t6)),(20,(FV p0)),(27,(ow 2 0 q18))],[(D5 p0),(Te c15.op c15.num c15.kids),(BT q18)]⟩:=(hA20 _ _ _).2 (by
   refine Af [8] U (by kernel_rfl) (by decide) ⟨?_,trivial⟩
   ·refine A3.of (i:=8) rfl U (by rfl) ?_
    refine zq tb U (AA ⟨U,?_⟩)
    exact AI (by exact Ai [0,2] U (by decide) rfl U (.raw U U (.pure (AS fun _=>U) .nil)) (.same U)) (AL (by kernel_rfl) ((hA20 _ _ _).1 A20_012345678)) rfl)
  have A20_01234568:A20 3 (bm 11 383) ⟨44,AM [(1,(ls eI p1)),(3,(FW p3)),(4,Ax),(9,(i64 result5)),(10,(i64 t6)),(13,(Cx p2)),(14,(Bx p2)),(15,(i64 t6)),(20,(FV p0)),(26,(ow 1 0 [p1,c17])),(28,(B8 c15))],[(D5 p0),(ro 0 46 1 (eS eI) [p1,c17])]⟩:=(hA20 _ _ _).2 (by
   refine Af [7] U (by kernel_rfl) (by decide) ⟨?_,trivial⟩
   ·refine A3.of (i:=7) rfl U (by rfl) ?_
    refine Al (Wk.Ey (L:=[(1,(ls eI p1)),(3,(FW p3)),(4,Ax),(9,(i64 result5)),(10,(i64 t6)),(13,(Cx p2)),(14,(Bx p2)),(15,(i64 t6)),(20,(FV p0)),(26,(ls (eS eI) [p1,c17])),(28,(B8 c15))]) (st':=[(D5 p0),⟨1,46,1,[]⟩]) (id:=1) rfl (show 0≤1 by decide) (AS fun _=>U) ⟨.rfl,.rfl,.rfl,.rfl,.rfl,.rfl,.rfl,.rfl,.rfl,(.Ey U),.rfl,trivial⟩ U) (BW (v':=(ow 2 0 q18)) Aj Sx (Eg gq18) rfl U ⟨(Br fun _=>U),trivial⟩ U U (AA ⟨U,?_⟩))
    exact AI (by exact Ai [0,2] U (by decide) rfl U (.raw U U (.pure (AS fun _=>U) .nil)) (.same U)) (AL (by kernel_rfl) ((hA20 _ _ _).1 A20_012345678)) rfl)
  have A20_0123456:A20 4 (bm 11 127) ⟨44,AM [(1,(ls eI p1)),(3,(FW p3)),(4,Ax),(9,(i64 result5)),(10,(i64 t6)),(11,Ao),(13,(Cx p2)),(14,(Bx p2)),(15,(i64 t6)),(20,(FV p0)),(26,(ow 2 0 [p1,c17]))],[(D5 p0),(Te c15.op c15.num c15.kids),(ro 0 46 1 (eS eI) [p1,c17])]⟩:=(hA20 _ _ _).2 (by
   refine Af [7,8] U (by kernel_rfl) (by decide) ⟨?_,?_,trivial⟩
   ·refine A3.of (i:=7) rfl U (by rfl) ?_
    refine Al (Wk.Ey (L:=[(1,(ls eI p1)),(3,(FW p3)),(4,Ax),(9,(i64 result5)),(10,(i64 t6)),(11,Ao),(13,(Cx p2)),(14,(Bx p2)),(15,(i64 t6)),(20,(FV p0)),(26,(ls (eS eI) [p1,c17]))]) (st':=[(D5 p0),(Te c15.op c15.num c15.kids),⟨1,46,1,[]⟩]) (id:=2) rfl (show 0≤2 by decide) (AS fun _=>U) ⟨.rfl,.rfl,.rfl,.rfl,.rfl,.rfl,.rfl,.rfl,.rfl,.rfl,(.Ey U),trivial⟩ U) (BW (v':=(ow 3 0 q18)) Aj Sx (Eg gq18) rfl U ⟨(Br fun _=>U),trivial⟩ U U (AA ⟨U,?_⟩))
    exact AI (by exact Ai [0,1,3] U (by decide) rfl U (.raw U U (.raw U U (.pure (AS fun _=>U) .nil))) (.same U)) (AL (by kernel_rfl) ((hA20 _ _ _).1 A20_01234567)) rfl
   ·refine A3.of (i:=8) rfl U (by rfl) ?_
    refine zq tb U (AA ⟨U,?_⟩)
    exact AI (by exact Ai [0,2] U (by decide) rfl U (.raw U U (.pure (AS fun _=>U) .nil)) (.same U)) (AL (by kernel_rfl) ((hA20 _ _ _).1 A20_01234568)) rfl)
  have A20_0123458:A20 4 (bm 11 319) ⟨44,AM [(1,(ls eI p1)),(3,(FW p3)),(4,Ax),(9,(i64 result5)),(10,(i64 t6)),(13,(Cx p2)),(14,(Bx p2)),(15,(i64 t6)),(20,(FV p0)),(21,(ls eI p1)),(25,(ls eI c17)),(28,(B8 c15))],[(D5 p0)]⟩:=(hA20 _ _ _).2 (by
   refine Af [6] U (by kernel_rfl) (by decide) ⟨?_,trivial⟩
   ·refine A3.of (i:=6) rfl U (by rfl) ?_
    refine Bb (m:=1) (l:=[p1,c17]) (enc:=(eS eI)) Aj Iu (by decide) rfl U U U U U ?_
    refine AA ⟨U,?_⟩
    exact AI (by exact AB U) (AL (by kernel_rfl) ((hA20 _ _ _).1 A20_01234568)) rfl)
  have A20_012345:A20 5 (bm 11 63) ⟨44,AM [(1,(ls eI p1)),(3,(FW p3)),(4,Ax),(9,(i64 result5)),(10,(i64 t6)),(11,Ao),(13,(Cx p2)),(14,(Bx p2)),(15,(i64 t6)),(20,(FV p0)),(21,(ls eI p1)),(25,(ls eI c17))],(S9 p0 c15)⟩:=(hA20 _ _ _).2 (by
   refine Af [6,8] U (by kernel_rfl) (by decide) ⟨?_,?_,trivial⟩
   ·refine A3.of (i:=6) rfl U (by rfl) ?_
    refine Bb (m:=2) (l:=[p1,c17]) (enc:=(eS eI)) Aj Iu (by decide) rfl U U U U U ?_
    refine AA ⟨U,?_⟩
    exact AI (by exact AB U) (AL (by kernel_rfl) ((hA20 _ _ _).1 A20_0123456)) rfl
   ·refine A3.of (i:=8) rfl U (by rfl) ?_
    refine zq tb U (AA ⟨U,?_⟩)
    exact AI (by exact Ai [0] U (by decide) rfl U (.raw U U .nil) (.same U)) (AL (by kernel_rfl) ((hA20 _ _ _).1 A20_0123458)) rfl)
  have A20_012348:A20 5 (bm 11 287) ⟨44,AM [(1,(ls eI p1)),(3,(FW p3)),(4,Ax),(9,(i64 result5)),(10,(i64 t6)),(13,(Cx p2)),(14,(Bx p2)),(15,(i64 t6)),(20,(FV p0)),(21,(ls eI p1)),(24,(.B1 ((eS eI) c17) 0)),(28,(B8 c15))],[(D5 p0)]⟩:=(hA20 _ _ _).2 (by
   refine Af [5] U (by kernel_rfl) (by decide) ⟨?_,trivial⟩
   ·refine A3.of (i:=5) rfl U (by rfl) ?_
    refine zq tb U (AA ⟨U,?_⟩)
    exact AI (by exact AB U) (AL (by kernel_rfl) ((hA20 _ _ _).1 A20_0123458)) rfl)
  have A20_01234:A20 6 (bm 11 31) ⟨44,AM [(1,(ls eI p1)),(3,(FW p3)),(4,Ax),(9,(i64 result5)),(10,(i64 t6)),(11,Ao),(13,(Cx p2)),(14,(Bx p2)),(15,(i64 t6)),(20,(FV p0)),(21,(ls eI p1)),(24,(.B1 ((eS eI) c17) 0))],(S9 p0 c15)⟩:=(hA20 _ _ _).2 (by
   refine Af [5,8] U (by kernel_rfl) (by decide) ⟨?_,?_,trivial⟩
   ·refine A3.of (i:=5) rfl U (by rfl) ?_
    refine zq tb U (AA ⟨U,?_⟩)
    exact AI (by exact AB U) (AL (by kernel_rfl) ((hA20 _ _ _).1 A20_012345)) rfl
   ·refine A3.of (i:=8) rfl U (by rfl) ?_
    refine zq tb U (AA ⟨U,?_⟩)
    exact AI (by exact Ai [0] U (by decide) rfl U (.raw U U .nil) (.same U)) (AL (by kernel_rfl) ((hA20 _ _ _).1 A20_012348)) rfl)
  have A20_01238:A20 6 (bm 11 271) ⟨44,AM [(1,(ls eI p1)),(3,(FW p3)),(4,Ax),(9,(i64 result5)),(10,(i64 t6)),(13,(Cx p2)),(14,(Bx p2)),(15,(i64 t6)),(20,(FV p0)),(21,(ls eI p1)),(22,(FW p3)),(23,(i64 t6)),(28,(B8 c15))],[(D5 p0)]⟩:=(hA20 _ _ _).2 (by
   refine Af [4] U (by kernel_rfl) (by decide) ⟨?_,trivial⟩
   ·refine A3.of (i:=4) rfl U (by rfl) ?_
    refine zx Iu gc17 U U U (AA ⟨U,?_⟩)
    exact AI (by exact AB U) (AL (by kernel_rfl) ((hA20 _ _ _).1 A20_012348)) rfl)
  have A20_0123:A20 7 (bm 11 15) ⟨44,AM [(1,(ls eI p1)),(3,(FW p3)),(4,Ax),(9,(i64 result5)),(10,(i64 t6)),(11,Ao),(13,(Cx p2)),(14,(Bx p2)),(15,(i64 t6)),(20,(FV p0)),(21,(ls eI p1)),(22,(FW p3)),(23,(i64 t6))],(S9 p0 c15)⟩:=(hA20 _ _ _).2 (by
   refine Af [4,8] U (by kernel_rfl) (by decide) ⟨?_,?_,trivial⟩
   ·refine A3.of (i:=4) rfl U (by rfl) ?_
    refine zx Iu gc17 U U U (AA ⟨U,?_⟩)
    exact AI (by exact AB U) (AL (by kernel_rfl) ((hA20 _ _ _).1 A20_01234)) rfl
   ·refine A3.of (i:=8) rfl U (by rfl) ?_
    refine zq tb U (AA ⟨U,?_⟩)
    exact AI (by exact Ai [0] U (by decide) rfl U (.raw U U .nil) (.same U)) (AL (by kernel_rfl) ((hA20 _ _ _).1 A20_01238)) rfl)
  have A20_12345678:A20 3 (bm 11 510) ⟨44,AM [(1,(ls eI p1)),(3,(FW p3)),(4,Ax),(9,(i64 result5)),(10,(i64 t6)),(13,(Cx p2)),(14,(Bx p2)),(15,(i64 t6)),(27,(ow 1 0 q18)),(28,(B8 c15))],[(D5 p0),(BT q18)]⟩:=(hA20 _ _ _).2 (by
   refine Af [0] U (by kernel_rfl) (by decide) ⟨?_,trivial⟩
   ·refine A3.of (i:=0) rfl U (by rfl) ?_
    refine zq tb U (AA ⟨U,?_⟩)
    exact AI (by exact AB U) (AL (by kernel_rfl) ((hA20 _ _ _).1 A20_012345678)) rfl)
  have A20_1234567:A20 4 (bm 11 254) ⟨44,AM [(1,(ls eI p1)),(3,(FW p3)),(4,Ax),(9,(i64 result5)),(10,(i64 t6)),(11,Ao),(13,(Cx p2)),(14,(Bx p2)),(15,(i64 t6)),(27,(ow 2 0 q18))],[(D5 p0),(Te c15.op c15.num c15.kids),(BT q18)]⟩:=(hA20 _ _ _).2 (by
   refine Af [0,8] U (by kernel_rfl) (by decide) ⟨?_,?_,trivial⟩
   ·refine A3.of (i:=0) rfl U (by rfl) ?_
    refine zq tb U (AA ⟨U,?_⟩)
    exact AI (by exact AB U) (AL (by kernel_rfl) ((hA20 _ _ _).1 A20_01234567)) rfl
   ·refine A3.of (i:=8) rfl U (by rfl) ?_
    refine zq tb U (AA ⟨U,?_⟩)
    exact AI (by exact Ai [0,2] U (by decide) rfl U (.raw U U (.pure (AS fun _=>U) .nil)) (.same U)) (AL (by kernel_rfl) ((hA20 _ _ _).1 A20_12345678)) rfl)
  have A20_1234568:A20 4 (bm 11 382) ⟨44,AM [(1,(ls eI p1)),(3,(FW p3)),(4,Ax),(9,(i64 result5)),(10,(i64 t6)),(13,(Cx p2)),(14,(Bx p2)),(15,(i64 t6)),(26,(ow 1 0 [p1,c17])),(28,(B8 c15))],[(D5 p0),(ro 0 46 1 (eS eI) [p1,c17])]⟩:=(hA20 _ _ _).2 (by
   refine Af [0,7] U (by kernel_rfl) (by decide) ⟨?_,?_,trivial⟩
   ·refine A3.of (i:=0) rfl U (by rfl) ?_
    refine zq tb U (AA ⟨U,?_⟩)
    exact AI (by exact AB U) (AL (by kernel_rfl) ((hA20 _ _ _).1 A20_01234568)) rfl
   ·refine A3.of (i:=7) rfl U (by rfl) ?_
    refine Al (Wk.Ey (L:=[(1,(ls eI p1)),(3,(FW p3)),(4,Ax),(9,(i64 result5)),(10,(i64 t6)),(13,(Cx p2)),(14,(Bx p2)),(15,(i64 t6)),(26,(ls (eS eI) [p1,c17])),(28,(B8 c15))]) (st':=[(D5 p0),⟨1,46,1,[]⟩]) (id:=1) rfl (show 0≤1 by decide) (AS fun _=>U) ⟨.rfl,.rfl,.rfl,.rfl,.rfl,.rfl,.rfl,.rfl,(.Ey U),.rfl,trivial⟩ U) (BW (v':=(ow 2 0 q18)) Aj Sx (Eg gq18) rfl U ⟨(Br fun _=>U),trivial⟩ U U (AA ⟨U,?_⟩))
    exact AI (by exact Ai [0,2] U (by decide) rfl U (.raw U U (.pure (AS fun _=>U) .nil)) (.same U)) (AL (by kernel_rfl) ((hA20 _ _ _).1 A20_12345678)) rfl)
  have A20_123456:A20 5 (bm 11 126) ⟨44,AM [(1,(ls eI p1)),(3,(FW p3)),(4,Ax),(9,(i64 result5)),(10,(i64 t6)),(11,Ao),(13,(Cx p2)),(14,(Bx p2)),(15,(i64 t6)),(26,(ow 2 0 [p1,c17]))],[(D5 p0),(Te c15.op c15.num c15.kids),(ro 0 46 1 (eS eI) [p1,c17])]⟩:=(hA20 _ _ _).2 (by
   refine Af [0,7,8] U (by kernel_rfl) (by decide) ⟨?_,?_,?_,trivial⟩
   ·refine A3.of (i:=0) rfl U (by rfl) ?_
    refine zq tb U (AA ⟨U,?_⟩)
    exact AI (by exact AB U) (AL (by kernel_rfl) ((hA20 _ _ _).1 A20_0123456)) rfl
   ·refine A3.of (i:=7) rfl U (by rfl) ?_
    refine Al (Wk.Ey (L:=[(1,(ls eI p1)),(3,(FW p3)),(4,Ax),(9,(i64 result5)),(10,(i64 t6)),(11,Ao),(13,(Cx p2)),(14,(Bx p2)),(15,(i64 t6)),(26,(ls (eS eI) [p1,c17]))]) (st':=[(D5 p0),(Te c15.op c15.num c15.kids),⟨1,46,1,[]⟩]) (id:=2) rfl (show 0≤2 by decide) (AS fun _=>U) ⟨.rfl,.rfl,.rfl,.rfl,.rfl,.rfl,.rfl,.rfl,.rfl,(.Ey U),trivial⟩ U) (BW (v':=(ow 3 0 q18)) Aj Sx (Eg gq18) rfl U ⟨(Br fun _=>U),trivial⟩ U U (AA ⟨U,?_⟩))
    exact AI (by exact Ai [0,1,3] U (by decide) rfl U (.raw U U (.raw U U (.pure (AS fun _=>U) .nil))) (.same U)) (AL (by kernel_rfl) ((hA20 _ _ _).1 A20_1234567)) rfl
   ·refine A3.of (i:=8) rfl U (by rfl) ?_
    refine zq tb U (AA ⟨U,?_⟩)
    exact AI (by exact Ai [0,2] U (by decide) rfl U (.raw U U (.pure (AS fun _=>U) .nil)) (.same U)) (AL (by kernel_rfl) ((hA20 _ _ _).1 A20_1234568)) rfl)
  have A20_123458:A20 5 (bm 11 318) ⟨44,AM [(1,(ls eI p1)),(3,(FW p3)),(4,Ax),(9,(i64 result5)),(10,(i64 t6)),(13,(Cx p2)),(14,(Bx p2)),(15,(i64 t6)),(21,(ls eI p1)),(25,(ls eI c17)),(28,(B8 c15))],[(D5 p0)]⟩:=(hA20 _ _ _).2 (by
   refine Af [0,6] U (by kernel_rfl) (by decide) ⟨?_,?_,trivial⟩
   ·refine A3.of (i:=0) rfl U (by rfl) ?_
    refine zq tb U (AA ⟨U,?_⟩)
    exact AI (by exact AB U) (AL (by kernel_rfl) ((hA20 _ _ _).1 A20_0123458)) rfl
   ·refine A3.of (i:=6) rfl U (by rfl) ?_
    refine Bb (m:=1) (l:=[p1,c17]) (enc:=(eS eI)) Aj Iu (by decide) rfl U U U U U ?_
    refine AA ⟨U,?_⟩
    exact AI (by exact AB U) (AL (by kernel_rfl) ((hA20 _ _ _).1 A20_1234568)) rfl)
  have A20_12345:A20 6 (bm 11 62) ⟨44,AM [(1,(ls eI p1)),(3,(FW p3)),(4,Ax),(9,(i64 result5)),(10,(i64 t6)),(11,Ao),(13,(Cx p2)),(14,(Bx p2)),(15,(i64 t6)),(21,(ls eI p1)),(25,(ls eI c17))],(S9 p0 c15)⟩:=(hA20 _ _ _).2 (by
   refine Af [0,6,8] U (by kernel_rfl) (by decide) ⟨?_,?_,?_,trivial⟩
   ·refine A3.of (i:=0) rfl U (by rfl) ?_
    refine zq tb U (AA ⟨U,?_⟩)
    exact AI (by exact AB U) (AL (by kernel_rfl) ((hA20 _ _ _).1 A20_012345)) rfl
   ·refine A3.of (i:=6) rfl U (by rfl) ?_
    refine Bb (m:=2) (l:=[p1,c17]) (enc:=(eS eI)) Aj Iu (by decide) rfl U U U U U ?_
    refine AA ⟨U,?_⟩
    exact AI (by exact AB U) (AL (by kernel_rfl) ((hA20 _ _ _).1 A20_123456)) rfl
   ·refine A3.of (i:=8) rfl U (by rfl) ?_
    refine zq tb U (AA ⟨U,?_⟩)
    exact AI (by exact Ai [0] U (by decide) rfl U (.raw U U .nil) (.same U)) (AL (by kernel_rfl) ((hA20 _ _ _).1 A20_123458)) rfl)
  have A20_12348:A20 6 (bm 11 286) ⟨44,AM [(1,(ls eI p1)),(3,(FW p3)),(4,Ax),(9,(i64 result5)),(10,(i64 t6)),(13,(Cx p2)),(14,(Bx p2)),(15,(i64 t6)),(21,(ls eI p1)),(24,(.B1 ((eS eI) c17) 0)),(28,(B8 c15))],[(D5 p0)]⟩:=(hA20 _ _ _).2 (by
   refine Af [0,5] U (by kernel_rfl) (by decide) ⟨?_,?_,trivial⟩
   ·refine A3.of (i:=0) rfl U (by rfl) ?_
    refine zq tb U (AA ⟨U,?_⟩)
    exact AI (by exact AB U) (AL (by kernel_rfl) ((hA20 _ _ _).1 A20_012348)) rfl
   ·refine A3.of (i:=5) rfl U (by rfl) ?_
    refine zq tb U (AA ⟨U,?_⟩)
    exact AI (by exact AB U) (AL (by kernel_rfl) ((hA20 _ _ _).1 A20_123458)) rfl)
  have A20_1234:A20 7 (bm 11 30) ⟨44,AM [(1,(ls eI p1)),(3,(FW p3)),(4,Ax),(9,(i64 result5)),(10,(i64 t6)),(11,Ao),(13,(Cx p2)),(14,(Bx p2)),(15,(i64 t6)),(21,(ls eI p1)),(24,(.B1 ((eS eI) c17) 0))],(S9 p0 c15)⟩:=(hA20 _ _ _).2 (by
   refine Af [0,5,8] U (by kernel_rfl) (by decide) ⟨?_,?_,?_,trivial⟩
   ·refine A3.of (i:=0) rfl U (by rfl) ?_
    refine zq tb U (AA ⟨U,?_⟩)
    exact AI (by exact AB U) (AL (by kernel_rfl) ((hA20 _ _ _).1 A20_01234)) rfl
   ·refine A3.of (i:=5) rfl U (by rfl) ?_
    refine zq tb U (AA ⟨U,?_⟩)
    exact AI (by exact AB U) (AL (by kernel_rfl) ((hA20 _ _ _).1 A20_12345)) rfl
   ·refine A3.of (i:=8) rfl U (by rfl) ?_
    refine zq tb U (AA ⟨U,?_⟩)
    exact AI (by exact Ai [0] U (by decide) rfl U (.raw U U .nil) (.same U)) (AL (by kernel_rfl) ((hA20 _ _ _).1 A20_12348)) rfl)
  have A20_1238:A20 7 (bm 11 270) ⟨44,AM [(1,(ls eI p1)),(3,(FW p3)),(4,Ax),(9,(i64 result5)),(10,(i64 t6)),(13,(Cx p2)),(14,(Bx p2)),(15,(i64 t6)),(21,(ls eI p1)),(22,(FW p3)),(23,(i64 t6)),(28,(B8 c15))],[(D5 p0)]⟩:=(hA20 _ _ _).2 (by
   refine Af [0,4] U (by kernel_rfl) (by decide) ⟨?_,?_,trivial⟩
   ·refine A3.of (i:=0) rfl U (by rfl) ?_
    refine zq tb U (AA ⟨U,?_⟩)
    exact AI (by exact AB U) (AL (by kernel_rfl) ((hA20 _ _ _).1 A20_01238)) rfl
   ·refine A3.of (i:=4) rfl U (by rfl) ?_
    refine zx Iu gc17 U U U (AA ⟨U,?_⟩)
    exact AI (by exact AB U) (AL (by kernel_rfl) ((hA20 _ _ _).1 A20_12348)) rfl)
  have A20_123:A20 8 (bm 11 14) ⟨44,AM [(1,(ls eI p1)),(3,(FW p3)),(4,Ax),(9,(i64 result5)),(10,(i64 t6)),(11,Ao),(13,(Cx p2)),(14,(Bx p2)),(15,(i64 t6)),(21,(ls eI p1)),(22,(FW p3)),(23,(i64 t6))],(S9 p0 c15)⟩:=(hA20 _ _ _).2 (by
   refine Af [0,4,8] U (by kernel_rfl) (by decide) ⟨?_,?_,?_,trivial⟩
   ·refine A3.of (i:=0) rfl U (by rfl) ?_
    refine zq tb U (AA ⟨U,?_⟩)
    exact AI (by exact AB U) (AL (by kernel_rfl) ((hA20 _ _ _).1 A20_0123)) rfl
   ·refine A3.of (i:=4) rfl U (by rfl) ?_
    refine zx Iu gc17 U U U (AA ⟨U,?_⟩)
    exact AI (by exact AB U) (AL (by kernel_rfl) ((hA20 _ _ _).1 A20_1234)) rfl
   ·refine A3.of (i:=8) rfl U (by rfl) ?_
    refine zq tb U (AA ⟨U,?_⟩)
    exact AI (by exact Ai [0] U (by decide) rfl U (.raw U U .nil) (.same U)) (AL (by kernel_rfl) ((hA20 _ _ _).1 A20_1238)) rfl)
  have A20_12:A20 9 (bm 11 6) ⟨44,AM [(1,(ls eI p1)),(3,(FW p3)),(4,Ax),(9,(i64 result5)),(10,(i64 t6)),(11,Ao),(13,(Cx p2)),(14,(Bx p2)),(15,(i64 t6)),(21,(ls eI p1)),(22,(FW p3))],(S9 p0 c15)⟩:=(hA20 _ _ _).2 (by
   refine Bn 3 (v:=(i64 t6)) rfl U (by kernel_rfl) (by kernel_rfl) (by kernel_rfl) rfl (CO U) ?_
   exact AI (by exact AB U) (AL (by kernel_rfl) ((hA20 _ _ _).1 A20_123)) rfl)
  have A20_1:A20 10 (bm 11 2) ⟨44,AM [(1,(ls eI p1)),(3,(FW p3)),(4,Ax),(9,(i64 result5)),(10,(i64 t6)),(11,Ao),(13,(Cx p2)),(14,(Bx p2)),(15,(i64 t6)),(21,(ls eI p1))],(S9 p0 c15)⟩:=(hA20 _ _ _).2 (by
   refine Bn 2 (v:=(FW p3)) rfl U (by kernel_rfl) (by kernel_rfl) (by kernel_rfl) rfl (CO U) ?_
   exact AI (by exact AB U) (AL (by kernel_rfl) ((hA20 _ _ _).1 A20_12)) rfl)
  have A20_e:A20 11 (bm 11 0) ⟨44,AM [(1,(ls eI p1)),(3,(FW p3)),(4,Ax),(9,(i64 result5)),(10,(i64 t6)),(11,Ao),(13,(Cx p2)),(14,(Bx p2)),(15,(i64 t6))],(S9 p0 c15)⟩:=(hA20 _ _ _).2 (by
   refine Bn 1 (v:=(ls eI p1)) rfl U (by kernel_rfl) (by kernel_rfl) (by kernel_rfl) rfl (CO U) ?_
   exact AI (by exact AB U) (AL (by kernel_rfl) ((hA20 _ _ _).1 A20_1)) rfl)
  refine (hA20 _ _ _).2 ?_
  exact AI (by exact AB U) (AL (by kernel_rfl) ((hA20 _ _ _).1 A20_e)) rfl
 ·intro b12 h1
  exact A0 (M8 result5 (Sh.AE h1).symm _ (Aq _ U))
theorem OY {N:Nat} {p0:(List Ah)} {r:Int} (h0:Gz N p0=some r):Ak Tryz.prog 113 [(BS p0)] [] (fun v st=>v=(i64 r)∧st=[]):=by
 unfold Gz at h0
 refine ai Tryz.func113 U U U U ?_
 iterate 2 refine zr tb rfl rfl ?_
 refine AJ fun K3 hK3=>sr U fun K4 hK4=>zq tb U (zl tb U U (zq tb U (dn hK4 U (bs h0 fun o8 h1 h0=>?_))))
 have M8 :∀(n7:Int),o8=n7→∀s,Wk 0 s ⟨19,AM [(3,(i64 n7))],[]⟩→K3 s:=by
  intro n7 hq s hw
  subst o8
  try dsimp only at h0
  refine hK3 _ (Aa hw (zr tb U U ?_))
  replace h0:=Sh.AE h0
  subst r
  exact AP (xr (Ab (L:=[(2,(i64 n7))]) (.same U)))
 refine Ac (Aw (σ:=Int×Int) (fun n v=>DK p0 n v.1 v.2=some o8) (fun (n5,t6)=>⟨19,AM [(3,(i64 n5)),(6,(BS p0)),(7,(Bx p0)),(8,(i64 t6))],[]⟩) N (0,0) h1 (AB U) (fun _ hv=>by rw[DK] at hv;cases hv) ?_)
 rintro n ⟨n5,t6⟩ h1
 try dsimp only at h1 ⊢
 rw[DK] at h1
 refine zr tb U U (AJ fun K11 hK11=>?_)
 refine ci h1 U ?_ ?_ <;> clear h1
 ·intro b12 h1
  refine AN (hK11 _ (AJ fun K13 hK13=>Ac (sr U fun K14 hK14=>bs h1 fun c15 gc15 h1=>zx DA gc15 U U U (zq tb U (A7 (m:=0) Aj GI U U (BI Aj Im U U U U U U (show 0+3≤3 by decide) rfl (dn hK14 U (AR U (zm tb 3 U ?_)))))))))
  exact zl tb U U (zm tb 2 U (dn hK13 U (AR U (zm tb 2 U (AA (xi (Sh.w (n5+(Sh.len c15.cons)),Sh.w (t6+1)) h1 (Aq _ U)))))))
 ·intro b12 h1
  exact A0 (M8 n5 (Sh.AE h1).symm _ (AB U))
theorem L7 {N:Nat} {p0:(List Ah)} {p1:Int} {r:(List Int)} (h0:E6 N p0 p1=some r):Ak Tryz.prog 70 [(BS p0),(i64 p1)] [] (fun v st=>v=(ow 0 0 r)∧st=[(BT r)]):=by
 unfold E6 at h0
 refine ai Tryz.func70 U U U U (zr tb U U (AJ fun K2 hK2=>AJ fun K3 hK3=>bs h0 fun o5 h1 h0=>?_))
 have M5 :∀(t4:Bool),o5=t4→∀s,Wk 0 s ⟨39,AM [(0,(BS p0)),(1,(i64 p1)),(15,(.bool t4))],[]⟩→K3 s:=by
  intro t4 hq s hw
  subst o5
  try dsimp only at h0
  refine hK3 _ (Aa hw ?_)
  refine ci h0 U ?_ ?_ <;> clear h0
  ·intro b6 h0
   refine zr tb U U ?_
   replace h0:=Sh.AE h0
   subst r
   exact AP (Exists.intro _ (And.intro (((G5 (t:=4) rfl 3 (size:=1) (by decide)).trans (Ab (L:=[(4,VM)]) (.same U))).trans (Ab (L:=[(4,VM)]) (.same U))) (And.intro U U)))
  ·intro b6 h0
   refine AN (hK2 _ (sr U fun K8 hK8=>zm tb 3 U (bs h0 fun l9 gl9 h0=>TL (i:=0) (j:=Sh.w (p1 - 1)) Aj DA U U U (fun _=>U) gl9 (bs h0 fun q10 gq10 h0=>zc Z5 (OY gq10) rfl U U (zq tb U (dn hK8 U (zr tb U U (AJ fun K12 hK12=>sr U fun K13 hK13=>?_))))))))
   refine zm tb 3 U (bs h0 fun c14 gc14 h0=>zx DA gc14 U U U (zm tb 2 U (zl tb U U (zq tb U (dn hK13 U (bs h0 fun o18 h1 h0=>?_))))))
   have M18 :∀(l17:(List Int)),o18=l17→∀s,Wk 0 s ⟨39,AM [(6,(ow 0 0 l17))],[(BT l17)]⟩→K12 s:=by
    intro l17 hq s hw
    subst o18
    try dsimp only at h0
    refine hK12 _ (Aa hw (zr tb U U ?_))
    replace h0:=Sh.AE h0
    subst r
    exact AP (xr (Ab (L:=[(4,(ow 0 0 l17))]) (.same U)))
   refine Ac (Aw (σ:=Int×(List Int)) (fun n v=>D0 c14 q10 n v.1 v.2=some o18) (fun (t15,l16)=>⟨39,AM [(5,(i64 q10)),(6,(ow 0 0 l16)),(27,(i64 (Sh.len c14.cons))),(28,(i64 t15))],[(BT l16)]⟩) N (0,[]) h1 ((G5 (t:=6) rfl 3 (size:=1) (by decide)).trans (Ab (L:=[(5,(i64 q10)),(6,VM),(27,(i64 (Sh.len c14.cons))),(28,(i64 0))]) (.same U))) (fun _ hv=>by rw[D0] at hv;cases hv) ?_)
   rintro n ⟨t15,l16⟩ h1
   try dsimp only at h1 ⊢
   rw[D0] at h1
   refine zr tb U U (AJ fun K21 hK21=>?_)
   refine ci h1 U ?_ ?_ <;> clear h1
   ·intro b22 h1
    refine AN (hK21 _ (AJ fun K23 hK23=>Ac (zr tb U U (AR U (zm tb 4 U ?_)))))
    refine Bb (m:=1) (l:=[Sh.w (q10+t15)]) (enc:=eI) Aj Bu (by decide) rfl U U U U U ?_
    refine bs h1 fun l25 gl25 h1=>FR (l2:=[Sh.w (q10+t15)]) Aj Bu U U U U (Ig U U) (fun _=>U) gl25 U (zq tb U (dn hK23 U (AR U (zm tb 2 U ?_))))
    exact AA (xi (Sh.w (t15+1),l25) h1 (by refine Wk.trans (Dv (L:=[(5,(i64 q10)),(6,(ow 0 0 l25)),(27,(i64 (Sh.len c14.cons))),(28,(Kn t15))]) (st':=[(BT l25),(ro 0 3 1 eI [Sh.w (q10+t15)])]) (.pure (AS fun _=>U) (.pure (AS fun _=>U) .nil)) (.same U)) ?_;exact Ai [0] U (by decide) rfl U (.pure (AS fun _=>U) .nil) (.same U)))
   ·intro b22 h1
    exact A0 (M18 l16 (Sh.AE h1).symm _ (AB U))
 refine AR U (zm tb 3 U ?_)
 rcases Sh.Az h1 with ⟨b26,h1⟩ | ⟨b26,h1⟩
 ·refine zs b26 U ?_
  iterate 3 refine zs b26 rfl ?_
  exact zt b26 U (AA (M5 true (Sh.AE h1).symm _ (AB U)))
 ·exact zg tb b26 U (zg tb b26 U (BU (v:=(Bx p0)) (DH U U b26) rfl (Ci OS U) (zg tb b26 U (zf b26 U (AA (M5 (decide ((Sh.len p0) < p1)) (Sh.AE h1).symm _ (AB U)))))))
theorem Mj {N:Nat} {p0:(List Ah)} {p1:Int} {r:Int×Ba} (h0:GH N p0 p1=some r):Ak Tryz.prog 131 [(BS p0),(i64 p1)] [] (fun v st=>v=(.Cm [(i64 r.1),(.agg (At r.2))])∧st=[]):=by
 unfold GH at h0
 refine EP U (ai Tryz.func131 U U U U (sr U fun K1 hK1=>zq tb U (A7 (m:=0) Aj Ki U U (dn hK1 U (AJ fun K2 hK2=>sr U fun K3 hK3=>zq tb U (zl tb U U (zq tb U (dn hK3 U ?_))))))))
 obtain⟨o6,h1,h0⟩:=Sh.BN h0
 have M6 :∀(_:Unit),o6=Sum.inr ()→∀s,Wk 0 s ⟨38,AM [(5,Ax)],[⟨0,111,1,[[.zc]]⟩]⟩→K2 s:=by
  intro _ hq s hw
  subst o6
  try dsimp only at h0
  refine hK2 _ (Aa hw (sr U fun K7 hK7=>zz (.agg [.zc]) (FX XK Xv Ki U U) rfl (zq tb U (BI Aj Iw U U U U U U (show 0+1≤1 by decide) rfl (dn hK7 U ?_)))))
  replace h0:=Sh.AE h0
  subst r
  exact AP (Exists.intro _ (And.intro ((Fi (id:=0) (cs:=[.zc]) (cs':=[(.sl (List.map eI []))]) (st':=[⟨0,111,1,[[(.sl (List.map eI []))]]⟩]) rfl ⟨le.zc,trivial⟩ U U).trans (Ab (L:=[(4,(i64 (-1))),(5,Ax)]) (.same U))) (A8 (x:=.tmp 5) (off:=0) (cs:=[(.sl (List.map eI []))]) (vs:=[(.sl (List.map eI []))]) Iw U U U (show 0+1≤1 by decide) rfl _ U)))
 refine Ac (Aw (σ:=Int×Int) (fun n v=>Dw p0 n v.1 v.2=some o6) (fun (c4,t5)=>⟨38,AM [(1,(i64 c4)),(5,Ax),(8,(BS p0)),(9,(Bx p0)),(10,(i64 t5))],[⟨0,111,1,[[.zc]]⟩]⟩) N (p1,0) h1 (AB U) (fun _ hv=>by rw[Dw] at hv;cases hv) ?_)
 rintro n ⟨c4,t5⟩ h1
 try dsimp only at h1 ⊢
 rw[Dw] at h1
 refine zr tb U U (AJ fun K9 hK9=>?_)
 refine ci h1 U ?_ ?_ <;> clear h1
 ·intro b10 h1
  refine AN (hK9 _ (AJ fun K11 hK11=>Ac (sr U fun K12 hK12=>zq tb U (bs h1 fun c13 gc13 h1=>zx DA gc13 U U U (zq tb U (A7 (m:=1) Aj GI U U (zq tb U (BI Aj Im U U U U U U (show 0+3≤3 by decide) rfl (dn hK12 U ?_)))))))))
  refine AJ fun K14 hK14=>AJ fun K15 hK15=>bs h1 fun o17 h2 h1=>?_
  have M17 :∀(t16:Bool),o17=t16→∀s,Wk 0 s ⟨38,AM [(1,(i64 c4)),(5,Ax),(6,(i64 t5)),(7,Ao),(8,(BS p0)),(9,(Bx p0)),(10,(i64 t5)),(23,(.bool t16))],[⟨0,111,1,[[.zc]]⟩,⟨0,81,3,[(Ad c13)]⟩]⟩→K15 s:=by
   intro t16 hq s hw
   subst o17
   try dsimp only at h1
   refine hK15 _ (Aa hw ?_)
   refine ci h1 U ?_ ?_ <;> clear h1
   ·intro b18 h1
    refine AJ fun K19 hK19=>?_
    refine Cd 8 (by kernel_rfl) (by kernel_rfl) (by rfl) ?_
    iterate 5 refine yq tb rfl ?_
    refine bs h1 fun c20 gc20 h1=>yx H0 gc20 U U U ?_
    iterate 2 refine yq tb rfl ?_
    refine Bh (BI Aj Iw U U U U U U (show 0+1≤1 by decide) rfl (dn hK19 U ?_))
    replace h1:=Sh.AE h1
    subst o6
    try dsimp only[id] at h0
    replace h0:=Sh.AE h0
    subst r
    exact AP (Exists.intro _ (And.intro ((Ai (L:=[(4,(Kn t5)),(5,Ax)]) (st':=[⟨0,111,1,[(At c20)]⟩]) [0] U (by decide) rfl U (.raw U U .nil) ⟨.rfl,.rfl,trivial⟩).trans (Ab (L:=[(4,(Kn t5)),(5,Ax)]) ⟨.rfl,.rfl,trivial⟩)) (A8 (x:=.tmp 5) (off:=0) (cs:=(At c20)) (vs:=(At c20)) Iw U U U (show 0+1≤1 by decide) rfl _ U)))
   ·intro b18 h1
    refine AN (hK14 _ (AR U (zm tb 3 U (zl tb U U (zm tb 2 U (dn hK11 U (AR U (zm tb 2 U ?_))))))))
    exact AA (xi (Sh.w (c4 - (Sh.len c13.cons)),Sh.w (t5+1)) h1 (Ai [0] U (by decide) rfl U (.raw U U .nil) (.same U)))
  refine AR U (zm tb 3 U ?_)
  rcases Sh.Az h2 with ⟨b21,h2⟩ | ⟨b21,h2⟩
  ·exact zg tb b21 U (zg tb b21 U (zg tb b21 U (BU (v:=(i64 (Sh.len c13.cons))) (DH U U b21) rfl (Ci Nc U) (zg tb b21 U (zt b21 U (AA (M17 (decide (c4 < (Sh.len c13.cons))) (Sh.AE h2).symm _ (AB U))))))))
  ·refine zs b21 U ?_
   iterate 4 refine zs b21 rfl ?_
   exact zf b21 U (AA (M17 false (Sh.AE h2).symm _ (AB U)))
 ·intro b10 h1
  exact A0 (M6 () (Sh.AE h1).symm _ (AB U))
theorem KL {N:Nat} {p0:(List Ah)} {p1:Int} {r:(List Int)} (h0:C6 N p0 p1=some r):Ak Tryz.prog 105 [(BS p0),(i64 p1)] [] (fun v st=>v=(ls eI r)∧st=[]):=by
 unfold C6 at h0
 refine ai Tryz.func105 U U U U (zr tb U U (sr U fun K2 hK2=>zm tb 2 U (bs h0 fun q3 gq3 h0=>zc (v':=(.Cm [(i64 q3.1),(.agg (At q3.2))])) Xa (Mj gq3) rfl U U (zm tb 3 U (A7 (m:=0) Aj Ki U U (zq tb U (BI Aj Iw U U U U U U (show 0+1≤1 by decide) rfl (dn hK2 U (zr tb U U ?_)))))))))
 replace h0:=Sh.AE h0
 subst r
 exact AP (xr (Aq [(4,(ls eI q3.2.fields))] U))
theorem Kw {p0:(List Ah)} {p1:Int} {r:Ah×Bool} (h0:HZ p0 p1=some r):Ak Tryz.prog 138 [(BS p0),(i64 p1)] [] (fun v st=>v=(Oj r.1 r.2)∧st=[]):=by
 unfold HZ at h0
 refine EP U (ai Tryz.func138 U U U U (sr U fun K1 hK1=>A7 (m:=0) Aj GI U U (zq tb U (dn hK1 U (AJ fun K2 hK2=>AJ fun K3 hK3=>bs h0 fun o5 h1 h0=>?_)))))
 have M5 :∀(t4:Bool),o5=t4→∀s,Wk 0 s ⟨30,AM [(0,(BS p0)),(1,(i64 p1)),(4,Ax),(23,(.bool t4))],[⟨0,81,3,[[(i64 0),(i64 0),.zc]]⟩]⟩→K3 s:=by
  intro t4 hq s hw
  subst o5
  try dsimp only at h0
  refine hK3 _ (Aa hw ?_)
  refine ci h0 U ?_ ?_ <;> clear h0
  ·intro b6 h0
   refine sr U fun K7 hK7=>zz (.agg [(i64 0),(i64 0),.zc]) (FX ZM ZP GI U U) rfl (BI Aj Im U U U U U U (show 0+3≤3 by decide) rfl (zq tb U (dn hK7 U ?_)))
   replace h0:=Sh.AE h0
   subst r
   exact AP (Exists.intro _ (And.intro ((Fi (id:=0) (cs:=[(i64 0),(i64 0),.zc]) (cs':=[(i64 0),(i64 0),(.sl (List.map At []))]) (st':=[⟨0,81,3,[[(i64 0),(i64 0),(.sl (List.map At []))]]⟩]) rfl ⟨le.rfl,le.rfl,le.zc,trivial⟩ U U).trans (Ab (L:=[(4,Ax),(5,(.bool false))]) (.same U))) (A8 (x:=.tmp 4) (off:=0) (cs:=[(i64 0),(i64 0),(.sl (List.map At []))]) (vs:=[(i64 0),(i64 0),(.sl (List.map At []))]) Im U U U (show 0+3≤3 by decide) rfl _ U)))
  ·intro b6 h0
   refine AN (hK2 _ (sr U fun K8 hK8=>zm tb 3 U (bs h0 fun c9 gc9 h0=>zx DA gc9 U U U (zq tb U (BI Aj Im U U U U U U (show 0+3≤3 by decide) rfl (zq tb U (dn hK8 U ?_)))))))
   replace h0:=Sh.AE h0
   subst r
   exact AP (Exists.intro _ (And.intro (Ab (L:=[(4,Ax),(5,(.bool true))]) (.same U)) (A8 (x:=.tmp 4) (off:=0) (cs:=(Ad c9)) (vs:=(Ad c9)) Im U U U (show 0+3≤3 by decide) rfl _ U)))
 refine AR U (zm tb 3 U ?_)
 rcases Sh.Az h1 with ⟨b10,h1⟩ | ⟨b10,h1⟩
 ·refine zs b10 U ?_
  iterate 3 refine zs b10 rfl ?_
  refine zt b10 U (zq tb U ?_)
  iterate 8 refine zs rfl rfl ?_
  exact zt U U (AA (M5 true (Sh.AE h1).symm _ (AB U)))
 ·refine zg tb b10 U (zg tb b10 U (BU (v:=(Bx p0)) (DH U U b10) rfl (Ci OS U) (zg tb b10 U (zf b10 U (zq tb U ?_)))))
  rcases Sh.Az h1 with ⟨b11,h1⟩ | ⟨b11,h1⟩
  ·refine zs b11 U ?_
   iterate 7 refine zs b11 rfl ?_
   exact zt b11 U (AA (M5 true (Sh.AE h1).symm _ (AB U)))
  ·exact zg tb b11 U (zg tb b11 U (zg tb b11 U (bs h1 fun c12 gc12 h1=>BU (v:=(.B1 (Ad c12) 0)) (DH U U b11) rfl (Eo DA U U gc12 U) (zg tb b11 U (zg tb b11 U (BU (v:=(i64 (Sh.len c12.cons))) (DH U U b11) rfl (Ci Nc U) (zg tb b11 U (zf b11 U (AA (M5 (decide (0 < (Sh.len c12.cons))) (Sh.AE h1).symm _ (AB U)))))))))))
theorem Ep {N:Nat} {p0:(List Int)} {p1:(List Int)} {r:Bool} (h0:CG N p0 p1=some r):Ak Tryz.prog 139 [(ls eI p0),(ls eI p1)] [] (fun v st=>v=(.bool r)∧st=[]):=by
 unfold CG at h0
 refine ai Tryz.func139 U U U U (zr tb U U (AJ fun K2 hK2=>sr U fun K3 hK3=>zq tb U (zl tb U U (zq tb U (zl tb U U (zq tb U (dn hK3 U ?_)))))))
 refine ci h0 U ?_ ?_ <;> clear h0
 ·intro b4 h0
  have b5:decide ((Sh.len p0)=(Sh.len p1))=false:=by simpa using b4
  refine zr tb U U ?_
  replace h0:=Sh.AE h0
  subst r
  exact AP (xr (Ab (L:=[(4,(.bool false))]) (.same U)))
 ·intro b4 h0
  have b7:decide ((Sh.len p0)=(Sh.len p1))=true:=by simpa using b4
  refine AN (hK2 _ (AJ fun K8 hK8=>sr U fun K9 hK9=>zq tb U (zl tb U U (zq tb U (dn hK9 U ?_)))))
  obtain⟨o11,h1,h0⟩:=Sh.BN h0
  have M11 :∀(_:Unit),o11=Sum.inr ()→∀s,Wk 0 s ⟨26,AM [],[]⟩→K8 s:=by
   intro _ hq s hw
   subst o11
   try dsimp only at h0
   refine hK8 _ (Aa hw (zr tb U U ?_))
   replace h0:=Sh.AE h0
   subst r
   exact AP (xr (Ab (L:=[(4,(.bool true))]) (.same U)))
  refine Ac (Aw (σ:=Int) (fun n v=>CC p0 p1 n v=some o11) (fun t10=>⟨26,AM [(0,(ls eI p0)),(1,(ls eI p1)),(12,(Bx p0)),(13,(i64 t10))],[]⟩) N 0 h1 (AB U) (fun _ hv=>by rw[CC] at hv;cases hv) ?_)
  rintro n t10 h1
  try dsimp only at h1 ⊢
  rw[CC] at h1
  refine zr tb U U (AJ fun K14 hK14=>?_)
  refine ci h1 U ?_ ?_ <;> clear h1
  ·intro b15 h1
   refine AN (hK14 _ (AJ fun K16 hK16=>Ac (zr tb U U (AJ fun K18 hK18=>?_))))
   refine B2 (by kernel_rfl) (by kernel_rfl) (by rfl) ?_
   iterate 2 refine yq tb rfl ?_
   refine bs h1 fun c19 gc19 h1=>yx Bu gc19 U U U ?_
   iterate 3 refine yq tb rfl ?_
   refine bs h1 fun c20 gc20 h1=>yx Bu gc20 U U U ?_
   iterate 2 refine yq tb rfl ?_
   refine Bh (hK18 _ ?_)
   refine ci h1 U ?_ ?_ <;> clear h1
   ·intro b21 h1
    have b22:decide (c19=c20)=false:=by simpa using b21
    refine zr tb U U ?_
    replace h1:=Sh.AE h1
    subst o11
    try dsimp only[id] at h0
    replace h0:=Sh.AE h0
    subst r
    exact AP (xr (Ab (L:=[(4,(.bool false))]) (.same U)))
   ·intro b21 h1
    have b24:decide (c19=c20)=true:=by simpa using b21
    exact AN (hK16 _ (AR U (zm tb 2 U (AA (xi (Sh.w (t10+1)) h1 (AB U))))))
  ·intro b15 h1
   exact A0 (M11 () (Sh.AE h1).symm _ (AB U))
theorem PT {N:Nat} {p0:(List Ah)} {p1:Int} {p2:Int} {r:Int} (h0:HR N p0 p1 p2=some r):Ak Tryz.prog 140 [(BS p0),(i64 p1),(i64 p2)] [] (fun v st=>v=(i64 r)∧st=[]):=by
 unfold HR at h0
 refine ai Tryz.func140 U U U U (zr tb U U (AJ fun K2 hK2=>sr U fun K3 hK3=>zq tb U (zl tb U U (zq tb U (dn hK3 U ?_)))))
 obtain⟨o5,h1,h0⟩:=Sh.BN h0
 have M5 :∀(_:Unit),o5=Sum.inr ()→∀s,Wk 0 s ⟨35,AM [],[]⟩→K2 s:=by
  intro _ hq s hw
  subst o5
  try dsimp only at h0
  refine hK2 _ (Aa hw (zr tb U U ?_))
  replace h0:=Sh.AE h0
  subst r
  exact AP (xr (Ab (L:=[(6,(i64 (-1)))]) (.same U)))
 refine Ac (Aw (σ:=Int) (fun n v=>Dd p0 p1 p2 n v=some o5) (fun t4=>⟨35,AM [(1,(i64 p1)),(2,(i64 p2)),(9,(BS p0)),(10,(Bx p0)),(11,(i64 t4))],[]⟩) N 0 h1 (AB U) (fun _ hv=>by rw[Dd] at hv;cases hv) ?_)
 rintro n t4 h1
 try dsimp only at h1 ⊢
 rw[Dd] at h1
 refine zr tb U U (AJ fun K8 hK8=>?_)
 refine ci h1 U ?_ ?_ <;> clear h1
 ·intro b9 h1
  refine AN (hK8 _ (AJ fun K10 hK10=>Ac (sr U fun K11 hK11=>zq tb U (bs h1 fun c12 gc12 h1=>zx DA gc12 U U U (zq tb U (A7 (m:=0) Aj GI U U (zq tb U (BI Aj Im U U U U U U (show 0+3≤3 by decide) rfl (dn hK11 U ?_)))))))))
  refine AJ fun K13 hK13=>bs h1 fun o15 h2 h1=>?_
  have M15 :∀(t14:Bool),o15=t14→∀s,Wk 0 s ⟨35,AM [(1,(i64 p1)),(2,(i64 p2)),(7,(i64 t4)),(9,(BS p0)),(10,(Bx p0)),(11,(i64 t4)),(31,(.bool t14))],[]⟩→K13 s:=by
   intro t14 hq s hw
   subst o15
   try dsimp only at h1
   refine hK13 _ (Aa hw ?_)
   refine ci h1 U ?_ ?_ <;> clear h1
   ·intro b16 h1
    refine zr tb U U ?_
    replace h1:=Sh.AE h1
    subst o5
    try dsimp only[id] at h0
    replace h0:=Sh.AE h0
    subst r
    exact AP (xr (Ab (L:=[(6,(Kn t4))]) (.same U)))
   ·intro b16 h1
    exact AN (hK10 _ (AR U (zm tb 2 U (AA (xi (Sh.w (t4+1)) h1 (AB U))))))
  refine AR U (zm tb 2 U (zl tb U U (zm tb 2 U ?_)))
  rcases Sh.Az h2 with ⟨b18,h2⟩ | ⟨b18,h2⟩
  ·refine zg tb b18 U ?_
   iterate 3 refine zg tb b18 rfl ?_
   refine zt b18 U (zq tb U ?_)
   rcases Sh.Az h2 with ⟨b19,h2⟩ | ⟨b19,h2⟩
   ·refine zg tb b19 U ?_
    iterate 3 refine zg tb b19 rfl ?_
    exact zt b19 U (AA (M15 (decide (c12.to=p2)) (Sh.AE h2).symm _ (Aq _ U)))
   ·refine zs b19 U ?_
    iterate 3 refine zs b19 rfl ?_
    exact zf b19 U (AA (M15 false (Sh.AE h2).symm _ (Aq _ U)))
  ·refine zs b18 U ?_
   iterate 3 refine zs b18 rfl ?_
   refine zf b18 U (zq tb U ?_)
   iterate 4 refine zs rfl rfl ?_
   exact zf U U (AA (M15 false (Sh.AE h2).symm _ (Aq _ U)))
 ·intro b9 h1
  exact A0 (M5 () (Sh.AE h1).symm _ (AB U))
end Go.Proofs.YtpahalfiiahddaaGreat

