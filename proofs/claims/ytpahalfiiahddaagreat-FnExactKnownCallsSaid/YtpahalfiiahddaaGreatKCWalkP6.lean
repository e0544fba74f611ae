import Derived.Test.YtpahalfiiahddaaGreatProg
import Derived.Test.YtpahalfiiahddaaGreatGAbsXToSSDefs
import Derived.Test.YtpahalfiiahddaaGreatGHADefsToKCDefs
import Derived.Test.YtpahalfiiahddaaGreatCFWalk
import Derived.Test.YtpahalfiiahddaaGreatKCWalkP5
namespace Go.Proofs.YtpahalfiiahddaaGreat
open Go Go.Abs RC
attribute [local irreducible] Go.Abs.Cp
set_option maxRecDepth 100000
set_option maxHeartbeats 4000000

theorem Yr:Gp Tryz.prog 30 0=some 0:=by kernel_rfl
theorem Zh:As Tryz.prog 107=true:=by kernel_rfl
theorem X8:As Tryz.prog 108=true:=by kernel_rfl
theorem Xc:As Tryz.prog 109=true:=by kernel_rfl
theorem ZR:As Tryz.prog 132=true:=by kernel_rfl
theorem ZU:As Tryz.prog 133=true:=by kernel_rfl
theorem ZL:As Tryz.prog 24=true:=by kernel_rfl
theorem Y8:As Tryz.prog 25=true:=by kernel_rfl
theorem ah:As Tryz.prog 55=true:=by kernel_rfl
theorem aY:As Tryz.prog 58=true:=by kernel_rfl

theorem J0 {N:Nat} {p0:Ag} {r:Ag×Bool} (h0:Gg N p0=some r):Ak Tryz.prog 25 [(Gn p0),(.fn 26 [])] [] (fun v st=>v=(.Cm [(.agg [(ow 0 0 r.1.decls),(ow 1 0 r.1.funcs)]),(.bool r.2)])∧st=[(Ei r.1.decls),(CV r.1.funcs)]):=by
 unfold Gg at h0
 refine Ak.wk (r0:=(.Cm [(.agg [(ow 0 0 r.1.decls),(ow 1 0 r.1.funcs)]),(.bool r.2)])) (st0:=(Wu r.1.decls r.1.funcs)) ?_ (FD (L:=[(0,(.Cm [(.agg [(ow 0 0 r.1.decls),(ow 1 0 r.1.funcs)]),(.bool r.2)]))]) (st':=[(Ei r.1.decls),(CV r.1.funcs)]) [0,1] U (by decide) rfl U (.deep (AG fun _=>U) (.deep (AG fun _=>U) trivial)) (.same U))
 refine ai Tryz.func25 U U U U (sr U fun K1 hK1=>BY (m:=0) Aj U U U U U (Al (Wk.Ey (L:=[(1,(.fn 26 [])),(2,(DI p0))]) (st':=[⟨1,30,2,[]⟩]) (id:=0) rfl (show 0≤0 by decide) (Fa U) (.same U) rfl) (A7 (m:=1) Aj HK U U (zq tb U (dn hK1 U (sr U fun K2 hK2=>zq tb U (bs h0 fun q3 gq3 h0=>BW (v':=(.agg [(ow 2 0 q3.decls),(ow 3 0 q3.funcs)])) Aj ah (MF gq3) rfl U ⟨(AG fun _=>U),⟨(AG fun _=>U),trivial⟩⟩ U U (A7 (m:=4) Aj HK U U ?_))))))))
 refine BI Aj FE U U U U U U (show 0+2≤2 by decide) rfl (dn hK2 U (AJ fun K4 hK4=>sr U fun K5 hK5=>zm tb 2 U (zz (i64 (Sh.len q3.funcs)) (Ct Xb U U U) rfl (zq tb U (dn hK5 U ?_)))))
 obtain⟨o9,h1,h0⟩:=Sh.BN h0
 have M9 :∀(l8:(List Av)),o9=Sum.inr l8→∀s,Wk 0 s ⟨49,AM [(4,Ax),(6,Jg)],[CU,(ro 0 81 3 (Ae 111 3) q3.decls),(CV l8),⟨0,30,2,[[(ow 1 0 q3.decls),(ow 2 0 l8)]]⟩]⟩→K4 s:=by
  intro l8 hq s hw
  subst o9
  try dsimp only at h0
  refine hK4 _ (Aa hw (sr U fun K10 hK10=>zq tb U (BI Aj FE U U U U U U (show 0+2≤2 by decide) rfl (zq tb U (dn hK10 U ?_)))))
  replace h0:=Sh.AE h0
  subst r
  exact AP (Exists.intro _ (And.intro ((BM (L:=[(4,CD),(5,(.bool true))]) (st':=[(ro 0 81 3 (Ae 111 3) q3.decls),(CV l8),⟨0,30,2,[[(ow 0 0 q3.decls),(ow 1 0 l8)]]⟩]) (st1:=[(ro 0 81 3 (Ae 111 3) q3.decls),(CV l8),⟨0,30,2,[[(ow 1 0 q3.decls),(ow 2 0 l8)]]⟩]) [1,2,0] U .nil (by decide) rfl U (.deep (AG fun _=>U) (.deep (AG fun _=>U) (.raw U U .nil))) (.same U)).trans (Ab (L:=[(4,CD),(5,(.bool true))]) (.same U))) (A8 (x:=.tmp 4) (off:=0) (cs:=[(ow 0 0 q3.decls),(ow 1 0 l8)]) (vs:=[(ow 0 0 q3.decls),(ow 1 0 l8)]) FE U U U (show 0+2≤2 by decide) rfl _ ⟨U,U⟩)))
 refine Ac (Aw (σ:=Int×(List Av)) (fun n v=>CW N p0 q3 n v.1 v.2=some o9) (fun (t6,l7)=>⟨49,AM [(1,(.fn 26 [])),(2,(DI p0)),(4,Ax),(6,Jg),(12,(i64 (Sh.len q3.funcs))),(13,(i64 t6))],[CU,(ro 0 81 3 (Ae 111 3) q3.decls),(CV l7),⟨0,30,2,[[(ow 1 0 q3.decls),(ow 2 0 l7)]]⟩]⟩) N (0,q3.funcs) h1 (BM (L:=[(1,(.fn 26 [])),(2,(DI p0)),(4,Ax),(6,Jg),(12,(i64 (Sh.len q3.funcs))),(13,(i64 0))]) (st':=[CU,(ro 0 81 3 (Ae 111 3) q3.decls),(NV q3),⟨0,30,2,[[(ow 1 0 q3.decls),(ow 2 0 q3.funcs)]]⟩]) (st1:=[CU,(ro 0 81 3 (Ae 111 3) q3.decls),(NV q3),⟨0,30,2,[[(ow 2 0 q3.decls),(ow 3 0 q3.funcs)]]⟩]) [1,2,3,4] U .nil (by decide) rfl U (.raw U U (.deep (AG fun _=>U) (.deep (AG fun _=>U) (.raw U U .nil)))) (.same U)) (fun _ hv=>by rw[CW] at hv;cases hv) ?_)
 rintro n ⟨t6,l7⟩ h1
 try dsimp only at h1 ⊢
 rw[CW] at h1
 refine zr tb U U (AJ fun K12 hK12=>?_)
 refine ci h1 U ?_ ?_ <;> clear h1
 ·intro b13 h1
  refine AN (hK12 _ (AJ fun K14 hK14=>Ac (zr tb U U (AJ fun K16 hK16=>?_))))
  refine Mv (by kernel_rfl) ?_
  refine bs h1 fun c17 gc17 h1=>bs h1 fun q18 gq18 h1=>?_
  refine Rk (f':=23) (listed':=(bm 23 0)) rfl (by kernel_rfl) ?_
  refine CR 0 (v:=(.ptr 3 0 0 1)) rfl U (by kernel_rfl) (by kernel_rfl) (by kernel_rfl) rfl (D4 (G4 Oc U U (show 0+1≤2 by decide) rfl)) ?_
  refine CR 2 (v:=(i64 t6)) rfl U (by kernel_rfl) (by kernel_rfl) (by kernel_rfl) rfl (D4 (CO U)) ?_
  refine CR 3 (v:=(DI p0)) rfl U (by kernel_rfl) (by kernel_rfl) (by kernel_rfl) rfl (D4 (Lv Yr U U)) ?_
  refine CR 4 (v:=(ls Ad p0.decls)) rfl U (by kernel_rfl) (by kernel_rfl) (by kernel_rfl) rfl (OC Yx U U) ?_
  refine CR 5 (v:=(.ptr 3 0 0 1)) rfl U (by kernel_rfl) (by kernel_rfl) (by kernel_rfl) rfl (D4 (G4 Oc U U (show 0+1≤2 by decide) rfl)) ?_
  refine CR 7 (v:=(i64 t6)) rfl U (by kernel_rfl) (by kernel_rfl) (by kernel_rfl) rfl (D4 (CO U)) ?_
  refine CR 11 (v:=(.ptr 3 0 0 1)) rfl U (by kernel_rfl) (by kernel_rfl) (by kernel_rfl) rfl (D4 (G4 Oc U U (show 0+1≤2 by decide) rfl)) ?_
  refine CR 13 (v:=(i64 t6)) rfl U (by kernel_rfl) (by kernel_rfl) (by kernel_rfl) rfl (D4 (CO U)) ?_
  refine CR 18 (v:=(.fn 26 [])) rfl U (by kernel_rfl) (by kernel_rfl) (by kernel_rfl) rfl (D4 (CO U)) ?_
  refine RU (PM fun A19 hA19=>?_)
  have A19_0123456789abcdefghijklm:A19 0 (bm 23 8388607) ⟨49,AM [(1,(.fn 26 [])),(2,(DI p0)),(4,Ax),(6,Ao),(7,(i64 t6)),(12,(i64 (Sh.len q3.funcs))),(13,(i64 t6))],[CU,⟨0,30,2,[[(ow 2 0 q3.decls),(ow 3 0 (Sh.put l7 t6 (Av.mk c17.params c17.result q18)))]]⟩,(ro 0 81 3 (Ae 111 3) q3.decls),(ro 0 48 5 (BK 3 44) (Sh.put l7 t6 (Av.mk c17.params c17.result q18)))]⟩:=(hA19 _ _ _).2 (by
   refine OH U (by kernel_rfl) ?_
   refine hK16 _ (sr U fun K20 hK20=>zm tb 3 U (bs h1 fun c21 gc21 h1=>zz (EO t6) (BZ CQ U U U U gc21) rfl (zq tb U (Al (Bo (id:=3) (j:=4) (i:=t6) (c:=c21) (ys:=c21.body.kids) (encY:=(Ay 44)) rfl gc21 U U U U U) (zz (MW c21) (A8 Bz U U (Bm gc21) (show 2+3≤5 by decide) rfl) rfl (bs h1 fun q22 gq22 h1=>Jn (v':=(i64 q22)) Aj Y6 (LN gq22) rfl (.agg (.val U (.val U (.ownD U U AF (fun x=>LX x) .nil))) .nil) rfl trivial U U ?_))))))
   refine Al (Wk.take (id:=3) (m:=4) (j:=4) (i:=t6) (c:=c21) (ys:=c21.body.kids) (encY:=(Ay 44)) rfl gc21 U U U (by decide) (show 0≤4 by decide) Co U U) ?_
   refine Al (Ev (id:=3) (i:=t6) (c:=c21) rfl gc21 U U) (zq tb U (dn hK20 U ?_))
   refine ci h1 U ?_ ?_ <;> clear h1
   ·intro b23 h1
    refine sr U fun K24 hK24=>zz (.agg [.zc,.zc]) (FX RH RN HK U U) rfl (BI Aj FE U U U U U U (show 0+2≤2 by decide) rfl (zq tb U (dn hK24 U ?_)))
    replace h1:=Sh.AE h1
    subst o9
    try dsimp only[id] at h0
    replace h0:=Sh.AE h0
    subst r
    exact AP (Exists.intro _ (And.intro ((((GS (id:=0) (st':=[⟨0,30,2,[[(.own 5 0 (List.length ([]:List Ah))),.zc]]⟩,⟨0,30,2,[[(ow 2 0 q3.decls),(ow 3 0 (Sh.put l7 t6 (Av.mk c17.params c17.result q18)))]]⟩,(ro 0 81 3 (Ae 111 3) q3.decls),(ro 0 48 5 (BK 3 44) (Sh.put l7 t6 (Av.mk c17.params c17.result q18))),B6,US]) (j:=0) rfl U 81 (size':=3) (by decide) rfl U U U).trans (GS (id:=0) (st':=[⟨0,30,2,[[(.own 5 0 (List.length ([]:List Ah))),(.own 6 0 (List.length ([]:List Av)))]]⟩,⟨0,30,2,[[(ow 2 0 q3.decls),(ow 3 0 (Sh.put l7 t6 (Av.mk c17.params c17.result q18)))]]⟩,(ro 0 81 3 (Ae 111 3) q3.decls),(ro 0 48 5 (BK 3 44) (Sh.put l7 t6 (Av.mk c17.params c17.result q18))),B6,US,TH]) (j:=1) rfl U 48 (size':=5) (by decide) rfl U U U)).trans (BM (L:=[(4,CD),(5,(.bool false))]) (st':=[US,TH,⟨0,30,2,[WH]⟩]) (st1:=[US,TH,⟨0,30,2,[[(.own 5 0 (List.length ([]:List Ah))),(.own 6 0 (List.length ([]:List Av)))]]⟩]) [5,6,0] U .nil (by decide) rfl U (.deep (AG fun _=>U) (.deep (AG fun _=>U) (.raw U U .nil))) (.same U))).trans (Ab (L:=[(4,CD),(5,(.bool false))]) (.same U))) (A8 (x:=.tmp 4) (off:=0) (cs:=WH) (vs:=WH) FE U U U (show 0+2≤2 by decide) rfl _ ⟨U,U⟩)))
   ·intro b23 h1
    refine AN (hK14 _ (AR U (zm tb 2 U ?_)))
    exact AA (xi (Sh.w (t6+1),Sh.put l7 t6 (Av.mk c17.params c17.result q18)) h1 (by exact BM (L:=[(1,(.fn 26 [])),(2,(DI p0)),(4,Ax),(6,Jg),(12,(i64 (Sh.len q3.funcs))),(13,(Kn t6))]) (st':=[CU,(ro 0 81 3 (Ae 111 3) q3.decls),(ro 0 48 5 (BK 3 44) (Sh.put l7 t6 (Av.mk c17.params c17.result q18))),⟨0,30,2,[[(ow 1 0 q3.decls),(ow 2 0 (Sh.put l7 t6 (Av.mk c17.params c17.result q18)))]]⟩]) (st1:=[CU,(ro 0 81 3 (Ae 111 3) q3.decls),(ro 0 48 5 (BK 3 44) (Sh.put l7 t6 (Av.mk c17.params c17.result q18))),⟨0,30,2,[[(ow 2 0 q3.decls),(ow 3 0 (Sh.put l7 t6 (Av.mk c17.params c17.result q18)))]]⟩]) [0,2,3,1] U .nil (by decide) rfl U (.raw U U (.deep (AG fun _=>U) (.deep (AG fun _=>U) (.raw U U .nil)))) (.same U))))
  have A19_0123456789abcdefghijkl:A19 1 (bm 23 4194303) ⟨49,AM [(1,(.fn 26 [])),(2,(DI p0)),(4,Ax),(6,Ao),(7,(i64 t6)),(12,(i64 (Sh.len q3.funcs))),(13,(i64 t6)),(35,(WV q18)),(37,(PX t6))],[CU,⟨0,30,2,[[(ow 2 0 q3.decls),(ow 3 0 l7)]]⟩,(ro 0 81 3 (Ae 111 3) q3.decls),(NX l7 t6 c17),(ro 0 3 1 eI c17.params),B6,(BP q18)]⟩:=(hA19 _ _ _).2 (by
   refine AU [22] U (by kernel_rfl) (by decide) ⟨?_,trivial⟩
   ·refine An.of (i:=22) rfl U (by rfl) ?_
    refine V5 (x':=[(ow 4 0 c17.params),(i64 c17.result),(i64 q18.op),(i64 q18.num),(ow 6 0 q18.kids)]) (st':=[CU,⟨0,30,2,[[(ow 2 0 q3.decls),(ow 3 0 l7)]]⟩,(ro 0 81 3 (Ae 111 3) q3.decls),⟨0,48,5,hole l7 (BK 3 44) t6 [(ow 4 0 c17.params),(i64 c17.result),(i64 q18.op),(i64 q18.num),(ow 6 0 q18.kids)]⟩,(ro 0 3 1 eI c17.params),B6,(BP q18)]) Aj Bz U U gc17 U U U (show 2+3≤5 by decide) rfl U ?_
    refine Al (Wk.take (id:=3) (m:=4) (j:=0) (i:=t6) (c:=c17) (ys:=c17.params) (encY:=eI) rfl gc17 U U U (by decide) (show 0≤4 by decide) (fun _=>U) rfl U) ?_
    refine Al (Wk.take (id:=3) (m:=6) (j:=4) (i:=t6) (c:=c17) (ys:=q18.kids) (encY:=(Ay 44)) rfl gc17 U U U (by decide) (show 0≤6 by decide) Co U U) ?_
    refine Al (EV (id:=3) (i:=t6) (u:=(Av.mk c17.params c17.result q18)) rfl U U) (AA ⟨U,?_⟩)
    exact AD (by refine Wk.trans (Ab (L:=[(1,(.fn 26 [])),(2,(.B1 [(.sl (List.map Ad p0.decls)),(.sl (List.map A5 p0.funcs))] 0)),(4,(.ptr 0 0 0 0)),(6,(.ptr 1 0 0 0)),(7,(i64 t6)),(12,(i64 (Sh.len q3.funcs))),(13,(i64 t6))]) (.same U)) ?_;refine Wk.trans (DF (st:=[CU,⟨0,30,2,[[(.own 2 0 (List.length q3.decls)),(.own 3 0 (List.length l7))]]⟩,⟨0,81,3,List.map (Ae 111 3) q3.decls⟩,⟨0,48,5,List.map (BK 3 44) (Sh.put l7 t6 (Av.mk c17.params c17.result q18))⟩,⟨1,3,1,[]⟩,⟨1,44,3,[]⟩,⟨1,44,3,[]⟩]) (st':=[CU,⟨0,30,2,[[(.own 2 0 (List.length q3.decls)),(.own 3 0 (List.length (Sh.put l7 t6 (Av.mk c17.params c17.result q18))))]]⟩,⟨0,81,3,List.map (Ae 111 3) q3.decls⟩,⟨0,48,5,List.map (BK 3 44) (Sh.put l7 t6 (Av.mk c17.params c17.result q18))⟩,⟨1,3,1,[]⟩,⟨1,44,3,[]⟩,⟨1,44,3,[]⟩]) (by simp only[Sh.BF])) ?_;exact Ai [0,1,2,3] U (by decide) rfl U (.raw U U (.raw U U (.deep (AG fun _=>U) (.deep (AG fun _=>U) .nil)))) (.same U)) (AH (by kernel_rfl) ((hA19 _ _ _).1 A19_0123456789abcdefghijklm)) rfl)
  have A19_0123456789abcdefghijk:A19 2 (bm 23 2097151) ⟨49,AM [(1,(.fn 26 [])),(2,(DI p0)),(4,Ax),(6,Ao),(7,(i64 t6)),(12,(i64 (Sh.len q3.funcs))),(13,(i64 t6)),(35,(WV q18)),(36,(EO t6))],[CU,⟨0,30,2,[[(ow 2 0 q3.decls),(ow 3 0 l7)]]⟩,(ro 0 81 3 (Ae 111 3) q3.decls),(NX l7 t6 c17),(ro 0 3 1 eI c17.params),B6,(BP q18)]⟩:=(hA19 _ _ _).2 (by
   refine AU [21] U (by kernel_rfl) (by decide) ⟨?_,trivial⟩
   ·refine An.of (i:=21) rfl U (by rfl) ?_
    refine zq tb U (AA ⟨U,?_⟩)
    exact AD (by exact AB U) (AH (by kernel_rfl) ((hA19 _ _ _).1 A19_0123456789abcdefghijkl)) rfl)
  have A19_0123456789abcdefghij:A19 3 (bm 23 1048575) ⟨49,AM [(1,(.fn 26 [])),(2,(DI p0)),(4,Ax),(6,Ao),(7,(i64 t6)),(12,(i64 (Sh.len q3.funcs))),(13,(i64 t6)),(17,(ow 3 0 l7)),(18,(i64 t6)),(35,(WV q18))],[CU,⟨0,30,2,[[(ow 2 0 q3.decls),(ow 3 0 l7)]]⟩,(ro 0 81 3 (Ae 111 3) q3.decls),(NX l7 t6 c17),(ro 0 3 1 eI c17.params),B6,(BP q18)]⟩:=(hA19 _ _ _).2 (by
   refine AU [20] U (by kernel_rfl) (by decide) ⟨?_,trivial⟩
   ·refine An.of (i:=20) rfl U (by rfl) ?_
    refine zz (EO t6) (KV CQ U U U U gc17) rfl (AA ⟨U,?_⟩)
    exact AD (by exact AB U) (AH (by kernel_rfl) ((hA19 _ _ _).1 A19_0123456789abcdefghijk)) rfl)
  have A19_0123456789abcdefghi:A19 4 (bm 23 524287) ⟨49,AM [(1,(.fn 26 [])),(2,(DI p0)),(4,Ax),(6,Ao),(7,(i64 t6)),(12,(i64 (Sh.len q3.funcs))),(13,(i64 t6)),(17,(ow 3 0 l7)),(18,(i64 t6)),(20,(ls Ad p0.decls)),(26,(SJ c17)),(33,(i64 (Sh.len c17.params))),(34,(.fn 26 []))],[CU,⟨0,30,2,[[(ow 2 0 q3.decls),(ow 3 0 l7)]]⟩,(ro 0 81 3 (Ae 111 3) q3.decls),(NX l7 t6 c17),(ro 0 3 1 eI c17.params),(H3 c17)]⟩:=(hA19 _ _ _).2 (by
   refine AU [19] U (by kernel_rfl) (by decide) ⟨?_,trivial⟩
   ·refine An.of (i:=19) rfl U (by rfl) ?_
    refine Jp (rowsP:=[(H3 c17)]) (rows0:=[(H3 c17)]) (rows1:=[B6]) (rows2:=[(BP q18)]) (rows1':=[B6]) (rows2':=[(BP q18)]) (st':=[CU,⟨0,30,2,[[(ow 2 0 q3.decls),(ow 3 0 l7)]]⟩,(ro 0 81 3 (Ae 111 3) q3.decls),(NX l7 t6 c17),(ro 0 3 1 eI c17.params),B6,(BP q18)]) (v':=(WV q18)) [5] Aj Ui (JD gq18) rfl (by decide) rfl U (.deep (AG AF) .nil) rfl U (.pure (by intro x hx;cases hx) .nil) (.deep (AG AF) .nil) rfl U ?_
    refine AA ⟨U,?_⟩
    exact AD (by exact AB U) (AH (by kernel_rfl) ((hA19 _ _ _).1 A19_0123456789abcdefghij)) rfl)
  have A19_0123456789abcdefgi:A19 5 (bm 23 393215) ⟨49,AM [(1,(.fn 26 [])),(2,(DI p0)),(4,Ax),(6,Ao),(7,(i64 t6)),(12,(i64 (Sh.len q3.funcs))),(13,(i64 t6)),(17,(ow 3 0 l7)),(18,(i64 t6)),(20,(ls Ad p0.decls)),(26,(SJ c17)),(32,(ow 4 0 c17.params)),(34,(.fn 26 []))],[CU,⟨0,30,2,[[(ow 2 0 q3.decls),(ow 3 0 l7)]]⟩,(ro 0 81 3 (Ae 111 3) q3.decls),(NX l7 t6 c17),(ro 0 3 1 eI c17.params),(H3 c17)]⟩:=(hA19 _ _ _).2 (by
   refine AU [17] U (by kernel_rfl) (by decide) ⟨?_,trivial⟩
   ·refine An.of (i:=17) rfl U (by rfl) ?_
    refine zz (i64 (Sh.len c17.params)) (Ct FU U U U) rfl (AA ⟨U,?_⟩)
    exact AD (by exact AB U) (AH (by kernel_rfl) ((hA19 _ _ _).1 A19_0123456789abcdefghi)) rfl)
  have A19_0123456789abcdefi:A19 6 (bm 23 327679) ⟨49,AM [(1,(.fn 26 [])),(2,(DI p0)),(4,Ax),(6,Ao),(7,(i64 t6)),(12,(i64 (Sh.len q3.funcs))),(13,(i64 t6)),(17,(ow 3 0 l7)),(18,(i64 t6)),(20,(ls Ad p0.decls)),(26,(MW c17)),(31,(EO t6)),(34,(.fn 26 []))],[CU,⟨0,30,2,[[(ow 2 0 q3.decls),(ow 3 0 l7)]]⟩,(ro 0 81 3 (Ae 111 3) q3.decls),(Uj l7 t6 c17),(H3 c17)]⟩:=(hA19 _ _ _).2 (by
   refine AU [16] U (by kernel_rfl) (by decide) ⟨?_,trivial⟩
   ·refine An.of (i:=16) rfl U (by rfl) ?_
    refine Al (G9 (id:=3) (j:=0) (i:=t6) (ys:=c17.params) (encY:=eI) (x':=(WI c17)) (st':=[CU,⟨0,30,2,[[(ow 2 0 q3.decls),(ow 3 0 l7)]]⟩,(ro 0 81 3 (Ae 111 3) q3.decls),⟨0,48,5,hole l7 (BK 3 44) t6 (WI c17)⟩,(H3 c17),(ro 0 3 1 eI c17.params)]) rfl gc17 U U U U) (zz (ow 5 0 c17.params) (BG HM U U (Bm gc17) rfl) rfl (AA ⟨U,?_⟩))
    exact AD (by exact BM (L:=[(1,(.fn 26 [])),(2,(DI p0)),(4,Ax),(6,Ao),(7,(i64 t6)),(12,(i64 (Sh.len q3.funcs))),(13,(i64 t6)),(17,(ow 3 0 l7)),(18,(i64 t6)),(20,(ls Ad p0.decls)),(26,(SJ c17)),(32,(ow 4 0 c17.params)),(34,(.fn 26 []))]) (st':=[CU,⟨0,30,2,[[(ow 2 0 q3.decls),(ow 3 0 l7)]]⟩,(ro 0 81 3 (Ae 111 3) q3.decls),(NX l7 t6 c17),(ro 0 3 1 eI c17.params),(H3 c17)]) (st1:=[CU,⟨0,30,2,[[(ow 2 0 q3.decls),(ow 3 0 l7)]]⟩,(ro 0 81 3 (Ae 111 3) q3.decls),⟨0,48,5,hole l7 (BK 3 44) t6 (WI c17)⟩,(ro 0 3 1 eI c17.params),(H3 c17)]) [0,1,2,3,5,4] U .nil (by decide) rfl U (.raw U U (.raw U U (.deep (AG fun _=>U) (.hol (AG fun _=>U) (A1 fun _=>U) rfl U (.pure (AS fun _=>U) (.deep (AG AF) .nil)))))) (.same U)) (AH (by kernel_rfl) ((hA19 _ _ _).1 A19_0123456789abcdefgi)) rfl)
  have A19_0123456789abcdei:A19 7 (bm 23 294911) ⟨49,AM [(1,(.fn 26 [])),(2,(DI p0)),(4,Ax),(6,Ao),(7,(i64 t6)),(12,(i64 (Sh.len q3.funcs))),(13,(i64 t6)),(17,(ow 3 0 l7)),(18,(i64 t6)),(20,(ls Ad p0.decls)),(26,(MW c17)),(30,(EO t6)),(34,(.fn 26 []))],[CU,⟨0,30,2,[[(ow 2 0 q3.decls),(ow 3 0 l7)]]⟩,(ro 0 81 3 (Ae 111 3) q3.decls),(Uj l7 t6 c17),(H3 c17)]⟩:=(hA19 _ _ _).2 (by
   refine AU [15] U (by kernel_rfl) (by decide) ⟨?_,trivial⟩
   ·refine An.of (i:=15) rfl U (by rfl) ?_
    refine zq tb U (AA ⟨U,?_⟩)
    exact AD (by exact AB U) (AH (by kernel_rfl) ((hA19 _ _ _).1 A19_0123456789abcdefi)) rfl)
  have A19_0123456789abcdi:A19 8 (bm 23 278527) ⟨49,AM [(1,(.fn 26 [])),(2,(DI p0)),(4,Ax),(6,Ao),(7,(i64 t6)),(12,(i64 (Sh.len q3.funcs))),(13,(i64 t6)),(17,(ow 3 0 l7)),(18,(i64 t6)),(20,(ls Ad p0.decls)),(26,(MW c17)),(28,(ow 3 0 l7)),(29,(i64 t6)),(34,(.fn 26 []))],[CU,⟨0,30,2,[[(ow 2 0 q3.decls),(ow 3 0 l7)]]⟩,(ro 0 81 3 (Ae 111 3) q3.decls),(Uj l7 t6 c17),(H3 c17)]⟩:=(hA19 _ _ _).2 (by
   refine AU [14] U (by kernel_rfl) (by decide) ⟨?_,trivial⟩
   ·refine An.of (i:=14) rfl U (by rfl) ?_
    refine zz (EO t6) (KV CQ U U U U gc17) rfl (AA ⟨U,?_⟩)
    exact AD (by exact AB U) (AH (by kernel_rfl) ((hA19 _ _ _).1 A19_0123456789abcdei)) rfl)
  have A19_0123456789abdi:A19 9 (bm 23 274431) ⟨49,AM [(1,(.fn 26 [])),(2,(DI p0)),(4,Ax),(6,Ao),(7,(i64 t6)),(12,(i64 (Sh.len q3.funcs))),(13,(i64 t6)),(17,(ow 3 0 l7)),(18,(i64 t6)),(20,(ls Ad p0.decls)),(26,(MW c17)),(27,Dr),(29,(i64 t6)),(34,(.fn 26 []))],[CU,⟨0,30,2,[[(ow 2 0 q3.decls),(ow 3 0 l7)]]⟩,(ro 0 81 3 (Ae 111 3) q3.decls),(Uj l7 t6 c17),(H3 c17)]⟩:=(hA19 _ _ _).2 (by
   refine AU [12] U (by kernel_rfl) (by decide) ⟨?_,trivial⟩
   ·refine An.of (i:=12) rfl U (by rfl) ?_
    refine zq tb U (AA ⟨U,?_⟩)
    exact AD (by exact AB U) (AH (by kernel_rfl) ((hA19 _ _ _).1 A19_0123456789abcdi)) rfl)
  have A19_0123456789bcdefghi:A19 5 (bm 23 523263) ⟨49,AM [(1,(.fn 26 [])),(2,(DI p0)),(4,Ax),(6,Ao),(7,(i64 t6)),(12,(i64 (Sh.len q3.funcs))),(13,(i64 t6)),(17,(ow 3 0 l7)),(18,(i64 t6)),(20,(ls Ad p0.decls)),(25,(PX t6)),(33,(i64 (Sh.len c17.params))),(34,(.fn 26 []))],[CU,⟨0,30,2,[[(ow 2 0 q3.decls),(ow 3 0 l7)]]⟩,(ro 0 81 3 (Ae 111 3) q3.decls),(NS l7 t6 c17),(ro 0 3 1 eI c17.params)]⟩:=(hA19 _ _ _).2 (by
   refine AU [10] U (by kernel_rfl) (by decide) ⟨?_,trivial⟩
   ·refine An.of (i:=10) rfl U (by rfl) ?_
    refine Al (G9 (id:=3) (j:=4) (i:=t6) (ys:=c17.body.kids) (encY:=(Ay 44)) (x':=(YP c17)) (st':=[CU,⟨0,30,2,[[(ow 2 0 q3.decls),(ow 3 0 l7)]]⟩,(ro 0 81 3 (Ae 111 3) q3.decls),(NX l7 t6 c17),(ro 0 3 1 eI c17.params),(H3 c17)]) rfl gc17 U U U U) (zz (SJ c17) (A8 Bz U U (Bm gc17) (show 2+3≤5 by decide) rfl) rfl (AA ⟨U,?_⟩))
    exact AD (by exact AB U) (AH (by kernel_rfl) ((hA19 _ _ _).1 A19_0123456789abcdefghi)) rfl)
  have A19_0123456789bcdefgi:A19 6 (bm 23 392191) ⟨49,AM [(1,(.fn 26 [])),(2,(DI p0)),(4,Ax),(6,Ao),(7,(i64 t6)),(12,(i64 (Sh.len q3.funcs))),(13,(i64 t6)),(17,(ow 3 0 l7)),(18,(i64 t6)),(20,(ls Ad p0.decls)),(25,(PX t6)),(32,(ow 4 0 c17.params)),(34,(.fn 26 []))],[CU,⟨0,30,2,[[(ow 2 0 q3.decls),(ow 3 0 l7)]]⟩,(ro 0 81 3 (Ae 111 3) q3.decls),(NS l7 t6 c17),(ro 0 3 1 eI c17.params)]⟩:=(hA19 _ _ _).2 (by
   refine AU [10,17] U (by kernel_rfl) (by decide) ⟨?_,?_,trivial⟩
   ·refine An.of (i:=10) rfl U (by rfl) ?_
    refine Al (G9 (id:=3) (j:=4) (i:=t6) (ys:=c17.body.kids) (encY:=(Ay 44)) (x':=(YP c17)) (st':=[CU,⟨0,30,2,[[(ow 2 0 q3.decls),(ow 3 0 l7)]]⟩,(ro 0 81 3 (Ae 111 3) q3.decls),(NX l7 t6 c17),(ro 0 3 1 eI c17.params),(H3 c17)]) rfl gc17 U U U U) (zz (SJ c17) (A8 Bz U U (Bm gc17) (show 2+3≤5 by decide) rfl) rfl (AA ⟨U,?_⟩))
    exact AD (by exact AB U) (AH (by kernel_rfl) ((hA19 _ _ _).1 A19_0123456789abcdefgi)) rfl
   ·refine An.of (i:=17) rfl U (by rfl) ?_
    refine zz (i64 (Sh.len c17.params)) (Ct FU U U U) rfl (AA ⟨U,?_⟩)
    exact AD (by exact AB U) (AH (by kernel_rfl) ((hA19 _ _ _).1 A19_0123456789bcdefghi)) rfl)
  have A19_0123456789bcdefi:A19 7 (bm 23 326655) ⟨49,AM [(1,(.fn 26 [])),(2,(DI p0)),(4,Ax),(6,Ao),(7,(i64 t6)),(12,(i64 (Sh.len q3.funcs))),(13,(i64 t6)),(17,(ow 3 0 l7)),(18,(i64 t6)),(20,(ls Ad p0.decls)),(25,(PX t6)),(31,(EO t6)),(34,(.fn 26 []))],[CU,⟨0,30,2,[[(ow 2 0 q3.decls),(ow 3 0 l7)]]⟩,(ro 0 81 3 (Ae 111 3) q3.decls),(CV l7)]⟩:=(hA19 _ _ _).2 (by
   refine AU [10,16] U (by kernel_rfl) (by decide) ⟨?_,?_,trivial⟩
   ·refine An.of (i:=10) rfl U (by rfl) ?_
    refine Al (Bo (id:=3) (j:=4) (i:=t6) (c:=c17) (ys:=c17.body.kids) (encY:=(Ay 44)) rfl gc17 U U U U U) (zz (MW c17) (A8 Bz U U (Bm gc17) (show 2+3≤5 by decide) rfl) rfl (AA ⟨U,?_⟩))
    exact AD (by exact AB U) (AH (by kernel_rfl) ((hA19 _ _ _).1 A19_0123456789abcdefi)) rfl
   ·refine An.of (i:=16) rfl U (by rfl) ?_
    refine Al (Bo (id:=3) (j:=0) (i:=t6) (c:=c17) (ys:=c17.params) (encY:=eI) rfl gc17 U U U U U) (zz (ow 4 0 c17.params) (BG HM U U (Bm gc17) rfl) rfl (AA ⟨U,?_⟩))
    exact AD (by exact AB U) (AH (by kernel_rfl) ((hA19 _ _ _).1 A19_0123456789bcdefgi)) rfl)
  have A19_0123456789bcdei:A19 8 (bm 23 293887) ⟨49,AM [(1,(.fn 26 [])),(2,(DI p0)),(4,Ax),(6,Ao),(7,(i64 t6)),(12,(i64 (Sh.len q3.funcs))),(13,(i64 t6)),(17,(ow 3 0 l7)),(18,(i64 t6)),(20,(ls Ad p0.decls)),(25,(PX t6)),(30,(EO t6)),(34,(.fn 26 []))],[CU,⟨0,30,2,[[(ow 2 0 q3.decls),(ow 3 0 l7)]]⟩,(ro 0 81 3 (Ae 111 3) q3.decls),(CV l7)]⟩:=(hA19 _ _ _).2 (by
   refine AU [10,15] U (by kernel_rfl) (by decide) ⟨?_,?_,trivial⟩
   ·refine An.of (i:=10) rfl U (by rfl) ?_
    refine Al (Bo (id:=3) (j:=4) (i:=t6) (c:=c17) (ys:=c17.body.kids) (encY:=(Ay 44)) rfl gc17 U U U U U) (zz (MW c17) (A8 Bz U U (Bm gc17) (show 2+3≤5 by decide) rfl) rfl (AA ⟨U,?_⟩))
    exact AD (by exact AB U) (AH (by kernel_rfl) ((hA19 _ _ _).1 A19_0123456789abcdei)) rfl
   ·refine An.of (i:=15) rfl U (by rfl) ?_
    refine zq tb U (AA ⟨U,?_⟩)
    exact AD (by exact AB U) (AH (by kernel_rfl) ((hA19 _ _ _).1 A19_0123456789bcdefi)) rfl)
  have A19_0123456789bcdi:A19 9 (bm 23 277503) ⟨49,AM [(1,(.fn 26 [])),(2,(DI p0)),(4,Ax),(6,Ao),(7,(i64 t6)),(12,(i64 (Sh.len q3.funcs))),(13,(i64 t6)),(17,(ow 3 0 l7)),(18,(i64 t6)),(20,(ls Ad p0.decls)),(25,(PX t6)),(28,(ow 3 0 l7)),(29,(i64 t6)),(34,(.fn 26 []))],[CU,⟨0,30,2,[[(ow 2 0 q3.decls),(ow 3 0 l7)]]⟩,(ro 0 81 3 (Ae 111 3) q3.decls),(CV l7)]⟩:=(hA19 _ _ _).2 (by
   refine AU [10,14] U (by kernel_rfl) (by decide) ⟨?_,?_,trivial⟩
   ·refine An.of (i:=10) rfl U (by rfl) ?_
    refine Al (Bo (id:=3) (j:=4) (i:=t6) (c:=c17) (ys:=c17.body.kids) (encY:=(Ay 44)) rfl gc17 U U U U U) (zz (MW c17) (A8 Bz U U (Bm gc17) (show 2+3≤5 by decide) rfl) rfl (AA ⟨U,?_⟩))
    exact AD (by exact AB U) (AH (by kernel_rfl) ((hA19 _ _ _).1 A19_0123456789abcdi)) rfl
   ·refine An.of (i:=14) rfl U (by rfl) ?_
    refine zz (EO t6) (BZ CQ U U U U gc17) rfl (AA ⟨U,?_⟩)
    exact AD (by exact AB U) (AH (by kernel_rfl) ((hA19 _ _ _).1 A19_0123456789bcdei)) rfl)
  have A19_0123456789bdi:A19 10 (bm 23 273407) ⟨49,AM [(1,(.fn 26 [])),(2,(DI p0)),(4,Ax),(6,Ao),(7,(i64 t6)),(12,(i64 (Sh.len q3.funcs))),(13,(i64 t6)),(17,(ow 3 0 l7)),(18,(i64 t6)),(20,(ls Ad p0.decls)),(25,(PX t6)),(27,Dr),(29,(i64 t6)),(34,(.fn 26 []))],[CU,⟨0,30,2,[[(ow 2 0 q3.decls),(ow 3 0 l7)]]⟩,(ro 0 81 3 (Ae 111 3) q3.decls),(CV l7)]⟩:=(hA19 _ _ _).2 (by
   refine AU [10,12] U (by kernel_rfl) (by decide) ⟨?_,?_,trivial⟩
   ·refine An.of (i:=10) rfl U (by rfl) ?_
    refine Al (Bo (id:=3) (j:=4) (i:=t6) (c:=c17) (ys:=c17.body.kids) (encY:=(Ay 44)) rfl gc17 U U U U U) (zz (MW c17) (A8 Bz U U (Bm gc17) (show 2+3≤5 by decide) rfl) rfl (AA ⟨U,?_⟩))
    exact AD (by exact AB U) (AH (by kernel_rfl) ((hA19 _ _ _).1 A19_0123456789abdi)) rfl
   ·refine An.of (i:=12) rfl U (by rfl) ?_
    refine zq tb U (AA ⟨U,?_⟩)
    exact AD (by exact AB U) (AH (by kernel_rfl) ((hA19 _ _ _).1 A19_0123456789bcdi)) rfl)
  have A19_012345678bcdefghi:A19 6 (bm 23 522751) ⟨49,AM [(1,(.fn 26 [])),(2,(DI p0)),(4,Ax),(6,Ao),(7,(i64 t6)),(12,(i64 (Sh.len q3.funcs))),(13,(i64 t6)),(17,(ow 3 0 l7)),(18,(i64 t6)),(20,(ls Ad p0.decls)),(24,(EO t6)),(33,(i64 (Sh.len c17.params))),(34,(.fn 26 []))],[CU,⟨0,30,2,[[(ow 2 0 q3.decls),(ow 3 0 l7)]]⟩,(ro 0 81 3 (Ae 111 3) q3.decls),(NS l7 t6 c17),(ro 0 3 1 eI c17.params)]⟩:=(hA19 _ _ _).2 (by
   refine AU [9] U (by kernel_rfl) (by decide) ⟨?_,trivial⟩
   ·refine An.of (i:=9) rfl U (by rfl) ?_
    refine zq tb U (AA ⟨U,?_⟩)
    exact AD (by exact AB U) (AH (by kernel_rfl) ((hA19 _ _ _).1 A19_0123456789bcdefghi)) rfl)
  have A19_012345678bcdefgi:A19 7 (bm 23 391679) ⟨49,AM [(1,(.fn 26 [])),(2,(DI p0)),(4,Ax),(6,Ao),(7,(i64 t6)),(12,(i64 (Sh.len q3.funcs))),(13,(i64 t6)),(17,(ow 3 0 l7)),(18,(i64 t6)),(20,(ls Ad p0.decls)),(24,(EO t6)),(32,(ow 4 0 c17.params)),(34,(.fn 26 []))],[CU,⟨0,30,2,[[(ow 2 0 q3.decls),(ow 3 0 l7)]]⟩,(ro 0 81 3 (Ae 111 3) q3.decls),(NS l7 t6 c17),(ro 0 3 1 eI c17.params)]⟩:=(hA19 _ _ _).2 (by
   refine AU [9,17] U (by kernel_rfl) (by decide) ⟨?_,?_,trivial⟩
   ·refine An.of (i:=9) rfl U (by rfl) ?_
    refine zq tb U (AA ⟨U,?_⟩)
    exact AD (by exact AB U) (AH (by kernel_rfl) ((hA19 _ _ _).1 A19_0123456789bcdefgi)) rfl
   ·refine An.of (i:=17) rfl U (by rfl) ?_
    refine zz (i64 (Sh.len c17.params)) (Ct FU U U U) rfl (AA ⟨U,?_⟩)
    exact AD (by exact AB U) (AH (by kernel_rfl) ((hA19 _ _ _).1 A19_012345678bcdefghi)) rfl)
  have A19_012345678bcdefi:A19 8 (bm 23 326143) ⟨49,AM [(1,(.fn 26 [])),(2,(DI p0)),(4,Ax),(6,Ao),(7,(i64 t6)),(12,(i64 (Sh.len q3.funcs))),(13,(i64 t6)),(17,(ow 3 0 l7)),(18,(i64 t6)),(20,(ls Ad p0.decls)),(24,(EO t6)),(31,(EO t6)),(34,(.fn 26 []))],[CU,⟨0,30,2,[[(ow 2 0 q3.decls),(ow 3 0 l7)]]⟩,(ro 0 81 3 (Ae 111 3) q3.decls),(CV l7)]⟩:=(hA19 _ _ _).2 (by
   refine AU [9,16] U (by kernel_rfl) (by decide) ⟨?_,?_,trivial⟩
   ·refine An.of (i:=9) rfl U (by rfl) ?_
    refine zq tb U (AA ⟨U,?_⟩)
    exact AD (by exact AB U) (AH (by kernel_rfl) ((hA19 _ _ _).1 A19_0123456789bcdefi)) rfl
   ·refine An.of (i:=16) rfl U (by rfl) ?_
    refine Al (Bo (id:=3) (j:=0) (i:=t6) (c:=c17) (ys:=c17.params) (encY:=eI) rfl gc17 U U U U U) (zz (ow 4 0 c17.params) (BG HM U U (Bm gc17) rfl) rfl (AA ⟨U,?_⟩))
    exact AD (by exact AB U) (AH (by kernel_rfl) ((hA19 _ _ _).1 A19_012345678bcdefgi)) rfl)
  have A19_012345678bcdei:A19 9 (bm 23 293375) ⟨49,AM [(1,(.fn 26 [])),(2,(DI p0)),(4,Ax),(6,Ao),(7,(i64 t6)),(12,(i64 (Sh.len q3.funcs))),(13,(i64 t6)),(17,(ow 3 0 l7)),(18,(i64 t6)),(20,(ls Ad p0.decls)),(24,(EO t6)),(30,(EO t6)),(34,(.fn 26 []))],[CU,⟨0,30,2,[[(ow 2 0 q3.decls),(ow 3 0 l7)]]⟩,(ro 0 81 3 (Ae 111 3) q3.decls),(CV l7)]⟩:=(hA19 _ _ _).2 (by
   refine AU [9,15] U (by kernel_rfl) (by decide) ⟨?_,?_,trivial⟩
   ·refine An.of (i:=9) rfl U (by rfl) ?_
    refine zq tb U (AA ⟨U,?_⟩)
    exact AD (by exact AB U) (AH (by kernel_rfl) ((hA19 _ _ _).1 A19_0123456789bcdei)) rfl
   ·refine An.of (i:=15) rfl U (by rfl) ?_
    refine zq tb U (AA ⟨U,?_⟩)
    exact AD (by exact AB U) (AH (by kernel_rfl) ((hA19 _ _ _).1 A19_012345678bcdefi)) rfl)
  have A19_012345678bcdi:A19 10 (bm 23 276991) ⟨49,AM [(1,(.fn 26 [])),(2,(DI p0)),(4,Ax),(6,Ao),(7,(i64 t6)),(12,(i64 (Sh.len q3.funcs))),(13,(i64 t6)),(17,(ow 3 0 l7)),(18,(i64 t6)),(20,(ls Ad p0.decls)),(24,(EO t6)),(28,(ow 3 0 l7)),(29,(i64 t6)),(34,(.fn 26 []))],[CU,⟨0,30,2,[[(ow 2 0 q3.decls),(ow 3 0 l7)]]⟩,(ro 0 81 3 (Ae 111 3) q3.decls),(CV l7)]⟩:=(hA19 _ _ _).2 (by
   refine AU [9,14] U (by kernel_rfl) (by decide) ⟨?_,?_,trivial⟩
   ·refine An.of (i:=9) rfl U (by rfl) ?_
    refine zq tb U (AA ⟨U,?_⟩)
    exact AD (by exact AB U) (AH (by kernel_rfl) ((hA19 _ _ _).1 A19_0123456789bcdi)) rfl
   ·refine An.of (i:=14) rfl U (by rfl) ?_
    refine zz (EO t6) (BZ CQ U U U U gc17) rfl (AA ⟨U,?_⟩)
    exact AD (by exact AB U) (AH (by kernel_rfl) ((hA19 _ _ _).1 A19_012345678bcdei)) rfl)
  have A19_012345678bdi:A19 11 (bm 23 272895) ⟨49,AM [(1,(.fn 26 [])),(2,(DI p0)),(4,Ax),(6,Ao),(7,(i64 t6)),(12,(i64 (Sh.len q3.funcs))),(13,(i64 t6)),(17,(ow 3 0 l7)),(18,(i64 t6)),(20,(ls Ad p0.decls)),(24,(EO t6)),(27,Dr),(29,(i64 t6)),(34,(.fn 26 []))],[CU,⟨0,30,2,[[(ow 2 0 q3.decls),(ow 3 0 l7)]]⟩,(ro 0 81 3 (Ae 111 3) q3.decls),(CV l7)]⟩:=(hA19 _ _ _).2 (by
   refine AU [9,12] U (by kernel_rfl) (by decide) ⟨?_,?_,trivial⟩
   ·refine An.of (i:=9) rfl U (by rfl) ?_
    refine zq tb U (AA ⟨U,?_⟩)
    exact AD (by exact AB U) (AH (by kernel_rfl) ((hA19 _ _ _).1 A19_0123456789bdi)) rfl
   ·refine An.of (i:=12) rfl U (by rfl) ?_
    refine zq tb U (AA ⟨U,?_⟩)
    exact AD (by exact AB U) (AH (by kernel_rfl) ((hA19 _ _ _).1 A19_012345678bcdi)) rfl)
  have A19_01234567bcdefghi:A19 7 (bm 23 522495) ⟨49,AM [(1,(.fn 26 [])),(2,(DI p0)),(4,Ax),(6,Ao),(7,(i64 t6)),(12,(i64 (Sh.len q3.funcs))),(13,(i64 t6)),(17,(ow 3 0 l7)),(18,(i64 t6)),(20,(ls Ad p0.decls)),(22,(ow 3 0 l7)),(23,(i64 t6)),(33,(i64 (Sh.len c17.params))),(34,(.fn 26 []))],[CU,⟨0,30,2,[[(ow 2 0 q3.decls),(ow 3 0 l7)]]⟩,(ro 0 81 3 (Ae 111 3) q3.decls),(NS l7 t6 c17),(ro 0 3 1 eI c17.params)]⟩:=(hA19 _ _ _).2 (by
   refine AU [8] U (by kernel_rfl) (by decide) ⟨?_,trivial⟩
   ·refine An.of (i:=8) rfl U (by rfl) ?_
    refine zz (EO t6) (KV CQ U U U U gc17) rfl (AA ⟨U,?_⟩)
    exact AD (by exact AB U) (AH (by kernel_rfl) ((hA19 _ _ _).1 A19_012345678bcdefghi)) rfl)
  have A19_01234567bcdefgi:A19 8 (bm 23 391423) ⟨49,AM [(1,(.fn 26 [])),(2,(DI p0)),(4,Ax),(6,Ao),(7,(i64 t6)),(12,(i64 (Sh.len q3.funcs))),(13,(i64 t6)),(17,(ow 3 0 l7)),(18,(i64 t6)),(20,(ls Ad p0.decls)),(22,(ow 3 0 l7)),(23,(i64 t6)),(32,(ow 4 0 c17.params)),(34,(.fn 26 []))],[CU,⟨0,30,2,[[(ow 2 0 q3.decls),(ow 3 0 l7)]]⟩,(ro 0 81 3 (Ae 111 3) q3.decls),(NS l7 t6 c17),(ro 0 3 1 eI c17.params)]⟩:=(hA19 _ _ _).2 (by
   refine AU [8,17] U (by kernel_rfl) (by decide) ⟨?_,?_,trivial⟩
   ·refine An.of (i:=8) rfl U (by rfl) ?_
    refine zz (EO t6) (KV CQ U U U U gc17) rfl (AA ⟨U,?_⟩)
    exact AD (by exact AB U) (AH (by kernel_rfl) ((hA19 _ _ _).1 A19_012345678bcdefgi)) rfl
   ·refine An.of (i:=17) rfl U (by rfl) ?_
    refine zz (i64 (Sh.len c17.params)) (Ct FU U U U) rfl (AA ⟨U,?_⟩)
    exact AD (by exact AB U) (AH (by kernel_rfl) ((hA19 _ _ _).1 A19_01234567bcdefghi)) rfl)
  have A19_01234567bcdefi:A19 9 (bm 23 325887) ⟨49,AM [(1,(.fn 26 [])),(2,(DI p0)),(4,Ax),(6,Ao),(7,(i64 t6)),(12,(i64 (Sh.len q3.funcs))),(13,(i64 t6)),(17,(ow 3 0 l7)),(18,(i64 t6)),(20,(ls Ad p0.decls)),(22,(ow 3 0 l7)),(23,(i64 t6)),(31,(EO t6)),(34,(.fn 26 []))],[CU,⟨0,30,2,[[(ow 2 0 q3.decls),(ow 3 0 l7)]]⟩,(ro 0 81 3 (Ae 111 3) q3.decls),(CV l7)]⟩:=(hA19 _ _ _).2 (by
   refine AU [8,16] U (by kernel_rfl) (by decide) ⟨?_,?_,trivial⟩
   ·refine An.of (i:=8) rfl U (by rfl) ?_
    refine zz (EO t6) (BZ CQ U U U U gc17) rfl (AA ⟨U,?_⟩)
    exact AD (by exact AB U) (AH (by kernel_rfl) ((hA19 _ _ _).1 A19_012345678bcdefi)) rfl
   ·refine An.of (i:=16) rfl U (by rfl) ?_
    refine Al (Bo (id:=3) (j:=0) (i:=t6) (c:=c17) (ys:=c17.params) (encY:=eI) rfl gc17 U U U U U) (zz (ow 4 0 c17.params) (BG HM U U (Bm gc17) rfl) rfl (AA ⟨U,?_⟩))
    exact AD (by exact AB U) (AH (by kernel_rfl) ((hA19 _ _ _).1 A19_01234567bcdefgi)) rfl)
  have A19_01234567bcdei:A19 10 (bm 23 293119) ⟨49,AM [(1,(.fn 26 [])),(2,(DI p0)),(4,Ax),(6,Ao),(7,(i64 t6)),(12,(i64 (Sh.len q3.funcs))),(13,(i64 t6)),(17,(ow 3 0 l7)),(18,(i64 t6)),(20,(ls Ad p0.decls)),(22,(ow 3 0 l7)),(23,(i64 t6)),(30,(EO t6)),(34,(.fn 26 []))],[CU,⟨0,30,2,[[(ow 2 0 q3.decls),(ow 3 0 l7)]]⟩,(ro 0 81 3 (Ae 111 3) q3.decls),(CV l7)]⟩:=(hA19 _ _ _).2 (by
   refine AU [8,15] U (by kernel_rfl) (by decide) ⟨?_,?_,trivial⟩
   ·refine An.of (i:=8) rfl U (by rfl) ?_
    refine zz (EO t6) (BZ CQ U U U U gc17) rfl (AA ⟨U,?_⟩)
    exact AD (by exact AB U) (AH (by kernel_rfl) ((hA19 _ _ _).1 A19_012345678bcdei)) rfl
   ·refine An.of (i:=15) rfl U (by rfl) ?_
    refine zq tb U (AA ⟨U,?_⟩)
    exact AD (by exact AB U) (AH (by kernel_rfl) ((hA19 _ _ _).1 A19_01234567bcdefi)) rfl)
  have A19_01234567bcdi:A19 11 (bm 23 276735) ⟨49,AM [(1,(.fn 26 [])),(2,(DI p0)),(4,Ax),(6,Ao),(7,(i64 t6)),(12,(i64 (Sh.len q3.funcs))),(13,(i64 t6)),(17,(ow 3 0 l7)),(18,(i64 t6)),(20,(ls Ad p0.decls)),(22,(ow 3 0 l7)),(23,(i64 t6)),(28,(ow 3 0 l7)),(29,(i64 t6)),(34,(.fn 26 []))],[CU,⟨0,30,2,[[(ow 2 0 q3.decls),(ow 3 0 l7)]]⟩,(ro 0 81 3 (Ae 111 3) q3.decls),(CV l7)]⟩:=(hA19 _ _ _).2 (by
   refine AU [8,14] U (by kernel_rfl) (by decide) ⟨?_,?_,trivial⟩
   ·refine An.of (i:=8) rfl U (by rfl) ?_
    refine zz (EO t6) (BZ CQ U U U U gc17) rfl (AA ⟨U,?_⟩)
    exact AD (by exact AB U) (AH (by kernel_rfl) ((hA19 _ _ _).1 A19_012345678bcdi)) rfl
   ·refine An.of (i:=14) rfl U (by rfl) ?_
    refine zz (EO t6) (BZ CQ U U U U gc17) rfl (AA ⟨U,?_⟩)
    exact AD (by exact AB U) (AH (by kernel_rfl) ((hA19 _ _ _).1 A19_01234567bcdei)) rfl)
  have A19_01234567bdi:A19 12 (bm 23 272639) ⟨49,AM [(1,(.fn 26 [])),(2,(DI p0)),(4,Ax),(6,Ao),(7,(i64 t6)),(12,(i64 (Sh.len q3.funcs))),(13,(i64 t6)),(17,(ow 3 0 l7)),(18,(i64 t6)),(20,(ls Ad p0.decls)),(22,(ow 3 0 l7)),(23,(i64 t6)),(27,Dr),(29,(i64 t6)),(34,(.fn 26 []))],[CU,⟨0,30,2,[[(ow 2 0 q3.decls),(ow 3 0 l7)]]⟩,(ro 0 81 3 (Ae 111 3) q3.decls),(CV l7)]⟩:=(hA19 _ _ _).2 (by
   refine AU [8,12] U (by kernel_rfl) (by decide) ⟨?_,?_,trivial⟩
   ·refine An.of (i:=8) rfl U (by rfl) ?_
    refine zz (EO t6) (BZ CQ U U U U gc17) rfl (AA ⟨U,?_⟩)
    exact AD (by exact AB U) (AH (by kernel_rfl) ((hA19 _ _ _).1 A19_012345678bdi)) rfl
   ·refine An.of (i:=12) rfl U (by rfl) ?_
    refine zq tb U (AA ⟨U,?_⟩)
    exact AD (by exact AB U) (AH (by kernel_rfl) ((hA19 _ _ _).1 A19_01234567bcdi)) rfl)
  have A19_0123457bcdefghi:A19 8 (bm 23 522431) ⟨49,AM [(1,(.fn 26 [])),(2,(DI p0)),(4,Ax),(6,Ao),(7,(i64 t6)),(12,(i64 (Sh.len q3.funcs))),(13,(i64 t6)),(17,(ow 3 0 l7)),(18,(i64 t6)),(20,(ls Ad p0.decls)),(21,Dr),(23,(i64 t6)),(33,(i64 (Sh.len c17.params))),(34,(.fn 26 []))],[CU,⟨0,30,2,[[(ow 2 0 q3.decls),(ow 3 0 l7)]]⟩,(ro 0 81 3 (Ae 111 3) q3.decls),(NS l7 t6 c17),(ro 0 3 1 eI c17.params)]⟩:=(hA19 _ _ _).2 (by
   refine AU [6] U (by kernel_rfl) (by decide) ⟨?_,trivial⟩
   ·refine An.of (i:=6) rfl U (by rfl) ?_
    refine zq tb U (AA ⟨U,?_⟩)
    exact AD (by exact AB U) (AH (by kernel_rfl) ((hA19 _ _ _).1 A19_01234567bcdefghi)) rfl)
  have A19_0123457bcdefgi:A19 9 (bm 23 391359) ⟨49,AM [(1,(.fn 26 [])),(2,(DI p0)),(4,Ax),(6,Ao),(7,(i64 t6)),(12,(i64 (Sh.len q3.funcs))),(13,(i64 t6)),(17,(ow 3 0 l7)),(18,(i64 t6)),(20,(ls Ad p0.decls)),(21,Dr),(23,(i64 t6)),(32,(ow 4 0 c17.params)),(34,(.fn 26 []))],[CU,⟨0,30,2,[[(ow 2 0 q3.decls),(ow 3 0 l7)]]⟩,(ro 0 81 3 (Ae 111 3) q3.decls),(NS l7 t6 c17),(ro 0 3 1 eI c17.params)]⟩:=(hA19 _ _ _).2 (by
   refine AU [6,17] U (by kernel_rfl) (by decide) ⟨?_,?_,trivial⟩
   ·refine An.of (i:=6) rfl U (by rfl) ?_
    refine zq tb U (AA ⟨U,?_⟩)
    exact AD (by exact AB U) (AH (by kernel_rfl) ((hA19 _ _ _).1 A19_01234567bcdefgi)) rfl
   ·refine An.of (i:=17) rfl U (by rfl) ?_
    refine zz (i64 (Sh.len c17.params)) (Ct FU U U U) rfl (AA ⟨U,?_⟩)
    exact AD (by exact AB U) (AH (by kernel_rfl) ((hA19 _ _ _).1 A19_0123457bcdefghi)) rfl)
  have A19_0123457bcdefi:A19 10 (bm 23 325823) ⟨49,AM [(1,(.fn 26 [])),(2,(DI p0)),(4,Ax),(6,Ao),(7,(i64 t6)),(12,(i64 (Sh.len q3.funcs))),(13,(i64 t6)),(17,(ow 3 0 l7)),(18,(i64 t6)),(20,(ls Ad p0.decls)),(21,Dr),(23,(i64 t6)),(31,(EO t6)),(34,(.fn 26 []))],[CU,⟨0,30,2,[[(ow 2 0 q3.decls),(ow 3 0 l7)]]⟩,(ro 0 81 3 (Ae 111 3) q3.decls),(CV l7)]⟩:=(hA19 _ _ _).2 (by
   refine AU [6,16] U (by kernel_rfl) (by decide) ⟨?_,?_,trivial⟩
   ·refine An.of (i:=6) rfl U (by rfl) ?_
    refine zq tb U (AA ⟨U,?_⟩)
    exact AD (by exact AB U) (AH (by kernel_rfl) ((hA19 _ _ _).1 A19_01234567bcdefi)) rfl
   ·refine An.of (i:=16) rfl U (by rfl) ?_
    refine Al (Bo (id:=3) (j:=0) (i:=t6) (c:=c17) (ys:=c17.params) (encY:=eI) rfl gc17 U U U U U) (zz (ow 4 0 c17.params) (BG HM U U (Bm gc17) rfl) rfl (AA ⟨U,?_⟩))
    exact AD (by exact AB U) (AH (by kernel_rfl) ((hA19 _ _ _).1 A19_0123457bcdefgi)) rfl)
  have A19_0123457bcdei:A19 11 (bm 23 293055) ⟨49,AM [(1,(.fn 26 [])),(2,(DI p0)),(4,Ax),(6,Ao),(7,(i64 t6)),(12,(i64 (Sh.len q3.funcs))),(13,(i64 t6)),(17,(ow 3 0 l7)),(18,(i64 t6)),(20,(ls Ad p0.decls)),(21,Dr),(23,(i64 t6)),(30,(EO t6)),(34,(.fn 26 []))],[CU,⟨0,30,2,[[(ow 2 0 q3.decls),(ow 3 0 l7)]]⟩,(ro 0 81 3 (Ae 111 3) q3.decls),(CV l7)]⟩:=(hA19 _ _ _).2 (by
   refine AU [6,15] U (by kernel_rfl) (by decide) ⟨?_,?_,trivial⟩
   ·refine An.of (i:=6) rfl U (by rfl) ?_
    refine zq tb U (AA ⟨U,?_⟩)
    exact AD (by exact AB U) (AH (by kernel_rfl) ((hA19 _ _ _).1 A19_01234567bcdei)) rfl
   ·refine An.of (i:=15) rfl U (by rfl) ?_
    refine zq tb U (AA ⟨U,?_⟩)
    exact AD (by exact AB U) (AH (by kernel_rfl) ((hA19 _ _ _).1 A19_0123457bcdefi)) rfl)
  have A19_0123457bcdi:A19 12 (bm 23 276671) ⟨49,AM [(1,(.fn 26 [])),(2,(DI p0)),(4,Ax),(6,Ao),(7,(i64 t6)),(12,(i64 (Sh.len q3.funcs))),(13,(i64 t6)),(17,(ow 3 0 l7)),(18,(i64 t6)),(20,(ls Ad p0.decls)),(21,Dr),(23,(i64 t6)),(28,(ow 3 0 l7)),(29,(i64 t6)),(34,(.fn 26 []))],[CU,⟨0,30,2,[[(ow 2 0 q3.decls),(ow 3 0 l7)]]⟩,(ro 0 81 3 (Ae 111 3) q3.decls),(CV l7)]⟩:=(hA19 _ _ _).2 (by
   refine AU [6,14] U (by kernel_rfl) (by decide) ⟨?_,?_,trivial⟩
   ·refine An.of (i:=6) rfl U (by rfl) ?_
    refine zq tb U (AA ⟨U,?_⟩)
    exact AD (by exact AB U) (AH (by kernel_rfl) ((hA19 _ _ _).1 A19_01234567bcdi)) rfl
   ·refine An.of (i:=14) rfl U (by rfl) ?_
    refine zz (EO t6) (BZ CQ U U U U gc17) rfl (AA ⟨U,?_⟩)
    exact AD (by exact AB U) (AH (by kernel_rfl) ((hA19 _ _ _).1 A19_0123457bcdei)) rfl)
  have A19_0123457bdi:A19 13 (bm 23 272575) ⟨49,AM [(1,(.fn 26 [])),(2,(DI p0)),(4,Ax),(6,Ao),(7,(i64 t6)),(12,(i64 (Sh.len q3.funcs))),(13,(i64 t6)),(17,(ow 3 0 l7)),(18,(i64 t6)),(20,(ls Ad p0.decls)),(21,Dr),(23,(i64 t6)),(27,Dr),(29,(i64 t6)),(34,(.fn 26 []))],[CU,⟨0,30,2,[[(ow 2 0 q3.decls),(ow 3 0 l7)]]⟩,(ro 0 81 3 (Ae 111 3) q3.decls),(CV l7)]⟩:=(hA19 _ _ _).2 (by
   refine AU [6,12] U (by kernel_rfl) (by decide) ⟨?_,?_,trivial⟩
   ·refine An.of (i:=6) rfl U (by rfl) ?_
    refine zq tb U (AA ⟨U,?_⟩)
    exact AD (by exact AB U) (AH (by kernel_rfl) ((hA19 _ _ _).1 A19_01234567bdi)) rfl
   ·refine An.of (i:=12) rfl U (by rfl) ?_
    refine zq tb U (AA ⟨U,?_⟩)
    exact AD (by exact AB U) (AH (by kernel_rfl) ((hA19 _ _ _).1 A19_0123457bcdi)) rfl)
  have A19_023456789abcdefghij:A19 4 (bm 23 1048573) ⟨49,AM [(1,(.fn 26 [])),(2,(DI p0)),(4,Ax),(6,Ao),(7,(i64 t6)),(12,(i64 (Sh.len q3.funcs))),(13,(i64 t6)),(16,Dr),(18,(i64 t6)),(35,(WV q18))],[CU,⟨0,30,2,[[(ow 2 0 q3.decls),(ow 3 0 l7)]]⟩,(ro 0 81 3 (Ae 111 3) q3.decls),(NX l7 t6 c17),(ro 0 3 1 eI c17.params),B6,(BP q18)]⟩:=(hA19 _ _ _).2 (by
   refine AU [1] U (by kernel_rfl) (by decide) ⟨?_,trivial⟩
   ·refine An.of (i:=1) rfl U (by rfl) ?_
    refine zq tb U (AA ⟨U,?_⟩)
    exact AD (by exact AB U) (AH (by kernel_rfl) ((hA19 _ _ _).1 A19_0123456789abcdefghij)) rfl)
  have A19_023456789abcdefghi:A19 5 (bm 23 524285) ⟨49,AM [(1,(.fn 26 [])),(2,(DI p0)),(4,Ax),(6,Ao),(7,(i64 t6)),(12,(i64 (Sh.len q3.funcs))),(13,(i64 t6)),(16,Dr),(18,(i64 t6)),(20,(ls Ad p0.decls)),(26,(SJ c17)),(33,(i64 (Sh.len c17.params))),(34,(.fn 26 []))],[CU,⟨0,30,2,[[(ow 2 0 q3.decls),(ow 3 0 l7)]]⟩,(ro 0 81 3 (Ae 111 3) q3.decls),(NX l7 t6 c17),(ro 0 3 1 eI c17.params),(H3 c17)]⟩:=(hA19 _ _ _).2 (by
   refine AU [1,19] U (by kernel_rfl) (by decide) ⟨?_,?_,trivial⟩
   ·refine An.of (i:=1) rfl U (by rfl) ?_
    refine zq tb U (AA ⟨U,?_⟩)
    exact AD (by exact AB U) (AH (by kernel_rfl) ((hA19 _ _ _).1 A19_0123456789abcdefghi)) rfl
   ·refine An.of (i:=19) rfl U (by rfl) ?_
    refine Jp (rowsP:=[(H3 c17)]) (rows0:=[(H3 c17)]) (rows1:=[B6]) (rows2:=[(BP q18)]) (rows1':=[B6]) (rows2':=[(BP q18)]) (st':=[CU,⟨0,30,2,[[(ow 2 0 q3.decls),(ow 3 0 l7)]]⟩,(ro 0 81 3 (Ae 111 3) q3.decls),(NX l7 t6 c17),(ro 0 3 1 eI c17.params),B6,(BP q18)]) (v':=(WV q18)) [5] Aj Ui (JD gq18) rfl (by decide) rfl U (.deep (AG AF) .nil) rfl U (.pure (by intro x hx;cases hx) .nil) (.deep (AG AF) .nil) rfl U ?_
    refine AA ⟨U,?_⟩
    exact AD (by exact AB U) (AH (by kernel_rfl) ((hA19 _ _ _).1 A19_023456789abcdefghij)) rfl)
  have A19_023456789abcdefgi:A19 6 (bm 23 393213) ⟨49,AM [(1,(.fn 26 [])),(2,(DI p0)),(4,Ax),(6,Ao),(7,(i64 t6)),(12,(i64 (Sh.len q3.funcs))),(13,(i64 t6)),(16,Dr),(18,(i64 t6)),(20,(ls Ad p0.decls)),(26,(SJ c17)),(32,(ow 4 0 c17.params)),(34,(.fn 26 []))],[CU,⟨0,30,2,[[(ow 2 0 q3.decls),(ow 3 0 l7)]]⟩,(ro 0 81 3 (Ae 111 3) q3.decls),(NX l7 t6 c17),(ro 0 3 1 eI c17.params),(H3 c17)]⟩:=(hA19 _ _ _).2 (by
   refine AU [1,17] U (by kernel_rfl) (by decide) ⟨?_,?_,trivial⟩
   ·refine An.of (i:=1) rfl U (by rfl) ?_
    refine zq tb U (AA ⟨U,?_⟩)
    exact AD (by exact AB U) (AH (by kernel_rfl) ((hA19 _ _ _).1 A19_0123456789abcdefgi)) rfl
   ·refine An.of (i:=17) rfl U (by rfl) ?_
    refine zz (i64 (Sh.len c17.params)) (Ct FU U U U) rfl (AA ⟨U,?_⟩)
    exact AD (by exact AB U) (AH (by kernel_rfl) ((hA19 _ _ _).1 A19_023456789abcdefghi)) rfl)
  have A19_023456789abcdefi:A19 7 (bm 23 327677) ⟨49,AM [(1,(.fn 26 [])),(2,(DI p0)),(4,Ax),(6,Ao),(7,(i64 t6)),(12,(i64 (Sh.len q3.funcs))),(13,(i64 t6)),(16,Dr),(18,(i64 t6)),(20,(ls Ad p0.decls)),(26,(MW c17)),(31,(EO t6)),(34,(.fn 26 []))],[CU,⟨0,30,2,[[(ow 2 0 q3.decls),(ow 3 0 l7)]]⟩,(ro 0 81 3 (Ae 111 3) q3.decls),(Uj l7 t6 c17),(H3 c17)]⟩:=(hA19 _ _ _).2 (by
   refine AU [1,16] U (by kernel_rfl) (by decide) ⟨?_,?_,trivial⟩
   ·refine An.of (i:=1) rfl U (by rfl) ?_
    refine zq tb U (AA ⟨U,?_⟩)
    exact AD (by exact AB U) (AH (by kernel_rfl) ((hA19 _ _ _).1 A19_0123456789abcdefi)) rfl
   ·refine An.of (i:=16) rfl U (by rfl) ?_
    refine Al (G9 (id:=3) (j:=0) (i:=t6) (ys:=c17.params) (encY:=eI) (x':=(WI c17)) (st':=[CU,⟨0,30,2,[[(ow 2 0 q3.decls),(ow 3 0 l7)]]⟩,(ro 0 81 3 (Ae 111 3) q3.decls),⟨0,48,5,hole l7 (BK 3 44) t6 (WI c17)⟩,(H3 c17),(ro 0 3 1 eI c17.params)]) rfl gc17 U U U U) (zz (ow 5 0 c17.params) (BG HM U U (Bm gc17) rfl) rfl (AA ⟨U,?_⟩))
    exact AD (by exact BM (L:=[(1,(.fn 26 [])),(2,(DI p0)),(4,Ax),(6,Ao),(7,(i64 t6)),(12,(i64 (Sh.len q3.funcs))),(13,(i64 t6)),(16,Dr),(18,(i64 t6)),(20,(ls Ad p0.decls)),(26,(SJ c17)),(32,(ow 4 0 c17.params)),(34,(.fn 26 []))]) (st':=[CU,⟨0,30,2,[[(ow 2 0 q3.decls),(ow 3 0 l7)]]⟩,(ro 0 81 3 (Ae 111 3) q3.decls),(NX l7 t6 c17),(ro 0 3 1 eI c17.params),(H3 c17)]) (st1:=[CU,⟨0,30,2,[[(ow 2 0 q3.decls),(ow 3 0 l7)]]⟩,(ro 0 81 3 (Ae 111 3) q3.decls),⟨0,48,5,hole l7 (BK 3 44) t6 (WI c17)⟩,(ro 0 3 1 eI c17.params),(H3 c17)]) [0,1,2,3,5,4] U .nil (by decide) rfl U (.raw U U (.raw U U (.deep (AG fun _=>U) (.hol (AG fun _=>U) (A1 fun _=>U) rfl U (.pure (AS fun _=>U) (.deep (AG AF) .nil)))))) (.same U)) (AH (by kernel_rfl) ((hA19 _ _ _).1 A19_023456789abcdefgi)) rfl)
  have A19_023456789abcdei:A19 8 (bm 23 294909) ⟨49,AM [(1,(.fn 26 [])),(2,(DI p0)),(4,Ax),(6,Ao),(7,(i64 t6)),(12,(i64 (Sh.len q3.funcs))),(13,(i64 t6)),(16,Dr),(18,(i64 t6)),(20,(ls Ad p0.decls)),(26,(MW c17)),(30,(EO t6)),(34,(.fn 26 []))],[CU,⟨0,30,2,[[(ow 2 0 q3.decls),(ow 3 0 l7)]]⟩,(ro 0 81 3 (Ae 111 3) q3.decls),(Uj l7 t6 c17),(H3 c17)]⟩:=(hA19 _ _ _).2 (by
   refine AU [1,15] U (by kernel_rfl) (by decide) ⟨?_,?_,trivial⟩
   ·refine An.of (i:=1) rfl U (by rfl) ?_
    refine zq tb U (AA ⟨U,?_⟩)
    exact AD (by exact AB U) (AH (by kernel_rfl) ((hA19 _ _ _).1 A19_0123456789abcdei)) rfl
   ·refine An.of (i:=15) rfl U (by rfl) ?_
    refine zq tb U (AA ⟨U,?_⟩)
    exact AD (by exact AB U) (AH (by kernel_rfl) ((hA19 _ _ _).1 A19_023456789abcdefi)) rfl)
  have A19_023456789abcdi:A19 9 (bm 23 278525) ⟨49,AM [(1,(.fn 26 [])),(2,(DI p0)),(4,Ax),(6,Ao),(7,(i64 t6)),(12,(i64 (Sh.len q3.funcs))),(13,(i64 t6)),(16,Dr),(18,(i64 t6)),(20,(ls Ad p0.decls)),(26,(MW c17)),(28,(ow 3 0 l7)),(29,(i64 t6)),(34,(.fn 26 []))],[CU,⟨0,30,2,[[(ow 2 0 q3.decls),(ow 3 0 l7)]]⟩,(ro 0 81 3 (Ae 111 3) q3.decls),(Uj l7 t6 c17),(H3 c17)]⟩:=(hA19 _ _ _).2 (by
   refine AU [1,14] U (by kernel_rfl) (by decide) ⟨?_,?_,trivial⟩
   ·refine An.of (i:=1) rfl U (by rfl) ?_
    refine zq tb U (AA ⟨U,?_⟩)
    exact AD (by exact AB U) (AH (by kernel_rfl) ((hA19 _ _ _).1 A19_0123456789abcdi)) rfl
   ·refine An.of (i:=14) rfl U (by rfl) ?_
    refine zz (EO t6) (KV CQ U U U U gc17) rfl (AA ⟨U,?_⟩)
    exact AD (by exact AB U) (AH (by kernel_rfl) ((hA19 _ _ _).1 A19_023456789abcdei)) rfl)
  have A19_023456789abdi:A19 10 (bm 23 274429) ⟨49,AM [(1,(.fn 26 [])),(2,(DI p0)),(4,Ax),(6,Ao),(7,(i64 t6)),(12,(i64 (Sh.len q3.funcs))),(13,(i64 t6)),(16,Dr),(18,(i64 t6)),(20,(ls Ad p0.decls)),(26,(MW c17)),(27,Dr),(29,(i64 t6)),(34,(.fn 26 []))],[CU,⟨0,30,2,[[(ow 2 0 q3.decls),(ow 3 0 l7)]]⟩,(ro 0 81 3 (Ae 111 3) q3.decls),(Uj l7 t6 c17),(H3 c17)]⟩:=(hA19 _ _ _).2 (by
   refine AU [1,12] U (by kernel_rfl) (by decide) ⟨?_,?_,trivial⟩
   ·refine An.of (i:=1) rfl U (by rfl) ?_
    refine zq tb U (AA ⟨U,?_⟩)
    exact AD (by exact AB U) (AH (by kernel_rfl) ((hA19 _ _ _).1 A19_0123456789abdi)) rfl
   ·refine An.of (i:=12) rfl U (by rfl) ?_
    refine zq tb U (AA ⟨U,?_⟩)
    exact AD (by exact AB U) (AH (by kernel_rfl) ((hA19 _ _ _).1 A19_023456789abcdi)) rfl)
  have A19_023456789bcdefghi:A19 6 (bm 23 523261) ⟨49,AM [(1,(.fn 26 [])),(2,(DI p0)),(4,Ax),(6,Ao),(7,(i64 t6)),(12,(i64 (Sh.len q3.funcs))),(13,(i64 t6)),(16,Dr),(18,(i64 t6)),(20,(ls Ad p0.decls)),(25,(PX t6)),(33,(i64 (Sh.len c17.params))),(34,(.fn 26 []))],[CU,⟨0,30,2,[[(ow 2 0 q3.decls),(ow 3 0 l7)]]⟩,(ro 0 81 3 (Ae 111 3) q3.decls),(NS l7 t6 c17),(ro 0 3 1 eI c17.params)]⟩:=(hA19 _ _ _).2 (by
   refine AU [1,10] U (by kernel_rfl) (by decide) ⟨?_,?_,trivial⟩
   ·refine An.of (i:=1) rfl U (by rfl) ?_
    refine zq tb U (AA ⟨U,?_⟩)
    exact AD (by exact AB U) (AH (by kernel_rfl) ((hA19 _ _ _).1 A19_0123456789bcdefghi)) rfl
   ·refine An.of (i:=10) rfl U (by rfl) ?_
    refine Al (G9 (id:=3) (j:=4) (i:=t6) (ys:=c17.body.kids) (encY:=(Ay 44)) (x':=(YP c17)) (st':=[CU,⟨0,30,2,[[(ow 2 0 q3.decls),(ow 3 0 l7)]]⟩,(ro 0 81 3 (Ae 111 3) q3.decls),(NX l7 t6 c17),(ro 0 3 1 eI c17.params),(H3 c17)]) rfl gc17 U U U U) (zz (SJ c17) (A8 Bz U U (Bm gc17) (show 2+3≤5 by decide) rfl) rfl (AA ⟨U,?_⟩))
    exact AD (by exact AB U) (AH (by kernel_rfl) ((hA19 _ _ _).1 A19_023456789abcdefghi)) rfl)
  have A19_023456789bcdefgi:A19 7 (bm 23 392189) ⟨49,AM [(1,(.fn 26 [])),(2,(DI p0)),(4,Ax),(6,Ao),(7,(i64 t6)),(12,(i64 (Sh.len q3.funcs))),(13,(i64 t6)),(16,Dr),(18,(i64 t6)),(20,(ls Ad p0.decls)),(25,(PX t6)),(32,(ow 4 0 c17.params)),(34,(.fn 26 []))],[CU,⟨0,30,2,[[(ow 2 0 q3.decls),(ow 3 0 l7)]]⟩,(ro 0 81 3 (Ae 111 3) q3.decls),(NS l7 t6 c17),(ro 0 3 1 eI c17.params)]⟩:=(hA19 _ _ _).2 (by
   refine AU [1,10,17] U (by kernel_rfl) (by decide) ⟨?_,?_,?_,trivial⟩
   ·refine An.of (i:=1) rfl U (by rfl) ?_
    refine zq tb U (AA ⟨U,?_⟩)
    exact AD (by exact AB U) (AH (by kernel_rfl) ((hA19 _ _ _).1 A19_0123456789bcdefgi)) rfl
   ·refine An.of (i:=10) rfl U (by rfl) ?_
    refine Al (G9 (id:=3) (j:=4) (i:=t6) (ys:=c17.body.kids) (encY:=(Ay 44)) (x':=(YP c17)) (st':=[CU,⟨0,30,2,[[(ow 2 0 q3.decls),(ow 3 0 l7)]]⟩,(ro 0 81 3 (Ae 111 3) q3.decls),(NX l7 t6 c17),(ro 0 3 1 eI c17.params),(H3 c17)]) rfl gc17 U U U U) (zz (SJ c17) (A8 Bz U U (Bm gc17) (show 2+3≤5 by decide) rfl) rfl (AA ⟨U,?_⟩))
    exact AD (by exact AB U) (AH (by kernel_rfl) ((hA19 _ _ _).1 A19_023456789abcdefgi)) rfl
   ·refine An.of (i:=17) rfl U (by rfl) ?_
    refine zz (i64 (Sh.len c17.params)) (Ct FU U U U) rfl (AA ⟨U,?_⟩)
    exact AD (by exact AB U) (AH (by kernel_rfl) ((hA19 _ _ _).1 A19_023456789bcdefghi)) rfl)
  have A19_023456789bcdefi:A19 8 (bm 23 326653) ⟨49,AM [(1,(.fn 26 [])),(2,(DI p0)),(4,Ax),(6,Ao),(7,(i64 t6)),(12,(i64 (Sh.len q3.funcs))),(13,(i64 t6)),(16,Dr),(18,(i64 t6)),(20,(ls Ad p0.decls)),(25,(PX t6)),(31,(EO t6)),(34,(.fn 26 []))],[CU,⟨0,30,2,[[(ow 2 0 q3.decls),(ow 3 0 l7)]]⟩,(ro 0 81 3 (Ae 111 3) q3.decls),(CV l7)]⟩:=(hA19 _ _ _).2 (by
   refine AU [1,10,16] U (by kernel_rfl) (by decide) ⟨?_,?_,?_,trivial⟩
   ·refine An.of (i:=1) rfl U (by rfl) ?_
    refine zq tb U (AA ⟨U,?_⟩)
    exact AD (by exact AB U) (AH (by kernel_rfl) ((hA19 _ _ _).1 A19_0123456789bcdefi)) rfl
   ·refine An.of (i:=10) rfl U (by rfl) ?_
    refine Al (Bo (id:=3) (j:=4) (i:=t6) (c:=c17) (ys:=c17.body.kids) (encY:=(Ay 44)) rfl gc17 U U U U U) (zz (MW c17) (A8 Bz U U (Bm gc17) (show 2+3≤5 by decide) rfl) rfl (AA ⟨U,?_⟩))
    exact AD (by exact AB U) (AH (by kernel_rfl) ((hA19 _ _ _).1 A19_023456789abcdefi)) rfl
   ·refine An.of (i:=16) rfl U (by rfl) ?_
    refine Al (Bo (id:=3) (j:=0) (i:=t6) (c:=c17) (ys:=c17.params) (encY:=eI) rfl gc17 U U U U U) (zz (ow 4 0 c17.params) (BG HM U U (Bm gc17) rfl) rfl (AA ⟨U,?_⟩))
    exact AD (by exact AB U) (AH (by kernel_rfl) ((hA19 _ _ _).1 A19_023456789bcdefgi)) rfl)
  have A19_023456789bcdei:A19 9 (bm 23 293885) ⟨49,AM [(1,(.fn 26 [])),(2,(DI p0)),(4,Ax),(6,Ao),(7,(i64 t6)),(12,(i64 (Sh.len q3.funcs))),(13,(i64 t6)),(16,Dr),(18,(i64 t6)),(20,(ls Ad p0.decls)),(25,(PX t6)),(30,(EO t6)),(34,(.fn 26 []))],[CU,⟨0,30,2,[[(ow 2 0 q3.decls),(ow 3 0 l7)]]⟩,(ro 0 81 3 (Ae 111 3) q3.decls),(CV l7)]⟩:=(hA19 _ _ _).2 (by
   refine AU [1,10,15] U (by kernel_rfl) (by decide) ⟨?_,?_,?_,trivial⟩
   ·refine An.of (i:=1) rfl U (by rfl) ?_
    refine zq tb U (AA ⟨U,?_⟩)
    exact AD (by exact AB U) (AH (by kernel_rfl) ((hA19 _ _ _).1 A19_0123456789bcdei)) rfl
   ·refine An.of (i:=10) rfl U (by rfl) ?_
    refine Al (Bo (id:=3) (j:=4) (i:=t6) (c:=c17) (ys:=c17.body.kids) (encY:=(Ay 44)) rfl gc17 U U U U U) (zz (MW c17) (A8 Bz U U (Bm gc17) (show 2+3≤5 by decide) rfl) rfl (AA ⟨U,?_⟩))
    exact AD (by exact AB U) (AH (by kernel_rfl) ((hA19 _ _ _).1 A19_023456789abcdei)) rfl
   ·refine An.of (i:=15) rfl U (by rfl) ?_
    refine zq tb U (AA ⟨U,?_⟩)
    exact AD (by exact AB U) (AH (by kernel_rfl) ((hA19 _ _ _).1 A19_023456789bcdefi)) rfl)
  have A19_023456789bcdi:A19 10 (bm 23 277501) ⟨49,AM [(1,(.fn 26 [])),(2,(DI p0)),(4,Ax),(6,Ao),(7,(i64 t6)),(12,(i64 (Sh.len q3.funcs))),(13,(i64 t6)),(16,Dr),(18,(i64 t6)),(20,(ls Ad p0.decls)),(25,(PX t6)),(28,(ow 3 0 l7)),(29,(i64 t6)),(34,(.fn 26 []))],[CU,⟨0,30,2,[[(ow 2 0 q3.decls),(ow 3 0 l7)]]⟩,(ro 0 81 3 (Ae 111 3) q3.decls),(CV l7)]⟩:=(hA19 _ _ _).2 (by
   refine AU [1,10,14] U (by kernel_rfl) (by decide) ⟨?_,?_,?_,trivial⟩
   ·refine An.of (i:=1) rfl U (by rfl) ?_
    refine zq tb U (AA ⟨U,?_⟩)
    exact AD (by exact AB U) (AH (by kernel_rfl) ((hA19 _ _ _).1 A19_0123456789bcdi)) rfl
   ·refine An.of (i:=10) rfl U (by rfl) ?_
    refine Al (Bo (id:=3) (j:=4) (i:=t6) (c:=c17) (ys:=c17.body.kids) (encY:=(Ay 44)) rfl gc17 U U U U U) (zz (MW c17) (A8 Bz U U (Bm gc17) (show 2+3≤5 by decide) rfl) rfl (AA ⟨U,?_⟩))
    exact AD (by exact AB U) (AH (by kernel_rfl) ((hA19 _ _ _).1 A19_023456789abcdi)) rfl
   ·refine An.of (i:=14) rfl U (by rfl) ?_
    refine zz (EO t6) (BZ CQ U U U U gc17) rfl (AA ⟨U,?_⟩)
    exact AD (by exact AB U) (AH (by kernel_rfl) ((hA19 _ _ _).1 A19_023456789bcdei)) rfl)
  have A19_023456789bdi:A19 11 (bm 23 273405) ⟨49,AM [(1,(.fn 26 [])),(2,(DI p0)),(4,Ax),(6,Ao),(7,(i64 t6)),(12,(i64 (Sh.len q3.funcs))),(13,(i64 t6)),(16,Dr),(18,(i64 t6)),(20,(ls Ad p0.decls)),(25,(PX t6)),(27,Dr),(29,(i64 t6)),(34,(.fn 26 []))],[CU,⟨0,30,2,[[(ow 2 0 q3.decls),(ow 3 0 l7)]]⟩,(ro 0 81 3 (Ae 111 3) q3.decls),(CV l7)]⟩:=(hA19 _ _ _).2 (by
   refine AU [1,10,12] U (by kernel_rfl) (by decide) ⟨?_,?_,?_,trivial⟩
   ·refine An.of (i:=1) rfl U (by rfl) ?_
    refine zq tb U (AA ⟨U,?_⟩)
    exact AD (by exact AB U) (AH (by kernel_rfl) ((hA19 _ _ _).1 A19_0123456789bdi)) rfl
   ·refine An.of (i:=10) rfl U (by rfl) ?_
    refine Al (Bo (id:=3) (j:=4) (i:=t6) (c:=c17) (ys:=c17.body.kids) (encY:=(Ay 44)) rfl gc17 U U U U U) (zz (MW c17) (A8 Bz U U (Bm gc17) (show 2+3≤5 by decide) rfl) rfl (AA ⟨U,?_⟩))
    exact AD (by exact AB U) (AH (by kernel_rfl) ((hA19 _ _ _).1 A19_023456789abdi)) rfl
   ·refine An.of (i:=12) rfl U (by rfl) ?_
    refine zq tb U (AA ⟨U,?_⟩)
    exact AD (by exact AB U) (AH (by kernel_rfl) ((hA19 _ _ _).1 A19_023456789bcdi)) rfl)
  have A19_02345678bcdefghi:A19 7 (bm 23 522749) ⟨49,AM [(1,(.fn 26 [])),(2,(DI p0)),(4,Ax),(6,Ao),(7,(i64 t6)),(12,(i64 (Sh.len q3.funcs))),(13,(i64 t6)),(16,Dr),(18,(i64 t6)),(20,(ls Ad p0.decls)),(24,(EO t6)),(33,(i64 (Sh.len c17.params))),(34,(.fn 26 []))],[CU,⟨0,30,2,[[(ow 2 0 q3.decls),(ow 3 0 l7)]]⟩,(ro 0 81 3 (Ae 111 3) q3.decls),(NS l7 t6 c17),(ro 0 3 1 eI c17.params)]⟩:=(hA19 _ _ _).2 (by
   refine AU [1,9] U (by kernel_rfl) (by decide) ⟨?_,?_,trivial⟩
   ·refine An.of (i:=1) rfl U (by rfl) ?_
    refine zq tb U (AA ⟨U,?_⟩)
    exact AD (by exact AB U) (AH (by kernel_rfl) ((hA19 _ _ _).1 A19_012345678bcdefghi)) rfl
   ·refine An.of (i:=9) rfl U (by rfl) ?_
    refine zq tb U (AA ⟨U,?_⟩)
    exact AD (by exact AB U) (AH (by kernel_rfl) ((hA19 _ _ _).1 A19_023456789bcdefghi)) rfl)
  have A19_02345678bcdefgi:A19 8 (bm 23 391677) ⟨49,AM [(1,(.fn 26 [])),(2,(DI p0)),(4,Ax),(6,Ao),(7,(i64 t6)),(12,(i64 (Sh.len q3.funcs))),(13,(i64 t6)),(16,Dr),(18,(i64 t6)),(20,(ls Ad p0.decls)),(24,(EO t6)),(32,(ow 4 0 c17.params)),(34,(.fn 26 []))],[CU,⟨0,30,2,[[(ow 2 0 q3.decls),(ow 3 0 l7)]]⟩,(ro 0 81 3 (Ae 111 3) q3.decls),(NS l7 t6 c17),(ro 0 3 1 eI c17.params)]⟩:=(hA19 _ _ _).2 (by
   refine AU [1,9,17] U (by kernel_rfl) (by decide) ⟨?_,?_,?_,trivial⟩
   ·refine An.of (i:=1) rfl U (by rfl) ?_
    refine zq tb U (AA ⟨U,?_⟩)
    exact AD (by exact AB U) (AH (by kernel_rfl) ((hA19 _ _ _).1 A19_012345678bcdefgi)) rfl
   ·refine An.of (i:=9) rfl U (by rfl) ?_
    refine zq tb U (AA ⟨U,?_⟩)
    exact AD (by exact AB U) (AH (by kernel_rfl) ((hA19 _ _ _).1 A19_023456789bcdefgi)) rfl
   ·refine An.of (i:=17) rfl U (by rfl) ?_
    refine zz (i64 (Sh.len c17.params)) (Ct FU U U U) rfl (AA ⟨U,?_⟩)
    exact AD (by exact AB U) (AH (by kernel_rfl) ((hA19 _ _ _).1 A19_02345678bcdefghi)) rfl)
  have A19_02345678bcdefi:A19 9 (bm 23 326141) ⟨49,AM [(1,(.fn 26 [])),(2,(DI p0)),(4,Ax),(6,Ao),(7,(i64 t6)),(12,(i64 (Sh.len q3.funcs))),(13,(i64 t6)),(16,Dr),(18,(i64 t6)),(20,(ls Ad p0.decls)),(24,(EO t6)),(31,(EO t6)),(34,(.fn 26 []))],[CU,⟨0,30,2,[[(ow 2 0 q3.decls),(ow 3 0 l7)]]⟩,(ro 0 81 3 (Ae 111 3) q3.decls),(CV l7)]⟩:=(hA19 _ _ _).2 (by
   refine AU [1,9,16] U (by kernel_rfl) (by decide) ⟨?_,?_,?_,trivial⟩
   ·refine An.of (i:=1) rfl U (by rfl) ?_
    refine zq tb U (AA ⟨U,?_⟩)
    exact AD (by exact AB U) (AH (by kernel_rfl) ((hA19 _ _ _).1 A19_012345678bcdefi)) rfl
   ·refine An.of (i:=9) rfl U (by rfl) ?_
    refine zq tb U (AA ⟨U,?_⟩)
    exact AD (by exact AB U) (AH (by kernel_rfl) ((hA19 _ _ _).1 A19_023456789bcdefi)) rfl
   ·refine An.of (i:=16) rfl U (by rfl) ?_
    refine Al (Bo (id:=3) (j:=0) (i:=t6) (c:=c17) (ys:=c17.params) (encY:=eI) rfl gc17 U U U U U) (zz (ow 4 0 c17.params) (BG HM U U (Bm gc17) rfl) rfl (AA ⟨U,?_⟩))
    exact AD (by exact AB U) (AH (by kernel_rfl) ((hA19 _ _ _).1 A19_02345678bcdefgi)) rfl)
  have A19_02345678bcdei:A19 10 (bm 23 293373) ⟨49,AM [(1,(.fn 26 [])),(2,(DI p0)),(4,Ax),(6,Ao),(7,(i64 t6)),(12,(i64 (Sh.len q3.funcs))),(13,(i64 t6)),(16,Dr),(18,(i64 t6)),(20,(ls Ad p0.decls)),(24,(EO t6)),(30,(EO t6)),(34,(.fn 26 []))],[CU,⟨0,30,2,[[(ow 2 0 q3.decls),(ow 3 0 l7)]]⟩,(ro 0 81 3 (Ae 111 3) q3.decls),(CV l7)]⟩:=(hA19 _ _ _).2 (by
   refine AU [1,9,15] U (by kernel_rfl) (by decide) ⟨?_,?_,?_,trivial⟩
   ·refine An.of (i:=1) rfl U (by rfl) ?_
    refine zq tb U (AA ⟨U,?_⟩)
    exact AD (by exact AB U) (AH (by kernel_rfl) ((hA19 _ _ _).1 A19_012345678bcdei)) rfl
   ·refine An.of (i:=9) rfl U (by rfl) ?_
    refine zq tb U (AA ⟨U,?_⟩)
    exact AD (by exact AB U) (AH (by kernel_rfl) ((hA19 _ _ _).1 A19_023456789bcdei)) rfl
   ·refine An.of (i:=15) rfl U (by rfl) ?_
    refine zq tb U (AA ⟨U,?_⟩)
    exact AD (by exact AB U) (AH (by kernel_rfl) ((hA19 _ _ _).1 A19_02345678bcdefi)) rfl)
  have A19_02345678bcdi:A19 11 (bm 23 276989) ⟨49,AM [(1,(.fn 26 [])),(2,(DI p0)),(4,Ax),(6,Ao),(7,(i64 t6)),(12,(i64 (Sh.len q3.funcs))),(13,(i64 t6)),(16,Dr),(18,(i64 t6)),(20,(ls Ad p0.decls)),(24,(EO t6)),(28,(ow 3 0 l7)),(29,(i64 t6)),(34,(.fn 26 []))],[CU,⟨0,30,2,[[(ow 2 0 q3.decls),(ow 3 0 l7)]]⟩,(ro 0 81 3 (Ae 111 3) q3.decls),(CV l7)]⟩:=(hA19 _ _ _).2 (by
   refine AU [1,9,14] U (by kernel_rfl) (by decide) ⟨?_,?_,?_,trivial⟩
   ·refine An.of (i:=1) rfl U (by rfl) ?_
    refine zq tb U (AA ⟨U,?_⟩)
    exact AD (by exact AB U) (AH (by kernel_rfl) ((hA19 _ _ _).1 A19_012345678bcdi)) rfl
   ·refine An.of (i:=9) rfl U (by rfl) ?_
    refine zq tb U (AA ⟨U,?_⟩)
    exact AD (by exact AB U) (AH (by kernel_rfl) ((hA19 _ _ _).1 A19_023456789bcdi)) rfl
   ·refine An.of (i:=14) rfl U (by rfl) ?_
    refine zz (EO t6) (BZ CQ U U U U gc17) rfl (AA ⟨U,?_⟩)
    exact AD (by exact AB U) (AH (by kernel_rfl) ((hA19 _ _ _).1 A19_02345678bcdei)) rfl)
  have A19_02345678bdi:A19 12 (bm 23 272893) ⟨49,AM [(1,(.fn 26 [])),(2,(DI p0)),(4,Ax),(6,Ao),(7,(i64 t6)),(12,(i64 (Sh.len q3.funcs))),(13,(i64 t6)),(16,Dr),(18,(i64 t6)),(20,(ls Ad p0.decls)),(24,(EO t6)),(27,Dr),(29,(i64 t6)),(34,(.fn 26 []))],[CU,⟨0,30,2,[[(ow 2 0 q3.decls),(ow 3 0 l7)]]⟩,(ro 0 81 3 (Ae 111 3) q3.decls),(CV l7)]⟩:=(hA19 _ _ _).2 (by
   refine AU [1,9,12] U (by kernel_rfl) (by decide) ⟨?_,?_,?_,trivial⟩
   ·refine An.of (i:=1) rfl U (by rfl) ?_
    refine zq tb U (AA ⟨U,?_⟩)
    exact AD (by exact AB U) (AH (by kernel_rfl) ((hA19 _ _ _).1 A19_012345678bdi)) rfl
   ·refine An.of (i:=9) rfl U (by rfl) ?_
    refine zq tb U (AA ⟨U,?_⟩)
    exact AD (by exact AB U) (AH (by kernel_rfl) ((hA19 _ _ _).1 A19_023456789bdi)) rfl
   ·refine An.of (i:=12) rfl U (by rfl) ?_
    refine zq tb U (AA ⟨U,?_⟩)
    exact AD (by exact AB U) (AH (by kernel_rfl) ((hA19 _ _ _).1 A19_02345678bcdi)) rfl)
  have A19_0234567bcdefghi:A19 8 (bm 23 522493) ⟨49,AM [(1,(.fn 26 [])),(2,(DI p0)),(4,Ax),(6,Ao),(7,(i64 t6)),(12,(i64 (Sh.len q3.funcs))),(13,(i64 t6)),(16,Dr),(18,(i64 t6)),(20,(ls Ad p0.decls)),(22,(ow 3 0 l7)),(23,(i64 t6)),(33,(i64 (Sh.len c17.params))),(34,(.fn 26 []))],[CU,⟨0,30,2,[[(ow 2 0 q3.decls),(ow 3 0 l7)]]⟩,(ro 0 81 3 (Ae 111 3) q3.decls),(NS l7 t6 c17),(ro 0 3 1 eI c17.params)]⟩:=(hA19 _ _ _).2 (by
   refine AU [1,8] U (by kernel_rfl) (by decide) ⟨?_,?_,trivial⟩
   ·refine An.of (i:=1) rfl U (by rfl) ?_
    refine zq tb U (AA ⟨U,?_⟩)
    exact AD (by exact AB U) (AH (by kernel_rfl) ((hA19 _ _ _).1 A19_01234567bcdefghi)) rfl
   ·refine An.of (i:=8) rfl U (by rfl) ?_
    refine zz (EO t6) (KV CQ U U U U gc17) rfl (AA ⟨U,?_⟩)
    exact AD (by exact AB U) (AH (by kernel_rfl) ((hA19 _ _ _).1 A19_02345678bcdefghi)) rfl)
  have A19_0234567bcdefgi:A19 9 (bm 23 391421) ⟨49,AM [(1,(.fn 26 [])),(2,(DI p0)),(4,Ax),(6,Ao),(7,(i64 t6)),(12,(i64 (Sh.len q3.funcs))),(13,(i64 t6)),(16,Dr),(18,(i64 t6)),(20,(ls Ad p0.decls)),(22,(ow 3 0 l7)),(23,(i64 t6)),(32,(ow 4 0 c17.params)),(34,(.fn 26 []))],[CU,⟨0,30,2,[[(ow 2 0 q3.decls),(ow 3 0 l7)]]⟩,(ro 0 81 3 (Ae 111 3) q3.decls),(NS l7 t6 c17),(ro 0 3 1 eI c17.params)]⟩:=(hA19 _ _ _).2 (by
   refine AU [1,8,17] U (by kernel_rfl) (by decide) ⟨?_,?_,?_,trivial⟩
   ·refine An.of (i:=1) rfl U (by rfl) ?_
    refine zq tb U (AA ⟨U,?_⟩)
    exact AD (by exact AB U) (AH (by kernel_rfl) ((hA19 _ _ _).1 A19_01234567bcdefgi)) rfl
   ·refine An.of (i:=8) rfl U (by rfl) ?_
    refine zz (EO t6) (KV CQ U U U U gc17) rfl (AA ⟨U,?_⟩)
    exact AD (by exact AB U) (AH (by kernel_rfl) ((hA19 _ _ _).1 A19_02345678bcdefgi)) rfl
   ·refine An.of (i:=17) rfl U (by rfl) ?_
    refine zz (i64 (Sh.len c17.params)) (Ct FU U U U) rfl (AA ⟨U,?_⟩)
    exact AD (by exact AB U) (AH (by kernel_rfl) ((hA19 _ _ _).1 A19_0234567bcdefghi)) rfl)
  have A19_0234567bcdefi:A19 10 (bm 23 325885) ⟨49,AM [(1,(.fn 26 [])),(2,(DI p0)),(4,Ax),(6,Ao),(7,(i64 t6)),(12,(i64 (Sh.len q3.funcs))),(13,(i64 t6)),(16,Dr),(18,(i64 t6)),(20,(ls Ad p0.decls)),(22,(ow 3 0 l7)),(23,(i64 t6)),(31,(EO t6)),(34,(.fn 26 []))],[CU,⟨0,30,2,[[(ow 2 0 q3.decls),(ow 3 0 l7)]]⟩,(ro 0 81 3 (Ae 111 3) q3.decls),(CV l7)]⟩:=(hA19 _ _ _).2 (by
   refine AU [1,8,16] U (by kernel_rfl) (by decide) ⟨?_,?_,?_,trivial⟩
   ·refine An.of (i:=1) rfl U (by rfl) ?_
    refine zq tb U (AA ⟨U,?_⟩)
    exact AD (by exact AB U) (AH (by kernel_rfl) ((hA19 _ _ _).1 A19_01234567bcdefi)) rfl
   ·refine An.of (i:=8) rfl U (by rfl) ?_
    refine zz (EO t6) (BZ CQ U U U U gc17) rfl (AA ⟨U,?_⟩)
    exact AD (by exact AB U) (AH (by kernel_rfl) ((hA19 _ _ _).1 A19_02345678bcdefi)) rfl
   ·refine An.of (i:=16) rfl U (by rfl) ?_
    refine Al (Bo (id:=3) (j:=0) (i:=t6) (c:=c17) (ys:=c17.params) (encY:=eI) rfl gc17 U U U U U) (zz (ow 4 0 c17.params) (BG HM U U (Bm gc17) rfl) rfl (AA ⟨U,?_⟩))
    exact AD (by exact AB U) (AH (by kernel_rfl) ((hA19 _ _ _).1 A19_0234567bcdefgi)) rfl)
  have A19_0234567bcdei:A19 11 (bm 23 293117) ⟨49,AM [(1,(.fn 26 [])),(2,(DI p0)),(4,Ax),(6,Ao),(7,(i64 t6)),(12,(i64 (Sh.len q3.funcs))),(13,(i64 t6)),(16,Dr),(18,(i64 t6)),(20,(ls Ad p0.decls)),(22,(ow 3 0 l7)),(23,(i64 t6)),(30,(EO t6)),(34,(.fn 26 []))],[CU,⟨0,30,2,[[(ow 2 0 q3.decls),(ow 3 0 l7)]]⟩,(ro 0 81 3 (Ae 111 3) q3.decls),(CV l7)]⟩:=(hA19 _ _ _).2 (by
   refine AU [1,8,15] U (by kernel_rfl) (by decide) ⟨?_,?_,?_,trivial⟩
   ·refine An.of (i:=1) rfl U (by rfl) ?_
    refine zq tb U (AA ⟨U,?_⟩)
    exact AD (by exact AB U) (AH (by kernel_rfl) ((hA19 _ _ _).1 A19_01234567bcdei)) rfl
   ·refine An.of (i:=8) rfl U (by rfl) ?_
    refine zz (EO t6) (BZ CQ U U U U gc17) rfl (AA ⟨U,?_⟩)
    exact AD (by exact AB U) (AH (by kernel_rfl) ((hA19 _ _ _).1 A19_02345678bcdei)) rfl
   ·refine An.of (i:=15) rfl U (by rfl) ?_
    refine zq tb U (AA ⟨U,?_⟩)
    exact AD (by exact AB U) (AH (by kernel_rfl) ((hA19 _ _ _).1 A19_0234567bcdefi)) rfl)
  have A19_0234567bcdi:A19 12 (bm 23 276733) ⟨49,AM [(1,(.fn 26 [])),(2,(DI p0)),(4,Ax),(6,Ao),(7,(i64 t6)),(12,(i64 (Sh.len q3.funcs))),(13,(i64 t6)),(16,Dr),(18,(i64 t6)),(20,(ls Ad p0.decls)),(22,(ow 3 0 l7)),(23,(i64 t6)),(28,(ow 3 0 l7)),(29,(i64 t6)),(34,(.fn 26 []))],[CU,⟨0,30,2,[[(ow 2 0 q3.decls),(ow 3 0 l7)]]⟩,(ro 0 81 3 (Ae 111 3) q3.decls),(CV l7)]⟩:=(hA19 _ _ _).2 (by
   refine AU [1,8,14] U (by kernel_rfl) (by decide) ⟨?_,?_,?_,trivial⟩
   ·refine An.of (i:=1) rfl U (by rfl) ?_
    refine zq tb U (AA ⟨U,?_⟩)
    exact AD (by exact AB U) (AH (by kernel_rfl) ((hA19 _ _ _).1 A19_01234567bcdi)) rfl
   ·refine An.of (i:=8) rfl U (by rfl) ?_
    refine zz (EO t6) (BZ CQ U U U U gc17) rfl (AA ⟨U,?_⟩)
    exact AD (by exact AB U) (AH (by kernel_rfl) ((hA19 _ _ _).1 A19_02345678bcdi)) rfl
   ·refine An.of (i:=14) rfl U (by rfl) ?_
    refine zz (EO t6) (BZ CQ U U U U gc17) rfl (AA ⟨U,?_⟩)
    exact AD (by exact AB U) (AH (by kernel_rfl) ((hA19 _ _ _).1 A19_0234567bcdei)) rfl)
  have A19_0234567bdi:A19 13 (bm 23 272637) ⟨49,AM [(1,(.fn 26 [])),(2,(DI p0)),(4,Ax),(6,Ao),(7,(i64 t6)),(12,(i64 (Sh.len q3.funcs))),(13,(i64 t6)),(16,Dr),(18,(i64 t6)),(20,(ls Ad p0.decls)),(22,(ow 3 0 l7)),(23,(i64 t6)),(27,Dr),(29,(i64 t6)),(34,(.fn 26 []))],[CU,⟨0,30,2,[[(ow 2 0 q3.decls),(ow 3 0 l7)]]⟩,(ro 0 81 3 (Ae 111 3) q3.decls),(CV l7)]⟩:=(hA19 _ _ _).2 (by
   refine AU [1,8,12] U (by kernel_rfl) (by decide) ⟨?_,?_,?_,trivial⟩
   ·refine An.of (i:=1) rfl U (by rfl) ?_
    refine zq tb U (AA ⟨U,?_⟩)
    exact AD (by exact AB U) (AH (by kernel_rfl) ((hA19 _ _ _).1 A19_01234567bdi)) rfl
   ·refine An.of (i:=8) rfl U (by rfl) ?_
    refine zz (EO t6) (BZ CQ U U U U gc17) rfl (AA ⟨U,?_⟩)
    exact AD (by exact AB U) (AH (by kernel_rfl) ((hA19 _ _ _).1 A19_02345678bdi)) rfl
   ·refine An.of (i:=12) rfl U (by rfl) ?_
    refine zq tb U (AA ⟨U,?_⟩)
    exact AD (by exact AB U) (AH (by kernel_rfl) ((hA19 _ _ _).1 A19_0234567bcdi)) rfl)
  have A19_023457bcdefghi:A19 9 (bm 23 522429) ⟨49,AM [(1,(.fn 26 [])),(2,(DI p0)),(4,Ax),(6,Ao),(7,(i64 t6)),(12,(i64 (Sh.len q3.funcs))),(13,(i64 t6)),(16,Dr),(18,(i64 t6)),(20,(ls Ad p0.decls)),(21,Dr),(23,(i64 t6)),(33,(i64 (Sh.len c17.params))),(34,(.fn 26 []))],[CU,⟨0,30,2,[[(ow 2 0 q3.decls),(ow 3 0 l7)]]⟩,(ro 0 81 3 (Ae 111 3) q3.decls),(NS l7 t6 c17),(ro 0 3 1 eI c17.params)]⟩:=(hA19 _ _ _).2 (by
   refine AU [1,6] U (by kernel_rfl) (by decide) ⟨?_,?_,trivial⟩
   ·refine An.of (i:=1) rfl U (by rfl) ?_
    refine zq tb U (AA ⟨U,?_⟩)
    exact AD (by exact AB U) (AH (by kernel_rfl) ((hA19 _ _ _).1 A19_0123457bcdefghi)) rfl
   ·refine An.of (i:=6) rfl U (by rfl) ?_
    refine zq tb U (AA ⟨U,?_⟩)
    exact AD (by exact AB U) (AH (by kernel_rfl) ((hA19 _ _ _).1 A19_0234567bcdefghi)) rfl)
  have A19_023457bcdefgi:A19 10 (bm 23 391357) ⟨49,AM [(1,(.fn 26 [])),(2,(DI p0)),(4,Ax),(6,Ao),(7,(i64 t6)),(12,(i64 (Sh.len q3.funcs))),(13,(i64 t6)),(16,Dr),(18,(i64 t6)),(20,(ls Ad p0.decls)),(21,Dr),(23,(i64 t6)),(32,(ow 4 0 c17.params)),(34,(.fn 26 []))],[CU,⟨0,30,2,[[(ow 2 0 q3.decls),(ow 3 0 l7)]]⟩,(ro 0 81 3 (Ae 111 3) q3.decls),(NS l7 t6 c17),(ro 0 3 1 eI c17.params)]⟩:=(hA19 _ _ _).2 (by
   refine AU [1,6,17] U (by kernel_rfl) (by decide) ⟨?_,?_,?_,trivial⟩
   ·refine An.of (i:=1) rfl U (by rfl) ?_
    refine zq tb U (AA ⟨U,?_⟩)
    exact AD (by exact AB U) (AH (by kernel_rfl) ((hA19 _ _ _).1 A19_0123457bcdefgi)) rfl
   ·refine An.of (i:=6) rfl U (by rfl) ?_
    refine zq tb U (AA ⟨U,?_⟩)
    exact AD (by exact AB U) (AH (by kernel_rfl) ((hA19 _ _ _).1 A19_0234567bcdefgi)) rfl
   ·refine An.of (i:=17) rfl U (by rfl) ?_
    refine zz (i64 (Sh.len c17.params)) (Ct FU U U U) rfl (AA ⟨U,?_⟩)
    exact AD (by exact AB U) (AH (by kernel_rfl) ((hA19 _ _ _).1 A19_023457bcdefghi)) rfl)
  have A19_023457bcdefi:A19 11 (bm 23 325821) ⟨49,AM [(1,(.fn 26 [])),(2,(DI p0)),(4,Ax),(6,Ao),(7,(i64 t6)),(12,(i64 (Sh.len q3.funcs))),(13,(i64 t6)),(16,Dr),(18,(i64 t6)),(20,(ls Ad p0.decls)),(21,Dr),(23,(i64 t6)),(31,(EO t6)),(34,(.fn 26 []))],[CU,⟨0,30,2,[[(ow 2 0 q3.decls),(ow 3 0 l7)]]⟩,(ro 0 81 3 (Ae 111 3) q3.decls),(CV l7)]⟩:=(hA19 _ _ _).2 (by
   refine AU [1,6,16] U (by kernel_rfl) (by decide) ⟨?_,?_,?_,trivial⟩
   ·refine An.of (i:=1) rfl U (by rfl) ?_
    refine zq tb U (AA ⟨U,?_⟩)
    exact AD (by exact AB U) (AH (by kernel_rfl) ((hA19 _ _ _).1 A19_0123457bcdefi)) rfl
   ·refine An.of (i:=6) rfl U (by rfl) ?_
    refine zq tb U (AA ⟨U,?_⟩)
    exact AD (by exact AB U) (AH (by kernel_rfl) ((hA19 _ _ _).1 A19_0234567bcdefi)) rfl
   ·refine An.of (i:=16) rfl U (by rfl) ?_
    refine Al (Bo (id:=3) (j:=0) (i:=t6) (c:=c17) (ys:=c17.params) (encY:=eI) rfl gc17 U U U U U) (zz (ow 4 0 c17.params) (BG HM U U (Bm gc17) rfl) rfl (AA ⟨U,?_⟩))
    exact AD (by exact AB U) (AH (by kernel_rfl) ((hA19 _ _ _).1 A19_023457bcdefgi)) rfl)
  have A19_023457bcdei:A19 12 (bm 23 293053) ⟨49,AM [(1,(.fn 26 [])),(2,(DI p0)),(4,Ax),(6,Ao),(7,(i64 t6)),(12,(i64 (Sh.len q3.funcs))),(13,(i64 t6)),(16,Dr),(18,(i64 t6)),(20,(ls Ad p0.decls)),(21,Dr),(23,(i64 t6)),(30,(EO t6)),(34,(.fn 26 []))],[CU,⟨0,30,2,[[(ow 2 0 q3.decls),(ow 3 0 l7)]]⟩,(ro 0 81 3 (Ae 111 3) q3.decls),(CV l7)]⟩:=(hA19 _ _ _).2 (by
   refine AU [1,6,15] U (by kernel_rfl) (by decide) ⟨?_,?_,?_,trivial⟩
   ·refine An.of (i:=1) rfl U (by rfl) ?_
    refine zq tb U (AA ⟨U,?_⟩)
    exact AD (by exact AB U) (AH (by kernel_rfl) ((hA19 _ _ _).1 A19_0123457bcdei)) rfl
   ·refine An.of (i:=6) rfl U (by rfl) ?_
    refine zq tb U (AA ⟨U,?_⟩)
    exact AD (by exact AB U) (AH (by kernel_rfl) ((hA19 _ _ _).1 A19_0234567bcdei)) rfl
   ·refine An.of (i:=15) rfl U (by rfl) ?_
    refine zq tb U (AA ⟨U,?_⟩)
    exact AD (by exact AB U) (AH (by kernel_rfl) ((hA19 _ _ _).1 A19_023457bcdefi)) rfl)
  have A19_023457bcdi:A19 13 (bm 23 276669) ⟨49,AM [(1,(.fn 26 [])),(2,(DI p0)),(4,Ax),(6,Ao),(7,(i64 t6)),(12,(i64 (Sh.len q3.funcs))),(13,(i64 t6)),(16,Dr),(18,(i64 t6)),(20,(ls Ad p0.decls)),(21,Dr),(23,(i64 t6)),(28,(ow 3 0 l7)),(29,(i64 t6)),(34,(.fn 26 []))],[CU,⟨0,30,2,[[(ow 2 0 q3.decls),(ow 3 0 l7)]]⟩,(ro 0 81 3 (Ae 111 3) q3.decls),(CV l7)]⟩:=(hA19 _ _ _).2 (by
   refine AU [1,6,14] U (by kernel_rfl) (by decide) ⟨?_,?_,?_,trivial⟩
   ·refine An.of (i:=1) rfl U (by rfl) ?_
    refine zq tb U (AA ⟨U,?_⟩)
    exact AD (by exact AB U) (AH (by kernel_rfl) ((hA19 _ _ _).1 A19_0123457bcdi)) rfl
   ·refine An.of (i:=6) rfl U (by rfl) ?_
    refine zq tb U (AA ⟨U,?_⟩)
    exact AD (by exact AB U) (AH (by kernel_rfl) ((hA19 _ _ _).1 A19_0234567bcdi)) rfl
   ·refine An.of (i:=14) rfl U (by rfl) ?_
    refine zz (EO t6) (BZ CQ U U U U gc17) rfl (AA ⟨U,?_⟩)
    exact AD (by exact AB U) (AH (by kernel_rfl) ((hA19 _ _ _).1 A19_023457bcdei)) rfl)
  have A19_023457bdi:A19 14 (bm 23 272573) ⟨49,AM [(1,(.fn 26 [])),(2,(DI p0)),(4,Ax),(6,Ao),(7,(i64 t6)),(12,(i64 (Sh.len q3.funcs))),(13,(i64 t6)),(16,Dr),(18,(i64 t6)),(20,(ls Ad p0.decls)),(21,Dr),(23,(i64 t6)),(27,Dr),(29,(i64 t6)),(34,(.fn 26 []))],[CU,⟨0,30,2,[[(ow 2 0 q3.decls),(ow 3 0 l7)]]⟩,(ro 0 81 3 (Ae 111 3) q3.decls),(CV l7)]⟩:=(hA19 _ _ _).2 (by
   refine AU [1,6,12] U (by kernel_rfl) (by decide) ⟨?_,?_,?_,trivial⟩
   ·refine An.of (i:=1) rfl U (by rfl) ?_
    refine zq tb U (AA ⟨U,?_⟩)
    exact AD (by exact AB U) (AH (by kernel_rfl) ((hA19 _ _ _).1 A19_0123457bdi)) rfl
   ·refine An.of (i:=6) rfl U (by rfl) ?_
    refine zq tb U (AA ⟨U,?_⟩)
    exact AD (by exact AB U) (AH (by kernel_rfl) ((hA19 _ _ _).1 A19_0234567bdi)) rfl
   ·refine An.of (i:=12) rfl U (by rfl) ?_
    refine zq tb U (AA ⟨U,?_⟩)
    exact AD (by exact AB U) (AH (by kernel_rfl) ((hA19 _ _ _).1 A19_023457bcdi)) rfl)
  refine (hA19 _ _ _).2 ?_
  exact AD (by exact BM (L:=[(1,(.fn 26 [])),(2,(DI p0)),(4,Ax),(6,Ao),(7,(i64 t6)),(12,(i64 (Sh.len q3.funcs))),(13,(i64 t6)),(16,Dr),(18,(i64 t6)),(20,(ls Ad p0.decls)),(21,Dr),(23,(i64 t6)),(27,Dr),(29,(i64 t6)),(34,(.fn 26 []))]) (st':=[CU,⟨0,30,2,[[(ow 2 0 q3.decls),(ow 3 0 l7)]]⟩,(ro 0 81 3 (Ae 111 3) q3.decls),(CV l7)]) (st1:=[CU,⟨0,30,2,[[(ow 1 0 q3.decls),(ow 2 0 l7)]]⟩,(ro 0 81 3 (Ae 111 3) q3.decls),(CV l7)]) [0,3,1,2] U .nil (by decide) rfl U (.raw U U (.raw U U (.deep (AG fun _=>U) (.deep (AG fun _=>U) .nil)))) (.same U)) (AH (by kernel_rfl) ((hA19 _ _ _).1 A19_023457bdi)) rfl
 ·intro b13 h1
  exact A0 (M9 l7 (Sh.AE h1).symm _ (AB U))
theorem NY {N:Nat} {p0:Ag} {r:Ag×Bool} (h0:EA N p0=some r):Ak Tryz.prog 9 [(Gn p0)] [] (fun v st=>v=(.Cm [(.agg [(ow 0 0 r.1.decls),(ow 1 0 r.1.funcs)]),(.bool r.2)])∧st=[(Ei r.1.decls),(CV r.1.funcs)]):=by
 unfold EA at h0
 refine Ak.wk (r0:=(.Cm [(.agg [(ow 0 0 r.1.decls),(ow 1 0 r.1.funcs)]),(.bool r.2)])) (st0:=(Wu r.1.decls r.1.funcs)) ?_ (FD (L:=[(0,(.Cm [(.agg [(ow 0 0 r.1.decls),(ow 1 0 r.1.funcs)]),(.bool r.2)]))]) (st':=[(Ei r.1.decls),(CV r.1.funcs)]) [0,1] U (by decide) rfl U (.deep (AG fun _=>U) (.deep (AG fun _=>U) trivial)) (.same U))
 refine ai Tryz.func9 U U U U (sr U fun K1 hK1=>BY (m:=0) Aj U U U U U (A7 (m:=1) Aj HK U U (zq tb U (dn hK1 U (AJ fun K2 hK2=>sr U fun K3 hK3=>zq tb U (bs h0 fun q4 gq4 h0=>zc ZL (Io gq4) rfl U U (zq tb U ?_)))))))
 refine dn hK3 U ?_
 refine ci h0 U ?_ ?_ <;> clear h0
 ·intro b5 h0
  have b6:q4=false:=by simpa using b5
  refine sr U fun K7 hK7=>zz (.agg [.zc,.zc]) (FX RH RN HK U U) rfl (BI Aj FE U U U U U U (show 0+2≤2 by decide) rfl (zq tb U (dn hK7 U ?_)))
  replace h0:=Sh.AE h0
  subst r
  exact AP (Exists.intro _ (And.intro ((((GS (id:=1) (st':=[⟨0,30,2,[(YR p0)]⟩,⟨0,30,2,[[(.own 2 0 (List.length ([]:List Ah))),.zc]]⟩,US]) (j:=0) rfl U 81 (size':=3) (by decide) rfl U U U).trans (GS (id:=1) (st':=[⟨0,30,2,[(YR p0)]⟩,⟨0,30,2,[[(.own 2 0 (List.length ([]:List Ah))),Wd]]⟩,US,TH]) (j:=1) rfl U 48 (size':=5) (by decide) rfl U U U)).trans (BM (L:=[(2,CD),(3,(.bool false))]) (st':=[US,TH,⟨0,30,2,[WH]⟩]) (st1:=[US,TH,⟨0,30,2,[[(.own 2 0 (List.length ([]:List Ah))),Wd]]⟩]) [2,3,1] U .nil (by decide) rfl U (.deep (AG fun _=>U) (.deep (AG fun _=>U) (.raw U U .nil))) (.same U))).trans (Ab (L:=[(2,CD),(3,(.bool false))]) (.same U))) (A8 (x:=.tmp 2) (off:=0) (cs:=WH) (vs:=WH) FE U U U (show 0+2≤2 by decide) rfl _ ⟨U,U⟩)))
 ·intro b5 h0
  have b8:q4=true:=by simpa using b5
  refine AN (hK2 _ (sr U fun K9 hK9=>zq tb U (bs h0 fun q10 gq10 h0=>BW (v':=(.Cm [(.agg [(ow 2 0 q10.1.decls),(ow 3 0 q10.1.funcs)]),(.bool q10.2)])) Aj Y8 (J0 gq10) rfl U ⟨(AG fun _=>U),⟨(AG fun _=>U),trivial⟩⟩ U U (zm tb 2 U (BI Aj FE U U U U U U (show 0+2≤2 by decide) rfl (zq tb U (dn hK9 U ?_)))))))
  replace h0:=Sh.AE h0
  subst r
  exact AP (Exists.intro _ (And.intro ((BM (L:=[(2,CD),(3,(.bool q10.2))]) (st':=(Wu q10.1.decls q10.1.funcs)) (st1:=[(Ei q10.1.decls),(CV q10.1.funcs),(JS q10.1.decls q10.1.funcs)]) [2,3,1] U .nil (by decide) rfl U (.deep (AG fun _=>U) (.deep (AG fun _=>U) (.raw U U .nil))) (.same U)).trans (Ab (L:=[(2,CD),(3,(.bool q10.2))]) (.same U))) (A8 (x:=.tmp 2) (off:=0) (cs:=[(ow 0 0 q10.1.decls),(ow 1 0 q10.1.funcs)]) (vs:=[(ow 0 0 q10.1.decls),(ow 1 0 q10.1.funcs)]) FE U U U (show 0+2≤2 by decide) rfl _ ⟨U,U⟩)))
theorem Lz {N:Nat} {p0:(List Int)} {p1:(List Int)} {r:Bool} (h0:HH N p0 p1=some r):Ak Tryz.prog 108 [(ls eI p0),(ls eI p1)] [] (fun v st=>v=(.bool r)∧st=[]):=by
 unfold HH at h0
 refine ai Tryz.func108 U U U U (zr tb U U (AJ fun K2 hK2=>sr U fun K3 hK3=>zq tb U (zl tb U U (zq tb U (zl tb U U (zq tb U (dn hK3 U ?_)))))))
 refine ci h0 U ?_ ?_ <;> clear h0
 ·intro b4 h0
  have b5:decide ((Sh.len p0)=(Sh.len p1))=false:=by simpa using b4
  refine zr tb U U ?_
  replace h0:=Sh.AE h0
  subst r
  exact AP (xr (Ab (L:=[(4,(.bool false))]) (.same U)))
 ·intro b4 h0
  have b7:decide ((Sh.len p0)=(Sh.len p1))=true:=by simpa using b4
  refine AN (hK2 _ (AJ fun K8 hK8=>zr tb U U ?_))
  obtain⟨o11,h1,h0⟩:=Sh.BN h0
  have M11 :∀(_:Unit),o11=Sum.inr ()→∀s,Wk 0 s ⟨26,AM [],[]⟩→K8 s:=by
   intro _ hq s hw
   subst o11
   try dsimp only at h0
   refine hK8 _ (Aa hw (zr tb U U ?_))
   replace h0:=Sh.AE h0
   subst r
   exact AP (xr (Ab (L:=[(4,(.bool true))]) (.same U)))
  refine Ac (Aw (σ:=Int) (fun n v=>D2 p0 p1 n v=some o11) (fun i10=>⟨26,AM [(0,(ls eI p0)),(1,(ls eI p1)),(5,(i64 i10))],[]⟩) N 0 h1 (AB U) (fun _ hv=>by rw[D2] at hv;cases hv) ?_)
  rintro n i10 h1
  try dsimp only at h1 ⊢
  rw[D2] at h1
  refine AJ fun K13 hK13=>sr U fun K14 hK14=>zm tb 2 U (zl tb U U (zq tb U (dn hK14 U ?_)))
  refine ci h1 U ?_ ?_ <;> clear h1
  ·intro b15 h1
   refine AN (hK13 _ (AJ fun K16 hK16=>Ac (AJ fun K17 hK17=>?_)))
   refine B2 (by kernel_rfl) (by kernel_rfl) (by rfl) ?_
   iterate 2 refine yq tb rfl ?_
   refine bs h1 fun c18 gc18 h1=>yx Bu gc18 U U U ?_
   iterate 3 refine yq tb rfl ?_
   refine bs h1 fun c19 gc19 h1=>yx Bu gc19 U U U ?_
   iterate 2 refine yq tb rfl ?_
   refine Bh (hK17 _ ?_)
   refine ci h1 U ?_ ?_ <;> clear h1
   ·intro b20 h1
    have b21:decide (c18=c19)=false:=by simpa using b20
    refine zr tb U U ?_
    replace h1:=Sh.AE h1
    subst o11
    try dsimp only[id] at h0
    replace h0:=Sh.AE h0
    subst r
    exact AP (xr (Ab (L:=[(4,(.bool false))]) (.same U)))
   ·intro b20 h1
    have b23:decide (c18=c19)=true:=by simpa using b20
    exact AN (hK16 _ (AR U (zm tb 3 U (AA (xi (Sh.w (i10+1)) h1 (AB U))))))
  ·intro b15 h1
   exact A0 (M11 () (Sh.AE h1).symm _ (AB U))
theorem Q5 {N:Nat} {p0:Ba} {p1:Ba} {r:Bool} (h0:JN N p0 p1=some r):Ak Tryz.prog 132 [(.agg (At p0)),(.agg (At p1))] [] (fun v st=>v=(.bool r)∧st=[]):=by
 unfold JN at h0
 refine ai Tryz.func132 U U U U (sr U fun K1 hK1=>BY (m:=0) Aj U U U U U (BY (m:=1) Aj U U U U U (zq tb U (dn hK1 U (AJ fun K2 hK2=>sr U fun K3 hK3=>zm tb 4 U (bs h0 fun q4 gq4 h0=>zc X8 (Lz gq4) rfl U U (zq tb U ?_)))))))
 refine dn hK3 U ?_
 refine ci h0 U ?_ ?_ <;> clear h0
 ·intro b5 h0
  have b6:q4=false:=by simpa using b5
  refine zr tb U U ?_
  replace h0:=Sh.AE h0
  subst r
  exact AP (xr (Aq [(4,(.bool false))] U))
 ·intro b5 h0
  have b8:q4=true:=by simpa using b5
  refine AN (hK2 _ (zr tb U U ?_))
  replace h0:=Sh.AE h0
  subst r
  exact AP (xr (Aq [(4,(.bool true))] U))
theorem QN {N:Nat} {p0:(List Ba)} {p1:(List Ba)} {r:Bool} (h0:IV N p0 p1=some r):Ak Tryz.prog 107 [(ls At p0),(ls At p1)] [] (fun v st=>v=(.bool r)∧st=[]):=by
 unfold IV at h0
 refine ai Tryz.func107 U U U U (zr tb U U (AJ fun K2 hK2=>sr U fun K3 hK3=>zq tb U (zl tb U U (zq tb U (zl tb U U (zq tb U (dn hK3 U ?_)))))))
 refine ci h0 U ?_ ?_ <;> clear h0
 ·intro b4 h0
  have b5:decide ((Sh.len p0)=(Sh.len p1))=false:=by simpa using b4
  refine zr tb U U ?_
  replace h0:=Sh.AE h0
  subst r
  exact AP (xr (Ab (L:=[(4,(.bool false))]) (.same U)))
 ·intro b4 h0
  have b7:decide ((Sh.len p0)=(Sh.len p1))=true:=by simpa using b4
  refine AN (hK2 _ (AJ fun K8 hK8=>zr tb U U ?_))
  obtain⟨o11,h1,h0⟩:=Sh.BN h0
  have M11 :∀(_:Unit),o11=Sum.inr ()→∀s,Wk 0 s ⟨27,AM [],[]⟩→K8 s:=by
   intro _ hq s hw
   subst o11
   try dsimp only at h0
   refine hK8 _ (Aa hw (zr tb U U ?_))
   replace h0:=Sh.AE h0
   subst r
   exact AP (xr (Ab (L:=[(4,(.bool true))]) (.same U)))
  refine Ac (Aw (σ:=Int) (fun n v=>Eb N p0 p1 n v=some o11) (fun i10=>⟨27,AM [(0,(ls At p0)),(1,(ls At p1)),(5,(i64 i10))],[]⟩) N 0 h1 (AB U) (fun _ hv=>by rw[Eb] at hv;cases hv) ?_)
  rintro n i10 h1
  try dsimp only at h1 ⊢
  rw[Eb] at h1
  refine AJ fun K13 hK13=>sr U fun K14 hK14=>zm tb 2 U (zl tb U U (zq tb U (dn hK14 U ?_)))
  refine ci h1 U ?_ ?_ <;> clear h1
  ·intro b15 h1
   refine AN (hK13 _ (AJ fun K16 hK16=>Ac (AJ fun K17 hK17=>?_)))
   refine B2 (by kernel_rfl) (by kernel_rfl) (by rfl) ?_
   iterate 2 refine yq tb rfl ?_
   refine bs h1 fun c18 gc18 h1=>yx H0 gc18 U U U ?_
   iterate 3 refine yq tb rfl ?_
   refine bs h1 fun c19 gc19 h1=>yx H0 gc19 U U U (yq tb U (bs h1 fun q20 gq20 h1=>CH (v:=(.bool q20)) Aj ZR (Q5 gq20) rfl U U (yq tb U (Bh (hK17 _ ?_)))))
   refine ci h1 U ?_ ?_ <;> clear h1
   ·intro b21 h1
    have b22:q20=false:=by simpa using b21
    refine zr tb U U ?_
    replace h1:=Sh.AE h1
    subst o11
    try dsimp only[id] at h0
    replace h0:=Sh.AE h0
    subst r
    exact AP (xr (Ab (L:=[(4,(.bool false))]) (.same U)))
   ·intro b21 h1
    have b24:q20=true:=by simpa using b21
    exact AN (hK16 _ (AR U (zm tb 3 U (AA (xi (Sh.w (i10+1)) h1 (AB U))))))
  ·intro b15 h1
   exact A0 (M11 () (Sh.AE h1).symm _ (AB U))
theorem QP {N:Nat} {p0:Ah} {p1:Ah} {r:Bool} (h0:H6 N p0 p1=some r):Ak Tryz.prog 58 [(.agg (Ad p0)),(.agg (Ad p1))] [] (fun v st=>v=(.bool r)∧st=[]):=by
 unfold H6 at h0
 refine ai Tryz.func58 U U U U (sr U fun K1 hK1=>BY (m:=0) Aj U U U U U (BY (m:=1) Aj U U U U U (zq tb U (dn hK1 U (AJ fun K2 hK2=>zr tb U U ?_)))))
 refine ci h0 U ?_ ?_ <;> clear h0
 ·intro b4 h0
  have b5:decide (p0.from_=p1.from_)=false:=by simpa using b4
  refine zr tb U U ?_
  replace h0:=Sh.AE h0
  subst r
  exact AP (xr (Aq [(4,(.bool false))] U))
 ·intro b4 h0
  have b7:decide (p0.from_=p1.from_)=true:=by simpa using b4
  refine AN (hK2 _ (AJ fun K8 hK8=>zr tb U U ?_))
  refine ci h0 U ?_ ?_ <;> clear h0
  ·intro b10 h0
   have b11:decide (p0.to=p1.to)=false:=by simpa using b10
   refine zr tb U U ?_
   replace h0:=Sh.AE h0
   subst r
   exact AP (xr (Aq [(4,(.bool false))] U))
  ·intro b10 h0
   have b13:decide (p0.to=p1.to)=true:=by simpa using b10
   refine AN (hK8 _ (AJ fun K14 hK14=>sr U fun K15 hK15=>zm tb 4 U (bs h0 fun q16 gq16 h0=>zc Zh (QN gq16) rfl U U (zq tb U (dn hK15 U ?_)))))
   refine ci h0 U ?_ ?_ <;> clear h0
   ·intro b17 h0
    have b18:q16=false:=by simpa using b17
    refine zr tb U U ?_
    replace h0:=Sh.AE h0
    subst r
    exact AP (xr (Aq [(4,(.bool false))] U))
   ·intro b17 h0
    have b20:q16=true:=by simpa using b17
    refine AN (hK14 _ (zr tb U U ?_))
    replace h0:=Sh.AE h0
    subst r
    exact AP (xr (Aq [(4,(.bool true))] U))
theorem PW {N:Nat} {p0:(List Ah)} {p1:(List Ah)} {r:Bool} (h0:HU N p0 p1=some r):Ak Tryz.prog 27 [(BS p0),(BS p1)] [] (fun v st=>v=(.bool r)∧st=[]):=by
 unfold HU at h0
 refine ai Tryz.func27 U U U U (zr tb U U (AJ fun K2 hK2=>sr U fun K3 hK3=>zq tb U (zl tb U U (zq tb U (zl tb U U (zq tb U (dn hK3 U ?_)))))))
 refine ci h0 U ?_ ?_ <;> clear h0
 ·intro b4 h0
  have b5:decide ((Sh.len p0)=(Sh.len p1))=false:=by simpa using b4
  refine zr tb U U ?_
  replace h0:=Sh.AE h0
  subst r
  exact AP (xr (Ab (L:=[(4,(.bool false))]) (.same U)))
 ·intro b4 h0
  have b7:decide ((Sh.len p0)=(Sh.len p1))=true:=by simpa using b4
  refine AN (hK2 _ (AJ fun K8 hK8=>zr tb U U ?_))
  obtain⟨o11,h1,h0⟩:=Sh.BN h0
  have M11 :∀(_:Unit),o11=Sum.inr ()→∀s,Wk 0 s ⟨27,AM [],[]⟩→K8 s:=by
   intro _ hq s hw
   subst o11
   try dsimp only at h0
   refine hK8 _ (Aa hw (zr tb U U ?_))
   replace h0:=Sh.AE h0
   subst r
   exact AP (xr (Ab (L:=[(4,(.bool true))]) (.same U)))
  refine Ac (Aw (σ:=Int) (fun n v=>ED N p0 p1 n v=some o11) (fun i10=>⟨27,AM [(0,(BS p0)),(1,(BS p1)),(5,(i64 i10))],[]⟩) N 0 h1 (AB U) (fun _ hv=>by rw[ED] at hv;cases hv) ?_)
  rintro n i10 h1
  try dsimp only at h1 ⊢
  rw[ED] at h1
  refine AJ fun K13 hK13=>sr U fun K14 hK14=>zm tb 2 U (zl tb U U (zq tb U (dn hK14 U ?_)))
  refine ci h1 U ?_ ?_ <;> clear h1
  ·intro b15 h1
   refine AN (hK13 _ (AJ fun K16 hK16=>Ac (AJ fun K17 hK17=>?_)))
   refine B2 (by kernel_rfl) (by kernel_rfl) (by rfl) ?_
   iterate 2 refine yq tb rfl ?_
   refine bs h1 fun c18 gc18 h1=>yx DA gc18 U U U ?_
   iterate 3 refine yq tb rfl ?_
   refine bs h1 fun c19 gc19 h1=>yx DA gc19 U U U (yq tb U (bs h1 fun q20 gq20 h1=>CH (v:=(.bool q20)) Aj aY (QP gq20) rfl U U (yq tb U (Bh (hK17 _ ?_)))))
   refine ci h1 U ?_ ?_ <;> clear h1
   ·intro b21 h1
    have b22:q20=false:=by simpa using b21
    refine zr tb U U ?_
    replace h1:=Sh.AE h1
    subst o11
    try dsimp only[id] at h0
    replace h0:=Sh.AE h0
    subst r
    exact AP (xr (Ab (L:=[(4,(.bool false))]) (.same U)))
   ·intro b21 h1
    have b24:q20=true:=by simpa using b21
    exact AN (hK16 _ (AR U (zm tb 3 U (AA (xi (Sh.w (i10+1)) h1 (AB U))))))
  ·intro b15 h1
   exact A0 (M11 () (Sh.AE h1).symm _ (AB U))
theorem P0 {N:Nat} {rec_laws_eqExpr:AK→AK→Option (Bool)} (hrec_laws_eqExpr :∀{p0:AK} {p1:AK} {r:Bool},rec_laws_eqExpr p0 p1=some r→Ak Tryz.prog 109 [(B8 p0),(B8 p1)] [] (fun v st=>v=(.bool r)∧st=[])) {p0:(List AK)} {p1:(List AK)} {r:Bool} (h0:JC N rec_laws_eqExpr p0 p1=some r):Ak Tryz.prog 133 [(Cx p0),(Cx p1)] [] (fun v st=>v=(.bool r)∧st=[]):=by
 unfold JC at h0
 refine ai Tryz.func133 U U U U (zr tb U U (AJ fun K2 hK2=>sr U fun K3 hK3=>zq tb U (zl tb U U (zq tb U (zl tb U U (zq tb U (dn hK3 U ?_)))))))
 refine ci h0 U ?_ ?_ <;> clear h0
 ·intro b4 h0
  have b5:decide ((Sh.len p0)=(Sh.len p1))=false:=by simpa using b4
  refine zr tb U U ?_
  replace h0:=Sh.AE h0
  subst r
  exact AP (xr (Ab (L:=[(4,(.bool false))]) (.same U)))
 ·intro b4 h0
  have b7:decide ((Sh.len p0)=(Sh.len p1))=true:=by simpa using b4
  refine AN (hK2 _ (AJ fun K8 hK8=>zr tb U U ?_))
  obtain⟨o11,h1,h0⟩:=Sh.BN h0
  have M11 :∀(_:Unit),o11=Sum.inr ()→∀s,Wk 0 s ⟨27,AM [],[]⟩→K8 s:=by
   intro _ hq s hw
   subst o11
   try dsimp only at h0
   refine hK8 _ (Aa hw (zr tb U U ?_))
   replace h0:=Sh.AE h0
   subst r
   exact AP (xr (Ab (L:=[(4,(.bool true))]) (.same U)))
  refine Ac (Aw (σ:=Int) (fun n v=>EE p0 p1 rec_laws_eqExpr n v=some o11) (fun i10=>⟨27,AM [(0,(Cx p0)),(1,(Cx p1)),(5,(i64 i10))],[]⟩) N 0 h1 (AB U) (fun _ hv=>by rw[EE] at hv;cases hv) ?_)
  rintro n i10 h1
  try dsimp only at h1 ⊢
  rw[EE] at h1
  refine AJ fun K13 hK13=>sr U fun K14 hK14=>zm tb 2 U (zl tb U U (zq tb U (dn hK14 U ?_)))
  refine ci h1 U ?_ ?_ <;> clear h1
  ·intro b15 h1
   refine AN (hK13 _ (AJ fun K16 hK16=>Ac (AJ fun K17 hK17=>?_)))
   refine B2 (by kernel_rfl) (by kernel_rfl) (by rfl) ?_
   iterate 2 refine yq tb rfl ?_
   refine bs h1 fun c18 gc18 h1=>yz (FF c18) (Bq A2 U U gc18 (A4 _) rfl) rfl ?_
   iterate 3 refine yq tb rfl ?_
   refine bs h1 fun c19 gc19 h1=>yz (FF c19) (Bq A2 U U gc19 (A4 _) rfl) rfl (yq tb U (bs h1 fun q20 gq20 h1=>CH (v:=(.bool q20)) Aj Xc (hrec_laws_eqExpr gq20) rfl U U (yq tb U (Bh (hK17 _ ?_)))))
   refine ci h1 U ?_ ?_ <;> clear h1
   ·intro b21 h1
    have b22:q20=false:=by simpa using b21
    refine zr tb U U ?_
    replace h1:=Sh.AE h1
    subst o11
    try dsimp only[id] at h0
    replace h0:=Sh.AE h0
    subst r
    exact AP (xr (Ab (L:=[(4,(.bool false))]) (.same U)))
   ·intro b21 h1
    have b24:q20=true:=by simpa using b21
    exact AN (hK16 _ (AR U (zm tb 3 U (AA (xi (Sh.w (i10+1)) h1 (AB U))))))
  ·intro b15 h1
   exact A0 (M11 () (Sh.AE h1).symm _ (AB U))
theorem OZ {N:Nat} {rec_laws_eqExpr:AK→AK→Option (Bool)} (hrec_laws_eqExpr :∀{p0:AK} {p1:AK} {r:Bool},rec_laws_eqExpr p0 p1=some r→Ak Tryz.prog 109 [(B8 p0),(B8 p1)] [] (fun v st=>v=(.bool r)∧st=[])) {p0:AK} {p1:AK} {r:Bool} (h0:IS N rec_laws_eqExpr p0 p1=some r):Ak Tryz.prog 109 [(B8 p0),(B8 p1)] [] (fun v st=>v=(.bool r)∧st=[]):=by
 unfold IS at h0
 refine ai Tryz.func109 U U U U (sr U fun K1 hK1=>BY (m:=0) Aj U U U U U (BY (m:=1) Aj U U U U U (zq tb U (dn hK1 U (AJ fun K2 hK2=>zr tb U U ?_)))))
 refine ci h0 U ?_ ?_ <;> clear h0
 ·intro b4 h0
  have b5:decide (p0.op=p1.op)=false:=by simpa using b4
  refine zr tb U U ?_
  replace h0:=Sh.AE h0
  subst r
  exact AP (xr (Aq [(4,(.bool false))] U))
 ·intro b4 h0
  have b7:decide (p0.op=p1.op)=true:=by simpa using b4
  refine AN (hK2 _ (AJ fun K8 hK8=>zr tb U U ?_))
  refine ci h0 U ?_ ?_ <;> clear h0
  ·intro b10 h0
   have b11:decide (p0.num=p1.num)=false:=by simpa using b10
   refine zr tb U U ?_
   replace h0:=Sh.AE h0
   subst r
   exact AP (xr (Aq [(4,(.bool false))] U))
  ·intro b10 h0
   have b13:decide (p0.num=p1.num)=true:=by simpa using b10
   refine AN (hK8 _ (AJ fun K14 hK14=>sr U fun K15 hK15=>zm tb 4 U (bs h0 fun q16 gq16 h0=>zc ZU (P0 hrec_laws_eqExpr gq16) rfl U U (zq tb U (dn hK15 U ?_)))))
   refine ci h0 U ?_ ?_ <;> clear h0
   ·intro b17 h0
    have b18:q16=false:=by simpa using b17
    refine zr tb U U ?_
    replace h0:=Sh.AE h0
    subst r
    exact AP (xr (Aq [(4,(.bool false))] U))
   ·intro b17 h0
    have b20:q16=true:=by simpa using b17
    refine AN (hK14 _ (zr tb U U ?_))
    replace h0:=Sh.AE h0
    subst r
    exact AP (xr (Aq [(4,(.bool true))] U))

theorem O1 {N:Nat} :∀(n:Nat),∀{p0:AK} {p1:AK} {r:Bool},FI N n p0 p1=some r→Ak Tryz.prog 109 [(B8 p0),(B8 p1)] [] (fun v st=>v=(.bool r)∧st=[]):=by
 intro n
 induction n with
 | zero=>intro p0 p1 r h0;cases h0
 | succ n ih=>
  intro p0 p1 r h0
  rw[FI] at h0
  exact OZ (fun h=>ih h) h0
theorem QO {N:Nat} :∀{p0:AK} {p1:AK} {r:Bool},Je N p0 p1=some r→Ak Tryz.prog 109 [(B8 p0),(B8 p1)] [] (fun v st=>v=(.bool r)∧st=[]):=by
 intro p0 p1 r h0
 exact O1 N h0
end Go.Proofs.YtpahalfiiahddaaGreat

