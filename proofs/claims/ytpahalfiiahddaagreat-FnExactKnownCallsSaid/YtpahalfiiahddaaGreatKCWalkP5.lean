import Derived.Test.YtpahalfiiahddaaGreatProg
import Derived.Test.YtpahalfiiahddaaGreatGAbsXToSSDefs
import Derived.Test.YtpahalfiiahddaaGreatGHADefsToKCDefs
import Derived.Test.YtpahalfiiahddaaGreatCFWalk
import Derived.Test.YtpahalfiiahddaaGreatKCWalkP4
namespace Go.Proofs.YtpahalfiiahddaaGreat
open Go Go.Abs RC
attribute [local irreducible] Go.Abs.Cp
set_option maxRecDepth 100000
set_option maxHeartbeats 4000000

theorem bJ:As Tryz.prog 26=true:=by kernel_rfl
theorem Ui:As Tryz.prog 56=true:=by kernel_rfl

theorem LQ {N:Nat} {rec_impl_rewriteExpr:(List AK)→(List Ah)→Int→Int→Int→Option (AK)} (hrec_impl_rewriteExpr :∀{s0:(List AK)} {p0:(List Ah)} {p1_0:Int} {p1_1:Int} {p2:Int} {r:AK},rec_impl_rewriteExpr s0 p0 p1_0 p1_1 p2=some r→Ak Tryz.prog 56 [(BS p0),(.agg [(i64 p1_0),(i64 p1_1),(ow 0 0 s0)]),(i64 p2),(.fn 26 [])] [(Dx s0)] (fun v st=>v=(.agg (KK r))∧st=[B6,(BP r)])) {s0:(List AK)} {p0:(List Ah)} {p1_0:Int} {p1_1:Int} {p2:Int} {r:AK} (h0:Fw N rec_impl_rewriteExpr s0 p0 p1_0 p1_1 p2=some r):Ak Tryz.prog 56 [(BS p0),(.agg [(i64 p1_0),(i64 p1_1),(ow 0 0 s0)]),(i64 p2),(.fn 26 [])] [(Dx s0)] (fun v st=>v=(.agg (KK r))∧st=[B6,(BP r)]):=by
 unfold Fw at h0
 refine Ak.wk (r0:=(.agg (KK r))) (st0:=[B6,(BP r),⟨0,44,3,[(KK r)]⟩]) ?_ (FD (L:=[(0,(.agg (KK r)))]) (st':=[B6,(BP r)]) [0,1] U (by decide) rfl U (.pure (by intro x hx;cases hx) (.deep (AG AF) trivial)) (.same U))
 refine ai Tryz.func56 U U U U (sr U fun K1 hK1=>BY (m:=1) Aj U U U U U (A7 (m:=2) Aj Ik U U (dn hK1 U (AJ fun K2 hK2=>sr U fun K3 hK3=>zm tb 2 U (zz (Bx s0) (Ct RR U U U) rfl (zq tb U (dn hK3 U (bs h0 fun o7 h1 h0=>?_))))))))
 have M7 :∀(l6:(List AK)),o7=l6→∀s,Wk 1 s ⟨67,AM [(2,(i64 p2)),(3,(.fn 26 [])),(5,Ao),(8,CD)],(KH l6 p1_0 p1_1)⟩→K2 s:=by
  intro l6 hq s hw
  subst o7
  try dsimp only at h0
  refine hK2 _ (Aa hw (sr U fun K8 hK8=>zm tb 3 U (bs h0 fun q9 gq9 h0=>?_)))
  refine Uu (rowsP:=[(Dx l6)]) (rows0:=[(Dx l6)]) (rows1:=[B6]) (rows2:=[(BP q9)]) (rows1':=[B6]) (rows2':=[(BP q9)]) (st':=[B6,(LV p1_0 p1_1 l6),KG,(BP q9)]) (v':=(.agg (J8 q9))) [0] Aj U bJ (MB gq9) rfl (by decide) rfl U (.deep (AG AF) .nil) rfl U (.pure (by intro x hx;cases hx) .nil) (.deep (AG AF) .nil) rfl U ?_
  refine BI Aj Bz U U U U U U (show 0+3≤3 by decide) rfl (dn hK8 U ?_)
  replace h0:=Sh.AE h0
  subst r
  exact AP (Exists.intro _ (And.intro ((BM (L:=[(8,CD)]) (st':=[B6,(BP q9),⟨0,44,3,[(KK q9)]⟩]) (st1:=[B6,(BP q9),⟨0,44,3,[(J8 q9)]⟩]) [0,3,2] U (.pure (by intro x hx;cases hx) .nil) (by decide) rfl U (.pure (by intro x hx;cases hx) (.deep (AG AF) (.raw U U .nil))) (.same U)).trans (Ab (L:=[(8,CD)]) (.same U))) (A8 (x:=.tmp 8) (off:=0) (cs:=(KK q9)) (vs:=(KK q9)) Bz U U U (show 0+3≤3 by decide) rfl _ ⟨U,U⟩)))
 refine Ac (Aw (σ:=Int×(List AK)) (fun n v=>CB N s0 p0 p1_0 p1_1 p2 rec_impl_rewriteExpr n v.1 v.2=some o7) (fun (t4,l5)=>⟨67,AM [(0,(BS p0)),(2,(i64 p2)),(3,(.fn 26 [])),(5,Ao),(8,CD),(13,(Bx s0)),(14,(i64 t4))],(KH l5 p1_0 p1_1)⟩) N (0,s0) h1 (AB U) (fun _ hv=>by rw[CB] at hv;cases hv) ?_)
 rintro n ⟨t4,l5⟩ h1
 try dsimp only at h1 ⊢
 rw[CB] at h1
 refine zr tb U U (AJ fun K11 hK11=>?_)
 refine ci h1 U ?_ ?_ <;> clear h1
 ·intro b12 h1
  refine AN (hK11 _ (AJ fun K13 hK13=>Ac ?_))
  iterate 2 refine zr tb rfl rfl ?_
  refine AJ fun K16 hK16=>bs h1 fun o18 h2 h1=>?_
  have M18 :∀(scope17:Int),o18=scope17→∀s,Wk 1 s ⟨67,AM [(0,(BS p0)),(2,(i64 p2)),(3,(.fn 26 [])),(5,Ao),(8,CD),(9,(i64 t4)),(10,(i64 scope17)),(13,(Bx s0)),(14,(i64 t4))],(KH l5 p1_0 p1_1)⟩→K16 s:=by
   intro scope17 hq s hw
   subst o18
   try dsimp only at h1
   refine hK16 _ (Aa hw ?_)
   refine GJ (by kernel_rfl) ?_
   refine bs h1 fun c19 gc19 h1=>bs h1 fun q20 gq20 h1=>I0 fun A21 hA21=>?_
   have A21_0123456789abcd:A21 0 (bm 14 16383) ⟨67,AM [(0,(BS p0)),(2,(i64 p2)),(3,(.fn 26 [])),(5,Ao),(8,CD),(13,(Bx s0)),(14,(i64 t4))],[(ro 0 44 3 (Ay 44) (Sh.put l5 t4 q20)),⟨0,44,3,[[(i64 p1_0),(i64 p1_1),(ow 0 0 (Sh.put l5 t4 q20))]]⟩,KG]⟩:=(hA21 _ _ _).2 (by
    refine GR U (by kernel_rfl) ?_
    exact hK13 _ (AR U (zm tb 2 U (AA (xi (Sh.w (t4+1),Sh.put l5 t4 q20) h1 (Ab (L:=[(0,(BS p0)),(2,(i64 p2)),(3,(.fn 26 [])),(5,Ao),(8,CD),(13,(Bx s0)),(14,(Kn t4))]) (.same U)))))))
   have A21_0123456789abc:A21 1 (bm 14 8191) ⟨67,AM [(0,(BS p0)),(2,(i64 p2)),(3,(.fn 26 [])),(5,CD),(8,Jg),(13,(Bx s0)),(14,(i64 t4)),(60,(Es q20)),(61,(MK t4))],[(Ov l5 t4 c19),B6,(LV p1_0 p1_1 l5),KG,(BP q20)]⟩:=(hA21 _ _ _).2 (by
    refine Af [13] U (by kernel_rfl) (by decide) ⟨?_,trivial⟩
    ·refine A3.of (i:=13) rfl U (by rfl) ?_
     refine V5 (x':=(Hu q20)) (st':=[⟨0,44,3,hole l5 (Ay 44) t4 (Hu q20)⟩,B6,(LV p1_0 p1_1 l5),KG,(BP q20)]) Aj Bz U U gc19 U U U (show 0+3≤3 by decide) rfl U ?_
     refine Al (Wk.take (id:=0) (m:=4) (j:=2) (i:=t4) (c:=c19) (ys:=q20.kids) (encY:=(Ay 44)) rfl gc19 U U U (by decide) (show 1≤4 by decide) Co U U) ?_
     refine Al (EV (id:=0) (i:=t4) (u:=q20) rfl (Bp q20).symm U) (AA ⟨U,?_⟩)
     exact AI (by refine Wk.trans (Ab (L:=[(0,(.sl (List.map Ad p0))),(2,(i64 p2)),(3,(.fn 26 [])),(5,(.ptr 2 0 0 0)),(8,(.ptr 3 0 0 0)),(13,(i64 (Sh.len s0))),(14,(i64 t4))]) (.same U)) ?_;refine Wk.trans (DF (st:=[⟨0,44,3,List.map (Ay 44) (Sh.put l5 t4 q20)⟩,⟨1,44,3,[]⟩,⟨0,44,3,[[(i64 p1_0),(i64 p1_1),(.own 0 0 (List.length l5))]]⟩,KG,⟨1,44,3,[]⟩]) (st':=[⟨0,44,3,List.map (Ay 44) (Sh.put l5 t4 q20)⟩,⟨1,44,3,[]⟩,⟨0,44,3,[[(i64 p1_0),(i64 p1_1),(.own 0 0 (List.length (Sh.put l5 t4 q20)))]]⟩,KG,⟨1,44,3,[]⟩]) (by simp only[Sh.BF])) ?_;exact Ai [0,2,3] U (by decide) rfl U (.deep (AG AF) (.raw U U (.raw U U .nil))) (.same U)) (AL (by kernel_rfl) ((hA21 _ _ _).1 A21_0123456789abcd)) rfl)
   have A21_0123456789ab:A21 2 (bm 14 4095) ⟨67,AM [(0,(BS p0)),(2,(i64 p2)),(3,(.fn 26 [])),(5,CD),(8,Jg),(13,(Bx s0)),(14,(i64 t4)),(50,(ow 0 0 l5)),(51,(i64 t4)),(60,(Es q20))],[(Ov l5 t4 c19),B6,(LV p1_0 p1_1 l5),KG,(BP q20)]⟩:=(hA21 _ _ _).2 (by
    refine Af [12] U (by kernel_rfl) (by decide) ⟨?_,trivial⟩
    ·refine A3.of (i:=12) rfl U (by rfl) ?_
     refine zz (MK t4) (KV A2 U U U U gc19) rfl (AA ⟨U,?_⟩)
     exact AI (by exact AB U) (AL (by kernel_rfl) ((hA21 _ _ _).1 A21_0123456789abc)) rfl)
   have A21_0123456789a:A21 3 (bm 14 2047) ⟨67,AM [(0,(BS p0)),(2,(i64 p2)),(3,(.fn 26 [])),(5,CD),(8,Jg),(13,(Bx s0)),(14,(i64 t4)),(50,(ow 0 0 l5)),(51,(i64 t4)),(52,(BS p0)),(57,(.agg (KK c19))),(58,(i64 scope17)),(59,(.fn 26 []))],[(Ov l5 t4 c19),(BP c19),(LV p1_0 p1_1 l5),KG]⟩:=(hA21 _ _ _).2 (by
    refine Af [11] U (by kernel_rfl) (by decide) ⟨?_,trivial⟩
    ·refine A3.of (i:=11) rfl U (by rfl) ?_
     refine Jp (rowsP:=[(BP c19)]) (rows0:=[(BP c19)]) (rows1:=[B6]) (rows2:=[(BP q20)]) (rows1':=[B6]) (rows2':=[(BP q20)]) (st':=[(Ov l5 t4 c19),B6,(LV p1_0 p1_1 l5),KG,(BP q20)]) (v':=(Es q20)) [1] Aj Ui (hrec_impl_rewriteExpr gq20) rfl (by decide) rfl U (.deep (AG AF) .nil) rfl U (.pure (by intro x hx;cases hx) .nil) (.deep (AG AF) .nil) rfl U ?_
     refine AA ⟨U,?_⟩
     exact AI (by exact AB U) (AL (by kernel_rfl) ((hA21 _ _ _).1 A21_0123456789ab)) rfl)
   have A21_012345679a:A21 4 (bm 14 1791) ⟨67,AM [(0,(BS p0)),(2,(i64 p2)),(3,(.fn 26 [])),(5,Ao),(8,CD),(13,(Bx s0)),(14,(i64 t4)),(50,(ow 0 0 l5)),(51,(i64 t4)),(52,(BS p0)),(56,(MK t4)),(58,(i64 scope17)),(59,(.fn 26 []))],(KH l5 p1_0 p1_1)⟩:=(hA21 _ _ _).2 (by
    refine Af [8] U (by kernel_rfl) (by decide) ⟨?_,trivial⟩
    ·refine A3.of (i:=8) rfl U (by rfl) ?_
     refine Al (Bo (id:=0) (j:=2) (i:=t4) (c:=c19) (ys:=c19.kids) (encY:=(Ay 44)) rfl gc19 (Bp _) rfl U U U) (zz (.agg (J8 c19)) (A8 Bz U U (Bm gc19) (show 0+3≤3 by decide) rfl) rfl (AA ⟨U,?_⟩))
     exact AI (by exact JL (L:=[(0,(BS p0)),(2,(i64 p2)),(3,(.fn 26 [])),(5,CD),(8,Jg),(13,(Bx s0)),(14,(i64 t4)),(50,(ow 0 0 l5)),(51,(i64 t4)),(52,(BS p0)),(57,(.agg (KK c19))),(58,(i64 scope17)),(59,(.fn 26 []))]) (st':=[(Ov l5 t4 c19),(BP c19),(LV p1_0 p1_1 l5),KG]) (st1:=[⟨0,44,3,hole l5 (Ay 44) t4 (J8 c19)⟩,(BP c19),(LV p1_0 p1_1 l5),KG]) [0,3,1,2] U (by decide) rfl U (.hol (AG AF) (A1 Ap) rfl U (.deep (AG AF) (.raw U U (.raw U U .nil)))) (.same U)) (AL (by kernel_rfl) ((hA21 _ _ _).1 A21_0123456789a)) rfl)
   have A21_01234569a:A21 5 (bm 14 1663) ⟨67,AM [(0,(BS p0)),(2,(i64 p2)),(3,(.fn 26 [])),(5,Ao),(8,CD),(13,(Bx s0)),(14,(i64 t4)),(50,(ow 0 0 l5)),(51,(i64 t4)),(52,(BS p0)),(54,(ow 0 0 l5)),(55,(i64 t4)),(58,(i64 scope17)),(59,(.fn 26 []))],(KH l5 p1_0 p1_1)⟩:=(hA21 _ _ _).2 (by
    refine Af [7] U (by kernel_rfl) (by decide) ⟨?_,trivial⟩
    ·refine A3.of (i:=7) rfl U (by rfl) ?_
     refine zz (MK t4) (BZ A2 U U U U gc19) rfl (AA ⟨U,?_⟩)
     exact AI (by exact AB U) (AL (by kernel_rfl) ((hA21 _ _ _).1 A21_012345679a)) rfl)
   have A21_0123469a:A21 6 (bm 14 1631) ⟨67,AM [(0,(BS p0)),(2,(i64 p2)),(3,(.fn 26 [])),(5,Ao),(8,CD),(13,(Bx s0)),(14,(i64 t4)),(50,(ow 0 0 l5)),(51,(i64 t4)),(52,(BS p0)),(53,(.ptr 1 0 0 2)),(55,(i64 t4)),(58,(i64 scope17)),(59,(.fn 26 []))],(KH l5 p1_0 p1_1)⟩:=(hA21 _ _ _).2 (by
    refine Af [5] U (by kernel_rfl) (by decide) ⟨?_,trivial⟩
    ·refine A3.of (i:=5) rfl U (by rfl) ?_
     refine zq tb U (AA ⟨U,?_⟩)
     exact AI (by exact AB U) (AL (by kernel_rfl) ((hA21 _ _ _).1 A21_01234569a)) rfl)
   have A21_012369a:A21 7 (bm 14 1615) ⟨67,AM [(0,(BS p0)),(2,(i64 p2)),(3,(.fn 26 [])),(5,Ao),(8,CD),(13,(Bx s0)),(14,(i64 t4)),(50,(ow 0 0 l5)),(51,(i64 t4)),(52,(BS p0)),(55,(i64 t4)),(58,(i64 scope17)),(59,(.fn 26 []))],(KH l5 p1_0 p1_1)⟩:=(hA21 _ _ _).2 (by
    refine Af [4] U (by kernel_rfl) (by decide) ⟨?_,trivial⟩
    ·refine A3.of (i:=4) rfl U (by rfl) ?_
     refine zq tb U (AA ⟨U,?_⟩)
     exact AI (by exact AB U) (AL (by kernel_rfl) ((hA21 _ _ _).1 A21_0123469a)) rfl)
   have A21_023456789ab:A21 3 (bm 14 4093) ⟨67,AM [(0,(BS p0)),(2,(i64 p2)),(3,(.fn 26 [])),(5,CD),(8,Jg),(13,(Bx s0)),(14,(i64 t4)),(49,D9),(51,(i64 t4)),(60,(Es q20))],[(Ov l5 t4 c19),B6,(LV p1_0 p1_1 l5),KG,(BP q20)]⟩:=(hA21 _ _ _).2 (by
    refine Af [1] U (by kernel_rfl) (by decide) ⟨?_,trivial⟩
    ·refine A3.of (i:=1) rfl U (by rfl) ?_
     refine zq tb U (AA ⟨U,?_⟩)
     exact AI (by exact AB U) (AL (by kernel_rfl) ((hA21 _ _ _).1 A21_0123456789ab)) rfl)
   have A21_023456789a:A21 4 (bm 14 2045) ⟨67,AM [(0,(BS p0)),(2,(i64 p2)),(3,(.fn 26 [])),(5,CD),(8,Jg),(13,(Bx s0)),(14,(i64 t4)),(49,D9),(51,(i64 t4)),(52,(BS p0)),(57,(.agg (KK c19))),(58,(i64 scope17)),(59,(.fn 26 []))],[(Ov l5 t4 c19),(BP c19),(LV p1_0 p1_1 l5),KG]⟩:=(hA21 _ _ _).2 (by
    refine Af [1,11] U (by kernel_rfl) (by decide) ⟨?_,?_,trivial⟩
    ·refine A3.of (i:=1) rfl U (by rfl) ?_
     refine zq tb U (AA ⟨U,?_⟩)
     exact AI (by exact AB U) (AL (by kernel_rfl) ((hA21 _ _ _).1 A21_0123456789a)) rfl
    ·refine A3.of (i:=11) rfl U (by rfl) ?_
     refine Jp (rowsP:=[(BP c19)]) (rows0:=[(BP c19)]) (rows1:=[B6]) (rows2:=[(BP q20)]) (rows1':=[B6]) (rows2':=[(BP q20)]) (st':=[(Ov l5 t4 c19),B6,(LV p1_0 p1_1 l5),KG,(BP q20)]) (v':=(Es q20)) [1] Aj Ui (hrec_impl_rewriteExpr gq20) rfl (by decide) rfl U (.deep (AG AF) .nil) rfl U (.pure (by intro x hx;cases hx) .nil) (.deep (AG AF) .nil) rfl U ?_
     refine AA ⟨U,?_⟩
     exact AI (by exact AB U) (AL (by kernel_rfl) ((hA21 _ _ _).1 A21_023456789ab)) rfl)
   have A21_02345679a:A21 5 (bm 14 1789) ⟨67,AM [(0,(BS p0)),(2,(i64 p2)),(3,(.fn 26 [])),(5,Ao),(8,CD),(13,(Bx s0)),(14,(i64 t4)),(49,(.ptr 1 0 0 2)),(51,(i64 t4)),(52,(BS p0)),(56,(MK t4)),(58,(i64 scope17)),(59,(.fn 26 []))],(KH l5 p1_0 p1_1)⟩:=(hA21 _ _ _).2 (by
    refine Af [1,8] U (by kernel_rfl) (by decide) ⟨?_,?_,trivial⟩
    ·refine A3.of (i:=1) rfl U (by rfl) ?_
     refine zq tb U (AA ⟨U,?_⟩)
     exact AI (by exact AB U) (AL (by kernel_rfl) ((hA21 _ _ _).1 A21_012345679a)) rfl
    ·refine A3.of (i:=8) rfl U (by rfl) ?_
     refine Al (Bo (id:=0) (j:=2) (i:=t4) (c:=c19) (ys:=c19.kids) (encY:=(Ay 44)) rfl gc19 (Bp _) rfl U U U) (zz (.agg (J8 c19)) (A8 Bz U U (Bm gc19) (show 0+3≤3 by decide) rfl) rfl (AA ⟨U,?_⟩))
     exact AI (by exact JL (L:=[(0,(BS p0)),(2,(i64 p2)),(3,(.fn 26 [])),(5,CD),(8,Jg),(13,(Bx s0)),(14,(i64 t4)),(49,D9),(51,(i64 t4)),(52,(BS p0)),(57,(.agg (KK c19))),(58,(i64 scope17)),(59,(.fn 26 []))]) (st':=[(Ov l5 t4 c19),(BP c19),(LV p1_0 p1_1 l5),KG]) (st1:=[⟨0,44,3,hole l5 (Ay 44) t4 (J8 c19)⟩,(BP c19),(LV p1_0 p1_1 l5),KG]) [0,3,1,2] U (by decide) rfl U (.hol (AG AF) (A1 Ap) rfl U (.deep (AG AF) (.raw U U (.raw U U .nil)))) (.same U)) (AL (by kernel_rfl) ((hA21 _ _ _).1 A21_023456789a)) rfl)
   have A21_0234569a:A21 6 (bm 14 1661) ⟨67,AM [(0,(BS p0)),(2,(i64 p2)),(3,(.fn 26 [])),(5,Ao),(8,CD),(13,(Bx s0)),(14,(i64 t4)),(49,(.ptr 1 0 0 2)),(51,(i64 t4)),(52,(BS p0)),(54,(ow 0 0 l5)),(55,(i64 t4)),(58,(i64 scope17)),(59,(.fn 26 []))],(KH l5 p1_0 p1_1)⟩:=(hA21 _ _ _).2 (by
    refine Af [1,7] U (by kernel_rfl) (by decide) ⟨?_,?_,trivial⟩
    ·refine A3.of (i:=1) rfl U (by rfl) ?_
     refine zq tb U (AA ⟨U,?_⟩)
     exact AI (by exact AB U) (AL (by kernel_rfl) ((hA21 _ _ _).1 A21_01234569a)) rfl
    ·refine A3.of (i:=7) rfl U (by rfl) ?_
     refine zz (MK t4) (BZ A2 U U U U gc19) rfl (AA ⟨U,?_⟩)
     exact AI (by exact AB U) (AL (by kernel_rfl) ((hA21 _ _ _).1 A21_02345679a)) rfl)
   have A21_023469a:A21 7 (bm 14 1629) ⟨67,AM [(0,(BS p0)),(2,(i64 p2)),(3,(.fn 26 [])),(5,Ao),(8,CD),(13,(Bx s0)),(14,(i64 t4)),(49,(.ptr 1 0 0 2)),(51,(i64 t4)),(52,(BS p0)),(53,(.ptr 1 0 0 2)),(55,(i64 t4)),(58,(i64 scope17)),(59,(.fn 26 []))],(KH l5 p1_0 p1_1)⟩:=(hA21 _ _ _).2 (by
    refine Af [1,5] U (by kernel_rfl) (by decide) ⟨?_,?_,trivial⟩
    ·refine A3.of (i:=1) rfl U (by rfl) ?_
     refine zq tb U (AA ⟨U,?_⟩)
     exact AI (by exact AB U) (AL (by kernel_rfl) ((hA21 _ _ _).1 A21_0123469a)) rfl
    ·refine A3.of (i:=5) rfl U (by rfl) ?_
     refine zq tb U (AA ⟨U,?_⟩)
     exact AI (by exact AB U) (AL (by kernel_rfl) ((hA21 _ _ _).1 A21_0234569a)) rfl)
   have A21_02369a:A21 8 (bm 14 1613) ⟨67,AM [(0,(BS p0)),(2,(i64 p2)),(3,(.fn 26 [])),(5,Ao),(8,CD),(13,(Bx s0)),(14,(i64 t4)),(49,(.ptr 1 0 0 2)),(51,(i64 t4)),(52,(BS p0)),(55,(i64 t4)),(58,(i64 scope17)),(59,(.fn 26 []))],(KH l5 p1_0 p1_1)⟩:=(hA21 _ _ _).2 (by
    refine Af [1,4] U (by kernel_rfl) (by decide) ⟨?_,?_,trivial⟩
    ·refine A3.of (i:=1) rfl U (by rfl) ?_
     refine zq tb U (AA ⟨U,?_⟩)
     exact AI (by exact AB U) (AL (by kernel_rfl) ((hA21 _ _ _).1 A21_012369a)) rfl
    ·refine A3.of (i:=4) rfl U (by rfl) ?_
     refine zq tb U (AA ⟨U,?_⟩)
     exact AI (by exact AB U) (AL (by kernel_rfl) ((hA21 _ _ _).1 A21_023469a)) rfl)
   have A21_23456789ab:A21 4 (bm 14 4092) ⟨67,AM [(0,(BS p0)),(2,(i64 p2)),(3,(.fn 26 [])),(5,CD),(8,Jg),(13,(Bx s0)),(14,(i64 t4)),(51,(i64 t4)),(60,(Es q20))],[(Ov l5 t4 c19),B6,(LV p1_0 p1_1 l5),KG,(BP q20)]⟩:=(hA21 _ _ _).2 (by
    refine Af [0] U (by kernel_rfl) (by decide) ⟨?_,trivial⟩
    ·refine A3.of (i:=0) rfl U (by rfl) ?_
     refine zq tb U (AA ⟨U,?_⟩)
     exact AI (by exact AB U) (AL (by kernel_rfl) ((hA21 _ _ _).1 A21_023456789ab)) rfl)
   have A21_23456789a:A21 5 (bm 14 2044) ⟨67,AM [(0,(BS p0)),(2,(i64 p2)),(3,(.fn 26 [])),(5,CD),(8,Jg),(13,(Bx s0)),(14,(i64 t4)),(51,(i64 t4)),(52,(BS p0)),(57,(.agg (KK c19))),(58,(i64 scope17)),(59,(.fn 26 []))],[(Ov l5 t4 c19),(BP c19),(LV p1_0 p1_1 l5),KG]⟩:=(hA21 _ _ _).2 (by
    refine Af [0,11] U (by kernel_rfl) (by decide) ⟨?_,?_,trivial⟩
    ·refine A3.of (i:=0) rfl U (by rfl) ?_
     refine zq tb U (AA ⟨U,?_⟩)
     exact AI (by exact AB U) (AL (by kernel_rfl) ((hA21 _ _ _).1 A21_023456789a)) rfl
    ·refine A3.of (i:=11) rfl U (by rfl) ?_
     refine Jp (rowsP:=[(BP c19)]) (rows0:=[(BP c19)]) (rows1:=[B6]) (rows2:=[(BP q20)]) (rows1':=[B6]) (rows2':=[(BP q20)]) (st':=[(Ov l5 t4 c19),B6,(LV p1_0 p1_1 l5),KG,(BP q20)]) (v':=(Es q20)) [1] Aj Ui (hrec_impl_rewriteExpr gq20) rfl (by decide) rfl U (.deep (AG AF) .nil) rfl U (.pure (by intro x hx;cases hx) .nil) (.deep (AG AF) .nil) rfl U ?_
     refine AA ⟨U,?_⟩
     exact AI (by exact AB U) (AL (by kernel_rfl) ((hA21 _ _ _).1 A21_23456789ab)) rfl)
   have A21_2345679a:A21 6 (bm 14 1788) ⟨67,AM [(0,(BS p0)),(2,(i64 p2)),(3,(.fn 26 [])),(5,Ao),(8,CD),(13,(Bx s0)),(14,(i64 t4)),(51,(i64 t4)),(52,(BS p0)),(56,(MK t4)),(58,(i64 scope17)),(59,(.fn 26 []))],(KH l5 p1_0 p1_1)⟩:=(hA21 _ _ _).2 (by
    refine Af [0,8] U (by kernel_rfl) (by decide) ⟨?_,?_,trivial⟩
    ·refine A3.of (i:=0) rfl U (by rfl) ?_
     refine zq tb U (AA ⟨U,?_⟩)
     exact AI (by exact AB U) (AL (by kernel_rfl) ((hA21 _ _ _).1 A21_02345679a)) rfl
    ·refine A3.of (i:=8) rfl U (by rfl) ?_
     refine Al (Bo (id:=0) (j:=2) (i:=t4) (c:=c19) (ys:=c19.kids) (encY:=(Ay 44)) rfl gc19 (Bp _) rfl U U U) (zz (.agg (J8 c19)) (A8 Bz U U (Bm gc19) (show 0+3≤3 by decide) rfl) rfl (AA ⟨U,?_⟩))
     exact AI (by exact JL (L:=[(0,(BS p0)),(2,(i64 p2)),(3,(.fn 26 [])),(5,CD),(8,Jg),(13,(Bx s0)),(14,(i64 t4)),(51,(i64 t4)),(52,(BS p0)),(57,(.agg (KK c19))),(58,(i64 scope17)),(59,(.fn 26 []))]) (st':=[(Ov l5 t4 c19),(BP c19),(LV p1_0 p1_1 l5),KG]) (st1:=[⟨0,44,3,hole l5 (Ay 44) t4 (J8 c19)⟩,(BP c19),(LV p1_0 p1_1 l5),KG]) [0,3,1,2] U (by decide) rfl U (.hol (AG AF) (A1 Ap) rfl U (.deep (AG AF) (.raw U U (.raw U U .nil)))) (.same U)) (AL (by kernel_rfl) ((hA21 _ _ _).1 A21_23456789a)) rfl)
   have A21_234569a:A21 7 (bm 14 1660) ⟨67,AM [(0,(BS p0)),(2,(i64 p2)),(3,(.fn 26 [])),(5,Ao),(8,CD),(13,(Bx s0)),(14,(i64 t4)),(51,(i64 t4)),(52,(BS p0)),(54,(ow 0 0 l5)),(55,(i64 t4)),(58,(i64 scope17)),(59,(.fn 26 []))],(KH l5 p1_0 p1_1)⟩:=(hA21 _ _ _).2 (by
    refine Af [0,7] U (by kernel_rfl) (by decide) ⟨?_,?_,trivial⟩
    ·refine A3.of (i:=0) rfl U (by rfl) ?_
     refine zq tb U (AA ⟨U,?_⟩)
     exact AI (by exact AB U) (AL (by kernel_rfl) ((hA21 _ _ _).1 A21_0234569a)) rfl
    ·refine A3.of (i:=7) rfl U (by rfl) ?_
     refine zz (MK t4) (BZ A2 U U U U gc19) rfl (AA ⟨U,?_⟩)
     exact AI (by exact AB U) (AL (by kernel_rfl) ((hA21 _ _ _).1 A21_2345679a)) rfl)
   have A21_23469a:A21 8 (bm 14 1628) ⟨67,AM [(0,(BS p0)),(2,(i64 p2)),(3,(.fn 26 [])),(5,Ao),(8,CD),(13,(Bx s0)),(14,(i64 t4)),(51,(i64 t4)),(52,(BS p0)),(53,(.ptr 1 0 0 2)),(55,(i64 t4)),(58,(i64 scope17)),(59,(.fn 26 []))],(KH l5 p1_0 p1_1)⟩:=(hA21 _ _ _).2 (by
    refine Af [0,5] U (by kernel_rfl) (by decide) ⟨?_,?_,trivial⟩
    ·refine A3.of (i:=0) rfl U (by rfl) ?_
     refine zq tb U (AA ⟨U,?_⟩)
     exact AI (by exact AB U) (AL (by kernel_rfl) ((hA21 _ _ _).1 A21_023469a)) rfl
    ·refine A3.of (i:=5) rfl U (by rfl) ?_
     refine zq tb U (AA ⟨U,?_⟩)
     exact AI (by exact AB U) (AL (by kernel_rfl) ((hA21 _ _ _).1 A21_234569a)) rfl)
   have A21_2369a:A21 9 (bm 14 1612) ⟨67,AM [(0,(BS p0)),(2,(i64 p2)),(3,(.fn 26 [])),(5,Ao),(8,CD),(13,(Bx s0)),(14,(i64 t4)),(51,(i64 t4)),(52,(BS p0)),(55,(i64 t4)),(58,(i64 scope17)),(59,(.fn 26 []))],(KH l5 p1_0 p1_1)⟩:=(hA21 _ _ _).2 (by
    refine Af [0,4] U (by kernel_rfl) (by decide) ⟨?_,?_,trivial⟩
    ·refine A3.of (i:=0) rfl U (by rfl) ?_
     refine zq tb U (AA ⟨U,?_⟩)
     exact AI (by exact AB U) (AL (by kernel_rfl) ((hA21 _ _ _).1 A21_02369a)) rfl
    ·refine A3.of (i:=4) rfl U (by rfl) ?_
     refine zq tb U (AA ⟨U,?_⟩)
     exact AI (by exact AB U) (AL (by kernel_rfl) ((hA21 _ _ _).1 A21_23469a)) rfl)
   have A21_2369:A21 10 (bm 14 588) ⟨67,AM [(0,(BS p0)),(2,(i64 p2)),(3,(.fn 26 [])),(5,Ao),(8,CD),(13,(Bx s0)),(14,(i64 t4)),(51,(i64 t4)),(52,(BS p0)),(55,(i64 t4)),(58,(i64 scope17))],(KH l5 p1_0 p1_1)⟩:=(hA21 _ _ _).2 (by
    refine Bn 10 (v:=(.fn 26 [])) rfl U (by kernel_rfl) (by kernel_rfl) (by kernel_rfl) rfl (CO U) ?_
    exact AI (by exact AB U) (AL (by kernel_rfl) ((hA21 _ _ _).1 A21_2369a)) rfl)
   have A21_236:A21 11 (bm 14 76) ⟨67,AM [(0,(BS p0)),(2,(i64 p2)),(3,(.fn 26 [])),(5,Ao),(8,CD),(10,(i64 scope17)),(13,(Bx s0)),(14,(i64 t4)),(51,(i64 t4)),(52,(BS p0)),(55,(i64 t4))],(KH l5 p1_0 p1_1)⟩:=(hA21 _ _ _).2 (by
    refine Bn 9 (v:=(i64 scope17)) rfl U (by kernel_rfl) (by kernel_rfl) (by kernel_rfl) rfl (CO U) ?_
    exact AI (by exact AB U) (AL (by kernel_rfl) ((hA21 _ _ _).1 A21_2369)) rfl)
   have A21_23:A21 12 (bm 14 12) ⟨67,AM [(0,(BS p0)),(2,(i64 p2)),(3,(.fn 26 [])),(5,Ao),(8,CD),(9,(i64 t4)),(10,(i64 scope17)),(13,(Bx s0)),(14,(i64 t4)),(51,(i64 t4)),(52,(BS p0))],(KH l5 p1_0 p1_1)⟩:=(hA21 _ _ _).2 (by
    refine Bn 6 (v:=(i64 t4)) rfl U (by kernel_rfl) (by kernel_rfl) (by kernel_rfl) rfl (CO U) ?_
    exact AI (by exact AB U) (AL (by kernel_rfl) ((hA21 _ _ _).1 A21_236)) rfl)
   have A21_2:A21 13 (bm 14 4) ⟨67,AM [(0,(BS p0)),(2,(i64 p2)),(3,(.fn 26 [])),(5,Ao),(8,CD),(9,(i64 t4)),(10,(i64 scope17)),(13,(Bx s0)),(14,(i64 t4)),(51,(i64 t4))],(KH l5 p1_0 p1_1)⟩:=(hA21 _ _ _).2 (by
    refine Bn 3 (v:=(BS p0)) rfl U (by kernel_rfl) (by kernel_rfl) (by kernel_rfl) rfl (CO U) ?_
    exact AI (by exact AB U) (AL (by kernel_rfl) ((hA21 _ _ _).1 A21_23)) rfl)
   have A21_e:A21 14 (bm 14 0) ⟨67,AM [(0,(BS p0)),(2,(i64 p2)),(3,(.fn 26 [])),(5,Ao),(8,CD),(9,(i64 t4)),(10,(i64 scope17)),(13,(Bx s0)),(14,(i64 t4))],(KH l5 p1_0 p1_1)⟩:=(hA21 _ _ _).2 (by
    refine Bn 2 (v:=(i64 t4)) rfl U (by kernel_rfl) (by kernel_rfl) (by kernel_rfl) rfl (CO U) ?_
    exact AI (by exact AB U) (AL (by kernel_rfl) ((hA21 _ _ _).1 A21_2)) rfl)
   refine (hA21 _ _ _).2 ?_
   exact AI (by exact AB U) (AL (by kernel_rfl) ((hA21 _ _ _).1 A21_e)) rfl
  refine Ac (AJ fun K22 hK22=>bs h2 fun o24 h3 h2=>?_)
  have M24 :∀(t23:Bool),o24=t23→∀s,Wk 1 s ⟨67,AM [(0,(BS p0)),(2,(i64 p2)),(3,(.fn 26 [])),(5,Ao),(8,CD),(9,(i64 t4)),(10,(i64 p2)),(13,(Bx s0)),(14,(i64 t4)),(18,(.bool t23))],(KH l5 p1_0 p1_1)⟩→K22 s:=by
   intro t23 hq s hw
   subst o24
   try dsimp only at h2
   refine hK22 _ (Aa hw ?_)
   refine ci h2 U ?_ ?_ <;> clear h2
   ·intro b25 h2
    exact AR U (zm tb 3 U (AA (M18 (Sh.w (p2+1)) (Sh.AE h2).symm _ (AB U))))
   ·intro b25 h2
    refine AJ fun K26 hK26=>bs h2 fun o28 h3 h2=>?_
    have M28 :∀(t27:Bool),o28=t27→∀s,Wk 1 s ⟨67,AM [(0,(BS p0)),(2,(i64 p2)),(3,(.fn 26 [])),(5,Ao),(8,CD),(9,(i64 t4)),(10,(i64 p2)),(13,(Bx s0)),(14,(i64 t4)),(28,(.bool t27))],(KH l5 p1_0 p1_1)⟩→K26 s:=by
     intro t27 hq s hw
     subst o28
     try dsimp only at h2
     refine hK26 _ (Aa hw ?_)
     refine ci h2 U ?_ ?_ <;> clear h2
     ·intro b29 h2
      refine AR U (zm tb 5 U (bs h2 fun q30 gq30 h2=>BW (v':=(ow 3 0 q30)) Aj Y9 (L7 gq30) rfl U ⟨(Br fun _=>U),trivial⟩ U U (zm tb 2 U (bs h2 fun c31 gc31 h2=>zz (.ptr 3 0 (Int.toNat (Sh.w (t4 - 1))) 0) (BZ Bu U U U U gc31) rfl (zz (i64 c31) (BG Em U U (Fy gc31) rfl) rfl (bs h2 fun q32 gq32 h2=>zc Xw (KL gq32) rfl U U (zl tb U U (zm tb 2 U ?_))))))))
      exact AA (M18 (Sh.w (p2+(Sh.len q32))) (Sh.AE h2).symm _ (Ai [0,1,2] U (by decide) rfl U (.deep (AG AF) (.raw U U (.raw U U .nil))) (.same U)))
     ·intro b29 h2
      exact AN (M18 p2 (Sh.AE h2).symm _ (AB U))
    refine AR U (zm tb 4 U ?_)
    rcases Sh.Az h3 with ⟨b33,h3⟩ | ⟨b33,h3⟩
    ·exact zg tb b33 U (zg tb b33 U (zt b33 U (zq tb U (AA (M28 (decide (0 < t4)) (Sh.AE h3).symm _ (AB U))))))
    ·exact zs b33 U (zs b33 U (zf b33 U (zq tb U (AA (M28 false (Sh.AE h3).symm _ (AB U))))))
  refine AR U (zm tb 4 U ?_)
  rcases Sh.Az h3 with ⟨b34,h3⟩ | ⟨b34,h3⟩
  ·exact zg tb b34 U (zg tb b34 U (zt b34 U (zq tb U (AA (M24 (decide (t4=1)) (Sh.AE h3).symm _ (AB U))))))
  ·exact zs b34 U (zs b34 U (zf b34 U (zq tb U (AA (M24 false (Sh.AE h3).symm _ (AB U))))))
 ·intro b12 h1
  exact A0 (M7 l5 (Sh.AE h1).symm _ (AB U))

theorem Lb {N:Nat} :∀(n:Nat),∀{s0:(List AK)} {p0:(List Ah)} {p1_0:Int} {p1_1:Int} {p2:Int} {r:AK},DC N n s0 p0 p1_0 p1_1 p2=some r→Ak Tryz.prog 56 [(BS p0),(.agg [(i64 p1_0),(i64 p1_1),(ow 0 0 s0)]),(i64 p2),(.fn 26 [])] [(Dx s0)] (fun v st=>v=(.agg (KK r))∧st=[B6,(BP r)]):=by
 intro n
 induction n with
 | zero=>intro s0 p0 p1_0 p1_1 p2 r h0;cases h0
 | succ n ih=>
  intro s0 p0 p1_0 p1_1 p2 r h0
  rw[DC] at h0
  exact LQ (fun h=>ih h) h0
theorem JD {N:Nat} :∀{s0:(List AK)} {p0:(List Ah)} {p1_0:Int} {p1_1:Int} {p2:Int} {r:AK},Gu N s0 p0 p1_0 p1_1 p2=some r→Ak Tryz.prog 56 [(BS p0),(.agg [(i64 p1_0),(i64 p1_1),(ow 0 0 s0)]),(i64 p2),(.fn 26 [])] [(Dx s0)] (fun v st=>v=(.agg (KK r))∧st=[B6,(BP r)]):=by
 intro s0 p0 p1_0 p1_1 p2 r h0
 exact Lb N h0
end Go.Proofs.YtpahalfiiahddaaGreat

