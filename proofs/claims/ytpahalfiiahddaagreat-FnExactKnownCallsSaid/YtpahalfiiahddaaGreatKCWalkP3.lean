import Derived.Test.YtpahalfiiahddaaGreatProg
import Derived.Test.YtpahalfiiahddaaGreatGAbsXToSSDefs
import Derived.Test.YtpahalfiiahddaaGreatGHADefsToKCDefs
import Derived.Test.YtpahalfiiahddaaGreatCFWalk
import Derived.Test.YtpahalfiiahddaaGreatKCWalkP2
namespace Go.Proofs.YtpahalfiiahddaaGreat
open Go Go.Abs RC
attribute [local irreducible] Go.Abs.Cp
set_option maxRecDepth 100000
set_option maxHeartbeats 4000000

theorem Oc:Gp Tryz.prog 30 1=some 1:=by kernel_rfl
theorem Yp:Gp Tryz.prog 48 0=some 0:=by kernel_rfl
theorem YK:Gp Tryz.prog 48 1=some 1:=by kernel_rfl
theorem YZ:Gp Tryz.prog 48 2=some 2:=by kernel_rfl
theorem Zj:As Tryz.prog 103=true:=by kernel_rfl
theorem XL:As Tryz.prog 104=true:=by kernel_rfl
theorem V2:As Tryz.prog 41=true:=by kernel_rfl

theorem N3 {N:Nat} {rec_impl_shifted:AK→Int→Int→Option (AK)} (hrec_impl_shifted :∀{p0:AK} {p1:Int} {p2:Int} {r:AK},rec_impl_shifted p0 p1 p2=some r→Ak Tryz.prog 41 [(B8 p0),(i64 p1),(i64 p2)] [] (fun v st=>v=(.agg (KI r))∧st=[(BP r)])) {p0:AK} {p1:Int} {p2:Int} {r:AK} (h0:Hm N rec_impl_shifted p0 p1 p2=some r):Ak Tryz.prog 41 [(B8 p0),(i64 p1),(i64 p2)] [] (fun v st=>v=(.agg (KI r))∧st=[(BP r)]):=by
 unfold Hm at h0
 refine Ak.wk (r0:=(.agg (KI r))) (st0:=[(BP r),⟨0,44,3,[(KI r)]⟩]) ?_ (FD (L:=[(0,(.agg (KI r)))]) (st':=[(BP r)]) [0] U (by decide) rfl U (.deep (AG AF) trivial) (.same U))
 refine ai Tryz.func41 U U U U (sr U fun K1 hK1=>BY (m:=0) Aj U U U U U (A7 (m:=1) Aj Ik U U (dn hK1 U (AJ fun K2 hK2=>bs h0 fun o4 h1 h0=>?_))))
 have M4 :∀(f3:Int),o4=f3→∀s,Wk 0 s ⟨44,AM [(1,(i64 p1)),(2,(i64 p2)),(3,Ax),(6,Ao)],[(Tj p0.op f3 p0.kids),HG]⟩→K2 s:=by
  intro f3 hq s hw
  subst o4
  try dsimp only at h0
  refine hK2 _ (Aa hw (zr tb U U (sr U fun K6 hK6=>zq tb U (BI Aj Ez U U U U U U (show 2+1≤3 by decide) rfl (dn hK6 U (AJ fun K7 hK7=>sr U fun K8 hK8=>zq tb U (zl tb U U (zq tb U (dn hK8 U ?_)))))))))
  refine bs h0 fun o12 h1 h0=>?_
  have M12 :∀(l11:(List AK)),o12=l11→∀s,Wk 0 s ⟨44,AM [(3,Ax),(6,Ao)],[⟨0,44,3,[[(i64 p0.op),(i64 f3),(ow 2 0 l11)]]⟩,HG,(Dx l11)]⟩→K7 s:=by
   intro l11 hq s hw
   subst o12
   try dsimp only at h0
   refine hK7 _ (Aa hw (sr U fun K13 hK13=>zq tb U (BI Aj Bz U U U U U U (show 0+3≤3 by decide) rfl (dn hK13 U ?_))))
   replace h0:=Sh.AE h0
   subst r
   exact AP (Exists.intro _ (And.intro ((BM (L:=[(6,Ao)]) (st':=[(Dx l11),⟨0,44,3,[[(i64 p0.op),(i64 f3),(ow 0 0 l11)]]⟩]) (st1:=[(Dx l11),⟨0,44,3,[[(i64 p0.op),(i64 f3),(ow 2 0 l11)]]⟩]) [2,1] U .nil (by decide) rfl U (.deep (AG AF) (.raw U U .nil)) (.same U)).trans (Ab (L:=[(6,Ao)]) (.same U))) (A8 (x:=.tmp 6) (off:=0) (cs:=[(i64 p0.op),(i64 f3),(ow 0 0 l11)]) (vs:=[(i64 p0.op),(i64 f3),(ow 0 0 l11)]) Bz U U U (show 0+3≤3 by decide) rfl _ ⟨U,U⟩)))
  refine Ac (Aw (σ:=Int×(List AK)) (fun n v=>C1 p0 p1 p2 rec_impl_shifted n v.1 v.2=some o12) (fun (t9,l10)=>⟨44,AM [(1,(i64 p1)),(2,(i64 p2)),(3,Ax),(6,Ao),(27,(Fq p0)),(28,(Hx p0)),(29,(i64 t9))],[⟨0,44,3,[[(i64 p0.op),(i64 f3),(ow 2 0 l10)]]⟩,HG,(Dx l10)]⟩) N (0,[]) h1 (by refine Wk.trans (GS (id:=0) (st':=[⟨0,44,3,[[(i64 p0.op),(i64 f3),(.own 2 0 (List.length ([]:List AK)))]]⟩,HG,(ro 0 44 3 (Ay 44) ([]:List AK))]) (j:=2) rfl U 44 (size':=3) (by decide) rfl U U U) ?_;exact AB U) (fun _ hv=>by rw[C1] at hv;cases hv) ?_)
  rintro n ⟨t9,l10⟩ h1
  try dsimp only at h1 ⊢
  rw[C1] at h1
  refine zr tb U U (AJ fun K15 hK15=>?_)
  refine ci h1 U ?_ ?_ <;> clear h1
  ·intro b16 h1
   refine AN (hK15 _ (AJ fun K17 hK17=>Ac (sr U fun K18 hK18=>bs h1 fun c19 gc19 h1=>zz (FF c19) (Bq A2 U U gc19 (A4 _) rfl) rfl (zq tb U (A7 (m:=3) Aj Ik U U (BI Aj Bz U U U U U U (show 0+3≤3 by decide) rfl (dn hK18 U ?_)))))))
   refine GJ (by kernel_rfl) ?_
   refine bs h1 fun q20 gq20 h1=>bs h1 fun l21 gl21 h1=>I0 fun A23 hA23=>?_
   have A23_0123456789:A23 0 (bm 10 1023) ⟨44,AM [(1,(i64 p1)),(2,(i64 p2)),(3,Ax),(6,CD),(27,(Fq p0)),(28,(Hx p0)),(29,(i64 t9))],[(I6 p0 f3 l21),(Dx l21),HG]⟩:=(hA23 _ _ _).2 (by
    refine GR U (by kernel_rfl) ?_
    refine hK17 _ (AR U (zm tb 2 U ?_))
    exact AA (xi (Sh.w (t9+1),l21) h1 (by exact BM (L:=[(1,(i64 p1)),(2,(i64 p2)),(3,Ax),(6,Ao),(27,(Fq p0)),(28,(Hx p0)),(29,(Kn t9))]) (st':=[⟨0,44,3,[[(i64 p0.op),(i64 f3),(ow 2 0 l21)]]⟩,HG,(Dx l21)]) (st1:=[(I6 p0 f3 l21),HG,(Dx l21)]) [0,2,1] U .nil (by decide) rfl U (.raw U U (.raw U U (.deep (AG AF) .nil))) (.same U))))
   have A23_012345678:A23 1 (bm 10 511) ⟨44,AM [(1,(i64 p1)),(2,(i64 p2)),(3,Ax),(6,CD),(27,(Fq p0)),(28,(Hx p0)),(29,(i64 t9)),(40,(ow 1 1 l21)),(41,(.ptr 0 0 0 2))],[(I6 p0 f3 l10),(ro 1 44 3 (Ay 44) l21),HG]⟩:=(hA23 _ _ _).2 (by
    refine Af [9] U (by kernel_rfl) (by decide) ⟨?_,trivial⟩
    ·refine A3.of (i:=9) rfl U (by rfl) ?_
     refine BI Aj Ez U U U U U U (show 2+1≤3 by decide) rfl (AA ⟨U,?_⟩)
     exact AI (by exact Dv (L:=[(1,(i64 p1)),(2,(i64 p2)),(3,Ax),(6,CD),(27,(Fq p0)),(28,(Hx p0)),(29,(i64 t9))]) (st':=[(I6 p0 f3 l21),(Dx l21),HG]) (.raw U U (.deep (AG AF) (.raw U U .nil))) (.same U)) (AL (by kernel_rfl) ((hA23 _ _ _).1 A23_0123456789)) rfl)
   have A23_01234567:A23 2 (bm 10 255) ⟨44,AM [(1,(i64 p1)),(2,(i64 p2)),(3,Ax),(6,CD),(27,(Fq p0)),(28,(Hx p0)),(29,(i64 t9)),(40,(ow 1 1 l21))],[(I6 p0 f3 l10),(ro 1 44 3 (Ay 44) l21),HG]⟩:=(hA23 _ _ _).2 (by
    refine Af [8] U (by kernel_rfl) (by decide) ⟨?_,trivial⟩
    ·refine A3.of (i:=8) rfl U (by rfl) ?_
     refine zq tb U (AA ⟨U,?_⟩)
     exact AI (by exact AB U) (AL (by kernel_rfl) ((hA23 _ _ _).1 A23_012345678)) rfl)
   have A23_0123456:A23 3 (bm 10 127) ⟨44,AM [(1,(i64 p1)),(2,(i64 p2)),(3,Ax),(6,CD),(27,(Fq p0)),(28,(Hx p0)),(29,(i64 t9)),(34,(ow 1 0 l10)),(39,(.own 3 0 1))],[(I6 p0 f3 l10),(Dx l10),HG,(MD q20),(BP q20)]⟩:=(hA23 _ _ _).2 (by
    refine Af [7] U (by kernel_rfl) (by decide) ⟨?_,trivial⟩
    ·refine A3.of (i:=7) rfl U (by rfl) ?_
     have g24:=Js gl21
     refine Lt (st':=[(I6 p0 f3 l10),⟨1,44,3,hole l21 (Ay 44) (Sh.len l10) (Hu q20)⟩,HG,(MD q20),(BP q20)]) (c:=q20) Aj A2 U U U U U U U gl21 U ?_
     refine Al (Wk.take (id:=1) (m:=4) (j:=2) (i:=Sh.len l10) (c:=q20) (ys:=q20.kids) (encY:=(Ay 44)) rfl g24 U U U (by decide) (show 0≤4 by decide) Co U U) ?_
     refine Al (Ev (id:=1) (i:=Sh.len l10) (c:=q20) rfl g24 (Bp q20).symm U) (AA ⟨U,?_⟩)
     exact AI (by exact Ai [0,1,2] U (by decide) rfl U (.raw U U (.deep (AG AF) (.raw U U .nil))) (.same U)) (AL (by kernel_rfl) ((hA23 _ _ _).1 A23_01234567)) rfl)
   have A23_012345:A23 4 (bm 10 63) ⟨44,AM [(1,(i64 p1)),(2,(i64 p2)),(3,Ax),(6,CD),(27,(Fq p0)),(28,(Hx p0)),(29,(i64 t9)),(34,(ow 1 0 l10)),(38,(.agg (J8 q20)))],[(I6 p0 f3 l10),(Dx l10),HG,(BP q20)]⟩:=(hA23 _ _ _).2 (by
    refine Af [6] U (by kernel_rfl) (by decide) ⟨?_,trivial⟩
    ·refine A3.of (i:=6) rfl U (by rfl) ?_
     refine Bb (m:=4) (l:=[()]) (enc:=fun _=>(J8 q20)) Aj A2 (by decide) rfl U U U U U ?_
     refine AA ⟨U,?_⟩
     exact AI (by exact BM (L:=[(1,(i64 p1)),(2,(i64 p2)),(3,Ax),(6,CD),(27,(Fq p0)),(28,(Hx p0)),(29,(i64 t9)),(34,(ow 1 0 l10)),(39,(.own 3 0 1))]) (st':=[(I6 p0 f3 l10),(Dx l10),HG,(MD q20),(BP q20)]) (st1:=[(I6 p0 f3 l10),(Dx l10),HG,⟨0,44,3,[(J8 q20)]⟩,(BP q20)]) [0,1,2,4,3] U .nil (by decide) rfl U (.raw U U (.deep (AG AF) (.raw U U (.raw U U (.deep (AG AF) .nil))))) (.same U)) (AL (by kernel_rfl) ((hA23 _ _ _).1 A23_0123456)) rfl)
   have A23_01234:A23 5 (bm 10 31) ⟨44,AM [(1,(i64 p1)),(2,(i64 p2)),(3,Ax),(6,CD),(27,(Fq p0)),(28,(Hx p0)),(29,(i64 t9)),(34,(ow 1 0 l10)),(35,(B8 c19)),(36,(i64 p1)),(37,(i64 p2))],[(I6 p0 f3 l10),(Dx l10),HG]⟩:=(hA23 _ _ _).2 (by
    refine Af [5] U (by kernel_rfl) (by decide) ⟨?_,trivial⟩
    ·refine A3.of (i:=5) rfl U (by rfl) ?_
     refine BW (v':=(.agg (J8 q20))) Aj V2 (hrec_impl_shifted gq20) rfl U ⟨(AG AF),trivial⟩ U U (AA ⟨U,?_⟩)
     exact AI (by exact AB U) (AL (by kernel_rfl) ((hA23 _ _ _).1 A23_012345)) rfl)
   have A23_0134:A23 6 (bm 10 27) ⟨44,AM [(1,(i64 p1)),(2,(i64 p2)),(3,Ax),(6,CD),(9,Jg),(27,(Fq p0)),(28,(Hx p0)),(29,(i64 t9)),(34,(ow 1 0 l10)),(36,(i64 p1)),(37,(i64 p2))],[(I6 p0 f3 l10),(Dx l10),HG,(Tj c19.op c19.num c19.kids)]⟩:=(hA23 _ _ _).2 (by
    refine Af [2] U (by kernel_rfl) (by decide) ⟨?_,trivial⟩
    ·refine A3.of (i:=2) rfl U (by rfl) ?_
     refine zq tb U (AA ⟨U,?_⟩)
     exact AI (by exact Ai [0,1,2] U (by decide) rfl U (.raw U U (.deep (AG AF) (.raw U U .nil))) (.same U)) (AL (by kernel_rfl) ((hA23 _ _ _).1 A23_01234)) rfl)
   have A23_023456:A23 4 (bm 10 125) ⟨44,AM [(1,(i64 p1)),(2,(i64 p2)),(3,Ax),(6,CD),(27,(Fq p0)),(28,(Hx p0)),(29,(i64 t9)),(33,(.ptr 0 0 0 2)),(39,(.own 3 0 1))],[(I6 p0 f3 l10),(Dx l10),HG,(MD q20),(BP q20)]⟩:=(hA23 _ _ _).2 (by
    refine Af [1] U (by kernel_rfl) (by decide) ⟨?_,trivial⟩
    ·refine A3.of (i:=1) rfl U (by rfl) ?_
     refine zq tb U (AA ⟨U,?_⟩)
     exact AI (by exact AB U) (AL (by kernel_rfl) ((hA23 _ _ _).1 A23_0123456)) rfl)
   have A23_02345:A23 5 (bm 10 61) ⟨44,AM [(1,(i64 p1)),(2,(i64 p2)),(3,Ax),(6,CD),(27,(Fq p0)),(28,(Hx p0)),(29,(i64 t9)),(33,(.ptr 0 0 0 2)),(38,(.agg (J8 q20)))],[(I6 p0 f3 l10),(Dx l10),HG,(BP q20)]⟩:=(hA23 _ _ _).2 (by
    refine Af [1,6] U (by kernel_rfl) (by decide) ⟨?_,?_,trivial⟩
    ·refine A3.of (i:=1) rfl U (by rfl) ?_
     refine zq tb U (AA ⟨U,?_⟩)
     exact AI (by exact AB U) (AL (by kernel_rfl) ((hA23 _ _ _).1 A23_012345)) rfl
    ·refine A3.of (i:=6) rfl U (by rfl) ?_
     refine Bb (m:=4) (l:=[()]) (enc:=fun _=>(J8 q20)) Aj A2 (by decide) rfl U U U U U ?_
     refine AA ⟨U,?_⟩
     exact AI (by exact BM (L:=[(1,(i64 p1)),(2,(i64 p2)),(3,Ax),(6,CD),(27,(Fq p0)),(28,(Hx p0)),(29,(i64 t9)),(33,(.ptr 0 0 0 2)),(39,(.own 3 0 1))]) (st':=[(I6 p0 f3 l10),(Dx l10),HG,(MD q20),(BP q20)]) (st1:=[(I6 p0 f3 l10),(Dx l10),HG,⟨0,44,3,[(J8 q20)]⟩,(BP q20)]) [0,1,2,4,3] U .nil (by decide) rfl U (.raw U U (.deep (AG AF) (.raw U U (.raw U U (.deep (AG AF) .nil))))) (.same U)) (AL (by kernel_rfl) ((hA23 _ _ _).1 A23_023456)) rfl)
   have A23_0234:A23 6 (bm 10 29) ⟨44,AM [(1,(i64 p1)),(2,(i64 p2)),(3,Ax),(6,CD),(27,(Fq p0)),(28,(Hx p0)),(29,(i64 t9)),(33,(.ptr 0 0 0 2)),(35,(B8 c19)),(36,(i64 p1)),(37,(i64 p2))],[(I6 p0 f3 l10),(Dx l10),HG]⟩:=(hA23 _ _ _).2 (by
    refine Af [1,5] U (by kernel_rfl) (by decide) ⟨?_,?_,trivial⟩
    ·refine A3.of (i:=1) rfl U (by rfl) ?_
     refine zq tb U (AA ⟨U,?_⟩)
     exact AI (by exact AB U) (AL (by kernel_rfl) ((hA23 _ _ _).1 A23_01234)) rfl
    ·refine A3.of (i:=5) rfl U (by rfl) ?_
     refine BW (v':=(.agg (J8 q20))) Aj V2 (hrec_impl_shifted gq20) rfl U ⟨(AG AF),trivial⟩ U U (AA ⟨U,?_⟩)
     exact AI (by exact AB U) (AL (by kernel_rfl) ((hA23 _ _ _).1 A23_02345)) rfl)
   have A23_034:A23 7 (bm 10 25) ⟨44,AM [(1,(i64 p1)),(2,(i64 p2)),(3,Ax),(6,CD),(9,Jg),(27,(Fq p0)),(28,(Hx p0)),(29,(i64 t9)),(33,(.ptr 0 0 0 2)),(36,(i64 p1)),(37,(i64 p2))],[(I6 p0 f3 l10),(Dx l10),HG,(Tj c19.op c19.num c19.kids)]⟩:=(hA23 _ _ _).2 (by
    refine Af [1,2] U (by kernel_rfl) (by decide) ⟨?_,?_,trivial⟩
    ·refine A3.of (i:=1) rfl U (by rfl) ?_
     refine zq tb U (AA ⟨U,?_⟩)
     exact AI (by exact AB U) (AL (by kernel_rfl) ((hA23 _ _ _).1 A23_0134)) rfl
    ·refine A3.of (i:=2) rfl U (by rfl) ?_
     refine zq tb U (AA ⟨U,?_⟩)
     exact AI (by exact Ai [0,1,2] U (by decide) rfl U (.raw U U (.deep (AG AF) (.raw U U .nil))) (.same U)) (AL (by kernel_rfl) ((hA23 _ _ _).1 A23_0234)) rfl)
   have A23_23456:A23 5 (bm 10 124) ⟨44,AM [(1,(i64 p1)),(2,(i64 p2)),(3,Ax),(6,CD),(27,(Fq p0)),(28,(Hx p0)),(29,(i64 t9)),(39,(.own 3 0 1))],[(I6 p0 f3 l10),(Dx l10),HG,(MD q20),(BP q20)]⟩:=(hA23 _ _ _).2 (by
    refine Af [0] U (by kernel_rfl) (by decide) ⟨?_,trivial⟩
    ·refine A3.of (i:=0) rfl U (by rfl) ?_
     refine zq tb U (AA ⟨U,?_⟩)
     exact AI (by exact AB U) (AL (by kernel_rfl) ((hA23 _ _ _).1 A23_023456)) rfl)
   have A23_2345:A23 6 (bm 10 60) ⟨44,AM [(1,(i64 p1)),(2,(i64 p2)),(3,Ax),(6,CD),(27,(Fq p0)),(28,(Hx p0)),(29,(i64 t9)),(38,(.agg (J8 q20)))],[(I6 p0 f3 l10),(Dx l10),HG,(BP q20)]⟩:=(hA23 _ _ _).2 (by
    refine Af [0,6] U (by kernel_rfl) (by decide) ⟨?_,?_,trivial⟩
    ·refine A3.of (i:=0) rfl U (by rfl) ?_
     refine zq tb U (AA ⟨U,?_⟩)
     exact AI (by exact AB U) (AL (by kernel_rfl) ((hA23 _ _ _).1 A23_02345)) rfl
    ·refine A3.of (i:=6) rfl U (by rfl) ?_
     refine Bb (m:=4) (l:=[()]) (enc:=fun _=>(J8 q20)) Aj A2 (by decide) rfl U U U U U ?_
     refine AA ⟨U,?_⟩
     exact AI (by exact BM (L:=[(1,(i64 p1)),(2,(i64 p2)),(3,Ax),(6,CD),(27,(Fq p0)),(28,(Hx p0)),(29,(i64 t9)),(39,(.own 3 0 1))]) (st':=[(I6 p0 f3 l10),(Dx l10),HG,(MD q20),(BP q20)]) (st1:=[(I6 p0 f3 l10),(Dx l10),HG,⟨0,44,3,[(J8 q20)]⟩,(BP q20)]) [0,1,2,4,3] U .nil (by decide) rfl U (.raw U U (.deep (AG AF) (.raw U U (.raw U U (.deep (AG AF) .nil))))) (.same U)) (AL (by kernel_rfl) ((hA23 _ _ _).1 A23_23456)) rfl)
   have A23_234:A23 7 (bm 10 28) ⟨44,AM [(1,(i64 p1)),(2,(i64 p2)),(3,Ax),(6,CD),(27,(Fq p0)),(28,(Hx p0)),(29,(i64 t9)),(35,(B8 c19)),(36,(i64 p1)),(37,(i64 p2))],[(I6 p0 f3 l10),(Dx l10),HG]⟩:=(hA23 _ _ _).2 (by
    refine Af [0,5] U (by kernel_rfl) (by decide) ⟨?_,?_,trivial⟩
    ·refine A3.of (i:=0) rfl U (by rfl) ?_
     refine zq tb U (AA ⟨U,?_⟩)
     exact AI (by exact AB U) (AL (by kernel_rfl) ((hA23 _ _ _).1 A23_0234)) rfl
    ·refine A3.of (i:=5) rfl U (by rfl) ?_
     refine BW (v':=(.agg (J8 q20))) Aj V2 (hrec_impl_shifted gq20) rfl U ⟨(AG AF),trivial⟩ U U (AA ⟨U,?_⟩)
     exact AI (by exact AB U) (AL (by kernel_rfl) ((hA23 _ _ _).1 A23_2345)) rfl)
   have A23_34:A23 8 (bm 10 24) ⟨44,AM [(1,(i64 p1)),(2,(i64 p2)),(3,Ax),(6,CD),(9,Jg),(27,(Fq p0)),(28,(Hx p0)),(29,(i64 t9)),(36,(i64 p1)),(37,(i64 p2))],[(I6 p0 f3 l10),(Dx l10),HG,(Tj c19.op c19.num c19.kids)]⟩:=(hA23 _ _ _).2 (by
    refine Af [0,2] U (by kernel_rfl) (by decide) ⟨?_,?_,trivial⟩
    ·refine A3.of (i:=0) rfl U (by rfl) ?_
     refine zq tb U (AA ⟨U,?_⟩)
     exact AI (by exact AB U) (AL (by kernel_rfl) ((hA23 _ _ _).1 A23_034)) rfl
    ·refine A3.of (i:=2) rfl U (by rfl) ?_
     refine zq tb U (AA ⟨U,?_⟩)
     exact AI (by exact Ai [0,1,2] U (by decide) rfl U (.raw U U (.deep (AG AF) (.raw U U .nil))) (.same U)) (AL (by kernel_rfl) ((hA23 _ _ _).1 A23_234)) rfl)
   have A23_3:A23 9 (bm 10 8) ⟨44,AM [(1,(i64 p1)),(2,(i64 p2)),(3,Ax),(6,CD),(9,Jg),(27,(Fq p0)),(28,(Hx p0)),(29,(i64 t9)),(36,(i64 p1))],[(I6 p0 f3 l10),(Dx l10),HG,(Tj c19.op c19.num c19.kids)]⟩:=(hA23 _ _ _).2 (by
    refine Bn 4 (v:=(i64 p2)) rfl U (by kernel_rfl) (by kernel_rfl) (by kernel_rfl) rfl (CO U) ?_
    exact AI (by exact AB U) (AL (by kernel_rfl) ((hA23 _ _ _).1 A23_34)) rfl)
   have A23_e:A23 10 (bm 10 0) ⟨44,AM [(1,(i64 p1)),(2,(i64 p2)),(3,Ax),(6,CD),(9,Jg),(27,(Fq p0)),(28,(Hx p0)),(29,(i64 t9))],[(I6 p0 f3 l10),(Dx l10),HG,(Tj c19.op c19.num c19.kids)]⟩:=(hA23 _ _ _).2 (by
    refine Bn 3 (v:=(i64 p1)) rfl U (by kernel_rfl) (by kernel_rfl) (by kernel_rfl) rfl (CO U) ?_
    exact AI (by exact AB U) (AL (by kernel_rfl) ((hA23 _ _ _).1 A23_3)) rfl)
   refine (hA23 _ _ _).2 ?_
   exact AI (by exact BM (L:=[(1,(i64 p1)),(2,(i64 p2)),(3,Ax),(6,CD),(9,Jg),(27,(Fq p0)),(28,(Hx p0)),(29,(i64 t9))]) (st':=[(I6 p0 f3 l10),(Dx l10),HG,(Tj c19.op c19.num c19.kids)]) (st1:=[⟨0,44,3,[[(i64 p0.op),(i64 f3),(ow 2 0 l10)]]⟩,(Dx l10),HG,(Tj c19.op c19.num c19.kids)]) [0,2,1,3] U .nil (by decide) rfl U (.raw U U (.deep (AG AF) (.raw U U (.raw U U .nil)))) (.same U)) (AL (by kernel_rfl) ((hA23 _ _ _).1 A23_e)) rfl
  ·intro b16 h1
   exact A0 (M12 l10 (Sh.AE h1).symm _ (AB U))
 refine AJ fun K24 hK24=>bs h1 fun o26 h2 h1=>?_
 have M26 :∀(t25:Bool),o26=t25→∀s,Wk 0 s ⟨44,AM [(1,(i64 p1)),(2,(i64 p2)),(3,Ax),(6,Ao),(18,(.bool t25))],[(Tj p0.op p0.num p0.kids),HG]⟩→K24 s:=by
  intro t25 hq s hw
  subst o26
  try dsimp only at h1
  refine hK24 _ (Aa hw ?_)
  refine ci h1 U ?_ ?_ <;> clear h1
  ·intro b27 h1
   exact AR U (zm tb 5 U (BI Aj Em U U U U U U (show 1+1≤3 by decide) rfl (AA (M4 (Sh.w (p0.num+p2)) (Sh.AE h1).symm _ (AB U)))))
  ·intro b27 h1
   exact AN (M4 p0.num (Sh.AE h1).symm _ (AB U))
 refine AR U (zm tb 4 U ?_)
 rcases Sh.Az h2 with ⟨b28,h2⟩ | ⟨b28,h2⟩
 ·refine zg tb b28 U ?_
  iterate 3 refine zg tb b28 rfl ?_
  exact zt b28 U (AA (M26 (decide (p1≤p0.num)) (Sh.AE h2).symm _ (AB U)))
 ·refine zs b28 U ?_
  iterate 3 refine zs b28 rfl ?_
  exact zf b28 U (AA (M26 false (Sh.AE h2).symm _ (AB U)))

theorem OE {N:Nat} :∀(n:Nat),∀{p0:AK} {p1:Int} {p2:Int} {r:AK},Ed N n p0 p1 p2=some r→Ak Tryz.prog 41 [(B8 p0),(i64 p1),(i64 p2)] [] (fun v st=>v=(.agg (KI r))∧st=[(BP r)]):=by
 intro n
 induction n with
 | zero=>intro p0 p1 p2 r h0;cases h0
 | succ n ih=>
  intro p0 p1 p2 r h0
  rw[Ed] at h0
  exact N3 (fun h=>ih h) h0
theorem PY {N:Nat} :∀{p0:AK} {p1:Int} {p2:Int} {r:AK},Kf N p0 p1 p2=some r→Ak Tryz.prog 41 [(B8 p0),(i64 p1),(i64 p2)] [] (fun v st=>v=(.agg (KI r))∧st=[(BP r)]):=by
 intro p0 p1 p2 r h0
 exact OE N h0
theorem J3 {N:Nat} {p0:AK} {r:AK} (h0:GW N p0=some r):Ak Tryz.prog 104 [(B8 p0)] [] (fun v st=>v=(.agg (KI r))∧st=[(BP r)]):=by
 unfold GW at h0
 refine Ak.wk (r0:=(.agg (KI r))) (st0:=[(BP r),⟨0,44,3,[(KI r)]⟩]) ?_ (FD (L:=[(0,(.agg (KI r)))]) (st':=[(BP r)]) [0] U (by decide) rfl U (.deep (AG AF) trivial) (.same U))
 refine ai Tryz.func104 U U U U (sr U fun K1 hK1=>BY (m:=0) Aj U U U U U (A7 (m:=1) Aj Ik U U (dn hK1 U (sr U fun K2 hK2=>zq tb U (bs h0 fun q3 gq3 h0=>BW (v':=(.agg [(i64 q3.op),(i64 q3.num),(ow 2 0 q3.kids)])) Aj V2 (PY gq3) rfl U ⟨(AG AF),trivial⟩ U U (BI Aj Bz U U U U U U (show 0+3≤3 by decide) rfl (dn hK2 U ?_)))))))
 replace h0:=Sh.AE h0
 subst r
 exact AP (Exists.intro _ (And.intro ((BM (L:=[(2,Ao)]) (st':=[(BP q3),⟨0,44,3,[(KI q3)]⟩]) (st1:=[(BP q3),⟨0,44,3,[[(i64 q3.op),(i64 q3.num),(ow 2 0 q3.kids)]]⟩]) [2,1] U .nil (by decide) rfl U (.deep (AG AF) (.raw U U .nil)) (.same U)).trans (Ab (L:=[(2,Ao)]) (.same U))) (A8 (x:=.tmp 2) (off:=0) (cs:=(KI q3)) (vs:=(KI q3)) Bz U U U (show 0+3≤3 by decide) rfl _ ⟨U,U⟩)))
theorem MF {N:Nat} {p0:Ag} {r:Ag} (h0:FM N p0=some r):Ak Tryz.prog 55 [(Gn p0)] [] (fun v st=>v=(.agg [(ow 0 0 r.decls),(ow 1 0 r.funcs)])∧st=[(ro 0 81 3 (Ae 111 3) r.decls),(NV r)]):=by
 unfold FM at h0
 refine Ak.wk (r0:=(.agg [(ow 0 0 r.decls),(ow 1 0 r.funcs)])) (st0:=[(ro 0 81 3 (Ae 111 3) r.decls),(NV r),⟨0,30,2,[[(ow 0 0 r.decls),(ow 1 0 r.funcs)]]⟩]) ?_ (FD (L:=[(0,(.agg [(ow 0 0 r.decls),(ow 1 0 r.funcs)]))]) (st':=[(ro 0 81 3 (Ae 111 3) r.decls),(NV r)]) [0,1] U (by decide) rfl U (.deep (AG fun _=>U) (.deep (AG fun _=>U) trivial)) (.same U))
 refine ai Tryz.func55 U U U U (sr U fun K1 hK1=>BY (m:=0) Aj U U U U U (Al (Wk.Ey (L:=[(1,(DI p0))]) (st':=[⟨1,30,2,[]⟩]) (id:=0) rfl (show 0≤0 by decide) (Fa U) (.same U) rfl) (A7 (m:=1) Aj HK U U (dn hK1 U (sr U fun K2 hK2=>zm tb 2 U (bs h0 fun q3 gq3 h0=>BW (v':=(ow 2 0 q3)) Aj Zj (Cl.MC gq3) rfl U ⟨(AG fun _=>U),trivial⟩ U U (zz (.agg [(ow 2 0 q3),.zc]) (FX RH RN HK U U) rfl (A7 (m:=3) Aj HK U U ?_))))))))
 refine BI Aj FE U U U U U U (show 0+2≤2 by decide) rfl (dn hK2 U (AJ fun K4 hK4=>sr U fun K5 hK5=>zm tb 2 U (zl tb U U (zq tb U (dn hK5 U (bs h0 fun o9 h1 h0=>?_))))))
 have M9 :∀(l8:(List Av)),o9=l8→∀s,Wk 0 s ⟨33,AM [(2,Ax),(3,CD)],[Ia,(Ei q3),⟨0,30,2,[[(ow 1 0 q3),(ow 3 0 l8)]]⟩,(CV l8)]⟩→K4 s:=by
  intro l8 hq s hw
  subst o9
  try dsimp only at h0
  refine hK4 _ (Aa hw (sr U fun K10 hK10=>zq tb U (BI Aj FE U U U U U U (show 0+2≤2 by decide) rfl (dn hK10 U ?_))))
  replace h0:=Sh.AE h0
  subst r
  exact AP (Exists.intro _ (And.intro ((BM (L:=[(2,CD)]) (st':=(Wu q3 l8)) (st1:=[(Ei q3),(CV l8),⟨0,30,2,[[(ow 1 0 q3),(ow 3 0 l8)]]⟩]) [1,3,0] U .nil (by decide) rfl U (.deep (AG fun _=>U) (.deep (AG fun _=>U) (.raw U U .nil))) (.same U)).trans (Ab (L:=[(2,CD)]) (.same U))) (A8 (x:=.tmp 2) (off:=0) (cs:=[(ow 0 0 q3),(ow 1 0 l8)]) (vs:=[(ow 0 0 q3),(ow 1 0 l8)]) FE U U U (show 0+2≤2 by decide) rfl _ ⟨U,U⟩)))
 refine Ac (Aw (σ:=Int×(List Av)) (fun n v=>CI N p0 n v.1 v.2=some o9) (fun (t6,l7)=>⟨33,AM [(2,Ax),(3,CD),(11,(Ie p0)),(12,(i64 (Sh.len p0.funcs))),(13,(i64 t6))],[Ia,(Ei q3),⟨0,30,2,[[(ow 1 0 q3),(ow 3 0 l7)]]⟩,(CV l7)]⟩) N (0,[]) h1 (by refine Wk.trans (GS (id:=3) (st':=[⟨1,30,2,[]⟩,Ia,(Ei q3),⟨0,30,2,[[(ow 2 0 q3),(.own 4 0 (List.length ([]:List Av)))]]⟩,TH]) (j:=1) rfl U 48 (size':=5) (by decide) rfl U U U) ?_;exact BM (L:=[(2,Ax),(3,CD),(11,(Ie p0)),(12,(i64 (Sh.len p0.funcs))),(13,(i64 0))]) (st':=[Ia,(Ei q3),⟨0,30,2,[[(ow 1 0 q3),Wd]]⟩,TH]) (st1:=[Ia,(Ei q3),⟨0,30,2,[[(ow 2 0 q3),(.own 4 0 (List.length ([]:List Av)))]]⟩,TH]) [1,2,3,4] U .nil (by decide) rfl U (.raw U U (.deep (AG fun _=>U) (.raw U U (.deep (AG fun _=>U) .nil)))) (.same U)) (fun _ hv=>by rw[CI] at hv;cases hv) ?_)
 rintro n ⟨t6,l7⟩ h1
 try dsimp only at h1 ⊢
 rw[CI] at h1
 refine zr tb U U (AJ fun K12 hK12=>?_)
 refine ci h1 U ?_ ?_ <;> clear h1
 ·intro b13 h1
  refine AN (hK12 _ (AJ fun K14 hK14=>Ac (sr U fun K15 hK15=>bs h1 fun c16 gc16 h1=>zx CQ gc16 U U U (zq tb U (A7 (m:=4) Aj Mu U U (BI Aj O9 U U U U U U (show 0+5≤5 by decide) rfl (Al (Wk.Ey (L:=[(2,Ax),(3,CD),(5,(.B1 (Q4 c16) 0)),(11,(Ie p0)),(12,(i64 (Sh.len p0.funcs))),(13,(i64 t6))]) (st':=[Ia,(Ei q3),⟨0,30,2,[[(ow 1 0 q3),(ow 3 0 l7)]]⟩,(CV l7),⟨1,48,5,[]⟩]) (id:=4) rfl (show 0≤4 by decide) (Fa U) (.same U) rfl) (dn hK15 U ?_))))))))
  refine Mv (by kernel_rfl) ?_
  refine bs h1 fun q17 gq17 h1=>bs h1 fun q18 gq18 h1=>bs h1 fun l19 gl19 h1=>?_
  refine Rk (f':=15) (listed':=(bm 15 0)) rfl (by kernel_rfl) ?_
  refine CR 0 (v:=(.ptr 2 0 0 1)) rfl U (by kernel_rfl) (by kernel_rfl) (by kernel_rfl) rfl (D4 (G4 Oc U U (show 0+1≤2 by decide) rfl)) ?_
  refine CR 2 (v:=(.B1 (Q4 c16) 0)) rfl U (by kernel_rfl) (by kernel_rfl) (by kernel_rfl) rfl (D4 (Lv Yp U U)) ?_
  refine CR 3 (v:=(ls eI c16.params)) rfl U (by kernel_rfl) (by kernel_rfl) (by kernel_rfl) rfl (OC HM U U) ?_
  refine CR 5 (v:=(.B1 (Q4 c16) 1)) rfl U (by kernel_rfl) (by kernel_rfl) (by kernel_rfl) rfl (D4 (Lv YK U U)) ?_
  refine CR 6 (v:=(i64 c16.result)) rfl U (by kernel_rfl) (by kernel_rfl) (by kernel_rfl) rfl (OC Em U U) ?_
  refine CR 7 (v:=(.B1 (Q4 c16) 2)) rfl U (by kernel_rfl) (by kernel_rfl) (by kernel_rfl) rfl (D4 (Lv YZ U U)) ?_
  refine CR 8 (v:=(Wm c16)) rfl U (by kernel_rfl) (by kernel_rfl) (by kernel_rfl) rfl (UU Bz U (show 2+3≤5 by decide) rfl) ?_
  refine RU (PM fun A21 hA21=>?_)
  have A21_0123456789abcde:A21 0 (bm 15 32767) ⟨33,AM [(2,Ax),(3,Ao),(11,(Ie p0)),(12,(i64 (Sh.len p0.funcs))),(13,(i64 t6))],[Ia,(JS q3 l19),(Ei q3),(CV l19)]⟩:=(hA21 _ _ _).2 (by
   refine OH U (by kernel_rfl) ?_
   refine hK14 _ (AR U (zm tb 2 U ?_))
   exact AA (xi (Sh.w (t6+1),l19) h1 (by exact BM (L:=[(2,Ax),(3,CD),(11,(Ie p0)),(12,(i64 (Sh.len p0.funcs))),(13,(Kn t6))]) (st':=[Ia,(Ei q3),⟨0,30,2,[[(ow 1 0 q3),(ow 3 0 l19)]]⟩,(CV l19)]) (st1:=[Ia,(Ei q3),(JS q3 l19),(CV l19)]) [0,2,1,3] U .nil (by decide) rfl U (.raw U U (.deep (AG fun _=>U) (.raw U U (.deep (AG fun _=>U) .nil)))) (.same U))))
  have A21_0123456789abcd:A21 1 (bm 15 16383) ⟨33,AM [(2,Ax),(3,Ao),(11,(Ie p0)),(12,(i64 (Sh.len p0.funcs))),(13,(i64 t6)),(29,(ow 3 1 l19)),(30,Dr)],[Ia,(JS q3 l7),(Ei q3),(ro 1 48 5 (BK 3 44) l19)]⟩:=(hA21 _ _ _).2 (by
   refine AU [14] U (by kernel_rfl) (by decide) ⟨?_,trivial⟩
   ·refine An.of (i:=14) rfl U (by rfl) ?_
    refine BI Aj Xk U U U U U U (show 1+1≤2 by decide) rfl (AA ⟨U,?_⟩)
    exact AD (by exact Dv (L:=[(2,Ax),(3,Ao),(11,(Ie p0)),(12,(i64 (Sh.len p0.funcs))),(13,(i64 t6))]) (st':=[Ia,(JS q3 l19),(Ei q3),(CV l19)]) (.raw U U (.raw U U (.deep (AG fun _=>U) (.deep (AG fun _=>U) .nil)))) (.same U)) (AH (by kernel_rfl) ((hA21 _ _ _).1 A21_0123456789abcde)) rfl)
  have A21_0123456789abc:A21 2 (bm 15 8191) ⟨33,AM [(2,Ax),(3,Ao),(11,(Ie p0)),(12,(i64 (Sh.len p0.funcs))),(13,(i64 t6)),(29,(ow 3 1 l19))],[Ia,(JS q3 l7),(Ei q3),(ro 1 48 5 (BK 3 44) l19)]⟩:=(hA21 _ _ _).2 (by
   refine AY.hoist 13 (v:=Dr) rfl U (by kernel_rfl) (by kernel_rfl) (by kernel_rfl) rfl (G4 Oc U U (show 0+1≤2 by decide) rfl) ?_
   exact AD (by exact AB U) (AH (by kernel_rfl) ((hA21 _ _ _).1 A21_0123456789abcd)) rfl)
  have A21_0123456789ab:A21 3 (bm 15 4095) ⟨33,AM [(2,Ax),(3,Ao),(11,(Ie p0)),(12,(i64 (Sh.len p0.funcs))),(13,(i64 t6)),(18,(ow 3 0 l7)),(28,(.own 4 0 1))],[Ia,(JS q3 l7),(Ei q3),(CV l7),⟨0,48,5,[[(ow 5 0 q17),(i64 c16.result),(i64 q18.op),(i64 q18.num),(ow 6 0 q18.kids)]]⟩,(BT q17),(BP q18)]⟩:=(hA21 _ _ _).2 (by
   refine AU [12] U (by kernel_rfl) (by decide) ⟨?_,trivial⟩
   ·refine An.of (i:=12) rfl U (by rfl) ?_
    have g22:=Js gl19
    refine Lt (st':=[Ia,(JS q3 l7),(Ei q3),⟨1,48,5,hole l19 (BK 3 44) (Sh.len l7) [(ow 5 0 q17),(i64 c16.result),(i64 q18.op),(i64 q18.num),(ow 6 0 q18.kids)]⟩,⟨0,48,5,[[(ow 5 0 q17),(i64 c16.result),(i64 q18.op),(i64 q18.num),(ow 6 0 q18.kids)]]⟩,(BT q17),(BP q18)]) (c:=(Av.mk q17 c16.result q18)) Aj CQ U U U U U U U gl19 U ?_
    refine Al (Wk.take (id:=3) (m:=5) (j:=0) (i:=Sh.len l7) (c:=(Av.mk q17 c16.result q18)) (ys:=q17) (encY:=eI) rfl g22 U U U (by decide) (show 0≤5 by decide) (fun _=>U) rfl U) ?_
    refine Al (Wk.take (id:=3) (m:=6) (j:=4) (i:=Sh.len l7) (c:=(Av.mk q17 c16.result q18)) (ys:=q18.kids) (encY:=(Ay 44)) rfl g22 U U U (by decide) (show 0≤6 by decide) Co U U) ?_
    refine Al (Ev (id:=3) (i:=Sh.len l7) (c:=(Av.mk q17 c16.result q18)) rfl g22 U U) (AA ⟨U,?_⟩)
    exact AD (by exact Ai [0,1,2,3] U (by decide) rfl U (.raw U U (.raw U U (.deep (AG fun _=>U) (.deep (AG fun _=>U) .nil)))) (.same U)) (AH (by kernel_rfl) ((hA21 _ _ _).1 A21_0123456789abc)) rfl)
  have A21_0123456789a:A21 4 (bm 15 2047) ⟨33,AM [(2,Ax),(3,Ao),(11,(Ie p0)),(12,(i64 (Sh.len p0.funcs))),(13,(i64 t6)),(18,(ow 3 0 l7)),(27,(.agg [(ow 4 0 q17),(i64 c16.result),(i64 q18.op),(i64 q18.num),(ow 5 0 q18.kids)]))],[Ia,(JS q3 l7),(Ei q3),(CV l7),(BT q17),(BP q18)]⟩:=(hA21 _ _ _).2 (by
   refine AU [11] U (by kernel_rfl) (by decide) ⟨?_,trivial⟩
   ·refine An.of (i:=11) rfl U (by rfl) ?_
    refine Bb (m:=6) (l:=[()]) (enc:=fun _=>[(ow 4 0 q17),(i64 c16.result),(i64 q18.op),(i64 q18.num),(ow 5 0 q18.kids)]) Aj CQ (by decide) rfl U U U U U ?_
    refine AA ⟨U,?_⟩
    exact AD (by exact BM (L:=[(2,Ax),(3,Ao),(11,(Ie p0)),(12,(i64 (Sh.len p0.funcs))),(13,(i64 t6)),(18,(ow 3 0 l7)),(28,(.own 4 0 1))]) (st':=[Ia,(JS q3 l7),(Ei q3),(CV l7),⟨0,48,5,[[(ow 5 0 q17),(i64 c16.result),(i64 q18.op),(i64 q18.num),(ow 6 0 q18.kids)]]⟩,(BT q17),(BP q18)]) (st1:=[Ia,(JS q3 l7),(Ei q3),(CV l7),⟨0,48,5,[[(ow 4 0 q17),(i64 c16.result),(i64 q18.op),(i64 q18.num),(ow 5 0 q18.kids)]]⟩,(BT q17),(BP q18)]) [0,1,2,3,6,4,5] U .nil (by decide) rfl U (.raw U U (.raw U U (.deep (AG fun _=>U) (.deep (AG fun _=>U) (.raw U U (.pure (AS fun _=>U) (.deep (AG AF) .nil))))))) (.same U)) (AH (by kernel_rfl) ((hA21 _ _ _).1 A21_0123456789ab)) rfl)
  have A21_0123456789:A21 5 (bm 15 1023) ⟨33,AM [(2,Ax),(3,Ao),(11,(Ie p0)),(12,(i64 (Sh.len p0.funcs))),(13,(i64 t6)),(18,(ow 3 0 l7)),(21,(ow 4 0 q17)),(23,(i64 c16.result)),(26,(.agg (Ht q18)))],[Ia,(JS q3 l7),(Ei q3),(CV l7),(BT q17),(BP q18)]⟩:=(hA21 _ _ _).2 (by
   refine AU [10] U (by kernel_rfl) (by decide) ⟨?_,trivial⟩
   ·refine An.of (i:=10) rfl U (by rfl) ?_
    refine zz (.agg [(ow 4 0 q17),(i64 c16.result),(i64 q18.op),(i64 q18.num),(ow 5 0 q18.kids)]) (FX XT XX Mu U U) rfl (AA ⟨U,?_⟩)
    exact AD (by exact AB U) (AH (by kernel_rfl) ((hA21 _ _ _).1 A21_0123456789a)) rfl)
  have A21_012345678:A21 6 (bm 15 511) ⟨33,AM [(2,Ax),(3,Ao),(11,(Ie p0)),(12,(i64 (Sh.len p0.funcs))),(13,(i64 t6)),(18,(ow 3 0 l7)),(21,(ow 4 0 q17)),(23,(i64 c16.result)),(25,(Wm c16))],[Ia,(JS q3 l7),(Ei q3),(CV l7),(BT q17)]⟩:=(hA21 _ _ _).2 (by
   refine AU [9] U (by kernel_rfl) (by decide) ⟨?_,trivial⟩
   ·refine An.of (i:=9) rfl U (by rfl) ?_
    refine BW (v':=(.agg (Ht q18))) Aj XL (J3 gq18) rfl U ⟨(AG AF),trivial⟩ U U (AA ⟨U,?_⟩)
    exact AD (by exact AB U) (AH (by kernel_rfl) ((hA21 _ _ _).1 A21_0123456789)) rfl)
  have A21_01235678:A21 7 (bm 15 495) ⟨33,AM [(2,Ax),(3,Ao),(11,(Ie p0)),(12,(i64 (Sh.len p0.funcs))),(13,(i64 t6)),(18,(ow 3 0 l7)),(20,(ls eI c16.params)),(23,(i64 c16.result)),(25,(Wm c16))],[Ia,(JS q3 l7),(Ei q3),(CV l7)]⟩:=(hA21 _ _ _).2 (by
   refine AU [4] U (by kernel_rfl) (by decide) ⟨?_,trivial⟩
   ·refine An.of (i:=4) rfl U (by rfl) ?_
    refine BW (v':=(ow 4 0 q17)) Aj LZ (B4 gq17) rfl U ⟨(Br fun _=>U),trivial⟩ U U (AA ⟨U,?_⟩)
    exact AD (by exact AB U) (AH (by kernel_rfl) ((hA21 _ _ _).1 A21_012345678)) rfl)
  have A21_023456789ab:A21 4 (bm 15 4093) ⟨33,AM [(2,Ax),(3,Ao),(11,(Ie p0)),(12,(i64 (Sh.len p0.funcs))),(13,(i64 t6)),(17,Dr),(28,(.own 4 0 1))],[Ia,(JS q3 l7),(Ei q3),(CV l7),⟨0,48,5,[[(ow 5 0 q17),(i64 c16.result),(i64 q18.op),(i64 q18.num),(ow 6 0 q18.kids)]]⟩,(BT q17),(BP q18)]⟩:=(hA21 _ _ _).2 (by
   refine AU [1] U (by kernel_rfl) (by decide) ⟨?_,trivial⟩
   ·refine An.of (i:=1) rfl U (by rfl) ?_
    refine zq tb U (AA ⟨U,?_⟩)
    exact AD (by exact AB U) (AH (by kernel_rfl) ((hA21 _ _ _).1 A21_0123456789ab)) rfl)
  have A21_023456789a:A21 5 (bm 15 2045) ⟨33,AM [(2,Ax),(3,Ao),(11,(Ie p0)),(12,(i64 (Sh.len p0.funcs))),(13,(i64 t6)),(17,Dr),(27,(.agg [(ow 4 0 q17),(i64 c16.result),(i64 q18.op),(i64 q18.num),(ow 5 0 q18.kids)]))],[Ia,(JS q3 l7),(Ei q3),(CV l7),(BT q17),(BP q18)]⟩:=(hA21 _ _ _).2 (by
   refine AU [1,11] U (by kernel_rfl) (by decide) ⟨?_,?_,trivial⟩
   ·refine An.of (i:=1) rfl U (by rfl) ?_
    refine zq tb U (AA ⟨U,?_⟩)
    exact AD (by exact AB U) (AH (by kernel_rfl) ((hA21 _ _ _).1 A21_0123456789a)) rfl
   ·refine An.of (i:=11) rfl U (by rfl) ?_
    refine Bb (m:=6) (l:=[()]) (enc:=fun _=>[(ow 4 0 q17),(i64 c16.result),(i64 q18.op),(i64 q18.num),(ow 5 0 q18.kids)]) Aj CQ (by decide) rfl U U U U U ?_
    refine AA ⟨U,?_⟩
    exact AD (by exact BM (L:=[(2,Ax),(3,Ao),(11,(Ie p0)),(12,(i64 (Sh.len p0.funcs))),(13,(i64 t6)),(17,Dr),(28,(.own 4 0 1))]) (st':=[Ia,(JS q3 l7),(Ei q3),(CV l7),⟨0,48,5,[[(ow 5 0 q17),(i64 c16.result),(i64 q18.op),(i64 q18.num),(ow 6 0 q18.kids)]]⟩,(BT q17),(BP q18)]) (st1:=[Ia,(JS q3 l7),(Ei q3),(CV l7),⟨0,48,5,[[(ow 4 0 q17),(i64 c16.result),(i64 q18.op),(i64 q18.num),(ow 5 0 q18.kids)]]⟩,(BT q17),(BP q18)]) [0,1,2,3,6,4,5] U .nil (by decide) rfl U (.raw U U (.raw U U (.deep (AG fun _=>U) (.deep (AG fun _=>U) (.raw U U (.pure (AS fun _=>U) (.deep (AG AF) .nil))))))) (.same U)) (AH (by kernel_rfl) ((hA21 _ _ _).1 A21_023456789ab)) rfl)
  have A21_023456789:A21 6 (bm 15 1021) ⟨33,AM [(2,Ax),(3,Ao),(11,(Ie p0)),(12,(i64 (Sh.len p0.funcs))),(13,(i64 t6)),(17,Dr),(21,(ow 4 0 q17)),(23,(i64 c16.result)),(26,(.agg (Ht q18)))],[Ia,(JS q3 l7),(Ei q3),(CV l7),(BT q17),(BP q18)]⟩:=(hA21 _ _ _).2 (by
   refine AU [1,10] U (by kernel_rfl) (by decide) ⟨?_,?_,trivial⟩
   ·refine An.of (i:=1) rfl U (by rfl) ?_
    refine zq tb U (AA ⟨U,?_⟩)
    exact AD (by exact AB U) (AH (by kernel_rfl) ((hA21 _ _ _).1 A21_0123456789)) rfl
   ·refine An.of (i:=10) rfl U (by rfl) ?_
    refine zz (.agg [(ow 4 0 q17),(i64 c16.result),(i64 q18.op),(i64 q18.num),(ow 5 0 q18.kids)]) (FX XT XX Mu U U) rfl (AA ⟨U,?_⟩)
    exact AD (by exact AB U) (AH (by kernel_rfl) ((hA21 _ _ _).1 A21_023456789a)) rfl)
  have A21_02345678:A21 7 (bm 15 509) ⟨33,AM [(2,Ax),(3,Ao),(11,(Ie p0)),(12,(i64 (Sh.len p0.funcs))),(13,(i64 t6)),(17,Dr),(21,(ow 4 0 q17)),(23,(i64 c16.result)),(25,(Wm c16))],[Ia,(JS q3 l7),(Ei q3),(CV l7),(BT q17)]⟩:=(hA21 _ _ _).2 (by
   refine AU [1,9] U (by kernel_rfl) (by decide) ⟨?_,?_,trivial⟩
   ·refine An.of (i:=1) rfl U (by rfl) ?_
    refine zq tb U (AA ⟨U,?_⟩)
    exact AD (by exact AB U) (AH (by kernel_rfl) ((hA21 _ _ _).1 A21_012345678)) rfl
   ·refine An.of (i:=9) rfl U (by rfl) ?_
    refine BW (v':=(.agg (Ht q18))) Aj XL (J3 gq18) rfl U ⟨(AG AF),trivial⟩ U U (AA ⟨U,?_⟩)
    exact AD (by exact AB U) (AH (by kernel_rfl) ((hA21 _ _ _).1 A21_023456789)) rfl)
  have A21_0235678:A21 8 (bm 15 493) ⟨33,AM [(2,Ax),(3,Ao),(11,(Ie p0)),(12,(i64 (Sh.len p0.funcs))),(13,(i64 t6)),(17,Dr),(20,(ls eI c16.params)),(23,(i64 c16.result)),(25,(Wm c16))],[Ia,(JS q3 l7),(Ei q3),(CV l7)]⟩:=(hA21 _ _ _).2 (by
   refine AU [1,4] U (by kernel_rfl) (by decide) ⟨?_,?_,trivial⟩
   ·refine An.of (i:=1) rfl U (by rfl) ?_
    refine zq tb U (AA ⟨U,?_⟩)
    exact AD (by exact AB U) (AH (by kernel_rfl) ((hA21 _ _ _).1 A21_01235678)) rfl
   ·refine An.of (i:=4) rfl U (by rfl) ?_
    refine BW (v':=(ow 4 0 q17)) Aj LZ (B4 gq17) rfl U ⟨(Br fun _=>U),trivial⟩ U U (AA ⟨U,?_⟩)
    exact AD (by exact AB U) (AH (by kernel_rfl) ((hA21 _ _ _).1 A21_02345678)) rfl)
  refine (hA21 _ _ _).2 ?_
  exact AD (by exact BM (L:=[(2,Ax),(3,Ao),(11,(Ie p0)),(12,(i64 (Sh.len p0.funcs))),(13,(i64 t6)),(17,Dr),(20,(ls eI c16.params)),(23,(i64 c16.result)),(25,(Wm c16))]) (st':=[Ia,(JS q3 l7),(Ei q3),(CV l7)]) (st1:=[Ia,⟨0,30,2,[[(ow 1 0 q3),(ow 3 0 l7)]]⟩,(Ei q3),(CV l7)]) [0,2,1,3] U .nil (by decide) rfl U (.raw U U (.raw U U (.deep (AG fun _=>U) (.deep (AG fun _=>U) .nil)))) (.same U)) (AH (by kernel_rfl) ((hA21 _ _ _).1 A21_0235678)) rfl
 ·intro b13 h1
  exact A0 (M9 l7 (Sh.AE h1).symm _ (AB U))
end Go.Proofs.YtpahalfiiahddaaGreat

