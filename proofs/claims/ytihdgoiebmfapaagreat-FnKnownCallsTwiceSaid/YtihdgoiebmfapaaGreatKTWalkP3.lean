import Derived.Test.YtihdgoiebmfapaaGreatKTWalkP2
set_option linter.all false
namespace Go.Proofs.YtihdgoiebmfapaaGreat
open Go Go.Abs RC
attribute [local irreducible] Go.Abs.Dy
set_option maxRecDepth 100000
set_option maxHeartbeats 4000000
theorem LD {N:Nat}{lN:(List Int)->BL->AG->Option (Int)}(lS :∀{s0:(List Int)} {p0:BL} {p2:AG} {r:Int},lN s0 p0 p2=some r->Ac Tryz.prog 81 [Jc p0,ow 0 0 s0,Bh p2] [Bi s0] (λv st=>v=(i64 r)/\st=[Bi s0])){s0:(List Int)}{p0:BL}{p2:AG}{r:Int}(h0:Ak N lN s0 p0 p2=some r):Ac Tryz.prog 81 [Jc p0,ow 0 0 s0,Bh p2] [Bi s0] (λv st=>v=(i64 r)/\st=[Bi s0]):=by
 unfold Ak at h0;refine ai Tryz.func81 AA AA AA AA (sr AA λK1 q8=>Bt (m:=1) AH AA AA AA AA AA (Bt (m:=2) AH AA AA AA AA AA (zq tb AA (dn q8 AA (AE λK2 q9=>zr tb AA AA (AU (zr tb AA AA ?_)))))));refine ci h0 AA ?_ ?_<;>clear h0<;>intro b5 h0
 ·refine AE λK6 t0=>AE λK7 t1=>bs h0 λo9 d h0=>?_;have M9:∀(t8:Bool),o9=t8->∀s,Wk 1 s ⟨194,Aa [(1,ow 0 0 s0),(5,CV),(36,.bool t8)],[Bi s0,O7 p2.op p2.num p2.kids]⟩->K7 s:=by
   intro t8 hq s hw;subst o9;refine t1 _ (AJ hw ?_);refine ci h0 AA ?_ ?_<;>clear h0<;>intro w5 h0
   ·refine zr tb AA AA ?_;obtain rfl:=Sh.AD h0;exact Ap (xr (AT (L:=[(6,i64 (-1))]) (st':=[Bi s0]) [0] AA (by decide) rfl AA (.pure (AB λ_=>AA) .nil) ⟨.rfl,fa⟩))
   ·refine AL (t0 _ (sr AA λw6 g5=>zm tb 3 AA (bs h0 λg6 c5 h0=>zz (.ptr 0 0 (Int.toNat p2.num) 0) (CC BM AA AA AA AA c5) rfl (zz (i64 g6) (Bp Gp AA AA (CS c5) rfl) rfl (zq tb AA (dn g5 AA ?_))))));obtain rfl:=Sh.AD h0;exact Ap (xr (AT (L:=[(6,i64 g6)]) (st':=[Bi s0]) [0] AA (by decide) rfl AA (.pure (AB λ_=>AA) .nil) ⟨.rfl,fa⟩))
  refine AI AA (zm tb 2 AA (zl tb AA AA (zm tb 2 AA ?_)));rcases Sh.Aj d with ⟨T,d⟩|⟨T,d⟩
  ·refine zs T AA (zs T AA (zs T AA (zt T AA (zq tb AA ?_))));iterate 5 refine zs rfl rfl ?_
   refine zt AA AA ?_;exact AF (M9 true (Sh.AD d).symm _ (AT [0,2] AA (by decide) rfl AA (.pure (AB λ_=>AA) (.raw AA AA .nil)) (.same AA)))
  ·refine zg tb T AA (zg tb T AA (zg tb T AA (zf T AA (zq tb AA ?_))));rcases Sh.Aj d with ⟨O,d⟩|⟨O,d⟩
   ·refine zs O AA ?_;iterate 4 refine zs O rfl ?_
    refine zt O AA ?_;exact AF (M9 true (Sh.AD d).symm _ (AT [0,2] AA (by decide) rfl AA (.pure (AB λ_=>AA) (.raw AA AA .nil)) (.same AA)))
   ·refine zg tb O AA (zg tb O AA (zg tb O AA (BV (v:=(Gx s0)) (CM AA AA O) rfl (Cq Fe AA AA AA) (zg tb O AA (zf O AA ?_)))));exact AF (M9 (decide ((Sh.len s0)<=p2.num)) (Sh.AD d).symm _ (AT [0,2] AA (by decide) rfl AA (.pure (AB λ_=>AA) (.raw AA AA .nil)) (.same AA)))
 ·refine zr tb AA AA ?_;refine ci h0 AA ?_ ?_<;>clear h0<;>intro w7 h0
  ·refine AE λw8 g7=>AE λt2 g8=>bs h0 λg9 d h0=>?_;have h2:∀(d0:Bool),g9=d0->∀s,Wk 1 s ⟨194,Aa [(1,ow 0 0 s0),(3,CV),(5,CK),(52,.bool d0)],Xf s0 p0 p2 []⟩->t2 s:=by
    intro d0 hq s hw;subst g9;refine g8 _ (AJ hw ?_);refine ci h0 AA ?_ ?_<;>clear h0<;>intro w9 h0
    ·refine zr tb AA AA ?_;obtain rfl:=Sh.AD h0;exact Ap (xr (AT (L:=[(6,i64 (-1))]) (st':=[Bi s0]) [0] AA (by decide) rfl AA (.pure (AB λ_=>AA) .nil) ⟨.rfl,fa⟩))
    ·refine AL (g7 _ (AE λA0 h3=>?_));refine Ca (by kernel_rfl) (by kernel_rfl) (by rfl) ?_;iterate 4 refine yq tb rfl ?_
     refine bs h0 λt3 h4 h0=>yz (EE t3) (Co BT AA AA h4 (Al _) rfl) rfl (yq tb AA (bs h0 λg h5 h0=>?_));refine T7 (rowsP:=[Bi s0]) (rows0:=[Bi s0]) (rows1:=[Bi s0]) (rows1':=[Bi s0]) (v':=(i64 g)) [0] AH (hb 81) (lS h5) rfl (by decide) rfl AA (.pure (AB λ_=>AA) .nil) rfl AA (.pure (AB λ_=>AA) .nil) rfl AA ?_;refine yq tb AA (As (h3 _ (AE λA1 h6=>zr tb AA AA ?_)));refine ci h0 AA ?_ ?_<;>clear h0<;>intro A2 h0
     ·refine zr tb AA AA ?_;obtain rfl:=Sh.AD h0;exact Ap (xr (AT (L:=[(6,i64 (-1))]) (st':=[Bi s0]) [0] AA (by decide) rfl AA (.pure (AB λ_=>AA) .nil) ⟨.rfl,fa⟩))
     ·refine AL (h6 _ (AE λA3 c6=>?_));refine HE (by kernel_rfl) ?_;refine bs h0 λf S h0=>bs h0 λh z h0=>bs h0 λb4 c7 h0=>AX.two (Bi s0) (Bi f) λpG qH a e=>?_;have p:qH 0 (bm 11 2047) ⟨194,Aa [(6,i64 b4)],[Bi f]⟩:=(e _ _ _).2 (by
       refine HI AA (by kernel_rfl) ⟨⟨_,AA⟩,?_⟩;refine c6 _ ?_;obtain rfl:=Sh.AD h0;exact Ap (Exists.intro _ (And.intro (Ag (L:=[(6,i64 b4)]) (.same AA)) (And.intro AA AA))))
      have b:qH 2 (bm 11 511) ⟨194,Aa [(62,Jc p0),(66,ow 0 0 f),(70,Bh h)],[Bi f]⟩:=(e _ _ _).2 (by
       refine xa [9] ⟨?_,fa⟩
       ·refine xo 9 ?_;refine CF (rows0:=[Bi f]) (rows1:=[Bi f]) (st':=[Bi f]) (v':=(i64 b4)) [0] AH (hb 81) (lS c7) rfl (by decide) rfl AA (.pure (AB λ_=>AA) .nil) rfl AA (.pure (AB λ_=>AA) .nil) .nil AA AA ?_;refine AF ⟨AA,?_⟩;refine BQ tb 10 AA (by kernel_rfl) rfl ?_;exact xt e p)
      have P:qH 5 (bm 11 63) ⟨194,Aa [(62,Jc p0),(66,ow 0 0 f),(67,.ptr 1 0 0 2)],[Bi f,O7 p2.op p2.num p2.kids]⟩:=(e _ _ _).2 (by
       refine BQ tb 6 AA (by kernel_rfl) rfl ?_;refine Gm 7 (v:=(EE h)) rfl (by kernel_rfl) (by kernel_rfl) (Co BT AA AA z (Al _) rfl) ?_;refine BQ tb 8 AA (by kernel_rfl) rfl ?_;exact xw e b (by exact AT [0] AA (by decide) rfl AA (.pure (AB λ_=>AA) .nil) (.same AA)))
      have q:pG 0 (bm 11 2047) ⟨194,Aa [(6,i64 b4)],[Bi s0]⟩:=(a _ _ _).2 (by
       refine HI AA (by kernel_rfl) ?_;refine c6 _ ?_;obtain rfl:=Sh.AD h0;exact Ap (Exists.intro _ (And.intro (Ag (L:=[(6,i64 b4)]) (.same AA)) (And.intro AA AA))))
      have c:pG 2 (bm 11 511) ⟨194,Aa [(62,Jc p0),(66,ow 1 0 f),(70,Bh h)],[Bi s0,Bi f]⟩:=(a _ _ _).2 (by
       refine xa [9] ⟨?_,fa⟩
       ·refine xo 9 ?_;refine CF (rows0:=[Bi f]) (rows1:=[Bi f]) (st':=[Bi s0,Bi f]) (v':=(i64 b4)) [1] AH (hb 81) (lS c7) rfl (by decide) rfl AA (.pure (AB λ_=>AA) .nil) rfl AA (.pure (AB λ_=>AA) .nil) .nil AA AA ?_;refine AF ⟨AA,?_⟩;refine BQ tb 10 AA (by kernel_rfl) rfl ?_;exact xw a q (by exact AT [0] AA (by decide) rfl AA (.pure (AB λ_=>AA) .nil) (.same AA)))
      have Q:pG 5 (bm 11 63) ⟨194,Aa [(62,Jc p0),(66,ow 1 0 f),(67,.ptr 2 0 0 2)],[Bi s0,Bi f,O7 p2.op p2.num p2.kids]⟩:=(a _ _ _).2 (by
       refine BQ tb 6 AA (by kernel_rfl) rfl ?_;refine Gm 7 (v:=(EE h)) rfl (by kernel_rfl) (by kernel_rfl) (Co BT AA AA z (Al _) rfl) ?_;refine BQ tb 8 AA (by kernel_rfl) rfl ?_;exact xw a c (by exact AT [0,1] AA (by decide) rfl AA (.pure (AB λ_=>AA) (.pure (AB λ_=>AA) .nil)) (.same AA)))
      have C:qH 3 (bm 11 255) ⟨194,Aa [(62,Jc p0),(66,ow 0 0 f),(69,EE h)],[Bi f]⟩:=(e _ _ _).2 (by
       refine BQ tb 8 AA (by kernel_rfl) rfl ?_;exact xt e b)
      have D:pG 3 (bm 11 255) ⟨194,Aa [(62,Jc p0),(66,ow 1 0 f),(69,EE h)],[Bi s0,Bi f]⟩:=(a _ _ _).2 (by
       refine BQ tb 8 AA (by kernel_rfl) rfl ?_;exact xt a c)
      have k:pG 3 (bm 11 495) ⟨194,Aa [(62,Jc p0),(63,ow 0 0 s0),(65,ow 1 0 [g]),(70,Bh h)],[Bi s0,ro 0 3 1 eI [g]]⟩:=(a _ _ _).2 (by
       refine xa [4] ⟨?_,fa⟩
       ·refine Jk (l:=s0) (l2:=[g]) (l':=f) rfl AA BM (Hh (AB λ_=>AA) (λ_ hq=>nomatch hq)) rfl AA AA (Gr AA AA) rfl (λ_=>AA) (λ_=>(AB λ_=>AA)) S ?_ ?_
        ·exact xw e b (by exact AT [0] AA (by decide) rfl AA (.pure (AB λ_=>AA) .nil) (.same AA))
        ·exact xw a c (by exact AT [0,2] AA (by decide) rfl AA (.pure (AB λ_=>AA) (.pure (AB λ_=>AA) .nil)) (.same AA)))
      have o:pG 4 (bm 11 239) ⟨194,Aa [(62,Jc p0),(63,ow 0 0 s0),(65,ow 1 0 [g]),(69,EE h)],[Bi s0,ro 0 3 1 eI [g]]⟩:=(a _ _ _).2 (by
       refine xa [4,8] ⟨?_,?_,fa⟩
       ·refine Jk (l:=s0) (l2:=[g]) (l':=f) rfl AA BM (Hh (AB λ_=>AA) (λ_ hq=>nomatch hq)) rfl AA AA (Gr AA AA) rfl (λ_=>AA) (λ_=>(AB λ_=>AA)) S ?_ ?_
        ·exact xw e C (by exact AT [0] AA (by decide) rfl AA (.pure (AB λ_=>AA) .nil) (.same AA))
        ·exact xw a D (by exact AT [0,2] AA (by decide) rfl AA (.pure (AB λ_=>AA) (.pure (AB λ_=>AA) .nil)) (.same AA))
       ·exact xq tb a k)
      have G:pG 6 (bm 11 47) ⟨194,Aa [(62,Jc p0),(63,ow 0 0 s0),(65,ow 1 0 [g]),(67,.ptr 2 0 0 2)],[Bi s0,ro 0 3 1 eI [g],O7 p2.op p2.num p2.kids]⟩:=(a _ _ _).2 (by
       refine xa [4,6] ⟨?_,?_,fa⟩
       ·refine Jk (l:=s0) (l2:=[g]) (l':=f) rfl AA BM (Hh (AB λ_=>AA) (Hh (ED AA) (λ_ hq=>nomatch hq))) rfl AA AA (Gr AA AA) rfl (λ_=>AA) (λ_=>(AB λ_=>AA)) S ?_ ?_
        ·exact xw e P (by exact AT [0,2] AA (by decide) rfl AA (.pure (AB λ_=>AA) (.raw AA AA .nil)) (.same AA))
        ·exact xw a Q (by exact AT [0,3,2] AA (by decide) rfl AA (.pure (AB λ_=>AA) (.pure (AB λ_=>AA) (.raw AA AA .nil))) (.same AA))
       ·refine xo 6 ?_;refine zq tb AA (AF ⟨AA,?_⟩);refine Gm 7 (v:=(EE h)) rfl (by kernel_rfl) (by kernel_rfl) (Co BT AA AA z (Al _) rfl) ?_;exact xw a o (by exact AT [0,1] AA (by decide) rfl AA (.pure (AB λ_=>AA) (.pure (AB λ_=>AA) .nil)) (.same AA)))
      have t:pG 4 (bm 11 487) ⟨194,Aa [(62,Jc p0),(63,ow 0 0 s0),(64,i64 g),(70,Bh h)],[Bi s0]⟩:=(a _ _ _).2 (by
       refine xa [3] ⟨?_,fa⟩
       ·refine xo 3 ?_;refine BD (m:=1) (l:=[g]) (enc:=eI) AH BM (by decide) rfl AA AA AA AA AA ?_;exact xd a k)
      have A:pG 5 (bm 11 231) ⟨194,Aa [(62,Jc p0),(63,ow 0 0 s0),(64,i64 g),(69,EE h)],[Bi s0]⟩:=(a _ _ _).2 (by
       refine xa [3,8] ⟨?_,?_,fa⟩
       ·refine xo 3 ?_;refine BD (m:=1) (l:=[g]) (enc:=eI) AH BM (by decide) rfl AA AA AA AA AA ?_;exact xd a o
       ·exact xq tb a t)
      have b6:pG 7 (bm 11 39) ⟨194,Aa [(62,Jc p0),(63,ow 0 0 s0),(64,i64 g),(67,.ptr 1 0 0 2)],[Bi s0,O7 p2.op p2.num p2.kids]⟩:=(a _ _ _).2 (by
       refine xa [3,6] ⟨?_,?_,fa⟩
       ·refine xo 3 ?_;refine BD (m:=2) (l:=[g]) (enc:=eI) AH BM (by decide) rfl AA AA AA AA AA ?_;exact MZ a G (by exact AT [0,2,1] AA (by decide) rfl AA (.pure (AB λ_=>AA) (.pure (AB λ_=>AA) (.raw AA AA .nil))) (.same AA))
       ·refine xo 6 ?_;refine zq tb AA (AF ⟨AA,?_⟩);refine Gm 7 (v:=(EE h)) rfl (by kernel_rfl) (by kernel_rfl) (Co BT AA AA z (Al _) rfl) ?_;exact xw a A (by exact AT [0] AA (by decide) rfl AA (.pure (AB λ_=>AA) .nil) (.same AA)))
      have U:qH 6 (bm 11 62) ⟨194,Aa [(3,CV),(66,ow 0 0 f),(67,.ptr 2 0 0 2)],Xf f p0 p2 []⟩:=(e _ _ _).2 (by
       refine BQ tb 0 AA (by kernel_rfl) rfl ?_;refine BQ tb 6 AA (by kernel_rfl) rfl ?_;refine Gm 7 (v:=(EE h)) rfl (by kernel_rfl) (by kernel_rfl) (Co BT AA AA z (Al _) rfl) ?_;refine BQ tb 8 AA (by kernel_rfl) rfl ?_;exact xw e b (by exact AT [0] AA (by decide) rfl AA (.pure (AB λ_=>AA) .nil) (.same AA)))
      have V:pG 6 (bm 11 62) ⟨194,Aa [(3,CV),(66,ow 2 0 f),(67,.ptr 3 0 0 2)],[Bi s0,LF p0,Bi f,O7 p2.op p2.num p2.kids]⟩:=(a _ _ _).2 (by
       refine BQ tb 0 AA (by kernel_rfl) rfl ?_;refine BQ tb 6 AA (by kernel_rfl) rfl ?_;refine Gm 7 (v:=(EE h)) rfl (by kernel_rfl) (by kernel_rfl) (Co BT AA AA z (Al _) rfl) ?_;refine BQ tb 8 AA (by kernel_rfl) rfl ?_;exact xw a c (by exact AT [0,2] AA (by decide) rfl AA (.pure (AB λ_=>AA) (.pure (AB λ_=>AA) .nil)) (.same AA)))
      have H:qH 4 (bm 11 254) ⟨194,Aa [(3,CV),(66,ow 0 0 f),(69,EE h)],[Bi f,LF p0]⟩:=(e _ _ _).2 (by
       refine BQ tb 0 AA (by kernel_rfl) rfl ?_;refine BQ tb 8 AA (by kernel_rfl) rfl ?_;exact xw e b (by exact AT [0] AA (by decide) rfl AA (.pure (AB λ_=>AA) .nil) (.same AA)))
      have I:pG 4 (bm 11 254) ⟨194,Aa [(3,CV),(66,ow 2 0 f),(69,EE h)],[Bi s0,LF p0,Bi f]⟩:=(a _ _ _).2 (by
       refine BQ tb 0 AA (by kernel_rfl) rfl ?_;refine BQ tb 8 AA (by kernel_rfl) rfl ?_;exact xw a c (by exact AT [0,2] AA (by decide) rfl AA (.pure (AB λ_=>AA) (.pure (AB λ_=>AA) .nil)) (.same AA)))
      have E:qH 3 (bm 11 510) ⟨194,Aa [(3,CV),(66,ow 0 0 f),(70,Bh h)],[Bi f,LF p0]⟩:=(e _ _ _).2 (by
       refine BQ tb 0 AA (by kernel_rfl) rfl ?_;exact xw e b (by exact AT [0] AA (by decide) rfl AA (.pure (AB λ_=>AA) .nil) (.same AA)))
      have F:pG 3 (bm 11 510) ⟨194,Aa [(3,CV),(66,ow 2 0 f),(70,Bh h)],[Bi s0,LF p0,Bi f]⟩:=(a _ _ _).2 (by
       refine BQ tb 0 AA (by kernel_rfl) rfl ?_;exact xw a c (by exact AT [0,2] AA (by decide) rfl AA (.pure (AB λ_=>AA) (.pure (AB λ_=>AA) .nil)) (.same AA)))
      have x:pG 4 (bm 11 494) ⟨194,Aa [(3,CV),(63,ow 0 0 s0),(65,ow 2 0 [g]),(70,Bh h)],[Bi s0,LF p0,ro 0 3 1 eI [g]]⟩:=(a _ _ _).2 (by
       refine xa [0,4] ⟨?_,?_,fa⟩
       ·refine xo 0 ?_;exact zq tb AA (MZ a k (by exact AT [0,2] AA (by decide) rfl AA (.pure (AB λ_=>AA) (.pure (AB λ_=>AA) .nil)) (.same AA)))
       ·refine Jk (l:=s0) (l2:=[g]) (l':=f) rfl AA BM (Hh (ED AA) (Hh (AB λ_=>AA) (λ_ hq=>nomatch hq))) rfl AA AA (Gr AA AA) rfl (λ_=>AA) (λ_=>(AB λ_=>AA)) S ?_ ?_
        ·exact xw e E (by exact AT [0,1] AA (by decide) rfl AA (.pure (AB λ_=>AA) (.raw AA AA .nil)) (.same AA))
        ·exact xw a F (by exact AT [0,1,3] AA (by decide) rfl AA (.pure (AB λ_=>AA) (.raw AA AA (.pure (AB λ_=>AA) .nil))) (.same AA)))
      have B:pG 5 (bm 11 238) ⟨194,Aa [(3,CV),(63,ow 0 0 s0),(65,ow 2 0 [g]),(69,EE h)],[Bi s0,LF p0,ro 0 3 1 eI [g]]⟩:=(a _ _ _).2 (by
       refine xa [0,4,8] ⟨?_,?_,?_,fa⟩
       ·refine xo 0 ?_;exact zq tb AA (MZ a o (by exact AT [0,2] AA (by decide) rfl AA (.pure (AB λ_=>AA) (.pure (AB λ_=>AA) .nil)) (.same AA)))
       ·refine Jk (l:=s0) (l2:=[g]) (l':=f) rfl AA BM (Hh (ED AA) (Hh (AB λ_=>AA) (λ_ hq=>nomatch hq))) rfl AA AA (Gr AA AA) rfl (λ_=>AA) (λ_=>(AB λ_=>AA)) S ?_ ?_
        ·exact xw e H (by exact AT [0,1] AA (by decide) rfl AA (.pure (AB λ_=>AA) (.raw AA AA .nil)) (.same AA))
        ·exact xw a I (by exact AT [0,1,3] AA (by decide) rfl AA (.pure (AB λ_=>AA) (.raw AA AA (.pure (AB λ_=>AA) .nil))) (.same AA))
       ·exact xq tb a x)
      have b7:pG 7 (bm 11 46) ⟨194,Aa [(3,CV),(63,ow 0 0 s0),(65,ow 2 0 [g]),(67,.ptr 3 0 0 2)],[Bi s0,LF p0,ro 0 3 1 eI [g],O7 p2.op p2.num p2.kids]⟩:=(a _ _ _).2 (by
       refine xa [0,4,6] ⟨?_,?_,?_,fa⟩
       ·refine xo 0 ?_;exact zq tb AA (MZ a G (by exact AT [0,2,3] AA (by decide) rfl AA (.pure (AB λ_=>AA) (.pure (AB λ_=>AA) (.raw AA AA .nil))) (.same AA)))
       ·refine Jk (l:=s0) (l2:=[g]) (l':=f) rfl AA BM (Hh (ED AA) (Hh (AB λ_=>AA) (Hh (ED AA) (λ_ hq=>nomatch hq)))) rfl AA AA (Gr AA AA) rfl (λ_=>AA) (λ_=>(AB λ_=>AA)) S ?_ ?_
        ·exact xw e U (by exact AT [0,1,3] AA (by decide) rfl AA (.pure (AB λ_=>AA) (.raw AA AA (.raw AA AA .nil))) (.same AA))
        ·exact xw a V (by exact AT [0,1,4,3] AA (by decide) rfl AA (.pure (AB λ_=>AA) (.raw AA AA (.pure (AB λ_=>AA) (.raw AA AA .nil)))) (.same AA))
       ·refine xo 6 ?_;refine zq tb AA (AF ⟨AA,?_⟩);refine Gm 7 (v:=(EE h)) rfl (by kernel_rfl) (by kernel_rfl) (Co BT AA AA z (Al _) rfl) ?_;exact xw a B (by exact AT [0,1,2] AA (by decide) rfl AA (.pure (AB λ_=>AA) (.raw AA AA (.pure (AB λ_=>AA) .nil))) (.same AA)))
      have Y:pG 5 (bm 11 486) ⟨194,Aa [(3,CV),(63,ow 0 0 s0),(64,i64 g),(70,Bh h)],[Bi s0,LF p0]⟩:=(a _ _ _).2 (by
       refine xa [0,3] ⟨?_,?_,fa⟩
       ·refine xo 0 ?_;exact zq tb AA (MZ a t (by exact AT [0] AA (by decide) rfl AA (.pure (AB λ_=>AA) .nil) (.same AA)))
       ·refine xo 3 ?_;refine BD (m:=2) (l:=[g]) (enc:=eI) AH BM (by decide) rfl AA AA AA AA AA ?_;exact xd a x)
      have b1:pG 6 (bm 11 230) ⟨194,Aa [(3,CV),(63,ow 0 0 s0),(64,i64 g),(69,EE h)],[Bi s0,LF p0]⟩:=(a _ _ _).2 (by
       refine xa [0,3,8] ⟨?_,?_,?_,fa⟩
       ·refine xo 0 ?_;exact zq tb AA (MZ a A (by exact AT [0] AA (by decide) rfl AA (.pure (AB λ_=>AA) .nil) (.same AA)))
       ·refine xo 3 ?_;refine BD (m:=2) (l:=[g]) (enc:=eI) AH BM (by decide) rfl AA AA AA AA AA ?_;exact xd a B
       ·exact xq tb a Y)
      have b9:pG 8 (bm 11 38) ⟨194,Aa [(3,CV),(63,ow 0 0 s0),(64,i64 g),(67,.ptr 2 0 0 2)],Xf s0 p0 p2 []⟩:=(a _ _ _).2 (by
       refine xa [0,3,6] ⟨?_,?_,?_,fa⟩
       ·refine xo 0 ?_;exact zq tb AA (MZ a b6 (by exact AT [0,2] AA (by decide) rfl AA (.pure (AB λ_=>AA) (.raw AA AA .nil)) (.same AA)))
       ·refine xo 3 ?_;refine BD (m:=3) (l:=[g]) (enc:=eI) AH BM (by decide) rfl AA AA AA AA AA ?_;exact MZ a b7 (by exact AT [0,1,3,2] AA (by decide) rfl AA (.pure (AB λ_=>AA) (.raw AA AA (.pure (AB λ_=>AA) (.raw AA AA .nil)))) (.same AA))
       ·refine xo 6 ?_;refine zq tb AA (AF ⟨AA,?_⟩);refine Gm 7 (v:=(EE h)) rfl (by kernel_rfl) (by kernel_rfl) (Co BT AA AA z (Al _) rfl) ?_;exact xw a b1 (by exact AT [0,1] AA (by decide) rfl AA (.pure (AB λ_=>AA) (.raw AA AA .nil)) (.same AA)))
      refine (a _ _ _).2 ?_;refine BQ tb 1 AA (by kernel_rfl) rfl ?_;refine BQ tb 2 AA (by kernel_rfl) rfl ?_;refine BQ tb 5 AA (by kernel_rfl) rfl ?_;exact xt a b9
   refine AI AA (zm tb 2 AA (zl tb AA AA (zm tb 2 AA ?_)));rcases Sh.Aj d with ⟨W,d⟩|⟨W,d⟩
   ·exact zs W AA (zs W AA (zs W AA (zt W AA (AF (h2 true (Sh.AD d).symm _ (AK AA))))))
   ·exact zg tb W AA (zg tb W AA (zg tb W AA (zf W AA (AF (h2 (!decide (p2.num=0)) (Sh.AD d).symm _ (AK AA))))))
  ·refine zr tb AA AA ?_;refine ci h0 AA ?_ ?_<;>clear h0<;>intro A4 h0
   ·refine AE λA5 h7=>AE λt4 h8=>bs h0 λh9 d h0=>?_;have d1:∀(d2:Bool),h9=d2->∀s,Wk 1 s ⟨194,Aa [(1,ow 0 0 s0),(3,CV),(5,CK),(92,.bool d2)],Xf s0 p0 p2 []⟩->t4 s:=by
     intro d2 hq s hw;subst h9;refine h8 _ (AJ hw ?_);refine ci h0 AA ?_ ?_<;>clear h0<;>intro A6 h0
     ·refine zr tb AA AA ?_;obtain rfl:=Sh.AD h0;exact Ap (xr (AT (L:=[(6,i64 (-1))]) (st':=[Bi s0]) [0] AA (by decide) rfl AA (.pure (AB λ_=>AA) .nil) ⟨.rfl,fa⟩))
     ·refine AL (h7 _ (AE λA7 k0=>?_));refine Cz 7 (by kernel_rfl) (by kernel_rfl) (by rfl) ?_;iterate 4 refine yq tb rfl ?_
      refine bs h0 λA8 k1 h0=>YL (i:=1) (j:=Sh.len p2.kids) AH BT AA AA AA DJ k1 (bs h0 λA9 k2 h0=>eo (enc:=(eS eI)) (u:=[]) AH Md AA AA AA k2 (AB λ_=>AA) (bs h0 λk3 k4 h0=>Xa (v':=(i64 k3)) AH (hb 112) (IN lS k4) rfl (.val AA (.own AA AA (λ_=>AA) (.val AA (.val AA .nil)))) rfl AA (As (zq tb AA (dn k0 AA ?_)))));obtain rfl:=Sh.AD h0;exact Ap (xr (AT (L:=[(6,i64 k3)]) (st':=[Bi s0]) [0] AA (by decide) rfl AA (.pure (AB λ_=>AA) .nil) ⟨.rfl,fa⟩))
    refine Ca (by kernel_rfl) (by kernel_rfl) (by rfl) ?_;iterate 2 refine yq tb rfl ?_
    refine yl tb AA AA ?_;iterate 2 refine yq tb rfl ?_
    rcases Sh.Aj d with ⟨b2,d⟩|⟨b2,d⟩
    ·refine ys b2 AA ?_;iterate 2 refine ys b2 rfl ?_
     refine yt b2 AA (yq tb AA ?_);iterate 8 refine ys rfl rfl ?_
     exact yt AA AA (As (d1 true (Sh.AD d).symm _ (AK AA)))
    ·refine yg tb b2 AA ?_;iterate 2 refine yg tb b2 rfl ?_
     refine yf b2 AA (yq tb AA ?_);rcases Sh.Aj d with ⟨J,d⟩|⟨J,d⟩
     ·refine ys J AA ?_;iterate 7 refine ys J rfl ?_
      exact yt J AA (As (d1 true (Sh.AD d).symm _ (AK AA)))
     ·refine yg tb J AA ?_;iterate 3 refine yg tb J rfl ?_
      refine bs d λt5 k5 d=>HQ (v:=(EE t5)) (CM AA AA J) rfl (Co BT AA AA k5 (Al _) rfl) (yg tb J AA (bs d λk6 k7 d=>?_));refine T7 (rowsP:=[Bi s0]) (rows0:=[Bi s0]) (rows1:=[Bi s0]) (rows1':=[Bi s0]) (v':=(i64 k6)) [0] (CM AA AA J) (hb 81) (lS k7) rfl (by decide) rfl AA (.pure (AB λ_=>AA) .nil) rfl AA (.pure (AB λ_=>AA) .nil) rfl AA ?_;exact yg tb J AA (yf J AA (As (d1 (!decide (k6=0)) (Sh.AD d).symm _ (AK AA))))
   ·refine zr tb AA AA ?_;refine ci h0 AA ?_ ?_<;>clear h0<;>intro B0 h0
    ·refine sr AA λB1 k8=>zm tb 4 AA (bs h0 λy k9 h0=>CD (v':=(ow 3 0 y)) AH (hb 66) (N9 k9) rfl AA ⟨(By λ_=>AA),fa⟩ AA AA (zq tb AA (dn k8 AA (AE λB2 l0=>AE λt6 l1=>bs h0 λl3 d h0=>?_))));have d3:∀(d4:Bool),l3=d4->∀s,Wk 1 s ⟨194,Aa [(1,ow 0 0 s0),(3,CV),(5,CK),(8,ow 3 0 y),(130,.bool d4)],Xf s0 p0 p2 [Bi y]⟩->t6 s:=by
      intro d4 hq s hw;subst l3;refine l1 _ (AJ hw ?_);refine ci h0 AA ?_ ?_<;>clear h0<;>intro B3 h0
      ·refine zr tb AA AA ?_;obtain rfl:=Sh.AD h0;exact Ap (xr (AT (L:=[(6,i64 (-1))]) (st':=[Bi s0]) [0] AA (by decide) rfl AA (.pure (AB λ_=>AA) .nil) ⟨.rfl,fa⟩))
      ·refine AL (l0 _ (sr AA λB4 l4=>zq tb AA (zz (Gx y) (Cq Fe AA AA AA) rfl (bs h0 λt7 l5 h0=>XT (m:=4) (enc:=(eS eI)) (u:=[]) AH Md AA AA AA l5 AA AA (zq tb AA (dn l4 AA (AE λt9 l6=>sr AA λB5 l7=>zq tb AA (zz (Gx y) (Cq Fe AA AA AA) rfl ?_))))))));refine zq tb AA (dn l7 AA (bs h0 λd5 d h0=>?_));have v0:∀(c4:(List (List Int))),d5=c4->∀s,Wk 1 s ⟨194,Aa [(1,ow 0 0 s0),(3,CV),(5,CK),(9,ow 3 0 c4)],Xf s0 p0 p2 [ro 0 32 1 (eS eI) c4]⟩->t9 s:=by
        intro c4 hq s hw;subst d5;refine l6 _ (AJ hw (AE λB6 l8=>?_));refine Cz 7 (by kernel_rfl) (by kernel_rfl) (by rfl) ?_;iterate 4 refine yq tb rfl ?_
        refine bs h0 λB7 l9 h0=>YL (i:=1) (j:=Sh.len p2.kids) AH BT AA AA AA DJ l9 (yq tb AA (bs h0 λm0 m1 h0=>Xa (v':=(i64 m0)) AH (hb 112) (IN lS m1) rfl (.val AA (.own AA AA (λ_=>AA) (.val AA (.own AA AA (λ_=>AA) .nil)))) rfl AA (As (zq tb AA (dn l8 AA ?_)))));obtain rfl:=Sh.AD h0;exact Ap (xr (AT (L:=[(6,i64 m0)]) (st':=[Bi s0]) [0] AA (by decide) rfl AA (.pure (AB λ_=>AA) .nil) ⟨.rfl,fa⟩))
       refine AU (Av (σ:=Int×(List (List Int))) (λn v=>CA N p0 y n v.1 v.2=some d5) (λ(Z,b8)=>⟨194,Aa [(1,ow 0 0 s0),(3,.ptr 1 0 0 0),(5,.ptr 2 0 0 0),(9,ow 4 0 b8),(134,ow 3 0 y),(135,i64 (Sh.len y)),(136,i64 Z)],[ro 0 3 1 eI s0,⟨0,99,2,[F4 p0]⟩,O7 p2.op p2.num p2.kids,ro 0 3 1 eI y,ro 0 32 1 (eS eI) b8]⟩) N (0,t7) d (AK AA) (λ_ hv=>by rw[CA]at hv;cases hv) ?_);rintro n ⟨Z,b8⟩ d;rw[CA]at d;refine zr tb AA AA (AE λB8 m2=>?_);refine ci d AA ?_ ?_<;>clear d<;>intro B9 d
       ·refine AL (m2 _ (AE λC0 m3=>AU (sr AA λC1 m4=>zq tb AA (bs d λv1 c8 d=>zz (T3 Z) (CC BM AA AA AA AA c8) rfl (zz (i64 v1) (Bp Gp AA AA (CS c8) rfl) rfl (zm tb 2 AA (dn m4 AA (AI AA (zm tb 5 AA ?_)))))))));refine bs d λd6 m5 d=>zc (hb 92) (MC m5) rfl AA AA (bs d λC2 c9 d=>zz (.ptr 4 0 (Int.toNat Z) 0) (CC Md AA AA AA AA c9) rfl (J5 (u':=d6) AH JD AA AA c9 AA AA AA kW rfl AA (dn m3 AA (AI AA (zm tb 2 AA ?_)))));exact AF (xi (Sh.w (Z+1),Sh.put b8 Z d6) d (Ag (L:=[(1,.own 0 0 (List.length s0)),(3,.ptr 1 0 0 0),(5,.ptr 2 0 0 0),(9,.own 4 0 (List.length (Sh.put b8 Z d6))),(134,.own 3 0 (List.length y)),(135,i64 (Sh.len y)),(136,i64 (Sh.w (Z+1)))]) ⟨.rfl,.rfl,.rfl,(.len (by simp only[Sh.GP])),.rfl,.rfl,.rfl,fa⟩))
       ·exact BB (v0 b8 (Sh.AD d).symm _ (AT [0,1,2,4] AA (by decide) rfl AA (.pure (AB λ_=>AA) (.raw AA AA (.raw AA AA (.pure (AB λ_=>AA) .nil)))) (.same AA)))
     refine Ca (by kernel_rfl) (by kernel_rfl) (by rfl) ?_;refine yq tb AA (yz (Gx y) (Cq Fe AA AA AA) rfl ?_);iterate 2 refine yq tb rfl ?_
     rcases Sh.Aj d with ⟨K,d⟩|⟨K,d⟩
     ·refine ys K AA ?_;iterate 6 refine ys K rfl ?_
      refine yt K AA (yq tb AA ?_);iterate 10 refine ys rfl rfl ?_
      exact yt AA AA (As (d3 true (Sh.AD d).symm _ (AK AA)))
     ·refine yg tb K AA (yg tb K AA (HQ (v:=(Wg p2)) (CM AA AA K) rfl (Ch Qc AA) (yg tb K AA (HQ (v:=(Gx y)) (CM AA AA K) rfl (Cq Fe AA AA AA) ?_))));iterate 2 refine yg tb K rfl ?_
      refine yf K AA (yq tb AA ?_);rcases Sh.Aj d with ⟨M,d⟩|⟨M,d⟩
      ·refine ys M AA ?_;iterate 9 refine ys M rfl ?_
       exact yt M AA (As (d3 true (Sh.AD d).symm _ (AK AA)))
      ·refine yg tb M AA ?_;iterate 3 refine yg tb M rfl ?_
       refine bs d λv2 m6 d=>HQ (v:=(EE v2)) (CM AA AA M) rfl (Co BT AA AA m6 (Al _) rfl) (yg tb M AA (bs d λm7 m8 d=>?_));refine T7 (rowsP:=[Bi s0]) (rows0:=[Bi s0]) (rows1:=[Bi s0]) (rows1':=[Bi s0]) (v':=(i64 m7)) [0] (CM AA AA M) (hb 81) (lS m8) rfl (by decide) rfl AA (.pure (AB λ_=>AA) .nil) rfl AA (.pure (AB λ_=>AA) .nil) rfl AA ?_;iterate 3 refine yg tb M rfl ?_
       exact yf M AA (As (d3 (!decide (m7=p2.num)) (Sh.AD d).symm _ (AK AA)))
    ·refine AL (q9 _ (sr AA λC3 m9=>zm tb 2 AA (zl tb AA AA (bs h0 λv3 q0 h0=>XT (m:=3) (enc:=eI) (u:=0) AH BM AA AA AA q0 AA AA (zq tb AA (dn m9 AA (AE λv4 q1=>sr AA λC4 q2=>zm tb 2 AA (zl tb AA AA ?_))))))));refine zq tb AA (dn q2 AA ?_);obtain⟨d7,d,h0⟩:=Sh.Bl h0;have v5:∀(c0:(List Int)),d7=Sum.inr c0->∀s,Wk 1 s ⟨194,Aa [(3,CV),(5,CK),(12,ow 3 0 c0)],Xf s0 p0 p2 [Bi c0]⟩->v4 s:=by
      intro c0 hq s hw;subst d7;refine q1 _ (AJ hw (sr AA λC5 q3=>zm tb 6 AA (AR (Wk.BJ (L:=[(182,.agg (F4 p0)),(184,i64 p2.op),(186,i64 p2.num),(187,ls eI c0)]) (st':=[ro 0 3 1 eI s0,⟨0,99,2,[F4 p0]⟩,O7 p2.op p2.num p2.kids,⟨1,3,1,[]⟩]) (id:=3) rfl kt (AB λ_=>AA) ⟨.rfl,.rfl,.rfl,.BJ AA,fa⟩ AA) (bs h0 λc1 q4 h0=>zc (v':=(.Dm [i64 c1.1,.bool c1.2])) (hb 113) (KX q4) rfl AA AA (zm tb 5 AA (dn q3 AA (AE λC6 q5=>zr tb AA AA ?_)))))));refine ci h0 AA ?_ ?_<;>clear h0<;>intro q6 h0
      ·have C7:c1.2=false:=by simpa using q6
       refine zr tb AA AA ?_;obtain rfl:=Sh.AD h0;exact Ap (xr (AT (L:=[(6,i64 (-1))]) (st':=[Bi s0]) [0] AA (by decide) rfl AA (.pure (AB λ_=>AA) .nil) ⟨.rfl,fa⟩))
      ·have v6:c1.2=true:=by simpa using q6
       refine AL (q5 _ (zr tb AA AA ?_));obtain rfl:=Sh.AD h0;exact Ap (xr (AT (L:=[(6,i64 c1.1)]) (st':=[Bi s0]) [0] AA (by decide) rfl AA (.pure (AB λ_=>AA) .nil) ⟨.rfl,fa⟩))
     refine AU (Av (σ:=Int×(List Int)) (λn v=>Bz s0 p0 p2 lN n v.1 v.2=some d7) (λ(R,X)=>⟨194,Aa [(1,ow 0 0 s0),(3,.ptr 1 0 0 0),(5,.ptr 2 0 0 0),(12,ow 3 0 X),(161,ls Az p2.kids),(162,i64 (Sh.len p2.kids)),(163,i64 R)],[ro 0 3 1 eI s0,⟨0,99,2,[F4 p0]⟩,O7 p2.op p2.num p2.kids,ro 0 3 1 eI X]⟩) N (0,v3) d (AK AA) (λ_ hv=>by rw[Bz]at hv;cases hv) ?_);rintro n ⟨R,X⟩ d;rw[Bz]at d;refine zr tb AA AA (AE λv7 d8=>?_);refine ci d AA ?_ ?_<;>clear d<;>intro v8 d
     ·refine AL (d8 _ (AE λv9 d9=>AU (sr AA λw0 g0=>zq tb AA (bs d λb3 g1 d=>zz (EE b3) (Co BT AA AA g1 (Al _) rfl) rfl (zq tb AA (Au (m:=4) AH EB AA AA (zq tb AA (Ao AH BG AA AA AA AA AA AA kS rfl (dn g0 AA ?_)))))))));refine sr AA λw1 g2=>zm tb 5 AA (bs d λb0 g3 d=>?_);refine CF (rows0:=[Bi s0]) (rows1:=[Bi s0]) (st':=(Xf s0 p0 p2 [Bi X,O7 b3.op b3.num b3.kids])) (v':=(i64 b0)) [0] AH (hb 81) (lS g3) rfl (by decide) rfl AA (.pure (AB λ_=>AA) .nil) rfl AA (.pure (AB λ_=>AA) .nil) .nil AA AA ?_;refine bs d λw2 c2 d=>zz (T3 R) (CC BM AA AA AA AA c2) rfl (J5 (u':=b0) AH Gp AA AA c2 AA AA AA kW rfl AA (dn g2 AA (sr AA λw3 g4=>zm tb 2 AA (bs d λq7 c3 d=>?_))));refine zz (.ptr 3 0 (Int.toNat R) 0) (CC BM AA AA AA (by simp only[Sh.GP]) c3) rfl ?_;refine zz (i64 q7) (Bp Gp AA AA (CS c3) rfl) rfl (zq tb AA (dn g4 AA ?_));refine ci d AA ?_ ?_<;>clear d<;>intro w4 d
      ·refine zr tb AA AA ?_;obtain rfl:=Sh.AD d;obtain rfl:=Sh.AD h0;exact Ap (xr (AT (L:=[(6,i64 (-1))]) (st':=[Bi s0]) [0] AA (by decide) rfl AA (.pure (AB λ_=>AA) .nil) ⟨.rfl,fa⟩))
      ·refine AL (d9 _ (AI AA (zm tb 2 AA ?_)));exact AF (xi (Sh.w (R+1),Sh.put X R b0) d (by refine Wk.trans (AT (L:=[(1,.own 0 0 (List.length s0)),(3,.ptr 1 0 0 0),(5,.ptr 2 0 0 0),(12,.own 3 0 (List.length X)),(161,.sl (List.map Az p2.kids)),(162,i64 (Sh.len p2.kids)),(163,i64 (Sh.w (R+1)))]) (st':=[⟨0,3,1,List.map eI s0⟩,⟨0,99,2,[F4 p0]⟩,⟨0,35,3,[[i64 p2.op,i64 p2.num,.sl (List.map Az p2.kids)]]⟩,⟨0,3,1,List.map eI (Sh.put X R b0)⟩]) [0,1,2,3] AA (by decide) rfl AA (.pure (AB λ_=>AA) (.raw AA AA (.raw AA AA (.pure (AB λ_=>AA) .nil)))) ⟨.rfl,.rfl,.rfl,.rfl,.rfl,.rfl,.rfl,fa⟩) ?_;exact Ag (L:=[(1,.own 0 0 (List.length s0)),(3,.ptr 1 0 0 0),(5,.ptr 2 0 0 0),(12,.own 3 0 (List.length (Sh.put X R b0))),(161,.sl (List.map Az p2.kids)),(162,i64 (Sh.len p2.kids)),(163,i64 (Sh.w (R+1)))]) ⟨.rfl,.rfl,.rfl,(.len (by simp only[Sh.GP])),.rfl,.rfl,.rfl,fa⟩))
     ·exact BB (v5 X (Sh.AD d).symm _ (AK AA))
theorem Ky {N:Nat}:∀(n:Nat),∀{s0:(List Int)} {p0:BL} {p2:AG} {r:Int},BY N n s0 p0 p2=some r->Ac Tryz.prog 81 [Jc p0,ow 0 0 s0,Bh p2] [Bi s0] (λv st=>v=(i64 r)/\st=[Bi s0]):=by
 intro n
 induction n with
 | zero=>intro s0 p0 p2 r a;cases a
 | succ n ih=>
  intro s0 p0 p2 r a;rw[BY]at a;exact LD (λh=>ih h) a
theorem Lx {N:Nat}:∀{s0:(List Int)} {p0:BL} {p2:AG} {r:Int},Ha N s0 p0 p2=some r->Ac Tryz.prog 81 [Jc p0,ow 0 0 s0,Bh p2] [Bi s0] (λv st=>v=(i64 r)/\st=[Bi s0]):=by
 intro s0 p0 p2 r a;exact Ky N a
theorem Sv {N:Nat}{p0:AP}{p1:(List Int)}{p2:AG}{r:Int}(h0:LR N p0 p1 p2=some r):Ac Tryz.prog 48 [JL p0,ls eI p1,Bh p2] [] (λv st=>v=(i64 r)/\st=[]):=by
 unfold LR at h0;refine ai Tryz.func48 AA AA AA AA (sr AA λJ x=>Bt (m:=0) AH AA AA AA AA AA (Bt (m:=1) AH AA AA AA AA AA (zq tb AA (dn x AA (AE λK y=>AE λF z=>bs h0 λE g h0=>?_)))));have A:∀(B:Bool),E=B->∀s,Wk 0 s ⟨28,Aa [(1,ls eI p1),(3,BI),(5,CV),(21,.bool B)],[⟨0,26,2,[Yk p0]⟩,O7 p2.op p2.num p2.kids]⟩->F s:=by
  intro B hq s G;subst E;refine z _ (AJ G ?_);refine ci h0 AA ?_ ?_<;>clear h0<;>intro M h0
  ·refine zr tb AA AA ?_;obtain rfl:=Sh.AD h0;exact rd [(6,i64 (-1))]
  ·refine AL (y _ (AE λO C=>?_));refine HE (by kernel_rfl) ?_;refine bs h0 λo p h0=>bs h0 λh l h0=>bs h0 λn q h0=>Jh λpH a=>?_;have e:pH 0 (bm 7 127) ⟨28,Aa [(6,i64 n)],[]⟩:=(a _ _ _).2 (by
    refine HI AA (by kernel_rfl) ?_;refine C _ ?_;obtain rfl:=Sh.AD h0;exact Ap (Exists.intro _ (And.intro (Ag (L:=[(6,i64 n)]) (.same AA)) (And.intro AA AA))))
   have b:pH 2 (bm 7 31) ⟨28,Aa [(23,Jc o),(25,ow 0 0 h),(26,Bh p2)],[Bi h]⟩:=(a _ _ _).2 (by
    refine xa [5] ⟨?_,fa⟩
    ·refine xo 5 ?_;refine CF (rows0:=[Bi h]) (rows1:=[Bi h]) (st':=[Bi h]) (v':=(i64 n)) [0] AH (hb 81) (Lx q) rfl (by decide) rfl AA (.pure (AB λ_=>AA) .nil) rfl AA (.pure (AB λ_=>AA) .nil) .nil AA AA ?_;refine AF ⟨AA,?_⟩;refine BQ tb 6 AA (by kernel_rfl) rfl ?_;exact xw a e (by exact AT [] AA (by decide) rfl AA .nil (.same AA)))
   have d:pH 3 (bm 7 23) ⟨28,Aa [(23,Jc o),(24,ls eI p1),(26,Bh p2)],[]⟩:=(a _ _ _).2 (by
    refine xa [3] ⟨?_,fa⟩
    ·refine xo 3 ?_;exact CD (v':=(ow 0 0 h)) AH (hb 82) (Cj l) rfl AA ⟨(By λ_=>AA),fa⟩ AA AA (xd a b))
   have i:pH 4 (bm 7 7) ⟨28,Aa [(5,BI),(23,Jc o),(24,ls eI p1)],[O7 p2.op p2.num p2.kids]⟩:=(a _ _ _).2 (by
    refine xa [3,4] ⟨?_,?_,fa⟩
    ·refine xo 3 ?_;refine CD (v':=(ow 1 0 h)) AH (hb 82) (Cj l) rfl AA ⟨(By λ_=>AA),fa⟩ AA AA (AF ⟨AA,?_⟩);refine BQ tb 4 AA (by kernel_rfl) rfl ?_;exact xw a b (by exact AT [1] AA (by decide) rfl AA (.pure (AB λ_=>AA) .nil) (.same AA))
    ·refine xo 4 ?_;exact zq tb AA (MZ a d (by exact AT [] AA (by decide) rfl AA .nil (.same AA))))
   have j:pH 4 (bm 7 21) ⟨28,Aa [(22,JL p0),(24,ls eI p1),(26,Bh p2)],[]⟩:=(a _ _ _).2 (by
    refine xa [1] ⟨?_,fa⟩
    ·refine xo 1 ?_;exact zc (v':=(Jc o)) (hb 80) (N6 p) rfl AA AA (xd a d))
   have k:pH 5 (bm 7 5) ⟨28,Aa [(5,BI),(22,JL p0),(24,ls eI p1)],[O7 p2.op p2.num p2.kids]⟩:=(a _ _ _).2 (by
    refine xa [1,4] ⟨?_,?_,fa⟩
    ·refine xo 1 ?_;exact zc (v':=(Jc o)) (hb 80) (N6 p) rfl AA AA (xd a i)
    ·refine xo 4 ?_;exact zq tb AA (MZ a j (by exact AT [] AA (by decide) rfl AA .nil (.same AA))))
   refine (a _ _ _).2 ?_;refine BQ tb 0 AA (by kernel_rfl) rfl ?_;refine BQ tb 2 AA (by kernel_rfl) rfl ?_;exact xw a k (by exact AT [1] AA (by decide) rfl AA (.raw AA AA .nil) (.same AA))
 refine AI AA (zq tb AA (bs g λH t g=>zc (hb 47) (Lg t) rfl AA AA (zm tb 2 AA ?_)));rcases Sh.Aj g with ⟨f,g⟩|⟨f,g⟩
 ·refine zs f AA (zs f AA (zs f AA (zt f AA (zq tb AA ?_))));iterate 5 refine zs rfl rfl ?_
  exact zt AA AA (AF (A true (Sh.AD g).symm _ (AK AA)))
 ·refine zg tb f AA (bs g λI u g=>zd f (hb 12) (I3 u) rfl AA AA AA (zg tb f AA (zf f AA (zq tb AA ?_))));rcases Sh.Aj g with ⟨c,g⟩|⟨c,g⟩
  ·refine zs c AA ?_;iterate 4 refine zs c rfl ?_
   exact zt c AA (AF (A true (Sh.AD g).symm _ (AK AA)))
  ·exact zg tb c AA (zg tb c AA (zg tb c AA (bs g λD w g=>zd c (hb 79) (J8 w) rfl AA AA AA (zg tb c AA (zf c AA (AF (A (!D) (Sh.AD g).symm _ (AK AA))))))))
theorem OP {N:Nat}{p0:AP}{r:Bool}(h0:Eg N p0=some r):Ac Tryz.prog 22 [JL p0] [] (λv st=>v=(.bool r)/\st=[]):=by
 unfold Eg at h0;refine ai Tryz.func22 AA AA AA AA (sr AA λM p=>Bt (m:=0) AH AA AA AA AA AA (zq tb AA (dn p AA (AE λO q=>sr AA λP t=>zq tb AA (bs h0 λz u h0=>zc (hb 47) (Lg u) rfl AA AA (zq tb AA (dn t AA ?_)))))));refine ci h0 AA ?_ ?_<;>clear h0<;>intro A h0
 ·have Q:z=false:=by simpa using A
  refine zr tb AA AA ?_;obtain rfl:=Sh.AD h0;exact rd [(2,.bool false)]
 ·have R:z=true:=by simpa using A
  refine AL (q _ (AE λC x=>sr AA λD e=>zm tb 2 AA (zl tb AA AA (zq tb AA (dn e AA ?_)))));obtain⟨b,a,h0⟩:=Sh.Bl h0;have y:∀(_:Unit),b=Sum.inr ()->∀s,Wk 0 s ⟨25,Aa [],[]⟩->C s:=by
   intro _ S s E;subst b;refine x _ (AJ E (zr tb AA AA ?_));obtain rfl:=Sh.AD h0;exact rt [(2,.bool true)]
  refine AU (Av (σ:=Int) (λn v=>De N p0 n v=some b) (λc=>⟨25,Aa [(1,.ptr 0 0 0 0),(9,ls BO p0.funcs),(10,i64 (Sh.len p0.funcs)),(11,i64 c)],[⟨0,26,2,[[ls Ai p0.decls,ls BO p0.funcs]]⟩]⟩) N 0 a (AK AA) (λ_ B=>by rw[De]at B;cases B) ?_);rintro n c a;rw[De]at a;refine zr tb AA AA (AE λF f=>?_);refine ci a AA ?_ ?_<;>clear a<;>intro G a
  ·refine AL (f _ (AE λH g=>AU (sr AA λI h=>bs a λi j a=>zx Cn j AA AA AA (zq tb AA (Au (m:=1) AH LG AA AA (Ao AH Kn AA AA AA AA AA AA kV rfl (dn h AA (AE λJ k=>?_))))))));refine Ca (by kernel_rfl) (by kernel_rfl) (by rfl) ?_;iterate 5 refine yq tb rfl ?_
   refine bs a λd l a=>BX (v:=(i64 d)) AH (hb 48) (Sv l) rfl AA AA ?_;iterate 3 refine yq tb rfl ?_
   refine As (k _ ?_);refine ci a AA ?_ ?_<;>clear a<;>intro o a
   ·have K:decide (d=i.result)=false:=by simpa using o
    refine zr tb AA AA ?_;obtain rfl:=Sh.AD a;obtain rfl:=Sh.AD h0;exact rd [(2,.bool false)]
   ·have L:decide (d=i.result)=true:=by simpa using o
    refine AL (g _ (AI AA (zm tb 2 AA ?_)));exact AF (xi (Sh.w (c+1)) a (AT [0] AA (by decide) rfl AA (.raw AA AA .nil) (.same AA)))
  ·exact BB (y () (Sh.AD a).symm _ (Bj _ AA))
theorem QB {N:Nat}{lg:AG->Int->Int->Option (AG)}(mV :∀{p0:AG} {p1:Int} {p2:Int} {r:AG},lg p0 p1 p2=some r->Ac Tryz.prog 44 [Bh p0,i64 p1,i64 p2] [] (λv st=>v=(.agg (Q9 r))/\st=[Db r])){p0:AG}{p1 p2:Int}{r:AG}(h0:JY N lg p0 p1 p2=some r):Ac Tryz.prog 44 [Bh p0,i64 p1,i64 p2] [] (λv st=>v=(.agg (Q9 r))/\st=[Db r]):=by
 unfold JY at h0;refine Ac.wk (r0:=(.agg (Q9 r))) (st0:=[Db r,⟨0,35,3,[Q9 r]⟩]) ?_ (Du (L:=[(0,.agg (Q9 r))]) (st':=[Db r]) [0] AA (by decide) rfl AA (.deep (Ah An) fa) (.same AA));refine ai Tryz.func44 AA AA AA AA (sr AA λK1 S=>Bt (m:=0) AH AA AA AA AA AA (Au (m:=1) AH EB AA AA (dn S AA (AE λK2 T=>bs h0 λZ h h0=>?_))));have M4:∀(k:Int),Z=k->∀s,Wk 0 s ⟨44,Aa [(1,i64 p1),(2,i64 p2),(3,BI),(6,CV)],[O7 p0.op k p0.kids,FJ]⟩->K2 s:=by
  intro k hq s F;subst Z;refine T _ (AJ F (zr tb AA AA (sr AA λK6 U=>zq tb AA (Ao AH VY AA AA AA AA AA AA lC rfl (dn U AA (AE λK7 V=>sr AA λK8 W=>zq tb AA (zl tb AA AA (zq tb AA (dn W AA ?_)))))))));refine bs h0 λD h h0=>?_;have X:∀(p:(List AG)),D=p->∀s,Wk 0 s ⟨44,Aa [(3,BI),(6,CV)],[⟨0,35,3,[[i64 p0.op,i64 k,ow 2 0 p]]⟩,FJ,Hx p]⟩->K7 s:=by
   intro p hq s F;subst D;refine V _ (AJ F (sr AA λb0 G=>zq tb AA (Ao AH BG AA AA AA AA AA AA kS rfl (dn G AA ?_))));obtain rfl:=Sh.AD h0;exact Ap (Exists.intro _ (And.intro ((CR (L:=[(6,CV)]) (st':=[Hx p,⟨0,35,3,[[i64 p0.op,i64 k,ow 0 0 p]]⟩]) (st1:=[Hx p,⟨0,35,3,[[i64 p0.op,i64 k,ow 2 0 p]]⟩]) [2,1] AA .nil (by decide) rfl AA (.deep (Ah An) (.raw AA AA .nil)) (.same AA)).trans (Ag (L:=[(6,CV)]) (.same AA))) (Ar (x:=.tmp 6) (off:=0) (cs:=[i64 p0.op,i64 k,ow 0 0 p]) (vs:=[i64 p0.op,i64 k,ow 0 0 p]) BG AA AA AA kS rfl _ ⟨AA,AA⟩)))
  refine AU (Av (σ:=Int×(List AG)) (λn v=>D4 p0 p1 p2 lg n v.1 v.2=some D) (λ(y,a)=>⟨44,Aa [(1,i64 p1),(2,i64 p2),(3,.ptr 0 0 0 0),(6,.ptr 1 0 0 0),(27,ls Az p0.kids),(28,i64 (Sh.len p0.kids)),(29,i64 y)],[⟨0,35,3,[[i64 p0.op,i64 k,ow 2 0 a]]⟩,FJ,ro 0 35 3 (BZ 35) a]⟩) N (0,[]) h (by refine Wk.trans (J9 (id:=0) (st':=[⟨0,35,3,[[i64 p0.op,i64 k,.own 2 0 (List.length ([]:List AG))]]⟩,FJ,ro 0 35 3 (BZ 35) ([]:List AG)]) (j:=2) rfl AA 35 (size':=3) (by decide) rfl AA AA AA) ?_;exact AK AA) (λ_ hv=>by rw[D4]at hv;cases hv) ?_);rintro n ⟨y,a⟩ h;rw[D4]at h;refine zr tb AA AA (AE λb1 H=>?_);refine ci h AA ?_ ?_<;>clear h<;>intro b2 h
  ·refine AL (H _ (AE λb3 I=>AU (sr AA λb4 J=>bs h λA K h=>zz (EE A) (Co BT AA AA K (Al _) rfl) rfl (zq tb AA (Au (m:=3) AH EB AA AA (Ao AH BG AA AA AA AA AA AA kS rfl (dn J AA ?_)))))));refine HE (by kernel_rfl) ?_;refine bs h λd B h=>bs h λf C h=>Jh λuG b=>?_;have g:uG 0 (bm 10 1023) ⟨44,Aa (We p1 p2 p0 y []),[Sr p0 k f,Hx f,FJ]⟩:=(b _ _ _).2 (by
    refine HI AA (by kernel_rfl) ?_;refine I _ (AI AA (zm tb 2 AA ?_));exact AF (xi (Sh.w (y+1),f) h (by exact CR (L:=[(1,i64 p1),(2,i64 p2),(3,BI),(6,CV),(27,Sp p0),(28,Wg p0),(29,KC y)]) (st':=[⟨0,35,3,[[i64 p0.op,i64 k,ow 2 0 f]]⟩,FJ,Hx f]) (st1:=[Sr p0 k f,FJ,Hx f]) [0,2,1] AA .nil (by decide) rfl AA (.raw AA AA (.raw AA AA (.deep (Ah An) .nil))) (.same AA))))
   have o:uG 1 (bm 10 511) ⟨44,Aa (We p1 p2 p0 y [(40,ow 1 1 f),(41,.ptr 0 0 0 2)]),[Sr p0 k a,ro 1 35 3 (BZ 35) f,FJ]⟩:=(b _ _ _).2 (by
    refine xa [9] ⟨?_,fa⟩
    ·refine xo 9 ?_;exact Ao AH VY AA AA AA AA AA AA lC rfl (MZ b g (by exact ER (L:=(We p1 p2 p0 y [])) (st':=[Sr p0 k f,Hx f,FJ]) (.raw AA AA (.deep (Ah An) (.raw AA AA .nil))) (.same AA))))
   have q:uG 3 (bm 10 127) ⟨44,Aa (We p1 p2 p0 y [(34,ow 1 0 a),(39,.own 3 0 1)]),((Sr p0 k a)::(Hx a)::FJ::Zw d [])⟩:=(b _ _ _).2 (by
    refine xa [7] ⟨?_,fa⟩
    ·refine xo 7 ?_;have M:=Ob C;refine Q1 (st':=((Sr p0 k a)::⟨1,35,3,hole f (BZ 35) (Sh.len a) (Ly d)⟩::FJ::Zw d [])) (c:=d) AH BT AA AA AA AA AA AA AA C AA ?_;refine AR (Wk.take (id:=1) (m:=4) (j:=2) (i:=Sh.len a) (c:=d) (ys:=d.kids) (encY:=(BZ 35)) rfl M AA AA AA (by decide) lB Gi AA AA) ?_;refine AR (Hg (id:=1) (i:=Sh.len a) (c:=d) rfl M (E4 d).symm AA) (AF ⟨AA,?_⟩);refine BQ tb 8 AA (by kernel_rfl) rfl ?_;exact xw b o (by exact AT [0,1,2] AA (by decide) rfl AA (.raw AA AA (.deep (Ah An) (.raw AA AA .nil))) (.same AA)))
   have e:uG 4 (bm 10 63) ⟨44,Aa (We p1 p2 p0 y [(34,ow 1 0 a),(38,.agg (QA d))]),[Sr p0 k a,Hx a,FJ,Db d]⟩:=(b _ _ _).2 (by
    refine xa [6] ⟨?_,fa⟩
    ·refine xo 6 ?_;refine BD (m:=4) (l:=[()]) (enc:=λ_=>(QA d)) AH BT (by decide) rfl AA AA AA AA AA ?_;exact MZ b q (by exact CR (L:=(We p1 p2 p0 y [(34,ow 1 0 a),(39,.own 3 0 1)])) (st':=((Sr p0 k a)::(Hx a)::FJ::Zw d [])) (st1:=[Sr p0 k a,Hx a,FJ,⟨0,35,3,[QA d]⟩,Db d]) [0,1,2,4,3] AA .nil (by decide) rfl AA (.raw AA AA (.deep (Ah An) (.raw AA AA (.raw AA AA (.deep (Ah An) .nil))))) (.same AA)))
   have t:uG 5 (bm 10 31) ⟨44,Aa (We p1 p2 p0 y [(34,ow 1 0 a),(35,Bh A),(36,i64 p1),(37,i64 p2)]),[Sr p0 k a,Hx a,FJ]⟩:=(b _ _ _).2 (by
    refine xa [5] ⟨?_,fa⟩
    ·refine xo 5 ?_;exact CD (v':=(.agg (QA d))) AH (hb 44) (mV B) rfl AA ⟨Ah An,fa⟩ AA AA (xd b e))
   have z:uG 6 (bm 10 29) ⟨44,Aa (We p1 p2 p0 y [(33,.ptr 0 0 0 2),(35,Bh A),(36,i64 p1),(37,i64 p2)]),[Sr p0 k a,Hx a,FJ]⟩:=(b _ _ _).2 (by
    refine xa [1,5] ⟨?_,?_,fa⟩
    ·exact xq tb b t
    ·refine xo 5 ?_;refine CD (v':=(.agg (QA d))) AH (hb 44) (mV B) rfl AA ⟨Ah An,fa⟩ AA AA (AF ⟨AA,?_⟩);refine BQ tb 1 AA (by kernel_rfl) rfl ?_;exact xt b e)
   refine (b _ _ _).2 ?_;refine BQ tb 0 AA (by kernel_rfl) rfl ?_;refine BQ tb 2 AA (by kernel_rfl) rfl ?_;refine BQ tb 3 AA (by kernel_rfl) rfl ?_;refine BQ tb 4 AA (by kernel_rfl) rfl ?_;exact xw b z (by exact CR (L:=(We p1 p2 p0 y [(33,.ptr 0 0 0 2),(35,Bh A),(36,i64 p1),(37,i64 p2)])) (st':=[Sr p0 k a,Hx a,FJ]) (st1:=[⟨0,35,3,[[i64 p0.op,i64 k,ow 2 0 a]]⟩,Hx a,FJ]) [0,2,1] AA .nil (by decide) rfl AA (.raw AA AA (.deep (Ah An) (.raw AA AA .nil))) (.same AA))
  ·exact BB (X a (Sh.AD h).symm _ (AK AA))
 refine AE λY O=>bs h λP Q h=>?_;have R:∀(E:Bool),P=E->∀s,Wk 0 s ⟨44,Aa [(1,i64 p1),(2,i64 p2),(3,BI),(6,CV),(18,.bool E)],[O7 p0.op p0.num p0.kids,FJ]⟩->Y s:=by
  intro E hq s F;subst P;refine O _ (AJ F ?_);refine ci h AA ?_ ?_<;>clear h<;>intro b5 h
  ·exact AI AA (zm tb 5 AA (Ao AH Gp AA AA AA AA AA AA (show 1+1<=3 by decide) rfl (AF (M4 (Sh.w (p0.num+p2)) (Sh.AD h).symm _ (AK AA)))))
  ·exact AL (M4 p0.num (Sh.AD h).symm _ (AK AA))
 refine AI AA (zm tb 4 AA ?_);rcases Sh.Aj Q with ⟨u,Q⟩|⟨u,Q⟩
 ·refine zg tb u AA ?_;iterate 3 refine zg tb u rfl ?_
  exact zt u AA (AF (R (decide (p1<=p0.num)) (Sh.AD Q).symm _ (AK AA)))
 ·refine zs u AA ?_;iterate 3 refine zs u rfl ?_
  exact zf u AA (AF (R false (Sh.AD Q).symm _ (AK AA)))
theorem Qa {N:Nat}:∀(n:Nat),∀{p0:AG} {p1:Int} {p2:Int} {r:AG},Fo N n p0 p1 p2=some r->Ac Tryz.prog 44 [Bh p0,i64 p1,i64 p2] [] (λv st=>v=(.agg (Q9 r))/\st=[Db r]):=by
 intro n
 induction n with
 | zero=>intro p0 p1 p2 r a;cases a
 | succ n ih=>
  intro p0 p1 p2 r a;rw[Fo]at a;exact QB (λh=>ih h) a
theorem SH {N:Nat}:∀{p0:AG} {p1:Int} {p2:Int} {r:AG},Mc N p0 p1 p2=some r->Ac Tryz.prog 44 [Bh p0,i64 p1,i64 p2] [] (λv st=>v=(.agg (Q9 r))/\st=[Db r]):=by
 intro p0 p1 p2 r a;exact Qa N a
theorem Lm {N:Nat}{p0 r:AG}(h0:H5 N p0=some r):Ac Tryz.prog 91 [Bh p0] [] (λv st=>v=(.agg (Q9 r))/\st=[Db r]):=by
 unfold H5 at h0;refine Ac.wk (r0:=(.agg (Q9 r))) (st0:=[Db r,⟨0,35,3,[Q9 r]⟩]) ?_ (Du (L:=[(0,.agg (Q9 r))]) (st':=[Db r]) [0] AA (by decide) rfl AA (.deep (Ah An) fa) (.same AA));refine ai Tryz.func91 AA AA AA AA (sr AA λe b=>Bt (m:=0) AH AA AA AA AA AA (Au (m:=1) AH EB AA AA (dn b AA (sr AA λf c=>zq tb AA (bs h0 λa d h0=>CD (v':=(.agg [i64 a.op,i64 a.num,ow 2 0 a.kids])) AH (hb 44) (SH d) rfl AA ⟨Ah An,fa⟩ AA AA (Ao AH BG AA AA AA AA AA AA kS rfl (dn c AA ?_)))))));obtain rfl:=Sh.AD h0;exact Ap (Exists.intro _ (And.intro ((CR (L:=[(2,CV)]) (st':=[Db a,⟨0,35,3,[Q9 a]⟩]) (st1:=[Db a,⟨0,35,3,[[i64 a.op,i64 a.num,ow 2 0 a.kids]]⟩]) [2,1] AA .nil (by decide) rfl AA (.deep (Ah An) (.raw AA AA .nil)) (.same AA)).trans (Ag (L:=[(2,CV)]) (.same AA))) (Ar (x:=.tmp 2) (off:=0) (cs:=(Q9 a)) (vs:=(Q9 a)) BG AA AA AA kS rfl _ ⟨AA,AA⟩)))
theorem OO {N:Nat}{p0 r:AP}(h0:Gn N p0=some r):Ac Tryz.prog 55 [JL p0] [] (λv st=>v=(.agg [ow 0 0 r.decls,ow 1 0 r.funcs])/\st=(dk r [])):=by
 unfold Gn at h0;refine Ac.wk (r0:=(.agg [ow 0 0 r.decls,ow 1 0 r.funcs])) (st0:=(dk r [⟨0,26,2,[[ow 0 0 r.decls,ow 1 0 r.funcs]]⟩])) ?_ (Du (L:=[(0,.agg [ow 0 0 r.decls,ow 1 0 r.funcs])]) (st':=(dk r [])) [0,1] AA (by decide) rfl AA (.deep (Ah λ_=>AA) (.deep (Ah λ_=>AA) fa)) (.same AA));refine ai Tryz.func55 AA AA AA AA (sr AA λK1 R=>Bt (m:=0) AH AA AA AA AA AA (AR (Wk.BJ (L:=[(1,.Bc (Yk p0) 0)]) (st':=[⟨1,26,2,[]⟩]) (id:=0) rfl kX (ED AA) (.same AA) rfl) (Au (m:=1) AH IM AA AA (dn R AA (sr AA λK2 S=>zm tb 2 AA (bs h0 λf T h0=>CD (v':=(ow 2 0 f)) AH (hb 90) (Cl.OL T) rfl AA ⟨(Ah λ_=>AA),fa⟩ AA AA (zz (.agg [ow 2 0 f,.zc]) (DL UP T2 IM AA AA) rfl (Au (m:=3) AH IM AA AA ?_))))))));refine Ao AH D2 AA AA AA AA AA AA kU rfl (dn S AA (AE λY U=>sr AA λK5 V=>zm tb 2 AA (zl tb AA AA (zq tb AA (dn V AA (bs h0 λW D h0=>?_))))));have Z:∀(E:(List Ad)),W=E->∀s,Wk 0 s ⟨33,Aa [(2,BI),(3,CK)],[TB,Rg f,⟨0,26,2,[[ow 1 0 f,ow 3 0 E]]⟩,Ny E]⟩->Y s:=by
  intro E hq s hw;subst W;refine U _ (AJ hw (sr AA λb0 K=>zq tb AA (Ao AH D2 AA AA AA AA AA AA kU rfl (dn K AA ?_))));obtain rfl:=Sh.AD h0;exact Ap (Exists.intro _ (And.intro ((CR (L:=[(2,CK)]) (st':=[Rg f,Ny E,⟨0,26,2,[[ow 0 0 f,ow 1 0 E]]⟩]) (st1:=[Rg f,Ny E,⟨0,26,2,[[ow 1 0 f,ow 3 0 E]]⟩]) [1,3,0] AA .nil (by decide) rfl AA (.deep (Ah λ_=>AA) (.deep (Ah λ_=>AA) (.raw AA AA .nil))) (.same AA)).trans (Ag (L:=[(2,CK)]) (.same AA))) (Ar (x:=.tmp 2) (off:=0) (cs:=[ow 0 0 f,ow 1 0 E]) (vs:=[ow 0 0 f,ow 1 0 E]) D2 AA AA AA kU rfl _ ⟨AA,AA⟩)))
 refine AU (Av (σ:=Int×(List Ad)) (λn v=>DG N p0 n v.1 v.2=some W) (λ(C,q)=>⟨33,Aa [(2,.ptr 0 0 0 0),(3,.ptr 2 0 0 0),(11,ls BO p0.funcs),(12,i64 (Sh.len p0.funcs)),(13,i64 C)],[TB,ro 0 80 3 (BU 82 3) f,⟨0,26,2,[[ow 1 0 f,ow 3 0 q]]⟩,ro 0 37 5 (DC 3 35) q]⟩) N (0,[]) D (by refine Wk.trans (J9 (id:=3) (st':=[⟨1,26,2,[]⟩,TB,ro 0 80 3 (BU 82 3) f,⟨0,26,2,[[ow 2 0 f,.own 4 0 (List.length ([]:List Ad))]]⟩,ro 0 37 5 (DC 3 35) ([]:List Ad)]) (j:=1) rfl AA 37 (size':=5) (by decide) rfl AA AA AA) ?_;exact CR (L:=[(2,.ptr 0 0 0 0),(3,.ptr 2 0 0 0),(11,ls BO p0.funcs),(12,i64 (Sh.len p0.funcs)),(13,i64 0)]) (st':=[TB,ro 0 80 3 (BU 82 3) f,⟨0,26,2,[[ow 1 0 f,.own 3 0 (List.length ([]:List Ad))]]⟩,ro 0 37 5 (DC 3 35) ([]:List Ad)]) (st1:=[TB,ro 0 80 3 (BU 82 3) f,⟨0,26,2,[[ow 2 0 f,.own 4 0 (List.length ([]:List Ad))]]⟩,ro 0 37 5 (DC 3 35) ([]:List Ad)]) [1,2,3,4] AA .nil (by decide) rfl AA (.raw AA AA (.deep (Ah λ_=>AA) (.raw AA AA (.deep (Ah λ_=>AA) .nil)))) (.same AA)) (λ_ X=>by rw[DG]at X;cases X) ?_);rintro n ⟨C,q⟩ D;rw[DG]at D;refine zr tb AA AA (AE λb1 M=>?_);refine ci D AA ?_ ?_<;>clear D<;>intro b2 D
 ·refine AL (M _ (AE λb3 O=>AU (sr AA λb4 P=>bs D λd Q D=>zx Cn Q AA AA AA (zq tb AA (Au (m:=4) AH LG AA AA (Ao AH Kn AA AA AA AA AA AA kV rfl (AR (Wk.BJ (L:=[(2,BI),(3,CK),(5,.Bc (O0 d) 0),(11,X1 p0),(12,i64 (Sh.len p0.funcs)),(13,i64 C)]) (st':=[TB,Rg f,⟨0,26,2,[[ow 1 0 f,ow 3 0 q]]⟩,Ny q,⟨1,37,5,[]⟩]) (id:=4) rfl lB (ED AA) (.same AA) rfl) (dn P AA ?_))))))));refine PA (by kernel_rfl) ?_;refine bs D λe G D=>bs D λa H D=>bs D λy I D=>?_;refine Uq (f':=15) (listed':=(bm 15 0)) rfl (by kernel_rfl) ?_;refine DT 0 (v:=(.ptr 2 0 0 1)) rfl AA (by kernel_rfl) (by kernel_rfl) (by kernel_rfl) rfl (FU (It J0 AA AA kZ rfl)) ?_;refine DT 2 (v:=(.Bc (O0 d) 0)) rfl AA (by kernel_rfl) (by kernel_rfl) (by kernel_rfl) rfl (FU (L4 RK AA AA)) ?_;refine DT 3 (v:=(ls eI d.params)) rfl AA (by kernel_rfl) (by kernel_rfl) (by kernel_rfl) rfl (NR JD AA AA) ?_;refine DT 5 (v:=(.Bc (O0 d) 1)) rfl AA (by kernel_rfl) (by kernel_rfl) (by kernel_rfl) rfl (FU (L4 PN AA AA)) ?_;refine DT 6 (v:=(i64 d.result)) rfl AA (by kernel_rfl) (by kernel_rfl) (by kernel_rfl) rfl (NR Gp AA AA) ?_;refine DT 7 (v:=(.Bc (O0 d) 2)) rfl AA (by kernel_rfl) (by kernel_rfl) (by kernel_rfl) rfl (FU (L4 TU AA AA)) ?_;refine DT 8 (v:=(V4 d)) rfl AA (by kernel_rfl) (by kernel_rfl) (by kernel_rfl) rfl (So BG AA kg rfl) ?_;refine Ty (Rw λpX b=>?_);have k:pX 0 (bm 15 32767) ⟨33,Aa (Ra p0 [(12,i64 (Sh.len p0.funcs)),(13,i64 C)]),Rx f y []⟩:=(b _ _ _).2 (by
   refine QH AA (by kernel_rfl) ?_;refine O _ (AI AA (zm tb 2 AA ?_));exact AF (xi (Sh.w (C+1),y) D (by exact CR (L:=[(2,BI),(3,CK),(11,X1 p0),(12,i64 (Sh.len p0.funcs)),(13,KC C)]) (st':=[TB,Rg f,⟨0,26,2,[[ow 1 0 f,ow 3 0 y]]⟩,Ny y]) (st1:=[TB,Rg f,cA f y,Ny y]) [0,2,1,3] AA .nil (by decide) rfl AA (.raw AA AA (.deep (Ah λ_=>AA) (.raw AA AA (.deep (Ah λ_=>AA) .nil)))) (.same AA))))
  have p:pX 1 (bm 15 16383) ⟨33,Aa (Ra p0 [(12,i64 (Sh.len p0.funcs)),(13,i64 C),(29,ow 3 1 y),(30,.ptr 1 0 0 1)]),[TB,cA f q,Rg f,ro 1 37 5 (DC 3 35) y]⟩:=(b _ _ _).2 (by
   refine ya [14] ⟨?_,fa⟩
   ·refine yo 14 ?_;exact Ao AH OC AA AA AA AA AA AA kr rfl (Xy b k (by exact ER (L:=(Ra p0 [(12,i64 (Sh.len p0.funcs)),(13,i64 C)])) (st':=(Rx f y [])) (.raw AA AA (.raw AA AA (.deep (Ah λ_=>AA) (.deep (Ah λ_=>AA) .nil)))) (.same AA))))
  have t:pX 3 (bm 15 4095) ⟨33,Aa (Ra p0 [(12,i64 (Sh.len p0.funcs)),(13,i64 C),(18,ow 3 0 q),(28,.own 4 0 1)]),Rx f q [⟨0,37,5,[[ow 5 0 e,i64 d.result,i64 a.op,i64 a.num,ow 6 0 a.kids]]⟩,Bi e,Db a]⟩:=(b _ _ _).2 (by
   refine ya [12] ⟨?_,fa⟩
   ·refine yo 12 ?_;have J:=Ob I;refine Q1 (st':=[TB,cA f q,Rg f,⟨1,37,5,hole y (DC 3 35) (Sh.len q) [ow 5 0 e,i64 d.result,i64 a.op,i64 a.num,ow 6 0 a.kids]⟩,⟨0,37,5,[[ow 5 0 e,i64 d.result,i64 a.op,i64 a.num,ow 6 0 a.kids]]⟩,Bi e,Db a]) (c:=(Ad.mk e d.result a)) AH Cn AA AA AA AA AA AA AA I AA ?_;refine AR (Wk.take (id:=3) (m:=5) (j:=0) (i:=Sh.len q) (c:=(Ad.mk e d.result a)) (ys:=e) (encY:=eI) rfl J AA AA AA (by decide) (show 0<=5 by decide) (λ_=>AA) rfl AA) ?_;refine AR (Wk.take (id:=3) (m:=6) (j:=4) (i:=Sh.len q) (c:=(Ad.mk e d.result a)) (ys:=a.kids) (encY:=(BZ 35)) rfl J AA AA AA (by decide) (show 0<=6 by decide) Gi AA AA) ?_;refine AR (Hg (id:=3) (i:=Sh.len q) (c:=(Ad.mk e d.result a)) rfl J AA AA) (AF ⟨AA,?_⟩);refine GB tb 13 AA (by kernel_rfl) rfl ?_;exact yw b p (by exact AT [0,1,2,3] AA (by decide) rfl AA (.raw AA AA (.raw AA AA (.deep (Ah λ_=>AA) (.deep (Ah λ_=>AA) .nil)))) (.same AA)))
  have g:pX 4 (bm 15 2047) ⟨33,Aa (Ra p0 [(12,i64 (Sh.len p0.funcs)),(13,i64 C),(18,ow 3 0 q),(27,.agg [ow 4 0 e,i64 d.result,i64 a.op,i64 a.num,ow 5 0 a.kids])]),Rx f q [Bi e,Db a]⟩:=(b _ _ _).2 (by
   refine ya [11] ⟨?_,fa⟩
   ·refine yo 11 ?_;refine BD (m:=6) (l:=[()]) (enc:=λ_=>[ow 4 0 e,i64 d.result,i64 a.op,i64 a.num,ow 5 0 a.kids]) AH Cn (by decide) rfl AA AA AA AA AA ?_;exact Xy b t (by exact CR (L:=(Ra p0 [(12,i64 (Sh.len p0.funcs)),(13,i64 C),(18,ow 3 0 q),(28,.own 4 0 1)])) (st':=(Rx f q [⟨0,37,5,[[ow 5 0 e,i64 d.result,i64 a.op,i64 a.num,ow 6 0 a.kids]]⟩,Bi e,Db a])) (st1:=(Rx f q [⟨0,37,5,[[ow 4 0 e,i64 d.result,i64 a.op,i64 a.num,ow 5 0 a.kids]]⟩,Bi e,Db a])) [0,1,2,3,6,4,5] AA .nil (by decide) rfl AA (.raw AA AA (.raw AA AA (.deep (Ah λ_=>AA) (.deep (Ah λ_=>AA) (.raw AA AA (.pure (AB λ_=>AA) (.deep (Ah An) .nil))))))) (.same AA)))
  have h:pX 5 (bm 15 1023) ⟨33,Aa (Ra p0 [(12,i64 (Sh.len p0.funcs)),(13,i64 C),(18,ow 3 0 q),(21,ow 4 0 e),(23,i64 d.result),(26,.agg (SI a))]),Rx f q [Bi e,Db a]⟩:=(b _ _ _).2 (by
   refine ya [10] ⟨?_,fa⟩
   ·refine yo 10 ?_;exact zz (.agg [ow 4 0 e,i64 d.result,i64 a.op,i64 a.num,ow 5 0 a.kids]) (DL SZ Sa LG AA AA) rfl (yd b g))
  have o:pX 6 (bm 15 511) ⟨33,Aa (Ra p0 [(12,i64 (Sh.len p0.funcs)),(13,i64 C),(18,ow 3 0 q),(21,ow 4 0 e),(23,i64 d.result),(25,V4 d)]),Rx f q [Bi e]⟩:=(b _ _ _).2 (by
   refine ya [9] ⟨?_,fa⟩
   ·refine yo 9 ?_;exact CD (v':=(.agg (SI a))) AH (hb 91) (Lm H) rfl AA ⟨Ah An,fa⟩ AA AA (yd b h))
  have z:pX 7 (bm 15 495) ⟨33,Aa (Ra p0 [(12,i64 (Sh.len p0.funcs)),(13,i64 C),(18,ow 3 0 q),(20,ls eI d.params),(23,i64 d.result),(25,V4 d)]),Rx f q []⟩:=(b _ _ _).2 (by
   refine ya [4] ⟨?_,fa⟩
   ·refine yo 4 ?_;exact CD (v':=(ow 4 0 e)) AH (hb 82) (Cj G) rfl AA ⟨(By λ_=>AA),fa⟩ AA AA (yd b o))
  have u:pX 6 (bm 15 1021) ⟨33,Aa (Ra p0 [(12,i64 (Sh.len p0.funcs)),(13,i64 C),(17,.ptr 1 0 0 1),(21,ow 4 0 e),(23,i64 d.result),(26,.agg (SI a))]),Rx f q [Bi e,Db a]⟩:=(b _ _ _).2 (by
   refine ya [1,10] ⟨?_,?_,fa⟩
   ·exact Yw tb b h
   ·refine yo 10 ?_;refine zz (.agg [ow 4 0 e,i64 d.result,i64 a.op,i64 a.num,ow 5 0 a.kids]) (DL SZ Sa LG AA AA) rfl (AF ⟨AA,?_⟩);refine GB tb 1 AA (by kernel_rfl) rfl ?_;exact aD b g)
  have A:pX 7 (bm 15 509) ⟨33,Aa (Ra p0 [(12,i64 (Sh.len p0.funcs)),(13,i64 C),(17,.ptr 1 0 0 1),(21,ow 4 0 e),(23,i64 d.result),(25,V4 d)]),Rx f q [Bi e]⟩:=(b _ _ _).2 (by
   refine ya [1,9] ⟨?_,?_,fa⟩
   ·exact Yw tb b o
   ·refine yo 9 ?_;exact CD (v':=(.agg (SI a))) AH (hb 91) (Lm H) rfl AA ⟨Ah An,fa⟩ AA AA (yd b u))
  have B:pX 8 (bm 15 493) ⟨33,Aa (Ra p0 [(12,i64 (Sh.len p0.funcs)),(13,i64 C),(17,.ptr 1 0 0 1),(20,ls eI d.params),(23,i64 d.result),(25,V4 d)]),Rx f q []⟩:=(b _ _ _).2 (by
   refine ya [1,4] ⟨?_,?_,fa⟩
   ·exact Yw tb b z
   ·refine yo 4 ?_;exact CD (v':=(ow 4 0 e)) AH (hb 82) (Cj G) rfl AA ⟨(By λ_=>AA),fa⟩ AA AA (yd b A))
  refine (b _ _ _).2 ?_;exact yw b B (by exact CR (L:=(Ra p0 [(12,i64 (Sh.len p0.funcs)),(13,i64 C),(17,.ptr 1 0 0 1),(20,ls eI d.params),(23,i64 d.result),(25,V4 d)])) (st':=(Rx f q [])) (st1:=[TB,⟨0,26,2,[[ow 1 0 f,ow 3 0 q]]⟩,Rg f,Ny q]) [0,2,1,3] AA .nil (by decide) rfl AA (.raw AA AA (.raw AA AA (.deep (Ah λ_=>AA) (.deep (Ah λ_=>AA) .nil)))) (.same AA))
 ·exact BB (Z q (Sh.AD D).symm _ (AK AA))
theorem OK {s0:(List AG)}{mn mw p1:Int}{r:AG}(h0:Gu s0 mn mw p1=some r):Ac Tryz.prog 28 [.agg [i64 mn,i64 mw,ow 0 0 s0],i64 p1] [Hx s0] (λv st=>v=(.agg (L8 r))/\st=[CU,Db r]):=by
 unfold Gu at h0;refine Ac.wk (r0:=(.agg (L8 r))) (st0:=[CU,Db r,⟨0,35,3,[L8 r]⟩]) ?_ (Du (L:=[(0,.agg (L8 r))]) (st':=[CU,Db r]) [0,1] AA (by decide) rfl AA (.pure (by intro x p;cases p) (.deep (Ah An) fa)) (.same AA));refine ai Tryz.func28 AA AA AA AA (AJ (Wk.de (L:=[(0,.agg [i64 mn,i64 mw,ow 1 0 s0])]) (id:=0) (N:=1) (st':=[CU,Hx s0]) rfl AA (.same AA) rfl) (sr AA λZ P=>Bt (m:=2) AH AA AA AA AA AA (Au (m:=3) AH EB AA AA (dn P AA (AE λK2 Q=>AE λW R=>bs h0 λU J h0=>?_)))));have V:∀(S:Bool),U=S->∀s,Wk 1 s ⟨34,Aa [(2,CK),(4,Iw),(15,.bool S)],[CU,Hx s0,⟨0,35,3,[[i64 mn,i64 mw,ow 1 0 s0]]⟩,FJ]⟩->W s:=by
  intro S hq s X;subst U;refine R _ (AJ X ?_);refine ci h0 AA ?_ ?_<;>clear h0<;>intro b6 h0
  ·refine AE λK7 T=>bs h0 λb A h0=>bs h0 λd G h0=>AJ (Hq (id:=1) (j:=2) (i:=0) (c:=b) (ys:=b.kids) (encY:=(BZ 35)) (x:=[i64 b.op,i64 b.num,.dv 35 3 (List.map (BZ 35) b.kids)]) (x':=(Ly b)) (st':=[CU,⟨0,35,3,hole s0 (BZ 35) 0 (Ly b)⟩,⟨0,35,3,[[i64 mn,i64 mw,ow 1 0 s0]]⟩,FJ,Db b]) rfl A (E4 _) rfl AA AA AA) ?_;refine AJ (Wk.cR (id:=1) (j:=1) (q:=2) (c:=d) (ys:=d.kids) (encY:=(BZ 35)) (y:=[i64 d.op,i64 d.num,.dv 35 3 (List.map (BZ 35) d.kids)]) (y':=(SI d)) (st':=[CU,Yn s0 b d,⟨0,35,3,[[i64 mn,i64 mw,ow 1 0 s0]]⟩,FJ,Db b,Db d]) rfl G (by decide) (E4 _) rfl AA AA AA) ?_;refine PA (by kernel_rfl) ?_;refine bs h0 λf E h0=>?_;refine Uq (f':=18) (listed':=(bm 18 0)) rfl (by kernel_rfl) ?_;refine DT 0 (v:=(.ptr 2 0 0 2)) rfl AA (by kernel_rfl) (by kernel_rfl) (by kernel_rfl) rfl (FU (It RP AA AA kb rfl)) ?_;refine DT 5 (v:=(.ptr 2 0 0 2)) rfl AA (by kernel_rfl) (by kernel_rfl) (by kernel_rfl) rfl (FU (It RP AA AA kb rfl)) ?_;refine DT 10 (v:=(.ptr 2 0 0 2)) rfl AA (by kernel_rfl) (by kernel_rfl) (by kernel_rfl) rfl (FU (It RP AA AA kb rfl)) ?_;refine Ty (Rw λpH a=>?_);have o:pH 0 (bm 18 262143) ⟨34,Aa [(4,CV)],[CU,⟨0,35,3,[[i64 9,i64 b.num,ow 2 0 f]]⟩,Hx f]⟩:=(a _ _ _).2 (by
    refine QH AA (by kernel_rfl) ?_;refine T _ ?_;obtain rfl:=Sh.AD h0;exact Ap (Exists.intro _ (And.intro ((CR (L:=[(4,CK)]) (st':=[CU,Hx f,⟨0,35,3,[[i64 9,i64 b.num,ow 1 0 f]]⟩]) (st1:=[CU,Hx f,⟨0,35,3,[[i64 9,i64 b.num,ow 2 0 f]]⟩]) [0,2,1] AA (.pure (by intro x p;cases p) .nil) (by decide) rfl AA (.pure (by intro x p;cases p) (.deep (Ah An) (.raw AA AA .nil))) (.same AA)).trans (Ag (L:=[(4,CK)]) (.same AA))) (Ar (x:=.tmp 4) (off:=0) (cs:=[i64 9,i64 b.num,ow 1 0 f]) (vs:=[i64 9,i64 b.num,ow 1 0 f]) BG AA AA AA kS rfl _ ⟨AA,AA⟩))))
   have t:pH 1 (bm 18 131071) ⟨34,Aa [(4,CV),(32,.agg [i64 9,i64 b.num,ow 2 0 f])],[CU,FJ,Hx f]⟩:=(a _ _ _).2 (by
    refine ya [17] ⟨?_,fa⟩
    ·refine yo 17 ?_;exact Ao AH BG AA AA AA AA AA AA kS rfl (yd a o))
   have e:pH 2 (bm 18 65535) ⟨34,Aa (TC b [(31,ow 2 0 f)]),[CU,FJ,Hx f]⟩:=(a _ _ _).2 (by
    refine ya [16] ⟨?_,fa⟩
    ·refine yo 16 ?_;exact zz (.agg [i64 9,i64 b.num,ow 2 0 f]) (DL SY Sd EB AA AA) rfl (yd a t))
   have g:pH 3 (bm 18 32767) ⟨34,Aa (TC b [(25,ow 2 0 b.kids),(30,.own 3 0 1)]),(CU::FJ::(Db b)::Zw d [])⟩:=(a _ _ _).2 (by
    refine ya [15] ⟨?_,fa⟩
    ·refine yo 15 ?_;have K:=Ob E;refine Q1 (st':=(CU::FJ::⟨1,35,3,hole f (BZ 35) (Sh.len b.kids) (Ly d)⟩::Zw d [])) (c:=d) AH BT AA AA AA AA AA AA AA E AA ?_;refine AR (Wk.take (id:=2) (m:=4) (j:=2) (i:=Sh.len b.kids) (c:=d) (ys:=d.kids) (encY:=(BZ 35)) rfl K AA AA AA (by decide) kp Gi AA AA) ?_;refine AR (Hg (id:=2) (i:=Sh.len b.kids) (c:=d) rfl K (E4 d).symm AA) (AF ⟨AA,?_⟩);exact J1 (by refine Wk.trans (AT (L:=(TC b [(31,ow 2 1 f)])) (st':=[CU,FJ,ro 1 35 3 (BZ 35) f]) [0,1,2] AA (by decide) rfl AA (.pure (by intro x p;cases p) (.raw AA AA (.deep (Ah An) .nil))) ⟨.rfl,.rfl,.rfl,fa⟩) ?_;exact DB (L:=(TC b [(31,ow 2 0 f)])) (st':=[CU,FJ,Hx f]) (.pure AA (by intro x p;cases p) (.raw AA AA AA (.deep AA (Ah An) .nil))) ⟨.rfl,.rfl,.rfl,fa⟩) (NF (by kernel_rfl) ((a _ _ _).1 e)) rfl)
   have h:pH 4 (bm 18 16383) ⟨34,Aa (TC b [(25,ow 2 0 b.kids),(29,.agg (QA d))]),[CU,FJ,Db b,Db d]⟩:=(a _ _ _).2 (by
    refine ya [14] ⟨?_,fa⟩
    ·refine yo 14 ?_;refine BD (m:=4) (l:=[()]) (enc:=λ_=>(QA d)) AH BT (by decide) rfl AA AA AA AA AA ?_;exact Xy a g (by exact CR (L:=(TC b [(25,ow 2 0 b.kids),(30,.own 3 0 1)])) (st':=(CU::FJ::(Db b)::Zw d [])) (st1:=[CU,FJ,Db b,⟨0,35,3,[QA d]⟩,Db d]) [0,1,2,4,3] AA (.pure (by intro x p;cases p) .nil) (by decide) rfl AA (.pure (by intro x p;cases p) (.raw AA AA (.deep (Ah An) (.raw AA AA (.deep (Ah An) .nil))))) (.same AA)))
   have u:pH 5 (bm 18 8191) ⟨34,Aa (TC b [(25,ow 2 0 b.kids),(28,.ptr 3 0 (Int.toNat 1) 0)]),[CU,FJ,Db b,⟨0,35,3,Jr s0 (BZ 35) 0 [i64 b.op,i64 b.num,ow 2 0 b.kids] 1 (Ly d)⟩,Db d]⟩:=(a _ _ _).2 (by
    refine ya [13] ⟨?_,fa⟩
    ·refine yo 13 ?_;exact zz (.agg (Ly d)) (Ar BG AA AA (O5 G) kS rfl) rfl (Xy a h (by exact AT [0,1,2,4] AA (by decide) rfl AA (.pure (by intro x p;cases p) (.raw AA AA (.deep (Ah An) (.deep (Ah An) .nil)))) (.same AA))))
   have k:pH 4 (bm 18 32751) ⟨34,Aa (aB b [(30,.own 5 0 1)]),aH s0 b d [⟨0,35,3,[Ly d]⟩]⟩:=(a _ _ _).2 (by
    refine ya [4,15] ⟨?_,?_,fa⟩
    ·refine yo 4 ?_;refine zz (i64 b.num) (Bp Gp AA AA (Jg (by decide) A) rfl) rfl ?_;exact Xy a g (by exact AT [0,1,3,5,4] AA (by decide) rfl AA (.pure (by intro x p;cases p) (.raw AA AA (.deep (Ah An) (.raw AA AA (.deep (Ah An) .nil))))) (.same AA))
    ·refine yo 15 ?_;have H:=Ob E;refine Q1 (st':=[CU,FJ,dx s0 b d,⟨1,35,3,hole f (BZ 35) (Sh.len b.kids) (Ly d)⟩,Db d,⟨0,35,3,[Ly d]⟩]) (c:=d) AH BT AA AA AA AA AA AA AA E AA ?_;refine AR (Wk.take (id:=3) (m:=4) (j:=2) (i:=Sh.len b.kids) (c:=d) (ys:=d.kids) (encY:=(BZ 35)) rfl H AA AA AA (by decide) kp Gi AA AA) ?_;refine AR (Hg (id:=3) (i:=Sh.len b.kids) (c:=d) rfl H (E4 d).symm AA) (AF ⟨AA,?_⟩);refine N2 4 AA AA (by kernel_rfl) (Le Gp AA AA (Jg (by decide) A) rfl) ?_;exact J1 (by refine Wk.trans (AT (L:=(TC b [(31,ow 2 1 f)])) (st':=[CU,FJ,ro 1 35 3 (BZ 35) f]) [0,1,3] AA (by decide) rfl AA (.pure (by intro x p;cases p) (.raw AA AA (.deep (Ah An) .nil))) ⟨.rfl,.rfl,.rfl,fa⟩) ?_;exact DB (L:=(TC b [(31,ow 2 0 f)])) (st':=[CU,FJ,Hx f]) (.pure AA (by intro x p;cases p) (.raw AA AA AA (.deep AA (Ah An) .nil))) ⟨.rfl,.rfl,.rfl,fa⟩) (NF (by kernel_rfl) ((a _ _ _).1 e)) rfl)
   have n:pH 5 (bm 18 16367) ⟨34,Aa (aB b [(29,.agg (Ly d))]),aH s0 b d []⟩:=(a _ _ _).2 (by
    refine ya [4,14] ⟨?_,?_,fa⟩
    ·refine yo 4 ?_;refine zz (i64 b.num) (Bp Gp AA AA (Jg (by decide) A) rfl) rfl ?_;exact Xy a h (by exact AT [0,1,3,4] AA (by decide) rfl AA (.pure (by intro x p;cases p) (.raw AA AA (.deep (Ah An) (.deep (Ah An) .nil)))) (.same AA))
    ·refine yo 14 ?_;refine BD (m:=5) (l:=[()]) (enc:=λ_=>(Ly d)) AH BT (by decide) rfl AA AA AA AA AA ?_;exact yd a k)
   have w:pH 6 (bm 18 8175) ⟨34,Aa (aB b [(28,.ptr 2 0 (Int.toNat 1) 0)]),aH s0 b d []⟩:=(a _ _ _).2 (by
    refine ya [4,13] ⟨?_,?_,fa⟩
    ·refine yo 4 ?_;refine zz (i64 b.num) (Bp Gp AA AA (Jg (by decide) A) rfl) rfl ?_;exact Xy a u (by exact Kk (L:=(TC b [(25,ow 2 0 b.kids),(28,.ptr 3 0 (Int.toNat 1) 0)])) (st':=[CU,FJ,Db b,⟨0,35,3,Jr s0 (BZ 35) 0 [i64 b.op,i64 b.num,ow 2 0 b.kids] 1 (Ly d)⟩,Db d]) (st1:=[CU,FJ,Db b,dx s0 b d,Db d]) [0,1,3,2,4] AA (by decide) rfl AA (.pure (by intro x p;cases p) (.raw AA AA (.deep (Ah An) (.hh (Ah An) (JA HJ) rfl AA AA AA (.deep (Ah An) .nil))))) (.same AA))
    ·refine yo 13 ?_;exact zz (.agg (Ly d)) (Ar BG AA AA (O5 G) kS rfl) rfl (yd a n))
   have z:pH 7 (bm 18 32737) ⟨34,Aa (cH b [(30,.own 6 0 1)]),br mn mw s0 b d [⟨0,35,3,[SI d]⟩]⟩:=(a _ _ _).2 (by
    refine ya [1,15] ⟨?_,?_,fa⟩
    ·refine yo 1 ?_;refine zq tb AA (AF ⟨AA,?_⟩);refine HC 2 (v:=(.ptr 3 0 (Int.toNat 0) 0)) rfl (by kernel_rfl) (by kernel_rfl) (Mu BT AA AA AA AA A) ?_;refine GB tb 3 AA (by kernel_rfl) rfl ?_;exact yw a k (by exact Kk (L:=(aB b [(30,.own 5 0 1)])) (st':=(aH s0 b d [⟨0,35,3,[Ly d]⟩])) (st1:=[CU,FJ,Yn s0 b d,Db b,Db d,⟨0,35,3,[SI d]⟩]) [0,1,3,4,5,6] AA (by decide) rfl AA (.pure (by intro x p;cases p) (.raw AA AA (.hh (Ah An) (JA HJ) rfl AA AA AA (.deep (Ah An) (.deep (Ah An) (.raw AA AA .nil)))))) (.same AA))
    ·refine yo 15 ?_;have H:=Ob E;refine Q1 (st':=[CU,FJ,⟨0,35,3,[[i64 mn,i64 mw,ow 3 0 s0]]⟩,Yn s0 b d,⟨1,35,3,hole f (BZ 35) (Sh.len b.kids) (SI d)⟩,Db d,⟨0,35,3,[SI d]⟩]) (c:=d) AH BT AA AA AA AA AA AA AA E AA ?_;refine AR (Wk.take (id:=4) (m:=5) (j:=2) (i:=Sh.len b.kids) (c:=d) (ys:=d.kids) (encY:=(BZ 35)) rfl H AA AA AA (by decide) kx Gi AA AA) ?_;refine AR (Hg (id:=4) (i:=Sh.len b.kids) (c:=d) rfl H (E4 d).symm AA) (AF ⟨AA,?_⟩);refine GB tb 1 AA (by kernel_rfl) rfl ?_;refine HC 2 (v:=(.ptr 3 0 (Int.toNat 0) 0)) rfl (by kernel_rfl) (by kernel_rfl) (Mu BT AA AA AA AA A) ?_;refine GB tb 3 AA (by kernel_rfl) rfl ?_;refine N2 4 AA AA (by kernel_rfl) (Le Gp AA AA (Jg (by decide) A) rfl) ?_;exact J1 (by refine Wk.trans (AT (L:=(TC b [(31,ow 2 1 f)])) (st':=[CU,FJ,ro 1 35 3 (BZ 35) f]) [0,1,4] AA (by decide) rfl AA (.pure (by intro x p;cases p) (.raw AA AA (.deep (Ah An) .nil))) ⟨.rfl,.rfl,.rfl,fa⟩) ?_;exact DB (L:=(TC b [(31,ow 2 0 f)])) (st':=[CU,FJ,Hx f]) (.pure AA (by intro x p;cases p) (.raw AA AA AA (.deep AA (Ah An) .nil))) ⟨.rfl,.rfl,.rfl,fa⟩) (NF (by kernel_rfl) ((a _ _ _).1 e)) rfl)
   have B:pH 8 (bm 18 16353) ⟨34,Aa (cH b [(29,.agg (SI d))]),br mn mw s0 b d []⟩:=(a _ _ _).2 (by
    refine ya [1,14] ⟨?_,?_,fa⟩
    ·refine yo 1 ?_;refine zq tb AA (AF ⟨AA,?_⟩);refine HC 2 (v:=(.ptr 3 0 (Int.toNat 0) 0)) rfl (by kernel_rfl) (by kernel_rfl) (Mu BT AA AA AA AA A) ?_;refine GB tb 3 AA (by kernel_rfl) rfl ?_;exact yw a n (by exact Kk (L:=(aB b [(29,.agg (Ly d))])) (st':=(aH s0 b d [])) (st1:=[CU,FJ,Yn s0 b d,Db b,Db d]) [0,1,3,4,5] AA (by decide) rfl AA (.pure (by intro x p;cases p) (.raw AA AA (.hh (Ah An) (JA HJ) rfl AA AA AA (.deep (Ah An) (.deep (Ah An) .nil))))) (.same AA))
    ·refine yo 14 ?_;refine BD (m:=6) (l:=[()]) (enc:=λ_=>(SI d)) AH BT (by decide) rfl AA AA AA AA AA ?_;exact yd a z)
   have C:pH 9 (bm 18 8161) ⟨34,Aa (cH b [(28,.ptr 3 0 (Int.toNat 1) 0)]),br mn mw s0 b d []⟩:=(a _ _ _).2 (by
    refine ya [1,13] ⟨?_,?_,fa⟩
    ·refine yo 1 ?_;refine zq tb AA (AF ⟨AA,?_⟩);refine HC 2 (v:=(.ptr 3 0 (Int.toNat 0) 0)) rfl (by kernel_rfl) (by kernel_rfl) (Mu BT AA AA AA AA A) ?_;refine GB tb 3 AA (by kernel_rfl) rfl ?_;exact yw a w (by exact Kk (L:=(aB b [(28,.ptr 2 0 (Int.toNat 1) 0)])) (st':=(aH s0 b d [])) (st1:=[CU,FJ,Yn s0 b d,Db b,Db d]) [0,1,3,4,5] AA (by decide) rfl AA (.pure (by intro x p;cases p) (.raw AA AA (.hh (Ah An) (JA HJ) rfl AA AA AA (.deep (Ah An) (.deep (Ah An) .nil))))) (.same AA))
    ·refine yo 13 ?_;exact zz (.agg (SI d)) (Ar BG AA AA (O5 G) kS rfl) rfl (yd a B))
   refine (a _ _ _).2 ?_;refine GB tb 6 AA (by kernel_rfl) rfl ?_;refine HC 7 (v:=(.ptr 1 0 (Int.toNat 0) 0)) rfl (by kernel_rfl) (by kernel_rfl) (Mu BT AA AA AA AA A) ?_;refine GB tb 8 AA (by kernel_rfl) rfl ?_;refine N2 9 AA AA (by kernel_rfl) (Le VY AA AA (Jg (by decide) A) rfl) ?_;refine GB tb 11 AA (by kernel_rfl) rfl ?_;refine HC 12 (v:=(.ptr 1 0 (Int.toNat 1) 0)) rfl (by kernel_rfl) (by kernel_rfl) (Mu BT AA AA AA AA G) ?_;exact yw a C (by exact Kk (L:=(cH b [(28,.ptr 3 0 (Int.toNat 1) 0)])) (st':=(br mn mw s0 b d [])) (st1:=[CU,FJ,⟨0,35,3,[[i64 mn,i64 mw,ow 1 0 s0]]⟩,Yn s0 b d,Db b,Db d]) [0,3,2,1,4,5] AA (by decide) rfl AA (.pure (by intro x p;cases p) (.raw AA AA (.raw AA AA (.hh (Ah An) (JA HJ) rfl AA AA AA (.deep (Ah An) (.deep (Ah An) .nil)))))) (.same AA))
  ·refine AL (Q _ (sr AA λY M=>zq tb AA (Ao AH BG AA AA AA AA AA AA kS rfl (dn M AA ?_))));obtain rfl:=Sh.AD h0;exact Ap (Exists.intro _ (And.intro ((AT (L:=[(4,CK)]) (st':=[CU,Hx s0,⟨0,35,3,[[i64 mn,i64 mw,ow 1 0 s0]]⟩]) [0,1,3] AA (by decide) rfl AA (.pure (by intro x p;cases p) (.deep (Ah An) (.raw AA AA .nil))) ⟨.rfl,fa⟩).trans (Ag (L:=[(4,CK)]) ⟨.rfl,fa⟩)) (Ar (x:=.tmp 4) (off:=0) (cs:=[i64 mn,i64 mw,ow 1 0 s0]) (vs:=[i64 mn,i64 mw,ow 1 0 s0]) BG AA AA AA kS rfl _ ⟨AA,AA⟩)))
 refine AI AA (zm tb 4 AA ?_);rcases Sh.Aj J with ⟨D,J⟩|⟨D,J⟩
 ·exact zg tb D AA (zg tb D AA (bs J λO I J=>BV (v:=(.ptr 1 0 (Int.toNat 0) 0)) (CM AA AA D) rfl (CC BT AA AA AA AA I) (zg tb D AA (BV (v:=(i64 O.op)) (CM AA AA D) rfl (Bp Gp AA AA (KO I (E4 _)) rfl) (zg tb D AA (zt D AA (AF (V (decide (O.op=10)) (Sh.AD J).symm _ (AK AA)))))))))
 ·refine zs D AA ?_;iterate 5 refine zs D rfl ?_
  exact zf D AA (AF (V false (Sh.AD J).symm _ (AK AA)))
theorem Nn {N:Nat}{lZ:(List AG)->(List AN)->Int->Int->Int->Option (AG)}(mL :∀{s0:(List AG)} {p0:(List AN)} {lL:Int} {lu:Int} {p2:Int} {r:AG},lZ s0 p0 lL lu p2=some r->Ac Tryz.prog 56 [Cw p0,.agg [i64 lL,i64 lu,ow 0 0 s0],i64 p2,.fn 28 []] [Hx s0] (λv st=>v=(.agg (L8 r))/\st=[CU,Db r])){s0:(List AG)}{p0:(List AN)}{lL lu p2:Int}{r:AG}(h0:HS N lZ s0 p0 lL lu p2=some r):Ac Tryz.prog 56 [Cw p0,.agg [i64 lL,i64 lu,ow 0 0 s0],i64 p2,.fn 28 []] [Hx s0] (λv st=>v=(.agg (L8 r))/\st=[CU,Db r]):=by
 unfold HS at h0;refine Ac.wk (r0:=(.agg (L8 r))) (st0:=[CU,Db r,⟨0,35,3,[L8 r]⟩]) ?_ (Du (L:=[(0,.agg (L8 r))]) (st':=[CU,Db r]) [0,1] AA (by decide) rfl AA (.pure (by intro x C;cases C) (.deep (Ah An) fa)) (.same AA));refine ai Tryz.func56 AA AA AA AA (sr AA λK1 b0=>Bt (m:=1) AH AA AA AA AA AA (Au (m:=2) AH EB AA AA (dn b0 AA (AE λK2 b1=>sr AA λK3 b2=>zm tb 2 AA (zz (Gx s0) (Cq Qc AA AA AA) rfl (zq tb AA (dn b2 AA (bs h0 λo7 z h0=>?_))))))));have M7:∀(H:(List AG)),o7=H->∀s,Wk 1 s ⟨67,Aa [(2,i64 p2),(3,.fn 28 []),(5,CV),(8,CK)],[Hx H,RL lL lu H,FJ]⟩->K2 s:=by
  intro H hq s I;subst o7;refine b1 _ (AJ I (sr AA λK8 b3=>zm tb 3 AA (bs h0 λE b4 h0=>?_)));refine X8 (rowsP:=[Hx H]) (rows0:=[Hx H]) (rows1:=[CU]) (rows2:=[Db E]) (rows1':=[CU]) (rows2':=[Db E]) (st':=[CU,RL lL lu H,FJ,Db E]) (v':=(.agg (QA E))) [0] AH AA (hb 28) (OK b4) rfl (by decide) rfl AA (.deep (Ah An) .nil) rfl AA (.pure (by intro x C;cases C) .nil) (.deep (Ah An) .nil) rfl AA ?_;refine Ao AH BG AA AA AA AA AA AA kS rfl (dn b3 AA ?_);obtain rfl:=Sh.AD h0;exact Ap (Exists.intro _ (And.intro ((CR (L:=[(8,CK)]) (st':=[CU,Db E,⟨0,35,3,[L8 E]⟩]) (st1:=[CU,Db E,⟨0,35,3,[QA E]⟩]) [0,3,2] AA (.pure (by intro x C;cases C) .nil) (by decide) rfl AA (.pure (by intro x C;cases C) (.deep (Ah An) (.raw AA AA .nil))) (.same AA)).trans (Ag (L:=[(8,CK)]) (.same AA))) (Ar (x:=.tmp 8) (off:=0) (cs:=(L8 E)) (vs:=(L8 E)) BG AA AA AA kS rfl _ ⟨AA,AA⟩)))
 refine AU (Av (σ:=Int×(List AG)) (λn v=>Cu N s0 p0 lL lu p2 lZ n v.1 v.2=some o7) (λ(b,k)=>⟨67,Aa [(0,ls Ai p0),(2,i64 p2),(3,.fn 28 []),(5,.ptr 1 0 0 0),(8,.ptr 2 0 0 0),(13,i64 (Sh.len s0)),(14,i64 b)],[ro 0 35 3 (BZ 35) k,⟨0,35,3,[[i64 lL,i64 lu,ow 0 0 k]]⟩,FJ]⟩) N (0,s0) z (AK AA) (λ_ hv=>by rw[Cu]at hv;cases hv) ?_);rintro n ⟨b,k⟩ z;rw[Cu]at z;refine zr tb AA AA (AE λc1 O=>?_);refine ci z AA ?_ ?_<;>clear z<;>intro c2 z
 ·refine AL (O _ (AE λc3 P=>AU ?_));iterate 2 refine zr tb rfl rfl ?_
  refine AE λb5 Q=>bs z λR y z=>?_;have J:∀(a:Int),R=a->∀s,Wk 1 s ⟨67,Aa (Sq p0 p2 ((5,CV)::(8,CK)::(9,i64 b)::(10,i64 a)::Pm s0 b [])),[Hx k,RL lL lu k,FJ]⟩->b5 s:=by
   intro a hq s I;subst R;refine Q _ (AJ I ?_);refine HE (by kernel_rfl) ?_;refine bs z λd o z=>bs z λg F z=>Jh λpX e=>?_;have l:pX 0 (bm 14 16383) ⟨67,Aa (Sq p0 p2 ((5,CV)::(8,CK)::Pm s0 b [])),[ro 0 35 3 (BZ 35) (Sh.put k b g),⟨0,35,3,[[i64 lL,i64 lu,ow 0 0 (Sh.put k b g)]]⟩,FJ]⟩:=(e _ _ _).2 (by
    refine HI AA (by kernel_rfl) ?_;exact P _ (AI AA (zm tb 2 AA (AF (xi (Sh.w (b+1),Sh.put k b g) z (Ag (L:=(Sq p0 p2 [(5,CV),(8,CK),(13,Gx s0),(14,KC b)])) (.same AA)))))))
   have f:pX 1 (bm 14 8191) ⟨67,Aa (Sq p0 p2 ((5,CK)::(8,Iw)::Pm s0 b [(60,.agg (Ly g)),(61,.ptr 0 0 (Int.toNat b) 0)])),[⟨0,35,3,hole k (BZ 35) b (L8 d)⟩,CU,RL lL lu k,FJ,Db g]⟩:=(e _ _ _).2 (by
    refine xa [13] ⟨?_,fa⟩
    ·refine xo 13 ?_;refine ZM (x':=(Ly g)) (st':=[⟨0,35,3,hole k (BZ 35) b (Ly g)⟩,CU,RL lL lu k,FJ,Db g]) AH BG AA AA o AA AA AA kS rfl AA ?_;refine AR (Wk.take (id:=0) (m:=4) (j:=2) (i:=b) (c:=d) (ys:=g.kids) (encY:=(BZ 35)) rfl o AA AA AA (by decide) kp Gi AA AA) ?_;refine AR (RI (id:=0) (i:=b) (u:=g) rfl (E4 g).symm AA) (AF ⟨AA,?_⟩);exact Bf (by refine Wk.trans (Ag (L:=[(0,.sl (List.map Ai p0)),(2,i64 p2),(3,.fn 28 []),(5,.ptr 2 0 0 0),(8,.ptr 3 0 0 0),(13,i64 (Sh.len s0)),(14,i64 b)]) (.same AA)) ?_;refine Wk.trans (Fj (st:=[⟨0,35,3,List.map (BZ 35) (Sh.put k b g)⟩,⟨1,35,3,[]⟩,⟨0,35,3,[[i64 lL,i64 lu,.own 0 0 (List.length k)]]⟩,FJ,⟨1,35,3,[]⟩]) (st':=[⟨0,35,3,List.map (BZ 35) (Sh.put k b g)⟩,⟨1,35,3,[]⟩,⟨0,35,3,[[i64 lL,i64 lu,.own 0 0 (List.length (Sh.put k b g))]]⟩,FJ,⟨1,35,3,[]⟩]) (by simp only[Sh.GP])) ?_;exact AT [0,2,3] AA (by decide) rfl AA (.deep (Ah An) (.raw AA AA (.raw AA AA .nil))) (.same AA)) (CO (by kernel_rfl) ((e _ _ _).1 l)) rfl)
   have h:pX 3 (bm 14 2047) ⟨67,Aa (Sq p0 p2 ((5,CK)::(8,Iw)::Pm s0 b [(50,ow 0 0 k),(51,i64 b),(52,Cw p0),(57,.agg (L8 d)),(58,i64 a),(59,.fn 28 [])])),cI k b d lL lu []⟩:=(e _ _ _).2 (by
    refine xa [11] ⟨?_,fa⟩
    ·refine xo 11 ?_;refine Gy (rowsP:=[Db d]) (rows0:=[Db d]) (rows1:=[CU]) (rows2:=[Db g]) (rows1':=[CU]) (rows2':=[Db g]) (st':=[⟨0,35,3,hole k (BZ 35) b (L8 d)⟩,CU,RL lL lu k,FJ,Db g]) (v':=(.agg (Ly g))) [1] AH (hb 56) (mL F) rfl (by decide) rfl AA (.deep (Ah An) .nil) rfl AA (.pure (by intro x C;cases C) .nil) (.deep (Ah An) .nil) rfl AA ?_;refine AF ⟨AA,?_⟩;refine Gm 12 (v:=(.ptr 0 0 (Int.toNat b) 0)) rfl (by kernel_rfl) (by kernel_rfl) (TG BT AA AA AA AA o) ?_;exact xt e f)
   have p:pX 4 (bm 14 1791) ⟨67,Aa (Sq p0 p2 ((5,CV)::(8,CK)::Pm s0 b [(50,ow 0 0 k),(51,i64 b),(52,Cw p0),(56,.ptr 0 0 (Int.toNat b) 0),(58,i64 a),(59,.fn 28 [])])),[Hx k,RL lL lu k,FJ]⟩:=(e _ _ _).2 (by
    refine xa [8] ⟨?_,fa⟩
    ·refine xo 8 ?_;exact AR (Hq (id:=0) (j:=2) (i:=b) (c:=d) (ys:=d.kids) (encY:=(BZ 35)) rfl o (E4 _) rfl AA AA AA) (zz (.agg (QA d)) (Ar BG AA AA (Ft o) kS rfl) rfl (MZ e h (by exact MY (L:=(Sq p0 p2 ((5,CK)::(8,Iw)::Pm s0 b [(50,ow 0 0 k),(51,i64 b),(52,Cw p0),(57,.agg (L8 d)),(58,i64 a),(59,.fn 28 [])]))) (st':=(cI k b d lL lu [])) (st1:=[⟨0,35,3,hole k (BZ 35) b (QA d)⟩,Db d,RL lL lu k,FJ]) [0,3,1,2] AA (by decide) rfl AA (.hol (Ah An) (JA HJ) rfl AA (.deep (Ah An) (.raw AA AA (.raw AA AA .nil)))) (.same AA)))))
   have q:pX 4 (bm 14 2045) ⟨67,Aa (Sq p0 p2 ((5,CK)::(8,Iw)::Pm s0 b [(49,.ptr 2 0 0 2),(51,i64 b),(52,Cw p0),(57,.agg (L8 d)),(58,i64 a),(59,.fn 28 [])])),cI k b d lL lu []⟩:=(e _ _ _).2 (by
    refine xa [1,11] ⟨?_,?_,fa⟩
    ·exact xq tb e h
    ·refine xo 11 ?_;refine Gy (rowsP:=[Db d]) (rows0:=[Db d]) (rows1:=[CU]) (rows2:=[Db g]) (rows1':=[CU]) (rows2':=[Db g]) (st':=[⟨0,35,3,hole k (BZ 35) b (L8 d)⟩,CU,RL lL lu k,FJ,Db g]) (v':=(.agg (Ly g))) [1] AH (hb 56) (mL F) rfl (by decide) rfl AA (.deep (Ah An) .nil) rfl AA (.pure (by intro x C;cases C) .nil) (.deep (Ah An) .nil) rfl AA ?_;refine AF ⟨AA,?_⟩;refine BQ tb 1 AA (by kernel_rfl) rfl ?_;refine Gm 12 (v:=(.ptr 0 0 (Int.toNat b) 0)) rfl (by kernel_rfl) (by kernel_rfl) (TG BT AA AA AA AA o) ?_;exact xt e f)
   have t:pX 5 (bm 14 1789) ⟨67,Aa (Sq p0 p2 ((5,CV)::(8,CK)::Pm s0 b [(49,.ptr 1 0 0 2),(51,i64 b),(52,Cw p0),(56,.ptr 0 0 (Int.toNat b) 0),(58,i64 a),(59,.fn 28 [])])),[Hx k,RL lL lu k,FJ]⟩:=(e _ _ _).2 (by
    refine xa [1,8] ⟨?_,?_,fa⟩
    ·exact xq tb e p
    ·refine xo 8 ?_;exact AR (Hq (id:=0) (j:=2) (i:=b) (c:=d) (ys:=d.kids) (encY:=(BZ 35)) rfl o (E4 _) rfl AA AA AA) (zz (.agg (QA d)) (Ar BG AA AA (Ft o) kS rfl) rfl (MZ e q (by exact MY (L:=(Sq p0 p2 ((5,CK)::(8,Iw)::Pm s0 b [(49,.ptr 2 0 0 2),(51,i64 b),(52,Cw p0),(57,.agg (L8 d)),(58,i64 a),(59,.fn 28 [])]))) (st':=(cI k b d lL lu [])) (st1:=[⟨0,35,3,hole k (BZ 35) b (QA d)⟩,Db d,RL lL lu k,FJ]) [0,3,1,2] AA (by decide) rfl AA (.hol (Ah An) (JA HJ) rfl AA (.deep (Ah An) (.raw AA AA (.raw AA AA .nil)))) (.same AA)))))
   refine (e _ _ _).2 ?_;refine BQ tb 0 AA (by kernel_rfl) rfl ?_;refine BQ tb 2 AA (by kernel_rfl) rfl ?_;refine BQ tb 3 AA (by kernel_rfl) rfl ?_;refine BQ tb 4 AA (by kernel_rfl) rfl ?_;refine BQ tb 5 AA (by kernel_rfl) rfl ?_;refine BQ tb 6 AA (by kernel_rfl) rfl ?_;refine Gm 7 (v:=(.ptr 0 0 (Int.toNat b) 0)) rfl (by kernel_rfl) (by kernel_rfl) (CC BT AA AA AA AA o) ?_;refine BQ tb 9 AA (by kernel_rfl) rfl ?_;refine BQ tb 10 AA (by kernel_rfl) rfl ?_;exact xt e t
  refine AU (AE λb6 S=>bs y λT D y=>?_);have U:∀(K:Bool),T=K->∀s,Wk 1 s ⟨67,Aa (Sq p0 p2 ((5,CV)::(8,CK)::(9,i64 b)::(10,i64 p2)::Pm s0 b [(18,.bool K)])),[Hx k,RL lL lu k,FJ]⟩->b6 s:=by
   intro K hq s I;subst T;refine S _ (AJ I ?_);refine ci y AA ?_ ?_<;>clear y<;>intro c4 y
   ·exact AI AA (zm tb 3 AA (AF (J (Sh.w (p2+1)) (Sh.AD y).symm _ (AK AA))))
   ·refine AE λb7 V=>bs y λW D y=>?_;have X:∀(M:Bool),W=M->∀s,Wk 1 s ⟨67,Aa (Sq p0 p2 ((5,CV)::(8,CK)::(9,i64 b)::(10,i64 p2)::Pm s0 b [(28,.bool M)])),[Hx k,RL lL lu k,FJ]⟩->b7 s:=by
     intro M hq s I;subst W;refine V _ (AJ I ?_);refine ci y AA ?_ ?_<;>clear y<;>intro c5 y
     ·refine AI AA (zm tb 5 AA (bs y λb8 Y y=>CD (v':=(ow 3 0 b8)) AH (hb 66) (N9 Y) rfl AA ⟨(By λ_=>AA),fa⟩ AA AA (zm tb 2 AA (bs y λb9 G y=>zz (.ptr 3 0 (Int.toNat (Sh.w (b-1))) 0) (CC BM AA AA AA AA G) rfl (zz (i64 b9) (Bp Gp AA AA (CS G) rfl) rfl (bs y λc0 Z y=>zc (hb 92) (MC Z) rfl AA AA (zl tb AA AA (zm tb 2 AA ?_))))))));exact AF (J (Sh.w (p2+(Sh.len c0))) (Sh.AD y).symm _ (AT [0,1,2] AA (by decide) rfl AA (.deep (Ah An) (.raw AA AA (.raw AA AA .nil))) (.same AA)))
     ·exact AL (J p2 (Sh.AD y).symm _ (AK AA))
    refine AI AA (zm tb 4 AA ?_);rcases Sh.Aj D with ⟨A,D⟩|⟨A,D⟩
    ·exact zg tb A AA (zg tb A AA (zt A AA (zq tb AA (AF (X (decide (0<b)) (Sh.AD D).symm _ (AK AA))))))
    ·exact zs A AA (zs A AA (zf A AA (zq tb AA (AF (X false (Sh.AD D).symm _ (AK AA))))))
  refine AI AA (zm tb 4 AA ?_);rcases Sh.Aj D with ⟨B,D⟩|⟨B,D⟩
  ·exact zg tb B AA (zg tb B AA (zt B AA (zq tb AA (AF (U (decide (b=1)) (Sh.AD D).symm _ (AK AA))))))
  ·exact zs B AA (zs B AA (zf B AA (zq tb AA (AF (U false (Sh.AD D).symm _ (AK AA))))))
 ·exact BB (M7 k (Sh.AD z).symm _ (AK AA))
theorem NO {N:Nat}:∀(n:Nat),∀{s0:(List AG)} {p0:(List AN)} {lL:Int} {lu:Int} {p2:Int} {r:AG},EM N n s0 p0 lL lu p2=some r->Ac Tryz.prog 56 [Cw p0,.agg [i64 lL,i64 lu,ow 0 0 s0],i64 p2,.fn 28 []] [Hx s0] (λv st=>v=(.agg (L8 r))/\st=[CU,Db r]):=by
 intro n
 induction n with
 | zero=>intro s0 p0 lL lu p2 r a;cases a
 | succ n ih=>
  intro s0 p0 lL lu p2 r a;rw[EM]at a;exact Nn (λh=>ih h) a
theorem Ki {N:Nat}:∀{s0:(List AG)} {p0:(List AN)} {lL:Int} {lu:Int} {p2:Int} {r:AG},IW N s0 p0 lL lu p2=some r->Ac Tryz.prog 56 [Cw p0,.agg [i64 lL,i64 lu,ow 0 0 s0],i64 p2,.fn 28 []] [Hx s0] (λv st=>v=(.agg (L8 r))/\st=[CU,Db r]):=by
 intro s0 p0 lL lu p2 r a;exact NO N a
end Go.Proofs.YtihdgoiebmfapaaGreat
