import Derived.Test.YtihdgoiebmfapaaGreatFTWalkP2
set_option linter.all false
namespace Go.Proofs.YtihdgoiebmfapaaGreat
open Go Go.Abs RC
attribute [local irreducible] Go.Abs.D6
set_option maxRecDepth 100000
set_option maxHeartbeats 4000000
theorem LY {N:Nat}{oW:(List Int)->BO->AE->Option (Int)}(oa :∀{s0:(List Int)} {p0:BO} {p2:AE} {r:Int},oW s0 p0 p2=some r->Ab Tryz.prog 81 [Jy p0,ow 0 0 s0,Bc p2] [Bl s0] (λv st=>v=(i64 r)/\st=[Bl s0])){s0:(List Int)}{p0:BO}{p2:AE}{r:Int}(h0:Ao N oW s0 p0 p2=some r):Ab Tryz.prog 81 [Jy p0,ow 0 0 s0,Bc p2] [Bl s0] (λv st=>v=(i64 r)/\st=[Bl s0]):=by
 unfold Ao at h0;refine ai Tryz.func81 AA AA AA AA (sr AA λK1 q8=>Bf (m:=1) AI AA AA AA AA AA (Bf (m:=2) AI AA AA AA AA AA (zq tb AA (dn q8 AA (AG λK2 q9=>zr tb AA AA (AU (zr tb AA AA ?_)))))));refine ci h0 AA ?_ ?_<;>clear h0<;>intro b5 h0
 ·refine AG λK6 t0=>AG λK7 t1=>bs h0 λo9 d h0=>?_;have M9:∀(t8:Bool),o9=t8->∀s,Wk 1 s ⟨194,Aa [(1,ow 0 0 s0),(5,CS),(36,.bool t8)],[Bl s0,PX p2.op p2.num p2.kids]⟩->K7 s:=by
   intro t8 hq s hw;subst o9;try dsimp only at h0
   refine t1 _ (AK hw ?_);refine ci h0 AA ?_ ?_<;>clear h0<;>intro w5 h0
   ·refine zr tb AA AA ?_;obtain rfl:=Sh.AB h0;exact Aq (xr (AT (L:=[(6,i64 (-1))]) (st':=[Bl s0]) [0] AA (by decide) rfl AA (.pure (AD λ_=>AA) .nil) ⟨.rfl,jf⟩))
   ·refine AL (t0 _ (sr AA λw6 g5=>zm tb 3 AA (bs h0 λg6 c5 h0=>zz (.ptr 0 0 (Int.toNat p2.num) 0) (Bz BQ AA AA AA AA c5) rfl (zz (i64 g6) (Bx HV AA AA (CU c5) rfl) rfl (zq tb AA (dn g5 AA ?_))))));obtain rfl:=Sh.AB h0;exact Aq (xr (AT (L:=[(6,i64 g6)]) (st':=[Bl s0]) [0] AA (by decide) rfl AA (.pure (AD λ_=>AA) .nil) ⟨.rfl,jf⟩))
  refine AH AA (zm tb 2 AA (zl tb AA AA (zm tb 2 AA ?_)));rcases Sh.Ak d with ⟨T,d⟩|⟨T,d⟩
  ·refine zs T AA (zs T AA (zs T AA (zt T AA (zq tb AA ?_))));iterate 5 refine zs rfl rfl ?_
   exact zt AA AA (AF (M9 true (Sh.AB d).symm _ (AT [0,2] AA (by decide) rfl AA (.pure (AD λ_=>AA) (.raw AA AA .nil)) (.same AA))))
  ·refine zg tb T AA (zg tb T AA (zg tb T AA (zf T AA (zq tb AA ?_))));rcases Sh.Ak d with ⟨O,d⟩|⟨O,d⟩
   ·refine zs O AA ?_;iterate 4 refine zs O rfl ?_
    exact zt O AA (AF (M9 true (Sh.AB d).symm _ (AT [0,2] AA (by decide) rfl AA (.pure (AD λ_=>AA) (.raw AA AA .nil)) (.same AA))))
   ·exact zg tb O AA (zg tb O AA (zg tb O AA (Ba (v:=(G8 s0)) (CW AA AA O) rfl (Cr Fp AA AA AA) (zg tb O AA (zf O AA (AF (M9 (decide ((Sh.len s0)<=p2.num)) (Sh.AB d).symm _ (AT [0,2] AA (by decide) rfl AA (.pure (AD λ_=>AA) (.raw AA AA .nil)) (.same AA)))))))))
 ·refine zr tb AA AA ?_;refine ci h0 AA ?_ ?_<;>clear h0<;>intro w7 h0
  ·refine AG λw8 g7=>AG λt2 g8=>bs h0 λg9 d h0=>?_;have h2:∀(d0:Bool),g9=d0->∀s,Wk 1 s ⟨194,Aa [(1,ow 0 0 s0),(3,CS),(5,CY),(52,.bool d0)],Y6 s0 p0 p2 []⟩->t2 s:=by
    intro d0 hq s hw;subst g9;try dsimp only at h0
    refine g8 _ (AK hw ?_);refine ci h0 AA ?_ ?_<;>clear h0<;>intro w9 h0
    ·refine zr tb AA AA ?_;obtain rfl:=Sh.AB h0;exact Aq (xr (AT (L:=[(6,i64 (-1))]) (st':=[Bl s0]) [0] AA (by decide) rfl AA (.pure (AD λ_=>AA) .nil) ⟨.rfl,jf⟩))
    ·refine AL (g7 _ (AG λA0 h3=>Cd (by kernel_rfl) (by kernel_rfl) (by rfl) ?_));iterate 4 refine yq tb rfl ?_
     refine bs h0 λt3 h4 h0=>yz (Da t3) (By BU AA AA h4 (Ai _) rfl) rfl (yq tb AA (bs h0 λg h5 h0=>VV (rowsP:=[Bl s0]) (rows0:=[Bl s0]) (rows1:=[Bl s0]) (rows1':=[Bl s0]) (v':=(i64 g)) [0] AI (hb 81) (oa h5) rfl (by decide) rfl AA (.pure (AD λ_=>AA) .nil) rfl AA (.pure (AD λ_=>AA) .nil) rfl AA (yq tb AA (Aw (h3 _ (AG λA1 h6=>zr tb AA AA ?_))))));refine ci h0 AA ?_ ?_<;>clear h0<;>intro A2 h0
     ·refine zr tb AA AA ?_;obtain rfl:=Sh.AB h0;exact Aq (xr (AT (L:=[(6,i64 (-1))]) (st':=[Bl s0]) [0] AA (by decide) rfl AA (.pure (AD λ_=>AA) .nil) ⟨.rfl,jf⟩))
     ·refine AL (h6 _ (AG λA3 c6=>?_));refine H9 (by kernel_rfl) ?_;refine bs h0 λf S h0=>bs h0 λh z h0=>bs h0 λb4 c7 h0=>AX.two (Bl s0) (Bl f) λsT tX a e=>?_;have p:tX 0 (bm 11 2047) ⟨194,Aa [(6,i64 b4)],[Bl f]⟩:=(e _ _ _).2 (by
       refine Hc AA (by kernel_rfl) ⟨⟨_,AA⟩,c6 _ ?_⟩;obtain rfl:=Sh.AB h0;exact Aq (Exists.intro _ (And.intro (Ag (L:=[(6,i64 b4)]) (.same AA)) (And.intro AA AA))))
      have b:tX 2 (bm 11 511) ⟨194,Aa [(62,Jy p0),(66,ow 0 0 f),(70,Bc h)],[Bl f]⟩:=(e _ _ _).2 (by
       refine xa [9] ⟨?_,jf⟩
       ·refine xo 9 ?_;refine CL (rows0:=[Bl f]) (rows1:=[Bl f]) (st':=[Bl f]) (v':=(i64 b4)) [0] AI (hb 81) (oa c7) rfl (by decide) rfl AA (.pure (AD λ_=>AA) .nil) rfl AA (.pure (AD λ_=>AA) .nil) .nil AA AA ?_;refine AF ⟨AA,?_⟩;refine BX tb 10 AA (by kernel_rfl) rfl ?_;exact xt e p)
      have P:tX 5 (bm 11 63) ⟨194,Aa [(62,Jy p0),(66,ow 0 0 f),(67,.ptr 1 0 0 2)],[Bl f,PX p2.op p2.num p2.kids]⟩:=(e _ _ _).2 (by
       refine BX tb 6 AA (by kernel_rfl) rfl (Hl 7 (v:=(Da h)) rfl (by kernel_rfl) (by kernel_rfl) (By BU AA AA z (Ai _) rfl) (BX tb 8 AA (by kernel_rfl) rfl ?_));exact xw e b (by exact AT [0] AA (by decide) rfl AA (.pure (AD λ_=>AA) .nil) (.same AA)))
      have q:sT 0 (bm 11 2047) ⟨194,Aa [(6,i64 b4)],[Bl s0]⟩:=(a _ _ _).2 (by
       refine Hc AA (by kernel_rfl) (c6 _ ?_);obtain rfl:=Sh.AB h0;exact Aq (Exists.intro _ (And.intro (Ag (L:=[(6,i64 b4)]) (.same AA)) (And.intro AA AA))))
      have c:sT 2 (bm 11 511) ⟨194,Aa [(62,Jy p0),(66,ow 1 0 f),(70,Bc h)],[Bl s0,Bl f]⟩:=(a _ _ _).2 (by
       refine xa [9] ⟨?_,jf⟩
       ·refine xo 9 (CL (rows0:=[Bl f]) (rows1:=[Bl f]) (st':=[Bl s0,Bl f]) (v':=(i64 b4)) [1] AI (hb 81) (oa c7) rfl (by decide) rfl AA (.pure (AD λ_=>AA) .nil) rfl AA (.pure (AD λ_=>AA) .nil) .nil AA AA (AF ⟨AA,(BX tb 10 AA (by kernel_rfl) rfl ?_)⟩));exact xw a q (by exact AT [0] AA (by decide) rfl AA (.pure (AD λ_=>AA) .nil) (.same AA)))
      have Q:sT 5 (bm 11 63) ⟨194,Aa [(62,Jy p0),(66,ow 1 0 f),(67,.ptr 2 0 0 2)],[Bl s0,Bl f,PX p2.op p2.num p2.kids]⟩:=(a _ _ _).2 (by
       refine BX tb 6 AA (by kernel_rfl) rfl (Hl 7 (v:=(Da h)) rfl (by kernel_rfl) (by kernel_rfl) (By BU AA AA z (Ai _) rfl) (BX tb 8 AA (by kernel_rfl) rfl ?_));exact xw a c (by exact AT [0,1] AA (by decide) rfl AA (.pure (AD λ_=>AA) (.pure (AD λ_=>AA) .nil)) (.same AA)))
      have C:tX 3 (bm 11 255) ⟨194,Aa [(62,Jy p0),(66,ow 0 0 f),(69,Da h)],[Bl f]⟩:=(e _ _ _).2 (by
       exact BX tb 8 AA (by kernel_rfl) rfl (xt e b))
      have D:sT 3 (bm 11 255) ⟨194,Aa [(62,Jy p0),(66,ow 1 0 f),(69,Da h)],[Bl s0,Bl f]⟩:=(a _ _ _).2 (by
       exact BX tb 8 AA (by kernel_rfl) rfl (xt a c))
      have k:sT 3 (bm 11 495) ⟨194,Aa [(62,Jy p0),(63,ow 0 0 s0),(65,ow 1 0 [g]),(70,Bc h)],[Bl s0,ro 0 3 1 eI [g]]⟩:=(a _ _ _).2 (by
       refine xa [4] ⟨?_,jf⟩
       ·refine J5 (l:=s0) (l2:=[g]) (l':=f) rfl AA BQ (Hn (AD λ_=>AA) (λ_ hq=>nomatch hq)) rfl AA AA (HO AA AA) rfl (λ_=>AA) (λ_=>(AD λ_=>AA)) S ?_ ?_
        ·exact xw e b (by exact AT [0] AA (by decide) rfl AA (.pure (AD λ_=>AA) .nil) (.same AA))
        ·exact xw a c (by exact AT [0,2] AA (by decide) rfl AA (.pure (AD λ_=>AA) (.pure (AD λ_=>AA) .nil)) (.same AA)))
      have o:sT 4 (bm 11 239) ⟨194,Aa [(62,Jy p0),(63,ow 0 0 s0),(65,ow 1 0 [g]),(69,Da h)],[Bl s0,ro 0 3 1 eI [g]]⟩:=(a _ _ _).2 (by
       refine xa [4,8] ⟨?_,?_,jf⟩
       ·refine J5 (l:=s0) (l2:=[g]) (l':=f) rfl AA BQ (Hn (AD λ_=>AA) (λ_ hq=>nomatch hq)) rfl AA AA (HO AA AA) rfl (λ_=>AA) (λ_=>(AD λ_=>AA)) S ?_ ?_
        ·exact xw e C (by exact AT [0] AA (by decide) rfl AA (.pure (AD λ_=>AA) .nil) (.same AA))
        ·exact xw a D (by exact AT [0,2] AA (by decide) rfl AA (.pure (AD λ_=>AA) (.pure (AD λ_=>AA) .nil)) (.same AA))
       ·exact xq tb a k)
      have G:sT 6 (bm 11 47) ⟨194,Aa [(62,Jy p0),(63,ow 0 0 s0),(65,ow 1 0 [g]),(67,.ptr 2 0 0 2)],[Bl s0,ro 0 3 1 eI [g],PX p2.op p2.num p2.kids]⟩:=(a _ _ _).2 (by
       refine xa [4,6] ⟨?_,?_,jf⟩
       ·refine J5 (l:=s0) (l2:=[g]) (l':=f) rfl AA BQ (Hn (AD λ_=>AA) (Hn (EO AA) (λ_ hq=>nomatch hq))) rfl AA AA (HO AA AA) rfl (λ_=>AA) (λ_=>(AD λ_=>AA)) S ?_ ?_
        ·exact xw e P (by exact AT [0,2] AA (by decide) rfl AA (.pure (AD λ_=>AA) (.raw AA AA .nil)) (.same AA))
        ·exact xw a Q (by exact AT [0,3,2] AA (by decide) rfl AA (.pure (AD λ_=>AA) (.pure (AD λ_=>AA) (.raw AA AA .nil))) (.same AA))
       ·refine xo 6 (zq tb AA (AF ⟨AA,(Hl 7 (v:=(Da h)) rfl (by kernel_rfl) (by kernel_rfl) (By BU AA AA z (Ai _) rfl) ?_)⟩));exact xw a o (by exact AT [0,1] AA (by decide) rfl AA (.pure (AD λ_=>AA) (.pure (AD λ_=>AA) .nil)) (.same AA)))
      have t:sT 4 (bm 11 487) ⟨194,Aa [(62,Jy p0),(63,ow 0 0 s0),(64,i64 g),(70,Bc h)],[Bl s0]⟩:=(a _ _ _).2 (by
       refine xa [3] ⟨?_,jf⟩
       ·refine xo 3 ?_;refine BF (m:=1) (l:=[g]) (enc:=eI) AI BQ (by decide) rfl AA AA AA AA AA ?_;exact xd a k)
      have A:sT 5 (bm 11 231) ⟨194,Aa [(62,Jy p0),(63,ow 0 0 s0),(64,i64 g),(69,Da h)],[Bl s0]⟩:=(a _ _ _).2 (by
       refine xa [3,8] ⟨?_,?_,jf⟩
       ·refine xo 3 ?_;refine BF (m:=1) (l:=[g]) (enc:=eI) AI BQ (by decide) rfl AA AA AA AA AA ?_;exact xd a o
       ·exact xq tb a t)
      have b6:sT 7 (bm 11 39) ⟨194,Aa [(62,Jy p0),(63,ow 0 0 s0),(64,i64 g),(67,.ptr 1 0 0 2)],[Bl s0,PX p2.op p2.num p2.kids]⟩:=(a _ _ _).2 (by
       refine xa [3,6] ⟨?_,?_,jf⟩
       ·refine xo 3 ?_;refine BF (m:=2) (l:=[g]) (enc:=eI) AI BQ (by decide) rfl AA AA AA AA AA ?_;exact NU a G (by exact AT [0,2,1] AA (by decide) rfl AA (.pure (AD λ_=>AA) (.pure (AD λ_=>AA) (.raw AA AA .nil))) (.same AA))
       ·refine xo 6 (zq tb AA (AF ⟨AA,(Hl 7 (v:=(Da h)) rfl (by kernel_rfl) (by kernel_rfl) (By BU AA AA z (Ai _) rfl) ?_)⟩));exact xw a A (by exact AT [0] AA (by decide) rfl AA (.pure (AD λ_=>AA) .nil) (.same AA)))
      have U:tX 6 (bm 11 62) ⟨194,Aa [(3,CS),(66,ow 0 0 f),(67,.ptr 2 0 0 2)],Y6 f p0 p2 []⟩:=(e _ _ _).2 (by
       refine BX tb 0 AA (by kernel_rfl) rfl (BX tb 6 AA (by kernel_rfl) rfl (Hl 7 (v:=(Da h)) rfl (by kernel_rfl) (by kernel_rfl) (By BU AA AA z (Ai _) rfl) (BX tb 8 AA (by kernel_rfl) rfl ?_)));exact xw e b (by exact AT [0] AA (by decide) rfl AA (.pure (AD λ_=>AA) .nil) (.same AA)))
      have V:sT 6 (bm 11 62) ⟨194,Aa [(3,CS),(66,ow 2 0 f),(67,.ptr 3 0 0 2)],[Bl s0,LW p0,Bl f,PX p2.op p2.num p2.kids]⟩:=(a _ _ _).2 (by
       refine BX tb 0 AA (by kernel_rfl) rfl (BX tb 6 AA (by kernel_rfl) rfl (Hl 7 (v:=(Da h)) rfl (by kernel_rfl) (by kernel_rfl) (By BU AA AA z (Ai _) rfl) (BX tb 8 AA (by kernel_rfl) rfl ?_)));exact xw a c (by exact AT [0,2] AA (by decide) rfl AA (.pure (AD λ_=>AA) (.pure (AD λ_=>AA) .nil)) (.same AA)))
      have H:tX 4 (bm 11 254) ⟨194,Aa [(3,CS),(66,ow 0 0 f),(69,Da h)],[Bl f,LW p0]⟩:=(e _ _ _).2 (by
       refine BX tb 0 AA (by kernel_rfl) rfl (BX tb 8 AA (by kernel_rfl) rfl ?_);exact xw e b (by exact AT [0] AA (by decide) rfl AA (.pure (AD λ_=>AA) .nil) (.same AA)))
      have I:sT 4 (bm 11 254) ⟨194,Aa [(3,CS),(66,ow 2 0 f),(69,Da h)],[Bl s0,LW p0,Bl f]⟩:=(a _ _ _).2 (by
       refine BX tb 0 AA (by kernel_rfl) rfl (BX tb 8 AA (by kernel_rfl) rfl ?_);exact xw a c (by exact AT [0,2] AA (by decide) rfl AA (.pure (AD λ_=>AA) (.pure (AD λ_=>AA) .nil)) (.same AA)))
      have E:tX 3 (bm 11 510) ⟨194,Aa [(3,CS),(66,ow 0 0 f),(70,Bc h)],[Bl f,LW p0]⟩:=(e _ _ _).2 (by
       refine BX tb 0 AA (by kernel_rfl) rfl ?_;exact xw e b (by exact AT [0] AA (by decide) rfl AA (.pure (AD λ_=>AA) .nil) (.same AA)))
      have F:sT 3 (bm 11 510) ⟨194,Aa [(3,CS),(66,ow 2 0 f),(70,Bc h)],[Bl s0,LW p0,Bl f]⟩:=(a _ _ _).2 (by
       refine BX tb 0 AA (by kernel_rfl) rfl ?_;exact xw a c (by exact AT [0,2] AA (by decide) rfl AA (.pure (AD λ_=>AA) (.pure (AD λ_=>AA) .nil)) (.same AA)))
      have x:sT 4 (bm 11 494) ⟨194,Aa [(3,CS),(63,ow 0 0 s0),(65,ow 2 0 [g]),(70,Bc h)],[Bl s0,LW p0,ro 0 3 1 eI [g]]⟩:=(a _ _ _).2 (by
       refine xa [0,4] ⟨?_,?_,jf⟩
       ·refine xo 0 ?_;exact zq tb AA (NU a k (by exact AT [0,2] AA (by decide) rfl AA (.pure (AD λ_=>AA) (.pure (AD λ_=>AA) .nil)) (.same AA)))
       ·refine J5 (l:=s0) (l2:=[g]) (l':=f) rfl AA BQ (Hn (EO AA) (Hn (AD λ_=>AA) (λ_ hq=>nomatch hq))) rfl AA AA (HO AA AA) rfl (λ_=>AA) (λ_=>(AD λ_=>AA)) S ?_ ?_
        ·exact xw e E (by exact AT [0,1] AA (by decide) rfl AA (.pure (AD λ_=>AA) (.raw AA AA .nil)) (.same AA))
        ·exact xw a F (by exact AT [0,1,3] AA (by decide) rfl AA (.pure (AD λ_=>AA) (.raw AA AA (.pure (AD λ_=>AA) .nil))) (.same AA)))
      have B:sT 5 (bm 11 238) ⟨194,Aa [(3,CS),(63,ow 0 0 s0),(65,ow 2 0 [g]),(69,Da h)],[Bl s0,LW p0,ro 0 3 1 eI [g]]⟩:=(a _ _ _).2 (by
       refine xa [0,4,8] ⟨?_,?_,?_,jf⟩
       ·refine xo 0 ?_;exact zq tb AA (NU a o (by exact AT [0,2] AA (by decide) rfl AA (.pure (AD λ_=>AA) (.pure (AD λ_=>AA) .nil)) (.same AA)))
       ·refine J5 (l:=s0) (l2:=[g]) (l':=f) rfl AA BQ (Hn (EO AA) (Hn (AD λ_=>AA) (λ_ hq=>nomatch hq))) rfl AA AA (HO AA AA) rfl (λ_=>AA) (λ_=>(AD λ_=>AA)) S ?_ ?_
        ·exact xw e H (by exact AT [0,1] AA (by decide) rfl AA (.pure (AD λ_=>AA) (.raw AA AA .nil)) (.same AA))
        ·exact xw a I (by exact AT [0,1,3] AA (by decide) rfl AA (.pure (AD λ_=>AA) (.raw AA AA (.pure (AD λ_=>AA) .nil))) (.same AA))
       ·exact xq tb a x)
      have b7:sT 7 (bm 11 46) ⟨194,Aa [(3,CS),(63,ow 0 0 s0),(65,ow 2 0 [g]),(67,.ptr 3 0 0 2)],[Bl s0,LW p0,ro 0 3 1 eI [g],PX p2.op p2.num p2.kids]⟩:=(a _ _ _).2 (by
       refine xa [0,4,6] ⟨?_,?_,?_,jf⟩
       ·refine xo 0 ?_;exact zq tb AA (NU a G (by exact AT [0,2,3] AA (by decide) rfl AA (.pure (AD λ_=>AA) (.pure (AD λ_=>AA) (.raw AA AA .nil))) (.same AA)))
       ·refine J5 (l:=s0) (l2:=[g]) (l':=f) rfl AA BQ (Hn (EO AA) (Hn (AD λ_=>AA) (Hn (EO AA) (λ_ hq=>nomatch hq)))) rfl AA AA (HO AA AA) rfl (λ_=>AA) (λ_=>(AD λ_=>AA)) S ?_ ?_
        ·exact xw e U (by exact AT [0,1,3] AA (by decide) rfl AA (.pure (AD λ_=>AA) (.raw AA AA (.raw AA AA .nil))) (.same AA))
        ·exact xw a V (by exact AT [0,1,4,3] AA (by decide) rfl AA (.pure (AD λ_=>AA) (.raw AA AA (.pure (AD λ_=>AA) (.raw AA AA .nil)))) (.same AA))
       ·refine xo 6 (zq tb AA (AF ⟨AA,(Hl 7 (v:=(Da h)) rfl (by kernel_rfl) (by kernel_rfl) (By BU AA AA z (Ai _) rfl) ?_)⟩));exact xw a B (by exact AT [0,1,2] AA (by decide) rfl AA (.pure (AD λ_=>AA) (.raw AA AA (.pure (AD λ_=>AA) .nil))) (.same AA)))
      have Y:sT 5 (bm 11 486) ⟨194,Aa [(3,CS),(63,ow 0 0 s0),(64,i64 g),(70,Bc h)],[Bl s0,LW p0]⟩:=(a _ _ _).2 (by
       refine xa [0,3] ⟨?_,?_,jf⟩
       ·refine xo 0 ?_;exact zq tb AA (NU a t (by exact AT [0] AA (by decide) rfl AA (.pure (AD λ_=>AA) .nil) (.same AA)))
       ·refine xo 3 ?_;refine BF (m:=2) (l:=[g]) (enc:=eI) AI BQ (by decide) rfl AA AA AA AA AA ?_;exact xd a x)
      have b1:sT 6 (bm 11 230) ⟨194,Aa [(3,CS),(63,ow 0 0 s0),(64,i64 g),(69,Da h)],[Bl s0,LW p0]⟩:=(a _ _ _).2 (by
       refine xa [0,3,8] ⟨?_,?_,?_,jf⟩
       ·refine xo 0 ?_;exact zq tb AA (NU a A (by exact AT [0] AA (by decide) rfl AA (.pure (AD λ_=>AA) .nil) (.same AA)))
       ·refine xo 3 ?_;refine BF (m:=2) (l:=[g]) (enc:=eI) AI BQ (by decide) rfl AA AA AA AA AA ?_;exact xd a B
       ·exact xq tb a Y)
      have b9:sT 8 (bm 11 38) ⟨194,Aa [(3,CS),(63,ow 0 0 s0),(64,i64 g),(67,.ptr 2 0 0 2)],Y6 s0 p0 p2 []⟩:=(a _ _ _).2 (by
       refine xa [0,3,6] ⟨?_,?_,?_,jf⟩
       ·refine xo 0 ?_;exact zq tb AA (NU a b6 (by exact AT [0,2] AA (by decide) rfl AA (.pure (AD λ_=>AA) (.raw AA AA .nil)) (.same AA)))
       ·refine xo 3 ?_;refine BF (m:=3) (l:=[g]) (enc:=eI) AI BQ (by decide) rfl AA AA AA AA AA ?_;exact NU a b7 (by exact AT [0,1,3,2] AA (by decide) rfl AA (.pure (AD λ_=>AA) (.raw AA AA (.pure (AD λ_=>AA) (.raw AA AA .nil)))) (.same AA))
       ·refine xo 6 (zq tb AA (AF ⟨AA,(Hl 7 (v:=(Da h)) rfl (by kernel_rfl) (by kernel_rfl) (By BU AA AA z (Ai _) rfl) ?_)⟩));exact xw a b1 (by exact AT [0,1] AA (by decide) rfl AA (.pure (AD λ_=>AA) (.raw AA AA .nil)) (.same AA)))
      exact (a _ _ _).2 (BX tb 1 AA (by kernel_rfl) rfl (BX tb 2 AA (by kernel_rfl) rfl (BX tb 5 AA (by kernel_rfl) rfl (xt a b9))))
   refine AH AA (zm tb 2 AA (zl tb AA AA (zm tb 2 AA ?_)));rcases Sh.Ak d with ⟨W,d⟩|⟨W,d⟩
   ·exact zs W AA (zs W AA (zs W AA (zt W AA (AF (h2 true (Sh.AB d).symm _ (AJ AA))))))
   ·exact zg tb W AA (zg tb W AA (zg tb W AA (zf W AA (AF (h2 (!decide (p2.num=0)) (Sh.AB d).symm _ (AJ AA))))))
  ·refine zr tb AA AA ?_;refine ci h0 AA ?_ ?_<;>clear h0<;>intro A4 h0
   ·refine AG λA5 h7=>AG λt4 h8=>bs h0 λh9 d h0=>?_;have d1:∀(d2:Bool),h9=d2->∀s,Wk 1 s ⟨194,Aa [(1,ow 0 0 s0),(3,CS),(5,CY),(92,.bool d2)],Y6 s0 p0 p2 []⟩->t4 s:=by
     intro d2 hq s hw;subst h9;try dsimp only at h0
     refine h8 _ (AK hw ?_);refine ci h0 AA ?_ ?_<;>clear h0<;>intro A6 h0
     ·refine zr tb AA AA ?_;obtain rfl:=Sh.AB h0;exact Aq (xr (AT (L:=[(6,i64 (-1))]) (st':=[Bl s0]) [0] AA (by decide) rfl AA (.pure (AD λ_=>AA) .nil) ⟨.rfl,jf⟩))
     ·refine AL (h7 _ (AG λA7 k0=>Bv 7 (by kernel_rfl) (by kernel_rfl) (by rfl) ?_));iterate 4 refine yq tb rfl ?_
      refine bs h0 λA8 k1 h0=>ae (i:=1) (j:=Sh.len p2.kids) AI BU AA AA AA DS k1 (bs h0 λA9 k2 h0=>iu (enc:=(eS eI)) (u:=[]) AI NK AA AA AA k2 (AD λ_=>AA) (bs h0 λk3 k4 h0=>YV (v':=(i64 k3)) AI (hb 112) (Io oa k4) rfl (.val AA (.own AA AA (λ_=>AA) (.val AA (.val AA .nil)))) rfl AA (Aw (zq tb AA (dn k0 AA ?_)))));obtain rfl:=Sh.AB h0;exact Aq (xr (AT (L:=[(6,i64 k3)]) (st':=[Bl s0]) [0] AA (by decide) rfl AA (.pure (AD λ_=>AA) .nil) ⟨.rfl,jf⟩))
    refine Cd (by kernel_rfl) (by kernel_rfl) (by rfl) ?_;iterate 2 refine yq tb rfl ?_
    refine yl tb AA AA ?_;iterate 2 refine yq tb rfl ?_
    rcases Sh.Ak d with ⟨b2,d⟩|⟨b2,d⟩
    ·refine ys b2 AA ?_;iterate 2 refine ys b2 rfl ?_
     refine yt b2 AA (yq tb AA ?_);iterate 8 refine ys rfl rfl ?_
     exact yt AA AA (Aw (d1 true (Sh.AB d).symm _ (AJ AA)))
    ·refine yg tb b2 AA ?_;iterate 2 refine yg tb b2 rfl ?_
     refine yf b2 AA (yq tb AA ?_);rcases Sh.Ak d with ⟨J,d⟩|⟨J,d⟩
     ·refine ys J AA ?_;iterate 7 refine ys J rfl ?_
      exact yt J AA (Aw (d1 true (Sh.AB d).symm _ (AJ AA)))
     ·refine yg tb J AA ?_;iterate 3 refine yg tb J rfl ?_
      exact bs d λt5 k5 d=>H5 (v:=(Da t5)) (CW AA AA J) rfl (By BU AA AA k5 (Ai _) rfl) (yg tb J AA (bs d λk6 k7 d=>VV (rowsP:=[Bl s0]) (rows0:=[Bl s0]) (rows1:=[Bl s0]) (rows1':=[Bl s0]) (v':=(i64 k6)) [0] (CW AA AA J) (hb 81) (oa k7) rfl (by decide) rfl AA (.pure (AD λ_=>AA) .nil) rfl AA (.pure (AD λ_=>AA) .nil) rfl AA (yg tb J AA (yf J AA (Aw (d1 (!decide (k6=0)) (Sh.AB d).symm _ (AJ AA)))))))
   ·refine zr tb AA AA ?_;refine ci h0 AA ?_ ?_<;>clear h0<;>intro B0 h0
    ·refine sr AA λB1 k8=>zm tb 4 AA (bs h0 λy k9 h0=>CM (v':=(ow 3 0 y)) AI (hb 66) (LU k9) rfl AA ⟨(CQ λ_=>AA),jf⟩ AA AA (zq tb AA (dn k8 AA (AG λB2 l0=>AG λt6 l1=>bs h0 λl3 d h0=>?_))));have d3:∀(d4:Bool),l3=d4->∀s,Wk 1 s ⟨194,Aa [(1,ow 0 0 s0),(3,CS),(5,CY),(8,ow 3 0 y),(130,.bool d4)],Y6 s0 p0 p2 [Bl y]⟩->t6 s:=by
      intro d4 hq s hw;subst l3;try dsimp only at h0
      refine l1 _ (AK hw ?_);refine ci h0 AA ?_ ?_<;>clear h0<;>intro B3 h0
      ·refine zr tb AA AA ?_;obtain rfl:=Sh.AB h0;exact Aq (xr (AT (L:=[(6,i64 (-1))]) (st':=[Bl s0]) [0] AA (by decide) rfl AA (.pure (AD λ_=>AA) .nil) ⟨.rfl,jf⟩))
      ·refine AL (l0 _ (sr AA λB4 l4=>zq tb AA (zz (G8 y) (Cr Fp AA AA AA) rfl (bs h0 λt7 l5 h0=>Yj (m:=4) (enc:=(eS eI)) (u:=[]) AI NK AA AA AA l5 AA AA (zq tb AA (dn l4 AA (AG λt9 l6=>sr AA λB5 l7=>zq tb AA (zz (G8 y) (Cr Fp AA AA AA) rfl (zq tb AA (dn l7 AA (bs h0 λd5 d h0=>?_)))))))))));have v0:∀(c4:(List (List Int))),d5=c4->∀s,Wk 1 s ⟨194,Aa [(1,ow 0 0 s0),(3,CS),(5,CY),(9,ow 3 0 c4)],Y6 s0 p0 p2 [ro 0 32 1 (eS eI) c4]⟩->t9 s:=by
        intro c4 hq s hw;subst d5;try dsimp only at h0
        refine l6 _ (AK hw (AG λB6 l8=>Bv 7 (by kernel_rfl) (by kernel_rfl) (by rfl) ?_));iterate 4 refine yq tb rfl ?_
        refine bs h0 λB7 l9 h0=>ae (i:=1) (j:=Sh.len p2.kids) AI BU AA AA AA DS l9 (yq tb AA (bs h0 λm0 m1 h0=>YV (v':=(i64 m0)) AI (hb 112) (Io oa m1) rfl (.val AA (.own AA AA (λ_=>AA) (.val AA (.own AA AA (λ_=>AA) .nil)))) rfl AA (Aw (zq tb AA (dn l8 AA ?_)))));obtain rfl:=Sh.AB h0;exact Aq (xr (AT (L:=[(6,i64 m0)]) (st':=[Bl s0]) [0] AA (by decide) rfl AA (.pure (AD λ_=>AA) .nil) ⟨.rfl,jf⟩))
       refine AU (Ax (σ:=Int×(List (List Int))) (λn v=>CH N p0 y n v.1 v.2=some d5) (λ(Z,b8)=>⟨194,Aa [(1,ow 0 0 s0),(3,.ptr 1 0 0 0),(5,.ptr 2 0 0 0),(9,ow 4 0 b8),(134,ow 3 0 y),(135,i64 (Sh.len y)),(136,i64 Z)],[ro 0 3 1 eI s0,⟨0,99,2,[GB p0]⟩,PX p2.op p2.num p2.kids,ro 0 3 1 eI y,ro 0 32 1 (eS eI) b8]⟩) N (0,t7) d (AJ AA) (λ_ hv=>by rw[CH]at hv;cases hv) ?_);rintro n ⟨Z,b8⟩ d;try dsimp only at d⊢
       rw[CH]at d;refine zr tb AA AA (AG λB8 m2=>?_);refine ci d AA ?_ ?_<;>clear d<;>intro B9 d
       ·refine AL (m2 _ (AG λC0 m3=>AU (sr AA λC1 m4=>zq tb AA (bs d λv1 c8 d=>zz (.ptr 3 0 (Int.toNat Z) 0) (Bz BQ AA AA AA AA c8) rfl (zz (i64 v1) (Bx HV AA AA (CU c8) rfl) rfl (zm tb 2 AA (dn m4 AA (AH AA (zm tb 5 AA (bs d λd6 m5 d=>zc (hb 92) (Mn m5) rfl AA AA (bs d λC2 c9 d=>zz (Ty Z) (Bz NK AA AA AA AA c9) rfl (KI (u':=d6) AI JZ AA AA c9 AA AA AA nq rfl AA (dn m3 AA (AH AA (zm tb 2 AA ?_)))))))))))))));exact AF (xi (Sh.w (Z+1),Sh.put b8 Z d6) d (Ag (L:=[(1,.own 0 0 (List.length s0)),(3,.ptr 1 0 0 0),(5,.ptr 2 0 0 0),(9,.own 4 0 (List.length (Sh.put b8 Z d6))),(134,.own 3 0 (List.length y)),(135,i64 (Sh.len y)),(136,i64 (Sh.w (Z+1)))]) ⟨.rfl,.rfl,.rfl,(.len (by simp only[Sh.Ga])),.rfl,.rfl,.rfl,jf⟩))
       ·exact BD (v0 b8 (Sh.AB d).symm _ (AT [0,1,2,4] AA (by decide) rfl AA (.pure (AD λ_=>AA) (.raw AA AA (.raw AA AA (.pure (AD λ_=>AA) .nil)))) (.same AA)))
     refine Cd (by kernel_rfl) (by kernel_rfl) (by rfl) (yq tb AA (yz (G8 y) (Cr Fp AA AA AA) rfl ?_));iterate 2 refine yq tb rfl ?_
     rcases Sh.Ak d with ⟨K,d⟩|⟨K,d⟩
     ·refine ys K AA ?_;iterate 6 refine ys K rfl ?_
      refine yt K AA (yq tb AA ?_);iterate 10 refine ys rfl rfl ?_
      exact yt AA AA (Aw (d3 true (Sh.AB d).symm _ (AJ AA)))
     ·refine yg tb K AA (yg tb K AA (H5 (v:=(YJ p2)) (CW AA AA K) rfl (Ch SH AA) (yg tb K AA (H5 (v:=(G8 y)) (CW AA AA K) rfl (Cr Fp AA AA AA) ?_))));iterate 2 refine yg tb K rfl ?_
      refine yf K AA (yq tb AA ?_);rcases Sh.Ak d with ⟨M,d⟩|⟨M,d⟩
      ·refine ys M AA ?_;iterate 9 refine ys M rfl ?_
       exact yt M AA (Aw (d3 true (Sh.AB d).symm _ (AJ AA)))
      ·refine yg tb M AA ?_;iterate 3 refine yg tb M rfl ?_
       refine bs d λv2 m6 d=>H5 (v:=(Da v2)) (CW AA AA M) rfl (By BU AA AA m6 (Ai _) rfl) (yg tb M AA (bs d λm7 m8 d=>VV (rowsP:=[Bl s0]) (rows0:=[Bl s0]) (rows1:=[Bl s0]) (rows1':=[Bl s0]) (v':=(i64 m7)) [0] (CW AA AA M) (hb 81) (oa m8) rfl (by decide) rfl AA (.pure (AD λ_=>AA) .nil) rfl AA (.pure (AD λ_=>AA) .nil) rfl AA ?_));iterate 3 refine yg tb M rfl ?_
       exact yf M AA (Aw (d3 (!decide (m7=p2.num)) (Sh.AB d).symm _ (AJ AA)))
    ·refine AL (q9 _ (sr AA λC3 m9=>zm tb 2 AA (zl tb AA AA (bs h0 λv3 q0 h0=>Yj (m:=3) (enc:=eI) (u:=0) AI BQ AA AA AA q0 AA AA (zq tb AA (dn m9 AA (AG λv4 q1=>sr AA λC4 q2=>zm tb 2 AA (zl tb AA AA (zq tb AA (dn q2 AA ?_))))))))));obtain⟨d7,d,h0⟩:=Sh.Bi h0;have v5:∀(c0:(List Int)),d7=Sum.inr c0->∀s,Wk 1 s ⟨194,Aa [(3,CS),(5,CY),(12,ow 3 0 c0)],Y6 s0 p0 p2 [Bl c0]⟩->v4 s:=by
      intro c0 hq s hw;subst d7;try dsimp only at h0
      refine q1 _ (AK hw (sr AA λC5 q3=>zm tb 6 AA (AR (Wk.BL (L:=[(182,.agg (GB p0)),(184,i64 p2.op),(186,i64 p2.num),(187,ls eI c0)]) (st':=[ro 0 3 1 eI s0,⟨0,99,2,[GB p0]⟩,PX p2.op p2.num p2.kids,⟨1,3,1,[]⟩]) (id:=3) rfl oC (AD λ_=>AA) ⟨.rfl,.rfl,.rfl,.BL AA,jf⟩ AA) (bs h0 λc1 q4 h0=>zc (v':=(.Dp [i64 c1.1,.bool c1.2])) (hb 113) (Km q4) rfl AA AA (zm tb 5 AA (dn q3 AA (AG λC6 q5=>zr tb AA AA ?_)))))));refine ci h0 AA ?_ ?_<;>clear h0<;>intro q6 h0
      ·have C7:c1.2=false:=by simpa using q6
       refine zr tb AA AA ?_;obtain rfl:=Sh.AB h0;exact Aq (xr (AT (L:=[(6,i64 (-1))]) (st':=[Bl s0]) [0] AA (by decide) rfl AA (.pure (AD λ_=>AA) .nil) ⟨.rfl,jf⟩))
      ·have v6:c1.2=true:=by simpa using q6
       refine AL (q5 _ (zr tb AA AA ?_));obtain rfl:=Sh.AB h0;exact Aq (xr (AT (L:=[(6,i64 c1.1)]) (st':=[Bl s0]) [0] AA (by decide) rfl AA (.pure (AD λ_=>AA) .nil) ⟨.rfl,jf⟩))
     refine AU (Ax (σ:=Int×(List Int)) (λn v=>CG s0 p0 p2 oW n v.1 v.2=some d7) (λ(R,X)=>⟨194,Aa [(1,ow 0 0 s0),(3,.ptr 1 0 0 0),(5,.ptr 2 0 0 0),(12,ow 3 0 X),(161,ls Au p2.kids),(162,i64 (Sh.len p2.kids)),(163,i64 R)],[ro 0 3 1 eI s0,⟨0,99,2,[GB p0]⟩,PX p2.op p2.num p2.kids,ro 0 3 1 eI X]⟩) N (0,v3) d (AJ AA) (λ_ hv=>by rw[CG]at hv;cases hv) ?_);rintro n ⟨R,X⟩ d;try dsimp only at d⊢
     rw[CG]at d;refine zr tb AA AA (AG λv7 d8=>?_);refine ci d AA ?_ ?_<;>clear d<;>intro v8 d
     ·refine AL (d8 _ (AG λv9 d9=>AU (sr AA λw0 g0=>zq tb AA (bs d λb3 g1 d=>zz (Da b3) (By BU AA AA g1 (Ai _) rfl) rfl (zq tb AA (Av (m:=4) AI DF AA AA (zq tb AA (Am AI BE AA AA AA AA AA AA nj rfl (dn g0 AA (sr AA λw1 g2=>zm tb 5 AA (bs d λb0 g3 d=>CL (rows0:=[Bl s0]) (rows1:=[Bl s0]) (st':=(Y6 s0 p0 p2 [Bl X,PX b3.op b3.num b3.kids])) (v':=(i64 b0)) [0] AI (hb 81) (oa g3) rfl (by decide) rfl AA (.pure (AD λ_=>AA) .nil) rfl AA (.pure (AD λ_=>AA) .nil) .nil AA AA (bs d λw2 c2 d=>zz (.ptr 3 0 (Int.toNat R) 0) (Bz BQ AA AA AA AA c2) rfl (KI (u':=b0) AI HV AA AA c2 AA AA AA nq rfl AA (dn g2 AA (sr AA λw3 g4=>zm tb 2 AA (bs d λq7 c3 d=>?_))))))))))))))));refine zz (.ptr 3 0 (Int.toNat R) 0) (Bz BQ AA AA AA (by simp only[Sh.Ga]) c3) rfl ?_;refine zz (i64 q7) (Bx HV AA AA (CU c3) rfl) rfl (zq tb AA (dn g4 AA ?_));refine ci d AA ?_ ?_<;>clear d<;>intro w4 d
      ·refine zr tb AA AA ?_;obtain rfl:=Sh.AB d;try dsimp only[id]at h0
       obtain rfl:=Sh.AB h0;exact Aq (xr (AT (L:=[(6,i64 (-1))]) (st':=[Bl s0]) [0] AA (by decide) rfl AA (.pure (AD λ_=>AA) .nil) ⟨.rfl,jf⟩))
      ·refine AL (d9 _ (AH AA (zm tb 2 AA ?_)));exact AF (xi (Sh.w (R+1),Sh.put X R b0) d (by refine Wk.trans (AT (L:=[(1,.own 0 0 (List.length s0)),(3,.ptr 1 0 0 0),(5,.ptr 2 0 0 0),(12,.own 3 0 (List.length X)),(161,.sl (List.map Au p2.kids)),(162,i64 (Sh.len p2.kids)),(163,i64 (Sh.w (R+1)))]) (st':=[⟨0,3,1,List.map eI s0⟩,⟨0,99,2,[GB p0]⟩,⟨0,35,3,[[i64 p2.op,i64 p2.num,.sl (List.map Au p2.kids)]]⟩,⟨0,3,1,List.map eI (Sh.put X R b0)⟩]) [0,1,2,3] AA (by decide) rfl AA (.pure (AD λ_=>AA) (.raw AA AA (.raw AA AA (.pure (AD λ_=>AA) .nil)))) ⟨.rfl,.rfl,.rfl,.rfl,.rfl,.rfl,.rfl,jf⟩) ?_;exact Ag (L:=[(1,.own 0 0 (List.length s0)),(3,.ptr 1 0 0 0),(5,.ptr 2 0 0 0),(12,.own 3 0 (List.length (Sh.put X R b0))),(161,.sl (List.map Au p2.kids)),(162,i64 (Sh.len p2.kids)),(163,i64 (Sh.w (R+1)))]) ⟨.rfl,.rfl,.rfl,(.len (by simp only[Sh.Ga])),.rfl,.rfl,.rfl,jf⟩))
     ·exact BD (v5 X (Sh.AB d).symm _ (AJ AA))
theorem LZ {N:Nat}:∀(n:Nat),∀{s0:(List Int)} {p0:BO} {p2:AE} {r:Int},Bq N n s0 p0 p2=some r->Ab Tryz.prog 81 [Jy p0,ow 0 0 s0,Bc p2] [Bl s0] (λv st=>v=(i64 r)/\st=[Bl s0]):=by
 intro n
 induction n with
 | zero=>intro s0 p0 p2 r a;cases a
 | succ n ih=>
  intro s0 p0 p2 r a;rw[Bq]at a;exact LY (λh=>ih h) a
theorem MV {N:Nat}:∀{s0:(List Int)} {p0:BO} {p2:AE} {r:Int},Hm N s0 p0 p2=some r->Ab Tryz.prog 81 [Jy p0,ow 0 0 s0,Bc p2] [Bl s0] (λv st=>v=(i64 r)/\st=[Bl s0]):=by
 intro s0 p0 p2 r a;exact LZ N a
theorem T6 {N:Nat}{p0:AP}{p1:(List Int)}{p2:AE}{r:Int}(h0:Lw N p0 p1 p2=some r):Ab Tryz.prog 48 [H7 p0,ls eI p1,Bc p2] [] (λv st=>v=(i64 r)/\st=[]):=by
 unfold Lw at h0;refine ai Tryz.func48 AA AA AA AA (sr AA λJ x=>Bf (m:=0) AI AA AA AA AA AA (Bf (m:=1) AI AA AA AA AA AA (zq tb AA (dn x AA (AG λK y=>AG λF z=>bs h0 λE g h0=>?_)))));have A:∀(B:Bool),E=B->∀s,Wk 0 s ⟨28,Aa [(1,ls eI p1),(3,BJ),(5,CS),(21,.bool B)],[G0 p0.decls p0.funcs,PX p2.op p2.num p2.kids]⟩->F s:=by
  intro B hq s G;subst E;try dsimp only at h0
  refine z _ (AK G ?_);refine ci h0 AA ?_ ?_<;>clear h0<;>intro M h0
  ·refine zr tb AA AA ?_;obtain rfl:=Sh.AB h0;exact rd [(6,i64 (-1))]
  ·refine AL (y _ (AG λO C=>H9 (by kernel_rfl) (bs h0 λo p h0=>bs h0 λh l h0=>bs h0 λn q h0=>J7 λyQ a=>?_)));have e:yQ 0 (bm 7 127) ⟨28,Aa [(6,i64 n)],[]⟩:=(a _ _ _).2 (by
    refine Hc AA (by kernel_rfl) (C _ ?_);obtain rfl:=Sh.AB h0;exact Aq (Exists.intro _ (And.intro (Ag (L:=[(6,i64 n)]) (.same AA)) (And.intro AA AA))))
   have b:yQ 2 (bm 7 31) ⟨28,Aa [(23,Jy o),(25,ow 0 0 h),(26,Bc p2)],[Bl h]⟩:=(a _ _ _).2 (by
    refine xa [5] ⟨?_,jf⟩
    ·refine xo 5 (CL (rows0:=[Bl h]) (rows1:=[Bl h]) (st':=[Bl h]) (v':=(i64 n)) [0] AI (hb 81) (MV q) rfl (by decide) rfl AA (.pure (AD λ_=>AA) .nil) rfl AA (.pure (AD λ_=>AA) .nil) .nil AA AA (AF ⟨AA,(BX tb 6 AA (by kernel_rfl) rfl ?_)⟩));exact xw a e (by exact AT [] AA (by decide) rfl AA .nil (.same AA)))
   have d:yQ 3 (bm 7 23) ⟨28,Aa [(23,Jy o),(24,ls eI p1),(26,Bc p2)],[]⟩:=(a _ _ _).2 (by
    refine xa [3] ⟨?_,jf⟩
    ·refine xo 3 ?_;exact CM (v':=(ow 0 0 h)) AI (hb 82) (Co l) rfl AA ⟨(CQ λ_=>AA),jf⟩ AA AA (xd a b))
   have i:yQ 4 (bm 7 7) ⟨28,Aa [(5,BJ),(23,Jy o),(24,ls eI p1)],[PX p2.op p2.num p2.kids]⟩:=(a _ _ _).2 (by
    refine xa [3,4] ⟨?_,?_,jf⟩
    ·refine xo 3 (CM (v':=(ow 1 0 h)) AI (hb 82) (Co l) rfl AA ⟨(CQ λ_=>AA),jf⟩ AA AA (AF ⟨AA,(BX tb 4 AA (by kernel_rfl) rfl ?_)⟩));exact xw a b (by exact AT [1] AA (by decide) rfl AA (.pure (AD λ_=>AA) .nil) (.same AA))
    ·refine xo 4 ?_;exact zq tb AA (NU a d (by exact AT [] AA (by decide) rfl AA .nil (.same AA))))
   have j:yQ 4 (bm 7 21) ⟨28,Aa [(22,H7 p0),(24,ls eI p1),(26,Bc p2)],[]⟩:=(a _ _ _).2 (by
    refine xa [1] ⟨?_,jf⟩
    ·refine xo 1 ?_;exact zc (v':=(Jy o)) (hb 80) (Od p) rfl AA AA (xd a d))
   have k:yQ 5 (bm 7 5) ⟨28,Aa [(5,BJ),(22,H7 p0),(24,ls eI p1)],[PX p2.op p2.num p2.kids]⟩:=(a _ _ _).2 (by
    refine xa [1,4] ⟨?_,?_,jf⟩
    ·refine xo 1 ?_;exact zc (v':=(Jy o)) (hb 80) (Od p) rfl AA AA (xd a i)
    ·refine xo 4 ?_;exact zq tb AA (NU a j (by exact AT [] AA (by decide) rfl AA .nil (.same AA))))
   refine (a _ _ _).2 (BX tb 0 AA (by kernel_rfl) rfl (BX tb 2 AA (by kernel_rfl) rfl ?_));exact xw a k (by exact AT [1] AA (by decide) rfl AA (.raw AA AA .nil) (.same AA))
 refine AH AA (zq tb AA (bs g λH t g=>zc (hb 47) (MG t) rfl AA AA (zm tb 2 AA ?_)));rcases Sh.Ak g with ⟨f,g⟩|⟨f,g⟩
 ·refine zs f AA (zs f AA (zs f AA (zt f AA (zq tb AA ?_))));iterate 5 refine zs rfl rfl ?_
  exact zt AA AA (AF (A true (Sh.AB g).symm _ (AJ AA)))
 ·refine zg tb f AA (bs g λI u g=>zd f (hb 12) (Nd u) rfl AA AA AA (zg tb f AA (zf f AA (zq tb AA ?_))));rcases Sh.Ak g with ⟨c,g⟩|⟨c,g⟩
  ·refine zs c AA ?_;iterate 4 refine zs c rfl ?_
   exact zt c AA (AF (A true (Sh.AB g).symm _ (AJ AA)))
  ·exact zg tb c AA (zg tb c AA (zg tb c AA (bs g λD w g=>zd c (hb 79) (KL w) rfl AA AA AA (zg tb c AA (zf c AA (AF (A (!D) (Sh.AB g).symm _ (AJ AA))))))))
theorem Oo {N:Nat}{p0:AP}{r:Bool}(h0:EE N p0=some r):Ab Tryz.prog 22 [H7 p0] [] (λv st=>v=(.bool r)/\st=[]):=by
 unfold EE at h0;refine ai Tryz.func22 AA AA AA AA (sr AA λM p=>Bf (m:=0) AI AA AA AA AA AA (zq tb AA (dn p AA (AG λO q=>sr AA λP t=>zq tb AA (bs h0 λz u h0=>zc (hb 47) (MG u) rfl AA AA (zq tb AA (dn t AA ?_)))))));refine ci h0 AA ?_ ?_<;>clear h0<;>intro A h0
 ·have Q:z=false:=by simpa using A
  refine zr tb AA AA ?_;obtain rfl:=Sh.AB h0;exact rd [(2,.bool false)]
 ·have R:z=true:=by simpa using A
  refine AL (q _ (AG λC x=>sr AA λD e=>zm tb 2 AA (zl tb AA AA (zq tb AA (dn e AA ?_)))));obtain⟨b,a,h0⟩:=Sh.Bi h0;have y:∀(_:Unit),b=Sum.inr ()->∀s,Wk 0 s ⟨25,Aa [],[]⟩->C s:=by
   intro _ S s E;subst b;try dsimp only at h0
   refine x _ (AK E (zr tb AA AA ?_));obtain rfl:=Sh.AB h0;exact rt [(2,.bool true)]
  refine AU (Ax (σ:=Int) (λn v=>Dn N p0 n v=some b) (λc=>⟨25,Aa [(1,.ptr 0 0 0 0),(9,ls BS p0.funcs),(10,i64 (Sh.len p0.funcs)),(11,i64 c)],[G0 p0.decls p0.funcs]⟩) N 0 a (AJ AA) (λ_ B=>by rw[Dn]at B;cases B) ?_);rintro n c a;try dsimp only at a⊢
  rw[Dn]at a;refine zr tb AA AA (AG λF f=>?_);refine ci a AA ?_ ?_<;>clear a<;>intro G a
  ·refine AL (f _ (AG λH g=>AU (sr AA λI h=>bs a λi j a=>zx Cu j AA AA AA (zq tb AA (Av (m:=1) AI Lg AA AA (Am AI LA AA AA AA AA AA AA nm rfl (dn h AA (AG λJ k=>Cd (by kernel_rfl) (by kernel_rfl) (by rfl) ?_))))))));iterate 5 refine yq tb rfl ?_
   refine bs a λd l a=>BW (v:=(i64 d)) AI (hb 48) (T6 l) rfl AA AA ?_;iterate 3 refine yq tb rfl ?_
   refine Aw (k _ ?_);refine ci a AA ?_ ?_<;>clear a<;>intro o a
   ·have K:decide (d=i.result)=false:=by simpa using o
    refine zr tb AA AA ?_;obtain rfl:=Sh.AB a;try dsimp only[id]at h0
    obtain rfl:=Sh.AB h0;exact rd [(2,.bool false)]
   ·have L:decide (d=i.result)=true:=by simpa using o
    exact AL (g _ (AH AA (zm tb 2 AA (AF (xi (Sh.w (c+1)) a (AT [0] AA (by decide) rfl AA (.raw AA AA .nil) (.same AA)))))))
  ·exact BD (y () (Sh.AB a).symm _ (Bn _ AA))
theorem Qw {N:Nat}{pD:AE->Int->Int->Option (AE)}(py :∀{p0:AE} {p1:Int} {p2:Int} {r:AE},pD p0 p1 p2=some r->Ab Tryz.prog 44 [Bc p0,i64 p1,i64 p2] [] (λv st=>v=(.agg (Rg r))/\st=[DL r])){p0:AE}{p1 p2:Int}{r:AE}(h0:IS N pD p0 p1 p2=some r):Ab Tryz.prog 44 [Bc p0,i64 p1,i64 p2] [] (λv st=>v=(.agg (Rg r))/\st=[DL r]):=by
 unfold IS at h0;refine Ab.wk (r0:=(.agg (Rg r))) (st0:=[DL r,⟨0,35,3,[Rg r]⟩]) (ai Tryz.func44 AA AA AA AA (sr AA λK1 S=>Bf (m:=0) AI AA AA AA AA AA (Av (m:=1) AI DF AA AA (dn S AA (AG λK2 T=>bs h0 λZ h h0=>?_))))) (De (L:=[(0,.agg (Rg r))]) (st':=[DL r]) [0] AA (by decide) rfl AA (.deep (Ah Al) jf) (.same AA));have M4:∀(k:Int),Z=k->∀s,Wk 0 s ⟨44,Aa (ct p1 p2 []),[PX p0.op k p0.kids,FA]⟩->K2 s:=by
  intro k hq s F;subst Z;try dsimp only at h0
  refine T _ (AK F (zr tb AA AA (sr AA λK6 U=>zq tb AA (Am AI ZK AA AA AA AA AA AA oK rfl (dn U AA (AG λK7 V=>sr AA λK8 W=>zq tb AA (zl tb AA AA (zq tb AA (dn W AA (bs h0 λD h h0=>?_))))))))));have X:∀(p:(List AE)),D=p->∀s,Wk 0 s ⟨44,Aa [(3,BJ),(6,CS)],[⟨0,35,3,[[i64 p0.op,i64 k,ow 2 0 p]]⟩,FA,HZ p]⟩->K7 s:=by
   intro p hq s F;subst D;try dsimp only at h0
   refine V _ (AK F (sr AA λb0 G=>zq tb AA (Am AI BE AA AA AA AA AA AA nj rfl (dn G AA ?_))));obtain rfl:=Sh.AB h0;exact Aq (Exists.intro _ (And.intro ((Bj (L:=[(6,CS)]) (st':=[HZ p,⟨0,35,3,[[i64 p0.op,i64 k,ow 0 0 p]]⟩]) (st1:=[HZ p,⟨0,35,3,[[i64 p0.op,i64 k,ow 2 0 p]]⟩]) [2,1] AA .nil (by decide) rfl AA (.deep (Ah Al) (.raw AA AA .nil)) (.same AA)).trans (Ag (L:=[(6,CS)]) (.same AA))) (Ar (x:=.tmp 6) (off:=0) (cs:=[i64 p0.op,i64 k,ow 0 0 p]) (vs:=[i64 p0.op,i64 k,ow 0 0 p]) BE AA AA AA nj rfl _ ⟨AA,AA⟩)))
  refine AU (Ax (σ:=Int×(List AE)) (λn v=>Cm p0 p1 p2 pD n v.1 v.2=some D) (λ(y,a)=>⟨44,Aa [(1,i64 p1),(2,i64 p2),(3,.ptr 0 0 0 0),(6,.ptr 1 0 0 0),(27,ls Au p0.kids),(28,i64 (Sh.len p0.kids)),(29,i64 y)],[⟨0,35,3,[[i64 p0.op,i64 k,ow 2 0 a]]⟩,FA,ro 0 35 3 (BP 35) a]⟩) N (0,[]) h (by refine Wk.trans (JR (id:=0) (st':=[⟨0,35,3,[[i64 p0.op,i64 k,.own 2 0 (List.length ([]:List AE))]]⟩,FA,ro 0 35 3 (BP 35) ([]:List AE)]) (j:=2) rfl AA 35 (size':=3) (by decide) rfl AA AA AA) ?_;exact AJ AA) (λ_ hv=>by rw[Cm]at hv;cases hv) ?_);rintro n ⟨y,a⟩ h;try dsimp only at h⊢
  rw[Cm]at h;refine zr tb AA AA (AG λb1 H=>?_);refine ci h AA ?_ ?_<;>clear h<;>intro b2 h
  ·refine AL (H _ (AG λb3 I=>AU (sr AA λb4 J=>bs h λA K h=>zz (Da A) (By BU AA AA K (Ai _) rfl) rfl (zq tb AA (Av (m:=3) AI DF AA AA (Am AI BE AA AA AA AA AA AA nj rfl (dn J AA ?_)))))));refine H9 (by kernel_rfl) ?_;refine bs h λd B h=>bs h λf C h=>J7 λyR b=>?_;have g:yR 0 (bm 10 1023) ⟨44,Aa (YD p1 p2 p0 y []),[T7 p0 k f,HZ f,FA]⟩:=(b _ _ _).2 (by
    refine Hc AA (by kernel_rfl) (I _ (AH AA (zm tb 2 AA ?_)));exact AF (xi (Sh.w (y+1),f) h (by exact Bj (L:=(ct p1 p2 [(27,ls Au p0.kids),(28,YJ p0),(29,KA y)])) (st':=[⟨0,35,3,[[i64 p0.op,i64 k,ow 2 0 f]]⟩,FA,HZ f]) (st1:=[T7 p0 k f,FA,HZ f]) [0,2,1] AA .nil (by decide) rfl AA (.raw AA AA (.raw AA AA (.deep (Ah Al) .nil))) (.same AA))))
   have o:yR 1 (bm 10 511) ⟨44,Aa (YD p1 p2 p0 y [(40,ow 1 1 f),(41,.ptr 0 0 0 2)]),[T7 p0 k a,ro 1 35 3 (BP 35) f,FA]⟩:=(b _ _ _).2 (by
    refine xa [9] ⟨?_,jf⟩
    ·refine xo 9 ?_;exact Am AI ZK AA AA AA AA AA AA oK rfl (NU b g (by exact EX (L:=(YD p1 p2 p0 y [])) (st':=[T7 p0 k f,HZ f,FA]) (.raw AA AA (.deep (Ah Al) (.raw AA AA .nil))) (.same AA))))
   have q:yR 3 (bm 10 127) ⟨44,Aa (YD p1 p2 p0 y [(34,ow 1 0 a),(39,.own 3 0 1)]),[T7 p0 k a,HZ a,FA,⟨0,35,3,[Mh d]⟩,DL d]⟩:=(b _ _ _).2 (by
    refine xa [7] ⟨?_,jf⟩
    ·refine xo 7 ?_;have M:=Ym C;refine av (st':=[T7 p0 k a,⟨1,35,3,hole f (BP 35) (Sh.len a) (Mh d)⟩,FA,⟨0,35,3,[Mh d]⟩,DL d]) (c:=d) AI BU AA AA AA AA AA AA AA C AA (AR (Wk.take (id:=1) (m:=4) (j:=2) (i:=Sh.len a) (c:=d) (ys:=d.kids) (encY:=(BP 35)) rfl M AA AA AA (by decide) (show 0<=4 by decide) Eu AA AA) (AR (Gz (id:=1) (i:=Sh.len a) (c:=d) rfl M (Cv d).symm AA) (AF ⟨AA,(BX tb 8 AA (by kernel_rfl) rfl ?_)⟩)));exact xw b o (by exact AT [0,1,2] AA (by decide) rfl AA (.raw AA AA (.deep (Ah Al) (.raw AA AA .nil))) (.same AA)))
   have e:yR 4 (bm 10 63) ⟨44,Aa (YD p1 p2 p0 y [(34,ow 1 0 a),(38,.agg (Vn d))]),[T7 p0 k a,HZ a,FA,DL d]⟩:=(b _ _ _).2 (by
    refine xa [6] ⟨?_,jf⟩
    ·refine xo 6 (BF (m:=4) (l:=[()]) (enc:=λ_=>(Vn d)) AI BU (by decide) rfl AA AA AA AA AA ?_);exact NU b q (by exact Bj (L:=(YD p1 p2 p0 y [(34,ow 1 0 a),(39,.own 3 0 1)])) (st':=[T7 p0 k a,HZ a,FA,⟨0,35,3,[Mh d]⟩,DL d]) (st1:=[T7 p0 k a,HZ a,FA,⟨0,35,3,[Vn d]⟩,DL d]) [0,1,2,4,3] AA .nil (by decide) rfl AA (.raw AA AA (.deep (Ah Al) (.raw AA AA (.raw AA AA (.deep (Ah Al) .nil))))) (.same AA)))
   have t:yR 5 (bm 10 31) ⟨44,Aa (YD p1 p2 p0 y [(34,ow 1 0 a),(35,Bc A),(36,i64 p1),(37,i64 p2)]),[T7 p0 k a,HZ a,FA]⟩:=(b _ _ _).2 (by
    refine xa [5] ⟨?_,jf⟩
    ·refine xo 5 ?_;exact CM (v':=(.agg (Vn d))) AI (hb 44) (py B) rfl AA ⟨Ah Al,jf⟩ AA AA (xd b e))
   have z:yR 6 (bm 10 29) ⟨44,Aa (YD p1 p2 p0 y [(33,.ptr 0 0 0 2),(35,Bc A),(36,i64 p1),(37,i64 p2)]),[T7 p0 k a,HZ a,FA]⟩:=(b _ _ _).2 (by
    refine xa [1,5] ⟨?_,?_,jf⟩
    ·exact xq tb b t
    ·refine xo 5 ?_;refine CM (v':=(.agg (Vn d))) AI (hb 44) (py B) rfl AA ⟨Ah Al,jf⟩ AA AA (AF ⟨AA,?_⟩);refine BX tb 1 AA (by kernel_rfl) rfl ?_;exact xt b e)
   refine (b _ _ _).2 (BX tb 0 AA (by kernel_rfl) rfl (BX tb 2 AA (by kernel_rfl) rfl (BX tb 3 AA (by kernel_rfl) rfl (BX tb 4 AA (by kernel_rfl) rfl ?_))));exact xw b z (by exact Bj (L:=(YD p1 p2 p0 y [(33,.ptr 0 0 0 2),(35,Bc A),(36,i64 p1),(37,i64 p2)])) (st':=[T7 p0 k a,HZ a,FA]) (st1:=[⟨0,35,3,[[i64 p0.op,i64 k,ow 2 0 a]]⟩,HZ a,FA]) [0,2,1] AA .nil (by decide) rfl AA (.raw AA AA (.deep (Ah Al) (.raw AA AA .nil))) (.same AA))
  ·exact BD (X a (Sh.AB h).symm _ (AJ AA))
 refine AG λY O=>bs h λP Q h=>?_;have R:∀(E:Bool),P=E->∀s,Wk 0 s ⟨44,Aa (ct p1 p2 [(18,.bool E)]),[PX p0.op p0.num p0.kids,FA]⟩->Y s:=by
  intro E hq s F;subst P;try dsimp only at h
  refine O _ (AK F ?_);refine ci h AA ?_ ?_<;>clear h<;>intro b5 h
  ·exact AH AA (zm tb 5 AA (Am AI HV AA AA AA AA AA AA (show 1+1<=3 by decide) rfl (AF (M4 (Sh.w (p0.num+p2)) (Sh.AB h).symm _ (AJ AA)))))
  ·exact AL (M4 p0.num (Sh.AB h).symm _ (AJ AA))
 refine AH AA (zm tb 4 AA ?_);rcases Sh.Ak Q with ⟨u,Q⟩|⟨u,Q⟩
 ·refine zg tb u AA ?_;iterate 3 refine zg tb u rfl ?_
  exact zt u AA (AF (R (decide (p1<=p0.num)) (Sh.AB Q).symm _ (AJ AA)))
 ·refine zs u AA ?_;iterate 3 refine zs u rfl ?_
  exact zf u AA (AF (R false (Sh.AB Q).symm _ (AJ AA)))
theorem Qn {N:Nat}:∀(n:Nat),∀{p0:AE} {p1:Int} {p2:Int} {r:AE},D0 N n p0 p1 p2=some r->Ab Tryz.prog 44 [Bc p0,i64 p1,i64 p2] [] (λv st=>v=(.agg (Rg r))/\st=[DL r]):=by
 intro n
 induction n with
 | zero=>intro p0 p1 p2 r a;cases a
 | succ n ih=>
  intro p0 p1 p2 r a;rw[D0]at a;exact Qw (λh=>ih h) a
theorem Nz {N:Nat}:∀{p0:AE} {p1:Int} {p2:Int} {r:AE},Gn N p0 p1 p2=some r->Ab Tryz.prog 44 [Bc p0,i64 p1,i64 p2] [] (λv st=>v=(.agg (Rg r))/\st=[DL r]):=by
 intro p0 p1 p2 r a;exact Qn N a
theorem MZ {N:Nat}{p0 r:AE}(h0:IY N p0=some r):Ab Tryz.prog 91 [Bc p0] [] (λv st=>v=(.agg (Rg r))/\st=[DL r]):=by
 unfold IY at h0;refine Ab.wk (r0:=(.agg (Rg r))) (st0:=[DL r,⟨0,35,3,[Rg r]⟩]) (ai Tryz.func91 AA AA AA AA (sr AA λe b=>Bf (m:=0) AI AA AA AA AA AA (Av (m:=1) AI DF AA AA (dn b AA (sr AA λf c=>zq tb AA (bs h0 λa d h0=>CM (v':=(.agg (LK a))) AI (hb 44) (Nz d) rfl AA ⟨Ah Al,jf⟩ AA AA (Am AI BE AA AA AA AA AA AA nj rfl (dn c AA ?_)))))))) (De (L:=[(0,.agg (Rg r))]) (st':=[DL r]) [0] AA (by decide) rfl AA (.deep (Ah Al) jf) (.same AA));obtain rfl:=Sh.AB h0;exact Aq (Exists.intro _ (And.intro ((Bj (L:=[(2,CS)]) (st':=[DL a,⟨0,35,3,[Rg a]⟩]) (st1:=(cR a [])) [2,1] AA .nil (by decide) rfl AA (.deep (Ah Al) (.raw AA AA .nil)) (.same AA)).trans (Ag (L:=[(2,CS)]) (.same AA))) (Ar (x:=.tmp 2) (off:=0) (cs:=(Rg a)) (vs:=(Rg a)) BE AA AA AA nj rfl _ ⟨AA,AA⟩)))
theorem Oi {N:Nat}{p0 r:AP}(h0:Gy N p0=some r):Ab Tryz.prog 55 [H7 p0] [] (λv st=>v=(.agg [ow 0 0 r.decls,ow 1 0 r.funcs])/\st=(gr r [])):=by
 unfold Gy at h0;refine Ab.wk (r0:=(.agg [ow 0 0 r.decls,ow 1 0 r.funcs])) (st0:=(gr r [⟨0,26,2,[[ow 0 0 r.decls,ow 1 0 r.funcs]]⟩])) (ai Tryz.func55 AA AA AA AA (sr AA λK1 R=>Bf (m:=0) AI AA AA AA AA AA (AR (Wk.BL (L:=[(1,.Bh (ba p0) 0)]) (st':=[⟨1,26,2,[]⟩]) (id:=0) rfl np (EO AA) (.same AA) rfl) (Av (m:=1) AI Ix AA AA (dn R AA (sr AA λK2 S=>zm tb 2 AA (bs h0 λf T h0=>CM (v':=(ow 2 0 f)) AI (hb 90) (Cl.Og T) rfl AA ⟨(Ah λ_=>AA),jf⟩ AA AA (zz (.agg [ow 2 0 f,.zc]) (C8 U4 VI Ix AA AA) rfl (Av (m:=3) AI Ix AA AA (Am AI D8 AA AA AA AA AA AA nk rfl (dn S AA (AG λY U=>sr AA λK5 V=>zm tb 2 AA (zl tb AA AA (zq tb AA (dn V AA (bs h0 λW D h0=>?_)))))))))))))))) (De (L:=[(0,.agg [ow 0 0 r.decls,ow 1 0 r.funcs])]) (st':=(gr r [])) [0,1] AA (by decide) rfl AA (.deep (Ah λ_=>AA) (.deep (Ah λ_=>AA) jf)) (.same AA));have Z:∀(E:(List Ac)),W=E->∀s,Wk 0 s ⟨33,Aa [(2,BJ),(3,CY)],[T8,QO f,⟨0,26,2,[[ow 1 0 f,ow 3 0 E]]⟩,Mf E]⟩->Y s:=by
  intro E hq s hw;subst W;try dsimp only at h0
  refine U _ (AK hw (sr AA λb0 K=>zq tb AA (Am AI D8 AA AA AA AA AA AA nk rfl (dn K AA ?_))));obtain rfl:=Sh.AB h0;exact Aq (Exists.intro _ (And.intro ((Bj (L:=[(2,CY)]) (st':=[QO f,Mf E,⟨0,26,2,[[ow 0 0 f,ow 1 0 E]]⟩]) (st1:=[QO f,Mf E,⟨0,26,2,[[ow 1 0 f,ow 3 0 E]]⟩]) [1,3,0] AA .nil (by decide) rfl AA (.deep (Ah λ_=>AA) (.deep (Ah λ_=>AA) (.raw AA AA .nil))) (.same AA)).trans (Ag (L:=[(2,CY)]) (.same AA))) (Ar (x:=.tmp 2) (off:=0) (cs:=[ow 0 0 f,ow 1 0 E]) (vs:=[ow 0 0 f,ow 1 0 E]) D8 AA AA AA nk rfl _ ⟨AA,AA⟩)))
 refine AU (Ax (σ:=Int×(List Ac)) (λn v=>DO N p0 n v.1 v.2=some W) (λ(C,q)=>⟨33,Aa [(2,.ptr 0 0 0 0),(3,.ptr 2 0 0 0),(11,ls BS p0.funcs),(12,i64 (Sh.len p0.funcs)),(13,i64 C)],[T8,ro 0 80 3 (BZ 82 3) f,⟨0,26,2,[[ow 1 0 f,ow 3 0 q]]⟩,ro 0 37 5 (DK 3 35) q]⟩) N (0,[]) D (by refine Wk.trans (JR (id:=3) (st':=[⟨1,26,2,[]⟩,T8,ro 0 80 3 (BZ 82 3) f,⟨0,26,2,[[ow 2 0 f,.own 4 0 (List.length ([]:List Ac))]]⟩,ro 0 37 5 (DK 3 35) ([]:List Ac)]) (j:=1) rfl AA 37 (size':=5) (by decide) rfl AA AA AA) ?_;exact Bj (L:=[(2,.ptr 0 0 0 0),(3,.ptr 2 0 0 0),(11,ls BS p0.funcs),(12,i64 (Sh.len p0.funcs)),(13,i64 0)]) (st':=[T8,ro 0 80 3 (BZ 82 3) f,⟨0,26,2,[[ow 1 0 f,.own 3 0 (List.length ([]:List Ac))]]⟩,ro 0 37 5 (DK 3 35) ([]:List Ac)]) (st1:=[T8,ro 0 80 3 (BZ 82 3) f,⟨0,26,2,[[ow 2 0 f,.own 4 0 (List.length ([]:List Ac))]]⟩,ro 0 37 5 (DK 3 35) ([]:List Ac)]) [1,2,3,4] AA .nil (by decide) rfl AA (.raw AA AA (.deep (Ah λ_=>AA) (.raw AA AA (.deep (Ah λ_=>AA) .nil)))) (.same AA)) (λ_ X=>by rw[DO]at X;cases X) ?_);rintro n ⟨C,q⟩ D;try dsimp only at D⊢
 rw[DO]at D;refine zr tb AA AA (AG λb1 M=>?_);refine ci D AA ?_ ?_<;>clear D<;>intro b2 D
 ·refine AL (M _ (AG λb3 O=>AU (sr AA λb4 P=>bs D λd Q D=>zx Cu Q AA AA AA (zq tb AA (Av (m:=4) AI Lg AA AA (Am AI LA AA AA AA AA AA AA nm rfl (AR (Wk.BL (L:=[(2,BJ),(3,CY),(5,.Bh (PF d) 0),(11,Zf p0),(12,i64 (Sh.len p0.funcs)),(13,i64 C)]) (st':=[T8,QO f,⟨0,26,2,[[ow 1 0 f,ow 3 0 q]]⟩,Mf q,⟨1,37,5,[]⟩]) (id:=4) rfl (show 0<=4 by decide) (EO AA) (.same AA) rfl) (dn P AA ?_))))))));refine PI (by kernel_rfl) ?_;refine bs D λe G D=>bs D λa H D=>bs D λy I D=>?_;refine VY (f':=15) (listed':=(bm 15 0)) rfl (by kernel_rfl) ?_;refine DV 0 (v:=(.ptr 2 0 0 1)) rfl AA (by kernel_rfl) (by kernel_rfl) (by kernel_rfl) rfl (E3 (Jz KP AA AA ns rfl)) ?_;refine DV 2 (v:=(.Bh (PF d) 0)) rfl AA (by kernel_rfl) (by kernel_rfl) (by kernel_rfl) rfl (E3 (Md RN AA AA)) ?_;refine DV 3 (v:=(ls eI d.params)) rfl AA (by kernel_rfl) (by kernel_rfl) (by kernel_rfl) rfl (OV JZ AA AA) ?_;refine DV 5 (v:=(.Bh (PF d) 1)) rfl AA (by kernel_rfl) (by kernel_rfl) (by kernel_rfl) rfl (E3 (Md Px AA AA)) ?_;refine DV 6 (v:=(i64 d.result)) rfl AA (by kernel_rfl) (by kernel_rfl) (by kernel_rfl) rfl (OV HV AA AA) ?_;refine DV 7 (v:=(.Bh (PF d) 2)) rfl AA (by kernel_rfl) (by kernel_rfl) (by kernel_rfl) rfl (E3 (Md UP AA AA)) ?_;refine DV 8 (v:=(YH d)) rfl AA (by kernel_rfl) (by kernel_rfl) (by kernel_rfl) rfl (TW BE AA nw rfl) ?_;refine V3 (Sr λsx b=>?_);have k:sx 0 (bm 15 32767) ⟨33,Aa (TD p0 [(12,i64 (Sh.len p0.funcs)),(13,i64 C)]),SX f y []⟩:=(b _ _ _).2 (by
   refine Qu AA (by kernel_rfl) (O _ (AH AA (zm tb 2 AA ?_)));exact AF (xi (Sh.w (C+1),y) D (by exact Bj (L:=[(2,BJ),(3,CY),(11,Zf p0),(12,i64 (Sh.len p0.funcs)),(13,KA C)]) (st':=[T8,QO f,⟨0,26,2,[[ow 1 0 f,ow 3 0 y]]⟩,Mf y]) (st1:=[T8,QO f,ep f y,Mf y]) [0,2,1,3] AA .nil (by decide) rfl AA (.raw AA AA (.deep (Ah λ_=>AA) (.raw AA AA (.deep (Ah λ_=>AA) .nil)))) (.same AA))))
  have p:sx 1 (bm 15 16383) ⟨33,Aa (TD p0 [(12,i64 (Sh.len p0.funcs)),(13,i64 C),(29,ow 3 1 y),(30,.ptr 1 0 0 1)]),[T8,ep f q,QO f,ro 1 37 5 (DK 3 35) y]⟩:=(b _ _ _).2 (by
   refine ya [14] ⟨?_,jf⟩
   ·refine yo 14 ?_;exact Am AI Oc AA AA AA AA AA AA oB rfl (ZH b k (by exact EX (L:=(TD p0 [(12,i64 (Sh.len p0.funcs)),(13,i64 C)])) (st':=(SX f y [])) (.raw AA AA (.raw AA AA (.deep (Ah λ_=>AA) (.deep (Ah λ_=>AA) .nil)))) (.same AA))))
  have t:sx 3 (bm 15 4095) ⟨33,Aa (TD p0 [(12,i64 (Sh.len p0.funcs)),(13,i64 C),(18,ow 3 0 q),(28,.own 4 0 1)]),SX f q [⟨0,37,5,[[ow 5 0 e,i64 d.result,i64 a.op,i64 a.num,ow 6 0 a.kids]]⟩,Bl e,DL a]⟩:=(b _ _ _).2 (by
   refine ya [12] ⟨?_,jf⟩
   ·refine yo 12 ?_;have J:=Ym I;refine av (st':=[T8,ep f q,QO f,⟨1,37,5,hole y (DK 3 35) (Sh.len q) [ow 5 0 e,i64 d.result,i64 a.op,i64 a.num,ow 6 0 a.kids]⟩,⟨0,37,5,[[ow 5 0 e,i64 d.result,i64 a.op,i64 a.num,ow 6 0 a.kids]]⟩,Bl e,DL a]) (c:=(Ac.mk e d.result a)) AI Cu AA AA AA AA AA AA AA I AA (AR (Wk.take (id:=3) (m:=5) (j:=0) (i:=Sh.len q) (c:=(Ac.mk e d.result a)) (ys:=e) (encY:=eI) rfl J AA AA AA (by decide) (show 0<=5 by decide) (λ_=>AA) rfl AA) (AR (Wk.take (id:=3) (m:=6) (j:=4) (i:=Sh.len q) (c:=(Ac.mk e d.result a)) (ys:=a.kids) (encY:=(BP 35)) rfl J AA AA AA (by decide) (show 0<=6 by decide) Eu AA AA) (AR (Gz (id:=3) (i:=Sh.len q) (c:=(Ac.mk e d.result a)) rfl J AA AA) (AF ⟨AA,(Hv tb 13 AA (by kernel_rfl) rfl ?_)⟩))));exact yw b p (by exact AT [0,1,2,3] AA (by decide) rfl AA (.raw AA AA (.raw AA AA (.deep (Ah λ_=>AA) (.deep (Ah λ_=>AA) .nil)))) (.same AA)))
  have g:sx 4 (bm 15 2047) ⟨33,Aa (TD p0 [(12,i64 (Sh.len p0.funcs)),(13,i64 C),(18,ow 3 0 q),(27,.agg [ow 4 0 e,i64 d.result,i64 a.op,i64 a.num,ow 5 0 a.kids])]),SX f q [Bl e,DL a]⟩:=(b _ _ _).2 (by
   refine ya [11] ⟨?_,jf⟩
   ·refine yo 11 (BF (m:=6) (l:=[()]) (enc:=λ_=>[ow 4 0 e,i64 d.result,i64 a.op,i64 a.num,ow 5 0 a.kids]) AI Cu (by decide) rfl AA AA AA AA AA ?_);exact ZH b t (by exact Bj (L:=(TD p0 [(12,i64 (Sh.len p0.funcs)),(13,i64 C),(18,ow 3 0 q),(28,.own 4 0 1)])) (st':=(SX f q [⟨0,37,5,[[ow 5 0 e,i64 d.result,i64 a.op,i64 a.num,ow 6 0 a.kids]]⟩,Bl e,DL a])) (st1:=(SX f q [⟨0,37,5,[[ow 4 0 e,i64 d.result,i64 a.op,i64 a.num,ow 5 0 a.kids]]⟩,Bl e,DL a])) [0,1,2,3,6,4,5] AA .nil (by decide) rfl AA (.raw AA AA (.raw AA AA (.deep (Ah λ_=>AA) (.deep (Ah λ_=>AA) (.raw AA AA (.pure (AD λ_=>AA) (.deep (Ah Al) .nil))))))) (.same AA)))
  have h:sx 5 (bm 15 1023) ⟨33,Aa (TD p0 [(12,i64 (Sh.len p0.funcs)),(13,i64 C),(18,ow 3 0 q),(21,ow 4 0 e),(23,i64 d.result),(26,.agg (V0 a))]),SX f q [Bl e,DL a]⟩:=(b _ _ _).2 (by
   refine ya [10] ⟨?_,jf⟩
   ·refine yo 10 ?_;exact zz (.agg [ow 4 0 e,i64 d.result,i64 a.op,i64 a.num,ow 5 0 a.kids]) (C8 Tb Tc Lg AA AA) rfl (yd b g))
  have o:sx 6 (bm 15 511) ⟨33,Aa (TD p0 [(12,i64 (Sh.len p0.funcs)),(13,i64 C),(18,ow 3 0 q),(21,ow 4 0 e),(23,i64 d.result),(25,YH d)]),SX f q [Bl e]⟩:=(b _ _ _).2 (by
   refine ya [9] ⟨?_,jf⟩
   ·refine yo 9 ?_;exact CM (v':=(.agg (V0 a))) AI (hb 91) (MZ H) rfl AA ⟨Ah Al,jf⟩ AA AA (yd b h))
  have z:sx 7 (bm 15 495) ⟨33,Aa (TD p0 [(12,i64 (Sh.len p0.funcs)),(13,i64 C),(18,ow 3 0 q),(20,ls eI d.params),(23,i64 d.result),(25,YH d)]),SX f q []⟩:=(b _ _ _).2 (by
   refine ya [4] ⟨?_,jf⟩
   ·refine yo 4 ?_;exact CM (v':=(ow 4 0 e)) AI (hb 82) (Co G) rfl AA ⟨(CQ λ_=>AA),jf⟩ AA AA (yd b o))
  have u:sx 6 (bm 15 1021) ⟨33,Aa (TD p0 [(12,i64 (Sh.len p0.funcs)),(13,i64 C),(17,.ptr 1 0 0 1),(21,ow 4 0 e),(23,i64 d.result),(26,.agg (V0 a))]),SX f q [Bl e,DL a]⟩:=(b _ _ _).2 (by
   refine ya [1,10] ⟨?_,?_,jf⟩
   ·exact Z9 tb b h
   ·refine yo 10 ?_;refine zz (.agg [ow 4 0 e,i64 d.result,i64 a.op,i64 a.num,ow 5 0 a.kids]) (C8 Tb Tc Lg AA AA) rfl (AF ⟨AA,?_⟩);refine Hv tb 1 AA (by kernel_rfl) rfl ?_;exact Z0 b g)
  have A:sx 7 (bm 15 509) ⟨33,Aa (TD p0 [(12,i64 (Sh.len p0.funcs)),(13,i64 C),(17,.ptr 1 0 0 1),(21,ow 4 0 e),(23,i64 d.result),(25,YH d)]),SX f q [Bl e]⟩:=(b _ _ _).2 (by
   refine ya [1,9] ⟨?_,?_,jf⟩
   ·exact Z9 tb b o
   ·refine yo 9 ?_;exact CM (v':=(.agg (V0 a))) AI (hb 91) (MZ H) rfl AA ⟨Ah Al,jf⟩ AA AA (yd b u))
  have B:sx 8 (bm 15 493) ⟨33,Aa (TD p0 [(12,i64 (Sh.len p0.funcs)),(13,i64 C),(17,.ptr 1 0 0 1),(20,ls eI d.params),(23,i64 d.result),(25,YH d)]),SX f q []⟩:=(b _ _ _).2 (by
   refine ya [1,4] ⟨?_,?_,jf⟩
   ·exact Z9 tb b z
   ·refine yo 4 ?_;exact CM (v':=(ow 4 0 e)) AI (hb 82) (Co G) rfl AA ⟨(CQ λ_=>AA),jf⟩ AA AA (yd b A))
  refine (b _ _ _).2 ?_;exact yw b B (by exact Bj (L:=(TD p0 [(12,i64 (Sh.len p0.funcs)),(13,i64 C),(17,.ptr 1 0 0 1),(20,ls eI d.params),(23,i64 d.result),(25,YH d)])) (st':=(SX f q [])) (st1:=[T8,⟨0,26,2,[[ow 1 0 f,ow 3 0 q]]⟩,QO f,Mf q]) [0,2,1,3] AA .nil (by decide) rfl AA (.raw AA AA (.raw AA AA (.deep (Ah λ_=>AA) (.deep (Ah λ_=>AA) .nil)))) (.same AA))
 ·exact BD (Z q (Sh.AB D).symm _ (AJ AA))
theorem Wl {p0 p1 p2 r:Int}(h0:Me p0 p1 p2=some r):Ab Tryz.prog 64 [i64 p0,i64 p1,i64 p2] [] (λv st=>v=(i64 r)/\st=[]):=by
 unfold Me at h0;refine ai Tryz.func64 AA AA AA AA (zr tb AA AA (AG λB i=>AG λo j=>bs h0 λn a h0=>?_));have h:∀(k:Bool),n=k->∀s,Wk 0 s ⟨46,Aa [(0,i64 p0),(1,i64 p1),(2,i64 p2),(21,.bool k)],[]⟩->o s:=by
  intro k p s l;subst n;try dsimp only at h0
  refine j _ (AK l ?_);refine ci h0 AA ?_ ?_<;>clear h0<;>intro C h0
  ·refine zr tb AA AA ?_;obtain rfl:=Sh.AB h0;exact rt [(6,i64 0)]
  ·refine AL (i _ (zr tb AA AA (AG λq m=>bs h0 λf a h0=>?_)));have e:∀(sd:Int),f=sd->∀s,Wk 0 s ⟨46,Aa [(7,i64 sd)],[]⟩->q s:=by
    intro sd p s l;subst f;try dsimp only at h0
    refine m _ (AK l (sr AA λt g=>zq tb AA (zz (i64 (if (-999) > sd then (-999) else sd)) (ak AA AA) rfl (zz (i64 (if 999<(if (-999) > sd then (-999) else sd) then 999 else (if (-999) > sd then (-999) else sd))) (bQ AA AA) rfl (zq tb AA (dn g AA ?_))))));obtain rfl:=Sh.AB h0;exact rt [(6,i64 (if 999<(if (-999) > sd then (-999) else sd) then 999 else (if (-999) > sd then (-999) else sd)))]
   refine zr tb AA AA (AU (zr tb AA AA ?_));refine ci a AA ?_ ?_<;>clear a<;>intro u a
   ·exact AH AA (zm tb 4 AA (AF (e (Sh.w (p1+p2)) (Sh.AB a).symm _ (AJ AA))))
   ·refine zr tb AA AA ?_;refine ci a AA ?_ ?_<;>clear a<;>intro x a
    ·exact AH AA (zm tb 4 AA (AF (e (Sh.w (p1-p2)) (Sh.AB a).symm _ (AJ AA))))
    ·refine zr tb AA AA ?_;refine ci a AA ?_ ?_<;>clear a<;>intro y a
     ·exact AH AA (zm tb 4 AA (AF (e (Sh.w (p1*p2)) (Sh.AB a).symm _ (AJ AA))))
     ·refine zr tb AA AA ?_;refine ci a AA ?_ ?_<;>clear a<;>intro z a
      ·refine zr tb AA AA ?_;refine ci a AA ?_ ?_<;>clear a<;>intro A a
       ·exact AH AA (zq tb AA (AF (e 1 (Sh.AB a).symm _ (AJ AA))))
       ·exact AL (e 0 (Sh.AB a).symm _ (AJ AA))
      ·exact AL (e 0 (Sh.AB a).symm _ (AJ AA))
 refine AH AA (zm tb 3 AA ?_);rcases Sh.Ak a with ⟨b,a⟩|⟨b,a⟩
 ·exact zs b AA (zs b AA (zt b AA (zq tb AA (zs AA AA (zs AA AA (zt AA AA (zq tb AA (zs AA AA (zs AA AA (zt AA AA (AF (h true (Sh.AB a).symm _ (AJ AA)))))))))))))
 ·refine zg tb b AA (zg tb b AA (zf b AA (zq tb AA ?_)));rcases Sh.Ak a with ⟨c,a⟩|⟨c,a⟩
  ·exact zs c AA (zs c AA (zt c AA (zq tb AA (zs AA AA (zs AA AA (zt AA AA (AF (h true (Sh.AB a).symm _ (AJ AA)))))))))
  ·refine zg tb c AA (zg tb c AA (zf c AA (zq tb AA ?_)));rcases Sh.Ak a with ⟨d,a⟩|⟨d,a⟩
   ·exact zs d AA (zs d AA (zt d AA (AF (h true (Sh.AB a).symm _ (AJ AA)))))
   ·exact zg tb d AA (zg tb d AA (zf d AA (AF (h (decide (999<p2)) (Sh.AB a).symm _ (AJ AA)))))
theorem NQ {N:Nat}{p0:(List Int)}{p1 r:Int}(h0:Fy N p0 p1=some r):Ab Tryz.prog 65 [ls eI p0,i64 p1] [] (λv st=>v=(i64 r)/\st=[]):=by
 unfold Fy at h0;refine ai Tryz.func65 AA AA AA AA (zr tb AA AA (AG λk f=>sr AA λu g=>zq tb AA (zl tb AA AA (zq tb AA (dn g AA ?_)))));obtain⟨h,a,h0⟩:=Sh.Bi h0;have l:∀(_:Unit),h=Sum.inr ()->∀s,Wk 0 s ⟨19,Aa [],[]⟩->k s:=by
  intro _ x s m;subst h;try dsimp only at h0
  refine f _ (AK m (zr tb AA AA ?_));obtain rfl:=Sh.AB h0;exact rt [(4,i64 (-1))]
 refine AU (Ax (σ:=Int) (λn v=>DB p0 p1 n v=some h) (λe=>⟨19,Aa [(0,ls eI p0),(1,i64 p1),(7,i64 (Sh.len p0)),(8,i64 e)],[]⟩) N 0 a (AJ AA) (λ_ j=>by rw[DB]at j;cases j) ?_);rintro n e a;try dsimp only at a⊢
 rw[DB]at a;refine zr tb AA AA (AG λy i=>?_);refine ci a AA ?_ ?_<;>clear a<;>intro z a
 ·refine AL (i _ (AG λo b=>AU (zr tb AA AA (sr AA λp c=>zm tb 3 AA (bs a λq d a=>zx BQ d AA AA AA (zm tb 2 AA (dn c AA ?_)))))));refine ci a AA ?_ ?_<;>clear a<;>intro t a
  ·refine zr tb AA AA ?_;obtain rfl:=Sh.AB a;try dsimp only[id]at h0
   obtain rfl:=Sh.AB h0;exact rt [(4,i64 e)]
  ·exact AL (b _ (AH AA (zm tb 2 AA (AF (xi (Sh.w (e+1)) a (AJ AA))))))
 ·exact BD (l () (Sh.AB a).symm _ (AJ AA))
theorem T1 {N:Nat}{s0:(List AE)}{p0:(List AM)}{oT ou p2:Int}{r:AE}(h0:JP N s0 p0 oT ou p2=some r):Ab Tryz.prog 36 [Ct p0,.agg [i64 oT,i64 ou,ow 0 0 s0],i64 p2] [HZ s0] (λv st=>v=(.agg (TP r))/\st=[CB,DL r]):=by
 unfold JP at h0;refine Ab.wk (r0:=(.agg (TP r))) (st0:=[CB,DL r,⟨0,35,3,[TP r]⟩]) ?_ (De (L:=[(0,.agg (TP r))]) (st':=[CB,DL r]) [0,1] AA (by decide) rfl AA (.pure (by intro x e;cases e) (.deep (Ah Al) jf)) (.same AA));refine ai Tryz.func36 AA AA AA AA (AK (O8 (L:=[(0,Ct p0),(1,.agg [i64 oT,i64 ou,ow 1 0 s0]),(2,i64 p2)]) (id:=0) (N:=1) (st':=[CB,HZ s0]) rfl AA (.same AA) rfl) (sr AA λK1 c4=>Bf (m:=2) AI AA AA AA AA AA (Av (m:=3) AI DF AA AA (dn c4 AA (AG λK2 c5=>?_)))));obtain⟨o3,d,h0⟩:=Sh.Bi h0;have M3:∀(_:Unit),o3=Sum.inr ()->∀s,Wk 1 s ⟨92,Aa (Se []),[CB,HZ s0,T2 oT ou s0,FA]⟩->K2 s:=by
  intro _ hq s T;subst o3;try dsimp only at h0
  refine c5 _ (AK T (sr AA λK4 c6=>zq tb AA (Am AI BE AA AA AA AA AA AA nj rfl (dn c6 AA ?_))));obtain rfl:=Sh.AB h0;exact Aq (Exists.intro _ (And.intro ((AT (L:=[(6,CY)]) (st':=[CB,HZ s0,T2 oT ou s0]) [0,1,3] AA (by decide) rfl AA (.pure (by intro x e;cases e) (.deep (Ah Al) (.raw AA AA .nil))) ⟨.rfl,jf⟩).trans (Ag (L:=[(6,CY)]) ⟨.rfl,jf⟩)) (Ar (x:=.tmp 6) (off:=0) (cs:=[i64 oT,i64 ou,ow 1 0 s0]) (vs:=[i64 oT,i64 ou,ow 1 0 s0]) BE AA AA AA nj rfl _ ⟨AA,AA⟩)))
 refine zr tb AA AA (AU (AG λK6 c7=>bs d λo8 A d=>?_));have M8:∀(t7:Bool),o8=t7->∀s,Wk 1 s ⟨92,Aa ((0,Ct p0)::(2,i64 p2)::Se [(11,i64 oT),(12,.bool t7)]),[CB,HZ s0,T2 oT ou s0,FA]⟩->K6 s:=by
  intro t7 hq s T;subst o8;try dsimp only at d
  refine c7 _ (AK T ?_);refine ci d AA ?_ ?_<;>clear d<;>intro b9 d
  ·refine AG λc8 U=>bs d λV A d=>?_;have W:∀(S:Bool),V=S->∀s,Wk 1 s ⟨92,Aa (Se [(30,.bool S)]),[CB,HZ s0,T2 oT ou s0,FA]⟩->c8 s:=by
    intro S hq s T;subst V;try dsimp only at d
    refine U _ (AK T ?_);refine ci d AA ?_ ?_<;>clear d<;>intro d5 d
    ·refine AG λd6 X=>Bv 14 (by kernel_rfl) (by kernel_rfl) (by rfl) ?_;iterate 4 refine yq tb rfl ?_
     refine bs d λc9 O d=>yz (.ptr 1 0 (Int.toNat 0) 0) (Bz BU AA AA AA AA O) rfl (yq tb AA (yz (i64 c9.num) (Bx HV AA AA (NX O (Cv _)) rfl) rfl ?_));iterate 2 refine yq tb rfl ?_
     refine bs d λd0 P d=>yz (.ptr 1 0 (Int.toNat 1) 0) (Bz BU AA AA AA AA P) rfl (yq tb AA (yz (i64 d0.num) (Bx HV AA AA (NX P (Cv _)) rfl) rfl (bs d λG Y d=>BW (v:=(i64 G)) AI (hb 64) (Wl Y) rfl AA AA (yz (.agg [i64 0,i64 G,.zc]) (C8 Oa Oe DF AA AA) rfl (Aw (Am AI BE AA AA AA AA AA AA nj rfl (dn X AA ?_)))))));obtain rfl:=Sh.AB d;try dsimp only[id]at h0
     obtain rfl:=Sh.AB h0;exact Aq (Exists.intro _ (And.intro (((JR (id:=3) (st':=[CB,HZ s0,T2 oT ou s0,⟨0,35,3,[[i64 0,i64 G,.own 4 0 (List.length ([]:List AE))]]⟩,ro 0 35 3 (BP 35) ([]:List AE)]) (j:=2) rfl AA 35 (size':=3) (by decide) rfl AA AA AA).trans (Bj (L:=[(6,CY)]) (st':=[CB,ro 0 35 3 (BP 35) ([]:List AE),⟨0,35,3,[[i64 0,i64 G,.own 1 0 (List.length ([]:List AE))]]⟩]) (st1:=[CB,ro 0 35 3 (BP 35) ([]:List AE),⟨0,35,3,[[i64 0,i64 G,.own 4 0 (List.length ([]:List AE))]]⟩]) [0,4,3] AA (.pure (by intro x e;cases e) .nil) (by decide) rfl AA (.pure (by intro x e;cases e) (.deep (Ah Al) (.raw AA AA .nil))) (.same AA))).trans (Ag (L:=[(6,CY)]) (.same AA))) (Ar (x:=.tmp 6) (off:=0) (cs:=[i64 0,i64 G,.own 1 0 (List.length ([]:List AE))]) (vs:=[i64 0,i64 G,.own 1 0 (List.length ([]:List AE))]) BE AA AA AA nj rfl _ ⟨AA,AA⟩)))
    ·exact AL (M3 () (Sh.AB d).symm _ (AJ AA))
   refine AH AA (zm tb 2 AA (bs A λd1 Q A=>zz (.ptr 1 0 (Int.toNat 0) 0) (Bz BU AA AA AA AA Q) rfl (zq tb AA (zz (i64 d1.op) (Bx HV AA AA (NX Q (Cv _)) rfl) rfl (zm tb 2 AA ?_)))));rcases Sh.Ak A with ⟨B,A⟩|⟨B,A⟩
   ·exact zg tb B AA (zg tb B AA (bs A λZ R A=>Ba (v:=(.ptr 1 0 (Int.toNat 1) 0)) (CW AA AA B) rfl (Bz BU AA AA AA AA R) (zg tb B AA (Ba (v:=(i64 Z.op)) (CW AA AA B) rfl (Bx HV AA AA (NX R (Cv _)) rfl) (zg tb B AA (zt B AA (AF (W (decide (Z.op=0)) (Sh.AB A).symm _ (AJ AA)))))))))
   ·refine zs B AA ?_;iterate 5 refine zs B rfl ?_
    exact zf B AA (AF (W false (Sh.AB A).symm _ (AJ AA)))
  ·refine zr tb AA AA ?_;refine ci d AA ?_ ?_<;>clear d<;>intro d7 d
   ·refine sr AA λd8 b0=>zm tb 2 AA (bs d λg k d=>zz (.ptr 1 0 (Int.toNat 0) 0) (Bz BU AA AA AA AA k) rfl (AR (GK (id:=1) (j:=2) (i:=0) (c:=g) (ys:=g.kids) (encY:=(BP 35)) rfl k (Cv _) rfl AA AA AA) (zz (.agg (Mh g)) (Ar BE AA AA (FB k) nj rfl) rfl (Av (m:=5) AI DF AA AA (Am AI BE AA AA AA AA AA AA nj rfl (dn b0 AA (zr tb AA AA ?_)))))));refine ci d AA ?_ ?_<;>clear d<;>intro d9 d
    ·refine AG λg0 b1=>zr tb AA AA ?_;refine ci d AA ?_ ?_<;>clear d<;>intro b2 d
     ·have g1:decide (g.num=0)=false:=by simpa using b2
      refine sr AA λg2 b3=>zm tb 2 AA (bs d λl K d=>zz (.ptr 1 0 (Int.toNat 1) 0) (Ls BU AA AA AA AA K) rfl (AR (Wk.take (id:=1) (m:=4) (j:=2) (i:=0) (c:=g) (ys:=g.kids) (encY:=(BP 35)) rfl k AA AA AA (by decide) nt Eu AA AA) (AR (Gz (id:=1) (i:=0) (c:=g) rfl k (Cv g).symm AA) (AR (GK (id:=1) (j:=2) (i:=1) (c:=l) (ys:=l.kids) (encY:=(BP 35)) rfl K (Cv _) rfl AA AA AA) (zz (.agg [i64 l.op,i64 l.num,ow 6 0 l.kids]) (Ar BE AA AA (FB K) nj rfl) rfl (Am AI BE AA AA AA AA AA AA nj rfl (dn b3 AA ?_)))))));obtain rfl:=Sh.AB d;try dsimp only[id]at h0
      obtain rfl:=Sh.AB h0;exact Aq (Exists.intro _ (And.intro ((Bj (L:=[(6,CY)]) (st':=[CB,DL l,⟨0,35,3,[TP l]⟩]) (st1:=[CB,DL l,⟨0,35,3,[[i64 l.op,i64 l.num,ow 6 0 l.kids]]⟩]) [0,6,3] AA (.pure (by intro x e;cases e) .nil) (by decide) rfl AA (.pure (by intro x e;cases e) (.deep (Ah Al) (.raw AA AA .nil))) (.same AA)).trans (Ag (L:=[(6,CY)]) (.same AA))) (Ar (x:=.tmp 6) (off:=0) (cs:=(TP l)) (vs:=(TP l)) BE AA AA AA nj rfl _ ⟨AA,AA⟩)))
     ·have g3:decide (g.num=0)=true:=by simpa using b2
      refine AK (Wk.take (id:=1) (m:=4) (j:=2) (i:=0) (c:=g) (ys:=g.kids) (encY:=(BP 35)) (x':=(cu g)) (st':=(gX s0 g oT ou [])) rfl k AA AA AA (by decide) nt Eu AA AA) (AK (Gz (id:=1) (i:=0) (c:=g) (st':=[CB,HZ s0,T2 oT ou s0,FA,CB,⟨0,35,3,[Mh g]⟩]) rfl k (Cv g).symm AA) (AL (b1 _ (sr AA λg4 b4=>zm tb 2 AA (bs d λn M d=>zz (.ptr 1 0 (Int.toNat 2) 0) (Bz BU AA AA AA AA M) rfl (AR (GK (id:=1) (j:=2) (i:=2) (c:=n) (ys:=n.kids) (encY:=(BP 35)) rfl M (Cv _) rfl AA AA AA) (zz (.agg [i64 n.op,i64 n.num,ow 6 0 n.kids]) (Ar BE AA AA (FB M) nj rfl) rfl (Am AI BE AA AA AA AA AA AA nj rfl (dn b4 AA ?_)))))))));obtain rfl:=Sh.AB d;try dsimp only[id]at h0
      obtain rfl:=Sh.AB h0;exact Aq (Exists.intro _ (And.intro ((Bj (L:=[(6,CY)]) (st':=[CB,DL n,⟨0,35,3,[TP n]⟩]) (st1:=[CB,DL n,⟨0,35,3,[[i64 n.op,i64 n.num,ow 6 0 n.kids]]⟩]) [0,6,3] AA (.pure (by intro x e;cases e) .nil) (by decide) rfl AA (.pure (by intro x e;cases e) (.deep (Ah Al) (.raw AA AA .nil))) (.same AA)).trans (Ag (L:=[(6,CY)]) (.same AA))) (Ar (x:=.tmp 6) (off:=0) (cs:=(TP n)) (vs:=(TP n)) BE AA AA AA nj rfl _ ⟨AA,AA⟩)))
    ·refine AK (Wk.take (id:=1) (m:=4) (j:=2) (i:=0) (c:=g) (ys:=g.kids) (encY:=(BP 35)) (x':=(cu g)) (st':=(gX s0 g oT ou [])) rfl k AA AA AA (by decide) nt Eu AA AA) (AK (Gz (id:=1) (i:=0) (c:=g) (st':=[CB,HZ s0,T2 oT ou s0,FA,CB,⟨0,35,3,[Mh g]⟩]) rfl k (Cv g).symm AA) ?_);exact AL (M3 () (Sh.AB d).symm _ (by refine Wk.trans (AT (L:=(Se [])) (st':=[CB,HZ s0,T2 oT ou s0,FA]) [0,1,2,3] AA (by decide) rfl AA (.pure (by intro x e;cases e) (.deep (Ah Al) (.raw AA AA (.raw AA AA .nil)))) ⟨.rfl,.rfl,jf⟩) ?_;exact AJ AA))
   ·refine zr tb AA AA ?_;refine ci d AA ?_ ?_<;>clear d<;>intro g5 d
    ·refine sr AA λg6 b5=>zm tb 2 AA (bs d λa E d=>zz (.ptr 1 0 (Int.toNat 0) 0) (Bz BU AA AA AA AA E) rfl (AR (GK (id:=1) (j:=2) (i:=0) (c:=a) (ys:=a.kids) (encY:=(BP 35)) rfl E (Cv _) rfl AA AA AA) (zz (.agg (Mh a)) (Ar BE AA AA (FB E) nj rfl) rfl (Av (m:=5) AI DF AA AA (Am AI BE AA AA AA AA AA AA nj rfl (dn b5 AA (zr tb AA AA ?_)))))));refine ci d AA ?_ ?_<;>clear d<;>intro g7 d
     ·refine AG λg8 b6=>?_;refine Bv 7 (by kernel_rfl) (by kernel_rfl) (by rfl) ?_;iterate 3 refine yq tb rfl ?_
      refine bs d λb7 b8 d=>?_;refine BW (v:=(ls eI b7)) AI (hb 66) (Ab.wk (LU b8) (by refine Wk.trans (Wk.BL (L:=[(0,ls eI b7)]) (st':=S9) (id:=0) rfl np (AD λ_=>AA) ⟨.BL AA,jf⟩ AA) ?_;exact AT [] AA (by decide) rfl AA .nil (.same AA))) rfl AA AA ?_;iterate 2 refine yq tb rfl ?_
      refine bs d λh c0 d=>BW (v:=(i64 h)) AI (hb 65) (NQ c0) rfl AA AA (Aw (zq tb AA (dn b6 AA (AG λg9 c1=>PI (by kernel_rfl) (bs d λo C d=>bs d λu47 c2 d=>bs d λp c3 d=>VY (f':=11) (listed':=(bm 11 0)) rfl (by kernel_rfl) (DV 0 (v:=(.ptr 5 0 0 2)) rfl AA (by kernel_rfl) (by kernel_rfl) (by kernel_rfl) rfl (E3 (Jz Ub AA AA nx rfl)) (DV 2 (v:=(.ptr 2 0 0 2)) rfl AA (by kernel_rfl) (by kernel_rfl) (by kernel_rfl) rfl (E3 (Jz Ub AA AA nx rfl)) (DV 4 (v:=(i64 h)) rfl AA (by kernel_rfl) (by kernel_rfl) (by kernel_rfl) rfl (E3 (Ia AA)) (DV 8 (v:=(i64 p2)) rfl AA (by kernel_rfl) (by kernel_rfl) (by kernel_rfl) rfl (E3 (Ia AA)) (V3 (Sr λwo b=>?_)))))))))));have t:wo 0 (bm 11 2047) ⟨92,Aa [(6,CS)],[CB,⟨0,35,3,[LK p]⟩,DL p]⟩:=(b _ _ _).2 (by
       refine Qu AA (by kernel_rfl) (c1 _ ?_);obtain rfl:=Sh.AB d;try dsimp only[id]at h0
       obtain rfl:=Sh.AB h0;exact Aq (Exists.intro _ (And.intro ((Bj (L:=[(6,CY)]) (st':=[CB,DL p,⟨0,35,3,[TP p]⟩]) (st1:=(CB::cR p [])) [0,2,1] AA (.pure (by intro x e;cases e) .nil) (by decide) rfl AA (.pure (by intro x e;cases e) (.deep (Ah Al) (.raw AA AA .nil))) (.same AA)).trans (Ag (L:=[(6,CY)]) (.same AA))) (Ar (x:=.tmp 6) (off:=0) (cs:=(TP p)) (vs:=(TP p)) BE AA AA AA nj rfl _ ⟨AA,AA⟩))))
      have z:wo 1 (bm 11 1023) ⟨92,Aa [(6,CS),(90,.agg (LK p))],[CB,FA,DL p]⟩:=(b _ _ _).2 (by
       refine ya [10] ⟨?_,jf⟩
       ·refine yo 10 ?_;exact Am AI BE AA AA AA AA AA AA nj rfl (yd b t))
      have D:wo 2 (bm 11 511) ⟨92,Aa (ZC a [(88,.agg (Vn o)),(89,i64 p2)]),[CB,FA,DL a,DL o]⟩:=(b _ _ _).2 (by
       refine ya [9] ⟨?_,jf⟩
       ·refine yo 9 (AR (RD (L:=[(6,CS),(82,ls Au a.kids),(88,.agg (Vn o)),(89,i64 p2)]) (st':=[CB,FA,CB,DL o]) (id:=2) rfl nr (Go.Abs.I1 Eu) ⟨.rfl,(.Z5 AA (λx=>Lo x)),.agg ⟨.rfl,.rfl,.rfl,jf⟩,.rfl,jf⟩ AA) ?_);refine F6 (rowsP:=[DL o]) (rows0:=[DL o]) (rows1:=[CB]) (rows2:=[DL p]) (rows1':=[CB]) (rows2':=[DL p]) (st':=[CB,FA,CB,CB,DL p]) (v':=(.agg (Mh p))) [3] AI (hb 43) (La.R4 Nz c3) rfl (by decide) rfl AA (.deep (Ah Al) .nil) rfl AA (.pure (by intro x e;cases e) .nil) (.deep (Ah Al) .nil) rfl AA ?_;exact ZH b z (by exact AT [0,1,4] AA (by decide) rfl AA (.pure (by intro x e;cases e) (.raw AA AA (.deep (Ah Al) .nil))) (.same AA)))
      have f:wo 3 (bm 11 383) ⟨92,Aa (ZC a [(87,.ptr 3 0 (Int.toNat (Sh.w (1+h))) 0),(89,i64 p2)]),dI a s0⟩:=(b _ _ _).2 (by
       refine ya [7] ⟨?_,jf⟩
       ·refine yo 7 ?_;exact AR (Wk.fR (id:=3) (j:=Sh.w (1+h)) (q:=2) (c:=o) (ys:=o.kids) (encY:=(BP 35)) (y:=(cu o)) (y':=(Mh o)) (st':=[CB,FA,DL a,⟨0,35,3,aU s0 (BP 35) 0 (LK a) (Sh.w (1+h)) (Mh o)⟩,DL o]) rfl C (Zm c2 E C) (Cv _) rfl AA AA AA) (zz (.agg (Mh o)) (Ar BE AA AA (Y3 C) nj rfl) rfl (ZH b D (by exact AT [0,1,2,4] AA (by decide) rfl AA (.pure (by intro x e;cases e) (.raw AA AA (.deep (Ah Al) (.deep (Ah Al) .nil)))) (.same AA)))))
      have u:wo 5 (bm 11 287) ⟨92,Aa (ZC a [(84,ow 3 0 s0),(85,i64 h),(89,i64 p2)]),dI a s0⟩:=(b _ _ _).2 (by
       refine ya [5] ⟨?_,jf⟩
       ·refine yo 5 ?_;refine zq tb AA (AF ⟨AA,?_⟩);refine IM 6 (v:=(.ptr 3 0 (Int.toNat (Sh.w (1+h))) 0)) rfl (by kernel_rfl) (by kernel_rfl) (Ls BU AA AA AA AA C) ?_;exact Z0 b f)
      have H:wo 6 (bm 11 279) ⟨92,Aa (ZC a [(83,.ptr 3 0 0 2),(85,i64 h),(89,i64 p2)]),[CB,FA,DL a,⟨0,35,3,[[i64 oT,i64 ou,ow 4 0 s0]]⟩,⟨0,35,3,hole s0 (BP 35) 0 (LK a)⟩]⟩:=(b _ _ _).2 (by
       refine ya [3,5] ⟨?_,?_,jf⟩
       ·refine yo 3 ?_;exact zq tb AA (ZH b u (by exact AT [0,1,2,4] AA (by decide) rfl AA (.pure (by intro x e;cases e) (.raw AA AA (.deep (Ah Al) (.hol (Ah Al) (HD Fh) rfl AA .nil)))) (.same AA)))
       ·refine yo 5 (zq tb AA (AF ⟨AA,(Hv tb 3 AA (by kernel_rfl) rfl (IM 6 (v:=(.ptr 4 0 (Int.toNat (Sh.w (1+h))) 0)) rfl (by kernel_rfl) (by kernel_rfl) (Ls BU AA AA AA AA C) ?_))⟩));exact yw b f (by exact AT [0,1,2,4] AA (by decide) rfl AA (.pure (by intro x e;cases e) (.raw AA AA (.deep (Ah Al) (.hol (Ah Al) (HD Fh) rfl AA .nil)))) (.same AA)))
      have I:wo 6 (bm 11 285) ⟨92,Aa [(6,CS),(81,.ptr 2 0 0 2),(84,ow 4 0 s0),(85,i64 h),(89,i64 p2)],[CB,FA,⟨0,35,3,[Vn a]⟩,DL a,Zx s0 a]⟩:=(b _ _ _).2 (by
       refine ya [1,5] ⟨?_,?_,jf⟩
       ·refine yo 1 ?_;exact zq tb AA (ZH b u (by exact Bj (L:=(ZC a [(84,ow 3 0 s0),(85,i64 h),(89,i64 p2)])) (st':=(dI a s0)) (st1:=[CB,FA,DL a,Zx s0 a]) [0,1,3,4] AA (.pure (by intro x e;cases e) .nil) (by decide) rfl AA (.pure (by intro x e;cases e) (.raw AA AA (.deep (Ah Al) (.hol (Ah Al) (HD Fh) rfl AA .nil)))) (.same AA)))
       ·refine yo 5 (zq tb AA (AF ⟨AA,(Hv tb 1 AA (by kernel_rfl) rfl (IM 6 (v:=(.ptr 4 0 (Int.toNat (Sh.w (1+h))) 0)) rfl (by kernel_rfl) (by kernel_rfl) (Ls BU AA AA AA AA C) ?_))⟩));exact yw b f (by exact Bj (L:=(ZC a [(87,.ptr 3 0 (Int.toNat (Sh.w (1+h))) 0),(89,i64 p2)])) (st':=(dI a s0)) (st1:=[CB,FA,DL a,Zx s0 a]) [0,1,3,4] AA (.pure (by intro x e;cases e) .nil) (by decide) rfl AA (.pure (by intro x e;cases e) (.raw AA AA (.deep (Ah Al) (.hol (Ah Al) (HD Fh) rfl AA .nil)))) (.same AA)))
      have J:wo 7 (bm 11 277) ⟨92,Aa [(6,CS),(81,.ptr 2 0 0 2),(83,.ptr 4 0 0 2),(85,i64 h),(89,i64 p2)],[CB,FA,⟨0,35,3,[Vn a]⟩,DL a,⟨0,35,3,[[i64 oT,i64 ou,ow 5 0 s0]]⟩,Zx s0 a]⟩:=(b _ _ _).2 (by
       refine ya [1,3,5] ⟨?_,?_,?_,jf⟩
       ·refine yo 1 ?_;exact zq tb AA (ZH b H (by exact Bj (L:=(ZC a [(83,.ptr 3 0 0 2),(85,i64 h),(89,i64 p2)])) (st':=[CB,FA,DL a,⟨0,35,3,[[i64 oT,i64 ou,ow 4 0 s0]]⟩,⟨0,35,3,hole s0 (BP 35) 0 (LK a)⟩]) (st1:=[CB,FA,DL a,⟨0,35,3,[[i64 oT,i64 ou,ow 5 0 s0]]⟩,Zx s0 a]) [0,1,3,4,5] AA (.pure (by intro x e;cases e) .nil) (by decide) rfl AA (.pure (by intro x e;cases e) (.raw AA AA (.deep (Ah Al) (.raw AA AA (.hol (Ah Al) (HD Fh) rfl AA .nil))))) (.same AA)))
       ·refine yo 3 ?_;exact zq tb AA (ZH b I (by exact AT [0,1,2,3,5] AA (by decide) rfl AA (.pure (by intro x e;cases e) (.raw AA AA (.raw AA AA (.deep (Ah Al) (.hol (Ah Al) (HD Fh) rfl AA .nil))))) (.same AA)))
       ·refine yo 5 (zq tb AA (AF ⟨AA,(Hv tb 1 AA (by kernel_rfl) rfl (Hv tb 3 AA (by kernel_rfl) rfl (IM 6 (v:=(.ptr 5 0 (Int.toNat (Sh.w (1+h))) 0)) rfl (by kernel_rfl) (by kernel_rfl) (Ls BU AA AA AA AA C) ?_)))⟩));exact yw b f (by exact Bj (L:=(ZC a [(87,.ptr 3 0 (Int.toNat (Sh.w (1+h))) 0),(89,i64 p2)])) (st':=(dI a s0)) (st1:=[CB,FA,DL a,Zx s0 a]) [0,1,3,5] AA (.pure (by intro x e;cases e) .nil) (by decide) rfl AA (.pure (by intro x e;cases e) (.raw AA AA (.deep (Ah Al) (.hol (Ah Al) (HD Fh) rfl AA .nil)))) (.same AA)))
      refine (b _ _ _).2 ?_;exact yw b J (by exact Bj (L:=[(6,CS),(81,.ptr 2 0 0 2),(83,.ptr 4 0 0 2),(85,i64 h),(89,i64 p2)]) (st':=[CB,FA,⟨0,35,3,[Vn a]⟩,DL a,⟨0,35,3,[[i64 oT,i64 ou,ow 5 0 s0]]⟩,Zx s0 a]) (st1:=[CB,FA,⟨0,35,3,[Mh a]⟩,DL a,T2 oT ou s0,⟨0,35,3,hole s0 (BP 35) 0 (Mh a)⟩]) [0,3,5,4,2,1] AA (.pure (by intro x e;cases e) .nil) (by decide) rfl AA (.pure (by intro x e;cases e) (.raw AA AA (.raw AA AA (.deep (Ah Al) (.raw AA AA (.hol (Ah Al) (HD Fh) rfl AA .nil)))))) (.same AA))
     ·refine AK (Wk.take (id:=1) (m:=4) (j:=2) (i:=0) (c:=a) (ys:=a.kids) (encY:=(BP 35)) (x':=(cu a)) (st':=(gX s0 a oT ou [])) rfl E AA AA AA (by decide) nt Eu AA AA) (AK (Gz (id:=1) (i:=0) (c:=a) (st':=[CB,HZ s0,T2 oT ou s0,FA,CB,⟨0,35,3,[Mh a]⟩]) rfl E (Cv a).symm AA) ?_);exact AL (M3 () (Sh.AB d).symm _ (by refine Wk.trans (AT (L:=(Se [])) (st':=[CB,HZ s0,T2 oT ou s0,FA]) [0,1,2,3] AA (by decide) rfl AA (.pure (by intro x e;cases e) (.deep (Ah Al) (.raw AA AA (.raw AA AA .nil)))) ⟨.rfl,.rfl,jf⟩) ?_;exact AJ AA))
    ·exact AL (M3 () (Sh.AB d).symm _ (AJ AA))
 refine zr tb AA AA ?_;refine ci A AA ?_ ?_<;>clear A<;>intro d2 A
 ·exact AL (M8 true (Sh.AB A).symm _ (Ag (L:=((0,Ct p0)::(2,i64 p2)::Se [(11,i64 oT),(12,.bool true)])) ⟨.rfl,.rfl,.rfl,.rfl,.rfl,.of (kf AV.bool d2),jf⟩))
 ·refine zr tb AA AA ?_;refine ci A AA ?_ ?_<;>clear A<;>intro d3 A
  ·exact AL (M8 true (Sh.AB A).symm _ (Ag (L:=((0,Ct p0)::(2,i64 p2)::Se [(11,i64 oT),(12,.bool true)])) ⟨.rfl,.rfl,.rfl,.rfl,.rfl,.of (kf AV.bool d3),jf⟩))
  ·refine zr tb AA AA ?_;refine ci A AA ?_ ?_<;>clear A<;>intro d4 A
   ·exact AL (M8 true (Sh.AB A).symm _ (Ag (L:=((0,Ct p0)::(2,i64 p2)::Se [(11,i64 oT),(12,.bool true)])) ⟨.rfl,.rfl,.rfl,.rfl,.rfl,.of (kf AV.bool d4),jf⟩))
   ·exact AH AA (zm tb 2 AA (AF (M8 (decide (oT=4)) (Sh.AB A).symm _ (AJ AA))))
theorem Tw {N:Nat}{oR:(List AM)}{oV:(List Ac)}{s1:(List AE)}{uG uH p1:Int}{r:AE}(h0:Lx N oR oV s1 uG uH p1=some r):Ab Tryz.prog 35 [.agg [i64 uG,i64 uH,ow 1 0 s1],i64 p1,BJ] [G0 oR oV,HZ s1] (λv st=>v=(.agg (LK r))/\st=[G0 oR oV,CB,DL r]):=by
 unfold Lx at h0;refine Ab.wk (r0:=(.agg (LK r))) (st0:=((G0 oR oV)::CB::cR r [])) ?_ (De (L:=[(0,.agg (LK r))]) (st':=[G0 oR oV,CB,DL r]) [0,1,2] AA (by decide) rfl AA (.raw AA (.pure (by intro x b;cases b) (.deep (Ah Al) jf))) (.same AA));refine ai Tryz.func35 AA AA AA AA (AK (O8 (L:=[(0,.agg [i64 uG,i64 uH,ow 2 0 s1]),(1,i64 p1),(2,BJ)]) (id:=1) (N:=2) (st':=[G0 oR oV,CB,HZ s1]) rfl AA (.same AA) rfl) (sr AA λf c=>Bf (m:=3) AI AA AA AA AA AA (Av (m:=4) AI DF AA AA (dn c AA (sr AA λg d=>zm tb 4 AA (bs h0 λa e h0=>?_))))));refine F6 (rowsP:=[HZ s1]) (rows0:=[HZ s1]) (rows1:=[CB]) (rows2:=[DL a]) (rows1':=[CB]) (rows2':=[DL a]) (st':=[G0 oR oV,CB,CB,⟨0,35,3,[[i64 uG,i64 uH,ow 2 0 s1]]⟩,FA,DL a]) (v':=(.agg (V0 a))) [2] AI (hb 36) (T1 e) rfl (by decide) rfl AA (.deep (Ah Al) .nil) rfl AA (.pure (by intro x b;cases b) .nil) (.deep (Ah Al) .nil) rfl AA ?_;refine Am AI BE AA AA AA AA AA AA nj rfl (dn d AA ?_);obtain rfl:=Sh.AB h0;exact Aq (Exists.intro _ (And.intro ((Bj (L:=[(5,HN)]) (st':=((G0 oR oV)::CB::cR a [])) (st1:=[G0 oR oV,CB,DL a,⟨0,35,3,[V0 a]⟩]) [0,1,5,4] AA (.raw AA AA (.pure (by intro x b;cases b) .nil)) (by decide) rfl AA (.raw AA AA (.pure (by intro x b;cases b) (.deep (Ah Al) (.raw AA AA .nil)))) (.same AA)).trans (Ag (L:=[(5,HN)]) (.same AA))) (Ar (x:=.tmp 5) (off:=0) (cs:=(LK a)) (vs:=(LK a)) BE AA AA AA nj rfl _ ⟨AA,AA⟩)))
theorem NF {N:Nat}{og:(List AE)->(List AM)->(List Ac)->(List AM)->Int->Int->Int->Option (AE)}(pY :∀{s0:(List AE)} {pB:(List AM)} {pC:(List Ac)} {p0:(List AM)} {oT:Int} {ou:Int} {p2:Int} {r:AE},og s0 pB pC p0 oT ou p2=some r->Ab Tryz.prog 56 [Ct p0,.agg [i64 oT,i64 ou,ow 0 0 s0],i64 p2,.fn 35 [CS]] [HZ s0,G0 pB pC] (λv st=>v=(.agg (LK r))/\st=[CB,G0 pB pC,DL r])){s0:(List AE)}{pB:(List AM)}{pC:(List Ac)}{p0:(List AM)}{oT ou p2:Int}{r:AE}(h0:G7 N og s0 pB pC p0 oT ou p2=some r):Ab Tryz.prog 56 [Ct p0,.agg [i64 oT,i64 ou,ow 0 0 s0],i64 p2,.fn 35 [CS]] [HZ s0,G0 pB pC] (λv st=>v=(.agg (LK r))/\st=[CB,G0 pB pC,DL r]):=by
 unfold G7 at h0;refine Ab.wk (r0:=(.agg (LK r))) (st0:=(CB::(G0 pB pC)::cR r [])) ?_ (De (L:=[(0,.agg (LK r))]) (st':=[CB,G0 pB pC,DL r]) [0,1,2] AA (by decide) rfl AA (.pure (by intro x C;cases C) (.raw AA (.deep (Ah Al) jf))) (.same AA));refine ai Tryz.func56 AA AA AA AA (sr AA λK1 b0=>Bf (m:=2) AI AA AA AA AA AA (Av (m:=3) AI DF AA AA (dn b0 AA (AG λK2 b1=>sr AA λK3 b2=>zm tb 2 AA (zz (G8 s0) (Cr SH AA AA AA) rfl (zq tb AA (dn b2 AA (bs h0 λo7 z h0=>?_))))))));have M7:∀(H:(List AE)),o7=H->∀s,Wk 2 s ⟨67,Aa [(2,i64 p2),(3,.fn 35 [CS]),(5,CY),(8,HN)],[HZ H,G0 pB pC,O4 oT ou H,FA]⟩->K2 s:=by
  intro H hq s I;subst o7;try dsimp only at h0
  refine b1 _ (AK I (sr AA λK8 b3=>zm tb 3 AA (bs h0 λE b4 h0=>?_)));refine Z2 (rowsP:=[G0 pB pC,HZ H]) (rows0:=[G0 pB pC,HZ H]) (rows1:=[G0 pB pC,CB]) (rows2:=[DL E]) (rows1':=[G0 pB pC,CB]) (rows2':=[DL E]) (st':=[CB,G0 pB pC,O4 oT ou H,FA,DL E]) (v':=(.agg (Mh E))) [1,0] AI AA (hb 35) (Tw b4) rfl (by decide) rfl AA (.raw AA AA (.deep (Ah Al) .nil)) rfl AA (.raw AA AA (.pure (by intro x C;cases C) .nil)) (.deep (Ah Al) .nil) rfl AA ?_;refine Am AI BE AA AA AA AA AA AA nj rfl (dn b3 AA ?_);obtain rfl:=Sh.AB h0;exact Aq (Exists.intro _ (And.intro ((Bj (L:=[(8,HN)]) (st':=(CB::(G0 pB pC)::cR E [])) (st1:=[CB,G0 pB pC,DL E,⟨0,35,3,[Mh E]⟩]) [0,1,4,3] AA (.pure (by intro x C;cases C) (.raw AA AA .nil)) (by decide) rfl AA (.pure (by intro x C;cases C) (.raw AA AA (.deep (Ah Al) (.raw AA AA .nil)))) (.same AA)).trans (Ag (L:=[(8,HN)]) (.same AA))) (Ar (x:=.tmp 8) (off:=0) (cs:=(LK E)) (vs:=(LK E)) BE AA AA AA nj rfl _ ⟨AA,AA⟩)))
 refine AU (Ax (σ:=Int×(List AE)) (λn v=>Cp N s0 pB pC p0 oT ou p2 og n v.1 v.2=some o7) (λ(d,h)=>⟨67,Aa [(0,ls Aj p0),(2,i64 p2),(3,.fn 35 [.ptr 1 0 0 0]),(5,.ptr 2 0 0 0),(8,.ptr 3 0 0 0),(13,i64 (Sh.len s0)),(14,i64 d)],[ro 0 35 3 (BP 35) h,G0 pB pC,⟨0,35,3,[[i64 oT,i64 ou,ow 0 0 h]]⟩,FA]⟩) N (0,s0) z (AJ AA) (λ_ hv=>by rw[Cp]at hv;cases hv) ?_);rintro n ⟨d,h⟩ z;try dsimp only at z⊢
 rw[Cp]at z;refine zr tb AA AA (AG λc1 O=>?_);refine ci z AA ?_ ?_<;>clear z<;>intro c2 z
 ·refine AL (O _ (AG λc3 P=>AU ?_));iterate 2 refine zr tb rfl rfl ?_
  refine AG λb5 Q=>bs z λR y z=>?_;have J:∀(b:Int),R=b->∀s,Wk 2 s ⟨67,Aa (Tt p0 p2 ((5,CY)::(8,HN)::(9,i64 d)::(10,i64 b)::QQ s0 d [])),[HZ h,G0 pB pC,O4 oT ou h,FA]⟩->b5 s:=by
   intro b hq s I;subst R;try dsimp only at z
   refine Q _ (AK I (H9 (by kernel_rfl) (bs z λa o z=>bs z λg F z=>J7 λsx e=>?_)));have l:sx 0 (bm 14 16383) ⟨67,Aa (Tt p0 p2 ((5,CY)::(8,HN)::QQ s0 d [])),[ro 0 35 3 (BP 35) (Sh.put h d g),G0 pB pC,⟨0,35,3,[[i64 oT,i64 ou,ow 0 0 (Sh.put h d g)]]⟩,FA]⟩:=(e _ _ _).2 (by
    exact Hc AA (by kernel_rfl) (P _ (AH AA (zm tb 2 AA (AF (xi (Sh.w (d+1),Sh.put h d g) z (Ag (L:=(Tt p0 p2 [(5,CY),(8,HN),(13,G8 s0),(14,KA d)])) (.same AA))))))))
   have f:sx 1 (bm 14 8191) ⟨67,Aa (Tt p0 p2 ((5,HN)::(8,LV)::QQ s0 d [(60,.agg (V0 g)),(61,.ptr 0 0 (Int.toNat d) 0)])),Z7 h d a pB pC [CB,O4 oT ou h,FA,DL g]⟩:=(e _ _ _).2 (by
    refine xa [13] ⟨?_,jf⟩
    ·refine xo 13 (bO (x':=(V0 g)) (st':=[⟨0,35,3,hole h (BP 35) d (V0 g)⟩,G0 pB pC,CB,O4 oT ou h,FA,DL g]) AI BE AA AA o AA AA AA nj rfl AA (AR (Wk.take (id:=0) (m:=5) (j:=2) (i:=d) (c:=a) (ys:=g.kids) (encY:=(BP 35)) rfl o AA AA AA (by decide) ny Eu AA AA) (AR (R0 (id:=0) (i:=d) (u:=g) rfl (Cv g).symm AA) (AF ⟨AA,?_⟩))));exact As (by refine Wk.trans (Ag (L:=[(0,.sl (List.map Aj p0)),(2,i64 p2),(3,.fn 35 [.ptr 1 0 0 0]),(5,.ptr 3 0 0 0),(8,.ptr 4 0 0 0),(13,i64 (Sh.len s0)),(14,i64 d)]) (.same AA)) ?_;refine Wk.trans (Fo (st:=[⟨0,35,3,List.map (BP 35) (Sh.put h d g)⟩,⟨0,26,2,[[.sl (List.map Aj pB),.sl (List.map BS pC)]]⟩,⟨1,35,3,[]⟩,⟨0,35,3,[[i64 oT,i64 ou,.own 0 0 (List.length h)]]⟩,FA,⟨1,35,3,[]⟩]) (st':=[⟨0,35,3,List.map (BP 35) (Sh.put h d g)⟩,⟨0,26,2,[[.sl (List.map Aj pB),.sl (List.map BS pC)]]⟩,⟨1,35,3,[]⟩,⟨0,35,3,[[i64 oT,i64 ou,.own 0 0 (List.length (Sh.put h d g))]]⟩,FA,⟨1,35,3,[]⟩]) (by simp only[Sh.Ga])) ?_;exact AT [0,1,3,4] AA (by decide) rfl AA (.deep (Ah Al) (.raw AA AA (.raw AA AA (.raw AA AA .nil)))) (.same AA)) (BG (by kernel_rfl) ((e _ _ _).1 l)) rfl)
   have k:sx 3 (bm 14 2047) ⟨67,Aa (Tt p0 p2 ((5,HN)::(8,LV)::QQ s0 d [(50,ow 0 0 h),(51,i64 d),(52,Ct p0),(57,.agg (LK a)),(58,i64 b),(59,.fn 35 [CS])])),Z7 h d a pB pC [DL a,O4 oT ou h,FA]⟩:=(e _ _ _).2 (by
    refine xa [11] ⟨?_,jf⟩
    ·refine xo 11 ?_;refine F6 (rowsP:=[DL a,G0 pB pC]) (rows0:=[DL a,G0 pB pC]) (rows1:=[CB,G0 pB pC]) (rows2:=[DL g]) (rows1':=[CB,G0 pB pC]) (rows2':=[DL g]) (st':=(Z7 h d a pB pC [CB,O4 oT ou h,FA,DL g])) (v':=(.agg (V0 g))) [2,1] AI (hb 56) (pY F) rfl (by decide) rfl AA (.deep (Ah Al) (.raw AA AA .nil)) rfl AA (.pure (by intro x C;cases C) (.raw AA AA .nil)) (.deep (Ah Al) .nil) rfl AA ?_;refine AF ⟨AA,?_⟩;refine Hl 12 (v:=(.ptr 0 0 (Int.toNat d) 0)) rfl (by kernel_rfl) (by kernel_rfl) (Ls BU AA AA AA AA o) ?_;exact xt e f)
   have p:sx 4 (bm 14 1791) ⟨67,Aa (Tt p0 p2 ((5,CY)::(8,HN)::QQ s0 d [(50,ow 0 0 h),(51,i64 d),(52,Ct p0),(56,.ptr 0 0 (Int.toNat d) 0),(58,i64 b),(59,.fn 35 [CS])])),[HZ h,G0 pB pC,O4 oT ou h,FA]⟩:=(e _ _ _).2 (by
    refine xa [8] ⟨?_,jf⟩
    ·refine xo 8 ?_;exact AR (GK (id:=0) (j:=2) (i:=d) (c:=a) (ys:=a.kids) (encY:=(BP 35)) rfl o (Cv _) rfl AA AA AA) (zz (.agg (Mh a)) (Ar BE AA AA (FB o) nj rfl) rfl (NU e k (by exact LC (L:=(Tt p0 p2 ((5,HN)::(8,LV)::QQ s0 d [(50,ow 0 0 h),(51,i64 d),(52,Ct p0),(57,.agg (LK a)),(58,i64 b),(59,.fn 35 [CS])]))) (st':=(Z7 h d a pB pC [DL a,O4 oT ou h,FA])) (st1:=[⟨0,35,3,hole h (BP 35) d (Mh a)⟩,G0 pB pC,DL a,O4 oT ou h,FA]) [0,1,4,2,3] AA (by decide) rfl AA (.hol (Ah Al) (HD Fh) rfl AA (.raw AA AA (.deep (Ah Al) (.raw AA AA (.raw AA AA .nil))))) (.same AA)))))
   have q:sx 4 (bm 14 2045) ⟨67,Aa (Tt p0 p2 ((5,HN)::(8,LV)::QQ s0 d [(49,.ptr 3 0 0 2),(51,i64 d),(52,Ct p0),(57,.agg (LK a)),(58,i64 b),(59,.fn 35 [CS])])),Z7 h d a pB pC [DL a,O4 oT ou h,FA]⟩:=(e _ _ _).2 (by
    refine xa [1,11] ⟨?_,?_,jf⟩
    ·exact xq tb e k
    ·refine xo 11 ?_;refine F6 (rowsP:=[DL a,G0 pB pC]) (rows0:=[DL a,G0 pB pC]) (rows1:=[CB,G0 pB pC]) (rows2:=[DL g]) (rows1':=[CB,G0 pB pC]) (rows2':=[DL g]) (st':=(Z7 h d a pB pC [CB,O4 oT ou h,FA,DL g])) (v':=(.agg (V0 g))) [2,1] AI (hb 56) (pY F) rfl (by decide) rfl AA (.deep (Ah Al) (.raw AA AA .nil)) rfl AA (.pure (by intro x C;cases C) (.raw AA AA .nil)) (.deep (Ah Al) .nil) rfl AA ?_;refine AF ⟨AA,?_⟩;refine BX tb 1 AA (by kernel_rfl) rfl ?_;refine Hl 12 (v:=(.ptr 0 0 (Int.toNat d) 0)) rfl (by kernel_rfl) (by kernel_rfl) (Ls BU AA AA AA AA o) ?_;exact xt e f)
   have t:sx 5 (bm 14 1789) ⟨67,Aa (Tt p0 p2 ((5,CY)::(8,HN)::QQ s0 d [(49,.ptr 2 0 0 2),(51,i64 d),(52,Ct p0),(56,.ptr 0 0 (Int.toNat d) 0),(58,i64 b),(59,.fn 35 [CS])])),[HZ h,G0 pB pC,O4 oT ou h,FA]⟩:=(e _ _ _).2 (by
    refine xa [1,8] ⟨?_,?_,jf⟩
    ·exact xq tb e p
    ·refine xo 8 ?_;exact AR (GK (id:=0) (j:=2) (i:=d) (c:=a) (ys:=a.kids) (encY:=(BP 35)) rfl o (Cv _) rfl AA AA AA) (zz (.agg (Mh a)) (Ar BE AA AA (FB o) nj rfl) rfl (NU e q (by exact LC (L:=(Tt p0 p2 ((5,HN)::(8,LV)::QQ s0 d [(49,.ptr 3 0 0 2),(51,i64 d),(52,Ct p0),(57,.agg (LK a)),(58,i64 b),(59,.fn 35 [CS])]))) (st':=(Z7 h d a pB pC [DL a,O4 oT ou h,FA])) (st1:=[⟨0,35,3,hole h (BP 35) d (Mh a)⟩,G0 pB pC,DL a,O4 oT ou h,FA]) [0,1,4,2,3] AA (by decide) rfl AA (.hol (Ah Al) (HD Fh) rfl AA (.raw AA AA (.deep (Ah Al) (.raw AA AA (.raw AA AA .nil))))) (.same AA)))))
   exact (e _ _ _).2 (BX tb 0 AA (by kernel_rfl) rfl (BX tb 2 AA (by kernel_rfl) rfl (BX tb 3 AA (by kernel_rfl) rfl (BX tb 4 AA (by kernel_rfl) rfl (BX tb 5 AA (by kernel_rfl) rfl (BX tb 6 AA (by kernel_rfl) rfl (Hl 7 (v:=(.ptr 0 0 (Int.toNat d) 0)) rfl (by kernel_rfl) (by kernel_rfl) (Bz BU AA AA AA AA o) (BX tb 9 AA (by kernel_rfl) rfl (BX tb 10 AA (by kernel_rfl) rfl (xt e t))))))))))
  refine AU (AG λb6 S=>bs y λT D y=>?_);have U:∀(K:Bool),T=K->∀s,Wk 2 s ⟨67,Aa (Tt p0 p2 ((5,CY)::(8,HN)::(9,i64 d)::(10,i64 p2)::QQ s0 d [(18,.bool K)])),[HZ h,G0 pB pC,O4 oT ou h,FA]⟩->b6 s:=by
   intro K hq s I;subst T;try dsimp only at y
   refine S _ (AK I ?_);refine ci y AA ?_ ?_<;>clear y<;>intro c4 y
   ·exact AH AA (zm tb 3 AA (AF (J (Sh.w (p2+1)) (Sh.AB y).symm _ (AJ AA))))
   ·refine AG λb7 V=>bs y λW D y=>?_;have X:∀(M:Bool),W=M->∀s,Wk 2 s ⟨67,Aa (Tt p0 p2 ((5,CY)::(8,HN)::(9,i64 d)::(10,i64 p2)::QQ s0 d [(28,.bool M)])),[HZ h,G0 pB pC,O4 oT ou h,FA]⟩->b7 s:=by
     intro M hq s I;subst W;try dsimp only at y
     refine V _ (AK I ?_);refine ci y AA ?_ ?_<;>clear y<;>intro c5 y
     ·exact AH AA (zm tb 5 AA (bs y λb8 Y y=>CM (v':=(ow 4 0 b8)) AI (hb 66) (LU Y) rfl AA ⟨(CQ λ_=>AA),jf⟩ AA AA (zm tb 2 AA (bs y λb9 G y=>zz (.ptr 4 0 (Int.toNat (Sh.w (d-1))) 0) (Bz BQ AA AA AA AA G) rfl (zz (i64 b9) (Bx HV AA AA (CU G) rfl) rfl (bs y λc0 Z y=>zc (hb 92) (Mn Z) rfl AA AA (zl tb AA AA (zm tb 2 AA (AF (J (Sh.w (p2+(Sh.len c0))) (Sh.AB y).symm _ (AT [0,1,2,3] AA (by decide) rfl AA (.deep (Ah Al) (.raw AA AA (.raw AA AA (.raw AA AA .nil)))) (.same AA))))))))))))
     ·exact AL (J p2 (Sh.AB y).symm _ (AJ AA))
    refine AH AA (zm tb 4 AA ?_);rcases Sh.Ak D with ⟨A,D⟩|⟨A,D⟩
    ·exact zg tb A AA (zg tb A AA (zt A AA (zq tb AA (AF (X (decide (0<d)) (Sh.AB D).symm _ (AJ AA))))))
    ·exact zs A AA (zs A AA (zf A AA (zq tb AA (AF (X false (Sh.AB D).symm _ (AJ AA))))))
  refine AH AA (zm tb 4 AA ?_);rcases Sh.Ak D with ⟨B,D⟩|⟨B,D⟩
  ·exact zg tb B AA (zg tb B AA (zt B AA (zq tb AA (AF (U (decide (d=1)) (Sh.AB D).symm _ (AJ AA))))))
  ·exact zs B AA (zs B AA (zf B AA (zq tb AA (AF (U false (Sh.AB D).symm _ (AJ AA))))))
 ·exact BD (M7 h (Sh.AB z).symm _ (AJ AA))
theorem NN {N:Nat}:∀(n:Nat),∀{s0:(List AE)} {pB:(List AM)} {pC:(List Ac)} {p0:(List AM)} {oT:Int} {ou:Int} {p2:Int} {r:AE},DN N n s0 pB pC p0 oT ou p2=some r->Ab Tryz.prog 56 [Ct p0,.agg [i64 oT,i64 ou,ow 0 0 s0],i64 p2,.fn 35 [CS]] [HZ s0,G0 pB pC] (λv st=>v=(.agg (LK r))/\st=[CB,G0 pB pC,DL r]):=by
 intro n
 induction n with
 | zero=>intro s0 pB pC p0 oT ou p2 r a;cases a
 | succ n ih=>
  intro s0 pB pC p0 oT ou p2 r a;rw[DN]at a;exact NF (λh=>ih h) a
theorem KT {N:Nat}:∀{s0:(List AE)} {pB:(List AM)} {pC:(List Ac)} {p0:(List AM)} {oT:Int} {ou:Int} {p2:Int} {r:AE},Jb N s0 pB pC p0 oT ou p2=some r->Ab Tryz.prog 56 [Ct p0,.agg [i64 oT,i64 ou,ow 0 0 s0],i64 p2,.fn 35 [CS]] [HZ s0,G0 pB pC] (λv st=>v=(.agg (LK r))/\st=[CB,G0 pB pC,DL r]):=by
 intro s0 pB pC p0 oT ou p2 r a;exact NN N a
end Go.Proofs.YtihdgoiebmfapaaGreat
