import Derived.Test.YtihdgoiebmfapaaGreatFEWalkP2
set_option linter.all false
namespace Go.Proofs.YtihdgoiebmfapaaGreat
open Go Go.Abs RC
attribute [local irreducible] Go.Abs.D7
set_option maxRecDepth 100000
set_option maxHeartbeats 4000000
theorem Ln {N:Nat}{qa:(List Int)->BQ->AE->Option (Int)}(qe :∀{s0:(List Int)} {p0:BQ} {p2:AE} {r:Int},qa s0 p0 p2=some r->Ab Tryz.prog 81 [KC p0,ow 0 0 s0,Bc p2] [Bm s0] (λv st=>v=(i64 r)/\st=[Bm s0])){s0:(List Int)}{p0:BQ}{p2:AE}{r:Int}(h0:Ap N qa s0 p0 p2=some r):Ab Tryz.prog 81 [KC p0,ow 0 0 s0,Bc p2] [Bm s0] (λv st=>v=(i64 r)/\st=[Bm s0]):=by
 unfold Ap at h0;refine ai Tryz.func81 AA AA AA AA (sr AA λK1 q8=>Bd (m:=1) AI AA AA AA AA AA (Bd (m:=2) AI AA AA AA AA AA (zq tb AA (dn q8 AA (AG λK2 q9=>zr tb AA AA (AT (zr tb AA AA ?_)))))));refine ci h0 AA ?_ ?_<;>clear h0<;>intro b5 h0
 ·refine AG λK6 t0=>AG λK7 t1=>bs h0 λo9 d h0=>?_;have M9:∀(t8:Bool),o9=t8->∀s,Wk 1 s ⟨194,Aa [(1,ow 0 0 s0),(5,CT),(36,.bool t8)],[Bm s0,Pv p2.op p2.num p2.kids]⟩->K7 s:=by
   intro t8 hq s hw;subst o9;refine t1 _ (AK hw ?_);refine ci h0 AA ?_ ?_<;>clear h0<;>intro w5 h0
   ·refine zr tb AA AA ?_;obtain rfl:=Sh.AB h0;exact Ao (xr (AS (L:=[(6,i64 (-1))]) (st':=[Bm s0]) [0] AA (by decide) rfl AA (.pure (AD λ_=>AA) .nil) ⟨.rfl,lU⟩))
   ·refine AL (t0 _ (sr AA λw6 g5=>zm tb 3 AA (bs h0 λg6 c5 h0=>zz (.ptr 0 0 (Int.toNat p2.num) 0) (CB BM AA AA AA AA c5) rfl (zz (i64 g6) (CA HV AA AA (CW c5) rfl) rfl (zq tb AA (dn g5 AA ?_))))));obtain rfl:=Sh.AB h0;exact Ao (xr (AS (L:=[(6,i64 g6)]) (st':=[Bm s0]) [0] AA (by decide) rfl AA (.pure (AD λ_=>AA) .nil) ⟨.rfl,lU⟩))
  refine AH AA (zm tb 2 AA (zl tb AA AA (zm tb 2 AA ?_)));rcases Sh.Aj d with ⟨T,d⟩|⟨T,d⟩
  ·refine zs T AA (zs T AA (zs T AA (zt T AA (zq tb AA ?_))));iterate 5 refine zs rfl rfl ?_
   exact zt AA AA (AF (M9 true (Sh.AB d).symm _ (AS [0,2] AA (by decide) rfl AA (.pure (AD λ_=>AA) (.raw AA AA .nil)) (.same AA))))
  ·refine zg tb T AA (zg tb T AA (zg tb T AA (zf T AA (zq tb AA ?_))));rcases Sh.Aj d with ⟨O,d⟩|⟨O,d⟩
   ·refine zs O AA ?_;iterate 4 refine zs O rfl ?_
    exact zt O AA (AF (M9 true (Sh.AB d).symm _ (AS [0,2] AA (by decide) rfl AA (.pure (AD λ_=>AA) (.raw AA AA .nil)) (.same AA))))
   ·exact zg tb O AA (zg tb O AA (zg tb O AA (Ba (v:=(HB s0)) (CS AA AA O) rfl (Cv Fz AA AA AA) (zg tb O AA (zf O AA (AF (M9 (decide ((Sh.len s0)<=p2.num)) (Sh.AB d).symm _ (AS [0,2] AA (by decide) rfl AA (.pure (AD λ_=>AA) (.raw AA AA .nil)) (.same AA)))))))))
 ·refine zr tb AA AA ?_;refine ci h0 AA ?_ ?_<;>clear h0<;>intro w7 h0
  ·refine AG λw8 g7=>AG λt2 g8=>bs h0 λg9 d h0=>?_;have h2:∀(d0:Bool),g9=d0->∀s,Wk 1 s ⟨194,Aa [(1,ow 0 0 s0),(3,CT),(5,CY),(52,.bool d0)],aV s0 p0 p2 []⟩->t2 s:=by
    intro d0 hq s hw;subst g9;refine g8 _ (AK hw ?_);refine ci h0 AA ?_ ?_<;>clear h0<;>intro w9 h0
    ·refine zr tb AA AA ?_;obtain rfl:=Sh.AB h0;exact Ao (xr (AS (L:=[(6,i64 (-1))]) (st':=[Bm s0]) [0] AA (by decide) rfl AA (.pure (AD λ_=>AA) .nil) ⟨.rfl,lU⟩))
    ·refine AL (g7 _ (AG λA0 h3=>Ce (by kernel_rfl) (by kernel_rfl) (by rfl) ?_));iterate 4 refine yq tb rfl ?_
     refine bs h0 λt3 h4 h0=>yz (Dc t3) (By BU AA AA h4 (Ai _) rfl) rfl (yq tb AA (bs h0 λg h5 h0=>V7 (rowsP:=[Bm s0]) (rows0:=[Bm s0]) (rows1:=[Bm s0]) (rows1':=[Bm s0]) (v':=(i64 g)) [0] AI (hb 81) (qe h5) rfl (by decide) rfl AA (.pure (AD λ_=>AA) .nil) rfl AA (.pure (AD λ_=>AA) .nil) rfl AA (yq tb AA (Aw (h3 _ (AG λA1 h6=>zr tb AA AA ?_))))));refine ci h0 AA ?_ ?_<;>clear h0<;>intro A2 h0
     ·refine zr tb AA AA ?_;obtain rfl:=Sh.AB h0;exact Ao (xr (AS (L:=[(6,i64 (-1))]) (st':=[Bm s0]) [0] AA (by decide) rfl AA (.pure (AD λ_=>AA) .nil) ⟨.rfl,lU⟩))
     ·refine AL (h6 _ (AG λA3 c6=>?_));refine IQ (by kernel_rfl) ?_;refine bs h0 λf S h0=>bs h0 λh z h0=>bs h0 λb4 c7 h0=>AX.two (Bm s0) (Bm f) λuS ve a e=>?_;have p:ve 0 (bm 11 2047) ⟨194,Aa [(6,i64 b4)],[Bm f]⟩:=(e _ _ _).2 (by
       refine Hr AA (by kernel_rfl) ⟨⟨_,AA⟩,c6 _ ?_⟩;obtain rfl:=Sh.AB h0;exact Ao (Exists.intro _ (And.intro (Af (L:=[(6,i64 b4)]) (.same AA)) (And.intro AA AA))))
      have b:ve 2 (bm 11 511) ⟨194,Aa [(62,KC p0),(66,ow 0 0 f),(70,Bc h)],[Bm f]⟩:=(e _ _ _).2 (by
       refine xa [9] ⟨?_,lU⟩
       ·refine xo 9 ?_;refine CN (rows0:=[Bm f]) (rows1:=[Bm f]) (st':=[Bm f]) (v':=(i64 b4)) [0] AI (hb 81) (qe c7) rfl (by decide) rfl AA (.pure (AD λ_=>AA) .nil) rfl AA (.pure (AD λ_=>AA) .nil) .nil AA AA ?_;refine AF ⟨AA,?_⟩;refine BX tb 10 AA (by kernel_rfl) rfl ?_;exact xt e p)
      have P:ve 5 (bm 11 63) ⟨194,Aa [(62,KC p0),(66,ow 0 0 f),(67,.ptr 1 0 0 2)],[Bm f,Pv p2.op p2.num p2.kids]⟩:=(e _ _ _).2 (by
       refine BX tb 6 AA (by kernel_rfl) rfl (II 7 (v:=(Dc h)) rfl (by kernel_rfl) (by kernel_rfl) (By BU AA AA z (Ai _) rfl) (BX tb 8 AA (by kernel_rfl) rfl ?_));exact xw e b (by exact AS [0] AA (by decide) rfl AA (.pure (AD λ_=>AA) .nil) (.same AA)))
      have q:uS 0 (bm 11 2047) ⟨194,Aa [(6,i64 b4)],[Bm s0]⟩:=(a _ _ _).2 (by
       refine Hr AA (by kernel_rfl) (c6 _ ?_);obtain rfl:=Sh.AB h0;exact Ao (Exists.intro _ (And.intro (Af (L:=[(6,i64 b4)]) (.same AA)) (And.intro AA AA))))
      have c:uS 2 (bm 11 511) ⟨194,Aa [(62,KC p0),(66,ow 1 0 f),(70,Bc h)],[Bm s0,Bm f]⟩:=(a _ _ _).2 (by
       refine xa [9] ⟨?_,lU⟩
       ·refine xo 9 (CN (rows0:=[Bm f]) (rows1:=[Bm f]) (st':=[Bm s0,Bm f]) (v':=(i64 b4)) [1] AI (hb 81) (qe c7) rfl (by decide) rfl AA (.pure (AD λ_=>AA) .nil) rfl AA (.pure (AD λ_=>AA) .nil) .nil AA AA (AF ⟨AA,(BX tb 10 AA (by kernel_rfl) rfl ?_)⟩));exact xw a q (by exact AS [0] AA (by decide) rfl AA (.pure (AD λ_=>AA) .nil) (.same AA)))
      have Q:uS 5 (bm 11 63) ⟨194,Aa [(62,KC p0),(66,ow 1 0 f),(67,.ptr 2 0 0 2)],[Bm s0,Bm f,Pv p2.op p2.num p2.kids]⟩:=(a _ _ _).2 (by
       refine BX tb 6 AA (by kernel_rfl) rfl (II 7 (v:=(Dc h)) rfl (by kernel_rfl) (by kernel_rfl) (By BU AA AA z (Ai _) rfl) (BX tb 8 AA (by kernel_rfl) rfl ?_));exact xw a c (by exact AS [0,1] AA (by decide) rfl AA (.pure (AD λ_=>AA) (.pure (AD λ_=>AA) .nil)) (.same AA)))
      have C:ve 3 (bm 11 255) ⟨194,Aa [(62,KC p0),(66,ow 0 0 f),(69,Dc h)],[Bm f]⟩:=(e _ _ _).2 (by
       exact BX tb 8 AA (by kernel_rfl) rfl (xt e b))
      have D:uS 3 (bm 11 255) ⟨194,Aa [(62,KC p0),(66,ow 1 0 f),(69,Dc h)],[Bm s0,Bm f]⟩:=(a _ _ _).2 (by
       exact BX tb 8 AA (by kernel_rfl) rfl (xt a c))
      have k:uS 3 (bm 11 495) ⟨194,Aa [(62,KC p0),(63,ow 0 0 s0),(65,ow 1 0 [g]),(70,Bc h)],[Bm s0,ro 0 3 1 eI [g]]⟩:=(a _ _ _).2 (by
       refine xa [4] ⟨?_,lU⟩
       ·refine KJ (l:=s0) (l2:=[g]) (l':=f) rfl AA BM (H2 (AD λ_=>AA) (λ_ hq=>nomatch hq)) rfl AA AA (HI AA AA) rfl (λ_=>AA) (λ_=>(AD λ_=>AA)) S ?_ ?_
        ·exact xw e b (by exact AS [0] AA (by decide) rfl AA (.pure (AD λ_=>AA) .nil) (.same AA))
        ·exact xw a c (by exact AS [0,2] AA (by decide) rfl AA (.pure (AD λ_=>AA) (.pure (AD λ_=>AA) .nil)) (.same AA)))
      have o:uS 4 (bm 11 239) ⟨194,Aa [(62,KC p0),(63,ow 0 0 s0),(65,ow 1 0 [g]),(69,Dc h)],[Bm s0,ro 0 3 1 eI [g]]⟩:=(a _ _ _).2 (by
       refine xa [4,8] ⟨?_,?_,lU⟩
       ·refine KJ (l:=s0) (l2:=[g]) (l':=f) rfl AA BM (H2 (AD λ_=>AA) (λ_ hq=>nomatch hq)) rfl AA AA (HI AA AA) rfl (λ_=>AA) (λ_=>(AD λ_=>AA)) S ?_ ?_
        ·exact xw e C (by exact AS [0] AA (by decide) rfl AA (.pure (AD λ_=>AA) .nil) (.same AA))
        ·exact xw a D (by exact AS [0,2] AA (by decide) rfl AA (.pure (AD λ_=>AA) (.pure (AD λ_=>AA) .nil)) (.same AA))
       ·exact xq tb a k)
      have G:uS 6 (bm 11 47) ⟨194,Aa [(62,KC p0),(63,ow 0 0 s0),(65,ow 1 0 [g]),(67,.ptr 2 0 0 2)],[Bm s0,ro 0 3 1 eI [g],Pv p2.op p2.num p2.kids]⟩:=(a _ _ _).2 (by
       refine xa [4,6] ⟨?_,?_,lU⟩
       ·refine KJ (l:=s0) (l2:=[g]) (l':=f) rfl AA BM (H2 (AD λ_=>AA) (H2 (ET AA) (λ_ hq=>nomatch hq))) rfl AA AA (HI AA AA) rfl (λ_=>AA) (λ_=>(AD λ_=>AA)) S ?_ ?_
        ·exact xw e P (by exact AS [0,2] AA (by decide) rfl AA (.pure (AD λ_=>AA) (.raw AA AA .nil)) (.same AA))
        ·exact xw a Q (by exact AS [0,3,2] AA (by decide) rfl AA (.pure (AD λ_=>AA) (.pure (AD λ_=>AA) (.raw AA AA .nil))) (.same AA))
       ·refine xo 6 (zq tb AA (AF ⟨AA,(II 7 (v:=(Dc h)) rfl (by kernel_rfl) (by kernel_rfl) (By BU AA AA z (Ai _) rfl) ?_)⟩));exact xw a o (by exact AS [0,1] AA (by decide) rfl AA (.pure (AD λ_=>AA) (.pure (AD λ_=>AA) .nil)) (.same AA)))
      have t:uS 4 (bm 11 487) ⟨194,Aa [(62,KC p0),(63,ow 0 0 s0),(64,i64 g),(70,Bc h)],[Bm s0]⟩:=(a _ _ _).2 (by
       refine xa [3] ⟨?_,lU⟩
       ·refine xo 3 ?_;refine BF (m:=1) (l:=[g]) (enc:=eI) AI BM (by decide) rfl AA AA AA AA AA ?_;exact xd a k)
      have A:uS 5 (bm 11 231) ⟨194,Aa [(62,KC p0),(63,ow 0 0 s0),(64,i64 g),(69,Dc h)],[Bm s0]⟩:=(a _ _ _).2 (by
       refine xa [3,8] ⟨?_,?_,lU⟩
       ·refine xo 3 ?_;refine BF (m:=1) (l:=[g]) (enc:=eI) AI BM (by decide) rfl AA AA AA AA AA ?_;exact xd a o
       ·exact xq tb a t)
      have b6:uS 7 (bm 11 39) ⟨194,Aa [(62,KC p0),(63,ow 0 0 s0),(64,i64 g),(67,.ptr 1 0 0 2)],[Bm s0,Pv p2.op p2.num p2.kids]⟩:=(a _ _ _).2 (by
       refine xa [3,6] ⟨?_,?_,lU⟩
       ·refine xo 3 ?_;refine BF (m:=2) (l:=[g]) (enc:=eI) AI BM (by decide) rfl AA AA AA AA AA ?_;exact OI a G (by exact AS [0,2,1] AA (by decide) rfl AA (.pure (AD λ_=>AA) (.pure (AD λ_=>AA) (.raw AA AA .nil))) (.same AA))
       ·refine xo 6 (zq tb AA (AF ⟨AA,(II 7 (v:=(Dc h)) rfl (by kernel_rfl) (by kernel_rfl) (By BU AA AA z (Ai _) rfl) ?_)⟩));exact xw a A (by exact AS [0] AA (by decide) rfl AA (.pure (AD λ_=>AA) .nil) (.same AA)))
      have U:ve 6 (bm 11 62) ⟨194,Aa [(3,CT),(66,ow 0 0 f),(67,.ptr 2 0 0 2)],aV f p0 p2 []⟩:=(e _ _ _).2 (by
       refine BX tb 0 AA (by kernel_rfl) rfl (BX tb 6 AA (by kernel_rfl) rfl (II 7 (v:=(Dc h)) rfl (by kernel_rfl) (by kernel_rfl) (By BU AA AA z (Ai _) rfl) (BX tb 8 AA (by kernel_rfl) rfl ?_)));exact xw e b (by exact AS [0] AA (by decide) rfl AA (.pure (AD λ_=>AA) .nil) (.same AA)))
      have V:uS 6 (bm 11 62) ⟨194,Aa [(3,CT),(66,ow 2 0 f),(67,.ptr 3 0 0 2)],[Bm s0,Ly p0,Bm f,Pv p2.op p2.num p2.kids]⟩:=(a _ _ _).2 (by
       refine BX tb 0 AA (by kernel_rfl) rfl (BX tb 6 AA (by kernel_rfl) rfl (II 7 (v:=(Dc h)) rfl (by kernel_rfl) (by kernel_rfl) (By BU AA AA z (Ai _) rfl) (BX tb 8 AA (by kernel_rfl) rfl ?_)));exact xw a c (by exact AS [0,2] AA (by decide) rfl AA (.pure (AD λ_=>AA) (.pure (AD λ_=>AA) .nil)) (.same AA)))
      have H:ve 4 (bm 11 254) ⟨194,Aa [(3,CT),(66,ow 0 0 f),(69,Dc h)],[Bm f,Ly p0]⟩:=(e _ _ _).2 (by
       refine BX tb 0 AA (by kernel_rfl) rfl (BX tb 8 AA (by kernel_rfl) rfl ?_);exact xw e b (by exact AS [0] AA (by decide) rfl AA (.pure (AD λ_=>AA) .nil) (.same AA)))
      have I:uS 4 (bm 11 254) ⟨194,Aa [(3,CT),(66,ow 2 0 f),(69,Dc h)],[Bm s0,Ly p0,Bm f]⟩:=(a _ _ _).2 (by
       refine BX tb 0 AA (by kernel_rfl) rfl (BX tb 8 AA (by kernel_rfl) rfl ?_);exact xw a c (by exact AS [0,2] AA (by decide) rfl AA (.pure (AD λ_=>AA) (.pure (AD λ_=>AA) .nil)) (.same AA)))
      have E:ve 3 (bm 11 510) ⟨194,Aa [(3,CT),(66,ow 0 0 f),(70,Bc h)],[Bm f,Ly p0]⟩:=(e _ _ _).2 (by
       refine BX tb 0 AA (by kernel_rfl) rfl ?_;exact xw e b (by exact AS [0] AA (by decide) rfl AA (.pure (AD λ_=>AA) .nil) (.same AA)))
      have F:uS 3 (bm 11 510) ⟨194,Aa [(3,CT),(66,ow 2 0 f),(70,Bc h)],[Bm s0,Ly p0,Bm f]⟩:=(a _ _ _).2 (by
       refine BX tb 0 AA (by kernel_rfl) rfl ?_;exact xw a c (by exact AS [0,2] AA (by decide) rfl AA (.pure (AD λ_=>AA) (.pure (AD λ_=>AA) .nil)) (.same AA)))
      have x:uS 4 (bm 11 494) ⟨194,Aa [(3,CT),(63,ow 0 0 s0),(65,ow 2 0 [g]),(70,Bc h)],[Bm s0,Ly p0,ro 0 3 1 eI [g]]⟩:=(a _ _ _).2 (by
       refine xa [0,4] ⟨?_,?_,lU⟩
       ·refine xo 0 ?_;exact zq tb AA (OI a k (by exact AS [0,2] AA (by decide) rfl AA (.pure (AD λ_=>AA) (.pure (AD λ_=>AA) .nil)) (.same AA)))
       ·refine KJ (l:=s0) (l2:=[g]) (l':=f) rfl AA BM (H2 (ET AA) (H2 (AD λ_=>AA) (λ_ hq=>nomatch hq))) rfl AA AA (HI AA AA) rfl (λ_=>AA) (λ_=>(AD λ_=>AA)) S ?_ ?_
        ·exact xw e E (by exact AS [0,1] AA (by decide) rfl AA (.pure (AD λ_=>AA) (.raw AA AA .nil)) (.same AA))
        ·exact xw a F (by exact AS [0,1,3] AA (by decide) rfl AA (.pure (AD λ_=>AA) (.raw AA AA (.pure (AD λ_=>AA) .nil))) (.same AA)))
      have B:uS 5 (bm 11 238) ⟨194,Aa [(3,CT),(63,ow 0 0 s0),(65,ow 2 0 [g]),(69,Dc h)],[Bm s0,Ly p0,ro 0 3 1 eI [g]]⟩:=(a _ _ _).2 (by
       refine xa [0,4,8] ⟨?_,?_,?_,lU⟩
       ·refine xo 0 ?_;exact zq tb AA (OI a o (by exact AS [0,2] AA (by decide) rfl AA (.pure (AD λ_=>AA) (.pure (AD λ_=>AA) .nil)) (.same AA)))
       ·refine KJ (l:=s0) (l2:=[g]) (l':=f) rfl AA BM (H2 (ET AA) (H2 (AD λ_=>AA) (λ_ hq=>nomatch hq))) rfl AA AA (HI AA AA) rfl (λ_=>AA) (λ_=>(AD λ_=>AA)) S ?_ ?_
        ·exact xw e H (by exact AS [0,1] AA (by decide) rfl AA (.pure (AD λ_=>AA) (.raw AA AA .nil)) (.same AA))
        ·exact xw a I (by exact AS [0,1,3] AA (by decide) rfl AA (.pure (AD λ_=>AA) (.raw AA AA (.pure (AD λ_=>AA) .nil))) (.same AA))
       ·exact xq tb a x)
      have b7:uS 7 (bm 11 46) ⟨194,Aa [(3,CT),(63,ow 0 0 s0),(65,ow 2 0 [g]),(67,.ptr 3 0 0 2)],[Bm s0,Ly p0,ro 0 3 1 eI [g],Pv p2.op p2.num p2.kids]⟩:=(a _ _ _).2 (by
       refine xa [0,4,6] ⟨?_,?_,?_,lU⟩
       ·refine xo 0 ?_;exact zq tb AA (OI a G (by exact AS [0,2,3] AA (by decide) rfl AA (.pure (AD λ_=>AA) (.pure (AD λ_=>AA) (.raw AA AA .nil))) (.same AA)))
       ·refine KJ (l:=s0) (l2:=[g]) (l':=f) rfl AA BM (H2 (ET AA) (H2 (AD λ_=>AA) (H2 (ET AA) (λ_ hq=>nomatch hq)))) rfl AA AA (HI AA AA) rfl (λ_=>AA) (λ_=>(AD λ_=>AA)) S ?_ ?_
        ·exact xw e U (by exact AS [0,1,3] AA (by decide) rfl AA (.pure (AD λ_=>AA) (.raw AA AA (.raw AA AA .nil))) (.same AA))
        ·exact xw a V (by exact AS [0,1,4,3] AA (by decide) rfl AA (.pure (AD λ_=>AA) (.raw AA AA (.pure (AD λ_=>AA) (.raw AA AA .nil)))) (.same AA))
       ·refine xo 6 (zq tb AA (AF ⟨AA,(II 7 (v:=(Dc h)) rfl (by kernel_rfl) (by kernel_rfl) (By BU AA AA z (Ai _) rfl) ?_)⟩));exact xw a B (by exact AS [0,1,2] AA (by decide) rfl AA (.pure (AD λ_=>AA) (.raw AA AA (.pure (AD λ_=>AA) .nil))) (.same AA)))
      have Y:uS 5 (bm 11 486) ⟨194,Aa [(3,CT),(63,ow 0 0 s0),(64,i64 g),(70,Bc h)],[Bm s0,Ly p0]⟩:=(a _ _ _).2 (by
       refine xa [0,3] ⟨?_,?_,lU⟩
       ·refine xo 0 ?_;exact zq tb AA (OI a t (by exact AS [0] AA (by decide) rfl AA (.pure (AD λ_=>AA) .nil) (.same AA)))
       ·refine xo 3 ?_;refine BF (m:=2) (l:=[g]) (enc:=eI) AI BM (by decide) rfl AA AA AA AA AA ?_;exact xd a x)
      have b1:uS 6 (bm 11 230) ⟨194,Aa [(3,CT),(63,ow 0 0 s0),(64,i64 g),(69,Dc h)],[Bm s0,Ly p0]⟩:=(a _ _ _).2 (by
       refine xa [0,3,8] ⟨?_,?_,?_,lU⟩
       ·refine xo 0 ?_;exact zq tb AA (OI a A (by exact AS [0] AA (by decide) rfl AA (.pure (AD λ_=>AA) .nil) (.same AA)))
       ·refine xo 3 ?_;refine BF (m:=2) (l:=[g]) (enc:=eI) AI BM (by decide) rfl AA AA AA AA AA ?_;exact xd a B
       ·exact xq tb a Y)
      have b9:uS 8 (bm 11 38) ⟨194,Aa [(3,CT),(63,ow 0 0 s0),(64,i64 g),(67,.ptr 2 0 0 2)],aV s0 p0 p2 []⟩:=(a _ _ _).2 (by
       refine xa [0,3,6] ⟨?_,?_,?_,lU⟩
       ·refine xo 0 ?_;exact zq tb AA (OI a b6 (by exact AS [0,2] AA (by decide) rfl AA (.pure (AD λ_=>AA) (.raw AA AA .nil)) (.same AA)))
       ·refine xo 3 ?_;refine BF (m:=3) (l:=[g]) (enc:=eI) AI BM (by decide) rfl AA AA AA AA AA ?_;exact OI a b7 (by exact AS [0,1,3,2] AA (by decide) rfl AA (.pure (AD λ_=>AA) (.raw AA AA (.pure (AD λ_=>AA) (.raw AA AA .nil)))) (.same AA))
       ·refine xo 6 (zq tb AA (AF ⟨AA,(II 7 (v:=(Dc h)) rfl (by kernel_rfl) (by kernel_rfl) (By BU AA AA z (Ai _) rfl) ?_)⟩));exact xw a b1 (by exact AS [0,1] AA (by decide) rfl AA (.pure (AD λ_=>AA) (.raw AA AA .nil)) (.same AA)))
      exact (a _ _ _).2 (BX tb 1 AA (by kernel_rfl) rfl (BX tb 2 AA (by kernel_rfl) rfl (BX tb 5 AA (by kernel_rfl) rfl (xt a b9))))
   refine AH AA (zm tb 2 AA (zl tb AA AA (zm tb 2 AA ?_)));rcases Sh.Aj d with ⟨W,d⟩|⟨W,d⟩
   ·exact zs W AA (zs W AA (zs W AA (zt W AA (AF (h2 true (Sh.AB d).symm _ (AJ AA))))))
   ·exact zg tb W AA (zg tb W AA (zg tb W AA (zf W AA (AF (h2 (!decide (p2.num=0)) (Sh.AB d).symm _ (AJ AA))))))
  ·refine zr tb AA AA ?_;refine ci h0 AA ?_ ?_<;>clear h0<;>intro A4 h0
   ·refine AG λA5 h7=>AG λt4 h8=>bs h0 λh9 d h0=>?_;have d1:∀(d2:Bool),h9=d2->∀s,Wk 1 s ⟨194,Aa [(1,ow 0 0 s0),(3,CT),(5,CY),(92,.bool d2)],aV s0 p0 p2 []⟩->t4 s:=by
     intro d2 hq s hw;subst h9;refine h8 _ (AK hw ?_);refine ci h0 AA ?_ ?_<;>clear h0<;>intro A6 h0
     ·refine zr tb AA AA ?_;obtain rfl:=Sh.AB h0;exact Ao (xr (AS (L:=[(6,i64 (-1))]) (st':=[Bm s0]) [0] AA (by decide) rfl AA (.pure (AD λ_=>AA) .nil) ⟨.rfl,lU⟩))
     ·refine AL (h7 _ (AG λA7 k0=>Br 7 (by kernel_rfl) (by kernel_rfl) (by rfl) ?_));iterate 4 refine yq tb rfl ?_
      refine bs h0 λA8 k1 h0=>bu (i:=1) (j:=Sh.len p2.kids) AI BU AA AA AA DU k1 (bs h0 λA9 k2 h0=>kq (enc:=(eS eI)) (u:=[]) AI Nq AA AA AA k2 (AD λ_=>AA) (bs h0 λk3 k4 h0=>ZR (v':=(i64 k3)) AI (hb 112) (I1 qe k4) rfl (.val AA (.own AA AA (λ_=>AA) (.val AA (.val AA .nil)))) rfl AA (Aw (zq tb AA (dn k0 AA ?_)))));obtain rfl:=Sh.AB h0;exact Ao (xr (AS (L:=[(6,i64 k3)]) (st':=[Bm s0]) [0] AA (by decide) rfl AA (.pure (AD λ_=>AA) .nil) ⟨.rfl,lU⟩))
    refine Ce (by kernel_rfl) (by kernel_rfl) (by rfl) ?_;iterate 2 refine yq tb rfl ?_
    refine yl tb AA AA ?_;iterate 2 refine yq tb rfl ?_
    rcases Sh.Aj d with ⟨b2,d⟩|⟨b2,d⟩
    ·refine ys b2 AA ?_;iterate 2 refine ys b2 rfl ?_
     refine yt b2 AA (yq tb AA ?_);iterate 8 refine ys rfl rfl ?_
     exact yt AA AA (Aw (d1 true (Sh.AB d).symm _ (AJ AA)))
    ·refine yg tb b2 AA ?_;iterate 2 refine yg tb b2 rfl ?_
     refine yf b2 AA (yq tb AA ?_);rcases Sh.Aj d with ⟨J,d⟩|⟨J,d⟩
     ·refine ys J AA ?_;iterate 7 refine ys J rfl ?_
      exact yt J AA (Aw (d1 true (Sh.AB d).symm _ (AJ AA)))
     ·refine yg tb J AA ?_;iterate 3 refine yg tb J rfl ?_
      exact bs d λt5 k5 d=>IN (v:=(Dc t5)) (CS AA AA J) rfl (By BU AA AA k5 (Ai _) rfl) (yg tb J AA (bs d λk6 k7 d=>V7 (rowsP:=[Bm s0]) (rows0:=[Bm s0]) (rows1:=[Bm s0]) (rows1':=[Bm s0]) (v':=(i64 k6)) [0] (CS AA AA J) (hb 81) (qe k7) rfl (by decide) rfl AA (.pure (AD λ_=>AA) .nil) rfl AA (.pure (AD λ_=>AA) .nil) rfl AA (yg tb J AA (yf J AA (Aw (d1 (!decide (k6=0)) (Sh.AB d).symm _ (AJ AA)))))))
   ·refine zr tb AA AA ?_;refine ci h0 AA ?_ ?_<;>clear h0<;>intro B0 h0
    ·refine sr AA λB1 k8=>zm tb 4 AA (bs h0 λy k9 h0=>CH (v':=(ow 3 0 y)) AI (hb 66) (Lp k9) rfl AA ⟨(CL λ_=>AA),lU⟩ AA AA (zq tb AA (dn k8 AA (AG λB2 l0=>AG λt6 l1=>bs h0 λl3 d h0=>?_))));have d3:∀(d4:Bool),l3=d4->∀s,Wk 1 s ⟨194,Aa [(1,ow 0 0 s0),(3,CT),(5,CY),(8,ow 3 0 y),(130,.bool d4)],aV s0 p0 p2 [Bm y]⟩->t6 s:=by
      intro d4 hq s hw;subst l3;refine l1 _ (AK hw ?_);refine ci h0 AA ?_ ?_<;>clear h0<;>intro B3 h0
      ·refine zr tb AA AA ?_;obtain rfl:=Sh.AB h0;exact Ao (xr (AS (L:=[(6,i64 (-1))]) (st':=[Bm s0]) [0] AA (by decide) rfl AA (.pure (AD λ_=>AA) .nil) ⟨.rfl,lU⟩))
      ·refine AL (l0 _ (sr AA λB4 l4=>zq tb AA (zz (HB y) (Cv Fz AA AA AA) rfl (bs h0 λt7 l5 h0=>Vi (m:=4) (enc:=(eS eI)) (u:=[]) AI Nq AA AA AA l5 AA AA (zq tb AA (dn l4 AA (AG λt9 l6=>sr AA λB5 l7=>zq tb AA (zz (HB y) (Cv Fz AA AA AA) rfl (zq tb AA (dn l7 AA (bs h0 λd5 d h0=>?_)))))))))));have v0:∀(c4:(List (List Int))),d5=c4->∀s,Wk 1 s ⟨194,Aa [(1,ow 0 0 s0),(3,CT),(5,CY),(9,ow 3 0 c4)],aV s0 p0 p2 [ro 0 32 1 (eS eI) c4]⟩->t9 s:=by
        intro c4 hq s hw;subst d5;refine l6 _ (AK hw (AG λB6 l8=>Br 7 (by kernel_rfl) (by kernel_rfl) (by rfl) ?_));iterate 4 refine yq tb rfl ?_
        refine bs h0 λB7 l9 h0=>bu (i:=1) (j:=Sh.len p2.kids) AI BU AA AA AA DU l9 (yq tb AA (bs h0 λm0 m1 h0=>ZR (v':=(i64 m0)) AI (hb 112) (I1 qe m1) rfl (.val AA (.own AA AA (λ_=>AA) (.val AA (.own AA AA (λ_=>AA) .nil)))) rfl AA (Aw (zq tb AA (dn l8 AA ?_)))));obtain rfl:=Sh.AB h0;exact Ao (xr (AS (L:=[(6,i64 m0)]) (st':=[Bm s0]) [0] AA (by decide) rfl AA (.pure (AD λ_=>AA) .nil) ⟨.rfl,lU⟩))
       refine AT (Ax (σ:=Int×(List (List Int))) (λn v=>CI N p0 y n v.1 v.2=some d5) (λ(Z,b8)=>⟨194,Aa [(1,ow 0 0 s0),(3,.ptr 1 0 0 0),(5,.ptr 2 0 0 0),(9,ow 4 0 b8),(134,ow 3 0 y),(135,i64 (Sh.len y)),(136,i64 Z)],[ro 0 3 1 eI s0,⟨0,99,2,[GK p0]⟩,Pv p2.op p2.num p2.kids,ro 0 3 1 eI y,ro 0 32 1 (eS eI) b8]⟩) N (0,t7) d (AJ AA) (λ_ hv=>by rw[CI]at hv;cases hv) ?_);rintro n ⟨Z,b8⟩ d;rw[CI]at d;refine zr tb AA AA (AG λB8 m2=>?_);refine ci d AA ?_ ?_<;>clear d<;>intro B9 d
       ·refine AL (m2 _ (AG λC0 m3=>AT (sr AA λC1 m4=>zq tb AA (bs d λv1 c8 d=>zz (.ptr 3 0 (Int.toNat Z) 0) (CB BM AA AA AA AA c8) rfl (zz (i64 v1) (CA HV AA AA (CW c8) rfl) rfl (zm tb 2 AA (dn m4 AA (AH AA (zm tb 5 AA (bs d λd6 m5 d=>zc (hb 92) (Na m5) rfl AA AA (bs d λC2 c9 d=>zz (Ud Z) (CB Nq AA AA AA AA c9) rfl (J8 (u':=d6) AI Jo AA AA c9 AA AA AA po rfl AA (dn m3 AA (AH AA (zm tb 2 AA ?_)))))))))))))));exact AF (xi (Sh.w (Z+1),Sh.put b8 Z d6) d (Af (L:=[(1,.own 0 0 (List.length s0)),(3,.ptr 1 0 0 0),(5,.ptr 2 0 0 0),(9,.own 4 0 (List.length (Sh.put b8 Z d6))),(134,.own 3 0 (List.length y)),(135,i64 (Sh.len y)),(136,i64 (Sh.w (Z+1)))]) ⟨.rfl,.rfl,.rfl,(.len (by simp only[Sh.GX])),.rfl,.rfl,.rfl,lU⟩))
       ·exact Az (v0 b8 (Sh.AB d).symm _ (AS [0,1,2,4] AA (by decide) rfl AA (.pure (AD λ_=>AA) (.raw AA AA (.raw AA AA (.pure (AD λ_=>AA) .nil)))) (.same AA)))
     refine Ce (by kernel_rfl) (by kernel_rfl) (by rfl) (yq tb AA (yz (HB y) (Cv Fz AA AA AA) rfl ?_));iterate 2 refine yq tb rfl ?_
     rcases Sh.Aj d with ⟨K,d⟩|⟨K,d⟩
     ·refine ys K AA ?_;iterate 6 refine ys K rfl ?_
      refine yt K AA (yq tb AA ?_);iterate 10 refine ys rfl rfl ?_
      exact yt AA AA (Aw (d3 true (Sh.AB d).symm _ (AJ AA)))
     ·refine yg tb K AA (yg tb K AA (IN (v:=(ZF p2)) (CS AA AA K) rfl (Cd R9 AA) (yg tb K AA (IN (v:=(HB y)) (CS AA AA K) rfl (Cv Fz AA AA AA) ?_))));iterate 2 refine yg tb K rfl ?_
      refine yf K AA (yq tb AA ?_);rcases Sh.Aj d with ⟨M,d⟩|⟨M,d⟩
      ·refine ys M AA ?_;iterate 9 refine ys M rfl ?_
       exact yt M AA (Aw (d3 true (Sh.AB d).symm _ (AJ AA)))
      ·refine yg tb M AA ?_;iterate 3 refine yg tb M rfl ?_
       refine bs d λv2 m6 d=>IN (v:=(Dc v2)) (CS AA AA M) rfl (By BU AA AA m6 (Ai _) rfl) (yg tb M AA (bs d λm7 m8 d=>V7 (rowsP:=[Bm s0]) (rows0:=[Bm s0]) (rows1:=[Bm s0]) (rows1':=[Bm s0]) (v':=(i64 m7)) [0] (CS AA AA M) (hb 81) (qe m8) rfl (by decide) rfl AA (.pure (AD λ_=>AA) .nil) rfl AA (.pure (AD λ_=>AA) .nil) rfl AA ?_));iterate 3 refine yg tb M rfl ?_
       exact yf M AA (Aw (d3 (!decide (m7=p2.num)) (Sh.AB d).symm _ (AJ AA)))
    ·refine AL (q9 _ (sr AA λC3 m9=>zm tb 2 AA (zl tb AA AA (bs h0 λv3 q0 h0=>Vi (m:=3) (enc:=eI) (u:=0) AI BM AA AA AA q0 AA AA (zq tb AA (dn m9 AA (AG λv4 q1=>sr AA λC4 q2=>zm tb 2 AA (zl tb AA AA (zq tb AA (dn q2 AA ?_))))))))));obtain⟨d7,d,h0⟩:=Sh.Bg h0;have v5:∀(c0:(List Int)),d7=Sum.inr c0->∀s,Wk 1 s ⟨194,Aa [(3,CT),(5,CY),(12,ow 3 0 c0)],aV s0 p0 p2 [Bm c0]⟩->v4 s:=by
      intro c0 hq s hw;subst d7;refine q1 _ (AK hw (sr AA λC5 q3=>zm tb 6 AA (AR (Wk.BL (L:=[(182,.agg (GK p0)),(184,i64 p2.op),(186,i64 p2.num),(187,ls eI c0)]) (st':=[ro 0 3 1 eI s0,⟨0,99,2,[GK p0]⟩,Pv p2.op p2.num p2.kids,⟨1,3,1,[]⟩]) (id:=3) rfl qG (AD λ_=>AA) ⟨.rfl,.rfl,.rfl,.BL AA,lU⟩ AA) (bs h0 λc1 q4 h0=>zc (v':=(.Dd [i64 c1.1,.bool c1.2])) (hb 113) (Ky q4) rfl AA AA (zm tb 5 AA (dn q3 AA (AG λC6 q5=>zr tb AA AA ?_)))))));refine ci h0 AA ?_ ?_<;>clear h0<;>intro q6 h0
      ·have C7:c1.2=false:=by simpa using q6
       refine zr tb AA AA ?_;obtain rfl:=Sh.AB h0;exact Ao (xr (AS (L:=[(6,i64 (-1))]) (st':=[Bm s0]) [0] AA (by decide) rfl AA (.pure (AD λ_=>AA) .nil) ⟨.rfl,lU⟩))
      ·have v6:c1.2=true:=by simpa using q6
       refine AL (q5 _ (zr tb AA AA ?_));obtain rfl:=Sh.AB h0;exact Ao (xr (AS (L:=[(6,i64 c1.1)]) (st':=[Bm s0]) [0] AA (by decide) rfl AA (.pure (AD λ_=>AA) .nil) ⟨.rfl,lU⟩))
     refine AT (Ax (σ:=Int×(List Int)) (λn v=>CJ s0 p0 p2 qa n v.1 v.2=some d7) (λ(R,X)=>⟨194,Aa [(1,ow 0 0 s0),(3,.ptr 1 0 0 0),(5,.ptr 2 0 0 0),(12,ow 3 0 X),(161,ls Ar p2.kids),(162,i64 (Sh.len p2.kids)),(163,i64 R)],[ro 0 3 1 eI s0,⟨0,99,2,[GK p0]⟩,Pv p2.op p2.num p2.kids,ro 0 3 1 eI X]⟩) N (0,v3) d (AJ AA) (λ_ hv=>by rw[CJ]at hv;cases hv) ?_);rintro n ⟨R,X⟩ d;rw[CJ]at d;refine zr tb AA AA (AG λv7 d8=>?_);refine ci d AA ?_ ?_<;>clear d<;>intro v8 d
     ·refine AL (d8 _ (AG λv9 d9=>AT (sr AA λw0 g0=>zq tb AA (bs d λb3 g1 d=>zz (Dc b3) (By BU AA AA g1 (Ai _) rfl) rfl (zq tb AA (Av (m:=4) AI DE AA AA (zq tb AA (Am AI BE AA AA AA AA AA AA pj rfl (dn g0 AA (sr AA λw1 g2=>zm tb 5 AA (bs d λb0 g3 d=>CN (rows0:=[Bm s0]) (rows1:=[Bm s0]) (st':=(aV s0 p0 p2 [Bm X,Pv b3.op b3.num b3.kids])) (v':=(i64 b0)) [0] AI (hb 81) (qe g3) rfl (by decide) rfl AA (.pure (AD λ_=>AA) .nil) rfl AA (.pure (AD λ_=>AA) .nil) .nil AA AA (bs d λw2 c2 d=>zz (.ptr 3 0 (Int.toNat R) 0) (CB BM AA AA AA AA c2) rfl (J8 (u':=b0) AI HV AA AA c2 AA AA AA po rfl AA (dn g2 AA (sr AA λw3 g4=>zm tb 2 AA (bs d λq7 c3 d=>?_))))))))))))))));refine zz (.ptr 3 0 (Int.toNat R) 0) (CB BM AA AA AA (by simp only[Sh.GX]) c3) rfl ?_;refine zz (i64 q7) (CA HV AA AA (CW c3) rfl) rfl (zq tb AA (dn g4 AA ?_));refine ci d AA ?_ ?_<;>clear d<;>intro w4 d
      ·refine zr tb AA AA ?_;obtain rfl:=Sh.AB d;obtain rfl:=Sh.AB h0;exact Ao (xr (AS (L:=[(6,i64 (-1))]) (st':=[Bm s0]) [0] AA (by decide) rfl AA (.pure (AD λ_=>AA) .nil) ⟨.rfl,lU⟩))
      ·refine AL (d9 _ (AH AA (zm tb 2 AA ?_)));exact AF (xi (Sh.w (R+1),Sh.put X R b0) d (by refine Wk.trans (AS (L:=[(1,.own 0 0 (List.length s0)),(3,.ptr 1 0 0 0),(5,.ptr 2 0 0 0),(12,.own 3 0 (List.length X)),(161,.sl (List.map Ar p2.kids)),(162,i64 (Sh.len p2.kids)),(163,i64 (Sh.w (R+1)))]) (st':=[⟨0,3,1,List.map eI s0⟩,⟨0,99,2,[GK p0]⟩,⟨0,35,3,[[i64 p2.op,i64 p2.num,.sl (List.map Ar p2.kids)]]⟩,⟨0,3,1,List.map eI (Sh.put X R b0)⟩]) [0,1,2,3] AA (by decide) rfl AA (.pure (AD λ_=>AA) (.raw AA AA (.raw AA AA (.pure (AD λ_=>AA) .nil)))) ⟨.rfl,.rfl,.rfl,.rfl,.rfl,.rfl,.rfl,lU⟩) ?_;exact Af (L:=[(1,.own 0 0 (List.length s0)),(3,.ptr 1 0 0 0),(5,.ptr 2 0 0 0),(12,.own 3 0 (List.length (Sh.put X R b0))),(161,.sl (List.map Ar p2.kids)),(162,i64 (Sh.len p2.kids)),(163,i64 (Sh.w (R+1)))]) ⟨.rfl,.rfl,.rfl,(.len (by simp only[Sh.GX])),.rfl,.rfl,.rfl,lU⟩))
     ·exact Az (v5 X (Sh.AB d).symm _ (AJ AA))
theorem Lx {N:Nat}:∀(n:Nat),∀{s0:(List Int)} {p0:BQ} {p2:AE} {r:Int},Bf N n s0 p0 p2=some r->Ab Tryz.prog 81 [KC p0,ow 0 0 s0,Bc p2] [Bm s0] (λv st=>v=(i64 r)/\st=[Bm s0]):=by
 intro n
 induction n with
 | zero=>intro s0 p0 p2 r a;cases a
 | succ n ih=>
  intro s0 p0 p2 r a;rw[Bf]at a;exact Ln (λh=>ih h) a
theorem Mx {N:Nat}:∀{s0:(List Int)} {p0:BQ} {p2:AE} {r:Int},H4 N s0 p0 p2=some r->Ab Tryz.prog 81 [KC p0,ow 0 0 s0,Bc p2] [Bm s0] (λv st=>v=(i64 r)/\st=[Bm s0]):=by
 intro s0 p0 p2 r a;exact Lx N a
theorem Uk {N:Nat}{p0:AP}{p1:(List Int)}{p2:AE}{r:Int}(h0:MD N p0 p1 p2=some r):Ab Tryz.prog 48 [Hs p0,ls eI p1,Bc p2] [] (λv st=>v=(i64 r)/\st=[]):=by
 unfold MD at h0;refine ai Tryz.func48 AA AA AA AA (sr AA λJ x=>Bd (m:=0) AI AA AA AA AA AA (Bd (m:=1) AI AA AA AA AA AA (zq tb AA (dn x AA (AG λK y=>AG λF z=>bs h0 λE g h0=>?_)))));have A:∀(B:Bool),E=B->∀s,Wk 0 s ⟨28,Aa [(1,ls eI p1),(3,BI),(5,CT),(21,.bool B)],[G8 p0.decls p0.funcs,Pv p2.op p2.num p2.kids]⟩->F s:=by
  intro B hq s G;subst E;refine z _ (AK G ?_);refine ci h0 AA ?_ ?_<;>clear h0<;>intro M h0
  ·refine zr tb AA AA ?_;obtain rfl:=Sh.AB h0;exact rd [(6,i64 (-1))]
  ·refine AL (y _ (AG λO C=>IQ (by kernel_rfl) (bs h0 λo p h0=>bs h0 λh l h0=>bs h0 λn q h0=>KO λA12 a=>?_)));have e:A12 0 (bm 7 127) ⟨28,Aa [(6,i64 n)],[]⟩:=(a _ _ _).2 (by
    refine Hr AA (by kernel_rfl) (C _ ?_);obtain rfl:=Sh.AB h0;exact Ao (Exists.intro _ (And.intro (Af (L:=[(6,i64 n)]) (.same AA)) (And.intro AA AA))))
   have b:A12 2 (bm 7 31) ⟨28,Aa [(23,KC o),(25,ow 0 0 h),(26,Bc p2)],[Bm h]⟩:=(a _ _ _).2 (by
    refine xa [5] ⟨?_,lU⟩
    ·refine xo 5 (CN (rows0:=[Bm h]) (rows1:=[Bm h]) (st':=[Bm h]) (v':=(i64 n)) [0] AI (hb 81) (Mx q) rfl (by decide) rfl AA (.pure (AD λ_=>AA) .nil) rfl AA (.pure (AD λ_=>AA) .nil) .nil AA AA (AF ⟨AA,(BX tb 6 AA (by kernel_rfl) rfl ?_)⟩));exact xw a e (by exact AS [] AA (by decide) rfl AA .nil (.same AA)))
   have d:A12 3 (bm 7 23) ⟨28,Aa [(23,KC o),(24,ls eI p1),(26,Bc p2)],[]⟩:=(a _ _ _).2 (by
    refine xa [3] ⟨?_,lU⟩
    ·refine xo 3 ?_;exact CH (v':=(ow 0 0 h)) AI (hb 82) (Cq l) rfl AA ⟨(CL λ_=>AA),lU⟩ AA AA (xd a b))
   have i:A12 4 (bm 7 7) ⟨28,Aa [(5,BI),(23,KC o),(24,ls eI p1)],[Pv p2.op p2.num p2.kids]⟩:=(a _ _ _).2 (by
    refine xa [3,4] ⟨?_,?_,lU⟩
    ·refine xo 3 (CH (v':=(ow 1 0 h)) AI (hb 82) (Cq l) rfl AA ⟨(CL λ_=>AA),lU⟩ AA AA (AF ⟨AA,(BX tb 4 AA (by kernel_rfl) rfl ?_)⟩));exact xw a b (by exact AS [1] AA (by decide) rfl AA (.pure (AD λ_=>AA) .nil) (.same AA))
    ·refine xo 4 ?_;exact zq tb AA (OI a d (by exact AS [] AA (by decide) rfl AA .nil (.same AA))))
   have j:A12 4 (bm 7 21) ⟨28,Aa [(22,Hs p0),(24,ls eI p1),(26,Bc p2)],[]⟩:=(a _ _ _).2 (by
    refine xa [1] ⟨?_,lU⟩
    ·refine xo 1 ?_;exact zc (v':=(KC o)) (hb 80) (PC p) rfl AA AA (xd a d))
   have k:A12 5 (bm 7 5) ⟨28,Aa [(5,BI),(22,Hs p0),(24,ls eI p1)],[Pv p2.op p2.num p2.kids]⟩:=(a _ _ _).2 (by
    refine xa [1,4] ⟨?_,?_,lU⟩
    ·refine xo 1 ?_;exact zc (v':=(KC o)) (hb 80) (PC p) rfl AA AA (xd a i)
    ·refine xo 4 ?_;exact zq tb AA (OI a j (by exact AS [] AA (by decide) rfl AA .nil (.same AA))))
   refine (a _ _ _).2 (BX tb 0 AA (by kernel_rfl) rfl (BX tb 2 AA (by kernel_rfl) rfl ?_));exact xw a k (by exact AS [1] AA (by decide) rfl AA (.raw AA AA .nil) (.same AA))
 refine AH AA (zq tb AA (bs g λH t g=>zc (hb 47) (Mk t) rfl AA AA (zm tb 2 AA ?_)));rcases Sh.Aj g with ⟨f,g⟩|⟨f,g⟩
 ·refine zs f AA (zs f AA (zs f AA (zt f AA (zq tb AA ?_))));iterate 5 refine zs rfl rfl ?_
  exact zt AA AA (AF (A true (Sh.AB g).symm _ (AJ AA)))
 ·refine zg tb f AA (bs g λI u g=>zd f (hb 12) (OE u) rfl AA AA AA (zg tb f AA (zf f AA (zq tb AA ?_))));rcases Sh.Aj g with ⟨c,g⟩|⟨c,g⟩
  ·refine zs c AA ?_;iterate 4 refine zs c rfl ?_
   exact zt c AA (AF (A true (Sh.AB g).symm _ (AJ AA)))
  ·exact zg tb c AA (zg tb c AA (zg tb c AA (bs g λD w g=>zd c (hb 79) (Kn w) rfl AA AA AA (zg tb c AA (zf c AA (AF (A (!D) (Sh.AB g).symm _ (AJ AA))))))))
theorem Ks {N:Nat}{p0:AP}{r:Bool}(h0:Cw N p0=some r):Ab Tryz.prog 22 [Hs p0] [] (λv st=>v=(.bool r)/\st=[]):=by
 unfold Cw at h0;refine ai Tryz.func22 AA AA AA AA (sr AA λM p=>Bd (m:=0) AI AA AA AA AA AA (zq tb AA (dn p AA (AG λO q=>sr AA λP t=>zq tb AA (bs h0 λz u h0=>zc (hb 47) (Mk u) rfl AA AA (zq tb AA (dn t AA ?_)))))));refine ci h0 AA ?_ ?_<;>clear h0<;>intro A h0
 ·have Q:z=false:=by simpa using A
  refine zr tb AA AA ?_;obtain rfl:=Sh.AB h0;exact rd [(2,.bool false)]
 ·have R:z=true:=by simpa using A
  refine AL (q _ (AG λC x=>sr AA λD e=>zm tb 2 AA (zl tb AA AA (zq tb AA (dn e AA ?_)))));obtain⟨b,a,h0⟩:=Sh.Bg h0;have y:∀(_:Unit),b=Sum.inr ()->∀s,Wk 0 s ⟨25,Aa [],[]⟩->C s:=by
   intro _ S s E;subst b;refine x _ (AK E (zr tb AA AA ?_));obtain rfl:=Sh.AB h0;exact rt [(2,.bool true)]
  refine AT (Ax (σ:=Int) (λn v=>Dt N p0 n v=some b) (λc=>⟨25,Aa [(1,.ptr 0 0 0 0),(9,ls BO p0.funcs),(10,i64 (Sh.len p0.funcs)),(11,i64 c)],[G8 p0.decls p0.funcs]⟩) N 0 a (AJ AA) (λ_ B=>by rw[Dt]at B;cases B) ?_);rintro n c a;rw[Dt]at a;refine zr tb AA AA (AG λF f=>?_);refine ci a AA ?_ ?_<;>clear a<;>intro G a
  ·refine AL (f _ (AG λH g=>AT (sr AA λI h=>bs a λi j a=>zx Ct j AA AA AA (zq tb AA (Av (m:=1) AI L4 AA AA (Am AI LV AA AA AA AA AA AA pq rfl (dn h AA (AG λJ k=>Ce (by kernel_rfl) (by kernel_rfl) (by rfl) ?_))))))));iterate 5 refine yq tb rfl ?_
   refine bs a λd l a=>BV (v:=(i64 d)) AI (hb 48) (Uk l) rfl AA AA ?_;iterate 3 refine yq tb rfl ?_
   refine Aw (k _ ?_);refine ci a AA ?_ ?_<;>clear a<;>intro o a
   ·have K:decide (d=i.result)=false:=by simpa using o
    refine zr tb AA AA ?_;obtain rfl:=Sh.AB a;obtain rfl:=Sh.AB h0;exact rd [(2,.bool false)]
   ·have L:decide (d=i.result)=true:=by simpa using o
    exact AL (g _ (AH AA (zm tb 2 AA (AF (xi (Sh.w (c+1)) a (AS [0] AA (by decide) rfl AA (.raw AA AA .nil) (.same AA)))))))
  ·exact Az (y () (Sh.AB a).symm _ (Bt _ AA))
theorem Rv {N:Nat}{qu:AE->Int->Int->Option (AE)}(rm :∀{p0:AE} {p1:Int} {p2:Int} {r:AE},qu p0 p1 p2=some r->Ab Tryz.prog 44 [Bc p0,i64 p1,i64 p2] [] (λv st=>v=(.agg (R0 r))/\st=[DN r])){p0:AE}{p1 p2:Int}{r:AE}(h0:Io N qu p0 p1 p2=some r):Ab Tryz.prog 44 [Bc p0,i64 p1,i64 p2] [] (λv st=>v=(.agg (R0 r))/\st=[DN r]):=by
 unfold Io at h0;refine Ab.wk (r0:=(.agg (R0 r))) (st0:=[DN r,⟨0,35,3,[R0 r]⟩]) (ai Tryz.func44 AA AA AA AA (sr AA λK1 S=>Bd (m:=0) AI AA AA AA AA AA (Av (m:=1) AI DE AA AA (dn S AA (AG λK2 T=>bs h0 λZ h h0=>?_))))) (Dg (L:=[(0,.agg (R0 r))]) (st':=[DN r]) [0] AA (by decide) rfl AA (.deep (Ah Al) lU) (.same AA));have M4:∀(k:Int),Z=k->∀s,Wk 0 s ⟨44,Aa (fF p1 p2 []),[Pv p0.op k p0.kids,FF]⟩->K2 s:=by
  intro k hq s F;subst Z;refine T _ (AK F (zr tb AA AA (sr AA λK6 U=>zq tb AA (Am AI aW AA AA AA AA AA AA qO rfl (dn U AA (AG λK7 V=>sr AA λK8 W=>zq tb AA (zl tb AA AA (zq tb AA (dn W AA (bs h0 λD h h0=>?_))))))))));have X:∀(p:(List AE)),D=p->∀s,Wk 0 s ⟨44,Aa [(3,BI),(6,CT)],[⟨0,35,3,[[i64 p0.op,i64 k,ow 2 0 p]]⟩,FF,Hm p]⟩->K7 s:=by
   intro p hq s F;subst D;refine V _ (AK F (sr AA λb0 G=>zq tb AA (Am AI BE AA AA AA AA AA AA pj rfl (dn G AA ?_))));obtain rfl:=Sh.AB h0;exact Ao (Exists.intro _ (And.intro ((Bq (L:=[(6,CT)]) (st':=[Hm p,⟨0,35,3,[[i64 p0.op,i64 k,ow 0 0 p]]⟩]) (st1:=[Hm p,⟨0,35,3,[[i64 p0.op,i64 k,ow 2 0 p]]⟩]) [2,1] AA .nil (by decide) rfl AA (.deep (Ah Al) (.raw AA AA .nil)) (.same AA)).trans (Af (L:=[(6,CT)]) (.same AA))) (As (x:=.tmp 6) (off:=0) (cs:=[i64 p0.op,i64 k,ow 0 0 p]) (vs:=[i64 p0.op,i64 k,ow 0 0 p]) BE AA AA AA pj rfl _ ⟨AA,AA⟩)))
  refine AT (Ax (σ:=Int×(List AE)) (λn v=>Co p0 p1 p2 qu n v.1 v.2=some D) (λ(y,a)=>⟨44,Aa [(1,i64 p1),(2,i64 p2),(3,.ptr 0 0 0 0),(6,.ptr 1 0 0 0),(27,ls Ar p0.kids),(28,i64 (Sh.len p0.kids)),(29,i64 y)],[⟨0,35,3,[[i64 p0.op,i64 k,ow 2 0 a]]⟩,FF,ro 0 35 3 (BS 35) a]⟩) N (0,[]) h (by refine Wk.trans (Jj (id:=0) (st':=[⟨0,35,3,[[i64 p0.op,i64 k,.own 2 0 (List.length ([]:List AE))]]⟩,FF,ro 0 35 3 (BS 35) ([]:List AE)]) (j:=2) rfl AA 35 (size':=3) (by decide) rfl AA AA AA) ?_;exact AJ AA) (λ_ hv=>by rw[Co]at hv;cases hv) ?_);rintro n ⟨y,a⟩ h;rw[Co]at h;refine zr tb AA AA (AG λb1 H=>?_);refine ci h AA ?_ ?_<;>clear h<;>intro b2 h
  ·refine AL (H _ (AG λb3 I=>AT (sr AA λb4 J=>bs h λA K h=>zz (Dc A) (By BU AA AA K (Ai _) rfl) rfl (zq tb AA (Av (m:=3) AI DE AA AA (Am AI BE AA AA AA AA AA AA pj rfl (dn J AA ?_)))))));refine IQ (by kernel_rfl) ?_;refine bs h λd B h=>bs h λf C h=>KO λA23 b=>?_;have g:A23 0 (bm 10 1023) ⟨44,Aa (Yz p1 p2 p0 y []),[Us p0 k f,Hm f,FF]⟩:=(b _ _ _).2 (by
    refine Hr AA (by kernel_rfl) (I _ (AH AA (zm tb 2 AA ?_)));exact AF (xi (Sh.w (y+1),f) h (by exact Bq (L:=(fF p1 p2 [(27,ls Ar p0.kids),(28,ZF p0),(29,KW y)])) (st':=[⟨0,35,3,[[i64 p0.op,i64 k,ow 2 0 f]]⟩,FF,Hm f]) (st1:=[Us p0 k f,FF,Hm f]) [0,2,1] AA .nil (by decide) rfl AA (.raw AA AA (.raw AA AA (.deep (Ah Al) .nil))) (.same AA))))
   have o:A23 1 (bm 10 511) ⟨44,Aa (Yz p1 p2 p0 y [(40,ow 1 1 f),(41,.ptr 0 0 0 2)]),[Us p0 k a,ro 1 35 3 (BS 35) f,FF]⟩:=(b _ _ _).2 (by
    refine xa [9] ⟨?_,lU⟩
    ·refine xo 9 ?_;exact Am AI aW AA AA AA AA AA AA qO rfl (OI b g (by exact EN (L:=(Yz p1 p2 p0 y [])) (st':=[Us p0 k f,Hm f,FF]) (.raw AA AA (.deep (Ah Al) (.raw AA AA .nil))) (.same AA))))
   have q:A23 3 (bm 10 127) ⟨44,Aa (Yz p1 p2 p0 y [(34,ow 1 0 a),(39,.own 3 0 1)]),[Us p0 k a,Hm a,FF,⟨0,35,3,[ND d]⟩,DN d]⟩:=(b _ _ _).2 (by
    refine xa [7] ⟨?_,lU⟩
    ·refine xo 7 ?_;have M:=Zx C;refine cr (st':=[Us p0 k a,⟨1,35,3,hole f (BS 35) (Sh.len a) (ND d)⟩,FF,⟨0,35,3,[ND d]⟩,DN d]) (c:=d) AI BU AA AA AA AA AA AA AA C AA (AR (Wk.take (id:=1) (m:=4) (j:=2) (i:=Sh.len a) (c:=d) (ys:=d.kids) (encY:=(BS 35)) rfl M AA AA AA (by decide) (show 0<=4 by decide) Ey AA AA) (AR (G6 (id:=1) (i:=Sh.len a) (c:=d) rfl M (Cx d).symm AA) (AF ⟨AA,(BX tb 8 AA (by kernel_rfl) rfl ?_)⟩)));exact xw b o (by exact AS [0,1,2] AA (by decide) rfl AA (.raw AA AA (.deep (Ah Al) (.raw AA AA .nil))) (.same AA)))
   have e:A23 4 (bm 10 63) ⟨44,Aa (Yz p1 p2 p0 y [(34,ow 1 0 a),(38,.agg (Vw d))]),[Us p0 k a,Hm a,FF,DN d]⟩:=(b _ _ _).2 (by
    refine xa [6] ⟨?_,lU⟩
    ·refine xo 6 (BF (m:=4) (l:=[()]) (enc:=λ_=>(Vw d)) AI BU (by decide) rfl AA AA AA AA AA ?_);exact OI b q (by exact Bq (L:=(Yz p1 p2 p0 y [(34,ow 1 0 a),(39,.own 3 0 1)])) (st':=[Us p0 k a,Hm a,FF,⟨0,35,3,[ND d]⟩,DN d]) (st1:=[Us p0 k a,Hm a,FF,⟨0,35,3,[Vw d]⟩,DN d]) [0,1,2,4,3] AA .nil (by decide) rfl AA (.raw AA AA (.deep (Ah Al) (.raw AA AA (.raw AA AA (.deep (Ah Al) .nil))))) (.same AA)))
   have t:A23 5 (bm 10 31) ⟨44,Aa (Yz p1 p2 p0 y [(34,ow 1 0 a),(35,Bc A),(36,i64 p1),(37,i64 p2)]),[Us p0 k a,Hm a,FF]⟩:=(b _ _ _).2 (by
    refine xa [5] ⟨?_,lU⟩
    ·refine xo 5 ?_;exact CH (v':=(.agg (Vw d))) AI (hb 44) (rm B) rfl AA ⟨Ah Al,lU⟩ AA AA (xd b e))
   have z:A23 6 (bm 10 29) ⟨44,Aa (Yz p1 p2 p0 y [(33,.ptr 0 0 0 2),(35,Bc A),(36,i64 p1),(37,i64 p2)]),[Us p0 k a,Hm a,FF]⟩:=(b _ _ _).2 (by
    refine xa [1,5] ⟨?_,?_,lU⟩
    ·exact xq tb b t
    ·refine xo 5 ?_;refine CH (v':=(.agg (Vw d))) AI (hb 44) (rm B) rfl AA ⟨Ah Al,lU⟩ AA AA (AF ⟨AA,?_⟩);refine BX tb 1 AA (by kernel_rfl) rfl ?_;exact xt b e)
   refine (b _ _ _).2 (BX tb 0 AA (by kernel_rfl) rfl (BX tb 2 AA (by kernel_rfl) rfl (BX tb 3 AA (by kernel_rfl) rfl (BX tb 4 AA (by kernel_rfl) rfl ?_))));exact xw b z (by exact Bq (L:=(Yz p1 p2 p0 y [(33,.ptr 0 0 0 2),(35,Bc A),(36,i64 p1),(37,i64 p2)])) (st':=[Us p0 k a,Hm a,FF]) (st1:=[⟨0,35,3,[[i64 p0.op,i64 k,ow 2 0 a]]⟩,Hm a,FF]) [0,2,1] AA .nil (by decide) rfl AA (.raw AA AA (.deep (Ah Al) (.raw AA AA .nil))) (.same AA))
  ·exact Az (X a (Sh.AB h).symm _ (AJ AA))
 refine AG λY O=>bs h λP Q h=>?_;have R:∀(E:Bool),P=E->∀s,Wk 0 s ⟨44,Aa (fF p1 p2 [(18,.bool E)]),[Pv p0.op p0.num p0.kids,FF]⟩->Y s:=by
  intro E hq s F;subst P;refine O _ (AK F ?_);refine ci h AA ?_ ?_<;>clear h<;>intro b5 h
  ·exact AH AA (zm tb 5 AA (Am AI HV AA AA AA AA AA AA (show 1+1<=3 by decide) rfl (AF (M4 (Sh.w (p0.num+p2)) (Sh.AB h).symm _ (AJ AA)))))
  ·exact AL (M4 p0.num (Sh.AB h).symm _ (AJ AA))
 refine AH AA (zm tb 4 AA ?_);rcases Sh.Aj Q with ⟨u,Q⟩|⟨u,Q⟩
 ·refine zg tb u AA ?_;iterate 3 refine zg tb u rfl ?_
  exact zt u AA (AF (R (decide (p1<=p0.num)) (Sh.AB Q).symm _ (AJ AA)))
 ·refine zs u AA ?_;iterate 3 refine zs u rfl ?_
  exact zf u AA (AF (R false (Sh.AB Q).symm _ (AJ AA)))
theorem Ri {N:Nat}:∀(n:Nat),∀{p0:AE} {p1:Int} {p2:Int} {r:AE},D4 N n p0 p1 p2=some r->Ab Tryz.prog 44 [Bc p0,i64 p1,i64 p2] [] (λv st=>v=(.agg (R0 r))/\st=[DN r]):=by
 intro n
 induction n with
 | zero=>intro p0 p1 p2 r a;cases a
 | succ n ih=>
  intro p0 p1 p2 r a;rw[D4]at a;exact Rv (λh=>ih h) a
theorem OF {N:Nat}:∀{p0:AE} {p1:Int} {p2:Int} {r:AE},Gz N p0 p1 p2=some r->Ab Tryz.prog 44 [Bc p0,i64 p1,i64 p2] [] (λv st=>v=(.agg (R0 r))/\st=[DN r]):=by
 intro p0 p1 p2 r a;exact Ri N a
theorem Md {N:Nat}{p0 r:AE}(h0:Ik N p0=some r):Ab Tryz.prog 91 [Bc p0] [] (λv st=>v=(.agg (R0 r))/\st=[DN r]):=by
 unfold Ik at h0;refine Ab.wk (r0:=(.agg (R0 r))) (st0:=[DN r,⟨0,35,3,[R0 r]⟩]) (ai Tryz.func91 AA AA AA AA (sr AA λe b=>Bd (m:=0) AI AA AA AA AA AA (Av (m:=1) AI DE AA AA (dn b AA (sr AA λf c=>zq tb AA (bs h0 λa d h0=>CH (v':=(.agg (LR a))) AI (hb 44) (OF d) rfl AA ⟨Ah Al,lU⟩ AA AA (Am AI BE AA AA AA AA AA AA pj rfl (dn c AA ?_)))))))) (Dg (L:=[(0,.agg (R0 r))]) (st':=[DN r]) [0] AA (by decide) rfl AA (.deep (Ah Al) lU) (.same AA));obtain rfl:=Sh.AB h0;exact Ao (Exists.intro _ (And.intro ((Bq (L:=[(2,CT)]) (st':=[DN a,⟨0,35,3,[R0 a]⟩]) (st1:=(eC a [])) [2,1] AA .nil (by decide) rfl AA (.deep (Ah Al) (.raw AA AA .nil)) (.same AA)).trans (Af (L:=[(2,CT)]) (.same AA))) (As (x:=.tmp 2) (off:=0) (cs:=(R0 a)) (vs:=(R0 a)) BE AA AA AA pj rfl _ ⟨AA,AA⟩)))
theorem PI {N:Nat}{p0 r:AP}(h0:HD N p0=some r):Ab Tryz.prog 55 [Hs p0] [] (λv st=>v=(.agg [ow 0 0 r.decls,ow 1 0 r.funcs])/\st=(ji r [])):=by
 unfold HD at h0;refine Ab.wk (r0:=(.agg [ow 0 0 r.decls,ow 1 0 r.funcs])) (st0:=(ji r [⟨0,26,2,[[ow 0 0 r.decls,ow 1 0 r.funcs]]⟩])) (ai Tryz.func55 AA AA AA AA (sr AA λK1 R=>Bd (m:=0) AI AA AA AA AA AA (AR (Wk.BL (L:=[(1,.Bn (dW p0) 0)]) (st':=[⟨1,26,2,[]⟩]) (id:=0) rfl pn (ET AA) (.same AA) rfl) (Av (m:=1) AI JV AA AA (dn R AA (sr AA λK2 S=>zm tb 2 AA (bs h0 λf T h0=>CH (v':=(ow 2 0 f)) AI (hb 90) (Cl.PJ T) rfl AA ⟨(Ah λ_=>AA),lU⟩ AA AA (zz (.agg [ow 2 0 f,.zc]) (DC WO WH JV AA AA) rfl (Av (m:=3) AI JV AA AA (Am AI EM AA AA AA AA AA AA pk rfl (dn S AA (AG λY U=>sr AA λK5 V=>zm tb 2 AA (zl tb AA AA (zq tb AA (dn V AA (bs h0 λW D h0=>?_)))))))))))))))) (Dg (L:=[(0,.agg [ow 0 0 r.decls,ow 1 0 r.funcs])]) (st':=(ji r [])) [0,1] AA (by decide) rfl AA (.deep (Ah λ_=>AA) (.deep (Ah λ_=>AA) lU)) (.same AA));have Z:∀(E:(List Ac)),W=E->∀s,Wk 0 s ⟨33,Aa [(2,BI),(3,CY)],[Uc,Qp f,⟨0,26,2,[[ow 1 0 f,ow 3 0 E]]⟩,NF E]⟩->Y s:=by
  intro E hq s hw;subst W;refine U _ (AK hw (sr AA λb0 K=>zq tb AA (Am AI EM AA AA AA AA AA AA pk rfl (dn K AA ?_))));obtain rfl:=Sh.AB h0;exact Ao (Exists.intro _ (And.intro ((Bq (L:=[(2,CY)]) (st':=[Qp f,NF E,⟨0,26,2,[[ow 0 0 f,ow 1 0 E]]⟩]) (st1:=[Qp f,NF E,⟨0,26,2,[[ow 1 0 f,ow 3 0 E]]⟩]) [1,3,0] AA .nil (by decide) rfl AA (.deep (Ah λ_=>AA) (.deep (Ah λ_=>AA) (.raw AA AA .nil))) (.same AA)).trans (Af (L:=[(2,CY)]) (.same AA))) (As (x:=.tmp 2) (off:=0) (cs:=[ow 0 0 f,ow 1 0 E]) (vs:=[ow 0 0 f,ow 1 0 E]) EM AA AA AA pk rfl _ ⟨AA,AA⟩)))
 refine AT (Ax (σ:=Int×(List Ac)) (λn v=>DQ N p0 n v.1 v.2=some W) (λ(C,q)=>⟨33,Aa [(2,.ptr 0 0 0 0),(3,.ptr 2 0 0 0),(11,ls BO p0.funcs),(12,i64 (Sh.len p0.funcs)),(13,i64 C)],[Uc,ro 0 80 3 (BY 82 3) f,⟨0,26,2,[[ow 1 0 f,ow 3 0 q]]⟩,ro 0 37 5 (DM 3 35) q]⟩) N (0,[]) D (by refine Wk.trans (Jj (id:=3) (st':=[⟨1,26,2,[]⟩,Uc,ro 0 80 3 (BY 82 3) f,⟨0,26,2,[[ow 2 0 f,.own 4 0 (List.length ([]:List Ac))]]⟩,ro 0 37 5 (DM 3 35) ([]:List Ac)]) (j:=1) rfl AA 37 (size':=5) (by decide) rfl AA AA AA) ?_;exact Bq (L:=[(2,.ptr 0 0 0 0),(3,.ptr 2 0 0 0),(11,ls BO p0.funcs),(12,i64 (Sh.len p0.funcs)),(13,i64 0)]) (st':=[Uc,ro 0 80 3 (BY 82 3) f,⟨0,26,2,[[ow 1 0 f,.own 3 0 (List.length ([]:List Ac))]]⟩,ro 0 37 5 (DM 3 35) ([]:List Ac)]) (st1:=[Uc,ro 0 80 3 (BY 82 3) f,⟨0,26,2,[[ow 2 0 f,.own 4 0 (List.length ([]:List Ac))]]⟩,ro 0 37 5 (DM 3 35) ([]:List Ac)]) [1,2,3,4] AA .nil (by decide) rfl AA (.raw AA AA (.deep (Ah λ_=>AA) (.raw AA AA (.deep (Ah λ_=>AA) .nil)))) (.same AA)) (λ_ X=>by rw[DQ]at X;cases X) ?_);rintro n ⟨C,q⟩ D;rw[DQ]at D;refine zr tb AA AA (AG λb1 M=>?_);refine ci D AA ?_ ?_<;>clear D<;>intro b2 D
 ·refine AL (M _ (AG λb3 O=>AT (sr AA λb4 P=>bs D λd Q D=>zx Ct Q AA AA AA (zq tb AA (Av (m:=4) AI L4 AA AA (Am AI LV AA AA AA AA AA AA pq rfl (AR (Wk.BL (L:=[(2,BI),(3,CY),(5,.Bn (Pf d) 0),(11,ah p0),(12,i64 (Sh.len p0.funcs)),(13,i64 C)]) (st':=[Uc,Qp f,⟨0,26,2,[[ow 1 0 f,ow 3 0 q]]⟩,NF q,⟨1,37,5,[]⟩]) (id:=4) rfl (show 0<=4 by decide) (ET AA) (.same AA) rfl) (dn P AA ?_))))))));refine P9 (by kernel_rfl) ?_;refine bs D λe G D=>bs D λa H D=>bs D λy I D=>?_;refine WL (f':=15) (listed':=(bm 15 0)) rfl (by kernel_rfl) ?_;refine DX 0 (v:=(.ptr 2 0 0 1)) rfl AA (by kernel_rfl) (by kernel_rfl) (by kernel_rfl) rfl (E9 (KB KX AA AA pw rfl)) ?_;refine DX 2 (v:=(.Bn (Pf d) 0)) rfl AA (by kernel_rfl) (by kernel_rfl) (by kernel_rfl) rfl (E9 (MW SI AA AA)) ?_;refine DX 3 (v:=(ls eI d.params)) rfl AA (by kernel_rfl) (by kernel_rfl) (by kernel_rfl) rfl (Ol Jo AA AA) ?_;refine DX 5 (v:=(.Bn (Pf d) 1)) rfl AA (by kernel_rfl) (by kernel_rfl) (by kernel_rfl) rfl (E9 (MW QQ AA AA)) ?_;refine DX 6 (v:=(i64 d.result)) rfl AA (by kernel_rfl) (by kernel_rfl) (by kernel_rfl) rfl (Ol HV AA AA) ?_;refine DX 7 (v:=(.Bn (Pf d) 2)) rfl AA (by kernel_rfl) (by kernel_rfl) (by kernel_rfl) rfl (E9 (MW VB AA AA)) ?_;refine DX 8 (v:=(Ys d)) rfl AA (by kernel_rfl) (by kernel_rfl) (by kernel_rfl) rfl (UF BE AA pz rfl) ?_;refine Vg (TI λvH b=>?_);have k:vH 0 (bm 15 32767) ⟨33,Aa (TB p0 [(12,i64 (Sh.len p0.funcs)),(13,i64 C)]),TM f y []⟩:=(b _ _ _).2 (by
   refine Rq AA (by kernel_rfl) (O _ (AH AA (zm tb 2 AA ?_)));exact AF (xi (Sh.w (C+1),y) D (by exact Bq (L:=[(2,BI),(3,CY),(11,ah p0),(12,i64 (Sh.len p0.funcs)),(13,KW C)]) (st':=[Uc,Qp f,⟨0,26,2,[[ow 1 0 f,ow 3 0 y]]⟩,NF y]) (st1:=[Uc,Qp f,iE f y,NF y]) [0,2,1,3] AA .nil (by decide) rfl AA (.raw AA AA (.deep (Ah λ_=>AA) (.raw AA AA (.deep (Ah λ_=>AA) .nil)))) (.same AA))))
  have p:vH 1 (bm 15 16383) ⟨33,Aa (TB p0 [(12,i64 (Sh.len p0.funcs)),(13,i64 C),(29,ow 3 1 y),(30,.ptr 1 0 0 1)]),[Uc,iE f q,Qp f,ro 1 37 5 (DM 3 35) y]⟩:=(b _ _ _).2 (by
   refine ya [14] ⟨?_,lU⟩
   ·refine yo 14 ?_;exact Am AI PF AA AA AA AA AA AA qF rfl (ZZ b k (by exact EN (L:=(TB p0 [(12,i64 (Sh.len p0.funcs)),(13,i64 C)])) (st':=(TM f y [])) (.raw AA AA (.raw AA AA (.deep (Ah λ_=>AA) (.deep (Ah λ_=>AA) .nil)))) (.same AA))))
  have t:vH 3 (bm 15 4095) ⟨33,Aa (TB p0 [(12,i64 (Sh.len p0.funcs)),(13,i64 C),(18,ow 3 0 q),(28,.own 4 0 1)]),TM f q [⟨0,37,5,[[ow 5 0 e,i64 d.result,i64 a.op,i64 a.num,ow 6 0 a.kids]]⟩,Bm e,DN a]⟩:=(b _ _ _).2 (by
   refine ya [12] ⟨?_,lU⟩
   ·refine yo 12 ?_;have J:=Zx I;refine cr (st':=[Uc,iE f q,Qp f,⟨1,37,5,hole y (DM 3 35) (Sh.len q) [ow 5 0 e,i64 d.result,i64 a.op,i64 a.num,ow 6 0 a.kids]⟩,⟨0,37,5,[[ow 5 0 e,i64 d.result,i64 a.op,i64 a.num,ow 6 0 a.kids]]⟩,Bm e,DN a]) (c:=(Ac.mk e d.result a)) AI Ct AA AA AA AA AA AA AA I AA (AR (Wk.take (id:=3) (m:=5) (j:=0) (i:=Sh.len q) (c:=(Ac.mk e d.result a)) (ys:=e) (encY:=eI) rfl J AA AA AA (by decide) (show 0<=5 by decide) (λ_=>AA) rfl AA) (AR (Wk.take (id:=3) (m:=6) (j:=4) (i:=Sh.len q) (c:=(Ac.mk e d.result a)) (ys:=a.kids) (encY:=(BS 35)) rfl J AA AA AA (by decide) (show 0<=6 by decide) Ey AA AA) (AR (G6 (id:=3) (i:=Sh.len q) (c:=(Ac.mk e d.result a)) rfl J AA AA) (AF ⟨AA,(IC tb 13 AA (by kernel_rfl) rfl ?_)⟩))));exact yw b p (by exact AS [0,1,2,3] AA (by decide) rfl AA (.raw AA AA (.raw AA AA (.deep (Ah λ_=>AA) (.deep (Ah λ_=>AA) .nil)))) (.same AA)))
  have g:vH 4 (bm 15 2047) ⟨33,Aa (TB p0 [(12,i64 (Sh.len p0.funcs)),(13,i64 C),(18,ow 3 0 q),(27,.agg [ow 4 0 e,i64 d.result,i64 a.op,i64 a.num,ow 5 0 a.kids])]),TM f q [Bm e,DN a]⟩:=(b _ _ _).2 (by
   refine ya [11] ⟨?_,lU⟩
   ·refine yo 11 (BF (m:=6) (l:=[()]) (enc:=λ_=>[ow 4 0 e,i64 d.result,i64 a.op,i64 a.num,ow 5 0 a.kids]) AI Ct (by decide) rfl AA AA AA AA AA ?_);exact ZZ b t (by exact Bq (L:=(TB p0 [(12,i64 (Sh.len p0.funcs)),(13,i64 C),(18,ow 3 0 q),(28,.own 4 0 1)])) (st':=(TM f q [⟨0,37,5,[[ow 5 0 e,i64 d.result,i64 a.op,i64 a.num,ow 6 0 a.kids]]⟩,Bm e,DN a])) (st1:=(TM f q [⟨0,37,5,[[ow 4 0 e,i64 d.result,i64 a.op,i64 a.num,ow 5 0 a.kids]]⟩,Bm e,DN a])) [0,1,2,3,6,4,5] AA .nil (by decide) rfl AA (.raw AA AA (.raw AA AA (.deep (Ah λ_=>AA) (.deep (Ah λ_=>AA) (.raw AA AA (.pure (AD λ_=>AA) (.deep (Ah Al) .nil))))))) (.same AA)))
  have h:vH 5 (bm 15 1023) ⟨33,Aa (TB p0 [(12,i64 (Sh.len p0.funcs)),(13,i64 C),(18,ow 3 0 q),(21,ow 4 0 e),(23,i64 d.result),(26,.agg (Wm a))]),TM f q [Bm e,DN a]⟩:=(b _ _ _).2 (by
   refine ya [10] ⟨?_,lU⟩
   ·refine yo 10 ?_;exact zz (.agg [ow 4 0 e,i64 d.result,i64 a.op,i64 a.num,ow 5 0 a.kids]) (DC UY UK L4 AA AA) rfl (yd b g))
  have o:vH 6 (bm 15 511) ⟨33,Aa (TB p0 [(12,i64 (Sh.len p0.funcs)),(13,i64 C),(18,ow 3 0 q),(21,ow 4 0 e),(23,i64 d.result),(25,Ys d)]),TM f q [Bm e]⟩:=(b _ _ _).2 (by
   refine ya [9] ⟨?_,lU⟩
   ·refine yo 9 ?_;exact CH (v':=(.agg (Wm a))) AI (hb 91) (Md H) rfl AA ⟨Ah Al,lU⟩ AA AA (yd b h))
  have z:vH 7 (bm 15 495) ⟨33,Aa (TB p0 [(12,i64 (Sh.len p0.funcs)),(13,i64 C),(18,ow 3 0 q),(20,ls eI d.params),(23,i64 d.result),(25,Ys d)]),TM f q []⟩:=(b _ _ _).2 (by
   refine ya [4] ⟨?_,lU⟩
   ·refine yo 4 ?_;exact CH (v':=(ow 4 0 e)) AI (hb 82) (Cq G) rfl AA ⟨(CL λ_=>AA),lU⟩ AA AA (yd b o))
  have u:vH 6 (bm 15 1021) ⟨33,Aa (TB p0 [(12,i64 (Sh.len p0.funcs)),(13,i64 C),(17,.ptr 1 0 0 1),(21,ow 4 0 e),(23,i64 d.result),(26,.agg (Wm a))]),TM f q [Bm e,DN a]⟩:=(b _ _ _).2 (by
   refine ya [1,10] ⟨?_,?_,lU⟩
   ·exact bU tb b h
   ·refine yo 10 ?_;refine zz (.agg [ow 4 0 e,i64 d.result,i64 a.op,i64 a.num,ow 5 0 a.kids]) (DC UY UK L4 AA AA) rfl (AF ⟨AA,?_⟩);refine IC tb 1 AA (by kernel_rfl) rfl ?_;exact bC b g)
  have A:vH 7 (bm 15 509) ⟨33,Aa (TB p0 [(12,i64 (Sh.len p0.funcs)),(13,i64 C),(17,.ptr 1 0 0 1),(21,ow 4 0 e),(23,i64 d.result),(25,Ys d)]),TM f q [Bm e]⟩:=(b _ _ _).2 (by
   refine ya [1,9] ⟨?_,?_,lU⟩
   ·exact bU tb b o
   ·refine yo 9 ?_;exact CH (v':=(.agg (Wm a))) AI (hb 91) (Md H) rfl AA ⟨Ah Al,lU⟩ AA AA (yd b u))
  have B:vH 8 (bm 15 493) ⟨33,Aa (TB p0 [(12,i64 (Sh.len p0.funcs)),(13,i64 C),(17,.ptr 1 0 0 1),(20,ls eI d.params),(23,i64 d.result),(25,Ys d)]),TM f q []⟩:=(b _ _ _).2 (by
   refine ya [1,4] ⟨?_,?_,lU⟩
   ·exact bU tb b z
   ·refine yo 4 ?_;exact CH (v':=(ow 4 0 e)) AI (hb 82) (Cq G) rfl AA ⟨(CL λ_=>AA),lU⟩ AA AA (yd b A))
  refine (b _ _ _).2 ?_;exact yw b B (by exact Bq (L:=(TB p0 [(12,i64 (Sh.len p0.funcs)),(13,i64 C),(17,.ptr 1 0 0 1),(20,ls eI d.params),(23,i64 d.result),(25,Ys d)])) (st':=(TM f q [])) (st1:=[Uc,⟨0,26,2,[[ow 1 0 f,ow 3 0 q]]⟩,Qp f,NF q]) [0,2,1,3] AA .nil (by decide) rfl AA (.raw AA AA (.raw AA AA (.deep (Ah λ_=>AA) (.deep (Ah λ_=>AA) .nil)))) (.same AA))
 ·exact Az (Z q (Sh.AB D).symm _ (AJ AA))
theorem Xh {p0 p1 p2 r:Int}(h0:MZ p0 p1 p2=some r):Ab Tryz.prog 64 [i64 p0,i64 p1,i64 p2] [] (λv st=>v=(i64 r)/\st=[]):=by
 unfold MZ at h0;refine ai Tryz.func64 AA AA AA AA (zr tb AA AA (AG λB i=>AG λo j=>bs h0 λn a h0=>?_));have h:∀(k:Bool),n=k->∀s,Wk 0 s ⟨46,Aa [(0,i64 p0),(1,i64 p1),(2,i64 p2),(21,.bool k)],[]⟩->o s:=by
  intro k p s l;subst n;refine j _ (AK l ?_);refine ci h0 AA ?_ ?_<;>clear h0<;>intro C h0
  ·refine zr tb AA AA ?_;obtain rfl:=Sh.AB h0;exact rt [(6,i64 0)]
  ·refine AL (i _ (zr tb AA AA (AG λq m=>bs h0 λf a h0=>?_)));have e:∀(ug:Int),f=ug->∀s,Wk 0 s ⟨46,Aa [(7,i64 ug)],[]⟩->q s:=by
    intro ug p s l;subst f;refine m _ (AK l (sr AA λt g=>zq tb AA (zz (i64 (if (-999) > ug then (-999) else ug)) (cm AA AA) rfl (zz (i64 (if 999<(if (-999) > ug then (-999) else ug) then 999 else (if (-999) > ug then (-999) else ug))) (cV AA AA) rfl (zq tb AA (dn g AA ?_))))));obtain rfl:=Sh.AB h0;exact rt [(6,i64 (if 999<(if (-999) > ug then (-999) else ug) then 999 else (if (-999) > ug then (-999) else ug)))]
   refine zr tb AA AA (AT (zr tb AA AA ?_));refine ci a AA ?_ ?_<;>clear a<;>intro u a
   ·exact AH AA (zm tb 4 AA (AF (e (Sh.w (p1+p2)) (Sh.AB a).symm _ (AJ AA))))
   ·refine zr tb AA AA ?_;refine ci a AA ?_ ?_<;>clear a<;>intro x a
    ·exact AH AA (zm tb 4 AA (AF (e (Sh.w (p1-p2)) (Sh.AB a).symm _ (AJ AA))))
    ·refine zr tb AA AA ?_;refine ci a AA ?_ ?_<;>clear a<;>intro y a
     ·exact AH AA (zm tb 4 AA (AF (e (Sh.w (p1*p2)) (Sh.AB a).symm _ (AJ AA))))
     ·refine zr tb AA AA ?_;refine ci a AA ?_ ?_<;>clear a<;>intro z a
      ·refine zr tb AA AA ?_;refine ci a AA ?_ ?_<;>clear a<;>intro A a
       ·exact AH AA (zq tb AA (AF (e 1 (Sh.AB a).symm _ (AJ AA))))
       ·exact AL (e 0 (Sh.AB a).symm _ (AJ AA))
      ·exact AL (e 0 (Sh.AB a).symm _ (AJ AA))
 refine AH AA (zm tb 3 AA ?_);rcases Sh.Aj a with ⟨b,a⟩|⟨b,a⟩
 ·exact zs b AA (zs b AA (zt b AA (zq tb AA (zs AA AA (zs AA AA (zt AA AA (zq tb AA (zs AA AA (zs AA AA (zt AA AA (AF (h true (Sh.AB a).symm _ (AJ AA)))))))))))))
 ·refine zg tb b AA (zg tb b AA (zf b AA (zq tb AA ?_)));rcases Sh.Aj a with ⟨c,a⟩|⟨c,a⟩
  ·exact zs c AA (zs c AA (zt c AA (zq tb AA (zs AA AA (zs AA AA (zt AA AA (AF (h true (Sh.AB a).symm _ (AJ AA)))))))))
  ·refine zg tb c AA (zg tb c AA (zf c AA (zq tb AA ?_)));rcases Sh.Aj a with ⟨d,a⟩|⟨d,a⟩
   ·exact zs d AA (zs d AA (zt d AA (AF (h true (Sh.AB a).symm _ (AJ AA)))))
   ·exact zg tb d AA (zg tb d AA (zf d AA (AF (h (decide (999<p2)) (Sh.AB a).symm _ (AJ AA)))))
theorem Nk {N:Nat}{p0:(List Int)}{p1 r:Int}(h0:GB N p0 p1=some r):Ab Tryz.prog 65 [ls eI p0,i64 p1] [] (λv st=>v=(i64 r)/\st=[]):=by
 unfold GB at h0;refine ai Tryz.func65 AA AA AA AA (zr tb AA AA (AG λk f=>sr AA λu g=>zq tb AA (zl tb AA AA (zq tb AA (dn g AA ?_)))));obtain⟨h,a,h0⟩:=Sh.Bg h0;have l:∀(_:Unit),h=Sum.inr ()->∀s,Wk 0 s ⟨19,Aa [],[]⟩->k s:=by
  intro _ x s m;subst h;refine f _ (AK m (zr tb AA AA ?_));obtain rfl:=Sh.AB h0;exact rt [(4,i64 (-1))]
 refine AT (Ax (σ:=Int) (λn v=>DF p0 p1 n v=some h) (λe=>⟨19,Aa [(0,ls eI p0),(1,i64 p1),(7,i64 (Sh.len p0)),(8,i64 e)],[]⟩) N 0 a (AJ AA) (λ_ j=>by rw[DF]at j;cases j) ?_);rintro n e a;rw[DF]at a;refine zr tb AA AA (AG λy i=>?_);refine ci a AA ?_ ?_<;>clear a<;>intro z a
 ·refine AL (i _ (AG λo b=>AT (zr tb AA AA (sr AA λp c=>zm tb 3 AA (bs a λq d a=>zx BM d AA AA AA (zm tb 2 AA (dn c AA ?_)))))));refine ci a AA ?_ ?_<;>clear a<;>intro t a
  ·refine zr tb AA AA ?_;obtain rfl:=Sh.AB a;obtain rfl:=Sh.AB h0;exact rt [(4,i64 e)]
  ·exact AL (b _ (AH AA (zm tb 2 AA (AF (xi (Sh.w (e+1)) a (AJ AA))))))
 ·exact Az (l () (Sh.AB a).symm _ (AJ AA))
theorem U0 {N:Nat}{s0:(List AE)}{p0:(List AN)}{qX qn p2:Int}{r:AE}(h0:Jl N s0 p0 qX qn p2=some r):Ab Tryz.prog 36 [Cu p0,.agg [i64 qX,i64 qn,ow 0 0 s0],i64 p2] [Hm s0] (λv st=>v=(.agg (Te r))/\st=[CE,DN r]):=by
 unfold Jl at h0;refine Ab.wk (r0:=(.agg (Te r))) (st0:=[CE,DN r,⟨0,35,3,[Te r]⟩]) ?_ (Dg (L:=[(0,.agg (Te r))]) (st':=[CE,DN r]) [0,1] AA (by decide) rfl AA (.pure (by intro x e;cases e) (.deep (Ah Al) lU)) (.same AA));refine ai Tryz.func36 AA AA AA AA (AK (Pq (L:=[(0,Cu p0),(1,.agg [i64 qX,i64 qn,ow 1 0 s0]),(2,i64 p2)]) (id:=0) (N:=1) (st':=[CE,Hm s0]) rfl AA (.same AA) rfl) (sr AA λK1 c4=>Bd (m:=2) AI AA AA AA AA AA (Av (m:=3) AI DE AA AA (dn c4 AA (AG λK2 c5=>?_)))));obtain⟨o3,d,h0⟩:=Sh.Bg h0;have M3:∀(_:Unit),o3=Sum.inr ()->∀s,Wk 1 s ⟨92,Aa (Tt []),[CE,Hm s0,U1 qX qn s0,FF]⟩->K2 s:=by
  intro _ hq s T;subst o3;refine c5 _ (AK T (sr AA λK4 c6=>zq tb AA (Am AI BE AA AA AA AA AA AA pj rfl (dn c6 AA ?_))));obtain rfl:=Sh.AB h0;exact Ao (Exists.intro _ (And.intro ((AS (L:=[(6,CY)]) (st':=[CE,Hm s0,U1 qX qn s0]) [0,1,3] AA (by decide) rfl AA (.pure (by intro x e;cases e) (.deep (Ah Al) (.raw AA AA .nil))) ⟨.rfl,lU⟩).trans (Af (L:=[(6,CY)]) ⟨.rfl,lU⟩)) (As (x:=.tmp 6) (off:=0) (cs:=[i64 qX,i64 qn,ow 1 0 s0]) (vs:=[i64 qX,i64 qn,ow 1 0 s0]) BE AA AA AA pj rfl _ ⟨AA,AA⟩)))
 refine zr tb AA AA (AT (AG λK6 c7=>bs d λo8 A d=>?_));have M8:∀(t7:Bool),o8=t7->∀s,Wk 1 s ⟨92,Aa ((0,Cu p0)::(2,i64 p2)::Tt [(11,i64 qX),(12,.bool t7)]),[CE,Hm s0,U1 qX qn s0,FF]⟩->K6 s:=by
  intro t7 hq s T;subst o8;refine c7 _ (AK T ?_);refine ci d AA ?_ ?_<;>clear d<;>intro b9 d
  ·refine AG λc8 U=>bs d λV A d=>?_;have W:∀(S:Bool),V=S->∀s,Wk 1 s ⟨92,Aa (Tt [(30,.bool S)]),[CE,Hm s0,U1 qX qn s0,FF]⟩->c8 s:=by
    intro S hq s T;subst V;refine U _ (AK T ?_);refine ci d AA ?_ ?_<;>clear d<;>intro d5 d
    ·refine AG λd6 X=>Br 14 (by kernel_rfl) (by kernel_rfl) (by rfl) ?_;iterate 4 refine yq tb rfl ?_
     refine bs d λc9 O d=>yz (.ptr 1 0 (Int.toNat 0) 0) (CB BU AA AA AA AA O) rfl (yq tb AA (yz (i64 c9.num) (CA HV AA AA (OC O (Cx _)) rfl) rfl ?_));iterate 2 refine yq tb rfl ?_
     refine bs d λd0 P d=>yz (.ptr 1 0 (Int.toNat 1) 0) (CB BU AA AA AA AA P) rfl (yq tb AA (yz (i64 d0.num) (CA HV AA AA (OC P (Cx _)) rfl) rfl (bs d λG Y d=>BV (v:=(i64 G)) AI (hb 64) (Xh Y) rfl AA AA (yz (.agg [i64 0,i64 G,.zc]) (DC PG PA DE AA AA) rfl (Aw (Am AI BE AA AA AA AA AA AA pj rfl (dn X AA ?_)))))));obtain rfl:=Sh.AB d;obtain rfl:=Sh.AB h0;exact Ao (Exists.intro _ (And.intro (((Jj (id:=3) (st':=[CE,Hm s0,U1 qX qn s0,⟨0,35,3,[[i64 0,i64 G,.own 4 0 (List.length ([]:List AE))]]⟩,ro 0 35 3 (BS 35) ([]:List AE)]) (j:=2) rfl AA 35 (size':=3) (by decide) rfl AA AA AA).trans (Bq (L:=[(6,CY)]) (st':=[CE,ro 0 35 3 (BS 35) ([]:List AE),⟨0,35,3,[[i64 0,i64 G,.own 1 0 (List.length ([]:List AE))]]⟩]) (st1:=[CE,ro 0 35 3 (BS 35) ([]:List AE),⟨0,35,3,[[i64 0,i64 G,.own 4 0 (List.length ([]:List AE))]]⟩]) [0,4,3] AA (.pure (by intro x e;cases e) .nil) (by decide) rfl AA (.pure (by intro x e;cases e) (.deep (Ah Al) (.raw AA AA .nil))) (.same AA))).trans (Af (L:=[(6,CY)]) (.same AA))) (As (x:=.tmp 6) (off:=0) (cs:=[i64 0,i64 G,.own 1 0 (List.length ([]:List AE))]) (vs:=[i64 0,i64 G,.own 1 0 (List.length ([]:List AE))]) BE AA AA AA pj rfl _ ⟨AA,AA⟩)))
    ·exact AL (M3 () (Sh.AB d).symm _ (AJ AA))
   refine AH AA (zm tb 2 AA (bs A λd1 Q A=>zz (.ptr 1 0 (Int.toNat 0) 0) (CB BU AA AA AA AA Q) rfl (zq tb AA (zz (i64 d1.op) (CA HV AA AA (OC Q (Cx _)) rfl) rfl (zm tb 2 AA ?_)))));rcases Sh.Aj A with ⟨B,A⟩|⟨B,A⟩
   ·exact zg tb B AA (zg tb B AA (bs A λZ R A=>Ba (v:=(.ptr 1 0 (Int.toNat 1) 0)) (CS AA AA B) rfl (CB BU AA AA AA AA R) (zg tb B AA (Ba (v:=(i64 Z.op)) (CS AA AA B) rfl (CA HV AA AA (OC R (Cx _)) rfl) (zg tb B AA (zt B AA (AF (W (decide (Z.op=0)) (Sh.AB A).symm _ (AJ AA)))))))))
   ·refine zs B AA ?_;iterate 5 refine zs B rfl ?_
    exact zf B AA (AF (W false (Sh.AB A).symm _ (AJ AA)))
  ·refine zr tb AA AA ?_;refine ci d AA ?_ ?_<;>clear d<;>intro d7 d
   ·refine sr AA λd8 b0=>zm tb 2 AA (bs d λg k d=>zz (.ptr 1 0 (Int.toNat 0) 0) (CB BU AA AA AA AA k) rfl (AR (Gd (id:=1) (j:=2) (i:=0) (c:=g) (ys:=g.kids) (encY:=(BS 35)) rfl k (Cx _) rfl AA AA AA) (zz (.agg (ND g)) (As BE AA AA (FG k) pj rfl) rfl (Av (m:=5) AI DE AA AA (Am AI BE AA AA AA AA AA AA pj rfl (dn b0 AA (zr tb AA AA ?_)))))));refine ci d AA ?_ ?_<;>clear d<;>intro d9 d
    ·refine AG λg0 b1=>zr tb AA AA ?_;refine ci d AA ?_ ?_<;>clear d<;>intro b2 d
     ·have g1:decide (g.num=0)=false:=by simpa using b2
      refine sr AA λg2 b3=>zm tb 2 AA (bs d λl K d=>zz (.ptr 1 0 (Int.toNat 1) 0) (MB BU AA AA AA AA K) rfl (AR (Wk.take (id:=1) (m:=4) (j:=2) (i:=0) (c:=g) (ys:=g.kids) (encY:=(BS 35)) rfl k AA AA AA (by decide) px Ey AA AA) (AR (G6 (id:=1) (i:=0) (c:=g) rfl k (Cx g).symm AA) (AR (Gd (id:=1) (j:=2) (i:=1) (c:=l) (ys:=l.kids) (encY:=(BS 35)) rfl K (Cx _) rfl AA AA AA) (zz (.agg [i64 l.op,i64 l.num,ow 6 0 l.kids]) (As BE AA AA (FG K) pj rfl) rfl (Am AI BE AA AA AA AA AA AA pj rfl (dn b3 AA ?_)))))));obtain rfl:=Sh.AB d;obtain rfl:=Sh.AB h0;exact Ao (Exists.intro _ (And.intro ((Bq (L:=[(6,CY)]) (st':=[CE,DN l,⟨0,35,3,[Te l]⟩]) (st1:=[CE,DN l,⟨0,35,3,[[i64 l.op,i64 l.num,ow 6 0 l.kids]]⟩]) [0,6,3] AA (.pure (by intro x e;cases e) .nil) (by decide) rfl AA (.pure (by intro x e;cases e) (.deep (Ah Al) (.raw AA AA .nil))) (.same AA)).trans (Af (L:=[(6,CY)]) (.same AA))) (As (x:=.tmp 6) (off:=0) (cs:=(Te l)) (vs:=(Te l)) BE AA AA AA pj rfl _ ⟨AA,AA⟩)))
     ·have g3:decide (g.num=0)=true:=by simpa using b2
      refine AK (Wk.take (id:=1) (m:=4) (j:=2) (i:=0) (c:=g) (ys:=g.kids) (encY:=(BS 35)) (x':=(fp g)) (st':=(jo s0 g qX qn [])) rfl k AA AA AA (by decide) px Ey AA AA) (AK (G6 (id:=1) (i:=0) (c:=g) (st':=[CE,Hm s0,U1 qX qn s0,FF,CE,⟨0,35,3,[ND g]⟩]) rfl k (Cx g).symm AA) (AL (b1 _ (sr AA λg4 b4=>zm tb 2 AA (bs d λn M d=>zz (.ptr 1 0 (Int.toNat 2) 0) (CB BU AA AA AA AA M) rfl (AR (Gd (id:=1) (j:=2) (i:=2) (c:=n) (ys:=n.kids) (encY:=(BS 35)) rfl M (Cx _) rfl AA AA AA) (zz (.agg [i64 n.op,i64 n.num,ow 6 0 n.kids]) (As BE AA AA (FG M) pj rfl) rfl (Am AI BE AA AA AA AA AA AA pj rfl (dn b4 AA ?_)))))))));obtain rfl:=Sh.AB d;obtain rfl:=Sh.AB h0;exact Ao (Exists.intro _ (And.intro ((Bq (L:=[(6,CY)]) (st':=[CE,DN n,⟨0,35,3,[Te n]⟩]) (st1:=[CE,DN n,⟨0,35,3,[[i64 n.op,i64 n.num,ow 6 0 n.kids]]⟩]) [0,6,3] AA (.pure (by intro x e;cases e) .nil) (by decide) rfl AA (.pure (by intro x e;cases e) (.deep (Ah Al) (.raw AA AA .nil))) (.same AA)).trans (Af (L:=[(6,CY)]) (.same AA))) (As (x:=.tmp 6) (off:=0) (cs:=(Te n)) (vs:=(Te n)) BE AA AA AA pj rfl _ ⟨AA,AA⟩)))
    ·refine AK (Wk.take (id:=1) (m:=4) (j:=2) (i:=0) (c:=g) (ys:=g.kids) (encY:=(BS 35)) (x':=(fp g)) (st':=(jo s0 g qX qn [])) rfl k AA AA AA (by decide) px Ey AA AA) (AK (G6 (id:=1) (i:=0) (c:=g) (st':=[CE,Hm s0,U1 qX qn s0,FF,CE,⟨0,35,3,[ND g]⟩]) rfl k (Cx g).symm AA) ?_);exact AL (M3 () (Sh.AB d).symm _ (by refine Wk.trans (AS (L:=(Tt [])) (st':=[CE,Hm s0,U1 qX qn s0,FF]) [0,1,2,3] AA (by decide) rfl AA (.pure (by intro x e;cases e) (.deep (Ah Al) (.raw AA AA (.raw AA AA .nil)))) ⟨.rfl,.rfl,lU⟩) ?_;exact AJ AA))
   ·refine zr tb AA AA ?_;refine ci d AA ?_ ?_<;>clear d<;>intro g5 d
    ·refine sr AA λg6 b5=>zm tb 2 AA (bs d λa E d=>zz (.ptr 1 0 (Int.toNat 0) 0) (CB BU AA AA AA AA E) rfl (AR (Gd (id:=1) (j:=2) (i:=0) (c:=a) (ys:=a.kids) (encY:=(BS 35)) rfl E (Cx _) rfl AA AA AA) (zz (.agg (ND a)) (As BE AA AA (FG E) pj rfl) rfl (Av (m:=5) AI DE AA AA (Am AI BE AA AA AA AA AA AA pj rfl (dn b5 AA (zr tb AA AA ?_)))))));refine ci d AA ?_ ?_<;>clear d<;>intro g7 d
     ·refine AG λg8 b6=>?_;refine Br 7 (by kernel_rfl) (by kernel_rfl) (by rfl) ?_;iterate 3 refine yq tb rfl ?_
      refine bs d λb7 b8 d=>?_;refine BV (v:=(ls eI b7)) AI (hb 66) (Ab.wk (Lp b8) (by refine Wk.trans (Wk.BL (L:=[(0,ls eI b7)]) (st':=Rk) (id:=0) rfl pn (AD λ_=>AA) ⟨.BL AA,lU⟩ AA) ?_;exact AS [] AA (by decide) rfl AA .nil (.same AA))) rfl AA AA ?_;iterate 2 refine yq tb rfl ?_
      refine bs d λh c0 d=>BV (v:=(i64 h)) AI (hb 65) (Nk c0) rfl AA AA (Aw (zq tb AA (dn b6 AA (AG λg9 c1=>P9 (by kernel_rfl) (bs d λo C d=>bs d λu47 c2 d=>bs d λp c3 d=>WL (f':=11) (listed':=(bm 11 0)) rfl (by kernel_rfl) (DX 0 (v:=(.ptr 5 0 0 2)) rfl AA (by kernel_rfl) (by kernel_rfl) (by kernel_rfl) rfl (E9 (KB VC AA AA qA rfl)) (DX 2 (v:=(.ptr 2 0 0 2)) rfl AA (by kernel_rfl) (by kernel_rfl) (by kernel_rfl) rfl (E9 (KB VC AA AA qA rfl)) (DX 4 (v:=(i64 h)) rfl AA (by kernel_rfl) (by kernel_rfl) (by kernel_rfl) rfl (E9 (Iq AA)) (DX 8 (v:=(i64 p2)) rfl AA (by kernel_rfl) (by kernel_rfl) (by kernel_rfl) rfl (E9 (Iq AA)) (Vg (TI λzA b=>?_)))))))))));have t:zA 0 (bm 11 2047) ⟨92,Aa [(6,CT)],[CE,⟨0,35,3,[LR p]⟩,DN p]⟩:=(b _ _ _).2 (by
       refine Rq AA (by kernel_rfl) (c1 _ ?_);obtain rfl:=Sh.AB d;obtain rfl:=Sh.AB h0;exact Ao (Exists.intro _ (And.intro ((Bq (L:=[(6,CY)]) (st':=[CE,DN p,⟨0,35,3,[Te p]⟩]) (st1:=(CE::eC p [])) [0,2,1] AA (.pure (by intro x e;cases e) .nil) (by decide) rfl AA (.pure (by intro x e;cases e) (.deep (Ah Al) (.raw AA AA .nil))) (.same AA)).trans (Af (L:=[(6,CY)]) (.same AA))) (As (x:=.tmp 6) (off:=0) (cs:=(Te p)) (vs:=(Te p)) BE AA AA AA pj rfl _ ⟨AA,AA⟩))))
      have z:zA 1 (bm 11 1023) ⟨92,Aa [(6,CT),(90,.agg (LR p))],[CE,FF,DN p]⟩:=(b _ _ _).2 (by
       refine ya [10] ⟨?_,lU⟩
       ·refine yo 10 ?_;exact Am AI BE AA AA AA AA AA AA pj rfl (yd b t))
      have D:zA 2 (bm 11 511) ⟨92,Aa (ZM a [(88,.agg (Vw o)),(89,i64 p2)]),[CE,FF,DN a,DN o]⟩:=(b _ _ _).2 (by
       refine ya [9] ⟨?_,lU⟩
       ·refine yo 9 (AR (Rm (L:=[(6,CT),(82,ls Ar a.kids),(88,.agg (Vw o)),(89,i64 p2)]) (st':=[CE,FF,CE,DN o]) (id:=2) rfl pt (Go.Abs.JI Ey) ⟨.rfl,(.cI AA (λx=>MK x)),.agg ⟨.rfl,.rfl,.rfl,lU⟩,.rfl,lU⟩ AA) ?_);refine GH (rowsP:=[DN o]) (rows0:=[DN o]) (rows1:=[CE]) (rows2:=[DN p]) (rows1':=[CE]) (rows2':=[DN p]) (st':=[CE,FF,CE,CE,DN p]) (v':=(.agg (ND p))) [3] AI (hb 43) (La.R7 OF c3) rfl (by decide) rfl AA (.deep (Ah Al) .nil) rfl AA (.pure (by intro x e;cases e) .nil) (.deep (Ah Al) .nil) rfl AA ?_;exact ZZ b z (by exact AS [0,1,4] AA (by decide) rfl AA (.pure (by intro x e;cases e) (.raw AA AA (.deep (Ah Al) .nil))) (.same AA)))
      have f:zA 3 (bm 11 383) ⟨92,Aa (ZM a [(87,.ptr 3 0 (Int.toNat (Sh.w (1+h))) 0),(89,i64 p2)]),ez a s0⟩:=(b _ _ _).2 (by
       refine ya [7] ⟨?_,lU⟩
       ·refine yo 7 ?_;exact AR (Wk.gh (id:=3) (j:=Sh.w (1+h)) (q:=2) (c:=o) (ys:=o.kids) (encY:=(BS 35)) (y:=(fp o)) (y':=(ND o)) (st':=[CE,FF,DN a,⟨0,35,3,bz s0 (BS 35) 0 (LR a) (Sh.w (1+h)) (ND o)⟩,DN o]) rfl C (ak c2 E C) (Cx _) rfl AA AA AA) (zz (.agg (ND o)) (As BE AA AA (aX C) pj rfl) rfl (ZZ b D (by exact AS [0,1,2,4] AA (by decide) rfl AA (.pure (by intro x e;cases e) (.raw AA AA (.deep (Ah Al) (.deep (Ah Al) .nil)))) (.same AA)))))
      have u:zA 5 (bm 11 287) ⟨92,Aa (ZM a [(84,ow 3 0 s0),(85,i64 h),(89,i64 p2)]),ez a s0⟩:=(b _ _ _).2 (by
       refine ya [5] ⟨?_,lU⟩
       ·refine yo 5 ?_;refine zq tb AA (AF ⟨AA,?_⟩);refine Ib 6 (v:=(.ptr 3 0 (Int.toNat (Sh.w (1+h))) 0)) rfl (by kernel_rfl) (by kernel_rfl) (MB BU AA AA AA AA C) ?_;exact bC b f)
      have H:zA 6 (bm 11 279) ⟨92,Aa (ZM a [(83,.ptr 3 0 0 2),(85,i64 h),(89,i64 p2)]),[CE,FF,DN a,⟨0,35,3,[[i64 qX,i64 qn,ow 4 0 s0]]⟩,⟨0,35,3,hole s0 (BS 35) 0 (LR a)⟩]⟩:=(b _ _ _).2 (by
       refine ya [3,5] ⟨?_,?_,lU⟩
       ·refine yo 3 ?_;exact zq tb AA (ZZ b u (by exact AS [0,1,2,4] AA (by decide) rfl AA (.pure (by intro x e;cases e) (.raw AA AA (.deep (Ah Al) (.hol (Ah Al) (HO Fo) rfl AA .nil)))) (.same AA)))
       ·refine yo 5 (zq tb AA (AF ⟨AA,(IC tb 3 AA (by kernel_rfl) rfl (Ib 6 (v:=(.ptr 4 0 (Int.toNat (Sh.w (1+h))) 0)) rfl (by kernel_rfl) (by kernel_rfl) (MB BU AA AA AA AA C) ?_))⟩));exact yw b f (by exact AS [0,1,2,4] AA (by decide) rfl AA (.pure (by intro x e;cases e) (.raw AA AA (.deep (Ah Al) (.hol (Ah Al) (HO Fo) rfl AA .nil)))) (.same AA)))
      have I:zA 6 (bm 11 285) ⟨92,Aa [(6,CT),(81,.ptr 2 0 0 2),(84,ow 4 0 s0),(85,i64 h),(89,i64 p2)],[CE,FF,⟨0,35,3,[Vw a]⟩,DN a,cL s0 a]⟩:=(b _ _ _).2 (by
       refine ya [1,5] ⟨?_,?_,lU⟩
       ·refine yo 1 ?_;exact zq tb AA (ZZ b u (by exact Bq (L:=(ZM a [(84,ow 3 0 s0),(85,i64 h),(89,i64 p2)])) (st':=(ez a s0)) (st1:=[CE,FF,DN a,cL s0 a]) [0,1,3,4] AA (.pure (by intro x e;cases e) .nil) (by decide) rfl AA (.pure (by intro x e;cases e) (.raw AA AA (.deep (Ah Al) (.hol (Ah Al) (HO Fo) rfl AA .nil)))) (.same AA)))
       ·refine yo 5 (zq tb AA (AF ⟨AA,(IC tb 1 AA (by kernel_rfl) rfl (Ib 6 (v:=(.ptr 4 0 (Int.toNat (Sh.w (1+h))) 0)) rfl (by kernel_rfl) (by kernel_rfl) (MB BU AA AA AA AA C) ?_))⟩));exact yw b f (by exact Bq (L:=(ZM a [(87,.ptr 3 0 (Int.toNat (Sh.w (1+h))) 0),(89,i64 p2)])) (st':=(ez a s0)) (st1:=[CE,FF,DN a,cL s0 a]) [0,1,3,4] AA (.pure (by intro x e;cases e) .nil) (by decide) rfl AA (.pure (by intro x e;cases e) (.raw AA AA (.deep (Ah Al) (.hol (Ah Al) (HO Fo) rfl AA .nil)))) (.same AA)))
      have J:zA 7 (bm 11 277) ⟨92,Aa [(6,CT),(81,.ptr 2 0 0 2),(83,.ptr 4 0 0 2),(85,i64 h),(89,i64 p2)],[CE,FF,⟨0,35,3,[Vw a]⟩,DN a,⟨0,35,3,[[i64 qX,i64 qn,ow 5 0 s0]]⟩,cL s0 a]⟩:=(b _ _ _).2 (by
       refine ya [1,3,5] ⟨?_,?_,?_,lU⟩
       ·refine yo 1 ?_;exact zq tb AA (ZZ b H (by exact Bq (L:=(ZM a [(83,.ptr 3 0 0 2),(85,i64 h),(89,i64 p2)])) (st':=[CE,FF,DN a,⟨0,35,3,[[i64 qX,i64 qn,ow 4 0 s0]]⟩,⟨0,35,3,hole s0 (BS 35) 0 (LR a)⟩]) (st1:=[CE,FF,DN a,⟨0,35,3,[[i64 qX,i64 qn,ow 5 0 s0]]⟩,cL s0 a]) [0,1,3,4,5] AA (.pure (by intro x e;cases e) .nil) (by decide) rfl AA (.pure (by intro x e;cases e) (.raw AA AA (.deep (Ah Al) (.raw AA AA (.hol (Ah Al) (HO Fo) rfl AA .nil))))) (.same AA)))
       ·refine yo 3 ?_;exact zq tb AA (ZZ b I (by exact AS [0,1,2,3,5] AA (by decide) rfl AA (.pure (by intro x e;cases e) (.raw AA AA (.raw AA AA (.deep (Ah Al) (.hol (Ah Al) (HO Fo) rfl AA .nil))))) (.same AA)))
       ·refine yo 5 (zq tb AA (AF ⟨AA,(IC tb 1 AA (by kernel_rfl) rfl (IC tb 3 AA (by kernel_rfl) rfl (Ib 6 (v:=(.ptr 5 0 (Int.toNat (Sh.w (1+h))) 0)) rfl (by kernel_rfl) (by kernel_rfl) (MB BU AA AA AA AA C) ?_)))⟩));exact yw b f (by exact Bq (L:=(ZM a [(87,.ptr 3 0 (Int.toNat (Sh.w (1+h))) 0),(89,i64 p2)])) (st':=(ez a s0)) (st1:=[CE,FF,DN a,cL s0 a]) [0,1,3,5] AA (.pure (by intro x e;cases e) .nil) (by decide) rfl AA (.pure (by intro x e;cases e) (.raw AA AA (.deep (Ah Al) (.hol (Ah Al) (HO Fo) rfl AA .nil)))) (.same AA)))
      refine (b _ _ _).2 ?_;exact yw b J (by exact Bq (L:=[(6,CT),(81,.ptr 2 0 0 2),(83,.ptr 4 0 0 2),(85,i64 h),(89,i64 p2)]) (st':=[CE,FF,⟨0,35,3,[Vw a]⟩,DN a,⟨0,35,3,[[i64 qX,i64 qn,ow 5 0 s0]]⟩,cL s0 a]) (st1:=[CE,FF,⟨0,35,3,[ND a]⟩,DN a,U1 qX qn s0,⟨0,35,3,hole s0 (BS 35) 0 (ND a)⟩]) [0,3,5,4,2,1] AA (.pure (by intro x e;cases e) .nil) (by decide) rfl AA (.pure (by intro x e;cases e) (.raw AA AA (.raw AA AA (.deep (Ah Al) (.raw AA AA (.hol (Ah Al) (HO Fo) rfl AA .nil)))))) (.same AA))
     ·refine AK (Wk.take (id:=1) (m:=4) (j:=2) (i:=0) (c:=a) (ys:=a.kids) (encY:=(BS 35)) (x':=(fp a)) (st':=(jo s0 a qX qn [])) rfl E AA AA AA (by decide) px Ey AA AA) (AK (G6 (id:=1) (i:=0) (c:=a) (st':=[CE,Hm s0,U1 qX qn s0,FF,CE,⟨0,35,3,[ND a]⟩]) rfl E (Cx a).symm AA) ?_);exact AL (M3 () (Sh.AB d).symm _ (by refine Wk.trans (AS (L:=(Tt [])) (st':=[CE,Hm s0,U1 qX qn s0,FF]) [0,1,2,3] AA (by decide) rfl AA (.pure (by intro x e;cases e) (.deep (Ah Al) (.raw AA AA (.raw AA AA .nil)))) ⟨.rfl,.rfl,lU⟩) ?_;exact AJ AA))
    ·exact AL (M3 () (Sh.AB d).symm _ (AJ AA))
 refine zr tb AA AA ?_;refine ci A AA ?_ ?_<;>clear A<;>intro d2 A
 ·exact AL (M8 true (Sh.AB A).symm _ (Af (L:=((0,Cu p0)::(2,i64 p2)::Tt [(11,i64 qX),(12,.bool true)])) ⟨.rfl,.rfl,.rfl,.rfl,.rfl,.of (mc AV.bool d2),lU⟩))
 ·refine zr tb AA AA ?_;refine ci A AA ?_ ?_<;>clear A<;>intro d3 A
  ·exact AL (M8 true (Sh.AB A).symm _ (Af (L:=((0,Cu p0)::(2,i64 p2)::Tt [(11,i64 qX),(12,.bool true)])) ⟨.rfl,.rfl,.rfl,.rfl,.rfl,.of (mc AV.bool d3),lU⟩))
  ·refine zr tb AA AA ?_;refine ci A AA ?_ ?_<;>clear A<;>intro d4 A
   ·exact AL (M8 true (Sh.AB A).symm _ (Af (L:=((0,Cu p0)::(2,i64 p2)::Tt [(11,i64 qX),(12,.bool true)])) ⟨.rfl,.rfl,.rfl,.rfl,.rfl,.of (mc AV.bool d4),lU⟩))
   ·exact AH AA (zm tb 2 AA (AF (M8 (decide (qX=4)) (Sh.AB A).symm _ (AJ AA))))
theorem Uz {N:Nat}{qV:(List AN)}{qZ:(List Ac)}{s1:(List AE)}{wI wJ p1:Int}{r:AE}(h0:MF N qV qZ s1 wI wJ p1=some r):Ab Tryz.prog 35 [.agg [i64 wI,i64 wJ,ow 1 0 s1],i64 p1,BI] [G8 qV qZ,Hm s1] (λv st=>v=(.agg (LR r))/\st=[G8 qV qZ,CE,DN r]):=by
 unfold MF at h0;refine Ab.wk (r0:=(.agg (LR r))) (st0:=((G8 qV qZ)::CE::eC r [])) ?_ (Dg (L:=[(0,.agg (LR r))]) (st':=[G8 qV qZ,CE,DN r]) [0,1,2] AA (by decide) rfl AA (.raw AA (.pure (by intro x b;cases b) (.deep (Ah Al) lU))) (.same AA));refine ai Tryz.func35 AA AA AA AA (AK (Pq (L:=[(0,.agg [i64 wI,i64 wJ,ow 2 0 s1]),(1,i64 p1),(2,BI)]) (id:=1) (N:=2) (st':=[G8 qV qZ,CE,Hm s1]) rfl AA (.same AA) rfl) (sr AA λf c=>Bd (m:=3) AI AA AA AA AA AA (Av (m:=4) AI DE AA AA (dn c AA (sr AA λg d=>zm tb 4 AA (bs h0 λa e h0=>?_))))));refine GH (rowsP:=[Hm s1]) (rows0:=[Hm s1]) (rows1:=[CE]) (rows2:=[DN a]) (rows1':=[CE]) (rows2':=[DN a]) (st':=[G8 qV qZ,CE,CE,⟨0,35,3,[[i64 wI,i64 wJ,ow 2 0 s1]]⟩,FF,DN a]) (v':=(.agg (Wm a))) [2] AI (hb 36) (U0 e) rfl (by decide) rfl AA (.deep (Ah Al) .nil) rfl AA (.pure (by intro x b;cases b) .nil) (.deep (Ah Al) .nil) rfl AA ?_;refine Am AI BE AA AA AA AA AA AA pj rfl (dn d AA ?_);obtain rfl:=Sh.AB h0;exact Ao (Exists.intro _ (And.intro ((Bq (L:=[(5,Hd)]) (st':=((G8 qV qZ)::CE::eC a [])) (st1:=[G8 qV qZ,CE,DN a,⟨0,35,3,[Wm a]⟩]) [0,1,5,4] AA (.raw AA AA (.pure (by intro x b;cases b) .nil)) (by decide) rfl AA (.raw AA AA (.pure (by intro x b;cases b) (.deep (Ah Al) (.raw AA AA .nil)))) (.same AA)).trans (Af (L:=[(5,Hd)]) (.same AA))) (As (x:=.tmp 5) (off:=0) (cs:=(LR a)) (vs:=(LR a)) BE AA AA AA pj rfl _ ⟨AA,AA⟩)))
theorem Nd {N:Nat}{qj:(List AE)->(List AN)->(List Ac)->(List AN)->Int->Int->Int->Option (AE)}(rP :∀{s0:(List AE)} {qs:(List AN)} {qt:(List Ac)} {p0:(List AN)} {qX:Int} {qn:Int} {p2:Int} {r:AE},qj s0 qs qt p0 qX qn p2=some r->Ab Tryz.prog 56 [Cu p0,.agg [i64 qX,i64 qn,ow 0 0 s0],i64 p2,.fn 35 [CT]] [Hm s0,G8 qs qt] (λv st=>v=(.agg (LR r))/\st=[CE,G8 qs qt,DN r])){s0:(List AE)}{qs:(List AN)}{qt:(List Ac)}{p0:(List AN)}{qX qn p2:Int}{r:AE}(h0:HH N qj s0 qs qt p0 qX qn p2=some r):Ab Tryz.prog 56 [Cu p0,.agg [i64 qX,i64 qn,ow 0 0 s0],i64 p2,.fn 35 [CT]] [Hm s0,G8 qs qt] (λv st=>v=(.agg (LR r))/\st=[CE,G8 qs qt,DN r]):=by
 unfold HH at h0;refine Ab.wk (r0:=(.agg (LR r))) (st0:=(CE::(G8 qs qt)::eC r [])) ?_ (Dg (L:=[(0,.agg (LR r))]) (st':=[CE,G8 qs qt,DN r]) [0,1,2] AA (by decide) rfl AA (.pure (by intro x C;cases C) (.raw AA (.deep (Ah Al) lU))) (.same AA));refine ai Tryz.func56 AA AA AA AA (sr AA λK1 b0=>Bd (m:=2) AI AA AA AA AA AA (Av (m:=3) AI DE AA AA (dn b0 AA (AG λK2 b1=>sr AA λK3 b2=>zm tb 2 AA (zz (HB s0) (Cv R9 AA AA AA) rfl (zq tb AA (dn b2 AA (bs h0 λo7 z h0=>?_))))))));have M7:∀(H:(List AE)),o7=H->∀s,Wk 2 s ⟨67,Aa [(2,i64 p2),(3,.fn 35 [CT]),(5,CY),(8,Hd)],[Hm H,G8 qs qt,Pu qX qn H,FF]⟩->K2 s:=by
  intro H hq s I;subst o7;refine b1 _ (AK I (sr AA λK8 b3=>zm tb 3 AA (bs h0 λE b4 h0=>?_)));refine Wc (rowsP:=[G8 qs qt,Hm H]) (rows0:=[G8 qs qt,Hm H]) (rows1:=[G8 qs qt,CE]) (rows2:=[DN E]) (rows1':=[G8 qs qt,CE]) (rows2':=[DN E]) (st':=[CE,G8 qs qt,Pu qX qn H,FF,DN E]) (v':=(.agg (ND E))) [1,0] AI AA (hb 35) (Uz b4) rfl (by decide) rfl AA (.raw AA AA (.deep (Ah Al) .nil)) rfl AA (.raw AA AA (.pure (by intro x C;cases C) .nil)) (.deep (Ah Al) .nil) rfl AA ?_;refine Am AI BE AA AA AA AA AA AA pj rfl (dn b3 AA ?_);obtain rfl:=Sh.AB h0;exact Ao (Exists.intro _ (And.intro ((Bq (L:=[(8,Hd)]) (st':=(CE::(G8 qs qt)::eC E [])) (st1:=[CE,G8 qs qt,DN E,⟨0,35,3,[ND E]⟩]) [0,1,4,3] AA (.pure (by intro x C;cases C) (.raw AA AA .nil)) (by decide) rfl AA (.pure (by intro x C;cases C) (.raw AA AA (.deep (Ah Al) (.raw AA AA .nil)))) (.same AA)).trans (Af (L:=[(8,Hd)]) (.same AA))) (As (x:=.tmp 8) (off:=0) (cs:=(LR E)) (vs:=(LR E)) BE AA AA AA pj rfl _ ⟨AA,AA⟩)))
 refine AT (Ax (σ:=Int×(List AE)) (λn v=>Cp N s0 qs qt p0 qX qn p2 qj n v.1 v.2=some o7) (λ(d,h)=>⟨67,Aa [(0,ls Ak p0),(2,i64 p2),(3,.fn 35 [.ptr 1 0 0 0]),(5,.ptr 2 0 0 0),(8,.ptr 3 0 0 0),(13,i64 (Sh.len s0)),(14,i64 d)],[ro 0 35 3 (BS 35) h,G8 qs qt,⟨0,35,3,[[i64 qX,i64 qn,ow 0 0 h]]⟩,FF]⟩) N (0,s0) z (AJ AA) (λ_ hv=>by rw[Cp]at hv;cases hv) ?_);rintro n ⟨d,h⟩ z;rw[Cp]at z;refine zr tb AA AA (AG λc1 O=>?_);refine ci z AA ?_ ?_<;>clear z<;>intro c2 z
 ·refine AL (O _ (AG λc3 P=>AT ?_));iterate 2 refine zr tb rfl rfl ?_
  refine AG λb5 Q=>bs z λR y z=>?_;have J:∀(b:Int),R=b->∀s,Wk 2 s ⟨67,Aa (Ur p0 p2 ((5,CY)::(8,Hd)::(9,i64 d)::(10,i64 b)::Qs s0 d [])),[Hm h,G8 qs qt,Pu qX qn h,FF]⟩->b5 s:=by
   intro b hq s I;subst R;refine Q _ (AK I (IQ (by kernel_rfl) (bs z λa o z=>bs z λg F z=>KO λvH e=>?_)));have l:vH 0 (bm 14 16383) ⟨67,Aa (Ur p0 p2 ((5,CY)::(8,Hd)::Qs s0 d [])),[ro 0 35 3 (BS 35) (Sh.put h d g),G8 qs qt,⟨0,35,3,[[i64 qX,i64 qn,ow 0 0 (Sh.put h d g)]]⟩,FF]⟩:=(e _ _ _).2 (by
    exact Hr AA (by kernel_rfl) (P _ (AH AA (zm tb 2 AA (AF (xi (Sh.w (d+1),Sh.put h d g) z (Af (L:=(Ur p0 p2 [(5,CY),(8,Hd),(13,HB s0),(14,KW d)])) (.same AA))))))))
   have f:vH 1 (bm 14 8191) ⟨67,Aa (Ur p0 p2 ((5,Hd)::(8,Ls)::Qs s0 d [(60,.agg (Wm g)),(61,.ptr 0 0 (Int.toNat d) 0)])),bQ h d a qs qt [CE,Pu qX qn h,FF,DN g]⟩:=(e _ _ _).2 (by
    refine xa [13] ⟨?_,lU⟩
    ·refine xo 13 (dH (x':=(Wm g)) (st':=[⟨0,35,3,hole h (BS 35) d (Wm g)⟩,G8 qs qt,CE,Pu qX qn h,FF,DN g]) AI BE AA AA o AA AA AA pj rfl AA (AR (Wk.take (id:=0) (m:=5) (j:=2) (i:=d) (c:=a) (ys:=g.kids) (encY:=(BS 35)) rfl o AA AA AA (by decide) qB Ey AA AA) (AR (SW (id:=0) (i:=d) (u:=g) rfl (Cx g).symm AA) (AF ⟨AA,?_⟩))));exact Au (by refine Wk.trans (Af (L:=[(0,.sl (List.map Ak p0)),(2,i64 p2),(3,.fn 35 [.ptr 1 0 0 0]),(5,.ptr 3 0 0 0),(8,.ptr 4 0 0 0),(13,i64 (Sh.len s0)),(14,i64 d)]) (.same AA)) ?_;refine Wk.trans (Fc (st:=[⟨0,35,3,List.map (BS 35) (Sh.put h d g)⟩,⟨0,26,2,[[.sl (List.map Ak qs),.sl (List.map BO qt)]]⟩,⟨1,35,3,[]⟩,⟨0,35,3,[[i64 qX,i64 qn,.own 0 0 (List.length h)]]⟩,FF,⟨1,35,3,[]⟩]) (st':=[⟨0,35,3,List.map (BS 35) (Sh.put h d g)⟩,⟨0,26,2,[[.sl (List.map Ak qs),.sl (List.map BO qt)]]⟩,⟨1,35,3,[]⟩,⟨0,35,3,[[i64 qX,i64 qn,.own 0 0 (List.length (Sh.put h d g))]]⟩,FF,⟨1,35,3,[]⟩]) (by simp only[Sh.GX])) ?_;exact AS [0,1,3,4] AA (by decide) rfl AA (.deep (Ah Al) (.raw AA AA (.raw AA AA (.raw AA AA .nil)))) (.same AA)) (BH (by kernel_rfl) ((e _ _ _).1 l)) rfl)
   have k:vH 3 (bm 14 2047) ⟨67,Aa (Ur p0 p2 ((5,Hd)::(8,Ls)::Qs s0 d [(50,ow 0 0 h),(51,i64 d),(52,Cu p0),(57,.agg (LR a)),(58,i64 b),(59,.fn 35 [CT])])),bQ h d a qs qt [DN a,Pu qX qn h,FF]⟩:=(e _ _ _).2 (by
    refine xa [11] ⟨?_,lU⟩
    ·refine xo 11 ?_;refine GH (rowsP:=[DN a,G8 qs qt]) (rows0:=[DN a,G8 qs qt]) (rows1:=[CE,G8 qs qt]) (rows2:=[DN g]) (rows1':=[CE,G8 qs qt]) (rows2':=[DN g]) (st':=(bQ h d a qs qt [CE,Pu qX qn h,FF,DN g])) (v':=(.agg (Wm g))) [2,1] AI (hb 56) (rP F) rfl (by decide) rfl AA (.deep (Ah Al) (.raw AA AA .nil)) rfl AA (.pure (by intro x C;cases C) (.raw AA AA .nil)) (.deep (Ah Al) .nil) rfl AA ?_;refine AF ⟨AA,?_⟩;refine II 12 (v:=(.ptr 0 0 (Int.toNat d) 0)) rfl (by kernel_rfl) (by kernel_rfl) (MB BU AA AA AA AA o) ?_;exact xt e f)
   have p:vH 4 (bm 14 1791) ⟨67,Aa (Ur p0 p2 ((5,CY)::(8,Hd)::Qs s0 d [(50,ow 0 0 h),(51,i64 d),(52,Cu p0),(56,.ptr 0 0 (Int.toNat d) 0),(58,i64 b),(59,.fn 35 [CT])])),[Hm h,G8 qs qt,Pu qX qn h,FF]⟩:=(e _ _ _).2 (by
    refine xa [8] ⟨?_,lU⟩
    ·refine xo 8 ?_;exact AR (Gd (id:=0) (j:=2) (i:=d) (c:=a) (ys:=a.kids) (encY:=(BS 35)) rfl o (Cx _) rfl AA AA AA) (zz (.agg (ND a)) (As BE AA AA (FG o) pj rfl) rfl (OI e k (by exact LU (L:=(Ur p0 p2 ((5,Hd)::(8,Ls)::Qs s0 d [(50,ow 0 0 h),(51,i64 d),(52,Cu p0),(57,.agg (LR a)),(58,i64 b),(59,.fn 35 [CT])]))) (st':=(bQ h d a qs qt [DN a,Pu qX qn h,FF])) (st1:=[⟨0,35,3,hole h (BS 35) d (ND a)⟩,G8 qs qt,DN a,Pu qX qn h,FF]) [0,1,4,2,3] AA (by decide) rfl AA (.hol (Ah Al) (HO Fo) rfl AA (.raw AA AA (.deep (Ah Al) (.raw AA AA (.raw AA AA .nil))))) (.same AA)))))
   have q:vH 4 (bm 14 2045) ⟨67,Aa (Ur p0 p2 ((5,Hd)::(8,Ls)::Qs s0 d [(49,.ptr 3 0 0 2),(51,i64 d),(52,Cu p0),(57,.agg (LR a)),(58,i64 b),(59,.fn 35 [CT])])),bQ h d a qs qt [DN a,Pu qX qn h,FF]⟩:=(e _ _ _).2 (by
    refine xa [1,11] ⟨?_,?_,lU⟩
    ·exact xq tb e k
    ·refine xo 11 ?_;refine GH (rowsP:=[DN a,G8 qs qt]) (rows0:=[DN a,G8 qs qt]) (rows1:=[CE,G8 qs qt]) (rows2:=[DN g]) (rows1':=[CE,G8 qs qt]) (rows2':=[DN g]) (st':=(bQ h d a qs qt [CE,Pu qX qn h,FF,DN g])) (v':=(.agg (Wm g))) [2,1] AI (hb 56) (rP F) rfl (by decide) rfl AA (.deep (Ah Al) (.raw AA AA .nil)) rfl AA (.pure (by intro x C;cases C) (.raw AA AA .nil)) (.deep (Ah Al) .nil) rfl AA ?_;refine AF ⟨AA,?_⟩;refine BX tb 1 AA (by kernel_rfl) rfl ?_;refine II 12 (v:=(.ptr 0 0 (Int.toNat d) 0)) rfl (by kernel_rfl) (by kernel_rfl) (MB BU AA AA AA AA o) ?_;exact xt e f)
   have t:vH 5 (bm 14 1789) ⟨67,Aa (Ur p0 p2 ((5,CY)::(8,Hd)::Qs s0 d [(49,.ptr 2 0 0 2),(51,i64 d),(52,Cu p0),(56,.ptr 0 0 (Int.toNat d) 0),(58,i64 b),(59,.fn 35 [CT])])),[Hm h,G8 qs qt,Pu qX qn h,FF]⟩:=(e _ _ _).2 (by
    refine xa [1,8] ⟨?_,?_,lU⟩
    ·exact xq tb e p
    ·refine xo 8 ?_;exact AR (Gd (id:=0) (j:=2) (i:=d) (c:=a) (ys:=a.kids) (encY:=(BS 35)) rfl o (Cx _) rfl AA AA AA) (zz (.agg (ND a)) (As BE AA AA (FG o) pj rfl) rfl (OI e q (by exact LU (L:=(Ur p0 p2 ((5,Hd)::(8,Ls)::Qs s0 d [(49,.ptr 3 0 0 2),(51,i64 d),(52,Cu p0),(57,.agg (LR a)),(58,i64 b),(59,.fn 35 [CT])]))) (st':=(bQ h d a qs qt [DN a,Pu qX qn h,FF])) (st1:=[⟨0,35,3,hole h (BS 35) d (ND a)⟩,G8 qs qt,DN a,Pu qX qn h,FF]) [0,1,4,2,3] AA (by decide) rfl AA (.hol (Ah Al) (HO Fo) rfl AA (.raw AA AA (.deep (Ah Al) (.raw AA AA (.raw AA AA .nil))))) (.same AA)))))
   exact (e _ _ _).2 (BX tb 0 AA (by kernel_rfl) rfl (BX tb 2 AA (by kernel_rfl) rfl (BX tb 3 AA (by kernel_rfl) rfl (BX tb 4 AA (by kernel_rfl) rfl (BX tb 5 AA (by kernel_rfl) rfl (BX tb 6 AA (by kernel_rfl) rfl (II 7 (v:=(.ptr 0 0 (Int.toNat d) 0)) rfl (by kernel_rfl) (by kernel_rfl) (CB BU AA AA AA AA o) (BX tb 9 AA (by kernel_rfl) rfl (BX tb 10 AA (by kernel_rfl) rfl (xt e t))))))))))
  refine AT (AG λb6 S=>bs y λT D y=>?_);have U:∀(K:Bool),T=K->∀s,Wk 2 s ⟨67,Aa (Ur p0 p2 ((5,CY)::(8,Hd)::(9,i64 d)::(10,i64 p2)::Qs s0 d [(18,.bool K)])),[Hm h,G8 qs qt,Pu qX qn h,FF]⟩->b6 s:=by
   intro K hq s I;subst T;refine S _ (AK I ?_);refine ci y AA ?_ ?_<;>clear y<;>intro c4 y
   ·exact AH AA (zm tb 3 AA (AF (J (Sh.w (p2+1)) (Sh.AB y).symm _ (AJ AA))))
   ·refine AG λb7 V=>bs y λW D y=>?_;have X:∀(M:Bool),W=M->∀s,Wk 2 s ⟨67,Aa (Ur p0 p2 ((5,CY)::(8,Hd)::(9,i64 d)::(10,i64 p2)::Qs s0 d [(28,.bool M)])),[Hm h,G8 qs qt,Pu qX qn h,FF]⟩->b7 s:=by
     intro M hq s I;subst W;refine V _ (AK I ?_);refine ci y AA ?_ ?_<;>clear y<;>intro c5 y
     ·exact AH AA (zm tb 5 AA (bs y λb8 Y y=>CH (v':=(ow 4 0 b8)) AI (hb 66) (Lp Y) rfl AA ⟨(CL λ_=>AA),lU⟩ AA AA (zm tb 2 AA (bs y λb9 G y=>zz (.ptr 4 0 (Int.toNat (Sh.w (d-1))) 0) (CB BM AA AA AA AA G) rfl (zz (i64 b9) (CA HV AA AA (CW G) rfl) rfl (bs y λc0 Z y=>zc (hb 92) (Na Z) rfl AA AA (zl tb AA AA (zm tb 2 AA (AF (J (Sh.w (p2+(Sh.len c0))) (Sh.AB y).symm _ (AS [0,1,2,3] AA (by decide) rfl AA (.deep (Ah Al) (.raw AA AA (.raw AA AA (.raw AA AA .nil)))) (.same AA))))))))))))
     ·exact AL (J p2 (Sh.AB y).symm _ (AJ AA))
    refine AH AA (zm tb 4 AA ?_);rcases Sh.Aj D with ⟨A,D⟩|⟨A,D⟩
    ·exact zg tb A AA (zg tb A AA (zt A AA (zq tb AA (AF (X (decide (0<d)) (Sh.AB D).symm _ (AJ AA))))))
    ·exact zs A AA (zs A AA (zf A AA (zq tb AA (AF (X false (Sh.AB D).symm _ (AJ AA))))))
  refine AH AA (zm tb 4 AA ?_);rcases Sh.Aj D with ⟨B,D⟩|⟨B,D⟩
  ·exact zg tb B AA (zg tb B AA (zt B AA (zq tb AA (AF (U (decide (d=1)) (Sh.AB D).symm _ (AJ AA))))))
  ·exact zs B AA (zs B AA (zf B AA (zq tb AA (AF (U false (Sh.AB D).symm _ (AJ AA))))))
 ·exact Az (M7 h (Sh.AB z).symm _ (AJ AA))
theorem Nm {N:Nat}:∀(n:Nat),∀{s0:(List AE)} {qs:(List AN)} {qt:(List Ac)} {p0:(List AN)} {qX:Int} {qn:Int} {p2:Int} {r:AE},DR N n s0 qs qt p0 qX qn p2=some r->Ab Tryz.prog 56 [Cu p0,.agg [i64 qX,i64 qn,ow 0 0 s0],i64 p2,.fn 35 [CT]] [Hm s0,G8 qs qt] (λv st=>v=(.agg (LR r))/\st=[CE,G8 qs qt,DN r]):=by
 intro n
 induction n with
 | zero=>intro s0 qs qt p0 qX qn p2 r a;cases a
 | succ n ih=>
  intro s0 qs qt p0 qX qn p2 r a;rw[DR]at a;exact Nd (λh=>ih h) a
theorem Kf {N:Nat}:∀{s0:(List AE)} {qs:(List AN)} {qt:(List Ac)} {p0:(List AN)} {qX:Int} {qn:Int} {p2:Int} {r:AE},Jp N s0 qs qt p0 qX qn p2=some r->Ab Tryz.prog 56 [Cu p0,.agg [i64 qX,i64 qn,ow 0 0 s0],i64 p2,.fn 35 [CT]] [Hm s0,G8 qs qt] (λv st=>v=(.agg (LR r))/\st=[CE,G8 qs qt,DN r]):=by
 intro s0 qs qt p0 qX qn p2 r a;exact Nm N a
end Go.Proofs.YtihdgoiebmfapaaGreat
