import Derived.Test.YtihdgoiebmfapaaGreatNLWalkP2
set_option linter.all false
namespace Go.Proofs.YtihdgoiebmfapaaGreat
open Go Go.Abs RC
attribute [local irreducible] Go.Abs.EN
set_option maxRecDepth 100000
set_option maxHeartbeats 4000000
theorem XS:DB Tryz.prog 62=some ⟨4,1,1,[.bool false]⟩:=by kernel_rfl
theorem ka:Dd Tryz.prog 4=some (false,1):=by kernel_rfl
theorem ns:Dd Tryz.prog 62=some (false,1):=by kernel_rfl
theorem oT:II Tryz.prog 62=some [.zc]:=by kernel_rfl
theorem Mb {N:Nat}{tr:(List Int)->BO->AD->Option (Int)}(tz :∀{s0:List Int} {p0:BO} {p2:AD} {r:Int},tr s0 p0 p2=some r->Bd 81 [Kp p0,ow 0 0 s0,Bc p2] [BX s0] (i64 r) [BX s0]){s0:List Int}{p0:BO}{p2:AD}{r:Int}(h0:Al N tr s0 p0 p2=some r):Bd 81 [Kp p0,ow 0 0 s0,Bc p2] [BX s0] (i64 r) [BX s0]:=by
 unfold Al at h0;refine ai Tryz.func81 AA AA AA AA (sr AA λK1 q8=>Ef 1 AA (Ef 2 AA (AS AA (dn q8 AA (AE λK2 q9=>Ap AA (AK (Ap AA ?_)))))));refine ci h0 AA ?_ ?_<;>intro b5 h0
 .refine AE λK6 t0=>AE λK7 t1=>bs h0 λo9 d h0=>?_;have M9:∀t8,o9=t8->∀s,Wk 1 s ⟨194,AP [(1,ow 0 0 s0),(5,CJ),(36,.bool t8)],[BX s0,Pd p2.op p2.num p2.kids]⟩->K7 s:=by
   intro t8 hq s hw;subst o9;refine t1 _ (AG hw ?_);refine ci h0 AA ?_ ?_<;>intro w5 h0
   .refine Ap AA ?_;obtain rfl:=Sh.Bf h0;exact An (xr (AM (L:=[(6,i64 (-1))]) (st':=[BX s0]) [0] AA AA (.p .nil) ⟨.rfl,pA⟩))
   .refine AH (t0 _ (sr AA λw6 g5=>Ac 3 AA (bs h0 λg6 c5 h0=>zz (.ptr 0 0 (Int.toNat p2.num) 0) (CD BF AA AA AA AA c5) rfl (zz (i64 g6) (CG Hy AA AA (CS c5) rfl) rfl (AS AA (dn g5 AA ?_))))));obtain rfl:=Sh.Bf h0;exact An (xr (AM (L:=[(6,i64 g6)]) (st':=[BX s0]) [0] AA AA (.p .nil) ⟨.rfl,pA⟩))
  refine AF AA (Ac 2 AA (CZ AA (Ac 2 AA ?_)));rcases Sh.Ad d with ⟨T,d⟩|⟨T,d⟩
  .refine zs T AA (zs T AA (zs T AA (zt T AA (AS AA ?_))));iterate 5 refine zs rfl rfl ?_
   refine zt AA AA ?_;exact AB (M9 true (AT d) _ (AM [0,2] AA AA (.p (.w .nil)) (.same AA)))
  .refine Aw T AA (Aw T AA (Aw T AA (zf T AA (AS AA ?_))));rcases Sh.Ad d with ⟨O,d⟩|⟨O,d⟩
   .refine zs O AA ?_;iterate 4 refine zs O rfl ?_
    refine zt O AA ?_;exact AB (M9 true (AT d) _ (AM [0,2] AA AA (.p (.w .nil)) (.same AA)))
   .refine Aw O AA (Aw O AA (Aw O AA (BW (v:=HC s0) (CQ AA AA O) rfl (DD Gc AA AA AA) (Aw O AA (zf O AA ?_)))));exact AB (M9 (decide ((Sh.len s0)<=p2.num)) (AT d) _ (AM [0,2] AA AA (.p (.w .nil)) (.same AA)))
 .refine Ap AA ?_;refine ci h0 AA ?_ ?_<;>intro w7 h0
  .refine AE λw8 g7=>AE λt2 g8=>bs h0 λg9 d h0=>?_;have h2:∀d0,g9=d0->∀s,Wk 1 s ⟨194,AP [(1,ow 0 0 s0),(3,CJ),(5,CY),(52,.bool d0)],dF s0 p0 p2 []⟩->t2 s:=by
    intro d0 hq s hw;subst g9;refine g8 _ (AG hw ?_);refine ci h0 AA ?_ ?_<;>intro w9 h0
    .refine Ap AA ?_;cases h0;exact An (xr (AM (L:=[(6,i64 (-1))]) (st':=[BX s0]) [0] AA AA (.p .nil) ⟨.rfl,pA⟩))
    .refine AH (g7 _ (AE λA0 h3=>?_));refine CW (by kernel_rfl) (by kernel_rfl) (by rfl) ?_;iterate 4 refine yq tb rfl ?_
     refine bs h0 λt3 h4 h0=>yz (EP t3) (Cc BZ AA AA h4 (Af _) rfl) rfl (yq tb AA (bs h0 λg h5 h0=>?_));refine XC (rowsP:=[BX s0]) (rows0:=[BX s0]) (rows1:=[BX s0]) (rows1':=[BX s0]) (v':=i64 g) [0] AN (hb 81) (tz h5) rfl (by decide) rfl AA (.pure Bn .nil) rfl AA (.pure Bn .nil) rfl AA ?_;refine yq tb AA (As (h3 _ (AE λA1 h6=>Ap AA ?_)));refine ci h0 AA ?_ ?_<;>intro A2 h0
     .refine Ap AA ?_;cases h0;exact An (xr (AM (L:=[(6,i64 (-1))]) (st':=[BX s0]) [0] AA AA (.p .nil) ⟨.rfl,pA⟩))
     .refine AH (h6 _ (AE λA3 c6=>?_));refine ID (by kernel_rfl) ?_;refine bs h0 λf S h0=>bs h0 λh z h0=>bs h0 λb4 c7 h0=>AX.two (BX s0) (BX f) λyX zy a e=>?_;have p:zy 0 (bm 11 2047) ⟨194,AP [(6,i64 b4)],[BX f]⟩:=(e _ _ _).2 (by
       refine Gr AA (by kernel_rfl) ⟨⟨_,AA⟩,?_⟩;refine c6 _ ?_;obtain rfl:=Sh.Bf h0;exact An (Exists.intro _ (And.intro (Ag (L:=[(6,i64 b4)]) (.same AA)) (And.intro AA AA))))
      have b:zy 2 (bm 11 511) ⟨194,AP [(62,Kp p0),(66,ow 0 0 f),(70,Bc h)],[BX f]⟩:=(e _ _ _).2 (by
       refine xa [9] ⟨?_,pA⟩
       .refine xo 9 ?_;refine QV (rows0:=[BX f]) (rows1:=[BX f]) (st':=[BX f]) (v':=i64 b4) [0] AN (hb 81) (tz c7) rfl (by decide) rfl AA (.pure Bn .nil) rfl AA (.pure Bn .nil) .nil AA AA ?_;refine AB ⟨AA,?_⟩;refine FZ tb 10 AA AA ?_;exact xt e p)
      have P:zy 5 (bm 11 63) ⟨194,AP [(62,Kp p0),(66,ow 0 0 f),(67,.ptr 1 0 0 2)],[BX f,Pd p2.op p2.num p2.kids]⟩:=(e _ _ _).2 (by
       refine FZ tb 6 AA AA ?_;refine Ig 7 (v:=EP h) rfl (by kernel_rfl) (by kernel_rfl) (Cc BZ AA AA z (Af _) rfl) ?_;refine FZ tb 8 AA AA ?_;exact xw e b (by exact AM [0] AA AA (.p .nil) (.same AA)))
      have q:yX 0 (bm 11 2047) ⟨194,AP [(6,i64 b4)],[BX s0]⟩:=(a _ _ _).2 (by
       refine Gr AA (by kernel_rfl) ?_;refine c6 _ ?_;obtain rfl:=Sh.Bf h0;exact An (Exists.intro _ (And.intro (Ag (L:=[(6,i64 b4)]) (.same AA)) (And.intro AA AA))))
      have c:yX 2 (bm 11 511) ⟨194,AP [(62,Kp p0),(66,ow 1 0 f),(70,Bc h)],[BX s0,BX f]⟩:=(a _ _ _).2 (by
       refine xa [9] ⟨?_,pA⟩
       .refine xo 9 ?_;refine QV (rows0:=[BX f]) (rows1:=[BX f]) (st':=[BX s0,BX f]) (v':=i64 b4) [1] AN (hb 81) (tz c7) rfl (by decide) rfl AA (.pure Bn .nil) rfl AA (.pure Bn .nil) .nil AA AA ?_;refine AB ⟨AA,?_⟩;refine FZ tb 10 AA AA ?_;exact xw a q (by exact AM [0] AA AA (.p .nil) (.same AA)))
      have Q:yX 5 (bm 11 63) ⟨194,AP [(62,Kp p0),(66,ow 1 0 f),(67,.ptr 2 0 0 2)],[BX s0,BX f,Pd p2.op p2.num p2.kids]⟩:=(a _ _ _).2 (by
       refine FZ tb 6 AA AA ?_;refine Ig 7 (v:=EP h) rfl (by kernel_rfl) (by kernel_rfl) (Cc BZ AA AA z (Af _) rfl) ?_;refine FZ tb 8 AA AA ?_;exact xw a c (by exact AM [0,1] AA AA (.p (.p .nil)) (.same AA)))
      have C:zy 3 (bm 11 255) ⟨194,AP [(62,Kp p0),(66,ow 0 0 f),(69,EP h)],[BX f]⟩:=(e _ _ _).2 (by
       refine FZ tb 8 AA AA ?_;exact xt e b)
      have D:yX 3 (bm 11 255) ⟨194,AP [(62,Kp p0),(66,ow 1 0 f),(69,EP h)],[BX s0,BX f]⟩:=(a _ _ _).2 (by
       refine FZ tb 8 AA AA ?_;exact xt a c)
      have k:yX 3 (bm 11 495) ⟨194,AP [(62,Kp p0),(63,ow 0 0 s0),(65,ow 1 0 [g]),(70,Bc h)],[BX s0,Ta g]⟩:=(a _ _ _).2 (by
       refine xa [4] ⟨?_,pA⟩
       .refine Kw (l:=s0) (l2:=[g]) (l':=f) rfl AA BF (Ik Bn (λ_ hq=>nomatch hq)) rfl AA AA (HG AA AA) rfl (λ_=>AA) (λ_=>Bn) S ?_ ?_
        .exact xw e b (by exact AM [0] AA AA (.p .nil) (.same AA))
        .exact xw a c (by exact AM [0,2] AA AA (.p (.p .nil)) (.same AA)))
      have o:yX 4 (bm 11 239) ⟨194,AP [(62,Kp p0),(63,ow 0 0 s0),(65,ow 1 0 [g]),(69,EP h)],[BX s0,Ta g]⟩:=(a _ _ _).2 (by
       refine xa [4,8] ⟨?_,?_,pA⟩
       .refine Kw (l:=s0) (l2:=[g]) (l':=f) rfl AA BF (Ik Bn (λ_ hq=>nomatch hq)) rfl AA AA (HG AA AA) rfl (λ_=>AA) (λ_=>Bn) S ?_ ?_
        .exact xw e C (by exact AM [0] AA AA (.p .nil) (.same AA))
        .exact xw a D (by exact AM [0,2] AA AA (.p (.p .nil)) (.same AA))
       .exact xq tb a k)
      have G:yX 6 (bm 11 47) ⟨194,AP [(62,Kp p0),(63,ow 0 0 s0),(65,ow 1 0 [g]),(67,.ptr 2 0 0 2)],[BX s0,Ta g,Pd p2.op p2.num p2.kids]⟩:=(a _ _ _).2 (by
       refine xa [4,6] ⟨?_,?_,pA⟩
       .refine Kw (l:=s0) (l2:=[g]) (l':=f) rfl AA BF (Ik Bn (Ik (Ei AA) (λ_ hq=>nomatch hq))) rfl AA AA (HG AA AA) rfl (λ_=>AA) (λ_=>Bn) S ?_ ?_
        .exact xw e P (by exact AM [0,2] AA AA (.p (.w .nil)) (.same AA))
        .exact xw a Q (by exact AM [0,3,2] AA AA (.p (.p (.w .nil))) (.same AA))
       .refine xo 6 ?_;refine AS AA (AB ⟨AA,?_⟩);refine Ig 7 (v:=EP h) rfl (by kernel_rfl) (by kernel_rfl) (Cc BZ AA AA z (Af _) rfl) ?_;exact xw a o (by exact AM [0,1] AA AA (.p (.p .nil)) (.same AA)))
      have t:yX 4 (bm 11 487) ⟨194,AP [(62,Kp p0),(63,ow 0 0 s0),(64,i64 g),(70,Bc h)],[BX s0]⟩:=(a _ _ _).2 (by
       refine xa [3] ⟨?_,pA⟩
       .refine xo 3 ?_;refine CC 1 [g] eI BF AA ?_;exact xd a k)
      have A:yX 5 (bm 11 231) ⟨194,AP [(62,Kp p0),(63,ow 0 0 s0),(64,i64 g),(69,EP h)],[BX s0]⟩:=(a _ _ _).2 (by
       refine xa [3,8] ⟨?_,?_,pA⟩
       .refine xo 3 ?_;refine CC 1 [g] eI BF AA ?_;exact xd a o
       .exact xq tb a t)
      have b6:yX 7 (bm 11 39) ⟨194,AP [(62,Kp p0),(63,ow 0 0 s0),(64,i64 g),(67,.ptr 1 0 0 2)],[BX s0,Pd p2.op p2.num p2.kids]⟩:=(a _ _ _).2 (by
       refine xa [3,6] ⟨?_,?_,pA⟩
       .refine xo 3 ?_;refine CC 2 [g] eI BF AA ?_;exact QC a G (by exact AM [0,2,1] AA AA (.p (.p (.w .nil))) (.same AA))
       .refine xo 6 ?_;refine AS AA (AB ⟨AA,?_⟩);refine Ig 7 (v:=EP h) rfl (by kernel_rfl) (by kernel_rfl) (Cc BZ AA AA z (Af _) rfl) ?_;exact xw a A (by exact AM [0] AA AA (.p .nil) (.same AA)))
      have U:zy 6 (bm 11 62) ⟨194,AP [(3,CJ),(66,ow 0 0 f),(67,.ptr 2 0 0 2)],dF f p0 p2 []⟩:=(e _ _ _).2 (by
       refine FZ tb 0 AA AA ?_;refine FZ tb 6 AA AA ?_;refine Ig 7 (v:=EP h) rfl (by kernel_rfl) (by kernel_rfl) (Cc BZ AA AA z (Af _) rfl) ?_;refine FZ tb 8 AA AA ?_;exact xw e b (by exact AM [0] AA AA (.p .nil) (.same AA)))
      have V:yX 6 (bm 11 62) ⟨194,AP [(3,CJ),(66,ow 2 0 f),(67,.ptr 3 0 0 2)],[BX s0,MY p0,BX f,Pd p2.op p2.num p2.kids]⟩:=(a _ _ _).2 (by
       refine FZ tb 0 AA AA ?_;refine FZ tb 6 AA AA ?_;refine Ig 7 (v:=EP h) rfl (by kernel_rfl) (by kernel_rfl) (Cc BZ AA AA z (Af _) rfl) ?_;refine FZ tb 8 AA AA ?_;exact xw a c (by exact AM [0,2] AA AA (.p (.p .nil)) (.same AA)))
      have H:zy 4 (bm 11 254) ⟨194,AP [(3,CJ),(66,ow 0 0 f),(69,EP h)],[BX f,MY p0]⟩:=(e _ _ _).2 (by
       refine FZ tb 0 AA AA ?_;refine FZ tb 8 AA AA ?_;exact xw e b (by exact AM [0] AA AA (.p .nil) (.same AA)))
      have I:yX 4 (bm 11 254) ⟨194,AP [(3,CJ),(66,ow 2 0 f),(69,EP h)],[BX s0,MY p0,BX f]⟩:=(a _ _ _).2 (by
       refine FZ tb 0 AA AA ?_;refine FZ tb 8 AA AA ?_;exact xw a c (by exact AM [0,2] AA AA (.p (.p .nil)) (.same AA)))
      have E:zy 3 (bm 11 510) ⟨194,AP [(3,CJ),(66,ow 0 0 f),(70,Bc h)],[BX f,MY p0]⟩:=(e _ _ _).2 (by
       refine FZ tb 0 AA AA ?_;exact xw e b (by exact AM [0] AA AA (.p .nil) (.same AA)))
      have F:yX 3 (bm 11 510) ⟨194,AP [(3,CJ),(66,ow 2 0 f),(70,Bc h)],[BX s0,MY p0,BX f]⟩:=(a _ _ _).2 (by
       refine FZ tb 0 AA AA ?_;exact xw a c (by exact AM [0,2] AA AA (.p (.p .nil)) (.same AA)))
      have x:yX 4 (bm 11 494) ⟨194,AP [(3,CJ),(63,ow 0 0 s0),(65,ow 2 0 [g]),(70,Bc h)],[BX s0,MY p0,Ta g]⟩:=(a _ _ _).2 (by
       refine xa [0,4] ⟨?_,?_,pA⟩
       .refine xo 0 ?_;exact AS AA (QC a k (by exact AM [0,2] AA AA (.p (.p .nil)) (.same AA)))
       .refine Kw (l:=s0) (l2:=[g]) (l':=f) rfl AA BF (Ik (Ei AA) (Ik Bn (λ_ hq=>nomatch hq))) rfl AA AA (HG AA AA) rfl (λ_=>AA) (λ_=>Bn) S ?_ ?_
        .exact xw e E (by exact AM [0,1] AA AA (.p (.w .nil)) (.same AA))
        .exact xw a F (by exact AM [0,1,3] AA AA (.p (.w (.p .nil))) (.same AA)))
      have B:yX 5 (bm 11 238) ⟨194,AP [(3,CJ),(63,ow 0 0 s0),(65,ow 2 0 [g]),(69,EP h)],[BX s0,MY p0,Ta g]⟩:=(a _ _ _).2 (by
       refine xa [0,4,8] ⟨?_,?_,?_,pA⟩
       .refine xo 0 ?_;exact AS AA (QC a o (by exact AM [0,2] AA AA (.p (.p .nil)) (.same AA)))
       .refine Kw (l:=s0) (l2:=[g]) (l':=f) rfl AA BF (Ik (Ei AA) (Ik Bn (λ_ hq=>nomatch hq))) rfl AA AA (HG AA AA) rfl (λ_=>AA) (λ_=>Bn) S ?_ ?_
        .exact xw e H (by exact AM [0,1] AA AA (.p (.w .nil)) (.same AA))
        .exact xw a I (by exact AM [0,1,3] AA AA (.p (.w (.p .nil))) (.same AA))
       .exact xq tb a x)
      have b7:yX 7 (bm 11 46) ⟨194,AP [(3,CJ),(63,ow 0 0 s0),(65,ow 2 0 [g]),(67,.ptr 3 0 0 2)],[BX s0,MY p0,Ta g,Pd p2.op p2.num p2.kids]⟩:=(a _ _ _).2 (by
       refine xa [0,4,6] ⟨?_,?_,?_,pA⟩
       .refine xo 0 ?_;exact AS AA (QC a G (by exact AM [0,2,3] AA AA (.p (.p (.w .nil))) (.same AA)))
       .refine Kw (l:=s0) (l2:=[g]) (l':=f) rfl AA BF (Ik (Ei AA) (Ik Bn (Ik (Ei AA) (λ_ hq=>nomatch hq)))) rfl AA AA (HG AA AA) rfl (λ_=>AA) (λ_=>Bn) S ?_ ?_
        .exact xw e U (by exact AM [0,1,3] AA AA (.p (.w (.w .nil))) (.same AA))
        .exact xw a V (by exact AM [0,1,4,3] AA AA (.p (.w (.p (.w .nil)))) (.same AA))
       .refine xo 6 ?_;refine AS AA (AB ⟨AA,?_⟩);refine Ig 7 (v:=EP h) rfl (by kernel_rfl) (by kernel_rfl) (Cc BZ AA AA z (Af _) rfl) ?_;exact xw a B (by exact AM [0,1,2] AA AA (.p (.w (.p .nil))) (.same AA)))
      have Y:yX 5 (bm 11 486) ⟨194,AP [(3,CJ),(63,ow 0 0 s0),(64,i64 g),(70,Bc h)],[BX s0,MY p0]⟩:=(a _ _ _).2 (by
       refine xa [0,3] ⟨?_,?_,pA⟩
       .refine xo 0 ?_;exact AS AA (QC a t (by exact AM [0] AA AA (.p .nil) (.same AA)))
       .refine xo 3 ?_;refine CC 2 [g] eI BF AA ?_;exact xd a x)
      have b1:yX 6 (bm 11 230) ⟨194,AP [(3,CJ),(63,ow 0 0 s0),(64,i64 g),(69,EP h)],[BX s0,MY p0]⟩:=(a _ _ _).2 (by
       refine xa [0,3,8] ⟨?_,?_,?_,pA⟩
       .refine xo 0 ?_;exact AS AA (QC a A (by exact AM [0] AA AA (.p .nil) (.same AA)))
       .refine xo 3 ?_;refine CC 2 [g] eI BF AA ?_;exact xd a B
       .exact xq tb a Y)
      have b9:yX 8 (bm 11 38) ⟨194,AP [(3,CJ),(63,ow 0 0 s0),(64,i64 g),(67,.ptr 2 0 0 2)],dF s0 p0 p2 []⟩:=(a _ _ _).2 (by
       refine xa [0,3,6] ⟨?_,?_,?_,pA⟩
       .refine xo 0 ?_;exact AS AA (QC a b6 (by exact AM [0,2] AA AA (.p (.w .nil)) (.same AA)))
       .refine xo 3 ?_;refine CC 3 [g] eI BF AA ?_;exact QC a b7 (by exact AM [0,1,3,2] AA AA (.p (.w (.p (.w .nil)))) (.same AA))
       .refine xo 6 ?_;refine AS AA (AB ⟨AA,?_⟩);refine Ig 7 (v:=EP h) rfl (by kernel_rfl) (by kernel_rfl) (Cc BZ AA AA z (Af _) rfl) ?_;exact xw a b1 (by exact AM [0,1] AA AA (.p (.w .nil)) (.same AA)))
      refine (a _ _ _).2 ?_;refine FZ tb 1 AA AA ?_;refine FZ tb 2 AA AA ?_;refine FZ tb 5 AA AA ?_;exact xt a b9
   refine AF AA (Ac 2 AA (CZ AA (Ac 2 AA ?_)));rcases Sh.Ad d with ⟨W,d⟩|⟨W,d⟩
   .exact zs W AA (zs W AA (zs W AA (zt W AA (AB (h2 true (AT d) _ Ao)))))
   .exact Aw W AA (Aw W AA (Aw W AA (zf W AA (AB (h2 (!decide (p2.num=0)) (AT d) _ Ao)))))
  .refine Ap AA ?_;refine ci h0 AA ?_ ?_<;>intro A4 h0
   .refine AE λA5 h7=>AE λt4 h8=>bs h0 λh9 d h0=>?_;have d1:∀d2,h9=d2->∀s,Wk 1 s ⟨194,AP [(1,ow 0 0 s0),(3,CJ),(5,CY),(92,.bool d2)],dF s0 p0 p2 []⟩->t4 s:=by
     intro d2 hq s hw;subst h9;refine h8 _ (AG hw ?_);refine ci h0 AA ?_ ?_<;>intro A6 h0
     .refine Ap AA ?_;obtain rfl:=Sh.Bf h0;exact An (xr (AM (L:=[(6,i64 (-1))]) (st':=[BX s0]) [0] AA AA (.p .nil) ⟨.rfl,pA⟩))
     .refine AH (h7 _ (AE λA7 k0=>?_));refine CI 7 (by kernel_rfl) (by kernel_rfl) (by rfl) ?_;iterate 4 refine yq tb rfl ?_
      refine bs h0 λA8 k1 h0=>eQ (i:=1) (j:=Sh.len p2.kids) AN BZ AA AA AA DY k1 (bs h0 λA9 k2 h0=>oG (enc:=eS eI) (u:=[]) AN OI AA AA AA k2 Bn (bs h0 λk3 k4 h0=>dG (v':=i64 k3) AN (hb 112) (Jb tz k4) rfl (.val AA (.own AA AA (λ_=>AA) (.val AA (.val AA .nil)))) rfl AA (As (AS AA (dn k0 AA ?_)))));obtain rfl:=Sh.Bf h0;exact An (xr (AM (L:=[(6,i64 k3)]) (st':=[BX s0]) [0] AA AA (.p .nil) ⟨.rfl,pA⟩))
    refine CW (by kernel_rfl) (by kernel_rfl) (by rfl) ?_;iterate 2 refine yq tb rfl ?_
    refine yl tb AA AA ?_;iterate 2 refine yq tb rfl ?_
    rcases Sh.Ad d with ⟨b2,d⟩|⟨b2,d⟩
    .refine ys b2 AA ?_;iterate 2 refine ys b2 rfl ?_
     refine yt b2 AA (yq tb AA ?_);iterate 8 refine ys rfl rfl ?_
     exact yt AA AA (As (d1 true (AT d) _ Ao))
    .refine yg tb b2 AA ?_;iterate 2 refine yg tb b2 rfl ?_
     refine yf b2 AA (yq tb AA ?_);rcases Sh.Ad d with ⟨J,d⟩|⟨J,d⟩
     .refine ys J AA ?_;iterate 7 refine ys J rfl ?_
      exact yt J AA (As (d1 true (AT d) _ Ao))
     .refine yg tb J AA ?_;iterate 3 refine yg tb J rfl ?_
      refine bs d λt5 k5 d=>H3 (v:=EP t5) (CQ AA AA J) rfl (Cc BZ AA AA k5 (Af _) rfl) (yg tb J AA (bs d λk6 k7 d=>?_));refine XC (rowsP:=[BX s0]) (rows0:=[BX s0]) (rows1:=[BX s0]) (rows1':=[BX s0]) (v':=i64 k6) [0] (CQ AA AA J) (hb 81) (tz k7) rfl (by decide) rfl AA (.pure Bn .nil) rfl AA (.pure Bn .nil) rfl AA ?_;exact yg tb J AA (yf J AA (As (d1 (!decide (k6=0)) (AT d) _ Ao)))
   .refine Ap AA ?_;refine ci h0 AA ?_ ?_<;>intro B0 h0
    .refine sr AA λB1 k8=>Ac 4 AA (bs h0 λy k9 h0=>Bo (v':=ow 3 0 y) AN (hb 66) (Py k9) rfl AA ⟨(Bq λ_=>AA),pA⟩ AA AA (AS AA (dn k8 AA (AE λB2 l0=>AE λt6 l1=>bs h0 λl3 d h0=>?_))));have d3:∀d4,l3=d4->∀s,Wk 1 s ⟨194,AP [(1,ow 0 0 s0),(3,CJ),(5,CY),(8,ow 3 0 y),(130,.bool d4)],dF s0 p0 p2 [BX y]⟩->t6 s:=by
      intro d4 hq s hw;subst l3;refine l1 _ (AG hw ?_);refine ci h0 AA ?_ ?_<;>intro B3 h0
      .refine Ap AA ?_;cases h0;exact An (xr (AM (L:=[(6,i64 (-1))]) (st':=[BX s0]) [0] AA AA (.p .nil) ⟨.rfl,pA⟩))
      .refine AH (l0 _ (sr AA λB4 l4=>AS AA (zz (HC y) (DD Gc AA AA AA) rfl (bs h0 λt7 l5 h0=>UU (m:=4) (enc:=eS eI) (u:=[]) AN OI AA AA AA l5 AA AA (AS AA (dn l4 AA (AE λt9 l6=>sr AA λB5 l7=>AS AA (zz (HC y) (DD Gc AA AA AA) rfl ?_))))))));refine AS AA (dn l7 AA (bs h0 λd5 d h0=>?_));have v0:∀c4,d5=c4->∀s,Wk 1 s ⟨194,AP [(1,ow 0 0 s0),(3,CJ),(5,CY),(9,ow 3 0 c4)],dF s0 p0 p2 [ro 0 32 1 (eS eI) c4]⟩->t9 s:=by
        intro c4 hq s hw;subst d5;try dsimp only at h0
        refine l6 _ (AG hw (AE λB6 l8=>?_));refine CI 7 (by kernel_rfl) (by kernel_rfl) (by rfl) ?_;iterate 4 refine yq tb rfl ?_
        refine bs h0 λB7 l9 h0=>eQ (i:=1) (j:=Sh.len p2.kids) AN BZ AA AA AA DY l9 (yq tb AA (bs h0 λm0 m1 h0=>dG (v':=i64 m0) AN (hb 112) (Jb tz m1) rfl (.val AA (.own AA AA (λ_=>AA) (.val AA (.own AA AA (λ_=>AA) .nil)))) rfl AA (As (AS AA (dn l8 AA ?_)))));obtain rfl:=Sh.Bf h0;exact An (xr (AM (L:=[(6,i64 m0)]) (st':=[BX s0]) [0] AA AA (.p .nil) ⟨.rfl,pA⟩))
       refine AK (Am (σ:=Int×(List (List Int))) (λn v=>CB N p0 y n v.1 v.2=some d5) (λ(Z,b8)=>⟨194,AP [(1,ow 0 0 s0),(3,.ptr 1 0 0 0),(5,.ptr 2 0 0 0),(9,ow 4 0 b8),(134,ow 3 0 y),(135,i64 (Sh.len y)),(136,i64 Z)],[ro 0 3 1 eI s0,⟨0,99,2,[Gy p0]⟩,Pd p2.op p2.num p2.kids,ro 0 3 1 eI y,ro 0 32 1 (eS eI) b8]⟩) N (0,t7) d Ao (λ_ hv=>by rw[CB]at hv;cases hv) ?_);rintro n ⟨Z,b8⟩ d;rw[CB]at d;refine Ap AA (AE λB8 m2=>?_);refine ci d AA ?_ ?_<;>intro B9 d
       .refine AH (m2 _ (AE λC0 m3=>AK (sr AA λC1 m4=>AS AA (bs d λv1 c8 d=>zz (.ptr 3 0 (Int.toNat Z) 0) (CD BF AA AA AA AA c8) rfl (zz (i64 v1) (CG Hy AA AA (CS c8) rfl) rfl (Ac 2 AA (dn m4 AA (AF AA (Ac 5 AA ?_)))))))));refine bs d λd6 m5 d=>Gs (hb 92) (Ny m5) rfl (bs d λC2 c9 d=>zz (dL Z) (CD OI AA AA AA AA c9) rfl (JZ (u':=d6) AN LS AA AA c9 AA AA AA tR rfl AA (dn m3 AA (AF AA (Ac 2 AA ?_)))));exact AB (xi (Sh.w (Z+1),Sh.put b8 Z d6) d (Ag (L:=[(1,.own 0 0 (List.length s0)),(3,.ptr 1 0 0 0),(5,.ptr 2 0 0 0),(9,.own 4 0 (List.length (Sh.put b8 Z d6))),(134,.own 3 0 (List.length y)),(135,i64 (Sh.len y)),(136,i64 (Sh.w (Z+1)))]) ⟨.rfl,.rfl,.rfl,(.len (by simp only[Sh.GS])),.rfl,.rfl,.rfl,pA⟩))
       .exact Av (v0 b8 (AT d) _ (AM [0,1,2,4] AA AA (.p (.w (.w (.p .nil)))) (.same AA)))
     refine CW (by kernel_rfl) (by kernel_rfl) (by rfl) ?_;refine yq tb AA (yz (HC y) (DD Gc AA AA AA) rfl ?_);iterate 2 refine yq tb rfl ?_
     rcases Sh.Ad d with ⟨K,d⟩|⟨K,d⟩
     .refine ys K AA ?_;iterate 6 refine ys K rfl ?_
      refine yt K AA (yq tb AA ?_);iterate 10 refine ys rfl rfl ?_
      exact yt AA AA (As (d3 true (AT d) _ Ao))
     .refine yg tb K AA (yg tb K AA (H3 (v:=aP p2) (CQ AA AA K) rfl (CU Ub AA) (yg tb K AA (H3 (v:=HC y) (CQ AA AA K) rfl (DD Gc AA AA AA) ?_))));iterate 2 refine yg tb K rfl ?_
      refine yf K AA (yq tb AA ?_);rcases Sh.Ad d with ⟨M,d⟩|⟨M,d⟩
      .refine ys M AA ?_;iterate 9 refine ys M rfl ?_
       exact yt M AA (As (d3 true (AT d) _ Ao))
      .refine yg tb M AA ?_;iterate 3 refine yg tb M rfl ?_
       refine bs d λv2 m6 d=>H3 (v:=EP v2) (CQ AA AA M) rfl (Cc BZ AA AA m6 (Af _) rfl) (yg tb M AA (bs d λm7 m8 d=>?_));refine XC (rowsP:=[BX s0]) (rows0:=[BX s0]) (rows1:=[BX s0]) (rows1':=[BX s0]) (v':=i64 m7) [0] (CQ AA AA M) (hb 81) (tz m8) rfl (by decide) rfl AA (.pure Bn .nil) rfl AA (.pure Bn .nil) rfl AA ?_;iterate 3 refine yg tb M rfl ?_
       exact yf M AA (As (d3 (!decide (m7=p2.num)) (AT d) _ Ao))
    .refine AH (q9 _ (sr AA λC3 m9=>Ac 2 AA (CZ AA (bs h0 λv3 q0 h0=>UU (m:=3) (enc:=eI) (u:=0) AN BF AA AA AA q0 AA AA (AS AA (dn m9 AA (AE λv4 q1=>sr AA λC4 q2=>Ac 2 AA (CZ AA ?_))))))));refine AS AA (dn q2 AA ?_);obtain⟨d7,d,h0⟩:=Sh.Bi h0;have v5:∀(c0:List Int),d7=Sum.inr c0->∀s,Wk 1 s ⟨194,AP [(3,CJ),(5,CY),(12,ow 3 0 c0)],dF s0 p0 p2 [BX c0]⟩->v4 s:=by
      intro c0 hq s hw;subst d7;refine q1 _ (AG hw (sr AA λC5 q3=>Ac 6 AA (Ea [(182,.agg (Gy p0)),(184,i64 p2.op),(186,i64 p2.num),(187,ls eI c0)] [ro 0 3 1 eI s0,⟨0,99,2,[Gy p0]⟩,Pd p2.op p2.num p2.kids,⟨1,3,1,[]⟩] 3 AA ⟨.rfl,.rfl,.rfl,.BY AA,pA⟩ (λ_=>AA) rfl (bs h0 λc1 q4 h0=>Df (.DF [i64 c1.1,.bool c1.2]) (hb 113) (Ly q4) rfl (Ac 5 AA (dn q3 AA (AE λC6 q5=>Ap AA ?_)))))));refine ci h0 AA ?_ ?_<;>intro q6 h0
      .have C7:c1.2=false:=by simpa using q6
       refine Ap AA ?_;cases h0;exact An (xr (AM (L:=[(6,i64 (-1))]) (st':=[BX s0]) [0] AA AA (.p .nil) ⟨.rfl,pA⟩))
      .have v6:c1.2=true:=by simpa using q6
       refine AH (q5 _ (Ap AA ?_));cases h0;exact An (xr (AM (L:=[(6,i64 c1.1)]) (st':=[BX s0]) [0] AA AA (.p .nil) ⟨.rfl,pA⟩))
     refine AK (Am (σ:=Int×(List Int)) (λn v=>CA s0 p0 p2 tr n v.1 v.2=some d7) (λ(R,X)=>⟨194,AP [(1,ow 0 0 s0),(3,.ptr 1 0 0 0),(5,.ptr 2 0 0 0),(12,ow 3 0 X),(161,ls Ar p2.kids),(162,i64 (Sh.len p2.kids)),(163,i64 R)],[ro 0 3 1 eI s0,⟨0,99,2,[Gy p0]⟩,Pd p2.op p2.num p2.kids,ro 0 3 1 eI X]⟩) N (0,v3) d Ao (λ_ hv=>by rw[CA]at hv;cases hv) ?_);rintro n ⟨R,X⟩ d;rw[CA]at d;refine Ap AA (AE λv7 d8=>?_);refine ci d AA ?_ ?_<;>intro v8 d
     .refine AH (d8 _ (AE λv9 d9=>AK (sr AA λw0 g0=>AS AA (bs d λb3 g1 d=>zz (EP b3) (Cc BZ AA AA g1 (Af _) rfl) rfl (AS AA (DE 4 De AA (AS AA (Bw BI AA (dn g0 AA ?_)))))))));refine sr AA λw1 g2=>Ac 5 AA (bs d λb0 g3 d=>?_);refine QV (rows0:=[BX s0]) (rows1:=[BX s0]) (st':=dF s0 p0 p2 [BX X,Pd b3.op b3.num b3.kids]) (v':=i64 b0) [0] AN (hb 81) (tz g3) rfl (by decide) rfl AA (.pure Bn .nil) rfl AA (.pure Bn .nil) .nil AA AA ?_;refine bs d λw2 c2 d=>zz (.ptr 3 0 (Int.toNat R) 0) (CD BF AA AA AA AA c2) rfl (JZ (u':=b0) AN Hy AA AA c2 AA AA AA tR rfl AA (dn g2 AA (sr AA λw3 g4=>Ac 2 AA (bs d λq7 c3 d=>?_))));refine zz (.ptr 3 0 (Int.toNat R) 0) (CD BF AA AA AA (by simp only[Sh.GS]) c3) rfl ?_;refine zz (i64 q7) (CG Hy AA AA (CS c3) rfl) rfl (AS AA (dn g4 AA ?_));refine ci d AA ?_ ?_<;>intro w4 d
      .refine Ap AA ?_;cases d;cases h0;exact An (xr (AM (L:=[(6,i64 (-1))]) (st':=[BX s0]) [0] AA AA (.p .nil) ⟨.rfl,pA⟩))
      .refine AH (d9 _ (AF AA (Ac 2 AA ?_)));exact AB (xi (Sh.w (R+1),Sh.put X R b0) d (by refine Wk.trans (AM (L:=[(1,.own 0 0 (List.length s0)),(3,.ptr 1 0 0 0),(5,.ptr 2 0 0 0),(12,.own 3 0 (List.length X)),(161,.sl (List.map Ar p2.kids)),(162,i64 (Sh.len p2.kids)),(163,i64 (Sh.w (R+1)))]) (st':=[⟨0,3,1,List.map eI s0⟩,⟨0,99,2,[Gy p0]⟩,⟨0,35,3,[[i64 p2.op,i64 p2.num,.sl (List.map Ar p2.kids)]]⟩,⟨0,3,1,List.map eI (Sh.put X R b0)⟩]) [0,1,2,3] AA AA (.p (.w (.w (.p .nil)))) ⟨.rfl,.rfl,.rfl,.rfl,.rfl,.rfl,.rfl,pA⟩) ?_;exact Ag (L:=[(1,.own 0 0 (List.length s0)),(3,.ptr 1 0 0 0),(5,.ptr 2 0 0 0),(12,.own 3 0 (List.length (Sh.put X R b0))),(161,.sl (List.map Ar p2.kids)),(162,i64 (Sh.len p2.kids)),(163,i64 (Sh.w (R+1)))]) ⟨.rfl,.rfl,.rfl,(.len (by simp only[Sh.GS])),.rfl,.rfl,.rfl,pA⟩))
     .exact Av (v5 X (AT d) _ Ao)
theorem MW {N:Nat}:∀(n:Nat),∀{s0:List Int} {p0:BO} {p2:AD} {r:Int},Ba N n s0 p0 p2=some r->Bd 81 [Kp p0,ow 0 0 s0,Bc p2] [BX s0] (i64 r) [BX s0]:=by
 intro n
 induction n with
 |zero=>intro s0 p0 p2 r a;cases a
 |succ n ih=>
  intro s0 p0 p2 r a;rw[Ba]at a;exact Mb (λh=>ih h) a
theorem NR {N:Nat}:∀{s0:List Int} {p0:BO} {p2:AD} {r:Int},IU N s0 p0 p2=some r->Bd 81 [Kp p0,ow 0 0 s0,Bc p2] [BX s0] (i64 r) [BX s0]:=by
 intro s0 p0 p2 r a;exact MW N a
theorem WD {N:Nat}{p0:AJ}{p1:List Int}{p2:AD}{r:Int}(h0:NC N p0 p1 p2=some r):Bd 48 (YW p0 p1 p2) [] (i64 r) []:=by
 unfold NC at h0;refine ai Tryz.func48 AA AA AA AA (sr AA λJ x=>Ef 0 AA (Ef 1 AA (AS AA (dn x AA (AE λK y=>AE λF z=>bs h0 λE g h0=>?_)))));have A:∀B,E=B->∀s,Wk 0 s ⟨28,AP [(1,ls eI p1),(3,BG),(5,CJ),(21,.bool B)],[HM p0.decls p0.funcs,Pd p2.op p2.num p2.kids]⟩->F s:=by
  intro B hq s G;subst E;refine z _ (AG G ?_);refine ci h0 AA ?_ ?_<;>intro M h0
  .refine Ap AA ?_;cases h0;exact rd [(6,i64 (-1))]
  .refine AH (y _ (AE λO C=>?_));refine ID (by kernel_rfl) ?_;refine bs h0 λo p h0=>bs h0 λh l h0=>bs h0 λn q h0=>Kv λA12 a=>?_;have e:A12 0 (bm 7 127) ⟨28,AP [(6,i64 n)],[]⟩:=(a _ _ _).2 (by
    refine Gr AA (by kernel_rfl) ?_;refine C _ ?_;obtain rfl:=Sh.Bf h0;exact An (Exists.intro _ (And.intro (Ag (L:=[(6,i64 n)]) (.same AA)) (And.intro AA AA))))
   have b:A12 2 (bm 7 31) ⟨28,AP [(23,Kp o),(25,ow 0 0 h),(26,Bc p2)],[BX h]⟩:=(a _ _ _).2 (by
    refine xa [5] ⟨?_,pA⟩
    .refine xo 5 ?_;refine QV (rows0:=[BX h]) (rows1:=[BX h]) (st':=[BX h]) (v':=i64 n) [0] AN (hb 81) (NR q) rfl (by decide) rfl AA (.pure Bn .nil) rfl AA (.pure Bn .nil) .nil AA AA ?_;refine AB ⟨AA,?_⟩;refine FZ tb 6 AA AA ?_;exact xw a e (by exact AM [] AA AA .nil (.same AA)))
   have d:A12 3 (bm 7 23) ⟨28,AP [(23,Kp o),(24,ls eI p1),(26,Bc p2)],[]⟩:=(a _ _ _).2 (by
    refine xa [3] ⟨?_,pA⟩
    .refine xo 3 ?_;exact Bo (v':=ow 0 0 h) AN (hb 82) (Ct l) rfl AA ⟨(Bq λ_=>AA),pA⟩ AA AA (xd a b))
   have i:A12 4 (bm 7 7) ⟨28,AP [(5,BG),(23,Kp o),(24,ls eI p1)],[Pd p2.op p2.num p2.kids]⟩:=(a _ _ _).2 (by
    refine xa [3,4] ⟨?_,?_,pA⟩
    .refine xo 3 ?_;refine Bo (v':=ow 1 0 h) AN (hb 82) (Ct l) rfl AA ⟨(Bq λ_=>AA),pA⟩ AA AA (AB ⟨AA,?_⟩);refine FZ tb 4 AA AA ?_;exact xw a b (by exact AM [1] AA AA (.p .nil) (.same AA))
    .refine xo 4 ?_;exact AS AA (QC a d (by exact AM [] AA AA .nil (.same AA))))
   have j:A12 4 (bm 7 21) ⟨28,AP [(22,KT p0),(24,ls eI p1),(26,Bc p2)],[]⟩:=(a _ _ _).2 (by
    refine xa [1] ⟨?_,pA⟩
    .refine xo 1 ?_;exact Df (Kp o) (hb 80) (Pu p) rfl (xd a d))
   have k:A12 5 (bm 7 5) ⟨28,AP [(5,BG),(22,KT p0),(24,ls eI p1)],[Pd p2.op p2.num p2.kids]⟩:=(a _ _ _).2 (by
    refine xa [1,4] ⟨?_,?_,pA⟩
    .refine xo 1 ?_;exact Df (Kp o) (hb 80) (Pu p) rfl (xd a i)
    .refine xo 4 ?_;exact AS AA (QC a j (by exact AM [] AA AA .nil (.same AA))))
   refine (a _ _ _).2 ?_;refine FZ tb 0 AA AA ?_;refine FZ tb 2 AA AA ?_;exact xw a k (by exact AM [1] AA AA (.w .nil) (.same AA))
 refine AF AA (AS AA (bs g λH t g=>Gs (hb 47) (Nc t) rfl (Ac 2 AA ?_)));rcases Sh.Ad g with ⟨f,g⟩|⟨f,g⟩
 .refine zs f AA (zs f AA (zs f AA (zt f AA (AS AA ?_))));iterate 5 refine zs rfl rfl ?_
  exact zt AA AA (AB (A true (AT g) _ Ao))
 .refine Aw f AA (bs g λI u g=>zd f (hb 12) (Of u) rfl AA AA AA (Aw f AA (zf f AA (AS AA ?_))));rcases Sh.Ad g with ⟨c,g⟩|⟨c,g⟩
  .refine zs c AA ?_;iterate 4 refine zs c rfl ?_
   exact zt c AA (AB (A true (AT g) _ Ao))
  .exact Aw c AA (Aw c AA (Aw c AA (bs g λD w g=>zd c (hb 79) (Ld w) rfl AA AA AA (Aw c AA (zf c AA (AB (A (!D) (AT g) _ Ao)))))))
theorem Gh {N:Nat}{p0:AJ}{r:Bool}(h0:Bz N p0=some r):Bd 22 [KT p0] [] (.bool r) []:=by
 unfold Bz at h0;refine ai Tryz.func22 AA AA AA AA (sr AA λM p=>Ef 0 AA (AS AA (dn p AA (AE λO q=>sr AA λP t=>AS AA (bs h0 λz u h0=>Gs (hb 47) (Nc u) rfl (AS AA (dn t AA ?_)))))));refine ci h0 AA ?_ ?_<;>intro A h0
 .have Q:z=false:=by simpa using A
  refine Ap AA ?_;cases h0;exact rd [(2,.bool false)]
 .have R:z=true:=by simpa using A
  refine AH (q _ (AE λC x=>sr AA λD e=>Ac 2 AA (CZ AA (AS AA (dn e AA ?_)))));obtain⟨b,a,h0⟩:=Sh.Bi h0;have y:∀(_:Unit),b=Sum.inr ()->∀s,Wk 0 s ⟨25,AP [],[]⟩->C s:=by
   intro _ S s E;subst b;refine x _ (AG E (Ap AA ?_));cases h0;exact rt [(2,.bool true)]
  refine AK (Am (σ:=Int) (λn v=>D7 N p0 n v=some b) (λc=>⟨25,AP [(1,.ptr 0 0 0 0),(9,ls BT p0.funcs),(10,i64 (Sh.len p0.funcs)),(11,i64 c)],[HM p0.decls p0.funcs]⟩) N 0 a Ao (λ_ B=>by rw[D7]at B;cases B) ?_);rintro n c a;rw[D7]at a;refine Ap AA (AE λF f=>?_);refine ci a AA ?_ ?_<;>intro G a
  .refine AH (f _ (AE λH g=>AK (sr AA λI h=>bs a λi j a=>zx Cd j AA AA AA (AS AA (DE 1 MM AA (Bw Lj AA (dn h AA (AE λJ k=>?_))))))));refine CW (by kernel_rfl) (by kernel_rfl) (by rfl) ?_;iterate 5 refine yq tb rfl ?_
   refine bs a λd l a=>BU (v:=i64 d) AN (hb 48) (WD l) rfl AA AA ?_;iterate 3 refine yq tb rfl ?_
   refine As (k _ ?_);refine ci a AA ?_ ?_<;>intro o a
   .have K:decide (d=i.result)=false:=by simpa using o
    refine Ap AA ?_;cases a;cases h0;exact rd [(2,.bool false)]
   .have L:decide (d=i.result)=true:=by simpa using o
    refine AH (g _ (AF AA (Ac 2 AA ?_)));exact AB (xi (Sh.w (c+1)) a (AM [0] AA AA (.w .nil) (.same AA)))
  .exact Av (y () (AT a) _ (Be _ AA))
theorem QP {s1:List Bool}{p0:AD}{r:List Bool}(h0:JX s1 p0=some r):Bd 69 [Bc p0,BG] (Rt s1) (.DF []) (Rt r):=by
 unfold JX at h0;refine ai Tryz.func69 AA AA AA AA (sr AA λk d=>Ef 2 AA (dn d AA (AE λi e=>bs h0 λg b h0=>?_)));have h:∀f,g=f->∀s,Wk 2 s ⟨15,AP [(1,BG),(2,CY),(10,.bool f)],[⟨0,62,1,[[ow 1 0 s1]]⟩,ro 0 4 1 eB s1,Pd p0.op p0.num p0.kids]⟩->i s:=by
  intro f l s j;subst g;refine e _ (AG j ?_);refine ci h0 AA ?_ ?_<;>intro n h0
  .refine AF AA (Ac 3 AA (bs h0 λo c h0=>zz (.ptr 1 0 (Int.toNat p0.num) 0) (CD XS AA AA AA AA c) rfl (JZ (u':=true) AN ka AA AA c AA AA AA tR rfl AA ?_)));cases h0;exact AB ⟨_,(((GF (st:=[⟨0,62,1,[[.own 1 0 (List.length s1)]]⟩,⟨0,4,1,List.map eB (Sh.put s1 p0.num true)⟩,⟨0,35,3,[[i64 p0.op,i64 p0.num,.sl (List.map Ar p0.kids)]]⟩]) (st':=[⟨0,62,1,[[.own 1 0 (List.length (Sh.put s1 p0.num true))]]⟩,⟨0,4,1,List.map eB (Sh.put s1 p0.num true)⟩,⟨0,35,3,[[i64 p0.op,i64 p0.num,.sl (List.map Ar p0.kids)]]⟩]) (by simp only[Sh.GS])).trans (AM (L:=[]) (st':=[⟨0,62,1,[[.own 1 0 (List.length (Sh.put s1 p0.num true))]]⟩,⟨0,4,1,List.map eB (Sh.put s1 p0.num true)⟩]) [0,1] AA AA (.w (.p .nil)) pA)).trans (Ag (L:=[]) pA)),And.intro AA AA⟩
  .cases h0;exact AH (xi _ ((AM (L:=[]) (st':=Rt s1) [0,1] AA AA (.w (.p .nil)) pA).trans (Ag (L:=[]) pA)) (And.intro AA AA))
 refine AF AA (Ac 4 AA ?_);rcases Sh.Ad b with ⟨a,b⟩|⟨a,b⟩
 .exact zs a AA (zs a AA (zs a AA (zt a AA (AB (h true (AT b) _ Ao)))))
 .exact Aw a AA (Aw a AA (Aw a AA (zf a AA (AB (h (decide (p0.op=10)) (AT b) _ Ao)))))
theorem Tq {N:Nat}{uY:(List Bool)->AD->Option (List Bool)}(xF :∀{s1:List Bool} {p0:AD} {r:List Bool},uY s1 p0=some r->Bd 49 [Bc p0,.fn 69 [BG]] (Rt s1) (.DF []) (Rt r)){s1:List Bool}{p0:AD}{r:List Bool}(h0:Lb N uY s1 p0=some r):Bd 49 [Bc p0,.fn 69 [BG]] (Rt s1) (.DF []) (Rt r):=by
 unfold Lb at h0;refine ai Tryz.func49 AA AA AA AA (sr AA λI k=>Ef 2 AA (dn k AA (sr AA λJ l=>Ac 2 AA (bs h0 λe o h0=>?_))));refine TA (rowsP:=Rt s1) (rows0:=Rt s1) (rows1:=Rt e) (rows2:=[]) (rows1':=Rt e) (rows2':=[]) (st':=[⟨0,62,1,[[ow 1 0 e]]⟩,ro 0 4 1 eB e,Pd p0.op p0.num p0.kids]) (v':=.DF []) [0,1] AN AA (hb 69) (QP o) rfl (by decide) rfl AA (.raw AA AA (.pure Bn .nil)) rfl AA (.raw AA AA (.pure Bn .nil)) .nil AA AA ?_;refine dn l AA (sr AA λK p=>Ac 2 AA (CZ AA (AS AA (dn p AA (RI λB q=>bs h0 λt a h0=>?_)))));have C:∀u,t=u->∀s,Wk 2 s ⟨20,AP [],Rt u⟩->B s:=by
  intro u M s D;subst t;refine q _ ?_;cases h0;exact Exists.intro _ (And.intro (D.trans (Ag (L:=[]) pA)) (And.intro AA AA))
 refine AK (Am (σ:=Int×(List Bool)) (λn v=>E2 p0 uY n v.1 v.2=some t) (λ(x,d)=>⟨20,AP [(1,.fn 69 [.ptr 0 0 0 0]),(10,ls Ar p0.kids),(11,i64 (Sh.len p0.kids)),(12,i64 x)],[⟨0,62,1,[[ow 1 0 d]]⟩,ro 0 4 1 eB d]⟩) N (0,e) a (AM [0,1] AA AA (.w (.p .nil)) (.same AA)) (λ_ z=>by rw[E2]at z;cases z) ?_);rintro n ⟨x,d⟩ a;rw[E2]at a;refine Ap AA (AE λE f=>?_);refine ci a AA ?_ ?_<;>intro F a
 .refine AH (f _ (AE λG g=>AK (sr AA λH h=>bs a λc i a=>zz (EP c) (Cc BZ AA AA i (Af _) rfl) rfl (AS AA (DE 2 De AA (Bw BI AA (dn h AA (AF AA (Ac 2 AA ?_)))))))));refine bs a λb j a=>?_;refine SU (rowsP:=dI d) (rows0:=dI d) (rows1:=dI b) (rows2:=[]) (rows1':=dI b) (rows2':=[]) (st':=[⟨0,62,1,[[.own 1 0 (List.length b)]]⟩,⟨0,4,1,List.map eB b⟩,⟨0,35,3,[[i64 c.op,i64 c.num,.sl (List.map Ar c.kids)]]⟩]) (v':=.DF []) [0,1] AN (hb 49) (xF j) rfl (by decide) rfl AA (.raw AA AA (.pure Bn .nil)) rfl AA (.raw AA AA (.pure Bn .nil)) .nil AA AA (λy=>?_);have A:List.length b=List.length d:=by simpa only[pR] using y 1 _ _ rfl rfl rfl
  refine dn g AA (AF AA (Ac 2 AA ?_));exact AB (xi (Sh.w (x+1),b) a (AM [0,1] AA AA (.w (.p .nil)) (.same AA)))
 .exact Av (C d (AT a) _ Ao)
theorem TH {N:Nat}:∀(n:Nat),∀{s1:List Bool} {p0:AD} {r:List Bool},G4 N n s1 p0=some r->Bd 49 [Bc p0,.fn 69 [BG]] (Rt s1) (.DF []) (Rt r):=by
 intro n
 induction n with
 |zero=>intro s1 p0 r a;cases a
 |succ n ih=>
  intro s1 p0 r a;rw[G4]at a;exact Tq (λh=>ih h) a
theorem WA {N:Nat}:∀{s1:List Bool} {p0:AD} {r:List Bool},Pm N s1 p0=some r->Bd 49 [Bc p0,.fn 69 [BG]] (Rt s1) (.DF []) (Rt r):=by
 intro s1 p0 r a;exact TH N a
theorem NZ {N:Nat}{p0:AJ}{p1:Int}{r:List Bool}(h0:Hq N p0 p1=some r):Bd 40 [KT p0,i64 p1] [] (ow 0 0 r) [ro 0 4 1 eB r]:=by
 unfold Hq at h0;refine ai Tryz.func40 AA AA AA AA (sr AA λk b=>Ef 0 AA (AS AA (dn b AA (sr AA λl c=>Ac 2 AA (CZ AA (bs h0 λd e h0=>UU (m:=1) (enc:=eB) (u:=false) AN XS AA AA AA e AA AA (DE 2 oT AA (Bw ns AA ?_))))))));refine dn c AA (sr AA λn f=>Ac 3 AA (bs h0 λo g h0=>zx Cd g AA AA AA (Ac 2 AA (zz (.fn 69 [CY]) (ae AA) rfl (bs h0 λa h h0=>?_)))));refine SU (rowsP:=dI d) (rows0:=dI d) (rows1:=dI a) (rows2:=[]) (rows1':=dI a) (rows2':=[]) (st':=[⟨0,26,2,[[.sl (List.map Ai p0.decls),.sl (List.map BT p0.funcs)]]⟩,⟨0,4,1,List.map eB a⟩,⟨0,62,1,[[.own 1 0 (List.length a)]]⟩]) (v':=.DF []) [2,1] AN (hb 49) (WA h) rfl (by decide) rfl AA (.raw AA AA (.pure Bn .nil)) rfl AA (.raw AA AA (.pure Bn .nil)) .nil AA AA (λi=>?_);have j:List.length a=List.length d:=by simpa only[pR] using i 1 _ _ rfl rfl rfl
 refine dn f AA (Ap AA ?_);obtain rfl:=Sh.Bf h0;exact An (xr (AM (L:=[(4,ow 0 0 a)]) (st':=[ro 0 4 1 eB a]) [1] AA AA (.p .nil) ⟨.rfl,pA⟩))
theorem Km {N:Nat}{p0:List Bool}{r:List Int}(h0:Gd N p0=some r):Bd 39 [ls eB p0] [] (ow 0 0 r) [BX r]:=by
 unfold Gd at h0;refine ai Tryz.func39 AA AA AA AA ?_;iterate 2 refine Ap rfl ?_
 refine AE λC u=>sr AA λK x=>AS AA (CZ AA (AS AA (dn x AA (bs h0 λy a h0=>?_))));have D:∀f,y=f->∀s,Wk 0 s ⟨20,AP [(3,ow 0 0 f)],[BX f]⟩->C s:=by
  intro f E s z;subst y;try dsimp only at h0
  refine u _ (AG z (Ap AA ?_));obtain rfl:=Sh.Bf h0;exact rt [(2,ow 0 0 f)]
 refine AK (Am (σ:=Int×(List Int)) (λn v=>Eb p0 n v.1 v.2=some y) (λ(d,g)=>⟨20,AP [(3,ow 0 0 g),(6,ls eB p0),(7,i64 (Sh.len p0)),(8,i64 d)],[ro 0 3 1 eI g]⟩) N (0,[]) a ((Hb (t:=3) rfl 3 (size:=1) (by decide)).trans (Ag (L:=[(3,.own 0 0 (List.length ([]:List Int))),(6,ls eB p0),(7,i64 (Sh.len p0)),(8,i64 0)]) (.same AA))) (λ_ B=>by rw[Eb]at B;cases B) ?_);rintro n ⟨d,g⟩ a;rw[Eb]at a;refine Ap AA (AE λF h=>?_);refine ci a AA ?_ ?_<;>intro G a
 .refine AH (h _ (AE λA i=>bs a λj c a=>?_));have k:∀b,j=b->∀s,Wk 0 s ⟨20,AP [(3,ow 0 0 b),(6,ls eB p0),(7,HC p0),(8,i64 d)],[BX b]⟩->A s:=by
   intro b E s z;subst j;exact i _ (AG z (AF AA (Ac 2 AA (AB (xi (Sh.w (d+1),b) a Ao)))))
  refine AK (sr AA λH o=>AS AA (bs c λI p c=>zx XS p AA AA AA (Ac 3 AA (dn o AA (Ap AA ?_)))));refine ci c AA ?_ ?_<;>intro J c
  .refine AF AA (Ac 2 AA ?_);refine CC 1 [d] eI BF AA ?_;refine bs c λe q c=>Cs (l2:=[d]) AN BF AA AA AA AA (HG AA AA) (λ_=>AA) q AA (AS AA ?_);exact AB (k e (AT c) _ (by refine Wk.trans (Da (L:=[(3,ow 0 0 e),(6,ls eB p0),(7,HC p0),(8,i64 d)]) (st':=[BX e,Ta d]) (.pure Bn (.pure Bn .nil)) (.same AA)) ?_;exact AM [0] AA AA (.p .nil) (.same AA)))
  .exact AH (k g (AT c) _ Ao)
 .exact Av (D g (AT a) _ Ao)
theorem Ss {N:Nat}{p0:AJ}{p1:Int}{r:List Int}(h0:G9 N p0 p1=some r):Bd 17 [KT p0,i64 p1] [] (ow 0 0 r) [BX r]:=by
 unfold G9 at h0;refine ai Tryz.func17 AA AA AA AA (sr AA λx g=>Ef 0 AA (AS AA (dn g AA (AE λy h=>AE λq i=>bs h0 λo c h0=>?_))));have j:∀k,o=k->∀s,Wk 0 s ⟨23,AP [(1,i64 p1),(2,BG),(18,.bool k)],[HM p0.decls p0.funcs]⟩->q s:=by
  intro k z s u;subst o;refine i _ (AG u ?_);refine ci h0 AA ?_ ?_<;>intro A h0
  .refine Ap AA ?_;cases h0;exact An (Exists.intro _ (And.intro ((((Hb (t:=4) rfl 3 (size:=1) (by decide)).trans (Ag (L:=[(4,.own 1 0 (List.length ([]:List Int)))]) ⟨.rfl,pA⟩)).trans (AM (L:=[(4,Yu)]) (st':=[ro 0 3 1 eI ([]:List Int)]) [1] AA AA (.p .nil) ⟨.rfl,pA⟩)).trans (Ag (L:=[(4,Yu)]) ⟨.rfl,pA⟩)) (And.intro AA AA)))
  .refine AH (h _ (sr AA λB l=>Ac 2 AA (bs h0 λp n h0=>Bo (v':=ow 1 0 p) AN (hb 40) (NZ n) rfl AA ⟨(Bq λ_=>AA),pA⟩ AA AA (Ea [(21,ls eB p)] [HM p0.decls p0.funcs,⟨1,4,1,[]⟩] 1 AA ⟨.BY AA,pA⟩ (λ_=>AA) rfl (bs h0 λd e h0=>Bo (v':=ow 2 0 d) AN (hb 39) (Km e) rfl AA ⟨(Bq λ_=>AA),pA⟩ AA AA (AS AA (dn l AA ?_)))))));obtain rfl:=Sh.Bf h0;exact An (xr (AM (L:=[(4,ow 0 0 d)]) (st':=[BX d]) [2] AA AA (.p .nil) ⟨.rfl,pA⟩))
 refine AF AA (AS AA (bs c λw f c=>Gs (hb 22) (Gh f) rfl (Ac 2 AA ?_)));rcases Sh.Ad c with ⟨b,c⟩|⟨b,c⟩
 .refine zs b AA (zs b AA (zt b AA (AS AA ?_)));iterate 5 refine zs rfl rfl ?_
  exact zt AA AA (AB (j true (AT c) _ Ao))
 .refine Aw b AA (Aw b AA (zf b AA (AS AA ?_)));rcases Sh.Ad c with ⟨a,c⟩|⟨a,c⟩
  .refine zs a AA ?_;iterate 4 refine zs a rfl ?_
   exact zt a AA (AB (j true (AT c) _ Ao))
  .exact Aw a AA (Aw a AA (Aw a AA (BW (v:=i64 (Sh.len p0.funcs)) (CQ AA AA a) rfl (CU Pv AA) (Aw a AA (zf a AA (AB (j (decide ((Sh.len p0.funcs)<=p1)) (AT c) _ Ao)))))))
theorem QT {N:Nat}{p0:AJ}{p1:Int}{r:List Int}(h0:IC N p0 p1=some r):Bd 52 [KT p0,i64 p1] [] (ow 0 0 r) [BX r]:=by
 unfold IC at h0;refine ai Tryz.func52 AA AA AA AA (sr AA λK1 c2=>Ef 0 AA (AS AA (dn c2 AA (AE λK2 c3=>AE λK3 c4=>bs h0 λo5 a h0=>?_))));have M5:∀t4,o5=t4->∀s,Wk 0 s ⟨63,AP [(1,i64 p1),(2,BG),(22,.bool t4)],[HM p0.decls p0.funcs]⟩->K3 s:=by
  intro t4 hq s F;subst o5;refine c4 _ (AG F ?_);refine ci h0 AA ?_ ?_<;>intro b6 h0
  .refine Ap AA ?_;cases h0;exact An ⟨_,((((Hb (t:=4) rfl 3 (size:=1) (by decide)).trans (Ag (L:=[(4,.own 1 0 (List.length ([]:List Int)))]) ⟨.rfl,pA⟩)).trans (AM (L:=[(4,Yu)]) (st':=[ro 0 3 1 eI ([]:List Int)]) [1] AA AA (.p .nil) ⟨.rfl,pA⟩)).trans (Ag (L:=[(4,Yu)]) ⟨.rfl,pA⟩)),And.intro AA AA⟩
  .refine AH (c3 _ (sr AA λK8 c5=>Ac 2 AA (CZ AA (bs h0 λl9 c6 h0=>UU (m:=1) (enc:=eB) (u:=false) AN XS AA AA AA c6 AA AA (AS AA (dn c5 AA (sr AA λd3 K=>Ac 2 AA (bs h0 λd4 D h0=>zz (LB p1) (CD XS AA AA AA AA D) rfl ?_))))))));refine JZ (u':=true) AN ka AA AA D AA AA AA tR rfl AA (dn K AA (AE λc7 M=>sr AA λd5 O=>AS AA ?_));refine CC 2 [p1] eI BF AA ?_;refine AS AA (dn O AA (bs h0 λG a h0=>?_));have c8:∀o,G=o->∀s,Wk 0 s ⟨63,AP [(5,ow 0 0 o)],[ro 0 4 1 eB o]⟩->c7 s:=by
    intro o hq s F;subst G;try dsimp only at h0
    refine M _ (AG F (sr AA λd6 P=>AS AA (Ea [(61,ls eB o)] [⟨1,4,1,[]⟩] 0 AA ⟨.BY AA,pA⟩ (λ_=>AA) rfl (bs h0 λH Q h0=>Bo (v':=ow 1 0 H) AN (hb 39) (Km Q) rfl AA ⟨(Bq λ_=>AA),pA⟩ AA AA (AS AA (dn P AA ?_))))));obtain rfl:=Sh.Bf h0;exact An (xr (AM (L:=[(4,ow 0 0 H)]) (st':=[BX H]) [1] AA AA (.p .nil) ⟨.rfl,pA⟩))
   refine AK (Am (σ:=(List Int)×(List Bool)×(List Int)) (λn v=>FD N p0 n v.2.1 v.2.2=some G) (λ(wm,p,q)=>⟨63,AP [(2,.ptr 0 0 0 0),(5,.own 1 0 (List.length p)),(6,.own 2 0 (List.length q))],[⟨0,26,2,[[.sl (List.map Ai p0.decls),.sl (List.map BT p0.funcs)]]⟩,⟨0,4,1,List.map eB p⟩,⟨0,3,1,List.map eI (wm++q)⟩]⟩) N (([]:List Int),Sh.put l9 p1 true,[p1]) a (Ag (L:=[(2,.ptr 0 0 0 0),(5,.own 1 0 (List.length (Sh.put l9 p1 true))),(6,.own 2 0 (List.length [p1]))]) ⟨.rfl,(.len (by simp only[Sh.GS])),.rfl,pA⟩) (λ_ R=>by rw[FD]at R;cases R) ?_);rintro n ⟨wm,p,q⟩ a;rw[FD]at a;refine AE λd7 S=>sr AA λd8 T=>AS AA (zz (HC q) (jd Gc AA AA) rfl (AS AA (dn T AA ?_)));refine ci a AA ?_ ?_<;>intro d9 a
   .refine AH (S _ (AE λc9 U=>AK (AE λg0 V=>?_)));refine CW (by kernel_rfl) (by kernel_rfl) (by rfl) ?_;iterate 2 refine yq tb rfl ?_
    refine bs a λd0 E a=>yz (.ptr 2 0 (List.length wm+Int.toNat 0) 0) (lH BF AA AA AA E) rfl (yz (i64 d0) (CG Hy AA AA (jB E) rfl) rfl (bs a λW X a=>?_));refine BU (v:=ls eB W) AN (hb 40) (BJ.wk (NZ X) (by refine Wk.trans (Wk.BY (L:=[(0,ls eB W)]) (st':=[⟨1,4,1,[]⟩]) (id:=0) rfl tN Bn ⟨.BY AA,pA⟩ AA) ?_;exact AM [] AA AA .nil (.same AA))) rfl AA AA ?_;refine bs a λb Y a=>?_;refine BU (v:=ls eI b) AN (hb 39) (BJ.wk (Km Y) (by refine Wk.trans (Wk.BY (L:=[(0,ls eI b)]) (st':=UY) (id:=0) rfl tN Bn ⟨.BY AA,pA⟩ AA) ?_;exact AM [] AA AA .nil (.same AA))) rfl AA AA ?_;refine yl tb AA AA (yq tb AA (As (V _ (bs a λI k a=>?_))));have d1:∀(zH:List Int) (f:List Bool) (B:List Int),I=(f,B)->∀s,Wk 0 s ⟨63,AP (dH f [(6,ow 2 0 B)]),[HM p0.decls p0.funcs,ro 0 4 1 eB f,ro 0 3 1 eI (zH++B)]⟩->c9 s:=by
     rintro zH f B rfl s F;exact U _ (AG F (AF AA (AS AA (bs a λC Z a=>jq (stf:=λG154=>[HM p0.decls p0.funcs,ro 0 4 1 eB f,ro 1 3 1 eI (G154++C)]) BF Z AA AA AA (λ_=>AA) λG154=>AS AA (AB (xi (G154,f,C) a (Da (L:=dH f [(6,ow 2 0 C)]) (st':=[HM p0.decls p0.funcs,ro 0 4 1 eB f,ro 0 3 1 eI (G154++C)]) (.raw AA AA (.pure Bn (.pure Bn .nil))) (.same AA))))))))
    refine AK (Am (σ:=(List Int)×Int×(List Bool)×(List Int)) (λn v=>Dm b n v.2.1 v.2.2.1 v.2.2.2=some I) (λ(wo,g,c,x)=>⟨63,AP [(2,.ptr 0 0 0 0),(5,ow 1 0 c),(6,ow 2 0 x),(42,ls eI b),(43,i64 (Sh.len b)),(44,i64 g)],[HM p0.decls p0.funcs,ro 0 4 1 eB c,ro 0 3 1 eI (wo++x)]⟩) N (wm,0,p,q) k Ao (λ_ R=>by rw[Dm]at R;cases R) ?_);rintro n ⟨wo,g,c,x⟩ k;rw[Dm]at k;refine Ap AA (AE λg1 b0=>?_);refine ci k AA ?_ ?_<;>intro g2 k
    .refine AH (b0 _ (AE λd2 b1=>bs k λb2 y k=>?_));have b3:∀(xx:List Int) (z:List Bool) (A:List Int),b2=(z,A)->∀s,Wk 0 s ⟨63,AP (dH z [(6,ow 2 0 A),(42,ls eI b),(43,HC b),(44,i64 g)]),[HM p0.decls p0.funcs,ro 0 4 1 eB z,ro 0 3 1 eI (xx++A)]⟩->d2 s:=by
      rintro xx z A rfl s F;exact b1 _ (AG F (AF AA (Ac 2 AA (AB (xi (xx,Sh.w (g+1),z,A) k Ao)))))
     refine AK (sr AA λg3 b4=>bs y λd b5 y=>zx BF b5 AA AA AA (Ac 2 AA (dn b4 AA (sr AA λg4 b7=>Ac 2 AA (bs y λJ j y=>zz (LB d) (CD XS AA AA AA AA j) rfl (zz (.bool J) (CG ka AA AA (CS j) rfl) rfl (AS AA ?_)))))));refine dn b7 AA ?_;refine ci y AA ?_ ?_<;>intro b8 y
     .have g5:J=false:=by simpa using b8
      refine sr AA λg6 b9=>Ac 2 AA (zz (LB d) (CD XS AA AA AA AA j) rfl (JZ (u':=true) AN ka AA AA j AA AA AA tR rfl AA (dn b9 AA (AF AA (Ac 2 AA ?_)))));refine CC 3 [d] eI BF AA ?_;refine bs y λh c0 y=>jb (stf:=λG156=>[HM p0.decls p0.funcs,ro 0 4 1 eB (Sh.put c d true),ro 1 3 1 eI (G156++h),Ta d]) BF AA AA AA AA c0 (λ_=>AA) λG156=>AS AA ?_;exact AB (b3 G156 (Sh.put c d true) h (AT y) _ (by refine Wk.trans (Da (L:=[(2,.ptr 0 0 0 0),(5,.own 1 0 (List.length c)),(6,.own 2 0 (List.length h)),(42,.sl (List.map eI b)),(43,i64 (Sh.len b)),(44,i64 g)]) (st':=[⟨0,26,2,[[.sl (List.map Ai p0.decls),.sl (List.map BT p0.funcs)]]⟩,⟨0,4,1,List.map eB (Sh.put c d true)⟩,⟨0,3,1,List.map eI (G156++h)⟩,⟨0,3,1,List.map eI [d]⟩]) (.raw AA AA (.pure Bn (.pure Bn (.pure Bn .nil)))) ⟨.rfl,.rfl,.rfl,.rfl,.rfl,.rfl,pA⟩) ?_;refine Wk.trans (AM (L:=[(2,.ptr 0 0 0 0),(5,.own 1 0 (List.length c)),(6,.own 2 0 (List.length h)),(42,.sl (List.map eI b)),(43,i64 (Sh.len b)),(44,i64 g)]) (st':=[⟨0,26,2,[[.sl (List.map Ai p0.decls),.sl (List.map BT p0.funcs)]]⟩,⟨0,4,1,List.map eB (Sh.put c d true)⟩,⟨0,3,1,List.map eI (G156++h)⟩]) [0,1,2] AA AA (.w (.p (.p .nil))) ⟨.rfl,.rfl,.rfl,.rfl,.rfl,.rfl,pA⟩) ?_;exact Ag (L:=[(2,.ptr 0 0 0 0),(5,.own 1 0 (List.length (Sh.put c d true))),(6,.own 2 0 (List.length h)),(42,.sl (List.map eI b)),(43,i64 (Sh.len b)),(44,i64 g)]) ⟨.rfl,(.len (by simp only[Sh.GS])),.rfl,.rfl,.rfl,.rfl,pA⟩))
     .have g7:J=true:=by simpa using b8
      exact AH (b3 wo c x (AT y) _ Ao)
    .exact Av (d1 wo c x (AT k) _ Ao)
   .exact Av (c8 p (AT a) _ (AM [1] AA AA (.p .nil) (.same AA)))
 refine AF AA (AS AA (bs a λg8 c1 a=>Gs (hb 22) (Gh c1) rfl (Ac 2 AA ?_)));rcases Sh.Ad a with ⟨i,a⟩|⟨i,a⟩
 .refine zs i AA (zs i AA (zt i AA (AS AA ?_)));iterate 5 refine zs rfl rfl ?_
  exact zt AA AA (AB (M5 true (AT a) _ Ao))
 .refine Aw i AA (Aw i AA (zf i AA (AS AA ?_)));rcases Sh.Ad a with ⟨e,a⟩|⟨e,a⟩
  .refine zs e AA ?_;iterate 4 refine zs e rfl ?_
   exact zt e AA (AB (M5 true (AT a) _ Ao))
  .exact Aw e AA (Aw e AA (Aw e AA (BW (v:=i64 (Sh.len p0.funcs)) (CQ AA AA e) rfl (CU Pv AA) (Aw e AA (zf e AA (AB (M5 (decide ((Sh.len p0.funcs)<=p1)) (AT a) _ Ao)))))))
theorem OR {N:Nat}{p0:List Int}{p1 r:Int}(h0:Hk N p0 p1=some r):Bd 65 [ls eI p0,i64 p1] [] (i64 r) []:=by
 unfold Hk at h0;refine ai Tryz.func65 AA AA AA AA (Ap AA (AE λk f=>sr AA λu g=>AS AA (CZ AA (AS AA (dn g AA ?_)))));obtain⟨h,a,h0⟩:=Sh.Bi h0;have l:∀(_:Unit),h=Sum.inr ()->∀s,Wk 0 s ⟨19,AP [],[]⟩->k s:=by
  intro _ x s m;subst h;refine f _ (AG m (Ap AA ?_));cases h0;exact rt [(4,i64 (-1))]
 refine AK (Am (σ:=Int) (λn v=>CP p0 p1 n v=some h) (λe=>⟨19,AP [(0,ls eI p0),(1,i64 p1),(7,i64 (Sh.len p0)),(8,i64 e)],[]⟩) N 0 a Ao (λ_ j=>by rw[CP]at j;cases j) ?_);rintro n e a;rw[CP]at a;refine Ap AA (AE λy i=>?_);refine ci a AA ?_ ?_<;>intro z a
 .refine AH (i _ (AE λo b=>AK (Ap AA (sr AA λp c=>Ac 3 AA (bs a λq d a=>zx BF d AA AA AA (Ac 2 AA (dn c AA ?_)))))));refine ci a AA ?_ ?_<;>intro t a
  .refine Ap AA ?_;cases a;cases h0;exact rt [(4,i64 e)]
  .exact AH (b _ (AF AA (Ac 2 AA (AB (xi (Sh.w (e+1)) a Ao)))))
 .exact Av (l () (AT a) _ Ao)
theorem NB {N:Nat}{p0:List Int}{p1:Int}{r:Bool}(h0:Fm N p0 p1=some r):Bd 51 [ls eI p0,i64 p1] [] (.bool r) []:=by
 unfold Fm at h0;refine ai Tryz.func51 AA AA AA AA (Ap AA (sr AA λd a=>Ac 2 AA (bs h0 λc b h0=>Gs (hb 65) (OR b) rfl (Ac 2 AA (dn a AA ?_)))));cases h0;exact rt [(4,.bool (decide (0<=c)))]
theorem Nr {N:Nat}{p0:AJ}{p1:Int}{r:Bool}(h0:DI N p0 p1=some r):Bd 24 [KT p0,i64 p1] [] (.bool r) []:=by
 unfold DI at h0;refine ai Tryz.func24 AA AA AA AA (sr AA λV u=>Ef 0 AA (AS AA (dn u AA (AE λW x=>AE λI y=>bs h0 λG a h0=>?_))));have z:∀A,G=A->∀s,Wk 0 s ⟨35,AP [(1,i64 p1),(2,BG),(20,.bool A)],[HM p0.decls p0.funcs]⟩->I s:=by
  intro A J s B;subst G;refine y _ (AG B ?_);refine ci h0 AA ?_ ?_<;>intro X h0
  .refine Ap AA ?_;cases h0;exact rd [(4,.bool false)]
  .refine AH (x _ (AE λK C=>sr AA λY D=>Ac 2 AA (bs h0 λc h h0=>Bo (v':=ow 1 0 c) AN (hb 17) (Ss h) rfl AA ⟨(Bq λ_=>AA),pA⟩ AA AA (zz (HC c) (DD Gc AA AA AA) rfl (AS AA (dn D AA ?_))))));obtain⟨g,a,h0⟩:=Sh.Bi h0;have E:∀(_:Unit),g=Sum.inr ()->∀s,Wk 0 s ⟨35,AP [],[]⟩->K s:=by
    intro _ J s B;subst g;refine C _ (AG B (Ap AA ?_));cases h0;exact rt [(4,.bool true)]
   refine AK (Am (σ:=Int) (λn v=>DN N p0 p1 c n v=some g) (λe=>⟨35,AP [(1,i64 p1),(2,.ptr 0 0 0 0),(23,ow 1 0 c),(24,i64 (Sh.len c)),(25,i64 e)],[HM p0.decls p0.funcs,ro 0 3 1 eI c]⟩) N 0 a Ao (λ_ H=>by rw[DN]at H;cases H) ?_);rintro n e a;rw[DN]at a;refine Ap AA (AE λM i=>?_);refine ci a AA ?_ ?_<;>intro O a
   .refine AH (i _ (AE λP j=>AK (sr AA λQ k=>bs a λF f a=>zz (LB e) (CD BF AA AA AA AA f) rfl (zz (i64 F) (CG Hy AA AA (CS f) rfl) rfl (AS AA (dn k AA (sr AA λR l=>Ac 2 AA (bs a λo p a=>?_))))))));refine Bo (v':=ow 2 0 o) AN (hb 52) (QT p) rfl AA ⟨(Bq λ_=>AA),pA⟩ AA AA (AS AA (Ea [(1,i64 p1),(2,BG),(23,ow 1 0 c),(24,HC c),(25,i64 e),(31,ls eI o),(32,i64 p1)] [HM p0.decls p0.funcs,BX c,⟨1,3,1,[]⟩] 2 AA ⟨.rfl,.rfl,.rfl,.rfl,.rfl,.BY AA,.rfl,pA⟩ (λ_=>AA) rfl (bs a λS q a=>Gs (hb 51) (NB q) rfl (dn l AA ?_))));refine ci a AA ?_ ?_<;>intro T a
    .refine Ap AA ?_;cases a;cases h0;exact rd [(4,.bool false)]
    .refine AH (j _ (AF AA (Ac 2 AA ?_)));exact AB (xi (Sh.w (e+1)) a (AM [0,1] AA AA (.w (.p .nil)) (.same AA)))
   .exact Av (E () (AT a) _ (Be _ AA))
 refine AF AA (AS AA (bs a λU t a=>Gs (hb 22) (Gh t) rfl (Ac 2 AA ?_)));rcases Sh.Ad a with ⟨d,a⟩|⟨d,a⟩
 .refine zs d AA (zs d AA (zt d AA (AS AA ?_)));iterate 5 refine zs rfl rfl ?_
  exact zt AA AA (AB (z true (AT a) _ Ao))
 .refine Aw d AA (Aw d AA (zf d AA (AS AA ?_)));rcases Sh.Ad a with ⟨b,a⟩|⟨b,a⟩
  .refine zs b AA ?_;iterate 4 refine zs b rfl ?_
   exact zt b AA (AB (z true (AT a) _ Ao))
  .exact Aw b AA (Aw b AA (Aw b AA (BW (v:=i64 (Sh.len p0.funcs)) (CQ AA AA b) rfl (CU Pv AA) (Aw b AA (zf b AA (AB (z (decide ((Sh.len p0.funcs)<=p1)) (AT a) _ Ao)))))))
theorem Sn {N:Nat}{uU:AD->Int->Int->Option (AD)}(va :∀{p0:AD} {p1:Int} {p2:Int} {r:AD},uU p0 p1 p2=some r->Bd 44 (aC p0 p1 p2) [] (.agg (VR r)) [HD r]){p0:AD}{p1 p2:Int}{r:AD}(h0:I1 N uU p0 p1 p2=some r):Bd 44 (aC p0 p1 p2) [] (.agg (VR r)) [HD r]:=by
 unfold I1 at h0;refine BJ.wk (r0:=.agg (VR r)) (st0:=[HD r,⟨0,35,3,[VR r]⟩]) ?_ (D2 (L:=[(0,.agg (VR r))]) (st':=[HD r]) [0] AA (by decide) rfl AA (.deep (Aq BD) pA) (.same AA));refine ai Tryz.func44 AA AA AA AA (sr AA λK1 S=>Ef 0 AA (DE 1 De AA (dn S AA (AE λK2 T=>bs h0 λZ h h0=>?_))));have M4:∀k,Z=k->∀s,Wk 0 s ⟨44,AP (iz p1 p2 []),[Pd p0.op k p0.kids,Hm]⟩->K2 s:=by
  intro k hq s F;subst Z;refine T _ (AG F (Ap AA (sr AA λK6 U=>AS AA (Bw bR AA (dn U AA (AE λK7 V=>sr AA λK8 W=>AS AA (CZ AA (AS AA (dn W AA ?_)))))))));refine bs h0 λD h h0=>?_;have X:∀p,D=p->∀s,Wk 0 s ⟨44,AP [(3,BG),(6,CJ)],[kZ p0 k p,Hm,Gi p]⟩->K7 s:=by
   intro p hq s F;subst D;refine V _ (AG F (sr AA λb0 G=>AS AA (Bw BI AA (dn G AA ?_))));cases h0;exact An ⟨_,(Eh (L:=[(6,CJ)]) (st':=[Gi p,⟨0,35,3,[[i64 p0.op,i64 k,ow 0 0 p]]⟩]) (st1:=[Gi p,kZ p0 k p]) [2,1] AA AA (.deep (Aq BD) (.w .nil)) (.same AA)).trans (Ag (L:=[(6,CJ)]) (.same AA)),FX (.tmp 6) [i64 p0.op,i64 k,ow 0 0 p] BI AA _ ⟨AA,AA⟩⟩
  refine AK (Am (σ:=Int×(List AD)) (λn v=>Co p0 p1 p2 uU n v.1 v.2=some D) (λ(y,a)=>⟨44,AP [(1,i64 p1),(2,i64 p2),(3,.ptr 0 0 0 0),(6,.ptr 1 0 0 0),(27,ls Ar p0.kids),(28,i64 (Sh.len p0.kids)),(29,i64 y)],[⟨0,35,3,[[i64 p0.op,i64 k,ow 2 0 a]]⟩,Hm,ro 0 35 3 (Bv 35) a]⟩) N (0,[]) h (by refine Wk.trans (LH (id:=0) (st':=[⟨0,35,3,[[i64 p0.op,i64 k,.own 2 0 (List.length ([]:List AD))]]⟩,Hm,ro 0 35 3 (Bv 35) ([]:List AD)]) (j:=2) rfl AA 35 (size':=3) (by decide) rfl AA AA AA) ?_;exact CF AA) (λ_ hv=>by rw[Co]at hv;cases hv) ?_);rintro n ⟨y,a⟩ h;rw[Co]at h;refine Ap AA (AE λb1 H=>?_);refine ci h AA ?_ ?_<;>intro b2 h
  .refine AH (H _ (AE λb3 I=>AK (sr AA λb4 J=>bs h λA K h=>zz (EP A) (Cc BZ AA AA K (Af _) rfl) rfl (AS AA (DE 3 De AA (Bw BI AA (dn J AA ?_)))))));refine ID (by kernel_rfl) ?_;refine bs h λd B h=>bs h λf C h=>Kv λA23 b=>?_;have g:A23 0 (bm 10 1023) ⟨44,AP (bQ p1 p2 p0 y []),[WW p0 k f,Gi f,Hm]⟩:=(b _ _ _).2 (by
    refine Gr AA (by kernel_rfl) ?_;refine I _ (AF AA (Ac 2 AA ?_));exact AB (xi (Sh.w (y+1),f) h (by exact Eh (L:=iz p1 p2 [(27,Z8 p0),(28,aP p0),(29,Kr y)]) (st':=[kZ p0 k f,Hm,Gi f]) (st1:=[WW p0 k f,Hm,Gi f]) [0,2,1] AA AA (.w (.w (.deep (Aq BD) .nil))) (.same AA))))
   have o:A23 1 (bm 10 511) ⟨44,AP (bQ p1 p2 p0 y [(40,ow 1 1 f),(41,.ptr 0 0 0 2)]),[WW p0 k a,ro 1 35 3 (Bv 35) f,Hm]⟩:=(b _ _ _).2 (by
    refine xa [9] ⟨?_,pA⟩
    .refine xo 9 ?_;exact Bw bR AA (QC b g (by exact Da (L:=bQ p1 p2 p0 y []) (st':=[WW p0 k f,Gi f,Hm]) (.raw AA AA (.deep (Aq BD) (.raw AA AA .nil))) (.same AA))))
   have q:A23 3 (bm 10 127) ⟨44,AP (bQ p1 p2 p0 y [(34,ow 1 0 a),(39,.own 3 0 1)]),[WW p0 k a,Gi a,Hm,⟨0,35,3,[dW d]⟩,HD d]⟩:=(b _ _ _).2 (by
    refine xa [7] ⟨?_,pA⟩
    .refine xo 7 ?_;have M:=cD C;refine gC (st':=[WW p0 k a,⟨1,35,3,hole f (Bv 35) (Sh.len a) (dW d)⟩,Hm,⟨0,35,3,[dW d]⟩,HD d]) (c:=d) AN BZ AA AA AA AA AA AA AA C AA ?_;refine Au (Wk.take (id:=1) (m:=4) (j:=2) (i:=Sh.len a) (c:=d) (ys:=d.kids) (encY:=Bv 35) rfl M AA AA AA (by decide) th HY AA AA) ?_;refine Au (NN (id:=1) (i:=Sh.len a) (c:=d) rfl M (Iq d).symm AA) (AB ⟨AA,?_⟩);refine FZ tb 8 AA AA ?_;exact xw b o (by exact AM [0,1,2] AA AA (.w (.deep (Aq BD) (.w .nil))) (.same AA)))
   have e:A23 4 (bm 10 63) ⟨44,AP (bQ p1 p2 p0 y [(34,ow 1 0 a),(38,.agg (QO d))]),[WW p0 k a,Gi a,Hm,HD d]⟩:=(b _ _ _).2 (by
    refine xa [6] ⟨?_,pA⟩
    .refine xo 6 ?_;refine CC 4 [()] (λ_=>QO d) BZ AA ?_;exact QC b q (by exact Eh (L:=bQ p1 p2 p0 y [(34,ow 1 0 a),(39,.own 3 0 1)]) (st':=[WW p0 k a,Gi a,Hm,⟨0,35,3,[dW d]⟩,HD d]) (st1:=[WW p0 k a,Gi a,Hm,⟨0,35,3,[QO d]⟩,HD d]) [0,1,2,4,3] AA AA (.w (.deep (Aq BD) (.w (.w (.deep (Aq BD) .nil))))) (.same AA)))
   have t:A23 5 (bm 10 31) ⟨44,AP (bQ p1 p2 p0 y [(34,ow 1 0 a),(35,Bc A),(36,i64 p1),(37,i64 p2)]),[WW p0 k a,Gi a,Hm]⟩:=(b _ _ _).2 (by
    refine xa [5] ⟨?_,pA⟩
    .refine xo 5 ?_;exact Bo (v':=.agg (QO d)) AN (hb 44) (va B) rfl AA ⟨Aq BD,pA⟩ AA AA (xd b e))
   have z:A23 6 (bm 10 29) ⟨44,AP (bQ p1 p2 p0 y [(33,.ptr 0 0 0 2),(35,Bc A),(36,i64 p1),(37,i64 p2)]),[WW p0 k a,Gi a,Hm]⟩:=(b _ _ _).2 (by
    refine xa [1,5] ⟨?_,?_,pA⟩
    .exact xq tb b t
    .refine xo 5 ?_;refine Bo (v':=.agg (QO d)) AN (hb 44) (va B) rfl AA ⟨Aq BD,pA⟩ AA AA (AB ⟨AA,?_⟩);refine FZ tb 1 AA AA ?_;exact xt b e)
   refine (b _ _ _).2 ?_;refine FZ tb 0 AA AA ?_;refine FZ tb 2 AA AA ?_;refine FZ tb 3 AA AA ?_;refine FZ tb 4 AA AA ?_;exact xw b z (by exact Eh (L:=bQ p1 p2 p0 y [(33,.ptr 0 0 0 2),(35,Bc A),(36,i64 p1),(37,i64 p2)]) (st':=[WW p0 k a,Gi a,Hm]) (st1:=[kZ p0 k a,Gi a,Hm]) [0,2,1] AA AA (.w (.deep (Aq BD) (.w .nil))) (.same AA))
  .exact Av (X a (AT h) _ Ao)
 refine AE λY O=>bs h λP Q h=>?_;have R:∀E,P=E->∀s,Wk 0 s ⟨44,AP (iz p1 p2 [(18,.bool E)]),[Pd p0.op p0.num p0.kids,Hm]⟩->Y s:=by
  intro E hq s F;subst P;refine O _ (AG F ?_);refine ci h AA ?_ ?_<;>intro b5 h
  .exact AF AA (Ac 5 AA (Bw Hy AA (AB (M4 (Sh.w (p0.num+p2)) (AT h) _ Ao))))
  .exact AH (M4 p0.num (AT h) _ Ao)
 refine AF AA (Ac 4 AA ?_);rcases Sh.Ad Q with ⟨u,Q⟩|⟨u,Q⟩
 .refine Aw u AA ?_;iterate 3 refine Aw u rfl ?_
  exact zt u AA (AB (R (decide (p1<=p0.num)) (AT Q) _ Ao))
 .refine zs u AA ?_;iterate 3 refine zs u rfl ?_
  exact zf u AA (AB (R false (AT Q) _ Ao))
theorem S6 {N:Nat}:∀(n:Nat),∀{p0:AD} {p1:Int} {p2:Int} {r:AD},EG N n p0 p1 p2=some r->Bd 44 (aC p0 p1 p2) [] (.agg (VR r)) [HD r]:=by
 intro n
 induction n with
 |zero=>intro p0 p1 p2 r a;cases a
 |succ n ih=>
  intro p0 p1 p2 r a;rw[EG]at a;exact Sn (λh=>ih h) a
theorem KJ {N:Nat}:∀{p0:AD} {p1:Int} {p2:Int} {r:AD},Gv N p0 p1 p2=some r->Bd 44 (aC p0 p1 p2) [] (.agg (VR r)) [HD r]:=by
 intro p0 p1 p2 r a;exact S6 N a
theorem NP {N:Nat}{p0 r:AD}(h0:I4 N p0=some r):Bd 91 [Bc p0] [] (.agg (VR r)) [HD r]:=by
 unfold I4 at h0;refine BJ.wk (r0:=.agg (VR r)) (st0:=[HD r,⟨0,35,3,[VR r]⟩]) ?_ (D2 (L:=[(0,.agg (VR r))]) (st':=[HD r]) [0] AA (by decide) rfl AA (.deep (Aq BD) pA) (.same AA));refine ai Tryz.func91 AA AA AA AA (sr AA λe b=>Ef 0 AA (DE 1 De AA (dn b AA (sr AA λf c=>AS AA (bs h0 λa d h0=>Bo (v':=.agg [i64 a.op,i64 a.num,ow 2 0 a.kids]) AN (hb 44) (KJ d) rfl AA ⟨Aq BD,pA⟩ AA AA (Bw BI AA (dn c AA ?_)))))));obtain rfl:=Sh.Bf h0;exact An (Exists.intro _ (And.intro ((Eh (L:=[(2,CJ)]) (st':=[HD a,⟨0,35,3,[VR a]⟩]) (st1:=[HD a,⟨0,35,3,[[i64 a.op,i64 a.num,ow 2 0 a.kids]]⟩]) [2,1] AA AA (.deep (Aq BD) (.w .nil)) (.same AA)).trans (Ag (L:=[(2,CJ)]) (.same AA))) (FX (.tmp 2) (VR a) BI AA _ ⟨AA,AA⟩)))
theorem P9 {N:Nat}{p0 r:AJ}(h0:Hf N p0=some r):Bd 55 [KT p0] [] (.agg [ow 0 0 r.decls,ow 1 0 r.funcs]) (mh r []):=by
 unfold Hf at h0;refine BJ.wk (r0:=.agg [ow 0 0 r.decls,ow 1 0 r.funcs]) (st0:=mh r [⟨0,26,2,[[ow 0 0 r.decls,ow 1 0 r.funcs]]⟩]) ?_ (D2 (L:=[(0,.agg [ow 0 0 r.decls,ow 1 0 r.funcs])]) (st':=mh r []) [0,1] AA (by decide) rfl AA (.deep (Aq λ_=>AA) (.deep (Aq λ_=>AA) pA)) (.same AA));refine ai Tryz.func55 AA AA AA AA (sr AA λK1 R=>Ef 0 AA (Au (Wk.BY (L:=[(1,jP p0)]) (st':=[⟨1,26,2,[]⟩]) (id:=0) rfl tN (Ei AA) (.same AA) rfl) (DE 1 JD AA (dn R AA (sr AA λK2 S=>Ac 2 AA (bs h0 λf T h0=>Bo (v':=ow 2 0 f) AN (hb 90) (Cl.QD T) rfl AA ⟨(Aq λ_=>AA),pA⟩ AA AA (zz (.agg [ow 2 0 f,.zc]) (DM Xo XI JD AA AA) rfl (DE 3 JD AA ?_))))))));refine Bw D5 AA (dn S AA (AE λY U=>sr AA λK5 V=>Ac 2 AA (CZ AA (AS AA (dn V AA (bs h0 λW D h0=>?_))))));have Z:∀E,W=E->∀s,Wk 0 s ⟨33,AP [(2,BG),(3,CY)],[VS,Q7 f,jM f E,PA E]⟩->Y s:=by
  intro E hq s hw;subst W;refine U _ (AG hw (sr AA λb0 K=>AS AA (Bw D5 AA (dn K AA ?_))));cases h0;exact An ⟨_,((Eh (L:=[(2,CY)]) (st':=[Q7 f,PA E,⟨0,26,2,[[ow 0 0 f,ow 1 0 E]]⟩]) (st1:=[Q7 f,PA E,jM f E]) [1,3,0] AA AA (.deep (Aq λ_=>AA) (.deep (Aq λ_=>AA) (.w .nil))) (.same AA)).trans (Ag (L:=[(2,CY)]) (.same AA))),FX (.tmp 2) [ow 0 0 f,ow 1 0 E] D5 AA _ ⟨AA,AA⟩⟩
 refine AK (Am (σ:=Int×(List AU)) (λn v=>DS N p0 n v.1 v.2=some W) (λ(C,q)=>⟨33,AP [(2,.ptr 0 0 0 0),(3,.ptr 2 0 0 0),(11,ls BT p0.funcs),(12,i64 (Sh.len p0.funcs)),(13,i64 C)],[VS,ro 0 80 3 (Bu 82 3) f,⟨0,26,2,[[ow 1 0 f,ow 3 0 q]]⟩,ro 0 37 5 (ER 3 35) q]⟩) N (0,[]) D (by refine Wk.trans (LH (id:=3) (st':=[⟨1,26,2,[]⟩,VS,ro 0 80 3 (Bu 82 3) f,⟨0,26,2,[[ow 2 0 f,.own 4 0 (List.length ([]:List AU))]]⟩,ro 0 37 5 (ER 3 35) ([]:List AU)]) (j:=1) rfl AA 37 (size':=5) (by decide) rfl AA AA AA) ?_;exact Eh (L:=[(2,.ptr 0 0 0 0),(3,.ptr 2 0 0 0),(11,ls BT p0.funcs),(12,i64 (Sh.len p0.funcs)),(13,i64 0)]) (st':=[VS,ro 0 80 3 (Bu 82 3) f,⟨0,26,2,[[ow 1 0 f,.own 3 0 (List.length ([]:List AU))]]⟩,ro 0 37 5 (ER 3 35) ([]:List AU)]) (st1:=[VS,ro 0 80 3 (Bu 82 3) f,⟨0,26,2,[[ow 2 0 f,.own 4 0 (List.length ([]:List AU))]]⟩,ro 0 37 5 (ER 3 35) ([]:List AU)]) [1,2,3,4] AA AA (.w (.deep (Aq λ_=>AA) (.w (.deep (Aq λ_=>AA) .nil)))) (.same AA)) (λ_ X=>by rw[DS]at X;cases X) ?_);rintro n ⟨C,q⟩ D;rw[DS]at D;refine Ap AA (AE λb1 M=>?_);refine ci D AA ?_ ?_<;>intro b2 D
 .refine AH (M _ (AE λb3 O=>AK (sr AA λb4 P=>bs D λd Q D=>zx Cd Q AA AA AA (AS AA (DE 4 MM AA (Bw Lj AA (Au (Wk.BY (L:=[(2,BG),(3,CY),(5,gT d),(11,eL p0),(12,i64 (Sh.len p0.funcs)),(13,i64 C)]) (st':=[VS,Q7 f,jM f q,PA q,VU]) (id:=4) rfl th (Ei AA) (.same AA) rfl) (dn P AA ?_))))))));refine Qi (by kernel_rfl) ?_;refine bs D λe G D=>bs D λa H D=>bs D λy I D=>?_;refine Xb (f':=15) (listed':=bm 15 0) rfl (by kernel_rfl) ?_;refine DX 0 (v:=cK) rfl AA (by kernel_rfl) (by kernel_rfl) (by kernel_rfl) rfl (Fa (Kk Kh AA AA tO rfl)) ?_;refine DX 2 (v:=gT d) rfl AA (by kernel_rfl) (by kernel_rfl) (by kernel_rfl) rfl (Fa (NL Th AA AA)) ?_;refine DX 3 (v:=ls eI d.params) rfl AA (by kernel_rfl) (by kernel_rfl) (by kernel_rfl) rfl (PN LS AA AA) ?_;refine DX 5 (v:=.C8 (XD d) 1) rfl AA (by kernel_rfl) (by kernel_rfl) (by kernel_rfl) rfl (Fa (NL RP AA AA)) ?_;refine DX 6 (v:=i64 d.result) rfl AA (by kernel_rfl) (by kernel_rfl) (by kernel_rfl) rfl (PN Hy AA AA) ?_;refine DX 7 (v:=.C8 (XD d) 2) rfl AA (by kernel_rfl) (by kernel_rfl) (by kernel_rfl) rfl (Fa (NL Wq AA AA)) ?_;refine DX 8 (v:=Tw d) rfl AA (by kernel_rfl) (by kernel_rfl) (by kernel_rfl) rfl (Vp BI AA tT rfl) ?_;refine YB (VA λA21 b=>?_);have k:A21 0 (bm 15 32767) ⟨33,AP (VF p0 [(12,i64 (Sh.len p0.funcs)),(13,i64 C)]),kX f y⟩:=(b _ _ _).2 (by
   refine Sw AA (by kernel_rfl) ?_;refine O _ (AF AA (Ac 2 AA ?_));exact AB (xi (Sh.w (C+1),y) D (by exact Eh (L:=[(2,BG),(3,CY),(11,eL p0),(12,i64 (Sh.len p0.funcs)),(13,Kr C)]) (st':=[VS,Q7 f,jM f y,PA y]) (st1:=[VS,Q7 f,gW f y,PA y]) [0,2,1,3] AA AA (.w (.deep (Aq λ_=>AA) (.w (.deep (Aq λ_=>AA) .nil)))) (.same AA))))
  have p:A21 1 (bm 15 16383) ⟨33,AP (VF p0 [(12,i64 (Sh.len p0.funcs)),(13,i64 C),(29,ow 3 1 y),(30,.ptr 1 0 0 1)]),[VS,gW f q,Q7 f,ro 1 37 5 (ER 3 35) y]⟩:=(b _ _ _).2 (by
   refine ya [14] ⟨?_,pA⟩
   .refine yo 14 ?_;exact Bw Pt AA (kq b k (by exact Da (L:=VF p0 [(12,i64 (Sh.len p0.funcs)),(13,i64 C)]) (st':=kX f y) (.raw AA AA (.raw AA AA (.deep (Aq λ_=>AA) (.deep (Aq λ_=>AA) .nil)))) (.same AA))))
  have t:A21 3 (bm 15 4095) ⟨33,AP (VF p0 [(12,i64 (Sh.len p0.funcs)),(13,i64 C),(18,ow 3 0 q),(28,.own 4 0 1)]),bg f q [⟨0,37,5,[[ow 5 0 e,i64 d.result,i64 a.op,i64 a.num,ow 6 0 a.kids]]⟩,BX e,HD a]⟩:=(b _ _ _).2 (by
   refine ya [12] ⟨?_,pA⟩
   .refine yo 12 ?_;have J:=cD I;refine gC (st':=[VS,gW f q,Q7 f,⟨1,37,5,hole y (ER 3 35) (Sh.len q) [ow 5 0 e,i64 d.result,i64 a.op,i64 a.num,ow 6 0 a.kids]⟩,⟨0,37,5,[[ow 5 0 e,i64 d.result,i64 a.op,i64 a.num,ow 6 0 a.kids]]⟩,BX e,HD a]) (c:=AU.mk e d.result a) AN Cd AA AA AA AA AA AA AA I AA ?_;refine Au (Wk.take (id:=3) (m:=5) (j:=0) (i:=Sh.len q) (c:=AU.mk e d.result a) (ys:=e) (encY:=eI) rfl J AA AA AA (by decide) (show 0<=5 by decide) (λ_=>AA) rfl AA) ?_;refine Au (Wk.take (id:=3) (m:=6) (j:=4) (i:=Sh.len q) (c:=AU.mk e d.result a) (ys:=a.kids) (encY:=Bv 35) rfl J AA AA AA (by decide) (show 0<=6 by decide) HY AA AA) ?_;refine Au (NN (id:=3) (i:=Sh.len q) (c:=AU.mk e d.result a) rfl J AA AA) (AB ⟨AA,?_⟩);refine Hx tb 13 AA (by kernel_rfl) rfl ?_;exact yw b p (by exact AM [0,1,2,3] AA AA (.w (.w (.deep (Aq λ_=>AA) (.deep (Aq λ_=>AA) .nil)))) (.same AA)))
  have g:A21 4 (bm 15 2047) ⟨33,AP (VF p0 [(12,i64 (Sh.len p0.funcs)),(13,i64 C),(18,ow 3 0 q),(27,.agg [ow 4 0 e,i64 d.result,i64 a.op,i64 a.num,ow 5 0 a.kids])]),bg f q [BX e,HD a]⟩:=(b _ _ _).2 (by
   refine ya [11] ⟨?_,pA⟩
   .refine yo 11 ?_;refine CC 6 [()] (λ_=>[ow 4 0 e,i64 d.result,i64 a.op,i64 a.num,ow 5 0 a.kids]) Cd AA ?_;exact kq b t (by exact Eh (L:=VF p0 [(12,i64 (Sh.len p0.funcs)),(13,i64 C),(18,ow 3 0 q),(28,.own 4 0 1)]) (st':=bg f q [⟨0,37,5,[[ow 5 0 e,i64 d.result,i64 a.op,i64 a.num,ow 6 0 a.kids]]⟩,BX e,HD a]) (st1:=bg f q [⟨0,37,5,[[ow 4 0 e,i64 d.result,i64 a.op,i64 a.num,ow 5 0 a.kids]]⟩,BX e,HD a]) [0,1,2,3,6,4,5] AA AA (.w (.w (.deep (Aq λ_=>AA) (.deep (Aq λ_=>AA) (.w (.p (.deep (Aq BD) .nil))))))) (.same AA)))
  have h:A21 5 (bm 15 1023) ⟨33,AP (VF p0 [(12,i64 (Sh.len p0.funcs)),(13,i64 C),(18,ow 3 0 q),(21,ow 4 0 e),(23,i64 d.result),(26,.agg (Wb a))]),bg f q [BX e,HD a]⟩:=(b _ _ _).2 (by
   refine ya [10] ⟨?_,pA⟩
   .refine yo 10 ?_;exact zz (.agg [ow 4 0 e,i64 d.result,i64 a.op,i64 a.num,ow 5 0 a.kids]) (DM V0 Vm MM AA AA) rfl (yd b g))
  have o:A21 6 (bm 15 511) ⟨33,AP (VF p0 [(12,i64 (Sh.len p0.funcs)),(13,i64 C),(18,ow 3 0 q),(21,ow 4 0 e),(23,i64 d.result),(25,Tw d)]),bg f q [BX e]⟩:=(b _ _ _).2 (by
   refine ya [9] ⟨?_,pA⟩
   .refine yo 9 ?_;exact Bo (v':=.agg (Wb a)) AN (hb 91) (NP H) rfl AA ⟨Aq BD,pA⟩ AA AA (yd b h))
  have z:A21 7 (bm 15 495) ⟨33,AP (VF p0 [(12,i64 (Sh.len p0.funcs)),(13,i64 C),(18,ow 3 0 q),(20,ls eI d.params),(23,i64 d.result),(25,Tw d)]),kX f q⟩:=(b _ _ _).2 (by
   refine ya [4] ⟨?_,pA⟩
   .refine yo 4 ?_;exact Bo (v':=ow 4 0 e) AN (hb 82) (Ct G) rfl AA ⟨(Bq λ_=>AA),pA⟩ AA AA (yd b o))
  have u:A21 6 (bm 15 1021) ⟨33,AP (VF p0 [(12,i64 (Sh.len p0.funcs)),(13,i64 C),(17,.ptr 1 0 0 1),(21,ow 4 0 e),(23,i64 d.result),(26,.agg (Wb a))]),bg f q [BX e,HD a]⟩:=(b _ _ _).2 (by
   refine ya [1,10] ⟨?_,?_,pA⟩
   .exact lh tb b h
   .refine yo 10 ?_;refine zz (.agg [ow 4 0 e,i64 d.result,i64 a.op,i64 a.num,ow 5 0 a.kids]) (DM V0 Vm MM AA AA) rfl (AB ⟨AA,?_⟩);refine Hx tb 1 AA (by kernel_rfl) rfl ?_;exact lT b g)
  have A:A21 7 (bm 15 509) ⟨33,AP (VF p0 [(12,i64 (Sh.len p0.funcs)),(13,i64 C),(17,.ptr 1 0 0 1),(21,ow 4 0 e),(23,i64 d.result),(25,Tw d)]),bg f q [BX e]⟩:=(b _ _ _).2 (by
   refine ya [1,9] ⟨?_,?_,pA⟩
   .exact lh tb b o
   .refine yo 9 ?_;exact Bo (v':=.agg (Wb a)) AN (hb 91) (NP H) rfl AA ⟨Aq BD,pA⟩ AA AA (yd b u))
  have B:A21 8 (bm 15 493) ⟨33,AP (VF p0 [(12,i64 (Sh.len p0.funcs)),(13,i64 C),(17,.ptr 1 0 0 1),(20,ls eI d.params),(23,i64 d.result),(25,Tw d)]),kX f q⟩:=(b _ _ _).2 (by
   refine ya [1,4] ⟨?_,?_,pA⟩
   .exact lh tb b z
   .refine yo 4 ?_;exact Bo (v':=ow 4 0 e) AN (hb 82) (Ct G) rfl AA ⟨(Bq λ_=>AA),pA⟩ AA AA (yd b A))
  refine (b _ _ _).2 ?_;exact yw b B (by exact Eh (L:=VF p0 [(12,i64 (Sh.len p0.funcs)),(13,i64 C),(17,.ptr 1 0 0 1),(20,ls eI d.params),(23,i64 d.result),(25,Tw d)]) (st':=kX f q) (st1:=[VS,jM f q,Q7 f,PA q]) [0,2,1,3] AA AA (.w (.w (.deep (Aq λ_=>AA) (.deep (Aq λ_=>AA) .nil)))) (.same AA))
 .exact Av (Z q (AT D) _ Ao)
theorem TR {N:Nat}{tm:Int}{uB:List AL}{uR:List AU}{s2:List AD}{xR xE p1:Int}{r:AD}(h0:Li N tm uB uR s2 xR xE p1=some r):Bd 42 [.agg [i64 xR,i64 xE,ow 2 0 s2],i64 p1,BG,CJ] [I2 tm,HM uB uR,Gi s2] (.agg (QO r)) (Nd tm uB uR [HD r]):=by
 unfold Li at h0;refine BJ.wk (r0:=.agg (QO r)) (st0:=Nd tm uB uR [HD r,⟨0,35,3,[QO r]⟩]) ?_ (D2 (L:=[(0,.agg (QO r))]) (st':=Nd tm uB uR [HD r]) [0,1,2,3] AA (by decide) rfl AA (.raw AA (.raw AA (.pure (by intro x i;cases i) (.deep (Aq BD) pA)))) (.same AA));refine ai Tryz.func42 AA AA AA AA (AG (Vk (L:=[(0,.agg (WB xR xE s2)),(1,i64 p1),(2,BG),(3,CJ)]) (id:=2) (N:=3) (st':=Nd tm uB uR [Gi s2]) rfl AA (.same AA) rfl) (sr AA λE p=>Ef 4 AA (DE 5 De AA (dn p AA (AE λG q=>AE λC t=>bs h0 λA l h0=>?_)))));have B:∀u,A=u->∀s,Wk 3 s ⟨29,AP [(1,i64 p1),(2,BG),(3,CJ),(4,Ix),(6,Sf),(15,.bool u)],Nd tm uB uR [Gi s2,⟨0,35,3,[WB xR xE s2]⟩,Hm]⟩->C s:=by
  intro u hq s D;subst A;refine t _ (AG D ?_);refine ci h0 AA ?_ ?_<;>intro H h0
  .refine sr AA λI w=>AS AA (Bw BI AA (dn w AA ?_));cases h0;exact An ⟨_,((AM (L:=[(6,Ix)]) (st':=Nd tm uB uR [Gi s2,⟨0,35,3,[WB xR xE s2]⟩]) [0,1,2,3,5] AA AA (.w (.w (.pure (by intro x i;cases i) (.deep (Aq BD) (.w .nil))))) ⟨.rfl,pA⟩).trans (Ag (L:=[(6,Ix)]) ⟨.rfl,pA⟩)),FX (.tmp 6) (WB xR xE s2) BI AA _ ⟨AA,AA⟩⟩
  .refine AH (q _ (AE λJ y=>?_));refine Qi (by kernel_rfl) ?_;refine bs h0 λo z h0=>bs h0 λh k h0=>bs h0 λc n h0=>?_;refine Xb (f':=13) (listed':=bm 13 0) rfl (by kernel_rfl) ?_;refine DX 0 (v:=.ptr 4 0 0 2) rfl AA (by kernel_rfl) (by kernel_rfl) (by kernel_rfl) rfl (Fa (Kk aT AA AA tQ rfl)) ?_;refine DX 2 (v:=.ptr 1 0 0 1) rfl AA (by kernel_rfl) (by kernel_rfl) (by kernel_rfl) rfl (Fa (Kk Kh AA AA tO rfl)) ?_;refine DX 8 (v:=i64 p1) rfl AA (by kernel_rfl) (by kernel_rfl) (by kernel_rfl) rfl (Fa (IZ AA)) ?_;refine DX 10 (v:=i64 p1) rfl AA (by kernel_rfl) (by kernel_rfl) (by kernel_rfl) rfl (Fa (IZ AA)) ?_;refine YB (VA λA12 b=>?_);have d:A12 0 (bm 13 8191) ⟨29,AP [(6,IH)],Nd tm uB uR [⟨0,35,3,[dW c]⟩,HD c]⟩:=(b _ _ _).2 (by
    refine Sw AA (by kernel_rfl) ?_;refine y _ ?_;obtain rfl:=Sh.Bf h0;exact An (Exists.intro _ (And.intro ((Eh (L:=[(6,Ix)]) (st':=Nd tm uB uR [HD c,⟨0,35,3,[QO c]⟩]) (st1:=Nd tm uB uR [HD c,⟨0,35,3,[dW c]⟩]) [0,1,2,4,3] AA AA (.w (.w (.pure (by intro x i;cases i) (.deep (Aq BD) (.w .nil))))) (.same AA)).trans (Ag (L:=[(6,Ix)]) (.same AA))) (FX (.tmp 6) (QO c) BI AA _ ⟨AA,AA⟩))))
   have e:A12 1 (bm 13 4095) ⟨29,AP [(6,IH),(28,.agg (dW c))],Nd tm uB uR [Hm,HD c]⟩:=(b _ _ _).2 (by
    refine ya [12] ⟨?_,pA⟩
    .refine yo 12 ?_;exact Bw BI AA (yd b d))
   have a:A12 2 (bm 13 2047) ⟨29,AP [(6,IH),(18,ow 4 0 s2),(26,.agg (Wb h)),(27,i64 p1)],Nd tm uB uR [Hm,Gi s2,HD h]⟩:=(b _ _ _).2 (by
    refine ya [11] ⟨?_,pA⟩
    .refine yo 11 ?_;refine Au (Sv (L:=[(6,IH),(18,Hd s2),(26,.agg (Wb h)),(27,i64 p1)]) (st':=Nd tm uB uR [Hm,D0,HD h]) (id:=4) rfl (show 3<=4 by decide) (Go.Abs.Jx HY) ⟨.rfl,(.eN AA (λx=>Mn x)),.agg ⟨.rfl,.rfl,.rfl,pA⟩,.rfl,pA⟩ AA) ?_;refine G8 (rowsP:=[HD h]) (rows0:=[HD h]) (rows1:=[D0]) (rows2:=[HD c]) (rows1':=[D0]) (rows2':=[HD c]) (st':=Nd tm uB uR [Hm,D0,D0,HD c]) (v':=.agg [i64 c.op,i64 c.num,ow 6 0 c.kids]) [5] AN (hb 43) (La.TN KJ n) rfl (by decide) rfl AA (.deep (Aq BD) .nil) rfl AA (.pure (by intro x i;cases i) .nil) (.deep (Aq BD) .nil) rfl AA ?_;exact kq b e (by exact AM [0,1,2,3,6] AA AA (.w (.w (.pure (by intro x i;cases i) (.w (.deep (Aq BD) .nil))))) (.same AA)))
   have f:A12 3 (bm 13 1535) ⟨29,AP [(6,IH),(18,ow 4 0 s2),(24,Tw o),(25,i64 p1),(27,i64 p1)],Nd tm uB uR [Hm,Gi s2]⟩:=(b _ _ _).2 (by
    refine ya [9] ⟨?_,pA⟩
    .refine yo 9 ?_;exact Bo (v':=.agg (Wb h)) AN (hb 44) (KJ k) rfl AA ⟨Aq BD,pA⟩ AA AA (yd b a))
   have g:A12 4 (bm 13 1533) ⟨29,AP [(6,IH),(17,.ptr 4 0 0 2),(24,Tw o),(25,i64 p1),(27,i64 p1)],Nd tm uB uR [Hm,⟨0,35,3,[[i64 xR,i64 xE,ow 5 0 s2]]⟩,Gi s2]⟩:=(b _ _ _).2 (by
    refine ya [1,9] ⟨?_,?_,pA⟩
    .refine yo 1 ?_;exact AS AA (kq b f (by exact AM [0,1,2,3,5] AA AA (.w (.w (.pure (by intro x i;cases i) (.w (.deep (Aq BD) .nil))))) (.same AA)))
    .refine yo 9 ?_;refine Bo (v':=.agg [i64 h.op,i64 h.num,ow 6 0 h.kids]) AN (hb 44) (KJ k) rfl AA ⟨Aq BD,pA⟩ AA AA (AB ⟨AA,?_⟩);refine Hx tb 1 AA (by kernel_rfl) rfl ?_;exact yw b a (by exact AM [0,1,2,3,5,6] AA AA (.w (.w (.pure (by intro x i;cases i) (.w (.deep (Aq BD) (.deep (Aq BD) .nil)))))) (.same AA)))
   refine (b _ _ _).2 ?_;refine Hx tb 3 AA (by kernel_rfl) rfl ?_;refine Hx tb 4 AA (by kernel_rfl) rfl ?_;refine Oy 5 (v:=Rr o) rfl (by kernel_rfl) (by kernel_rfl) (CR Cd AA AA z AA) ?_;refine Hx tb 6 AA (by kernel_rfl) rfl ?_;refine Hx tb 7 AA (by kernel_rfl) rfl ?_;exact yw b g (by exact Eh (L:=[(6,IH),(17,.ptr 4 0 0 2),(24,Tw o),(25,i64 p1),(27,i64 p1)]) (st':=Nd tm uB uR [Hm,⟨0,35,3,[[i64 xR,i64 xE,ow 5 0 s2]]⟩,Gi s2]) (st1:=Nd tm uB uR [Hm,⟨0,35,3,[WB xR xE s2]⟩,Gi s2]) [0,1,2,5,4,3] AA AA (.w (.w (.pure (by intro x i;cases i) (.w (.w (.deep (Aq BD) .nil)))))) (.same AA))
 refine AF AA (Ac 4 AA ?_);rcases Sh.Ad l with ⟨j,l⟩|⟨j,l⟩
 .refine zs j AA ?_;iterate 3 refine zs j rfl ?_
  exact zt j AA (AB (B true (AT l) _ Ao))
 .refine Aw j AA ?_;iterate 3 refine Aw j rfl ?_
  exact zf j AA (AB (B (!decide (xE=tm)) (AT l) _ Ao))
theorem ON {N:Nat}{uG:(List AD)->Int->(List AL)->(List AU)->(List AL)->Int->Int->Int->Option (AD×Int)}(vK :∀{s0:List AD} {uB:Int} {uS:List AL} {uT:List AU} {p0:List AL} {tp:Int} {uj:Int} {p2:Int} {r:AD×Int},uG s0 uB uS uT p0 tp uj p2=some r->Bd 56 (ld p0 tp uj s0 p2) [Gi s0,I2 uB,HM uS uT] (.agg (WB r.1.op r.1.num r.1.kids)) [D0,I2 r.2,HM uS uT,Gi r.1.kids]){s0:List AD}{uB:Int}{uS:List AL}{uT:List AU}{p0:List AL}{tp uj p2:Int}{r:AD×Int}(h0:Hj N uG s0 uB uS uT p0 tp uj p2=some r):Bd 56 (ld p0 tp uj s0 p2) [Gi s0,I2 uB,HM uS uT] (.agg (WB r.1.op r.1.num r.1.kids)) [D0,I2 r.2,HM uS uT,Gi r.1.kids]:=by
 unfold Hj at h0;refine BJ.wk (r0:=.agg (WB r.1.op r.1.num r.1.kids)) (st0:=[D0,I2 r.2,HM uS uT,Gi r.1.kids,⟨0,35,3,[WB r.1.op r.1.num r.1.kids]⟩]) ?_ (D2 (L:=[(0,.agg (WB r.1.op r.1.num r.1.kids))]) (st':=[D0,I2 r.2,HM uS uT,Gi r.1.kids]) [0,1,2,3] AA (by decide) rfl AA (.pure (by intro x E;cases E) (.raw AA (.raw AA (.deep (Aq BD) pA)))) (.same AA));refine ai Tryz.func56 AA AA AA AA (sr AA λK1 b2=>Ef 3 AA (DE 4 De AA (dn b2 AA (AE λK2 b3=>sr AA λK3 b4=>Ac 2 AA (zz (HC s0) (DD Ub AA AA AA) rfl (AS AA (dn b4 AA (bs h0 λo9 y h0=>?_))))))));have M9:∀H D,o9=(H,D)->∀s,Wk 3 s ⟨67,AP [(2,i64 p2),(3,.fn 42 [CJ,CY]),(5,IH),(8,Ix)],[Gi H,I2 D,HM uS uT,TS tp uj H,Hm]⟩->K2 s:=by
  rintro H D rfl s I;refine b3 _ (AG I (sr AA λc1 O=>Ac 3 AA (bs h0 λq P h0=>?_)));refine TA (rowsP:=[I2 D,HM uS uT,Gi H]) (rows0:=[I2 D,HM uS uT,Gi H]) (rows1:=Nd D uS uT []) (rows2:=[HD q]) (rows1':=Nd D uS uT []) (rows2':=[HD q]) (st':=[D0,I2 D,HM uS uT,TS tp uj H,Hm,HD q]) (v':=.agg (Wb q)) [1,2,0] AN AA (hb 42) (TR P) rfl (by decide) rfl AA (.raw AA AA (.raw AA AA (.deep (Aq BD) .nil))) rfl AA (.raw AA AA (.raw AA AA (.pure (by intro x E;cases E) .nil))) (.deep (Aq BD) .nil) rfl AA ?_;refine Bw BI AA (dn O AA ?_);cases h0;exact An ⟨_,((Eh (L:=[(8,Ix)]) (st':=[D0,I2 D,HM uS uT,HD q,⟨0,35,3,[QO q]⟩]) (st1:=[D0,I2 D,HM uS uT,HD q,⟨0,35,3,[Wb q]⟩]) [0,1,2,5,4] AA AA (.pure (by intro x E;cases E) (.w (.w (.deep (Aq BD) (.w .nil))))) (.same AA)).trans (Ag (L:=[(8,Ix)]) (.same AA))),FX (.tmp 8) (QO q) BI AA _ ⟨AA,AA⟩⟩
 refine AK (Am (σ:=Int×(List AD)×Int) (λn v=>Cr N s0 uS uT p0 tp uj p2 uG n v.1 v.2.1 v.2.2=some o9) (λ(e,g,z)=>⟨67,AP [(0,ls Ai p0),(2,i64 p2),(3,.fn 42 [.ptr 1 0 0 0,.ptr 2 0 0 0]),(5,.ptr 3 0 0 0),(8,.ptr 4 0 0 0),(13,i64 (Sh.len s0)),(14,i64 e)],[ro 0 35 3 (Bv 35) g,I2 z,HM uS uT,⟨0,35,3,[[i64 tp,i64 uj,ow 0 0 g]]⟩,Hm]⟩) N (0,s0,uB) y Ao (λ_ hv=>by rw[Cr]at hv;cases hv) ?_);rintro n ⟨e,g,z⟩ y;rw[Cr]at y;refine Ap AA (AE λc2 Q=>?_);refine ci y AA ?_ ?_<;>intro c3 y
 .refine AH (Q _ (AE λc4 R=>AK ?_));iterate 2 refine Ap rfl ?_
  refine AE λb5 S=>bs y λT t y=>?_;have J:∀f,T=f->∀s,Wk 3 s ⟨67,AP (aH p0 p2 ((5,IH)::(8,Ix)::(9,i64 e)::(10,i64 f)::Ui s0 e [])),[Gi g,I2 z,HM uS uT,TS tp uj g,Hm]⟩->b5 s:=by
   intro f hq s I;subst T;refine S _ (AG I ?_);refine ID (by kernel_rfl) ?_;refine bs y λb p y=>bs y λa F y=>Kv λA23 k=>?_;have h:A23 0 (bm 14 16383) ⟨67,AP (aH p0 p2 ((5,IH)::(8,Ix)::Ui s0 e [])),[ro 0 35 3 (Bv 35) (Sh.put g e a.1),I2 a.2,HM uS uT,⟨0,35,3,[[i64 tp,i64 uj,ow 0 0 (Sh.put g e a.1)]]⟩,Hm]⟩:=(k _ _ _).2 (by
    refine Gr AA (by kernel_rfl) ?_;exact R _ (AF AA (Ac 2 AA (AB (xi (Sh.w (e+1),Sh.put g e a.1,a.2) y (Ag (L:=aH p0 p2 [(5,IH),(8,Ix),(13,HC s0),(14,Kr e)]) (.same AA)))))))
   have d:A23 1 (bm 14 8191) ⟨67,AP (aH p0 p2 ((5,Ix)::(8,Sf)::Ui s0 e [(60,.agg [i64 a.1.op,i64 a.1.num,ow 6 0 a.1.kids]),(61,.ptr 0 0 (Int.toNat e) 0)])),((gp g e b)::Nd a.2 uS uT [TS tp uj g,Hm,Gi a.1.kids])⟩:=(k _ _ _).2 (by
    refine xa [13] ⟨?_,pA⟩
    .refine xo 13 ?_;refine ff (x':=[i64 a.1.op,i64 a.1.num,ow 6 0 a.1.kids]) (st':=(⟨0,35,3,hole g (Bv 35) e [i64 a.1.op,i64 a.1.num,ow 6 0 a.1.kids]⟩::Nd a.2 uS uT [TS tp uj g,Hm,Gi a.1.kids])) AN BI AA AA p AA AA AA tL rfl AA ?_;refine Au (Wk.take (id:=0) (m:=6) (j:=2) (i:=e) (c:=b) (ys:=a.1.kids) (encY:=Bv 35) rfl p AA AA AA (by decide) (show 3<=6 by decide) HY AA AA) ?_;refine Au (US (id:=0) (i:=e) (u:=a.1) rfl (Iq a.1).symm AA) (AB ⟨AA,?_⟩);exact BK (by refine Wk.trans (Ag (L:=[(0,.sl (List.map Ai p0)),(2,i64 p2),(3,.fn 42 [.ptr 1 0 0 0,.ptr 2 0 0 0]),(5,.ptr 4 0 0 0),(8,.ptr 5 0 0 0),(13,i64 (Sh.len s0)),(14,i64 e)]) (.same AA)) ?_;refine Wk.trans (GF (st:=[⟨0,35,3,List.map (Bv 35) (Sh.put g e a.1)⟩,I2 a.2,⟨0,26,2,[[.sl (List.map Ai uS),.sl (List.map BT uT)]]⟩,⟨1,35,3,[]⟩,⟨0,35,3,[[i64 tp,i64 uj,.own 0 0 (List.length g)]]⟩,Hm,⟨1,35,3,[]⟩]) (st':=[⟨0,35,3,List.map (Bv 35) (Sh.put g e a.1)⟩,I2 a.2,⟨0,26,2,[[.sl (List.map Ai uS),.sl (List.map BT uT)]]⟩,⟨1,35,3,[]⟩,⟨0,35,3,[[i64 tp,i64 uj,.own 0 0 (List.length (Sh.put g e a.1))]]⟩,Hm,⟨1,35,3,[]⟩]) (by simp only[Sh.GS])) ?_;exact AM [0,1,2,4,5] AA AA (.deep (Aq BD) (.w (.w (.w (.w .nil))))) (.same AA)) (Bp (by kernel_rfl) ((k _ _ _).1 h)) rfl)
   have l:A23 3 (bm 14 2047) ⟨67,AP (aH p0 p2 ((5,Ix)::(8,Sf)::Ui s0 e [(50,ow 0 0 g),(51,i64 e),(52,D4 p0),(57,.agg (QO b)),(58,i64 f),(59,.fn 42 [CJ,CY])])),[gp g e b,I2 z,HM uS uT,HD b,TS tp uj g,Hm]⟩:=(k _ _ _).2 (by
    refine xa [11] ⟨?_,pA⟩
    .refine xo 11 ?_;refine G8 (rowsP:=[HD b,I2 z,HM uS uT]) (rows0:=[HD b,I2 z,HM uS uT]) (rows1:=[D0,I2 a.2,HM uS uT]) (rows2:=[Gi a.1.kids]) (rows1':=[D0,I2 a.2,HM uS uT]) (rows2':=[Gi a.1.kids]) (st':=((gp g e b)::Nd a.2 uS uT [TS tp uj g,Hm,Gi a.1.kids])) (v':=.agg [i64 a.1.op,i64 a.1.num,ow 6 0 a.1.kids]) [3,1,2] AN (hb 56) (vK F) rfl (by decide) rfl AA (.deep (Aq BD) (.raw AA AA (.raw AA AA .nil))) rfl AA (.pure (by intro x E;cases E) (.raw AA AA (.raw AA AA .nil))) (.deep (Aq BD) .nil) rfl AA ?_;refine AB ⟨AA,?_⟩;refine Ig 12 (v:=.ptr 0 0 (Int.toNat e) 0) rfl (by kernel_rfl) (by kernel_rfl) (Tv BZ AA AA AA AA p) ?_;exact xt k d)
   have o:A23 4 (bm 14 2045) ⟨67,AP (aH p0 p2 ((5,Ix)::(8,Sf)::Ui s0 e [(49,.ptr 4 0 0 2),(51,i64 e),(52,D4 p0),(57,.agg (QO b)),(58,i64 f),(59,.fn 42 [CJ,CY])])),[gp g e b,I2 z,HM uS uT,HD b,TS tp uj g,Hm]⟩:=(k _ _ _).2 (by
    refine xa [1,11] ⟨?_,?_,pA⟩
    .exact xq tb k l
    .refine xo 11 ?_;refine G8 (rowsP:=[HD b,I2 z,HM uS uT]) (rows0:=[HD b,I2 z,HM uS uT]) (rows1:=[D0,I2 a.2,HM uS uT]) (rows2:=[Gi a.1.kids]) (rows1':=[D0,I2 a.2,HM uS uT]) (rows2':=[Gi a.1.kids]) (st':=((gp g e b)::Nd a.2 uS uT [TS tp uj g,Hm,Gi a.1.kids])) (v':=.agg [i64 a.1.op,i64 a.1.num,ow 6 0 a.1.kids]) [3,1,2] AN (hb 56) (vK F) rfl (by decide) rfl AA (.deep (Aq BD) (.raw AA AA (.raw AA AA .nil))) rfl AA (.pure (by intro x E;cases E) (.raw AA AA (.raw AA AA .nil))) (.deep (Aq BD) .nil) rfl AA ?_;refine AB ⟨AA,?_⟩;refine FZ tb 1 AA AA ?_;refine Ig 12 (v:=.ptr 0 0 (Int.toNat e) 0) rfl (by kernel_rfl) (by kernel_rfl) (Tv BZ AA AA AA AA p) ?_;exact xt k d)
   refine (k _ _ _).2 ?_;refine FZ tb 0 AA AA ?_;refine FZ tb 2 AA AA ?_;refine FZ tb 3 AA AA ?_;refine FZ tb 4 AA AA ?_;refine FZ tb 5 AA AA ?_;refine FZ tb 6 AA AA ?_;refine Ig 7 (v:=.ptr 0 0 (Int.toNat e) 0) rfl (by kernel_rfl) (by kernel_rfl) (CD BZ AA AA AA AA p) ?_;refine BK (QN (id:=0) (j:=2) (i:=e) (c:=b) (ys:=b.kids) (encY:=Bv 35) (x:=[i64 b.op,i64 b.num,.dv 35 3 (List.map (Bv 35) b.kids)]) (x':=Wb b) (st':=[⟨0,35,3,hole g (Bv 35) e (Wb b)⟩,I2 z,HM uS uT,TS tp uj g,Hm,HD b]) rfl p (Iq _) rfl AA AA AA) ?_ AA;refine YG 8 AA AA (by kernel_rfl) (V7 BI AA AA (Ln p) tL rfl) ?_;refine FZ tb 9 AA AA ?_;refine FZ tb 10 AA AA ?_;exact xw k o (by exact Eh (L:=aH p0 p2 ((5,Ix)::(8,Sf)::Ui s0 e [(49,.ptr 4 0 0 2),(51,i64 e),(52,D4 p0),(57,.agg (QO b)),(58,i64 f),(59,.fn 42 [CJ,CY])])) (st':=[gp g e b,I2 z,HM uS uT,HD b,TS tp uj g,Hm]) (st1:=[⟨0,35,3,hole g (Bv 35) e (Wb b)⟩,I2 z,HM uS uT,HD b,TS tp uj g,Hm]) [0,1,2,5,3,4] AA AA (.hol (Aq BD) (Zp Ye) rfl AA (.w (.w (.deep (Aq BD) (.w (.w .nil)))))) (.same AA))
  refine AK (AE λb6 U=>bs t λV C t=>?_);have W:∀K,V=K->∀s,Wk 3 s ⟨67,AP (aH p0 p2 ((5,IH)::(8,Ix)::(9,i64 e)::(10,i64 p2)::Ui s0 e [(18,.bool K)])),[Gi g,I2 z,HM uS uT,TS tp uj g,Hm]⟩->b6 s:=by
   intro K hq s I;subst V;refine U _ (AG I ?_);refine ci t AA ?_ ?_<;>intro c5 t
   .exact AF AA (Ac 3 AA (AB (J (Sh.w (p2+1)) (AT t) _ Ao)))
   .refine AE λb7 X=>bs t λY C t=>?_;have Z:∀M,Y=M->∀s,Wk 3 s ⟨67,AP (aH p0 p2 ((5,IH)::(8,Ix)::(9,i64 e)::(10,i64 p2)::Ui s0 e [(28,.bool M)])),[Gi g,I2 z,HM uS uT,TS tp uj g,Hm]⟩->b7 s:=by
     intro M hq s I;subst Y;refine X _ (AG I ?_);refine ci t AA ?_ ?_<;>intro c6 t
     .refine AF AA (Ac 5 AA (bs t λb8 b0 t=>Bo (v':=ow 5 0 b8) AN (hb 66) (Py b0) rfl AA ⟨(Bq λ_=>AA),pA⟩ AA AA (Ac 2 AA (bs t λb9 G t=>zz (.ptr 5 0 (Int.toNat (Sh.w (e-1))) 0) (CD BF AA AA AA AA G) rfl (zz (i64 b9) (CG Hy AA AA (CS G) rfl) rfl (bs t λc0 b1 t=>Gs (hb 92) (Ny b1) rfl (CZ AA (Ac 2 AA ?_))))))));exact AB (J (Sh.w (p2+Sh.len c0)) (AT t) _ (AM [0,1,2,3,4] AA AA (.deep (Aq BD) (.w (.w (.w (.w .nil))))) (.same AA)))
     .exact AH (J p2 (AT t) _ Ao)
    refine AF AA (Ac 4 AA ?_);rcases Sh.Ad C with ⟨A,C⟩|⟨A,C⟩
    .exact Aw A AA (Aw A AA (zt A AA (AS AA (AB (Z (decide (0<e)) (AT C) _ Ao)))))
    .exact zs A AA (zs A AA (zf A AA (AS AA (AB (Z false (AT C) _ Ao)))))
  refine AF AA (Ac 4 AA ?_);rcases Sh.Ad C with ⟨B,C⟩|⟨B,C⟩
  .exact Aw B AA (Aw B AA (zt B AA (AS AA (AB (W (decide (e=1)) (AT C) _ Ao)))))
  .exact zs B AA (zs B AA (zf B AA (AS AA (AB (W false (AT C) _ Ao)))))
 .exact Av (M9 g z (AT y) _ Ao)
theorem OL {N:Nat}:∀(n:Nat),∀{s0:List AD} {uB:Int} {uS:List AL} {uT:List AU} {p0:List AL} {tp:Int} {uj:Int} {p2:Int} {r:AD×Int},DP N n s0 uB uS uT p0 tp uj p2=some r->Bd 56 (ld p0 tp uj s0 p2) [Gi s0,I2 uB,HM uS uT] (.agg (WB r.1.op r.1.num r.1.kids)) [D0,I2 r.2,HM uS uT,Gi r.1.kids]:=by
 intro n
 induction n with
 |zero=>intro s0 uB uS uT p0 tp uj p2 r a;cases a
 |succ n ih=>
  intro s0 uB uS uT p0 tp uj p2 r a;rw[DP]at a;exact ON (λh=>ih h) a
theorem Lf {N:Nat}:∀{s0:List AD} {uB:Int} {uS:List AL} {uT:List AU} {p0:List AL} {tp:Int} {uj:Int} {p2:Int} {r:AD×Int},KP N s0 uB uS uT p0 tp uj p2=some r->Bd 56 (ld p0 tp uj s0 p2) [Gi s0,I2 uB,HM uS uT] (.agg (WB r.1.op r.1.num r.1.kids)) [D0,I2 r.2,HM uS uT,Gi r.1.kids]:=by
 intro s0 uB uS uT p0 tp uj p2 r a;exact OL N a
end Go.Proofs.YtihdgoiebmfapaaGreat
