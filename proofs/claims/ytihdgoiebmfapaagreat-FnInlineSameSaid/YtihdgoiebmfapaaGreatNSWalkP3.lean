import Derived.Test.YtihdgoiebmfapaaGreatNSWalkP2
set_option linter.all false
namespace Go.Proofs.YtihdgoiebmfapaaGreat
open Go Go.Abs RC
attribute [local irreducible] Go.Abs.EK
set_option maxRecDepth 100000
set_option maxHeartbeats 4000000
theorem X3:DB Tryz.prog 62=some ⟨4,1,1,[.bool false]⟩:=by kernel_rfl
theorem lr:Dc Tryz.prog 4=some (false,1):=by kernel_rfl
theorem oI:Dc Tryz.prog 62=some (false,1):=by kernel_rfl
theorem nf:IK Tryz.prog 62=some [.zc]:=by kernel_rfl
theorem Me {N:Nat}{tq:(List Int)->BO->AD->Option (Int)}(tx :∀{s0:List Int} {p0:BO} {p2:AD} {r:Int},tq s0 p0 p2=some r->Bf 81 [Ku p0,ow 0 0 s0,Bd p2] [BY s0] (i64 r) [BY s0]){s0:List Int}{p0:BO}{p2:AD}{r:Int}(h0:Al N tq s0 p0 p2=some r):Bf 81 [Ku p0,ow 0 0 s0,Bd p2] [BY s0] (i64 r) [BY s0]:=by
 unfold Al at h0;refine ai Tryz.func81 AA AA AA AA (sr AA λK1 q8=>Ee 1 AA (Ee 2 AA (AT AA (dn q8 AA (AE λK2 q9=>Ap AA (AL (Ap AA ?_)))))));refine ci h0 AA ?_ ?_<;>intro b5 h0
 .refine AE λK6 t0=>AE λK7 t1=>bs h0 λo9 d h0=>?_;have M9:∀t8,o9=t8->∀s,Wk 1 s ⟨194,AP [(1,ow 0 0 s0),(5,CM),(36,.bool t8)],[BY s0,PY p2.op p2.num p2.kids]⟩->K7 s:=by
   intro t8 hq s hw;subst o9;refine t1 _ (AG hw ?_);refine ci h0 AA ?_ ?_<;>intro w5 h0
   .refine Ap AA ?_;obtain rfl:=Sh.BU h0;exact Am (xr (AM (L:=[(6,i64 (-1))]) (st':=[BY s0]) [0] AA AA (.p .nil) ⟨.rfl,oz⟩))
   .refine AH (t0 _ (sr AA λw6 g5=>Ac 3 AA (bs h0 λg6 c5 h0=>zz (.ptr 0 0 (Int.toNat p2.num) 0) (CD BF AA AA AA AA c5) rfl (zz (i64 g6) (CF Hy AA AA (CQ c5) rfl) rfl (AT AA (dn g5 AA ?_))))));obtain rfl:=Sh.BU h0;exact Am (xr (AM (L:=[(6,i64 g6)]) (st':=[BY s0]) [0] AA AA (.p .nil) ⟨.rfl,oz⟩))
  refine AF AA (Ac 2 AA (CY AA (Ac 2 AA ?_)));rcases Sh.Ae d with ⟨T,d⟩|⟨T,d⟩
  .refine zs T AA (zs T AA (zs T AA (zt T AA (AT AA ?_))));iterate 5 refine zs rfl rfl ?_
   refine zt AA AA ?_;exact AB (M9 true (AS d) _ (AM [0,2] AA AA (.p (.w .nil)) (.same AA)))
  .refine Ay T AA (Ay T AA (Ay T AA (zf T AA (AT AA ?_))));rcases Sh.Ae d with ⟨O,d⟩|⟨O,d⟩
   .refine zs O AA ?_;iterate 4 refine zs O rfl ?_
    refine zt O AA ?_;exact AB (M9 true (AS d) _ (AM [0,2] AA AA (.p (.w .nil)) (.same AA)))
   .refine Ay O AA (Ay O AA (Ay O AA (BW (v:=G7 s0) (CR AA AA O) rfl (DE Gd AA AA AA) (Ay O AA (zf O AA ?_)))));exact AB (M9 (decide ((Sh.len s0)<=p2.num)) (AS d) _ (AM [0,2] AA AA (.p (.w .nil)) (.same AA)))
 .refine Ap AA ?_;refine ci h0 AA ?_ ?_<;>intro w7 h0
  .refine AE λw8 g7=>AE λt2 g8=>bs h0 λg9 d h0=>?_;have h2:∀d0,g9=d0->∀s,Wk 1 s ⟨194,AP [(1,ow 0 0 s0),(3,CM),(5,CV),(52,.bool d0)],dM s0 p0 p2 []⟩->t2 s:=by
    intro d0 hq s hw;subst g9;refine g8 _ (AG hw ?_);refine ci h0 AA ?_ ?_<;>intro w9 h0
    .refine Ap AA ?_;cases h0;exact Am (xr (AM (L:=[(6,i64 (-1))]) (st':=[BY s0]) [0] AA AA (.p .nil) ⟨.rfl,oz⟩))
    .refine AH (g7 _ (AE λA0 h3=>?_));refine Cc (by kernel_rfl) (by kernel_rfl) (by rfl) ?_;iterate 4 refine yq tb rfl ?_
     refine bs h0 λt3 h4 h0=>yz (EP t3) (Cb Ba AA AA h4 (Af _) rfl) rfl (yq tb AA (bs h0 λg h5 h0=>?_));refine XO (rowsP:=[BY s0]) (rows0:=[BY s0]) (rows1:=[BY s0]) (rows1':=[BY s0]) (v':=i64 g) [0] AN (hb 81) (tx h5) rfl (by decide) rfl AA (.pure Bn .nil) rfl AA (.pure Bn .nil) rfl AA ?_;refine yq tb AA (Av (h3 _ (AE λA1 h6=>Ap AA ?_)));refine ci h0 AA ?_ ?_<;>intro A2 h0
     .refine Ap AA ?_;cases h0;exact Am (xr (AM (L:=[(6,i64 (-1))]) (st':=[BY s0]) [0] AA AA (.p .nil) ⟨.rfl,oz⟩))
     .refine AH (h6 _ (AE λA3 c6=>?_));refine Hw (by kernel_rfl) ?_;refine bs h0 λf S h0=>bs h0 λh z h0=>bs h0 λb4 c7 h0=>AX.two (BY s0) (BY f) λyX zw a e=>?_;have p:zw 0 (bm 11 2047) ⟨194,AP [(6,i64 b4)],[BY f]⟩:=(e _ _ _).2 (by
       refine Gi AA (by kernel_rfl) ⟨⟨_,AA⟩,?_⟩;refine c6 _ ?_;obtain rfl:=Sh.BU h0;exact Am (Exists.intro _ (And.intro (Ag (L:=[(6,i64 b4)]) (.same AA)) (And.intro AA AA))))
      have b:zw 2 (bm 11 511) ⟨194,AP [(62,Ku p0),(66,ow 0 0 f),(70,Bd h)],[BY f]⟩:=(e _ _ _).2 (by
       refine xa [9] ⟨?_,oz⟩
       .refine xo 9 ?_;refine QK (rows0:=[BY f]) (rows1:=[BY f]) (st':=[BY f]) (v':=i64 b4) [0] AN (hb 81) (tx c7) rfl (by decide) rfl AA (.pure Bn .nil) rfl AA (.pure Bn .nil) .nil AA AA ?_;refine AB ⟨AA,?_⟩;refine Fb tb 10 AA AA ?_;exact xt e p)
      have P:zw 5 (bm 11 63) ⟨194,AP [(62,Ku p0),(66,ow 0 0 f),(67,.ptr 1 0 0 2)],[BY f,PY p2.op p2.num p2.kids]⟩:=(e _ _ _).2 (by
       refine Fb tb 6 AA AA ?_;refine Ik 7 (v:=EP h) rfl (by kernel_rfl) (by kernel_rfl) (Cb Ba AA AA z (Af _) rfl) ?_;refine Fb tb 8 AA AA ?_;exact xw e b (by exact AM [0] AA AA (.p .nil) (.same AA)))
      have q:yX 0 (bm 11 2047) ⟨194,AP [(6,i64 b4)],[BY s0]⟩:=(a _ _ _).2 (by
       refine Gi AA (by kernel_rfl) ?_;refine c6 _ ?_;obtain rfl:=Sh.BU h0;exact Am (Exists.intro _ (And.intro (Ag (L:=[(6,i64 b4)]) (.same AA)) (And.intro AA AA))))
      have c:yX 2 (bm 11 511) ⟨194,AP [(62,Ku p0),(66,ow 1 0 f),(70,Bd h)],[BY s0,BY f]⟩:=(a _ _ _).2 (by
       refine xa [9] ⟨?_,oz⟩
       .refine xo 9 ?_;refine QK (rows0:=[BY f]) (rows1:=[BY f]) (st':=[BY s0,BY f]) (v':=i64 b4) [1] AN (hb 81) (tx c7) rfl (by decide) rfl AA (.pure Bn .nil) rfl AA (.pure Bn .nil) .nil AA AA ?_;refine AB ⟨AA,?_⟩;refine Fb tb 10 AA AA ?_;exact xw a q (by exact AM [0] AA AA (.p .nil) (.same AA)))
      have Q:yX 5 (bm 11 63) ⟨194,AP [(62,Ku p0),(66,ow 1 0 f),(67,.ptr 2 0 0 2)],[BY s0,BY f,PY p2.op p2.num p2.kids]⟩:=(a _ _ _).2 (by
       refine Fb tb 6 AA AA ?_;refine Ik 7 (v:=EP h) rfl (by kernel_rfl) (by kernel_rfl) (Cb Ba AA AA z (Af _) rfl) ?_;refine Fb tb 8 AA AA ?_;exact xw a c (by exact AM [0,1] AA AA (.p (.p .nil)) (.same AA)))
      have C:zw 3 (bm 11 255) ⟨194,AP [(62,Ku p0),(66,ow 0 0 f),(69,EP h)],[BY f]⟩:=(e _ _ _).2 (by
       refine Fb tb 8 AA AA ?_;exact xt e b)
      have D:yX 3 (bm 11 255) ⟨194,AP [(62,Ku p0),(66,ow 1 0 f),(69,EP h)],[BY s0,BY f]⟩:=(a _ _ _).2 (by
       refine Fb tb 8 AA AA ?_;exact xt a c)
      have k:yX 3 (bm 11 495) ⟨194,AP [(62,Ku p0),(63,ow 0 0 s0),(65,ow 1 0 [g]),(70,Bd h)],[BY s0,TW g]⟩:=(a _ _ _).2 (by
       refine xa [4] ⟨?_,oz⟩
       .refine Kz (l:=s0) (l2:=[g]) (l':=f) rfl AA BF (Il Bn (λ_ hq=>nomatch hq)) rfl AA AA (HD AA AA) rfl (λ_=>AA) (λ_=>Bn) S ?_ ?_
        .exact xw e b (by exact AM [0] AA AA (.p .nil) (.same AA))
        .exact xw a c (by exact AM [0,2] AA AA (.p (.p .nil)) (.same AA)))
      have o:yX 4 (bm 11 239) ⟨194,AP [(62,Ku p0),(63,ow 0 0 s0),(65,ow 1 0 [g]),(69,EP h)],[BY s0,TW g]⟩:=(a _ _ _).2 (by
       refine xa [4,8] ⟨?_,?_,oz⟩
       .refine Kz (l:=s0) (l2:=[g]) (l':=f) rfl AA BF (Il Bn (λ_ hq=>nomatch hq)) rfl AA AA (HD AA AA) rfl (λ_=>AA) (λ_=>Bn) S ?_ ?_
        .exact xw e C (by exact AM [0] AA AA (.p .nil) (.same AA))
        .exact xw a D (by exact AM [0,2] AA AA (.p (.p .nil)) (.same AA))
       .exact xq tb a k)
      have G:yX 6 (bm 11 47) ⟨194,AP [(62,Ku p0),(63,ow 0 0 s0),(65,ow 1 0 [g]),(67,.ptr 2 0 0 2)],[BY s0,TW g,PY p2.op p2.num p2.kids]⟩:=(a _ _ _).2 (by
       refine xa [4,6] ⟨?_,?_,oz⟩
       .refine Kz (l:=s0) (l2:=[g]) (l':=f) rfl AA BF (Il Bn (Il (Ek AA) (λ_ hq=>nomatch hq))) rfl AA AA (HD AA AA) rfl (λ_=>AA) (λ_=>Bn) S ?_ ?_
        .exact xw e P (by exact AM [0,2] AA AA (.p (.w .nil)) (.same AA))
        .exact xw a Q (by exact AM [0,3,2] AA AA (.p (.p (.w .nil))) (.same AA))
       .refine xo 6 ?_;refine AT AA (AB ⟨AA,?_⟩);refine Ik 7 (v:=EP h) rfl (by kernel_rfl) (by kernel_rfl) (Cb Ba AA AA z (Af _) rfl) ?_;exact xw a o (by exact AM [0,1] AA AA (.p (.p .nil)) (.same AA)))
      have t:yX 4 (bm 11 487) ⟨194,AP [(62,Ku p0),(63,ow 0 0 s0),(64,i64 g),(70,Bd h)],[BY s0]⟩:=(a _ _ _).2 (by
       refine xa [3] ⟨?_,oz⟩
       .refine xo 3 ?_;refine CC 1 [g] eI BF AA ?_;exact xd a k)
      have A:yX 5 (bm 11 231) ⟨194,AP [(62,Ku p0),(63,ow 0 0 s0),(64,i64 g),(69,EP h)],[BY s0]⟩:=(a _ _ _).2 (by
       refine xa [3,8] ⟨?_,?_,oz⟩
       .refine xo 3 ?_;refine CC 1 [g] eI BF AA ?_;exact xd a o
       .exact xq tb a t)
      have b6:yX 7 (bm 11 39) ⟨194,AP [(62,Ku p0),(63,ow 0 0 s0),(64,i64 g),(67,.ptr 1 0 0 2)],[BY s0,PY p2.op p2.num p2.kids]⟩:=(a _ _ _).2 (by
       refine xa [3,6] ⟨?_,?_,oz⟩
       .refine xo 3 ?_;refine CC 2 [g] eI BF AA ?_;exact QG a G (by exact AM [0,2,1] AA AA (.p (.p (.w .nil))) (.same AA))
       .refine xo 6 ?_;refine AT AA (AB ⟨AA,?_⟩);refine Ik 7 (v:=EP h) rfl (by kernel_rfl) (by kernel_rfl) (Cb Ba AA AA z (Af _) rfl) ?_;exact xw a A (by exact AM [0] AA AA (.p .nil) (.same AA)))
      have U:zw 6 (bm 11 62) ⟨194,AP [(3,CM),(66,ow 0 0 f),(67,.ptr 2 0 0 2)],dM f p0 p2 []⟩:=(e _ _ _).2 (by
       refine Fb tb 0 AA AA ?_;refine Fb tb 6 AA AA ?_;refine Ik 7 (v:=EP h) rfl (by kernel_rfl) (by kernel_rfl) (Cb Ba AA AA z (Af _) rfl) ?_;refine Fb tb 8 AA AA ?_;exact xw e b (by exact AM [0] AA AA (.p .nil) (.same AA)))
      have V:yX 6 (bm 11 62) ⟨194,AP [(3,CM),(66,ow 2 0 f),(67,.ptr 3 0 0 2)],[BY s0,Mb p0,BY f,PY p2.op p2.num p2.kids]⟩:=(a _ _ _).2 (by
       refine Fb tb 0 AA AA ?_;refine Fb tb 6 AA AA ?_;refine Ik 7 (v:=EP h) rfl (by kernel_rfl) (by kernel_rfl) (Cb Ba AA AA z (Af _) rfl) ?_;refine Fb tb 8 AA AA ?_;exact xw a c (by exact AM [0,2] AA AA (.p (.p .nil)) (.same AA)))
      have H:zw 4 (bm 11 254) ⟨194,AP [(3,CM),(66,ow 0 0 f),(69,EP h)],[BY f,Mb p0]⟩:=(e _ _ _).2 (by
       refine Fb tb 0 AA AA ?_;refine Fb tb 8 AA AA ?_;exact xw e b (by exact AM [0] AA AA (.p .nil) (.same AA)))
      have I:yX 4 (bm 11 254) ⟨194,AP [(3,CM),(66,ow 2 0 f),(69,EP h)],[BY s0,Mb p0,BY f]⟩:=(a _ _ _).2 (by
       refine Fb tb 0 AA AA ?_;refine Fb tb 8 AA AA ?_;exact xw a c (by exact AM [0,2] AA AA (.p (.p .nil)) (.same AA)))
      have E:zw 3 (bm 11 510) ⟨194,AP [(3,CM),(66,ow 0 0 f),(70,Bd h)],[BY f,Mb p0]⟩:=(e _ _ _).2 (by
       refine Fb tb 0 AA AA ?_;exact xw e b (by exact AM [0] AA AA (.p .nil) (.same AA)))
      have F:yX 3 (bm 11 510) ⟨194,AP [(3,CM),(66,ow 2 0 f),(70,Bd h)],[BY s0,Mb p0,BY f]⟩:=(a _ _ _).2 (by
       refine Fb tb 0 AA AA ?_;exact xw a c (by exact AM [0,2] AA AA (.p (.p .nil)) (.same AA)))
      have x:yX 4 (bm 11 494) ⟨194,AP [(3,CM),(63,ow 0 0 s0),(65,ow 2 0 [g]),(70,Bd h)],[BY s0,Mb p0,TW g]⟩:=(a _ _ _).2 (by
       refine xa [0,4] ⟨?_,?_,oz⟩
       .refine xo 0 ?_;exact AT AA (QG a k (by exact AM [0,2] AA AA (.p (.p .nil)) (.same AA)))
       .refine Kz (l:=s0) (l2:=[g]) (l':=f) rfl AA BF (Il (Ek AA) (Il Bn (λ_ hq=>nomatch hq))) rfl AA AA (HD AA AA) rfl (λ_=>AA) (λ_=>Bn) S ?_ ?_
        .exact xw e E (by exact AM [0,1] AA AA (.p (.w .nil)) (.same AA))
        .exact xw a F (by exact AM [0,1,3] AA AA (.p (.w (.p .nil))) (.same AA)))
      have B:yX 5 (bm 11 238) ⟨194,AP [(3,CM),(63,ow 0 0 s0),(65,ow 2 0 [g]),(69,EP h)],[BY s0,Mb p0,TW g]⟩:=(a _ _ _).2 (by
       refine xa [0,4,8] ⟨?_,?_,?_,oz⟩
       .refine xo 0 ?_;exact AT AA (QG a o (by exact AM [0,2] AA AA (.p (.p .nil)) (.same AA)))
       .refine Kz (l:=s0) (l2:=[g]) (l':=f) rfl AA BF (Il (Ek AA) (Il Bn (λ_ hq=>nomatch hq))) rfl AA AA (HD AA AA) rfl (λ_=>AA) (λ_=>Bn) S ?_ ?_
        .exact xw e H (by exact AM [0,1] AA AA (.p (.w .nil)) (.same AA))
        .exact xw a I (by exact AM [0,1,3] AA AA (.p (.w (.p .nil))) (.same AA))
       .exact xq tb a x)
      have b7:yX 7 (bm 11 46) ⟨194,AP [(3,CM),(63,ow 0 0 s0),(65,ow 2 0 [g]),(67,.ptr 3 0 0 2)],[BY s0,Mb p0,TW g,PY p2.op p2.num p2.kids]⟩:=(a _ _ _).2 (by
       refine xa [0,4,6] ⟨?_,?_,?_,oz⟩
       .refine xo 0 ?_;exact AT AA (QG a G (by exact AM [0,2,3] AA AA (.p (.p (.w .nil))) (.same AA)))
       .refine Kz (l:=s0) (l2:=[g]) (l':=f) rfl AA BF (Il (Ek AA) (Il Bn (Il (Ek AA) (λ_ hq=>nomatch hq)))) rfl AA AA (HD AA AA) rfl (λ_=>AA) (λ_=>Bn) S ?_ ?_
        .exact xw e U (by exact AM [0,1,3] AA AA (.p (.w (.w .nil))) (.same AA))
        .exact xw a V (by exact AM [0,1,4,3] AA AA (.p (.w (.p (.w .nil)))) (.same AA))
       .refine xo 6 ?_;refine AT AA (AB ⟨AA,?_⟩);refine Ik 7 (v:=EP h) rfl (by kernel_rfl) (by kernel_rfl) (Cb Ba AA AA z (Af _) rfl) ?_;exact xw a B (by exact AM [0,1,2] AA AA (.p (.w (.p .nil))) (.same AA)))
      have Y:yX 5 (bm 11 486) ⟨194,AP [(3,CM),(63,ow 0 0 s0),(64,i64 g),(70,Bd h)],[BY s0,Mb p0]⟩:=(a _ _ _).2 (by
       refine xa [0,3] ⟨?_,?_,oz⟩
       .refine xo 0 ?_;exact AT AA (QG a t (by exact AM [0] AA AA (.p .nil) (.same AA)))
       .refine xo 3 ?_;refine CC 2 [g] eI BF AA ?_;exact xd a x)
      have b1:yX 6 (bm 11 230) ⟨194,AP [(3,CM),(63,ow 0 0 s0),(64,i64 g),(69,EP h)],[BY s0,Mb p0]⟩:=(a _ _ _).2 (by
       refine xa [0,3,8] ⟨?_,?_,?_,oz⟩
       .refine xo 0 ?_;exact AT AA (QG a A (by exact AM [0] AA AA (.p .nil) (.same AA)))
       .refine xo 3 ?_;refine CC 2 [g] eI BF AA ?_;exact xd a B
       .exact xq tb a Y)
      have b9:yX 8 (bm 11 38) ⟨194,AP [(3,CM),(63,ow 0 0 s0),(64,i64 g),(67,.ptr 2 0 0 2)],dM s0 p0 p2 []⟩:=(a _ _ _).2 (by
       refine xa [0,3,6] ⟨?_,?_,?_,oz⟩
       .refine xo 0 ?_;exact AT AA (QG a b6 (by exact AM [0,2] AA AA (.p (.w .nil)) (.same AA)))
       .refine xo 3 ?_;refine CC 3 [g] eI BF AA ?_;exact QG a b7 (by exact AM [0,1,3,2] AA AA (.p (.w (.p (.w .nil)))) (.same AA))
       .refine xo 6 ?_;refine AT AA (AB ⟨AA,?_⟩);refine Ik 7 (v:=EP h) rfl (by kernel_rfl) (by kernel_rfl) (Cb Ba AA AA z (Af _) rfl) ?_;exact xw a b1 (by exact AM [0,1] AA AA (.p (.w .nil)) (.same AA)))
      refine (a _ _ _).2 ?_;refine Fb tb 1 AA AA ?_;refine Fb tb 2 AA AA ?_;refine Fb tb 5 AA AA ?_;exact xt a b9
   refine AF AA (Ac 2 AA (CY AA (Ac 2 AA ?_)));rcases Sh.Ae d with ⟨W,d⟩|⟨W,d⟩
   .exact zs W AA (zs W AA (zs W AA (zt W AA (AB (h2 true (AS d) _ Aq)))))
   .exact Ay W AA (Ay W AA (Ay W AA (zf W AA (AB (h2 (!decide (p2.num=0)) (AS d) _ Aq)))))
  .refine Ap AA ?_;refine ci h0 AA ?_ ?_<;>intro A4 h0
   .refine AE λA5 h7=>AE λt4 h8=>bs h0 λh9 d h0=>?_;have d1:∀d2,h9=d2->∀s,Wk 1 s ⟨194,AP [(1,ow 0 0 s0),(3,CM),(5,CV),(92,.bool d2)],dM s0 p0 p2 []⟩->t4 s:=by
     intro d2 hq s hw;subst h9;refine h8 _ (AG hw ?_);refine ci h0 AA ?_ ?_<;>intro A6 h0
     .refine Ap AA ?_;obtain rfl:=Sh.BU h0;exact Am (xr (AM (L:=[(6,i64 (-1))]) (st':=[BY s0]) [0] AA AA (.p .nil) ⟨.rfl,oz⟩))
     .refine AH (h7 _ (AE λA7 k0=>?_));refine CG 7 (by kernel_rfl) (by kernel_rfl) (by rfl) ?_;iterate 4 refine yq tb rfl ?_
      refine bs h0 λA8 k1 h0=>df (i:=1) (j:=Sh.len p2.kids) AN Ba AA AA AA DV k1 (bs h0 λA9 k2 h0=>nk (enc:=eS eI) (u:=[]) AN OL AA AA AA k2 Bn (bs h0 λk3 k4 h0=>bc (v':=i64 k3) AN (hb 112) (JW tx k4) rfl (.val AA (.own AA AA (λ_=>AA) (.val AA (.val AA .nil)))) rfl AA (Av (AT AA (dn k0 AA ?_)))));obtain rfl:=Sh.BU h0;exact Am (xr (AM (L:=[(6,i64 k3)]) (st':=[BY s0]) [0] AA AA (.p .nil) ⟨.rfl,oz⟩))
    refine Cc (by kernel_rfl) (by kernel_rfl) (by rfl) ?_;iterate 2 refine yq tb rfl ?_
    refine yl tb AA AA ?_;iterate 2 refine yq tb rfl ?_
    rcases Sh.Ae d with ⟨b2,d⟩|⟨b2,d⟩
    .refine ys b2 AA ?_;iterate 2 refine ys b2 rfl ?_
     refine yt b2 AA (yq tb AA ?_);iterate 8 refine ys rfl rfl ?_
     exact yt AA AA (Av (d1 true (AS d) _ Aq))
    .refine yg tb b2 AA ?_;iterate 2 refine yg tb b2 rfl ?_
     refine yf b2 AA (yq tb AA ?_);rcases Sh.Ae d with ⟨J,d⟩|⟨J,d⟩
     .refine ys J AA ?_;iterate 7 refine ys J rfl ?_
      exact yt J AA (Av (d1 true (AS d) _ Aq))
     .refine yg tb J AA ?_;iterate 3 refine yg tb J rfl ?_
      refine bs d λt5 k5 d=>Io (v:=EP t5) (CR AA AA J) rfl (Cb Ba AA AA k5 (Af _) rfl) (yg tb J AA (bs d λk6 k7 d=>?_));refine XO (rowsP:=[BY s0]) (rows0:=[BY s0]) (rows1:=[BY s0]) (rows1':=[BY s0]) (v':=i64 k6) [0] (CR AA AA J) (hb 81) (tx k7) rfl (by decide) rfl AA (.pure Bn .nil) rfl AA (.pure Bn .nil) rfl AA ?_;exact yg tb J AA (yf J AA (Av (d1 (!decide (k6=0)) (AS d) _ Aq)))
   .refine Ap AA ?_;refine ci h0 AA ?_ ?_<;>intro B0 h0
    .refine sr AA λB1 k8=>Ac 4 AA (bs h0 λy k9 h0=>Bo (v':=ow 3 0 y) AN (hb 66) (Pq k9) rfl AA ⟨(Bq λ_=>AA),oz⟩ AA AA (AT AA (dn k8 AA (AE λB2 l0=>AE λt6 l1=>bs h0 λl3 d h0=>?_))));have d3:∀d4,l3=d4->∀s,Wk 1 s ⟨194,AP [(1,ow 0 0 s0),(3,CM),(5,CV),(8,ow 3 0 y),(130,.bool d4)],dM s0 p0 p2 [BY y]⟩->t6 s:=by
      intro d4 hq s hw;subst l3;refine l1 _ (AG hw ?_);refine ci h0 AA ?_ ?_<;>intro B3 h0
      .refine Ap AA ?_;cases h0;exact Am (xr (AM (L:=[(6,i64 (-1))]) (st':=[BY s0]) [0] AA AA (.p .nil) ⟨.rfl,oz⟩))
      .refine AH (l0 _ (sr AA λB4 l4=>AT AA (zz (G7 y) (DE Gd AA AA AA) rfl (bs h0 λt7 l5 h0=>Tj (m:=4) (enc:=eS eI) (u:=[]) AN OL AA AA AA l5 AA AA (AT AA (dn l4 AA (AE λt9 l6=>sr AA λB5 l7=>AT AA (zz (G7 y) (DE Gd AA AA AA) rfl ?_))))))));refine AT AA (dn l7 AA (bs h0 λd5 d h0=>?_));have v0:∀c4,d5=c4->∀s,Wk 1 s ⟨194,AP [(1,ow 0 0 s0),(3,CM),(5,CV),(9,ow 3 0 c4)],dM s0 p0 p2 [ro 0 32 1 (eS eI) c4]⟩->t9 s:=by
        intro c4 hq s hw;subst d5;try dsimp only at h0
        refine l6 _ (AG hw (AE λB6 l8=>?_));refine CG 7 (by kernel_rfl) (by kernel_rfl) (by rfl) ?_;iterate 4 refine yq tb rfl ?_
        refine bs h0 λB7 l9 h0=>df (i:=1) (j:=Sh.len p2.kids) AN Ba AA AA AA DV l9 (yq tb AA (bs h0 λm0 m1 h0=>bc (v':=i64 m0) AN (hb 112) (JW tx m1) rfl (.val AA (.own AA AA (λ_=>AA) (.val AA (.own AA AA (λ_=>AA) .nil)))) rfl AA (Av (AT AA (dn l8 AA ?_)))));obtain rfl:=Sh.BU h0;exact Am (xr (AM (L:=[(6,i64 m0)]) (st':=[BY s0]) [0] AA AA (.p .nil) ⟨.rfl,oz⟩))
       refine AL (An (σ:=Int×(List (List Int))) (λn v=>CA N p0 y n v.1 v.2=some d5) (λ(Z,b8)=>⟨194,AP [(1,ow 0 0 s0),(3,.ptr 1 0 0 0),(5,.ptr 2 0 0 0),(9,ow 4 0 b8),(134,ow 3 0 y),(135,i64 (Sh.len y)),(136,i64 Z)],[ro 0 3 1 eI s0,⟨0,99,2,[Gx p0]⟩,PY p2.op p2.num p2.kids,ro 0 3 1 eI y,ro 0 32 1 (eS eI) b8]⟩) N (0,t7) d Aq (λ_ hv=>by rw[CA]at hv;cases hv) ?_);rintro n ⟨Z,b8⟩ d;rw[CA]at d;refine Ap AA (AE λB8 m2=>?_);refine ci d AA ?_ ?_<;>intro B9 d
       .refine AH (m2 _ (AE λC0 m3=>AL (sr AA λC1 m4=>AT AA (bs d λv1 c8 d=>zz (.ptr 3 0 (Int.toNat Z) 0) (CD BF AA AA AA AA c8) rfl (zz (i64 v1) (CF Hy AA AA (CQ c8) rfl) rfl (Ac 2 AA (dn m4 AA (AF AA (Ac 5 AA ?_)))))))));refine bs d λd6 m5 d=>G5 (hb 92) (N2 m5) rfl (bs d λC2 c9 d=>zz (cU Z) (CD OL AA AA AA AA c9) rfl (Je (u':=d6) AN Le AA AA c9 AA AA AA tQ rfl AA (dn m3 AA (AF AA (Ac 2 AA ?_)))));exact AB (xi (Sh.w (Z+1),Sh.put b8 Z d6) d (Ag (L:=[(1,.own 0 0 (List.length s0)),(3,.ptr 1 0 0 0),(5,.ptr 2 0 0 0),(9,.own 4 0 (List.length (Sh.put b8 Z d6))),(134,.own 3 0 (List.length y)),(135,i64 (Sh.len y)),(136,i64 (Sh.w (Z+1)))]) ⟨.rfl,.rfl,.rfl,(.len (by simp only[Sh.GR])),.rfl,.rfl,.rfl,oz⟩))
       .exact Au (v0 b8 (AS d) _ (AM [0,1,2,4] AA AA (.p (.w (.w (.p .nil)))) (.same AA)))
     refine Cc (by kernel_rfl) (by kernel_rfl) (by rfl) ?_;refine yq tb AA (yz (G7 y) (DE Gd AA AA AA) rfl ?_);iterate 2 refine yq tb rfl ?_
     rcases Sh.Ae d with ⟨K,d⟩|⟨K,d⟩
     .refine ys K AA ?_;iterate 6 refine ys K rfl ?_
      refine yt K AA (yq tb AA ?_);iterate 10 refine ys rfl rfl ?_
      exact yt AA AA (Av (d3 true (AS d) _ Aq))
     .refine yg tb K AA (yg tb K AA (Io (v:=bL p2) (CR AA AA K) rfl (CU TD AA) (yg tb K AA (Io (v:=G7 y) (CR AA AA K) rfl (DE Gd AA AA AA) ?_))));iterate 2 refine yg tb K rfl ?_
      refine yf K AA (yq tb AA ?_);rcases Sh.Ae d with ⟨M,d⟩|⟨M,d⟩
      .refine ys M AA ?_;iterate 9 refine ys M rfl ?_
       exact yt M AA (Av (d3 true (AS d) _ Aq))
      .refine yg tb M AA ?_;iterate 3 refine yg tb M rfl ?_
       refine bs d λv2 m6 d=>Io (v:=EP v2) (CR AA AA M) rfl (Cb Ba AA AA m6 (Af _) rfl) (yg tb M AA (bs d λm7 m8 d=>?_));refine XO (rowsP:=[BY s0]) (rows0:=[BY s0]) (rows1:=[BY s0]) (rows1':=[BY s0]) (v':=i64 m7) [0] (CR AA AA M) (hb 81) (tx m8) rfl (by decide) rfl AA (.pure Bn .nil) rfl AA (.pure Bn .nil) rfl AA ?_;iterate 3 refine yg tb M rfl ?_
       exact yf M AA (Av (d3 (!decide (m7=p2.num)) (AS d) _ Aq))
    .refine AH (q9 _ (sr AA λC3 m9=>Ac 2 AA (CY AA (bs h0 λv3 q0 h0=>Tj (m:=3) (enc:=eI) (u:=0) AN BF AA AA AA q0 AA AA (AT AA (dn m9 AA (AE λv4 q1=>sr AA λC4 q2=>Ac 2 AA (CY AA ?_))))))));refine AT AA (dn q2 AA ?_);obtain⟨d7,d,h0⟩:=Sh.Bj h0;have v5:∀(c0:List Int),d7=Sum.inr c0->∀s,Wk 1 s ⟨194,AP [(3,CM),(5,CV),(12,ow 3 0 c0)],dM s0 p0 p2 [BY c0]⟩->v4 s:=by
      intro c0 hq s hw;subst d7;refine q1 _ (AG hw (sr AA λC5 q3=>Ac 6 AA (EU [(182,.agg (Gx p0)),(184,i64 p2.op),(186,i64 p2.num),(187,ls eI c0)] [ro 0 3 1 eI s0,⟨0,99,2,[Gx p0]⟩,PY p2.op p2.num p2.kids,⟨1,3,1,[]⟩] 3 AA ⟨.rfl,.rfl,.rfl,.BZ AA,oz⟩ (λ_=>AA) rfl (bs h0 λc1 q4 h0=>D0 (.C8 [i64 c1.1,.bool c1.2]) (hb 113) (L3 q4) rfl (Ac 5 AA (dn q3 AA (AE λC6 q5=>Ap AA ?_)))))));refine ci h0 AA ?_ ?_<;>intro q6 h0
      .have C7:c1.2=false:=by simpa using q6
       refine Ap AA ?_;cases h0;exact Am (xr (AM (L:=[(6,i64 (-1))]) (st':=[BY s0]) [0] AA AA (.p .nil) ⟨.rfl,oz⟩))
      .have v6:c1.2=true:=by simpa using q6
       refine AH (q5 _ (Ap AA ?_));cases h0;exact Am (xr (AM (L:=[(6,i64 c1.1)]) (st':=[BY s0]) [0] AA AA (.p .nil) ⟨.rfl,oz⟩))
     refine AL (An (σ:=Int×(List Int)) (λn v=>CB s0 p0 p2 tq n v.1 v.2=some d7) (λ(R,X)=>⟨194,AP [(1,ow 0 0 s0),(3,.ptr 1 0 0 0),(5,.ptr 2 0 0 0),(12,ow 3 0 X),(161,ls Ar p2.kids),(162,i64 (Sh.len p2.kids)),(163,i64 R)],[ro 0 3 1 eI s0,⟨0,99,2,[Gx p0]⟩,PY p2.op p2.num p2.kids,ro 0 3 1 eI X]⟩) N (0,v3) d Aq (λ_ hv=>by rw[CB]at hv;cases hv) ?_);rintro n ⟨R,X⟩ d;rw[CB]at d;refine Ap AA (AE λv7 d8=>?_);refine ci d AA ?_ ?_<;>intro v8 d
     .refine AH (d8 _ (AE λv9 d9=>AL (sr AA λw0 g0=>AT AA (bs d λb3 g1 d=>zz (EP b3) (Cb Ba AA AA g1 (Af _) rfl) rfl (AT AA (DL 4 Dd AA (AT AA (Bx BI AA (dn g0 AA ?_)))))))));refine sr AA λw1 g2=>Ac 5 AA (bs d λb0 g3 d=>?_);refine QK (rows0:=[BY s0]) (rows1:=[BY s0]) (st':=dM s0 p0 p2 [BY X,PY b3.op b3.num b3.kids]) (v':=i64 b0) [0] AN (hb 81) (tx g3) rfl (by decide) rfl AA (.pure Bn .nil) rfl AA (.pure Bn .nil) .nil AA AA ?_;refine bs d λw2 c2 d=>zz (.ptr 3 0 (Int.toNat R) 0) (CD BF AA AA AA AA c2) rfl (Je (u':=b0) AN Hy AA AA c2 AA AA AA tQ rfl AA (dn g2 AA (sr AA λw3 g4=>Ac 2 AA (bs d λq7 c3 d=>?_))));refine zz (.ptr 3 0 (Int.toNat R) 0) (CD BF AA AA AA (by simp only[Sh.GR]) c3) rfl ?_;refine zz (i64 q7) (CF Hy AA AA (CQ c3) rfl) rfl (AT AA (dn g4 AA ?_));refine ci d AA ?_ ?_<;>intro w4 d
      .refine Ap AA ?_;cases d;cases h0;exact Am (xr (AM (L:=[(6,i64 (-1))]) (st':=[BY s0]) [0] AA AA (.p .nil) ⟨.rfl,oz⟩))
      .refine AH (d9 _ (AF AA (Ac 2 AA ?_)));exact AB (xi (Sh.w (R+1),Sh.put X R b0) d (by refine Wk.trans (AM (L:=[(1,.own 0 0 (List.length s0)),(3,.ptr 1 0 0 0),(5,.ptr 2 0 0 0),(12,.own 3 0 (List.length X)),(161,.sl (List.map Ar p2.kids)),(162,i64 (Sh.len p2.kids)),(163,i64 (Sh.w (R+1)))]) (st':=[⟨0,3,1,List.map eI s0⟩,⟨0,99,2,[Gx p0]⟩,⟨0,35,3,[[i64 p2.op,i64 p2.num,.sl (List.map Ar p2.kids)]]⟩,⟨0,3,1,List.map eI (Sh.put X R b0)⟩]) [0,1,2,3] AA AA (.p (.w (.w (.p .nil)))) ⟨.rfl,.rfl,.rfl,.rfl,.rfl,.rfl,.rfl,oz⟩) ?_;exact Ag (L:=[(1,.own 0 0 (List.length s0)),(3,.ptr 1 0 0 0),(5,.ptr 2 0 0 0),(12,.own 3 0 (List.length (Sh.put X R b0))),(161,.sl (List.map Ar p2.kids)),(162,i64 (Sh.len p2.kids)),(163,i64 (Sh.w (R+1)))]) ⟨.rfl,.rfl,.rfl,(.len (by simp only[Sh.GR])),.rfl,.rfl,.rfl,oz⟩))
     .exact Au (v5 X (AS d) _ Aq)
theorem Mc {N:Nat}:∀(n:Nat),∀{s0:List Int} {p0:BO} {p2:AD} {r:Int},Bc N n s0 p0 p2=some r->Bf 81 [Ku p0,ow 0 0 s0,Bd p2] [BY s0] (i64 r) [BY s0]:=by
 intro n
 induction n with
 |zero=>intro s0 p0 p2 r a;cases a
 |succ n ih=>
  intro s0 p0 p2 r a;rw[Bc]at a;exact Me (λh=>ih h) a
theorem Nd {N:Nat}:∀{s0:List Int} {p0:BO} {p2:AD} {r:Int},IY N s0 p0 p2=some r->Bf 81 [Ku p0,ow 0 0 s0,Bd p2] [BY s0] (i64 r) [BY s0]:=by
 intro s0 p0 p2 r a;exact Mc N a
theorem WT {N:Nat}{p0:AJ}{p1:List Int}{p2:AD}{r:Int}(h0:Mz N p0 p1 p2=some r):Bf 48 (Xg p0 p1 p2) [] (i64 r) []:=by
 unfold Mz at h0;refine ai Tryz.func48 AA AA AA AA (sr AA λJ x=>Ee 0 AA (Ee 1 AA (AT AA (dn x AA (AE λK y=>AE λF z=>bs h0 λE g h0=>?_)))));have A:∀B,E=B->∀s,Wk 0 s ⟨28,AP [(1,ls eI p1),(3,BG),(5,CM),(21,.bool B)],[HH p0.decls p0.funcs,PY p2.op p2.num p2.kids]⟩->F s:=by
  intro B hq s G;subst E;refine z _ (AG G ?_);refine ci h0 AA ?_ ?_<;>intro M h0
  .refine Ap AA ?_;cases h0;exact rd [(6,i64 (-1))]
  .refine AH (y _ (AE λO C=>?_));refine Hw (by kernel_rfl) ?_;refine bs h0 λo p h0=>bs h0 λh l h0=>bs h0 λn q h0=>LB λA12 a=>?_;have e:A12 0 (bm 7 127) ⟨28,AP [(6,i64 n)],[]⟩:=(a _ _ _).2 (by
    refine Gi AA (by kernel_rfl) ?_;refine C _ ?_;obtain rfl:=Sh.BU h0;exact Am (Exists.intro _ (And.intro (Ag (L:=[(6,i64 n)]) (.same AA)) (And.intro AA AA))))
   have b:A12 2 (bm 7 31) ⟨28,AP [(23,Ku o),(25,ow 0 0 h),(26,Bd p2)],[BY h]⟩:=(a _ _ _).2 (by
    refine xa [5] ⟨?_,oz⟩
    .refine xo 5 ?_;refine QK (rows0:=[BY h]) (rows1:=[BY h]) (st':=[BY h]) (v':=i64 n) [0] AN (hb 81) (Nd q) rfl (by decide) rfl AA (.pure Bn .nil) rfl AA (.pure Bn .nil) .nil AA AA ?_;refine AB ⟨AA,?_⟩;refine Fb tb 6 AA AA ?_;exact xw a e (by exact AM [] AA AA .nil (.same AA)))
   have d:A12 3 (bm 7 23) ⟨28,AP [(23,Ku o),(24,ls eI p1),(26,Bd p2)],[]⟩:=(a _ _ _).2 (by
    refine xa [3] ⟨?_,oz⟩
    .refine xo 3 ?_;exact Bo (v':=ow 0 0 h) AN (hb 82) (Cr l) rfl AA ⟨(Bq λ_=>AA),oz⟩ AA AA (xd a b))
   have i:A12 4 (bm 7 7) ⟨28,AP [(5,BG),(23,Ku o),(24,ls eI p1)],[PY p2.op p2.num p2.kids]⟩:=(a _ _ _).2 (by
    refine xa [3,4] ⟨?_,?_,oz⟩
    .refine xo 3 ?_;refine Bo (v':=ow 1 0 h) AN (hb 82) (Cr l) rfl AA ⟨(Bq λ_=>AA),oz⟩ AA AA (AB ⟨AA,?_⟩);refine Fb tb 4 AA AA ?_;exact xw a b (by exact AM [1] AA AA (.p .nil) (.same AA))
    .refine xo 4 ?_;exact AT AA (QG a d (by exact AM [] AA AA .nil (.same AA))))
   have j:A12 4 (bm 7 21) ⟨28,AP [(22,KT p0),(24,ls eI p1),(26,Bd p2)],[]⟩:=(a _ _ _).2 (by
    refine xa [1] ⟨?_,oz⟩
    .refine xo 1 ?_;exact D0 (Ku o) (hb 80) (P6 p) rfl (xd a d))
   have k:A12 5 (bm 7 5) ⟨28,AP [(5,BG),(22,KT p0),(24,ls eI p1)],[PY p2.op p2.num p2.kids]⟩:=(a _ _ _).2 (by
    refine xa [1,4] ⟨?_,?_,oz⟩
    .refine xo 1 ?_;exact D0 (Ku o) (hb 80) (P6 p) rfl (xd a i)
    .refine xo 4 ?_;exact AT AA (QG a j (by exact AM [] AA AA .nil (.same AA))))
   refine (a _ _ _).2 ?_;refine Fb tb 0 AA AA ?_;refine Fb tb 2 AA AA ?_;exact xw a k (by exact AM [1] AA AA (.w .nil) (.same AA))
 refine AF AA (AT AA (bs g λH t g=>G5 (hb 47) (NK t) rfl (Ac 2 AA ?_)));rcases Sh.Ae g with ⟨f,g⟩|⟨f,g⟩
 .refine zs f AA (zs f AA (zs f AA (zt f AA (AT AA ?_))));iterate 5 refine zs rfl rfl ?_
  exact zt AA AA (AB (A true (AS g) _ Aq))
 .refine Ay f AA (bs g λI u g=>zd f (hb 12) (Oy u) rfl AA AA AA (Ay f AA (zf f AA (AT AA ?_))));rcases Sh.Ae g with ⟨c,g⟩|⟨c,g⟩
  .refine zs c AA ?_;iterate 4 refine zs c rfl ?_
   exact zt c AA (AB (A true (AS g) _ Aq))
  .exact Ay c AA (Ay c AA (Ay c AA (bs g λD w g=>zd c (hb 79) (LK w) rfl AA AA AA (Ay c AA (zf c AA (AB (A (!D) (AS g) _ Aq)))))))
theorem Hi {N:Nat}{p0:AJ}{r:Bool}(h0:CI N p0=some r):Bf 22 [KT p0] [] (.bool r) []:=by
 unfold CI at h0;refine ai Tryz.func22 AA AA AA AA (sr AA λM p=>Ee 0 AA (AT AA (dn p AA (AE λO q=>sr AA λP t=>AT AA (bs h0 λz u h0=>G5 (hb 47) (NK u) rfl (AT AA (dn t AA ?_)))))));refine ci h0 AA ?_ ?_<;>intro A h0
 .have Q:z=false:=by simpa using A
  refine Ap AA ?_;cases h0;exact rd [(2,.bool false)]
 .have R:z=true:=by simpa using A
  refine AH (q _ (AE λC x=>sr AA λD e=>Ac 2 AA (CY AA (AT AA (dn e AA ?_)))));obtain⟨b,a,h0⟩:=Sh.Bj h0;have y:∀(_:Unit),b=Sum.inr ()->∀s,Wk 0 s ⟨25,AP [],[]⟩->C s:=by
   intro _ S s E;subst b;refine x _ (AG E (Ap AA ?_));cases h0;exact rt [(2,.bool true)]
  refine AL (An (σ:=Int) (λn v=>D6 N p0 n v=some b) (λc=>⟨25,AP [(1,.ptr 0 0 0 0),(9,ls BP p0.funcs),(10,i64 (Sh.len p0.funcs)),(11,i64 c)],[HH p0.decls p0.funcs]⟩) N 0 a Aq (λ_ B=>by rw[D6]at B;cases B) ?_);rintro n c a;rw[D6]at a;refine Ap AA (AE λF f=>?_);refine ci a AA ?_ ?_<;>intro G a
  .refine AH (f _ (AE λH g=>AL (sr AA λI h=>bs a λi j a=>zx Ck j AA AA AA (AT AA (DL 1 MQ AA (Bx Ln AA (dn h AA (AE λJ k=>?_))))))));refine Cc (by kernel_rfl) (by kernel_rfl) (by rfl) ?_;iterate 5 refine yq tb rfl ?_
   refine bs a λd l a=>BV (v:=i64 d) AN (hb 48) (WT l) rfl AA AA ?_;iterate 3 refine yq tb rfl ?_
   refine Av (k _ ?_);refine ci a AA ?_ ?_<;>intro o a
   .have K:decide (d=i.result)=false:=by simpa using o
    refine Ap AA ?_;cases a;cases h0;exact rd [(2,.bool false)]
   .have L:decide (d=i.result)=true:=by simpa using o
    refine AH (g _ (AF AA (Ac 2 AA ?_)));exact AB (xi (Sh.w (c+1)) a (AM [0] AA AA (.w .nil) (.same AA)))
  .exact Au (y () (AS a) _ (Be _ AA))
theorem RE {s1:List Bool}{p0:AD}{r:List Bool}(h0:Jh s1 p0=some r):Bf 69 [Bd p0,BG] (Rf s1) (.C8 []) (Rf r):=by
 unfold Jh at h0;refine ai Tryz.func69 AA AA AA AA (sr AA λk d=>Ee 2 AA (dn d AA (AE λi e=>bs h0 λg b h0=>?_)));have h:∀f,g=f->∀s,Wk 2 s ⟨15,AP [(1,BG),(2,CV),(10,.bool f)],[⟨0,62,1,[[ow 1 0 s1]]⟩,ro 0 4 1 eB s1,PY p0.op p0.num p0.kids]⟩->i s:=by
  intro f l s j;subst g;refine e _ (AG j ?_);refine ci h0 AA ?_ ?_<;>intro n h0
  .refine AF AA (Ac 3 AA (bs h0 λo c h0=>zz (.ptr 1 0 (Int.toNat p0.num) 0) (CD X3 AA AA AA AA c) rfl (Je (u':=true) AN lr AA AA c AA AA AA tQ rfl AA ?_)));cases h0;exact AB ⟨_,(((GB (st:=[⟨0,62,1,[[.own 1 0 (List.length s1)]]⟩,⟨0,4,1,List.map eB (Sh.put s1 p0.num true)⟩,⟨0,35,3,[[i64 p0.op,i64 p0.num,.sl (List.map Ar p0.kids)]]⟩]) (st':=[⟨0,62,1,[[.own 1 0 (List.length (Sh.put s1 p0.num true))]]⟩,⟨0,4,1,List.map eB (Sh.put s1 p0.num true)⟩,⟨0,35,3,[[i64 p0.op,i64 p0.num,.sl (List.map Ar p0.kids)]]⟩]) (by simp only[Sh.GR])).trans (AM (L:=[]) (st':=[⟨0,62,1,[[.own 1 0 (List.length (Sh.put s1 p0.num true))]]⟩,⟨0,4,1,List.map eB (Sh.put s1 p0.num true)⟩]) [0,1] AA AA (.w (.p .nil)) oz)).trans (Ag (L:=[]) oz)),And.intro AA AA⟩
  .cases h0;exact AH (xi _ ((AM (L:=[]) (st':=Rf s1) [0,1] AA AA (.w (.p .nil)) oz).trans (Ag (L:=[]) oz)) (And.intro AA AA))
 refine AF AA (Ac 4 AA ?_);rcases Sh.Ae b with ⟨a,b⟩|⟨a,b⟩
 .exact zs a AA (zs a AA (zs a AA (zt a AA (AB (h true (AS b) _ Aq)))))
 .exact Ay a AA (Ay a AA (Ay a AA (zf a AA (AB (h (decide (p0.op=10)) (AS b) _ Aq)))))
theorem T6 {N:Nat}{uX:(List Bool)->AD->Option (List Bool)}(xE :∀{s1:List Bool} {p0:AD} {r:List Bool},uX s1 p0=some r->Bf 49 [Bd p0,.fn 69 [BG]] (Rf s1) (.C8 []) (Rf r)){s1:List Bool}{p0:AD}{r:List Bool}(h0:LS N uX s1 p0=some r):Bf 49 [Bd p0,.fn 69 [BG]] (Rf s1) (.C8 []) (Rf r):=by
 unfold LS at h0;refine ai Tryz.func49 AA AA AA AA (sr AA λI k=>Ee 2 AA (dn k AA (sr AA λJ l=>Ac 2 AA (bs h0 λe o h0=>?_))));refine S3 (rowsP:=Rf s1) (rows0:=Rf s1) (rows1:=Rf e) (rows2:=[]) (rows1':=Rf e) (rows2':=[]) (st':=[⟨0,62,1,[[ow 1 0 e]]⟩,ro 0 4 1 eB e,PY p0.op p0.num p0.kids]) (v':=.C8 []) [0,1] AN AA (hb 69) (RE o) rfl (by decide) rfl AA (.raw AA AA (.pure Bn .nil)) rfl AA (.raw AA AA (.pure Bn .nil)) .nil AA AA ?_;refine dn l AA (sr AA λK p=>Ac 2 AA (CY AA (AT AA (dn p AA (RK λB q=>bs h0 λt a h0=>?_)))));have C:∀u,t=u->∀s,Wk 2 s ⟨20,AP [],Rf u⟩->B s:=by
  intro u M s D;subst t;refine q _ ?_;cases h0;exact Exists.intro _ (And.intro (D.trans (Ag (L:=[]) oz)) (And.intro AA AA))
 refine AL (An (σ:=Int×(List Bool)) (λn v=>E5 p0 uX n v.1 v.2=some t) (λ(x,d)=>⟨20,AP [(1,.fn 69 [.ptr 0 0 0 0]),(10,ls Ar p0.kids),(11,i64 (Sh.len p0.kids)),(12,i64 x)],[⟨0,62,1,[[ow 1 0 d]]⟩,ro 0 4 1 eB d]⟩) N (0,e) a (AM [0,1] AA AA (.w (.p .nil)) (.same AA)) (λ_ z=>by rw[E5]at z;cases z) ?_);rintro n ⟨x,d⟩ a;rw[E5]at a;refine Ap AA (AE λE f=>?_);refine ci a AA ?_ ?_<;>intro F a
 .refine AH (f _ (AE λG g=>AL (sr AA λH h=>bs a λc i a=>zz (EP c) (Cb Ba AA AA i (Af _) rfl) rfl (AT AA (DL 2 Dd AA (Bx BI AA (dn h AA (AF AA (Ac 2 AA ?_)))))))));refine bs a λb j a=>?_;refine Ss (rowsP:=bX d) (rows0:=bX d) (rows1:=bX b) (rows2:=[]) (rows1':=bX b) (rows2':=[]) (st':=[⟨0,62,1,[[.own 1 0 (List.length b)]]⟩,⟨0,4,1,List.map eB b⟩,⟨0,35,3,[[i64 c.op,i64 c.num,.sl (List.map Ar c.kids)]]⟩]) (v':=.C8 []) [0,1] AN (hb 49) (xE j) rfl (by decide) rfl AA (.raw AA AA (.pure Bn .nil)) rfl AA (.raw AA AA (.pure Bn .nil)) .nil AA AA (λy=>?_);have A:List.length b=List.length d:=by simpa only[pR] using y 1 _ _ rfl rfl rfl
  refine dn g AA (AF AA (Ac 2 AA ?_));exact AB (xi (Sh.w (x+1),b) a (AM [0,1] AA AA (.w (.p .nil)) (.same AA)))
 .exact Au (C d (AS a) _ Aq)
theorem UR {N:Nat}:∀(n:Nat),∀{s1:List Bool} {p0:AD} {r:List Bool},Gz N n s1 p0=some r->Bf 49 [Bd p0,.fn 69 [BG]] (Rf s1) (.C8 []) (Rf r):=by
 intro n
 induction n with
 |zero=>intro s1 p0 r a;cases a
 |succ n ih=>
  intro s1 p0 r a;rw[Gz]at a;exact T6 (λh=>ih h) a
theorem WL {N:Nat}:∀{s1:List Bool} {p0:AD} {r:List Bool},Pb N s1 p0=some r->Bf 49 [Bd p0,.fn 69 [BG]] (Rf s1) (.C8 []) (Rf r):=by
 intro s1 p0 r a;exact UR N a
theorem Np {N:Nat}{p0:AJ}{p1:Int}{r:List Bool}(h0:Hr N p0 p1=some r):Bf 40 [KT p0,i64 p1] [] (ow 0 0 r) [ro 0 4 1 eB r]:=by
 unfold Hr at h0;refine ai Tryz.func40 AA AA AA AA (sr AA λk b=>Ee 0 AA (AT AA (dn b AA (sr AA λl c=>Ac 2 AA (CY AA (bs h0 λd e h0=>Tj (m:=1) (enc:=eB) (u:=false) AN X3 AA AA AA e AA AA (DL 2 nf AA (Bx oI AA ?_))))))));refine dn c AA (sr AA λn f=>Ac 3 AA (bs h0 λo g h0=>zx Ck g AA AA AA (Ac 2 AA (zz (.fn 69 [CV]) (bN AA) rfl (bs h0 λa h h0=>?_)))));refine Ss (rowsP:=bX d) (rows0:=bX d) (rows1:=bX a) (rows2:=[]) (rows1':=bX a) (rows2':=[]) (st':=[⟨0,26,2,[[.sl (List.map Ah p0.decls),.sl (List.map BP p0.funcs)]]⟩,⟨0,4,1,List.map eB a⟩,⟨0,62,1,[[.own 1 0 (List.length a)]]⟩]) (v':=.C8 []) [2,1] AN (hb 49) (WL h) rfl (by decide) rfl AA (.raw AA AA (.pure Bn .nil)) rfl AA (.raw AA AA (.pure Bn .nil)) .nil AA AA (λi=>?_);have j:List.length a=List.length d:=by simpa only[pR] using i 1 _ _ rfl rfl rfl
 refine dn f AA (Ap AA ?_);obtain rfl:=Sh.BU h0;exact Am (xr (AM (L:=[(4,ow 0 0 a)]) (st':=[ro 0 4 1 eB a]) [1] AA AA (.p .nil) ⟨.rfl,oz⟩))
theorem Ks {N:Nat}{p0:List Bool}{r:List Int}(h0:Ge N p0=some r):Bf 39 [ls eB p0] [] (ow 0 0 r) [BY r]:=by
 unfold Ge at h0;refine ai Tryz.func39 AA AA AA AA ?_;iterate 2 refine Ap rfl ?_
 refine AE λC u=>sr AA λK x=>AT AA (CY AA (AT AA (dn x AA (bs h0 λy a h0=>?_))));have D:∀f,y=f->∀s,Wk 0 s ⟨20,AP [(3,ow 0 0 f)],[BY f]⟩->C s:=by
  intro f E s z;subst y;try dsimp only at h0
  refine u _ (AG z (Ap AA ?_));obtain rfl:=Sh.BU h0;exact rt [(2,ow 0 0 f)]
 refine AL (An (σ:=Int×(List Int)) (λn v=>EZ p0 n v.1 v.2=some y) (λ(d,g)=>⟨20,AP [(3,ow 0 0 g),(6,ls eB p0),(7,i64 (Sh.len p0)),(8,i64 d)],[ro 0 3 1 eI g]⟩) N (0,[]) a ((HU (t:=3) rfl 3 (size:=1) (by decide)).trans (Ag (L:=[(3,.own 0 0 (List.length ([]:List Int))),(6,ls eB p0),(7,i64 (Sh.len p0)),(8,i64 0)]) (.same AA))) (λ_ B=>by rw[EZ]at B;cases B) ?_);rintro n ⟨d,g⟩ a;rw[EZ]at a;refine Ap AA (AE λF h=>?_);refine ci a AA ?_ ?_<;>intro G a
 .refine AH (h _ (AE λA i=>bs a λj c a=>?_));have k:∀b,j=b->∀s,Wk 0 s ⟨20,AP [(3,ow 0 0 b),(6,ls eB p0),(7,G7 p0),(8,i64 d)],[BY b]⟩->A s:=by
   intro b E s z;subst j;exact i _ (AG z (AF AA (Ac 2 AA (AB (xi (Sh.w (d+1),b) a Aq)))))
  refine AL (sr AA λH o=>AT AA (bs c λI p c=>zx X3 p AA AA AA (Ac 3 AA (dn o AA (Ap AA ?_)))));refine ci c AA ?_ ?_<;>intro J c
  .refine AF AA (Ac 2 AA ?_);refine CC 1 [d] eI BF AA ?_;refine bs c λe q c=>Ct (l2:=[d]) AN BF AA AA AA AA (HD AA AA) (λ_=>AA) q AA (AT AA ?_);exact AB (k e (AS c) _ (by refine Wk.trans (Da (L:=[(3,ow 0 0 e),(6,ls eB p0),(7,G7 p0),(8,i64 d)]) (st':=[BY e,TW d]) (.pure Bn (.pure Bn .nil)) (.same AA)) ?_;exact AM [0] AA AA (.p .nil) (.same AA)))
  .exact AH (k g (AS c) _ Aq)
 .exact Au (D g (AS a) _ Aq)
theorem Sk {N:Nat}{p0:AJ}{p1:Int}{r:List Int}(h0:G9 N p0 p1=some r):Bf 17 [KT p0,i64 p1] [] (ow 0 0 r) [BY r]:=by
 unfold G9 at h0;refine ai Tryz.func17 AA AA AA AA (sr AA λx g=>Ee 0 AA (AT AA (dn g AA (AE λy h=>AE λq i=>bs h0 λo c h0=>?_))));have j:∀k,o=k->∀s,Wk 0 s ⟨23,AP [(1,i64 p1),(2,BG),(18,.bool k)],[HH p0.decls p0.funcs]⟩->q s:=by
  intro k z s u;subst o;refine i _ (AG u ?_);refine ci h0 AA ?_ ?_<;>intro A h0
  .refine Ap AA ?_;cases h0;exact Am (Exists.intro _ (And.intro ((((HU (t:=4) rfl 3 (size:=1) (by decide)).trans (Ag (L:=[(4,.own 1 0 (List.length ([]:List Int)))]) ⟨.rfl,oz⟩)).trans (AM (L:=[(4,Y3)]) (st':=[ro 0 3 1 eI ([]:List Int)]) [1] AA AA (.p .nil) ⟨.rfl,oz⟩)).trans (Ag (L:=[(4,Y3)]) ⟨.rfl,oz⟩)) (And.intro AA AA)))
  .refine AH (h _ (sr AA λB l=>Ac 2 AA (bs h0 λp n h0=>Bo (v':=ow 1 0 p) AN (hb 40) (Np n) rfl AA ⟨(Bq λ_=>AA),oz⟩ AA AA (EU [(21,ls eB p)] [HH p0.decls p0.funcs,⟨1,4,1,[]⟩] 1 AA ⟨.BZ AA,oz⟩ (λ_=>AA) rfl (bs h0 λd e h0=>Bo (v':=ow 2 0 d) AN (hb 39) (Ks e) rfl AA ⟨(Bq λ_=>AA),oz⟩ AA AA (AT AA (dn l AA ?_)))))));obtain rfl:=Sh.BU h0;exact Am (xr (AM (L:=[(4,ow 0 0 d)]) (st':=[BY d]) [2] AA AA (.p .nil) ⟨.rfl,oz⟩))
 refine AF AA (AT AA (bs c λw f c=>G5 (hb 22) (Hi f) rfl (Ac 2 AA ?_)));rcases Sh.Ae c with ⟨b,c⟩|⟨b,c⟩
 .refine zs b AA (zs b AA (zt b AA (AT AA ?_)));iterate 5 refine zs rfl rfl ?_
  exact zt AA AA (AB (j true (AS c) _ Aq))
 .refine Ay b AA (Ay b AA (zf b AA (AT AA ?_)));rcases Sh.Ae c with ⟨a,c⟩|⟨a,c⟩
  .refine zs a AA ?_;iterate 4 refine zs a rfl ?_
   exact zt a AA (AB (j true (AS c) _ Aq))
  .exact Ay a AA (Ay a AA (Ay a AA (BW (v:=i64 (Sh.len p0.funcs)) (CR AA AA a) rfl (CU Pp AA) (Ay a AA (zf a AA (AB (j (decide ((Sh.len p0.funcs)<=p1)) (AS c) _ Aq)))))))
theorem Q6 {N:Nat}{p0:AJ}{p1:Int}{r:List Int}(h0:H4 N p0 p1=some r):Bf 52 [KT p0,i64 p1] [] (ow 0 0 r) [BY r]:=by
 unfold H4 at h0;refine ai Tryz.func52 AA AA AA AA (sr AA λK1 c2=>Ee 0 AA (AT AA (dn c2 AA (AE λK2 c3=>AE λK3 c4=>bs h0 λo5 a h0=>?_))));have M5:∀t4,o5=t4->∀s,Wk 0 s ⟨63,AP [(1,i64 p1),(2,BG),(22,.bool t4)],[HH p0.decls p0.funcs]⟩->K3 s:=by
  intro t4 hq s F;subst o5;refine c4 _ (AG F ?_);refine ci h0 AA ?_ ?_<;>intro b6 h0
  .refine Ap AA ?_;cases h0;exact Am ⟨_,((((HU (t:=4) rfl 3 (size:=1) (by decide)).trans (Ag (L:=[(4,.own 1 0 (List.length ([]:List Int)))]) ⟨.rfl,oz⟩)).trans (AM (L:=[(4,Y3)]) (st':=[ro 0 3 1 eI ([]:List Int)]) [1] AA AA (.p .nil) ⟨.rfl,oz⟩)).trans (Ag (L:=[(4,Y3)]) ⟨.rfl,oz⟩)),And.intro AA AA⟩
  .refine AH (c3 _ (sr AA λK8 c5=>Ac 2 AA (CY AA (bs h0 λl9 c6 h0=>Tj (m:=1) (enc:=eB) (u:=false) AN X3 AA AA AA c6 AA AA (AT AA (dn c5 AA (sr AA λd3 K=>Ac 2 AA (bs h0 λd4 D h0=>zz (LF p1) (CD X3 AA AA AA AA D) rfl ?_))))))));refine Je (u':=true) AN lr AA AA D AA AA AA tQ rfl AA (dn K AA (AE λc7 M=>sr AA λd5 O=>AT AA ?_));refine CC 2 [p1] eI BF AA ?_;refine AT AA (dn O AA (bs h0 λG a h0=>?_));have c8:∀o,G=o->∀s,Wk 0 s ⟨63,AP [(5,ow 0 0 o)],[ro 0 4 1 eB o]⟩->c7 s:=by
    intro o hq s F;subst G;try dsimp only at h0
    refine M _ (AG F (sr AA λd6 P=>AT AA (EU [(61,ls eB o)] [⟨1,4,1,[]⟩] 0 AA ⟨.BZ AA,oz⟩ (λ_=>AA) rfl (bs h0 λH Q h0=>Bo (v':=ow 1 0 H) AN (hb 39) (Ks Q) rfl AA ⟨(Bq λ_=>AA),oz⟩ AA AA (AT AA (dn P AA ?_))))));obtain rfl:=Sh.BU h0;exact Am (xr (AM (L:=[(4,ow 0 0 H)]) (st':=[BY H]) [1] AA AA (.p .nil) ⟨.rfl,oz⟩))
   refine AL (An (σ:=(List Int)×(List Bool)×(List Int)) (λn v=>FK N p0 n v.2.1 v.2.2=some G) (λ(wm,p,q)=>⟨63,AP [(2,.ptr 0 0 0 0),(5,.own 1 0 (List.length p)),(6,.own 2 0 (List.length q))],[⟨0,26,2,[[.sl (List.map Ah p0.decls),.sl (List.map BP p0.funcs)]]⟩,⟨0,4,1,List.map eB p⟩,⟨0,3,1,List.map eI (wm++q)⟩]⟩) N (([]:List Int),Sh.put l9 p1 true,[p1]) a (Ag (L:=[(2,.ptr 0 0 0 0),(5,.own 1 0 (List.length (Sh.put l9 p1 true))),(6,.own 2 0 (List.length [p1]))]) ⟨.rfl,(.len (by simp only[Sh.GR])),.rfl,oz⟩) (λ_ R=>by rw[FK]at R;cases R) ?_);rintro n ⟨wm,p,q⟩ a;rw[FK]at a;refine AE λd7 S=>sr AA λd8 T=>AT AA (zz (G7 q) (jL Gd AA AA) rfl (AT AA (dn T AA ?_)));refine ci a AA ?_ ?_<;>intro d9 a
   .refine AH (S _ (AE λc9 U=>AL (AE λg0 V=>?_)));refine Cc (by kernel_rfl) (by kernel_rfl) (by rfl) ?_;iterate 2 refine yq tb rfl ?_
    refine bs a λd0 E a=>yz (.ptr 2 0 (List.length wm+Int.toNat 0) 0) (ln BF AA AA AA E) rfl (yz (i64 d0) (CF Hy AA AA (kS E) rfl) rfl (bs a λW X a=>?_));refine BV (v:=ls eB W) AN (hb 40) (BJ.wk (Np X) (by refine Wk.trans (Wk.BZ (L:=[(0,ls eB W)]) (st':=[⟨1,4,1,[]⟩]) (id:=0) rfl tM Bn ⟨.BZ AA,oz⟩ AA) ?_;exact AM [] AA AA .nil (.same AA))) rfl AA AA ?_;refine bs a λb Y a=>?_;refine BV (v:=ls eI b) AN (hb 39) (BJ.wk (Ks Y) (by refine Wk.trans (Wk.BZ (L:=[(0,ls eI b)]) (st':=TV) (id:=0) rfl tM Bn ⟨.BZ AA,oz⟩ AA) ?_;exact AM [] AA AA .nil (.same AA))) rfl AA AA ?_;refine yl tb AA AA (yq tb AA (Av (V _ (bs a λI k a=>?_))));have d1:∀(zG:List Int) (f:List Bool) (B:List Int),I=(f,B)->∀s,Wk 0 s ⟨63,AP (dL f [(6,ow 2 0 B)]),[HH p0.decls p0.funcs,ro 0 4 1 eB f,ro 0 3 1 eI (zG++B)]⟩->c9 s:=by
     rintro zG f B rfl s F;exact U _ (AG F (AF AA (AT AA (bs a λC Z a=>iw (stf:=λG154=>[HH p0.decls p0.funcs,ro 0 4 1 eB f,ro 1 3 1 eI (G154++C)]) BF Z AA AA AA (λ_=>AA) λG154=>AT AA (AB (xi (G154,f,C) a (Da (L:=dL f [(6,ow 2 0 C)]) (st':=[HH p0.decls p0.funcs,ro 0 4 1 eB f,ro 0 3 1 eI (G154++C)]) (.raw AA AA (.pure Bn (.pure Bn .nil))) (.same AA))))))))
    refine AL (An (σ:=(List Int)×Int×(List Bool)×(List Int)) (λn v=>Dq b n v.2.1 v.2.2.1 v.2.2.2=some I) (λ(wo,g,c,x)=>⟨63,AP [(2,.ptr 0 0 0 0),(5,ow 1 0 c),(6,ow 2 0 x),(42,ls eI b),(43,i64 (Sh.len b)),(44,i64 g)],[HH p0.decls p0.funcs,ro 0 4 1 eB c,ro 0 3 1 eI (wo++x)]⟩) N (wm,0,p,q) k Aq (λ_ R=>by rw[Dq]at R;cases R) ?_);rintro n ⟨wo,g,c,x⟩ k;rw[Dq]at k;refine Ap AA (AE λg1 b0=>?_);refine ci k AA ?_ ?_<;>intro g2 k
    .refine AH (b0 _ (AE λd2 b1=>bs k λb2 y k=>?_));have b3:∀(xu:List Int) (z:List Bool) (A:List Int),b2=(z,A)->∀s,Wk 0 s ⟨63,AP (dL z [(6,ow 2 0 A),(42,ls eI b),(43,G7 b),(44,i64 g)]),[HH p0.decls p0.funcs,ro 0 4 1 eB z,ro 0 3 1 eI (xu++A)]⟩->d2 s:=by
      rintro xu z A rfl s F;exact b1 _ (AG F (AF AA (Ac 2 AA (AB (xi (xu,Sh.w (g+1),z,A) k Aq)))))
     refine AL (sr AA λg3 b4=>bs y λd b5 y=>zx BF b5 AA AA AA (Ac 2 AA (dn b4 AA (sr AA λg4 b7=>Ac 2 AA (bs y λJ j y=>zz (LF d) (CD X3 AA AA AA AA j) rfl (zz (.bool J) (CF lr AA AA (CQ j) rfl) rfl (AT AA ?_)))))));refine dn b7 AA ?_;refine ci y AA ?_ ?_<;>intro b8 y
     .have g5:J=false:=by simpa using b8
      refine sr AA λg6 b9=>Ac 2 AA (zz (LF d) (CD X3 AA AA AA AA j) rfl (Je (u':=true) AN lr AA AA j AA AA AA tQ rfl AA (dn b9 AA (AF AA (Ac 2 AA ?_)))));refine CC 3 [d] eI BF AA ?_;refine bs y λh c0 y=>jy (stf:=λG156=>[HH p0.decls p0.funcs,ro 0 4 1 eB (Sh.put c d true),ro 1 3 1 eI (G156++h),TW d]) BF AA AA AA AA c0 (λ_=>AA) λG156=>AT AA ?_;exact AB (b3 G156 (Sh.put c d true) h (AS y) _ (by refine Wk.trans (Da (L:=[(2,.ptr 0 0 0 0),(5,.own 1 0 (List.length c)),(6,.own 2 0 (List.length h)),(42,.sl (List.map eI b)),(43,i64 (Sh.len b)),(44,i64 g)]) (st':=[⟨0,26,2,[[.sl (List.map Ah p0.decls),.sl (List.map BP p0.funcs)]]⟩,⟨0,4,1,List.map eB (Sh.put c d true)⟩,⟨0,3,1,List.map eI (G156++h)⟩,⟨0,3,1,List.map eI [d]⟩]) (.raw AA AA (.pure Bn (.pure Bn (.pure Bn .nil)))) ⟨.rfl,.rfl,.rfl,.rfl,.rfl,.rfl,oz⟩) ?_;refine Wk.trans (AM (L:=[(2,.ptr 0 0 0 0),(5,.own 1 0 (List.length c)),(6,.own 2 0 (List.length h)),(42,.sl (List.map eI b)),(43,i64 (Sh.len b)),(44,i64 g)]) (st':=[⟨0,26,2,[[.sl (List.map Ah p0.decls),.sl (List.map BP p0.funcs)]]⟩,⟨0,4,1,List.map eB (Sh.put c d true)⟩,⟨0,3,1,List.map eI (G156++h)⟩]) [0,1,2] AA AA (.w (.p (.p .nil))) ⟨.rfl,.rfl,.rfl,.rfl,.rfl,.rfl,oz⟩) ?_;exact Ag (L:=[(2,.ptr 0 0 0 0),(5,.own 1 0 (List.length (Sh.put c d true))),(6,.own 2 0 (List.length h)),(42,.sl (List.map eI b)),(43,i64 (Sh.len b)),(44,i64 g)]) ⟨.rfl,(.len (by simp only[Sh.GR])),.rfl,.rfl,.rfl,.rfl,oz⟩))
     .have g7:J=true:=by simpa using b8
      exact AH (b3 wo c x (AS y) _ Aq)
    .exact Au (d1 wo c x (AS k) _ Aq)
   .exact Au (c8 p (AS a) _ (AM [1] AA AA (.p .nil) (.same AA)))
 refine AF AA (AT AA (bs a λg8 c1 a=>G5 (hb 22) (Hi c1) rfl (Ac 2 AA ?_)));rcases Sh.Ae a with ⟨i,a⟩|⟨i,a⟩
 .refine zs i AA (zs i AA (zt i AA (AT AA ?_)));iterate 5 refine zs rfl rfl ?_
  exact zt AA AA (AB (M5 true (AS a) _ Aq))
 .refine Ay i AA (Ay i AA (zf i AA (AT AA ?_)));rcases Sh.Ae a with ⟨e,a⟩|⟨e,a⟩
  .refine zs e AA ?_;iterate 4 refine zs e rfl ?_
   exact zt e AA (AB (M5 true (AS a) _ Aq))
  .exact Ay e AA (Ay e AA (Ay e AA (BW (v:=i64 (Sh.len p0.funcs)) (CR AA AA e) rfl (CU Pp AA) (Ay e AA (zf e AA (AB (M5 (decide ((Sh.len p0.funcs)<=p1)) (AS a) _ Aq)))))))
theorem OT {N:Nat}{p0:List Int}{p1 r:Int}(h0:Hh N p0 p1=some r):Bf 65 [ls eI p0,i64 p1] [] (i64 r) []:=by
 unfold Hh at h0;refine ai Tryz.func65 AA AA AA AA (Ap AA (AE λk f=>sr AA λu g=>AT AA (CY AA (AT AA (dn g AA ?_)))));obtain⟨h,a,h0⟩:=Sh.Bj h0;have l:∀(_:Unit),h=Sum.inr ()->∀s,Wk 0 s ⟨19,AP [],[]⟩->k s:=by
  intro _ x s m;subst h;refine f _ (AG m (Ap AA ?_));cases h0;exact rt [(4,i64 (-1))]
 refine AL (An (σ:=Int) (λn v=>CP p0 p1 n v=some h) (λe=>⟨19,AP [(0,ls eI p0),(1,i64 p1),(7,i64 (Sh.len p0)),(8,i64 e)],[]⟩) N 0 a Aq (λ_ j=>by rw[CP]at j;cases j) ?_);rintro n e a;rw[CP]at a;refine Ap AA (AE λy i=>?_);refine ci a AA ?_ ?_<;>intro z a
 .refine AH (i _ (AE λo b=>AL (Ap AA (sr AA λp c=>Ac 3 AA (bs a λq d a=>zx BF d AA AA AA (Ac 2 AA (dn c AA ?_)))))));refine ci a AA ?_ ?_<;>intro t a
  .refine Ap AA ?_;cases a;cases h0;exact rt [(4,i64 e)]
  .exact AH (b _ (AF AA (Ac 2 AA (AB (xi (Sh.w (e+1)) a Aq)))))
 .exact Au (l () (AS a) _ Aq)
theorem Mv {N:Nat}{p0:List Int}{p1:Int}{r:Bool}(h0:Fq N p0 p1=some r):Bf 51 [ls eI p0,i64 p1] [] (.bool r) []:=by
 unfold Fq at h0;refine ai Tryz.func51 AA AA AA AA (Ap AA (sr AA λd a=>Ac 2 AA (bs h0 λc b h0=>G5 (hb 65) (OT b) rfl (Ac 2 AA (dn a AA ?_)))));cases h0;exact rt [(4,.bool (decide (0<=c)))]
theorem Su {N:Nat}{p0:AJ}{p1:Int}{r:Bool}(h0:Dk N p0 p1=some r):Bf 24 [KT p0,i64 p1] [] (.bool r) []:=by
 unfold Dk at h0;refine ai Tryz.func24 AA AA AA AA (sr AA λV u=>Ee 0 AA (AT AA (dn u AA (AE λW x=>AE λI y=>bs h0 λG a h0=>?_))));have z:∀A,G=A->∀s,Wk 0 s ⟨35,AP [(1,i64 p1),(2,BG),(20,.bool A)],[HH p0.decls p0.funcs]⟩->I s:=by
  intro A J s B;subst G;refine y _ (AG B ?_);refine ci h0 AA ?_ ?_<;>intro X h0
  .refine Ap AA ?_;cases h0;exact rd [(4,.bool false)]
  .refine AH (x _ (AE λK C=>sr AA λY D=>Ac 2 AA (bs h0 λc h h0=>Bo (v':=ow 1 0 c) AN (hb 17) (Sk h) rfl AA ⟨(Bq λ_=>AA),oz⟩ AA AA (zz (G7 c) (DE Gd AA AA AA) rfl (AT AA (dn D AA ?_))))));obtain⟨g,a,h0⟩:=Sh.Bj h0;have E:∀(_:Unit),g=Sum.inr ()->∀s,Wk 0 s ⟨35,AP [],[]⟩->K s:=by
    intro _ J s B;subst g;refine C _ (AG B (Ap AA ?_));cases h0;exact rt [(4,.bool true)]
   refine AL (An (σ:=Int) (λn v=>DM N p0 p1 c n v=some g) (λe=>⟨35,AP [(1,i64 p1),(2,.ptr 0 0 0 0),(23,ow 1 0 c),(24,i64 (Sh.len c)),(25,i64 e)],[HH p0.decls p0.funcs,ro 0 3 1 eI c]⟩) N 0 a Aq (λ_ H=>by rw[DM]at H;cases H) ?_);rintro n e a;rw[DM]at a;refine Ap AA (AE λM i=>?_);refine ci a AA ?_ ?_<;>intro O a
   .refine AH (i _ (AE λP j=>AL (sr AA λQ k=>bs a λF f a=>zz (LF e) (CD BF AA AA AA AA f) rfl (zz (i64 F) (CF Hy AA AA (CQ f) rfl) rfl (AT AA (dn k AA (sr AA λR l=>Ac 2 AA (bs a λo p a=>?_))))))));refine Bo (v':=ow 2 0 o) AN (hb 52) (Q6 p) rfl AA ⟨(Bq λ_=>AA),oz⟩ AA AA (AT AA (EU [(1,i64 p1),(2,BG),(23,ow 1 0 c),(24,G7 c),(25,i64 e),(31,ls eI o),(32,i64 p1)] [HH p0.decls p0.funcs,BY c,⟨1,3,1,[]⟩] 2 AA ⟨.rfl,.rfl,.rfl,.rfl,.rfl,.BZ AA,.rfl,oz⟩ (λ_=>AA) rfl (bs a λS q a=>G5 (hb 51) (Mv q) rfl (dn l AA ?_))));refine ci a AA ?_ ?_<;>intro T a
    .refine Ap AA ?_;cases a;cases h0;exact rd [(4,.bool false)]
    .refine AH (j _ (AF AA (Ac 2 AA ?_)));exact AB (xi (Sh.w (e+1)) a (AM [0,1] AA AA (.w (.p .nil)) (.same AA)))
   .exact Au (E () (AS a) _ (Be _ AA))
 refine AF AA (AT AA (bs a λU t a=>G5 (hb 22) (Hi t) rfl (Ac 2 AA ?_)));rcases Sh.Ae a with ⟨d,a⟩|⟨d,a⟩
 .refine zs d AA (zs d AA (zt d AA (AT AA ?_)));iterate 5 refine zs rfl rfl ?_
  exact zt AA AA (AB (z true (AS a) _ Aq))
 .refine Ay d AA (Ay d AA (zf d AA (AT AA ?_)));rcases Sh.Ae a with ⟨b,a⟩|⟨b,a⟩
  .refine zs b AA ?_;iterate 4 refine zs b rfl ?_
   exact zt b AA (AB (z true (AS a) _ Aq))
  .exact Ay b AA (Ay b AA (Ay b AA (BW (v:=i64 (Sh.len p0.funcs)) (CR AA AA b) rfl (CU Pp AA) (Ay b AA (zf b AA (AB (z (decide ((Sh.len p0.funcs)<=p1)) (AS a) _ Aq)))))))
theorem SP {N:Nat}{uT:AD->Int->Int->Option (AD)}(vZ :∀{p0:AD} {p1:Int} {p2:Int} {r:AD},uT p0 p1 p2=some r->Bf 44 (Z5 p0 p1 p2) [] (.agg (Ux r)) [G8 r]){p0:AD}{p1 p2:Int}{r:AD}(h0:JA N uT p0 p1 p2=some r):Bf 44 (Z5 p0 p1 p2) [] (.agg (Ux r)) [G8 r]:=by
 unfold JA at h0;refine BJ.wk (r0:=.agg (Ux r)) (st0:=[G8 r,⟨0,35,3,[Ux r]⟩]) ?_ (D3 (L:=[(0,.agg (Ux r))]) (st':=[G8 r]) [0] AA (by decide) rfl AA (.deep (Ao BD) oz) (.same AA));refine ai Tryz.func44 AA AA AA AA (sr AA λK1 S=>Ee 0 AA (DL 1 Dd AA (dn S AA (AE λK2 T=>bs h0 λZ h h0=>?_))));have M4:∀k,Z=k->∀s,Wk 0 s ⟨44,AP (jX p1 p2 []),[PY p0.op k p0.kids,Hk]⟩->K2 s:=by
  intro k hq s F;subst Z;refine T _ (AG F (Ap AA (sr AA λK6 U=>AT AA (Bx cD AA (dn U AA (AE λK7 V=>sr AA λK8 W=>AT AA (CY AA (AT AA (dn W AA ?_)))))))));refine bs h0 λD h h0=>?_;have X:∀p,D=p->∀s,Wk 0 s ⟨44,AP [(3,BG),(6,CM)],[ko p0 k p,Hk,Gh p]⟩->K7 s:=by
   intro p hq s F;subst D;refine V _ (AG F (sr AA λb0 G=>AT AA (Bx BI AA (dn G AA ?_))));cases h0;exact Am ⟨_,(Ef (L:=[(6,CM)]) (st':=[Gh p,⟨0,35,3,[[i64 p0.op,i64 k,ow 0 0 p]]⟩]) (st1:=[Gh p,ko p0 k p]) [2,1] AA AA (.deep (Ao BD) (.w .nil)) (.same AA)).trans (Ag (L:=[(6,CM)]) (.same AA)),FY (.tmp 6) [i64 p0.op,i64 k,ow 0 0 p] BI AA _ ⟨AA,AA⟩⟩
  refine AL (An (σ:=Int×(List AD)) (λn v=>Cn p0 p1 p2 uT n v.1 v.2=some D) (λ(y,a)=>⟨44,AP [(1,i64 p1),(2,i64 p2),(3,.ptr 0 0 0 0),(6,.ptr 1 0 0 0),(27,ls Ar p0.kids),(28,i64 (Sh.len p0.kids)),(29,i64 y)],[⟨0,35,3,[[i64 p0.op,i64 k,ow 2 0 a]]⟩,Hk,ro 0 35 3 (Bv 35) a]⟩) N (0,[]) h (by refine Wk.trans (LO (id:=0) (st':=[⟨0,35,3,[[i64 p0.op,i64 k,.own 2 0 (List.length ([]:List AD))]]⟩,Hk,ro 0 35 3 (Bv 35) ([]:List AD)]) (j:=2) rfl AA 35 (size':=3) (by decide) rfl AA AA AA) ?_;exact Bz AA) (λ_ hv=>by rw[Cn]at hv;cases hv) ?_);rintro n ⟨y,a⟩ h;rw[Cn]at h;refine Ap AA (AE λb1 H=>?_);refine ci h AA ?_ ?_<;>intro b2 h
  .refine AH (H _ (AE λb3 I=>AL (sr AA λb4 J=>bs h λA K h=>zz (EP A) (Cb Ba AA AA K (Af _) rfl) rfl (AT AA (DL 3 Dd AA (Bx BI AA (dn J AA ?_)))))));refine Hw (by kernel_rfl) ?_;refine bs h λd B h=>bs h λf C h=>LB λA23 b=>?_;have g:A23 0 (bm 10 1023) ⟨44,AP (Z6 p1 p2 p0 y []),[WE p0 k f,Gh f,Hk]⟩:=(b _ _ _).2 (by
    refine Gi AA (by kernel_rfl) ?_;refine I _ (AF AA (Ac 2 AA ?_));exact AB (xi (Sh.w (y+1),f) h (by exact Ef (L:=jX p1 p2 [(27,aj p0),(28,bL p0),(29,Kt y)]) (st':=[ko p0 k f,Hk,Gh f]) (st1:=[WE p0 k f,Hk,Gh f]) [0,2,1] AA AA (.w (.w (.deep (Ao BD) .nil))) (.same AA))))
   have o:A23 1 (bm 10 511) ⟨44,AP (Z6 p1 p2 p0 y [(40,ow 1 1 f),(41,.ptr 0 0 0 2)]),[WE p0 k a,ro 1 35 3 (Bv 35) f,Hk]⟩:=(b _ _ _).2 (by
    refine xa [9] ⟨?_,oz⟩
    .refine xo 9 ?_;exact Bx cD AA (QG b g (by exact Da (L:=Z6 p1 p2 p0 y []) (st':=[WE p0 k f,Gh f,Hk]) (.raw AA AA (.deep (Ao BD) (.raw AA AA .nil))) (.same AA))))
   have q:A23 3 (bm 10 127) ⟨44,AP (Z6 p1 p2 p0 y [(34,ow 1 0 a),(39,.own 3 0 1)]),[WE p0 k a,Gh a,Hk,⟨0,35,3,[eV d]⟩,G8 d]⟩:=(b _ _ _).2 (by
    refine xa [7] ⟨?_,oz⟩
    .refine xo 7 ?_;have M:=cS C;refine fr (st':=[WE p0 k a,⟨1,35,3,hole f (Bv 35) (Sh.len a) (eV d)⟩,Hk,⟨0,35,3,[eV d]⟩,G8 d]) (c:=d) AN Ba AA AA AA AA AA AA AA C AA ?_;refine As (Wk.take (id:=1) (m:=4) (j:=2) (i:=Sh.len a) (c:=d) (ys:=d.kids) (encY:=Bv 35) rfl M AA AA AA (by decide) te HT AA AA) ?_;refine As (NM (id:=1) (i:=Sh.len a) (c:=d) rfl M (Iq d).symm AA) (AB ⟨AA,?_⟩);refine Fb tb 8 AA AA ?_;exact xw b o (by exact AM [0,1,2] AA AA (.w (.deep (Ao BD) (.w .nil))) (.same AA)))
   have e:A23 4 (bm 10 63) ⟨44,AP (Z6 p1 p2 p0 y [(34,ow 1 0 a),(38,.agg (Qb d))]),[WE p0 k a,Gh a,Hk,G8 d]⟩:=(b _ _ _).2 (by
    refine xa [6] ⟨?_,oz⟩
    .refine xo 6 ?_;refine CC 4 [()] (λ_=>Qb d) Ba AA ?_;exact QG b q (by exact Ef (L:=Z6 p1 p2 p0 y [(34,ow 1 0 a),(39,.own 3 0 1)]) (st':=[WE p0 k a,Gh a,Hk,⟨0,35,3,[eV d]⟩,G8 d]) (st1:=[WE p0 k a,Gh a,Hk,⟨0,35,3,[Qb d]⟩,G8 d]) [0,1,2,4,3] AA AA (.w (.deep (Ao BD) (.w (.w (.deep (Ao BD) .nil))))) (.same AA)))
   have t:A23 5 (bm 10 31) ⟨44,AP (Z6 p1 p2 p0 y [(34,ow 1 0 a),(35,Bd A),(36,i64 p1),(37,i64 p2)]),[WE p0 k a,Gh a,Hk]⟩:=(b _ _ _).2 (by
    refine xa [5] ⟨?_,oz⟩
    .refine xo 5 ?_;exact Bo (v':=.agg (Qb d)) AN (hb 44) (vZ B) rfl AA ⟨Ao BD,oz⟩ AA AA (xd b e))
   have z:A23 6 (bm 10 29) ⟨44,AP (Z6 p1 p2 p0 y [(33,.ptr 0 0 0 2),(35,Bd A),(36,i64 p1),(37,i64 p2)]),[WE p0 k a,Gh a,Hk]⟩:=(b _ _ _).2 (by
    refine xa [1,5] ⟨?_,?_,oz⟩
    .exact xq tb b t
    .refine xo 5 ?_;refine Bo (v':=.agg (Qb d)) AN (hb 44) (vZ B) rfl AA ⟨Ao BD,oz⟩ AA AA (AB ⟨AA,?_⟩);refine Fb tb 1 AA AA ?_;exact xt b e)
   refine (b _ _ _).2 ?_;refine Fb tb 0 AA AA ?_;refine Fb tb 2 AA AA ?_;refine Fb tb 3 AA AA ?_;refine Fb tb 4 AA AA ?_;exact xw b z (by exact Ef (L:=Z6 p1 p2 p0 y [(33,.ptr 0 0 0 2),(35,Bd A),(36,i64 p1),(37,i64 p2)]) (st':=[WE p0 k a,Gh a,Hk]) (st1:=[ko p0 k a,Gh a,Hk]) [0,2,1] AA AA (.w (.deep (Ao BD) (.w .nil))) (.same AA))
  .exact Au (X a (AS h) _ Aq)
 refine AE λY O=>bs h λP Q h=>?_;have R:∀E,P=E->∀s,Wk 0 s ⟨44,AP (jX p1 p2 [(18,.bool E)]),[PY p0.op p0.num p0.kids,Hk]⟩->Y s:=by
  intro E hq s F;subst P;refine O _ (AG F ?_);refine ci h AA ?_ ?_<;>intro b5 h
  .exact AF AA (Ac 5 AA (Bx Hy AA (AB (M4 (Sh.w (p0.num+p2)) (AS h) _ Aq))))
  .exact AH (M4 p0.num (AS h) _ Aq)
 refine AF AA (Ac 4 AA ?_);rcases Sh.Ae Q with ⟨u,Q⟩|⟨u,Q⟩
 .refine Ay u AA ?_;iterate 3 refine Ay u rfl ?_
  exact zt u AA (AB (R (decide (p1<=p0.num)) (AS Q) _ Aq))
 .refine zs u AA ?_;iterate 3 refine zs u rfl ?_
  exact zf u AA (AB (R false (AS Q) _ Aq))
theorem Sx {N:Nat}:∀(n:Nat),∀{p0:AD} {p1:Int} {p2:Int} {r:AD},EG N n p0 p1 p2=some r->Bf 44 (Z5 p0 p1 p2) [] (.agg (Ux r)) [G8 r]:=by
 intro n
 induction n with
 |zero=>intro p0 p1 p2 r a;cases a
 |succ n ih=>
  intro p0 p1 p2 r a;rw[EG]at a;exact SP (λh=>ih h) a
theorem KG {N:Nat}:∀{p0:AD} {p1:Int} {p2:Int} {r:AD},Gs N p0 p1 p2=some r->Bf 44 (Z5 p0 p1 p2) [] (.agg (Ux r)) [G8 r]:=by
 intro p0 p1 p2 r a;exact Sx N a
theorem NW {N:Nat}{p0 r:AD}(h0:JH N p0=some r):Bf 91 [Bd p0] [] (.agg (Ux r)) [G8 r]:=by
 unfold JH at h0;refine BJ.wk (r0:=.agg (Ux r)) (st0:=[G8 r,⟨0,35,3,[Ux r]⟩]) ?_ (D3 (L:=[(0,.agg (Ux r))]) (st':=[G8 r]) [0] AA (by decide) rfl AA (.deep (Ao BD) oz) (.same AA));refine ai Tryz.func91 AA AA AA AA (sr AA λe b=>Ee 0 AA (DL 1 Dd AA (dn b AA (sr AA λf c=>AT AA (bs h0 λa d h0=>Bo (v':=.agg [i64 a.op,i64 a.num,ow 2 0 a.kids]) AN (hb 44) (KG d) rfl AA ⟨Ao BD,oz⟩ AA AA (Bx BI AA (dn c AA ?_)))))));obtain rfl:=Sh.BU h0;exact Am (Exists.intro _ (And.intro ((Ef (L:=[(2,CM)]) (st':=[G8 a,⟨0,35,3,[Ux a]⟩]) (st1:=[G8 a,⟨0,35,3,[[i64 a.op,i64 a.num,ow 2 0 a.kids]]⟩]) [2,1] AA AA (.deep (Ao BD) (.w .nil)) (.same AA)).trans (Ag (L:=[(2,CM)]) (.same AA))) (FY (.tmp 2) (Ux a) BI AA _ ⟨AA,AA⟩)))
theorem P7 {N:Nat}{p0 r:AJ}(h0:Hf N p0=some r):Bf 55 [KT p0] [] (.agg [ow 0 0 r.decls,ow 1 0 r.funcs]) (me r []):=by
 unfold Hf at h0;refine BJ.wk (r0:=.agg [ow 0 0 r.decls,ow 1 0 r.funcs]) (st0:=me r [⟨0,26,2,[[ow 0 0 r.decls,ow 1 0 r.funcs]]⟩]) ?_ (D3 (L:=[(0,.agg [ow 0 0 r.decls,ow 1 0 r.funcs])]) (st':=me r []) [0,1] AA (by decide) rfl AA (.deep (Ao λ_=>AA) (.deep (Ao λ_=>AA) oz)) (.same AA));refine ai Tryz.func55 AA AA AA AA (sr AA λK1 R=>Ee 0 AA (As (Wk.BZ (L:=[(1,jb p0)]) (st':=[⟨1,26,2,[]⟩]) (id:=0) rfl tM (Ek AA) (.same AA) rfl) (DL 1 Is AA (dn R AA (sr AA λK2 S=>Ac 2 AA (bs h0 λf T h0=>Bo (v':=ow 2 0 f) AN (hb 90) (Cl.QC T) rfl AA ⟨(Ao λ_=>AA),oz⟩ AA AA (zz (.agg [ow 2 0 f,.zc]) (DK Xn YD Is AA AA) rfl (DL 3 Is AA ?_))))))));refine Bx Dz AA (dn S AA (AE λY U=>sr AA λK5 V=>Ac 2 AA (CY AA (AT AA (dn V AA (bs h0 λW D h0=>?_))))));have Z:∀E,W=E->∀s,Wk 0 s ⟨33,AP [(2,BG),(3,CV)],[VZ,Qt f,jn f E,Pf E]⟩->Y s:=by
  intro E hq s hw;subst W;refine U _ (AG hw (sr AA λb0 K=>AT AA (Bx Dz AA (dn K AA ?_))));cases h0;exact Am ⟨_,((Ef (L:=[(2,CV)]) (st':=[Qt f,Pf E,⟨0,26,2,[[ow 0 0 f,ow 1 0 E]]⟩]) (st1:=[Qt f,Pf E,jn f E]) [1,3,0] AA AA (.deep (Ao λ_=>AA) (.deep (Ao λ_=>AA) (.w .nil))) (.same AA)).trans (Ag (L:=[(2,CV)]) (.same AA))),FY (.tmp 2) [ow 0 0 f,ow 1 0 E] Dz AA _ ⟨AA,AA⟩⟩
 refine AL (An (σ:=Int×(List AU)) (λn v=>DT N p0 n v.1 v.2=some W) (λ(C,q)=>⟨33,AP [(2,.ptr 0 0 0 0),(3,.ptr 2 0 0 0),(11,ls BP p0.funcs),(12,i64 (Sh.len p0.funcs)),(13,i64 C)],[VZ,ro 0 80 3 (Bu 82 3) f,⟨0,26,2,[[ow 1 0 f,ow 3 0 q]]⟩,ro 0 37 5 (ES 3 35) q]⟩) N (0,[]) D (by refine Wk.trans (LO (id:=3) (st':=[⟨1,26,2,[]⟩,VZ,ro 0 80 3 (Bu 82 3) f,⟨0,26,2,[[ow 2 0 f,.own 4 0 (List.length ([]:List AU))]]⟩,ro 0 37 5 (ES 3 35) ([]:List AU)]) (j:=1) rfl AA 37 (size':=5) (by decide) rfl AA AA AA) ?_;exact Ef (L:=[(2,.ptr 0 0 0 0),(3,.ptr 2 0 0 0),(11,ls BP p0.funcs),(12,i64 (Sh.len p0.funcs)),(13,i64 0)]) (st':=[VZ,ro 0 80 3 (Bu 82 3) f,⟨0,26,2,[[ow 1 0 f,.own 3 0 (List.length ([]:List AU))]]⟩,ro 0 37 5 (ES 3 35) ([]:List AU)]) (st1:=[VZ,ro 0 80 3 (Bu 82 3) f,⟨0,26,2,[[ow 2 0 f,.own 4 0 (List.length ([]:List AU))]]⟩,ro 0 37 5 (ES 3 35) ([]:List AU)]) [1,2,3,4] AA AA (.w (.deep (Ao λ_=>AA) (.w (.deep (Ao λ_=>AA) .nil)))) (.same AA)) (λ_ X=>by rw[DT]at X;cases X) ?_);rintro n ⟨C,q⟩ D;rw[DT]at D;refine Ap AA (AE λb1 M=>?_);refine ci D AA ?_ ?_<;>intro b2 D
 .refine AH (M _ (AE λb3 O=>AL (sr AA λb4 P=>bs D λd Q D=>zx Ck Q AA AA AA (AT AA (DL 4 MQ AA (Bx Ln AA (As (Wk.BZ (L:=[(2,BG),(3,CV),(5,gR d),(11,dY p0),(12,i64 (Sh.len p0.funcs)),(13,i64 C)]) (st':=[VZ,Qt f,jn f q,Pf q,Ug]) (id:=4) rfl te (Ek AA) (.same AA) rfl) (dn P AA ?_))))))));refine Qh (by kernel_rfl) ?_;refine bs D λe G D=>bs D λa H D=>bs D λy I D=>?_;refine Xl (f':=15) (listed':=bm 15 0) rfl (by kernel_rfl) ?_;refine DX 0 (v:=dH) rfl AA (by kernel_rfl) (by kernel_rfl) (by kernel_rfl) rfl (Fa (Kv Ki AA AA tN rfl)) ?_;refine DX 2 (v:=gR d) rfl AA (by kernel_rfl) (by kernel_rfl) (by kernel_rfl) rfl (Fa (NN Tb AA AA)) ?_;refine DX 3 (v:=ls eI d.params) rfl AA (by kernel_rfl) (by kernel_rfl) (by kernel_rfl) rfl (PZ Le AA AA) ?_;refine DX 5 (v:=.C9 (X6 d) 1) rfl AA (by kernel_rfl) (by kernel_rfl) (by kernel_rfl) rfl (Fa (NN RI AA AA)) ?_;refine DX 6 (v:=i64 d.result) rfl AA (by kernel_rfl) (by kernel_rfl) (by kernel_rfl) rfl (PZ Hy AA AA) ?_;refine DX 7 (v:=.C9 (X6 d) 2) rfl AA (by kernel_rfl) (by kernel_rfl) (by kernel_rfl) rfl (Fa (NN Wt AA AA)) ?_;refine DX 8 (v:=UZ d) rfl AA (by kernel_rfl) (by kernel_rfl) (by kernel_rfl) rfl (Vs BI AA tS rfl) ?_;refine Xv (VG λzy b=>?_);have k:zy 0 (bm 15 32767) ⟨33,AP (VC p0 [(12,i64 (Sh.len p0.funcs)),(13,i64 C)]),jP f y⟩:=(b _ _ _).2 (by
   refine Si AA (by kernel_rfl) ?_;refine O _ (AF AA (Ac 2 AA ?_));exact AB (xi (Sh.w (C+1),y) D (by exact Ef (L:=[(2,BG),(3,CV),(11,dY p0),(12,i64 (Sh.len p0.funcs)),(13,Kt C)]) (st':=[VZ,Qt f,jn f y,Pf y]) (st1:=[VZ,Qt f,gQ f y,Pf y]) [0,2,1,3] AA AA (.w (.deep (Ao λ_=>AA) (.w (.deep (Ao λ_=>AA) .nil)))) (.same AA))))
  have p:zy 1 (bm 15 16383) ⟨33,AP (VC p0 [(12,i64 (Sh.len p0.funcs)),(13,i64 C),(29,ow 3 1 y),(30,.ptr 1 0 0 1)]),[VZ,gQ f q,Qt f,ro 1 37 5 (ES 3 35) y]⟩:=(b _ _ _).2 (by
   refine ya [14] ⟨?_,oz⟩
   .refine yo 14 ?_;exact Bx P1 AA (lX b k (by exact Da (L:=VC p0 [(12,i64 (Sh.len p0.funcs)),(13,i64 C)]) (st':=jP f y) (.raw AA AA (.raw AA AA (.deep (Ao λ_=>AA) (.deep (Ao λ_=>AA) .nil)))) (.same AA))))
  have t:zy 3 (bm 15 4095) ⟨33,AP (VC p0 [(12,i64 (Sh.len p0.funcs)),(13,i64 C),(18,ow 3 0 q),(28,.own 4 0 1)]),dO f q [⟨0,37,5,[[ow 5 0 e,i64 d.result,i64 a.op,i64 a.num,ow 6 0 a.kids]]⟩,BY e,G8 a]⟩:=(b _ _ _).2 (by
   refine ya [12] ⟨?_,oz⟩
   .refine yo 12 ?_;have J:=cS I;refine fr (st':=[VZ,gQ f q,Qt f,⟨1,37,5,hole y (ES 3 35) (Sh.len q) [ow 5 0 e,i64 d.result,i64 a.op,i64 a.num,ow 6 0 a.kids]⟩,⟨0,37,5,[[ow 5 0 e,i64 d.result,i64 a.op,i64 a.num,ow 6 0 a.kids]]⟩,BY e,G8 a]) (c:=AU.mk e d.result a) AN Ck AA AA AA AA AA AA AA I AA ?_;refine As (Wk.take (id:=3) (m:=5) (j:=0) (i:=Sh.len q) (c:=AU.mk e d.result a) (ys:=e) (encY:=eI) rfl J AA AA AA (by decide) (show 0<=5 by decide) (λ_=>AA) rfl AA) ?_;refine As (Wk.take (id:=3) (m:=6) (j:=4) (i:=Sh.len q) (c:=AU.mk e d.result a) (ys:=a.kids) (encY:=Bv 35) rfl J AA AA AA (by decide) (show 0<=6 by decide) HT AA AA) ?_;refine As (NM (id:=3) (i:=Sh.len q) (c:=AU.mk e d.result a) rfl J AA AA) (AB ⟨AA,?_⟩);refine H7 tb 13 AA (by kernel_rfl) rfl ?_;exact yw b p (by exact AM [0,1,2,3] AA AA (.w (.w (.deep (Ao λ_=>AA) (.deep (Ao λ_=>AA) .nil)))) (.same AA)))
  have g:zy 4 (bm 15 2047) ⟨33,AP (VC p0 [(12,i64 (Sh.len p0.funcs)),(13,i64 C),(18,ow 3 0 q),(27,.agg [ow 4 0 e,i64 d.result,i64 a.op,i64 a.num,ow 5 0 a.kids])]),dO f q [BY e,G8 a]⟩:=(b _ _ _).2 (by
   refine ya [11] ⟨?_,oz⟩
   .refine yo 11 ?_;refine CC 6 [()] (λ_=>[ow 4 0 e,i64 d.result,i64 a.op,i64 a.num,ow 5 0 a.kids]) Ck AA ?_;exact lX b t (by exact Ef (L:=VC p0 [(12,i64 (Sh.len p0.funcs)),(13,i64 C),(18,ow 3 0 q),(28,.own 4 0 1)]) (st':=dO f q [⟨0,37,5,[[ow 5 0 e,i64 d.result,i64 a.op,i64 a.num,ow 6 0 a.kids]]⟩,BY e,G8 a]) (st1:=dO f q [⟨0,37,5,[[ow 4 0 e,i64 d.result,i64 a.op,i64 a.num,ow 5 0 a.kids]]⟩,BY e,G8 a]) [0,1,2,3,6,4,5] AA AA (.w (.w (.deep (Ao λ_=>AA) (.deep (Ao λ_=>AA) (.w (.p (.deep (Ao BD) .nil))))))) (.same AA)))
  have h:zy 5 (bm 15 1023) ⟨33,AP (VC p0 [(12,i64 (Sh.len p0.funcs)),(13,i64 C),(18,ow 3 0 q),(21,ow 4 0 e),(23,i64 d.result),(26,.agg (WD a))]),dO f q [BY e,G8 a]⟩:=(b _ _ _).2 (by
   refine ya [10] ⟨?_,oz⟩
   .refine yo 10 ?_;exact zz (.agg [ow 4 0 e,i64 d.result,i64 a.op,i64 a.num,ow 5 0 a.kids]) (DK Vq Ve MQ AA AA) rfl (yd b g))
  have o:zy 6 (bm 15 511) ⟨33,AP (VC p0 [(12,i64 (Sh.len p0.funcs)),(13,i64 C),(18,ow 3 0 q),(21,ow 4 0 e),(23,i64 d.result),(25,UZ d)]),dO f q [BY e]⟩:=(b _ _ _).2 (by
   refine ya [9] ⟨?_,oz⟩
   .refine yo 9 ?_;exact Bo (v':=.agg (WD a)) AN (hb 91) (NW H) rfl AA ⟨Ao BD,oz⟩ AA AA (yd b h))
  have z:zy 7 (bm 15 495) ⟨33,AP (VC p0 [(12,i64 (Sh.len p0.funcs)),(13,i64 C),(18,ow 3 0 q),(20,ls eI d.params),(23,i64 d.result),(25,UZ d)]),jP f q⟩:=(b _ _ _).2 (by
   refine ya [4] ⟨?_,oz⟩
   .refine yo 4 ?_;exact Bo (v':=ow 4 0 e) AN (hb 82) (Cr G) rfl AA ⟨(Bq λ_=>AA),oz⟩ AA AA (yd b o))
  have u:zy 6 (bm 15 1021) ⟨33,AP (VC p0 [(12,i64 (Sh.len p0.funcs)),(13,i64 C),(17,.ptr 1 0 0 1),(21,ow 4 0 e),(23,i64 d.result),(26,.agg (WD a))]),dO f q [BY e,G8 a]⟩:=(b _ _ _).2 (by
   refine ya [1,10] ⟨?_,?_,oz⟩
   .exact la tb b h
   .refine yo 10 ?_;refine zz (.agg [ow 4 0 e,i64 d.result,i64 a.op,i64 a.num,ow 5 0 a.kids]) (DK Vq Ve MQ AA AA) rfl (AB ⟨AA,?_⟩);refine H7 tb 1 AA (by kernel_rfl) rfl ?_;exact kZ b g)
  have A:zy 7 (bm 15 509) ⟨33,AP (VC p0 [(12,i64 (Sh.len p0.funcs)),(13,i64 C),(17,.ptr 1 0 0 1),(21,ow 4 0 e),(23,i64 d.result),(25,UZ d)]),dO f q [BY e]⟩:=(b _ _ _).2 (by
   refine ya [1,9] ⟨?_,?_,oz⟩
   .exact la tb b o
   .refine yo 9 ?_;exact Bo (v':=.agg (WD a)) AN (hb 91) (NW H) rfl AA ⟨Ao BD,oz⟩ AA AA (yd b u))
  have B:zy 8 (bm 15 493) ⟨33,AP (VC p0 [(12,i64 (Sh.len p0.funcs)),(13,i64 C),(17,.ptr 1 0 0 1),(20,ls eI d.params),(23,i64 d.result),(25,UZ d)]),jP f q⟩:=(b _ _ _).2 (by
   refine ya [1,4] ⟨?_,?_,oz⟩
   .exact la tb b z
   .refine yo 4 ?_;exact Bo (v':=ow 4 0 e) AN (hb 82) (Cr G) rfl AA ⟨(Bq λ_=>AA),oz⟩ AA AA (yd b A))
  refine (b _ _ _).2 ?_;exact yw b B (by exact Ef (L:=VC p0 [(12,i64 (Sh.len p0.funcs)),(13,i64 C),(17,.ptr 1 0 0 1),(20,ls eI d.params),(23,i64 d.result),(25,UZ d)]) (st':=jP f q) (st1:=[VZ,jn f q,Qt f,Pf q]) [0,2,1,3] AA AA (.w (.w (.deep (Ao λ_=>AA) (.deep (Ao λ_=>AA) .nil)))) (.same AA))
 .exact Au (Z q (AS D) _ Aq)
theorem UX {N:Nat}{tl:Int}{uA:List AK}{uQ:List AU}{s2:List AD}{xQ xD p1:Int}{r:AD}(h0:Lh N tl uA uQ s2 xQ xD p1=some r):Bf 42 [.agg [i64 xQ,i64 xD,ow 2 0 s2],i64 p1,BG,CM] [I8 tl,HH uA uQ,Gh s2] (.agg (Qb r)) (NL tl uA uQ [G8 r]):=by
 unfold Lh at h0;refine BJ.wk (r0:=.agg (Qb r)) (st0:=NL tl uA uQ [G8 r,⟨0,35,3,[Qb r]⟩]) ?_ (D3 (L:=[(0,.agg (Qb r))]) (st':=NL tl uA uQ [G8 r]) [0,1,2,3] AA (by decide) rfl AA (.raw AA (.raw AA (.pure (by intro x i;cases i) (.deep (Ao BD) oz)))) (.same AA));refine ai Tryz.func42 AA AA AA AA (AG (Vm (L:=[(0,.agg (WI xQ xD s2)),(1,i64 p1),(2,BG),(3,CM)]) (id:=2) (N:=3) (st':=NL tl uA uQ [Gh s2]) rfl AA (.same AA) rfl) (sr AA λE p=>Ee 4 AA (DL 5 Dd AA (dn p AA (AE λG q=>AE λC t=>bs h0 λA l h0=>?_)))));have B:∀u,A=u->∀s,Wk 3 s ⟨29,AP [(1,i64 p1),(2,BG),(3,CM),(4,I0),(6,S5),(15,.bool u)],NL tl uA uQ [Gh s2,⟨0,35,3,[WI xQ xD s2]⟩,Hk]⟩->C s:=by
  intro u hq s D;subst A;refine t _ (AG D ?_);refine ci h0 AA ?_ ?_<;>intro H h0
  .refine sr AA λI w=>AT AA (Bx BI AA (dn w AA ?_));cases h0;exact Am ⟨_,((AM (L:=[(6,I0)]) (st':=NL tl uA uQ [Gh s2,⟨0,35,3,[WI xQ xD s2]⟩]) [0,1,2,3,5] AA AA (.w (.w (.pure (by intro x i;cases i) (.deep (Ao BD) (.w .nil))))) ⟨.rfl,oz⟩).trans (Ag (L:=[(6,I0)]) ⟨.rfl,oz⟩)),FY (.tmp 6) (WI xQ xD s2) BI AA _ ⟨AA,AA⟩⟩
  .refine AH (q _ (AE λJ y=>?_));refine Qh (by kernel_rfl) ?_;refine bs h0 λo z h0=>bs h0 λh k h0=>bs h0 λc n h0=>?_;refine Xl (f':=13) (listed':=bm 13 0) rfl (by kernel_rfl) ?_;refine DX 0 (v:=.ptr 4 0 0 2) rfl AA (by kernel_rfl) (by kernel_rfl) (by kernel_rfl) rfl (Fa (Kv bC AA AA tP rfl)) ?_;refine DX 2 (v:=.ptr 1 0 0 1) rfl AA (by kernel_rfl) (by kernel_rfl) (by kernel_rfl) rfl (Fa (Kv Ki AA AA tN rfl)) ?_;refine DX 8 (v:=i64 p1) rfl AA (by kernel_rfl) (by kernel_rfl) (by kernel_rfl) rfl (Fa (Ia AA)) ?_;refine DX 10 (v:=i64 p1) rfl AA (by kernel_rfl) (by kernel_rfl) (by kernel_rfl) rfl (Fa (Ia AA)) ?_;refine Xv (VG λA12 b=>?_);have d:A12 0 (bm 13 8191) ⟨29,AP [(6,IJ)],NL tl uA uQ [⟨0,35,3,[eV c]⟩,G8 c]⟩:=(b _ _ _).2 (by
    refine Si AA (by kernel_rfl) ?_;refine y _ ?_;obtain rfl:=Sh.BU h0;exact Am (Exists.intro _ (And.intro ((Ef (L:=[(6,I0)]) (st':=NL tl uA uQ [G8 c,⟨0,35,3,[Qb c]⟩]) (st1:=NL tl uA uQ [G8 c,⟨0,35,3,[eV c]⟩]) [0,1,2,4,3] AA AA (.w (.w (.pure (by intro x i;cases i) (.deep (Ao BD) (.w .nil))))) (.same AA)).trans (Ag (L:=[(6,I0)]) (.same AA))) (FY (.tmp 6) (Qb c) BI AA _ ⟨AA,AA⟩))))
   have e:A12 1 (bm 13 4095) ⟨29,AP [(6,IJ),(28,.agg (eV c))],NL tl uA uQ [Hk,G8 c]⟩:=(b _ _ _).2 (by
    refine ya [12] ⟨?_,oz⟩
    .refine yo 12 ?_;exact Bx BI AA (yd b d))
   have a:A12 2 (bm 13 2047) ⟨29,AP [(6,IJ),(18,ow 4 0 s2),(26,.agg (WD h)),(27,i64 p1)],NL tl uA uQ [Hk,Gh s2,G8 h]⟩:=(b _ _ _).2 (by
    refine ya [11] ⟨?_,oz⟩
    .refine yo 11 ?_;refine As (Sr (L:=[(6,IJ),(18,Ha s2),(26,.agg (WD h)),(27,i64 p1)]) (st':=NL tl uA uQ [Hk,D1,G8 h]) (id:=4) rfl (show 3<=4 by decide) (Go.Abs.J3 HT) ⟨.rfl,(.eh AA (λx=>Mr x)),.agg ⟨.rfl,.rfl,.rfl,oz⟩,.rfl,oz⟩ AA) ?_;refine G6 (rowsP:=[G8 h]) (rows0:=[G8 h]) (rows1:=[D1]) (rows2:=[G8 c]) (rows1':=[D1]) (rows2':=[G8 c]) (st':=NL tl uA uQ [Hk,D1,D1,G8 c]) (v':=.agg [i64 c.op,i64 c.num,ow 6 0 c.kids]) [5] AN (hb 43) (La.T8 KG n) rfl (by decide) rfl AA (.deep (Ao BD) .nil) rfl AA (.pure (by intro x i;cases i) .nil) (.deep (Ao BD) .nil) rfl AA ?_;exact lX b e (by exact AM [0,1,2,3,6] AA AA (.w (.w (.pure (by intro x i;cases i) (.w (.deep (Ao BD) .nil))))) (.same AA)))
   have f:A12 3 (bm 13 1535) ⟨29,AP [(6,IJ),(18,ow 4 0 s2),(24,UZ o),(25,i64 p1),(27,i64 p1)],NL tl uA uQ [Hk,Gh s2]⟩:=(b _ _ _).2 (by
    refine ya [9] ⟨?_,oz⟩
    .refine yo 9 ?_;exact Bo (v':=.agg (WD h)) AN (hb 44) (KG k) rfl AA ⟨Ao BD,oz⟩ AA AA (yd b a))
   have g:A12 4 (bm 13 1533) ⟨29,AP [(6,IJ),(17,.ptr 4 0 0 2),(24,UZ o),(25,i64 p1),(27,i64 p1)],NL tl uA uQ [Hk,⟨0,35,3,[[i64 xQ,i64 xD,ow 5 0 s2]]⟩,Gh s2]⟩:=(b _ _ _).2 (by
    refine ya [1,9] ⟨?_,?_,oz⟩
    .refine yo 1 ?_;exact AT AA (lX b f (by exact AM [0,1,2,3,5] AA AA (.w (.w (.pure (by intro x i;cases i) (.w (.deep (Ao BD) .nil))))) (.same AA)))
    .refine yo 9 ?_;refine Bo (v':=.agg [i64 h.op,i64 h.num,ow 6 0 h.kids]) AN (hb 44) (KG k) rfl AA ⟨Ao BD,oz⟩ AA AA (AB ⟨AA,?_⟩);refine H7 tb 1 AA (by kernel_rfl) rfl ?_;exact yw b a (by exact AM [0,1,2,3,5,6] AA AA (.w (.w (.pure (by intro x i;cases i) (.w (.deep (Ao BD) (.deep (Ao BD) .nil)))))) (.same AA)))
   refine (b _ _ _).2 ?_;refine H7 tb 3 AA (by kernel_rfl) rfl ?_;refine H7 tb 4 AA (by kernel_rfl) rfl ?_;refine OX 5 (v:=WX o) rfl (by kernel_rfl) (by kernel_rfl) (CZ Ck AA AA z AA) ?_;refine H7 tb 6 AA (by kernel_rfl) rfl ?_;refine H7 tb 7 AA (by kernel_rfl) rfl ?_;exact yw b g (by exact Ef (L:=[(6,IJ),(17,.ptr 4 0 0 2),(24,UZ o),(25,i64 p1),(27,i64 p1)]) (st':=NL tl uA uQ [Hk,⟨0,35,3,[[i64 xQ,i64 xD,ow 5 0 s2]]⟩,Gh s2]) (st1:=NL tl uA uQ [Hk,⟨0,35,3,[WI xQ xD s2]⟩,Gh s2]) [0,1,2,5,4,3] AA AA (.w (.w (.pure (by intro x i;cases i) (.w (.w (.deep (Ao BD) .nil)))))) (.same AA))
 refine AF AA (Ac 4 AA ?_);rcases Sh.Ae l with ⟨j,l⟩|⟨j,l⟩
 .refine zs j AA ?_;iterate 3 refine zs j rfl ?_
  exact zt j AA (AB (B true (AS l) _ Aq))
 .refine Ay j AA ?_;iterate 3 refine Ay j rfl ?_
  exact zf j AA (AB (B (!decide (xD=tl)) (AS l) _ Aq))
theorem OP {N:Nat}{uF:(List AD)->Int->(List AK)->(List AU)->(List AK)->Int->Int->Int->Option (AD×Int)}(vJ :∀{s0:List AD} {uA:Int} {uR:List AK} {uS:List AU} {p0:List AK} {tn:Int} {ug:Int} {p2:Int} {r:AD×Int},uF s0 uA uR uS p0 tn ug p2=some r->Bf 56 (kr p0 tn ug s0 p2) [Gh s0,I8 uA,HH uR uS] (.agg (WI r.1.op r.1.num r.1.kids)) [D1,I8 r.2,HH uR uS,Gh r.1.kids]){s0:List AD}{uA:Int}{uR:List AK}{uS:List AU}{p0:List AK}{tn ug p2:Int}{r:AD×Int}(h0:Hg N uF s0 uA uR uS p0 tn ug p2=some r):Bf 56 (kr p0 tn ug s0 p2) [Gh s0,I8 uA,HH uR uS] (.agg (WI r.1.op r.1.num r.1.kids)) [D1,I8 r.2,HH uR uS,Gh r.1.kids]:=by
 unfold Hg at h0;refine BJ.wk (r0:=.agg (WI r.1.op r.1.num r.1.kids)) (st0:=[D1,I8 r.2,HH uR uS,Gh r.1.kids,⟨0,35,3,[WI r.1.op r.1.num r.1.kids]⟩]) ?_ (D3 (L:=[(0,.agg (WI r.1.op r.1.num r.1.kids))]) (st':=[D1,I8 r.2,HH uR uS,Gh r.1.kids]) [0,1,2,3] AA (by decide) rfl AA (.pure (by intro x E;cases E) (.raw AA (.raw AA (.deep (Ao BD) oz)))) (.same AA));refine ai Tryz.func56 AA AA AA AA (sr AA λK1 b2=>Ee 3 AA (DL 4 Dd AA (dn b2 AA (AE λK2 b3=>sr AA λK3 b4=>Ac 2 AA (zz (G7 s0) (DE TD AA AA AA) rfl (AT AA (dn b4 AA (bs h0 λo9 y h0=>?_))))))));have M9:∀H D,o9=(H,D)->∀s,Wk 3 s ⟨67,AP [(2,i64 p2),(3,.fn 42 [CM,CV]),(5,IJ),(8,I0)],[Gh H,I8 D,HH uR uS,TI tn ug H,Hk]⟩->K2 s:=by
  rintro H D rfl s I;refine b3 _ (AG I (sr AA λc1 O=>Ac 3 AA (bs h0 λq P h0=>?_)));refine S3 (rowsP:=[I8 D,HH uR uS,Gh H]) (rows0:=[I8 D,HH uR uS,Gh H]) (rows1:=NL D uR uS []) (rows2:=[G8 q]) (rows1':=NL D uR uS []) (rows2':=[G8 q]) (st':=[D1,I8 D,HH uR uS,TI tn ug H,Hk,G8 q]) (v':=.agg (WD q)) [1,2,0] AN AA (hb 42) (UX P) rfl (by decide) rfl AA (.raw AA AA (.raw AA AA (.deep (Ao BD) .nil))) rfl AA (.raw AA AA (.raw AA AA (.pure (by intro x E;cases E) .nil))) (.deep (Ao BD) .nil) rfl AA ?_;refine Bx BI AA (dn O AA ?_);cases h0;exact Am ⟨_,((Ef (L:=[(8,I0)]) (st':=[D1,I8 D,HH uR uS,G8 q,⟨0,35,3,[Qb q]⟩]) (st1:=[D1,I8 D,HH uR uS,G8 q,⟨0,35,3,[WD q]⟩]) [0,1,2,5,4] AA AA (.pure (by intro x E;cases E) (.w (.w (.deep (Ao BD) (.w .nil))))) (.same AA)).trans (Ag (L:=[(8,I0)]) (.same AA))),FY (.tmp 8) (Qb q) BI AA _ ⟨AA,AA⟩⟩
 refine AL (An (σ:=Int×(List AD)×Int) (λn v=>Cs N s0 uR uS p0 tn ug p2 uF n v.1 v.2.1 v.2.2=some o9) (λ(e,g,z)=>⟨67,AP [(0,ls Ah p0),(2,i64 p2),(3,.fn 42 [.ptr 1 0 0 0,.ptr 2 0 0 0]),(5,.ptr 3 0 0 0),(8,.ptr 4 0 0 0),(13,i64 (Sh.len s0)),(14,i64 e)],[ro 0 35 3 (Bv 35) g,I8 z,HH uR uS,⟨0,35,3,[[i64 tn,i64 ug,ow 0 0 g]]⟩,Hk]⟩) N (0,s0,uA) y Aq (λ_ hv=>by rw[Cs]at hv;cases hv) ?_);rintro n ⟨e,g,z⟩ y;rw[Cs]at y;refine Ap AA (AE λc2 Q=>?_);refine ci y AA ?_ ?_<;>intro c3 y
 .refine AH (Q _ (AE λc4 R=>AL ?_));iterate 2 refine Ap rfl ?_
  refine AE λb5 S=>bs y λT t y=>?_;have J:∀f,T=f->∀s,Wk 3 s ⟨67,AP (aU p0 p2 ((5,IJ)::(8,I0)::(9,i64 e)::(10,i64 f)::VJ s0 e [])),[Gh g,I8 z,HH uR uS,TI tn ug g,Hk]⟩->b5 s:=by
   intro f hq s I;subst T;refine S _ (AG I ?_);refine Hw (by kernel_rfl) ?_;refine bs y λb p y=>bs y λa F y=>LB λA23 k=>?_;have h:A23 0 (bm 14 16383) ⟨67,AP (aU p0 p2 ((5,IJ)::(8,I0)::VJ s0 e [])),[ro 0 35 3 (Bv 35) (Sh.put g e a.1),I8 a.2,HH uR uS,⟨0,35,3,[[i64 tn,i64 ug,ow 0 0 (Sh.put g e a.1)]]⟩,Hk]⟩:=(k _ _ _).2 (by
    refine Gi AA (by kernel_rfl) ?_;exact R _ (AF AA (Ac 2 AA (AB (xi (Sh.w (e+1),Sh.put g e a.1,a.2) y (Ag (L:=aU p0 p2 [(5,IJ),(8,I0),(13,G7 s0),(14,Kt e)]) (.same AA)))))))
   have d:A23 1 (bm 14 8191) ⟨67,AP (aU p0 p2 ((5,I0)::(8,S5)::VJ s0 e [(60,.agg [i64 a.1.op,i64 a.1.num,ow 6 0 a.1.kids]),(61,.ptr 0 0 (Int.toNat e) 0)])),((gX g e b)::NL a.2 uR uS [TI tn ug g,Hk,Gh a.1.kids])⟩:=(k _ _ _).2 (by
    refine xa [13] ⟨?_,oz⟩
    .refine xo 13 ?_;refine ff (x':=[i64 a.1.op,i64 a.1.num,ow 6 0 a.1.kids]) (st':=(⟨0,35,3,hole g (Bv 35) e [i64 a.1.op,i64 a.1.num,ow 6 0 a.1.kids]⟩::NL a.2 uR uS [TI tn ug g,Hk,Gh a.1.kids])) AN BI AA AA p AA AA AA tK rfl AA ?_;refine As (Wk.take (id:=0) (m:=6) (j:=2) (i:=e) (c:=b) (ys:=a.1.kids) (encY:=Bv 35) rfl p AA AA AA (by decide) (show 3<=6 by decide) HT AA AA) ?_;refine As (TY (id:=0) (i:=e) (u:=a.1) rfl (Iq a.1).symm AA) (AB ⟨AA,?_⟩);exact BK (by refine Wk.trans (Ag (L:=[(0,.sl (List.map Ah p0)),(2,i64 p2),(3,.fn 42 [.ptr 1 0 0 0,.ptr 2 0 0 0]),(5,.ptr 4 0 0 0),(8,.ptr 5 0 0 0),(13,i64 (Sh.len s0)),(14,i64 e)]) (.same AA)) ?_;refine Wk.trans (GB (st:=[⟨0,35,3,List.map (Bv 35) (Sh.put g e a.1)⟩,I8 a.2,⟨0,26,2,[[.sl (List.map Ah uR),.sl (List.map BP uS)]]⟩,⟨1,35,3,[]⟩,⟨0,35,3,[[i64 tn,i64 ug,.own 0 0 (List.length g)]]⟩,Hk,⟨1,35,3,[]⟩]) (st':=[⟨0,35,3,List.map (Bv 35) (Sh.put g e a.1)⟩,I8 a.2,⟨0,26,2,[[.sl (List.map Ah uR),.sl (List.map BP uS)]]⟩,⟨1,35,3,[]⟩,⟨0,35,3,[[i64 tn,i64 ug,.own 0 0 (List.length (Sh.put g e a.1))]]⟩,Hk,⟨1,35,3,[]⟩]) (by simp only[Sh.GR])) ?_;exact AM [0,1,2,4,5] AA AA (.deep (Ao BD) (.w (.w (.w (.w .nil))))) (.same AA)) (Bp (by kernel_rfl) ((k _ _ _).1 h)) rfl)
   have l:A23 3 (bm 14 2047) ⟨67,AP (aU p0 p2 ((5,I0)::(8,S5)::VJ s0 e [(50,ow 0 0 g),(51,i64 e),(52,D5 p0),(57,.agg (Qb b)),(58,i64 f),(59,.fn 42 [CM,CV])])),[gX g e b,I8 z,HH uR uS,G8 b,TI tn ug g,Hk]⟩:=(k _ _ _).2 (by
    refine xa [11] ⟨?_,oz⟩
    .refine xo 11 ?_;refine G6 (rowsP:=[G8 b,I8 z,HH uR uS]) (rows0:=[G8 b,I8 z,HH uR uS]) (rows1:=[D1,I8 a.2,HH uR uS]) (rows2:=[Gh a.1.kids]) (rows1':=[D1,I8 a.2,HH uR uS]) (rows2':=[Gh a.1.kids]) (st':=((gX g e b)::NL a.2 uR uS [TI tn ug g,Hk,Gh a.1.kids])) (v':=.agg [i64 a.1.op,i64 a.1.num,ow 6 0 a.1.kids]) [3,1,2] AN (hb 56) (vJ F) rfl (by decide) rfl AA (.deep (Ao BD) (.raw AA AA (.raw AA AA .nil))) rfl AA (.pure (by intro x E;cases E) (.raw AA AA (.raw AA AA .nil))) (.deep (Ao BD) .nil) rfl AA ?_;refine AB ⟨AA,?_⟩;refine Ik 12 (v:=.ptr 0 0 (Int.toNat e) 0) rfl (by kernel_rfl) (by kernel_rfl) (TU Ba AA AA AA AA p) ?_;exact xt k d)
   have o:A23 4 (bm 14 2045) ⟨67,AP (aU p0 p2 ((5,I0)::(8,S5)::VJ s0 e [(49,.ptr 4 0 0 2),(51,i64 e),(52,D5 p0),(57,.agg (Qb b)),(58,i64 f),(59,.fn 42 [CM,CV])])),[gX g e b,I8 z,HH uR uS,G8 b,TI tn ug g,Hk]⟩:=(k _ _ _).2 (by
    refine xa [1,11] ⟨?_,?_,oz⟩
    .exact xq tb k l
    .refine xo 11 ?_;refine G6 (rowsP:=[G8 b,I8 z,HH uR uS]) (rows0:=[G8 b,I8 z,HH uR uS]) (rows1:=[D1,I8 a.2,HH uR uS]) (rows2:=[Gh a.1.kids]) (rows1':=[D1,I8 a.2,HH uR uS]) (rows2':=[Gh a.1.kids]) (st':=((gX g e b)::NL a.2 uR uS [TI tn ug g,Hk,Gh a.1.kids])) (v':=.agg [i64 a.1.op,i64 a.1.num,ow 6 0 a.1.kids]) [3,1,2] AN (hb 56) (vJ F) rfl (by decide) rfl AA (.deep (Ao BD) (.raw AA AA (.raw AA AA .nil))) rfl AA (.pure (by intro x E;cases E) (.raw AA AA (.raw AA AA .nil))) (.deep (Ao BD) .nil) rfl AA ?_;refine AB ⟨AA,?_⟩;refine Fb tb 1 AA AA ?_;refine Ik 12 (v:=.ptr 0 0 (Int.toNat e) 0) rfl (by kernel_rfl) (by kernel_rfl) (TU Ba AA AA AA AA p) ?_;exact xt k d)
   refine (k _ _ _).2 ?_;refine Fb tb 0 AA AA ?_;refine Fb tb 2 AA AA ?_;refine Fb tb 3 AA AA ?_;refine Fb tb 4 AA AA ?_;refine Fb tb 5 AA AA ?_;refine Fb tb 6 AA AA ?_;refine Ik 7 (v:=.ptr 0 0 (Int.toNat e) 0) rfl (by kernel_rfl) (by kernel_rfl) (CD Ba AA AA AA AA p) ?_;refine BK (QJ (id:=0) (j:=2) (i:=e) (c:=b) (ys:=b.kids) (encY:=Bv 35) (x:=[i64 b.op,i64 b.num,.dv 35 3 (List.map (Bv 35) b.kids)]) (x':=WD b) (st':=[⟨0,35,3,hole g (Bv 35) e (WD b)⟩,I8 z,HH uR uS,TI tn ug g,Hk,G8 b]) rfl p (Iq _) rfl AA AA AA) ?_ AA;refine X9 8 AA AA (by kernel_rfl) (V5 BI AA AA (L4 p) tK rfl) ?_;refine Fb tb 9 AA AA ?_;refine Fb tb 10 AA AA ?_;exact xw k o (by exact Ef (L:=aU p0 p2 ((5,I0)::(8,S5)::VJ s0 e [(49,.ptr 4 0 0 2),(51,i64 e),(52,D5 p0),(57,.agg (Qb b)),(58,i64 f),(59,.fn 42 [CM,CV])])) (st':=[gX g e b,I8 z,HH uR uS,G8 b,TI tn ug g,Hk]) (st1:=[⟨0,35,3,hole g (Bv 35) e (WD b)⟩,I8 z,HH uR uS,G8 b,TI tn ug g,Hk]) [0,1,2,5,3,4] AA AA (.hol (Ao BD) (Zr Yz) rfl AA (.w (.w (.deep (Ao BD) (.w (.w .nil)))))) (.same AA))
  refine AL (AE λb6 U=>bs t λV C t=>?_);have W:∀K,V=K->∀s,Wk 3 s ⟨67,AP (aU p0 p2 ((5,IJ)::(8,I0)::(9,i64 e)::(10,i64 p2)::VJ s0 e [(18,.bool K)])),[Gh g,I8 z,HH uR uS,TI tn ug g,Hk]⟩->b6 s:=by
   intro K hq s I;subst V;refine U _ (AG I ?_);refine ci t AA ?_ ?_<;>intro c5 t
   .exact AF AA (Ac 3 AA (AB (J (Sh.w (p2+1)) (AS t) _ Aq)))
   .refine AE λb7 X=>bs t λY C t=>?_;have Z:∀M,Y=M->∀s,Wk 3 s ⟨67,AP (aU p0 p2 ((5,IJ)::(8,I0)::(9,i64 e)::(10,i64 p2)::VJ s0 e [(28,.bool M)])),[Gh g,I8 z,HH uR uS,TI tn ug g,Hk]⟩->b7 s:=by
     intro M hq s I;subst Y;refine X _ (AG I ?_);refine ci t AA ?_ ?_<;>intro c6 t
     .refine AF AA (Ac 5 AA (bs t λb8 b0 t=>Bo (v':=ow 5 0 b8) AN (hb 66) (Pq b0) rfl AA ⟨(Bq λ_=>AA),oz⟩ AA AA (Ac 2 AA (bs t λb9 G t=>zz (.ptr 5 0 (Int.toNat (Sh.w (e-1))) 0) (CD BF AA AA AA AA G) rfl (zz (i64 b9) (CF Hy AA AA (CQ G) rfl) rfl (bs t λc0 b1 t=>G5 (hb 92) (N2 b1) rfl (CY AA (Ac 2 AA ?_))))))));exact AB (J (Sh.w (p2+Sh.len c0)) (AS t) _ (AM [0,1,2,3,4] AA AA (.deep (Ao BD) (.w (.w (.w (.w .nil))))) (.same AA)))
     .exact AH (J p2 (AS t) _ Aq)
    refine AF AA (Ac 4 AA ?_);rcases Sh.Ae C with ⟨A,C⟩|⟨A,C⟩
    .exact Ay A AA (Ay A AA (zt A AA (AT AA (AB (Z (decide (0<e)) (AS C) _ Aq)))))
    .exact zs A AA (zs A AA (zf A AA (AT AA (AB (Z false (AS C) _ Aq)))))
  refine AF AA (Ac 4 AA ?_);rcases Sh.Ae C with ⟨B,C⟩|⟨B,C⟩
  .exact Ay B AA (Ay B AA (zt B AA (AT AA (AB (W (decide (e=1)) (AS C) _ Aq)))))
  .exact zs B AA (zs B AA (zf B AA (AT AA (AB (W false (AS C) _ Aq)))))
 .exact Au (M9 g z (AS y) _ Aq)
theorem ON {N:Nat}:∀(n:Nat),∀{s0:List AD} {uA:Int} {uR:List AK} {uS:List AU} {p0:List AK} {tn:Int} {ug:Int} {p2:Int} {r:AD×Int},DO N n s0 uA uR uS p0 tn ug p2=some r->Bf 56 (kr p0 tn ug s0 p2) [Gh s0,I8 uA,HH uR uS] (.agg (WI r.1.op r.1.num r.1.kids)) [D1,I8 r.2,HH uR uS,Gh r.1.kids]:=by
 intro n
 induction n with
 |zero=>intro s0 uA uR uS p0 tn ug p2 r a;cases a
 |succ n ih=>
  intro s0 uA uR uS p0 tn ug p2 r a;rw[DO]at a;exact OP (λh=>ih h) a
theorem Lf {N:Nat}:∀{s0:List AD} {uA:Int} {uR:List AK} {uS:List AU} {p0:List AK} {tn:Int} {ug:Int} {p2:Int} {r:AD×Int},KU N s0 uA uR uS p0 tn ug p2=some r->Bf 56 (kr p0 tn ug s0 p2) [Gh s0,I8 uA,HH uR uS] (.agg (WI r.1.op r.1.num r.1.kids)) [D1,I8 r.2,HH uR uS,Gh r.1.kids]:=by
 intro s0 uA uR uS p0 tn ug p2 r a;exact ON N a
end Go.Proofs.YtihdgoiebmfapaaGreat
