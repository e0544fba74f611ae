import Derived.Test.YtgiajkaabnbieaaGreatCTWalkP2
set_option linter.all false
namespace Go.Proofs.YtgiajkaabnbieaaGreat
open Go Go.Abs RC
attribute [local irreducible] Go.Abs.Di
set_option maxRecDepth 100000
set_option maxHeartbeats 4000000
theorem jF:Hm Tryz.prog 30 1=some 1:=by kernel_rfl
theorem U9:Hm Tryz.prog 52 0=some 0:=by kernel_rfl
theorem ie:Hm Tryz.prog 52 1=some 1:=by kernel_rfl
theorem iQ:Hm Tryz.prog 54 0=some 0:=by kernel_rfl
theorem iV:Hm Tryz.prog 54 1=some 1:=by kernel_rfl
theorem jD:Hm Tryz.prog 54 2=some 2:=by kernel_rfl
theorem jC:Hm Tryz.prog 54 3=some 3:=by kernel_rfl
theorem iA:Hm Tryz.prog 97 3=some 3:=by kernel_rfl
theorem Le {N:Nat}{p0:Ag}{p1:(List Int)}{p2:Step}{r:Int×Bool}(h0:Dg N p0 p1 p2=some r):AS Tryz.prog 57 [NS p0,ls eI p1,Mb p2] [] (λv st=>v=(Uj r.1 r.2)/\st=[]):=by
 unfold Dg at h0;refine ai Tryz.func57 AA AA AA AA (sr AA λK1 m6=>Aw (m:=0) AR AA AA AA AA AA (Aw (m:=1) AR AA AA AA AA AA (zm tb 2 AA (dn m6 AA (sr AA λK2 m7=>zm tb 2 AA (zl tb AA AA (bs h0 λl3 m8 h0=>Vn (m:=2) (st':=(fp p0 p2 [jL])) BD AA AA m8 AA AA (zq tb AA ?_))))))));refine dn m7 AA (AD λK4 m9=>sr AA λK5 q0=>zm tb 2 AA (zl tb AA AA (zq tb AA (dn q0 AA ?_))));obtain⟨o9,a,h0⟩:=Sh.Av h0;have M9:∀(U:(List Int)),o9=Sum.inr U->∀s,Wk 0 s ⟨233,AN (Gc p1 [(8,ow 2 0 U)]),fg p0 p2 U⟩->K4 s:=by
  intro U hq s Q;subst o9;try dsimp only at h0
  refine m9 _ (AJ Q (AD λt2 d6=>AD λq1 d7=>bs h0 λd8 a h0=>?_));have Z:∀(c5:Bool),d8=c5->∀s,Wk 0 s ⟨233,AN (Gc p1 [(8,ow 2 0 U),(70,.bool c5)]),fg p0 p2 U⟩->q1 s:=by
   intro c5 hq s Q;subst d8;try dsimp only at h0
   refine d7 _ (AJ Q ?_);refine ci h0 AA ?_ ?_<;>clear h0<;>intro t3 h0
   ·refine zr tb AA AA ?_;obtain rfl:=Sh.AB h0;exact rd (Wy [])
   ·refine AG (d6 _ (AD λt4 d9=>AL (sr AA λt5 g0=>zm tb 2 AA (bs h0 λt7 g1 h0=>zc (hb 87) (Ht g1) rfl AA AA (zq tb AA (dn g0 AA ?_))))));refine ci h0 AA ?_ ?_<;>clear h0<;>intro t8 h0
    ·refine AD λq2 g2=>bs h0 λg3 a h0=>?_;have b3:∀(R:Bool),g3=R->∀s,Wk 0 s ⟨233,AN [(3,Bm),(5,Dh),(8,ow 2 0 U),(11,.bool R)],fg p0 p2 U⟩->q2 s:=by
      intro R hq s Q;subst g3;try dsimp only at h0
      refine g2 _ (AJ Q (AD λq3 g4=>bs h0 λg5 a h0=>?_));have g6:∀(Y:Bool),g5=Y->∀s,Wk 0 s ⟨233,AN [(11,.bool Y)],[]⟩->q3 s:=by
       intro Y hq s Q;subst g5;try dsimp only at h0
       refine g4 _ (AJ Q (zr tb AA AA ?_));obtain rfl:=Sh.AB h0;exact rt [(6,i64 (-1)),(7,.bool Y)]
      refine AD λq4 g7=>bs a λg8 V a=>?_;have c6:∀(c7:Bool),g8=c7->∀s,Wk 0 s ⟨233,AN [(3,Bm),(8,ow 1 0 U),(11,.bool R),(105,.bool c7)],[Nc p0,BQ U]⟩->q4 s:=by
       intro c7 hq s Q;subst g8;try dsimp only at a
       refine g7 _ (AJ Q ?_);refine ci a AA ?_ ?_<;>clear a<;>intro t9 a
       ·refine AD λv0 g9=>?_;refine IT (by kernel_rfl) ?_;refine bs a λh3 c0 a=>bs a λc c1 a=>LV λsn b=>?_;have g:sn 0 (bm 12 4095) ⟨233,AN [(13,.bool c.2)],[]⟩:=(b _ _ _).2 (by
         refine GD AA (by kernel_rfl) ?_;exact g9 _ (AF AA (zm tb 3 AA (AE (g6 (!c.2) (Sh.AB a).symm _ (Ao (L:=[(11,.bool (!c.2))]) (.same AA)))))))
        have f:sn 2 (bm 12 1023) ⟨233,AN [(12,Bm),(113,OJ c.1),(114,.bool c.2)],[ew]⟩:=(b _ _ _).2 (by
         refine xa [10] ⟨?_,mD⟩
         ·refine xo 10 ?_;refine Aq AR I9 AA AA AA AA AA AA qJ rfl (AE ⟨AA,?_⟩);refine BU tb 11 AA (by kernel_rfl) rfl ?_;exact xw b g (by exact Ab [] AA AA .nil (.same AA)))
        have h:sn 3 (bm 12 511) ⟨233,AN [(113,OJ c.1),(114,.bool c.2)],[]⟩:=(b _ _ _).2 (by
         refine xa [9] ⟨?_,mD⟩
         ·refine xo 9 ?_;exact Al (m:=0) AR GY AA AA (xd b f))
        have p:sn 2 (bm 12 1791) ⟨233,AN [(106,LQ c.1 c.2)],[]⟩:=(b _ _ _).2 (by
         refine xa [8] ⟨?_,mD⟩
         ·refine xo 8 ?_;refine zq tb AA (AE ⟨AA,?_⟩);refine BU tb 11 AA (by kernel_rfl) rfl ?_;exact xt b g)
        have i:sn 3 (bm 12 767) ⟨233,AN [(12,Bm),(106,LQ c.1 c.2),(113,OJ c.1)],[ew]⟩:=(b _ _ _).2 (by
         refine xa [8,10] ⟨?_,?_,mD⟩
         ·exact xq tb b f
         ·refine xo 10 ?_;exact Aq AR I9 AA AA AA AA AA AA qJ rfl (W5 b p (by exact Ab [] AA AA .nil (.same AA))))
        have y:sn 4 (bm 12 255) ⟨233,AN [(106,LQ c.1 c.2),(113,OJ c.1)],[]⟩:=(b _ _ _).2 (by
         refine xa [8,9] ⟨?_,?_,mD⟩
         ·exact xq tb b h
         ·refine xo 9 ?_;exact Al (m:=0) AR GY AA AA (xd b i))
        have j:sn 3 (bm 12 895) ⟨233,AN [(12,Bm),(106,LQ c.1 c.2),(114,.bool c.2)],[ew]⟩:=(b _ _ _).2 (by
         refine xa [7] ⟨?_,mD⟩
         ·exact xq tb b f)
        have z:sn 4 (bm 12 383) ⟨233,AN [(106,LQ c.1 c.2),(114,.bool c.2)],[]⟩:=(b _ _ _).2 (by
         refine xa [7,9] ⟨?_,?_,mD⟩
         ·exact xq tb b h
         ·refine xo 9 ?_;exact Al (m:=0) AR GY AA AA (xd b j))
        have k:sn 4 (bm 12 639) ⟨233,AN [(12,Bm),(106,LQ c.1 c.2)],[ew]⟩:=(b _ _ _).2 (by
         refine xa [7,8] ⟨?_,?_,mD⟩
         ·exact xq tb b i
         ·exact xq tb b j)
        have C:sn 5 (bm 12 127) ⟨233,AN [(106,LQ c.1 c.2)],[]⟩:=(b _ _ _).2 (by
         refine xa [7,8,9] ⟨?_,?_,?_,mD⟩
         ·exact xq tb b y
         ·exact xq tb b z
         ·refine xo 9 ?_;exact Al (m:=0) AR GY AA AA (xd b k))
        have S:sn 6 (bm 12 543) ⟨233,AN [(12,Bm),(108,EG p0.decls),(111,i64 h3)],[ew]⟩:=(b _ _ _).2 (by
         refine xa [5] ⟨?_,mD⟩
         ·refine xo 5 ?_;refine zc (v':=(LQ c.1 c.2)) (hb 102) (Gv c1) rfl AA AA (AE ⟨AA,?_⟩);refine BU tb 6 AA (by kernel_rfl) rfl ?_;exact xt b k)
        have W:sn 7 (bm 12 31) ⟨233,AN [(108,EG p0.decls),(111,i64 h3)],[]⟩:=(b _ _ _).2 (by
         refine xa [5,9] ⟨?_,?_,mD⟩
         ·refine xo 5 ?_;refine zc (v':=(LQ c.1 c.2)) (hb 102) (Gv c1) rfl AA AA (AE ⟨AA,?_⟩);refine BU tb 6 AA (by kernel_rfl) rfl ?_;exact xt b C
         ·refine xo 9 ?_;exact Al (m:=0) AR GY AA AA (xd b S))
        refine (b _ _ _).2 ?_;refine BU tb 0 AA (by kernel_rfl) rfl ?_;refine BU tb 1 AA (by kernel_rfl) rfl ?_;refine BU tb 2 AA (by kernel_rfl) rfl ?_;refine G9 3 (v:=(.ptr 1 0 (Int.toNat 0) 0)) rfl (by kernel_rfl) (by kernel_rfl) (Cb BD AA AA AA AA c0) ?_;refine Rq 4 AA AA (by kernel_rfl) (PG Ie AA AA (Ed c0) rfl) ?_;exact xw b W (by exact Ab [] AA AA .nil (.same AA))
       ·exact AG (g6 R (Sh.AB a).symm _ (BF _ AA))
      refine AF AA (zm tb 2 AA ?_);rcases Sh.AU V with ⟨t,V⟩|⟨t,V⟩
      ·refine zg tb t AA ?_;iterate 3 refine zg tb t rfl ?_
       rcases Sh.AU V with ⟨D,V⟩|⟨D,V⟩
       ·refine zs D AA (zs D AA (zs D AA (Ap (v:=(.bool true)) (BH AA AA t) rfl (Cc AA D AA) (zt t AA ?_))));exact AE (c6 true (Sh.AB V).symm _ (Ab [0,2] AA AA (.raw AA AA (.pure (AK λ_=>AA) .nil)) (.same AA)))
       ·refine zg tb D AA (zg tb D AA (zg tb D AA (Ap (v:=(.bool (decide (p2.op=17)))) (BH AA AA t) rfl (CO AA D AA) (zt t AA ?_))));exact AE (c6 (decide (p2.op=17)) (Sh.AB V).symm _ (Ab [0,2] AA AA (.raw AA AA (.pure (AK λ_=>AA) .nil)) (.same AA)))
      ·refine zs t AA ?_;iterate 3 refine zs t rfl ?_
       iterate 3 refine zn rfl ?_
       refine zs t AA (zf t AA ?_);exact AE (c6 false (Sh.AB V).symm _ (Ab [0,2] AA AA (.raw AA AA (.pure (AK λ_=>AA) .nil)) (.same AA)))
     refine AF AA (zq tb AA (zz (Eu U) (D0 F8 AA AA AA) rfl (zm tb 2 AA ?_)));rcases Sh.AU a with ⟨E,a⟩|⟨E,a⟩
     ·refine zg tb E AA (bs a λq5 c2 a=>Ap (v:=dK) (BH AA AA E) rfl (Cb BD AA AA AA AA c2) (Ap (v:=(i64 q5)) (BH AA AA E) rfl (DQ Ie AA AA (Ed c2) rfl) (zg tb E AA (zt E AA (zq tb AA ?_)))));rcases Sh.AU a with ⟨F,a⟩|⟨F,a⟩
      ·refine zg tb F AA (zg tb F AA (zg tb F AA (zt F AA (zq tb AA ?_))));rcases Sh.AU a with ⟨G,a⟩|⟨G,a⟩
       ·exact zg tb G AA (zg tb G AA (Ap (v:=(Sm p2)) (BH AA AA G) rfl (Br Oi AA) (zg tb G AA (zt G AA (zq tb AA (AE (b3 (decide ((Sh.len p2.kids)=0)) (Sh.AB a).symm _ (AI AA))))))))
       ·refine zs G AA ?_;iterate 3 refine zs G rfl ?_
        exact zf G AA (zq tb AA (AE (b3 false (Sh.AB a).symm _ (AI AA))))
      ·refine zs F AA (zs F AA (zs F AA (zf F AA (zq tb AA ?_))));iterate 4 refine zs rfl rfl ?_
       exact zf AA AA (zq tb AA (AE (b3 false (Sh.AB a).symm _ (AI AA))))
     ·refine zs E AA ?_;iterate 3 refine zs E rfl ?_
      refine zf E AA (zq tb AA ?_);iterate 3 refine zs rfl rfl ?_
      refine zf AA AA (zq tb AA ?_);iterate 4 refine zs rfl rfl ?_
      exact zf AA AA (zq tb AA (AE (b3 false (Sh.AB a).symm _ (AI AA))))
    ·refine zr tb AA AA ?_;refine ci h0 AA ?_ ?_<;>clear h0<;>intro v1 h0
     ·refine AD λv2 h4=>AD λq6 h5=>bs h0 λh6 a h0=>?_;have b4:∀(c8:Bool),h6=c8->∀s,Wk 0 s ⟨233,AN (Gc p1 [(141,.bool c8)]),fp p0 p2 []⟩->q6 s:=by
       intro c8 hq s Q;subst h6;try dsimp only at h0
       refine h5 _ (AJ Q ?_);refine ci h0 AA ?_ ?_<;>clear h0<;>intro v3 h0
       ·refine zr tb AA AA ?_;obtain rfl:=Sh.AB h0;exact rd (Wy [])
       ·refine AG (h4 _ (AD λv4 h7=>?_));refine CC 9 (by kernel_rfl) (by kernel_rfl) (by rfl) ?_;iterate 4 refine yq tb rfl ?_
        refine bs h0 λv5 h8 h0=>jc (enc:=(eS eI)) (u:=[]) AR Kr AA AA AA h8 (AK λ_=>AA) (bs h0 λb5 h9 h0=>CI (v:=(Uj b5.1 b5.2)) AR (hb 103) (IN h9) rfl AA AA ?_);iterate 3 refine yq tb rfl ?_
        refine BO (zq tb AA (dn h7 AA ?_));obtain rfl:=Sh.AB h0;exact rd [(6,i64 b5.1),(7,.bool b5.2)]
      refine AF AA (zq tb AA (zz (Eu U) (D0 F8 AA AA AA) rfl (zm tb 2 AA ?_)));rcases Sh.AU a with ⟨H,a⟩|⟨H,a⟩
      ·refine zs H AA ?_;iterate 3 refine zs H rfl ?_
       refine zt H AA (zq tb AA ?_);iterate 3 refine zs rfl rfl ?_
       refine zt AA AA (zq tb AA ?_);iterate 4 refine zs rfl rfl ?_
       refine zt AA AA ?_;exact AE (b4 true (Sh.AB a).symm _ (Ab [0,1] AA AA (.raw AA AA (.raw AA AA .nil)) (.same AA)))
      ·refine zg tb H AA (bs a λq7 c3 a=>Ap (v:=dK) (BH AA AA H) rfl (Cb BD AA AA AA AA c3) (Ap (v:=(i64 q7)) (BH AA AA H) rfl (DQ Ie AA AA (Ed c3) rfl) (zg tb H AA (zf H AA (zq tb AA ?_)))));rcases Sh.AU a with ⟨I,a⟩|⟨I,a⟩
       ·refine zs I AA (zs I AA (zs I AA (zt I AA (zq tb AA ?_))));iterate 4 refine zs rfl rfl ?_
        refine zt AA AA ?_;exact AE (b4 true (Sh.AB a).symm _ (Ab [0,1] AA AA (.raw AA AA (.raw AA AA .nil)) (.same AA)))
       ·refine zg tb I AA (zg tb I AA (zg tb I AA (zf I AA (zq tb AA ?_))));rcases Sh.AU a with ⟨J,a⟩|⟨J,a⟩
        ·refine zs J AA ?_;iterate 3 refine zs J rfl ?_
         refine zt J AA ?_;exact AE (b4 true (Sh.AB a).symm _ (Ab [0,1] AA AA (.raw AA AA (.raw AA AA .nil)) (.same AA)))
        ·refine zg tb J AA (zg tb J AA (Ap (v:=(Sm p2)) (BH AA AA J) rfl (Br Oi AA) (zg tb J AA (zf J AA ?_))));exact AE (b4 (!decide ((Sh.len p2.kids)=2)) (Sh.AB a).symm _ (Ab [0,1] AA AA (.raw AA AA (.raw AA AA .nil)) (.same AA)))
     ·refine zr tb AA AA ?_;refine ci h0 AA ?_ ?_<;>clear h0<;>intro v6 h0
      ·refine sr AA λv7 k0=>zm tb 3 AA (bs h0 λX k1 h0=>BE (v':=(ow 3 0 X)) AR (hb 54) (GL k1) rfl AA ⟨(Ay λ_=>AA),mD⟩ AA AA (zq tb AA (dn k0 AA (AD λv8 k2=>AD λq8 k3=>bs h0 λk4 a h0=>?_))));have b6:∀(c9:Bool),k4=c9->∀s,Wk 0 s ⟨233,AN (Gc p1 [(14,ow 2 0 X),(181,.bool c9)]),fp p0 p2 [Qv X]⟩->q8 s:=by
        intro c9 hq s Q;subst k4;try dsimp only at h0
        refine k3 _ (AJ Q ?_);refine ci h0 AA ?_ ?_<;>clear h0<;>intro v9 h0
        ·refine zr tb AA AA ?_;obtain rfl:=Sh.AB h0;exact rd (Wy [])
        ·refine AG (k2 _ (sr AA λw0 k5=>zm tb 5 AA (Aa (Wk.CQ (L:=[(182,NS p0),(183,ls eI p1),(185,gF p2),(186,ls (eS eI) X)]) (st':=(fp p0 p2 [⟨1,49,1,[]⟩])) (id:=2) rfl qI (AK λ_=>AA) ⟨.rfl,.rfl,.rfl,.CQ AA,mD⟩ AA) (bs h0 λb7 k6 h0=>zc (v':=(Uj b7.1 b7.2)) (hb 103) (IN k6) rfl AA AA (zm tb 4 AA (dn k5 AA ?_))))));obtain rfl:=Sh.AB h0;exact rd [(6,i64 b7.1),(7,.bool b7.2)]
       refine CT (by kernel_rfl) (by kernel_rfl) (by rfl) ?_;refine yq tb AA (yz (Eu U) (D0 F8 AA AA AA) rfl ?_);iterate 2 refine yq tb rfl ?_
       rcases Sh.AU a with ⟨K,a⟩|⟨K,a⟩
       ·refine ys K AA ?_;iterate 5 refine ys K rfl ?_
        refine yt K AA (yq tb AA ?_);iterate 3 refine ys rfl rfl ?_
        refine yt AA AA (yq tb AA ?_);iterate 6 refine ys rfl rfl ?_
        refine yt AA AA ?_;exact BO (b6 true (Sh.AB a).symm _ (Ab [0,1,3] AA AA (.raw AA AA (.raw AA AA (.pure (AK λ_=>AA) .nil))) (.same AA)))
       ·refine yg tb K AA (bs a λq9 c4 a=>IP (v:=dK) (BH AA AA K) rfl (Cb BD AA AA AA AA c4) (IP (v:=(i64 q9)) (BH AA AA K) rfl (DQ Ie AA AA (Ed c4) rfl) ?_));iterate 3 refine yg tb K rfl ?_
        refine yf K AA (yq tb AA ?_);rcases Sh.AU a with ⟨T,a⟩|⟨T,a⟩
        ·refine ys T AA ?_;iterate 2 refine ys T rfl ?_
         refine yt T AA (yq tb AA ?_);iterate 6 refine ys rfl rfl ?_
         refine yt AA AA ?_;exact BO (b6 true (Sh.AB a).symm _ (Ab [0,1,3] AA AA (.raw AA AA (.raw AA AA (.pure (AK λ_=>AA) .nil))) (.same AA)))
        ·refine yg tb T AA (IP (v:=(Eu X)) (BH AA AA T) rfl (D0 Yk AA AA AA) (yg tb T AA (yf T AA (yq tb AA ?_))));rcases Sh.AU a with ⟨x,a⟩|⟨x,a⟩
         ·refine ys x AA ?_;iterate 5 refine ys x rfl ?_
          refine yt x AA ?_;exact BO (b6 true (Sh.AB a).symm _ (Ab [0,1,3] AA AA (.raw AA AA (.raw AA AA (.pure (AK λ_=>AA) .nil))) (.same AA)))
         ·refine yg tb x AA (yg tb x AA (IP (v:=(Sm p2)) (BH AA AA x) rfl (Br Oi AA) (yg tb x AA (IP (v:=(Eu X)) (BH AA AA x) rfl (D0 Yk AA AA AA) (yg tb x AA (yf x AA ?_))))));exact BO (b6 (!decide ((Sh.len p2.kids)=(Sh.len X))) (Sh.AB a).symm _ (Ab [0,1,3] AA AA (.raw AA AA (.raw AA AA (.pure (AK λ_=>AA) .nil))) (.same AA)))
      ·refine AD λt0 k7=>bs h0 λk8 a h0=>?_;have b0:∀(d1:Bool),k8=d1->∀s,Wk 0 s ⟨233,AN [(3,Bm),(5,Dh),(8,ow 2 0 U),(190,.bool d1)],fg p0 p2 U⟩->t0 s:=by
        intro d1 hq s Q;subst k8;try dsimp only at h0
        refine k7 _ (AJ Q ?_);refine ci h0 AA ?_ ?_<;>clear h0<;>intro w1 h0
        ·refine zr tb AA AA ?_;obtain rfl:=Sh.AB h0;exact rd (Wy [])
        ·refine AG (d9 _ (sr AA λw2 k9=>zm tb 6 AA (Aa (Wk.CQ (L:=[(224,.agg (Bp p0)),(226,i64 p2.op),(228,i64 p2.num),(229,ls eI U)]) (st':=[⟨0,45,2,[Bp p0]⟩,gl p2.op p2.num p2.BB p2.args p2.kids,⟨1,3,1,[]⟩]) (id:=2) rfl qI (AK λ_=>AA) ⟨.rfl,.rfl,.rfl,.CQ AA,mD⟩ AA) (bs h0 λb8 l0 h0=>zc (v':=(.DX [i64 b8.1,.bool b8.2])) (hb 104) (IJ l0) rfl AA AA (zm tb 4 AA (dn k9 AA ?_))))));obtain rfl:=Sh.AB h0;exact rd [(6,i64 b8.1),(7,.bool b8.2)]
       refine AF AA (zm tb 2 AA (zl tb AA AA (zm tb 2 AA ?_)));rcases Sh.AU a with ⟨d,a⟩|⟨d,a⟩
       ·refine zs d AA ?_;iterate 3 refine zs d rfl ?_
        iterate 3 refine zn rfl ?_
        refine zs d AA (zs d AA ?_);iterate 6 refine zn rfl ?_
        refine zs d AA (zs d AA ?_);iterate 9 refine zn rfl ?_
        exact zs d AA (zt d AA (zq tb AA (AE (b0 true (Sh.AB a).symm _ (AI AA)))))
       ·refine zg tb d AA ?_;iterate 3 refine zg tb d rfl ?_
        rcases Sh.AU a with ⟨M,a⟩|⟨M,a⟩
        ·refine zg tb M AA (zg tb M AA (zg tb M AA (Ap (v:=(.bool (decide (0<=p2.num)))) (BH AA AA d) rfl (Cc AA M AA) (zg tb d AA ?_))));rcases Sh.AU a with ⟨O,a⟩|⟨O,a⟩
         ·refine zg tb O AA ?_;iterate 3 refine zg tb O rfl ?_
          refine Ap (v:=(i64 (Sh.len p0.funcs))) (BH AA AA O) rfl (Br Za AA) (zg tb O AA (Ap (v:=(.bool (decide (p2.num<(Sh.len p0.funcs))))) (BH AA AA d) rfl (Cc AA O AA) (zg tb d AA ?_)));rcases Sh.AU a with ⟨q,a⟩|⟨q,a⟩
          ·refine zg tb q AA ?_;iterate 3 refine zg tb q rfl ?_
           exact bs a λb9 l1 a=>Ap (v:=(.Bt (Dd b9) 0)) (BH AA AA q) rfl (Bc RL AA AA l1 AA) (zg tb q AA (zg tb q AA (Ap (v:=(Eu b9.Ar)) (BH AA AA q) rfl (Br F8 AA) (zg tb q AA (Ap (v:=(.bool (decide (0<(Sh.len b9.Ar))))) (BH AA AA d) rfl (Cc AA q AA) (zf d AA (zq tb AA (AE (b0 (decide (0<(Sh.len b9.Ar))) (Sh.AB a).symm _ (AI AA))))))))))
          ·refine zs q AA ?_;iterate 8 refine zs q rfl ?_
           exact Ap (v:=(.bool false)) (BH AA AA d) rfl (CO AA q AA) (zf d AA (zq tb AA (AE (b0 false (Sh.AB a).symm _ (AI AA)))))
         ·refine zs O AA ?_;iterate 5 refine zs O rfl ?_
          refine Ap (v:=(.bool false)) (BH AA AA d) rfl (CO AA O AA) (zg tb d AA ?_);iterate 9 refine zs rfl rfl ?_
          exact Ap (v:=(.bool false)) (BH AA AA d) rfl (CO AA AA AA) (zf d AA (zq tb AA (AE (b0 false (Sh.AB a).symm _ (AI AA)))))
        ·refine zs M AA (zs M AA (zs M AA (Ap (v:=(.bool false)) (BH AA AA d) rfl (CO AA M AA) (zg tb d AA ?_))));iterate 6 refine zs rfl rfl ?_
         refine Ap (v:=(.bool false)) (BH AA AA d) rfl (CO AA AA AA) (zg tb d AA ?_);iterate 9 refine zs rfl rfl ?_
         exact Ap (v:=(.bool false)) (BH AA AA d) rfl (CO AA AA AA) (zf d AA (zq tb AA (AE (b0 false (Sh.AB a).symm _ (AI AA)))))
  refine AF AA (zm tb 4 AA ?_);rcases Sh.AU a with ⟨e,a⟩|⟨e,a⟩
  ·refine zg tb e AA ?_;iterate 3 refine zg tb e rfl ?_
   rcases Sh.AU a with ⟨P,a⟩|⟨P,a⟩
   ·refine zs P AA (zs P AA (zs P AA (Ap (v:=(.bool true)) (BH AA AA e) rfl (Cc AA P AA) (zg tb e AA ?_))));iterate 5 refine zs rfl rfl ?_
    refine Ap (v:=(.bool true)) (BH AA AA e) rfl (Cc AA AA AA) (zg tb e AA ?_);iterate 7 refine zs rfl rfl ?_
    exact Ap (v:=(.bool true)) (BH AA AA e) rfl (Cc AA AA AA) (zt e AA (AE (Z true (Sh.AB a).symm _ (AI AA))))
   ·refine zg tb P AA (zg tb P AA (zg tb P AA (Ap (v:=(.bool (decide (p2.BB<1)))) (BH AA AA e) rfl (CO AA P AA) (zg tb e AA ?_))));rcases Sh.AU a with ⟨A,a⟩|⟨A,a⟩
    ·refine zs A AA ?_;iterate 4 refine zs A rfl ?_
     refine Ap (v:=(.bool true)) (BH AA AA e) rfl (Cc AA A AA) (zg tb e AA ?_);iterate 7 refine zs rfl rfl ?_
     exact Ap (v:=(.bool true)) (BH AA AA e) rfl (Cc AA AA AA) (zt e AA (AE (Z true (Sh.AB a).symm _ (AI AA))))
    ·refine zg tb A AA (zg tb A AA (zg tb A AA (Ap (v:=(Eu p1)) (BH AA AA A) rfl (Br F8 AA) (zg tb A AA (Ap (v:=(.bool (decide ((Sh.len p1)<p2.BB)))) (BH AA AA e) rfl (CO AA A AA) (zg tb e AA ?_))))));rcases Sh.AU a with ⟨B,a⟩|⟨B,a⟩
     ·refine zs B AA ?_;iterate 6 refine zs B rfl ?_
      exact Ap (v:=(.bool true)) (BH AA AA e) rfl (Cc AA B AA) (zt e AA (AE (Z true (Sh.AB a).symm _ (AI AA))))
     ·refine zg tb B AA ?_;iterate 3 refine zg tb B rfl ?_
      exact bs a λd2 l4 a=>Ap (v:=(Jq d2)) (BH AA AA B) rfl (Bc BD AA AA l4 AA) (zg tb B AA (zg tb B AA (Ap (v:=(.bool (decide (d2=0)))) (BH AA AA e) rfl (CO AA B AA) (zt e AA (AE (Z (decide (d2=0)) (Sh.AB a).symm _ (AI AA)))))))
  ·refine zs e AA ?_;iterate 3 refine zs e rfl ?_
   iterate 3 refine zn rfl ?_
   refine zs e AA (zs e AA ?_);iterate 5 refine zn rfl ?_
   refine zs e AA (zs e AA ?_);iterate 7 refine zn rfl ?_
   exact zs e AA (zf e AA (AE (Z false (Sh.AB a).symm _ (AI AA))))
 refine AL (Af (σ:=Int×(List Int)) (λn v=>CV p1 p2 n v.1 v.2=some o9) (λ(t6,l7)=>⟨233,AN [(1,ls eI p1),(3,.ptr 0 0 0 0),(5,.ptr 1 0 0 0),(8,ow 2 0 l7),(20,ls eI p2.args),(21,i64 (Sh.len p2.args)),(22,i64 t6)],[⟨0,45,2,[Bp p0]⟩,gl p2.op p2.num p2.BB p2.args p2.kids,ro 0 3 1 eI l7]⟩) N (0,[]) a (AI AA) (λ_ hv=>by rw[CV]at hv;cases hv) ?_);rintro n ⟨t6,l7⟩ a;try dsimp only at a⊢
 rw[CV]at a;refine zr tb AA AA (AD λw3 l5=>?_);refine ci a AA ?_ ?_<;>clear a<;>intro w4 a
 ·refine AG (l5 _ (AD λw5 l6=>AL (sr AA λw6 l9=>bs a λm0 m1 a=>zx BD m1 AA AA AA (zm tb 2 AA (dn l9 AA (AD λw7 m2=>AD λt1 m3=>bs a λm4 V a=>?_))))));have m5:∀(d3:Bool),m4=d3->∀s,Wk 0 s ⟨233,AN (Gc p1 [(8,ow 2 0 l7),(10,i64 m0),(20,Q2 p2),(21,aq p2),(22,i64 t6),(33,.bool d3)]),fg p0 p2 l7⟩->t1 s:=by
   intro d3 hq s Q;subst m4;try dsimp only at a
   refine m3 _ (AJ Q ?_);refine ci a AA ?_ ?_<;>clear a<;>intro w8 a
   ·refine zr tb AA AA ?_;obtain rfl:=Sh.AB a;try dsimp only[id]at h0
    obtain rfl:=Sh.AB h0;exact rd (Wy [])
   ·refine AG (m2 _ (AF AA (zm tb 3 AA (bs a λb1 d4 a=>zx BD d4 AA AA AA (zq tb AA ?_)))));refine CE (m:=3) (l:=[b1]) (enc:=eI) AR BD (by decide) rfl AA AA AA AA AA ?_;refine bs a λb2 d5 a=>Cd (l2:=[b1]) AR BD AA AA AA AA (H6 AA AA) (λ_=>AA) d5 AA (zq tb AA (dn l6 AA (AF AA (zm tb 2 AA ?_))));exact AE (xi (Sh.w (t6+1),b2) a (by refine Wk.trans (CJ (L:=(Gc p1 [(8,ow 2 0 b2),(20,Q2 p2),(21,aq p2),(22,MO t6)])) (st':=(fp p0 p2 [BQ b2,Qr b1])) (.raw AA AA (.raw AA AA (.pure (AK λ_=>AA) (.pure (AK λ_=>AA) .nil)))) (.same AA)) ?_;exact Ab [0,1,2] AA AA (.raw AA AA (.raw AA AA (.pure (AK λ_=>AA) .nil))) (.same AA)))
  refine AF AA (zm tb 3 AA ?_);rcases Sh.AU V with ⟨o,V⟩|⟨o,V⟩
  ·refine zs o AA ?_;iterate 3 refine zs o rfl ?_
   exact zt o AA (AE (m5 true (Sh.AB V).symm _ (AI AA)))
  ·exact zg tb o AA (zg tb o AA (Ap (v:=(Eu p1)) (BH AA AA o) rfl (Br F8 AA) (zg tb o AA (zf o AA (AE (m5 (decide ((Sh.len p1)<=m0)) (Sh.AB V).symm _ (AI AA)))))))
 ·exact Ah (M9 l7 (Sh.AB a).symm _ (AI AA))
theorem LL {N:Nat}{qj:Ag->Block->(List Int)->(List Int)->Option (Block)}(rG :∀{p0:Ag} {p1:Block} {p2:(List Int)} {p3:(List Int)} {r:Block},qj p0 p1 p2 p3=some r->AS Tryz.prog 24 (eQ p0 p1 p2 p3) [] (λv st=>v=(PH r)/\st=[HL r])){p0:Ag}{p1:Block}{p2:(List Int)}{p3:(List Int)}{r:Block}(h0:EE N qj p0 p1 p2 p3=some r):AS Tryz.prog 24 (eQ p0 p1 p2 p3) [] (λv st=>v=(PH r)/\st=[HL r]):=by
 unfold EE at h0;refine AS.wk (r0:=(PH r)) (st0:=(kM r)) ?_ (GA (L:=[(0,PH r)]) (st':=[HL r]) [0] AA (by decide) rfl AA (.deep (AP An) mD) (.same AA));refine ai Tryz.func24 AA AA AA AA (sr AA λK1 w2=>Aw (m:=0) AR AA AA AA AA AA (Aa (Wk.CQ (L:=((1,DH p1)::Zf p2 p3 p0 [])) (st':=[⟨1,45,2,[]⟩]) (id:=0) rfl qM (IC AA) (.same AA) rfl) (Aw (m:=1) AR AA AA AA AA AA (Aa (Wk.CQ (L:=(Zf p2 p3 p0 [(5,T1 p1)])) (st':=[⟨1,45,2,[]⟩,da]) (id:=1) rfl qN (IC AA) (.same AA) rfl) (Al (m:=2) AR Hq AA AA (dn w2 AA (sr AA λK2 w3=>zq tb AA (bs h0 λq3 w4 h0=>BE (v':=(ow 3 0 q3)) AR (hb 47) (Bn w4) rfl AA ⟨(Ay λ_=>AA),mD⟩ AA AA ?_))))))));refine zq tb AA (dn w3 AA (sr AA λK4 w5=>zm tb 2 AA (zz (.agg [.zc,i64 p1.result]) (Fo UP US Hq AA AA) rfl (Al (m:=4) AR Hq AA AA (Aq AR Ho AA AA AA AA AA AA qD rfl (dn w5 AA (AD λK5 w6=>sr AA λK6 w7=>zm tb 2 AA (zl tb AA AA ?_))))))));refine zq tb AA (dn w7 AA (bs h0 λk1 o h0=>?_));have w8:∀(b:(List Int)) (g3:(List Int)) (y:(List Step)),k1=(b,g3,y)->∀s,Wk 0 s ⟨148,AN ((3,Fs b)::gr p1 g3 []),JR g3 y p1.result []⟩->K5 s:=by
  intro b g3 y hq s hw;subst k1;try dsimp only at h0
  refine w6 _ (AJ hw (AD λw9 l8=>bs h0 λm0 o h0=>?_));have m1:∀(g4:(List Step)),m0=g4->∀s,Wk 0 s ⟨148,AN (Uw b []),Up g4 p1.result⟩->w9 s:=by
   intro g4 hq s hw;subst m0;try dsimp only at h0
   refine l8 _ (AJ hw (AD λA0 m2=>sr AA λB6 m3=>zq tb AA (zl tb AA AA (zq tb AA (dn m3 AA (bs h0 λk2 o h0=>?_))))));have A1:∀(c1:(List Step)),k2=c1->∀s,Wk 0 s ⟨148,AN [(8,Bm),(10,Dh)],Up c1 p1.result⟩->A0 s:=by
    intro c1 hq s hw;subst k2;try dsimp only at h0
    refine m2 _ (AJ hw (sr AA λB7 m4=>zq tb AA (Aq AR Ho AA AA AA AA AA AA qD rfl (dn m4 AA ?_))));obtain rfl:=Sh.AB h0;exact BG (Exists.intro _ (And.intro ((CP (L:=[(8,Dh)]) (st':=[HN c1,⟨0,52,2,[O8 c1 p1.result]⟩]) (st1:=[HN c1,Vy c1 p1.result]) [2,0] AA AA (.deep (AP An) (.raw AA AA .nil)) (.same AA)).trans (Ao (L:=[(8,Dh)]) (.same AA))) (Ch (x:=.tmp 8) (off:=0) (cs:=(O8 c1 p1.result)) (vs:=(O8 c1 p1.result)) Ho AA AA AA qD rfl _ ⟨AA,AA⟩)))
   refine AL (Af (σ:=Int×(List Step)) (λn v=>BY b n v.1 v.2=some k2) (λ(W,C)=>⟨148,AN [(8,.ptr 0 0 0 0),(10,.ptr 1 0 0 0),(133,ls eI b),(134,i64 (Sh.len b)),(135,i64 W)],[L7,⟨0,52,2,[[ow 2 0 C,i64 p1.result]]⟩,ro 0 97 5 (Bu 3 52 97) C]⟩) N (0,g4) o (AI AA) (λ_ hv=>by rw[BY]at hv;cases hv) ?_);rintro n ⟨W,C⟩ o;try dsimp only at o⊢
   rw[BY]at o;refine zr tb AA AA (AD λB8 m5=>?_);refine ci o AA ?_ ?_<;>clear o<;>intro B9 o
   ·refine AG (m5 _ (AD λC0 m6=>AL (sr AA λC1 m7=>bs o λk3 m8 o=>zx X1 m8 AA AA AA (zm tb 2 AA (dn m7 AA ?_)))));refine IX (by kernel_rfl) ?_;refine bs o λI g6 o=>bs o λd1 g7 o=>?_;refine MF (f':=8) (listed':=(bm 8 0)) rfl (by kernel_rfl) ?_;refine BL 0 (v:=Dh) rfl AA (by kernel_rfl) (by kernel_rfl) (by kernel_rfl) rfl (CU (Ln U9 AA AA qY rfl)) ?_;refine BL 2 (v:=(i64 k3)) rfl AA (by kernel_rfl) (by kernel_rfl) (by kernel_rfl) rfl (CU (EK AA)) ?_;refine MI (KU λsn D=>?_);have b4:sn 0 (bm 8 255) ⟨148,AN (aT b W []),Up d1 p1.result⟩:=(D _ _ _).2 (by
     refine Jk AA (by kernel_rfl) ?_;exact m6 _ (AF AA (zm tb 2 AA (AE (xi (Sh.w (W+1),d1) o (Ao (L:=[(8,Bm),(10,Dh),(133,Fs b),(134,Eu b),(135,MO W)]) (.same AA)))))))
    have c2:sn 1 (bm 8 127) ⟨148,AN (aT b W [(144,ow 2 1 d1),(145,Dh)]),[L7,Vy C p1.result,gK d1]⟩:=(D _ _ _).2 (by
     refine ya [7] ⟨?_,mD⟩
     ·refine yo 7 ?_;exact Aq AR UZ AA AA AA AA AA AA qP rfl (NL D b4 (by exact CJ (L:=(aT b W [])) (st':=(Up d1 p1.result)) (.raw AA AA (.raw AA AA (.deep (AP An) .nil))) (.same AA))))
    have c9:sn 3 (bm 8 31) ⟨148,AN (aT b W [(140,ow 2 0 C),(143,.own 3 0 1)]),iN C p1.result I⟩:=(D _ _ _).2 (by
     refine ya [5] ⟨?_,mD⟩
     ·refine yo 5 ?_;have k4:=NB g7;refine PC (st':=(L7::(Vy C p1.result)::⟨1,97,5,hole d1 (Bu 3 52 97) (Sh.len C) (fI I)⟩::⟨0,97,5,[fI I]⟩::Oz I [])) (c:=I) AR DT AA AA AA AA AA AA AA g7 AA ?_;refine Aa (Wk.take (id:=2) (m:=4) (j:=3) (i:=Sh.len C) (c:=I) (ys:=I.args) (encY:=eI) rfl k4 AA AA AA (by decide) qc (λ_=>AA) rfl AA) ?_;refine Aa (Wk.take (id:=2) (m:=5) (j:=4) (i:=Sh.len C) (c:=I) (ys:=I.kids) (encY:=(Co 3 52 97)) rfl k4 AA AA AA (by decide) qd (λ_=>AA) rfl AA) ?_;refine Aa (HD (id:=2) (i:=Sh.len C) (c:=I) rfl k4 (DK I).symm AA) (AE ⟨AA,?_⟩);refine HX tb 6 AA (by kernel_rfl) rfl ?_;exact yw D c2 (by exact Ab [0,1,2] AA AA (.raw AA AA (.raw AA AA (.deep (AP An) .nil))) (.same AA)))
    have b9:sn 4 (bm 8 15) ⟨148,AN (aT b W [(140,ow 2 0 C),(142,.agg (Wz I))]),(L7::(Vy C p1.result)::(HN C)::Oz I [])⟩:=(D _ _ _).2 (by
     refine ya [4] ⟨?_,mD⟩
     ·refine yo 4 ?_;refine CE (m:=5) (l:=[()]) (enc:=λ_=>(Wz I)) AR DT (by decide) rfl AA AA AA AA AA ?_;exact NL D c9 (by exact CP (L:=(aT b W [(140,ow 2 0 C),(143,.own 3 0 1)])) (st':=(iN C p1.result I)) (st1:=(L7::(Vy C p1.result)::(HN C)::⟨0,97,5,[Wz I]⟩::Oz I [])) [0,1,2,5,3,4] AA AA (.raw AA AA (.raw AA AA (.deep (AP An) (.raw AA AA (.pure (AK λ_=>AA) (.deep (AP λ_=>AA) .nil)))))) (.same AA)))
    have d5:sn 5 (bm 8 7) ⟨148,AN (aT b W [(140,ow 2 0 C),(141,i64 k3)]),Up C p1.result⟩:=(D _ _ _).2 (by
     refine ya [3] ⟨?_,mD⟩
     ·refine yo 3 ?_;exact BE (v':=(.agg (Wz I))) AR (hb 53) (Fx g6) rfl AA ⟨(Ay λ_=>AA),⟨(AP λ_=>AA),mD⟩⟩ AA AA (yd D b9))
    have g5:sn 6 (bm 8 5) ⟨148,AN (aT b W [(139,Dh),(141,i64 k3)]),Up C p1.result⟩:=(D _ _ _).2 (by
     refine ya [1,3] ⟨?_,?_,mD⟩
     ·exact XC tb D d5
     ·refine yo 3 ?_;refine BE (v':=(.agg (Wz I))) AR (hb 53) (Fx g6) rfl AA ⟨(Ay λ_=>AA),⟨(AP λ_=>AA),mD⟩⟩ AA AA (AE ⟨AA,?_⟩);refine HX tb 1 AA (by kernel_rfl) rfl ?_;exact U5 D b9)
    refine (D _ _ _).2 ?_;exact U5 D g5
   ·exact Ah (A1 C (Sh.AB o).symm _ (AI AA))
  refine sr AA λC2 m9=>zm tb 3 AA (bs o λk5 g8 o=>zz (.ptr 1 0 (Int.toNat p1.result) 0) (Cb BD AA AA AA AA g8) rfl (zz (i64 k5) (DQ Ie AA AA (Ed g8) rfl) rfl (zq tb AA (dn m9 AA ?_))));refine ci o AA ?_ ?_<;>clear o<;>intro q0 o
  ·have C3:decide (k5=0)=false:=by simpa using q0
   refine IX (by kernel_rfl) ?_;refine bs o λJ g9 o=>bs o λd2 h3 o=>?_;refine MF (f':=9) (listed':=(bm 9 0)) rfl (by kernel_rfl) ?_;refine BL 0 (v:=G6) rfl AA (by kernel_rfl) (by kernel_rfl) (by kernel_rfl) rfl (CU (Ln U9 AA AA qY rfl)) ?_;refine BL 2 (v:=(.Bt (an p1) 1)) rfl AA (by kernel_rfl) (by kernel_rfl) (by kernel_rfl) rfl (CU (JS ie AA AA)) ?_;refine BL 3 (v:=(i64 p1.result)) rfl AA (by kernel_rfl) (by kernel_rfl) (by kernel_rfl) rfl (KM Ie AA AA) ?_;refine MI (KU λA43 E=>?_);have Z:A43 0 (bm 9 511) ⟨148,AN (Uw b []),Up d2 p1.result⟩:=(E _ _ _).2 (by
    refine Jk AA (by kernel_rfl) ?_;exact m1 d2 (Sh.AB o).symm _ (Ao (L:=(Uw b [])) (.same AA)))
   have b5:A43 1 (bm 9 255) ⟨148,AN (Uw b [(131,ow 2 1 d2),(132,Dh)]),[L7,Vy y p1.result,gK d2]⟩:=(E _ _ _).2 (by
    refine ya [8] ⟨?_,mD⟩
    ·refine yo 8 ?_;exact Aq AR UZ AA AA AA AA AA AA qP rfl (NL E Z (by exact CJ (L:=(Uw b [])) (st':=(Up d2 p1.result)) (.raw AA AA (.raw AA AA (.deep (AP An) .nil))) (.same AA))))
   have c6:A43 3 (bm 9 63) ⟨148,AN (Uw b [(126,ow 2 0 y),(130,.own 3 0 1)]),iN y p1.result J⟩:=(E _ _ _).2 (by
    refine ya [6] ⟨?_,mD⟩
    ·refine yo 6 ?_;have k6:=NB h3;refine PC (st':=(L7::(Vy y p1.result)::⟨1,97,5,hole d2 (Bu 3 52 97) (Sh.len y) (fI J)⟩::⟨0,97,5,[fI J]⟩::Oz J [])) (c:=J) AR DT AA AA AA AA AA AA AA h3 AA ?_;refine Aa (Wk.take (id:=2) (m:=4) (j:=3) (i:=Sh.len y) (c:=J) (ys:=J.args) (encY:=eI) rfl k6 AA AA AA (by decide) qc (λ_=>AA) rfl AA) ?_;refine Aa (Wk.take (id:=2) (m:=5) (j:=4) (i:=Sh.len y) (c:=J) (ys:=J.kids) (encY:=(Co 3 52 97)) rfl k6 AA AA AA (by decide) qd (λ_=>AA) rfl AA) ?_;refine Aa (HD (id:=2) (i:=Sh.len y) (c:=J) rfl k6 (DK J).symm AA) (AE ⟨AA,?_⟩);refine HX tb 7 AA (by kernel_rfl) rfl ?_;exact yw E b5 (by exact Ab [0,1,2] AA AA (.raw AA AA (.raw AA AA (.deep (AP An) .nil))) (.same AA)))
   have b0:A43 4 (bm 9 31) ⟨148,AN (Uw b [(126,ow 2 0 y),(129,.agg (Wz J))]),(L7::(Vy y p1.result)::(HN y)::Oz J [])⟩:=(E _ _ _).2 (by
    refine ya [5] ⟨?_,mD⟩
    ·refine yo 5 ?_;refine CE (m:=5) (l:=[()]) (enc:=λ_=>(Wz J)) AR DT (by decide) rfl AA AA AA AA AA ?_;exact NL E c6 (by exact CP (L:=(Uw b [(126,ow 2 0 y),(130,.own 3 0 1)])) (st':=(iN y p1.result J)) (st1:=(L7::(Vy y p1.result)::(HN y)::⟨0,97,5,[Wz J]⟩::Oz J [])) [0,1,2,5,3,4] AA AA (.raw AA AA (.raw AA AA (.deep (AP An) (.raw AA AA (.pure (AK λ_=>AA) (.deep (AP λ_=>AA) .nil)))))) (.same AA)))
   have d3:A43 5 (bm 9 15) ⟨148,AN (Uw b [(126,ow 2 0 y),(128,i64 p1.result)]),Up y p1.result⟩:=(E _ _ _).2 (by
    refine ya [4] ⟨?_,mD⟩
    ·refine yo 4 ?_;exact BE (v':=(.agg (Wz J))) AR (hb 53) (Fx g9) rfl AA ⟨(Ay λ_=>AA),⟨(AP λ_=>AA),mD⟩⟩ AA AA (yd E b0))
   have d6:A43 6 (bm 9 13) ⟨148,AN (Uw b [(125,Dh),(128,i64 p1.result)]),Up y p1.result⟩:=(E _ _ _).2 (by
    refine ya [1,4] ⟨?_,?_,mD⟩
    ·exact XC tb E d3
    ·refine yo 4 ?_;refine BE (v':=(.agg (Wz J))) AR (hb 53) (Fx g9) rfl AA ⟨(Ay λ_=>AA),⟨(AP λ_=>AA),mD⟩⟩ AA AA (AE ⟨AA,?_⟩);refine HX tb 1 AA (by kernel_rfl) rfl ?_;exact U5 E b0)
   refine (E _ _ _).2 ?_;exact yw E d6 (by exact CP (L:=(Uw b [(125,Dh),(128,i64 p1.result)])) (st':=(Up y p1.result)) (st1:=[L7,ZX y p1.result,HN y]) [0,2,3] AA AA (.raw AA AA (.raw AA AA (.deep (AP An) .nil))) (.same AA))
  ·have C4:decide (k5=0)=true:=by simpa using q0
   exact AG (m1 y (Sh.AB o).symm _ (CP (L:=(Uw b [])) (st':=(Up y p1.result)) (st1:=[L7,ZX y p1.result,HN y]) [0,2,3] AA AA (.raw AA AA (.raw AA AA (.deep (AP An) .nil))) (.same AA)))
 refine AL (Af (σ:=(List Int)×Int×(List Int)×(List Step)) (λn v=>BX N p0 p1 qj n v.1 v.2.1 v.2.2.1 v.2.2.2=some k1) (λ(a,K,f,d0)=>⟨148,AN [(3,ls eI a),(4,.Bt (Bp p0) 0),(5,.Bt [ls Bx p1.steps,i64 p1.result] 0),(8,.ptr 0 0 0 0),(9,ow 1 0 f),(10,.ptr 2 0 0 0),(31,ls Bx p1.steps),(32,i64 (Sh.len p1.steps)),(33,i64 K)],[L7,ro 0 3 1 eI f,⟨0,52,2,[[ow 3 0 d0,i64 p1.result]]⟩,ro 0 97 5 (Bu 3 52 97) d0]⟩) N (p3,0,q3,[]) o (by refine Wk.trans (HR (id:=4) (st':=[⟨1,45,2,[]⟩,⟨1,52,2,[]⟩,L7,ro 0 3 1 eI q3,⟨0,52,2,[[.own 5 0 (List.length ([]:List Step)),i64 p1.result]]⟩,ro 0 97 5 (Bu 3 52 97) ([]:List Step)]) (j:=0) rfl AA 97 (size':=5) (by decide) rfl AA AA AA) ?_;exact CP (L:=[(3,ls eI p3),(4,.Bt (Bp p0) 0),(5,.Bt [ls Bx p1.steps,i64 p1.result] 0),(8,.ptr 0 0 0 0),(9,ow 1 0 q3),(10,.ptr 2 0 0 0),(31,ls Bx p1.steps),(32,i64 (Sh.len p1.steps)),(33,i64 0)]) (st':=[L7,ro 0 3 1 eI q3,⟨0,52,2,[[.own 3 0 (List.length ([]:List Step)),i64 p1.result]]⟩,ro 0 97 5 (Bu 3 52 97) ([]:List Step)]) (st1:=[L7,ro 0 3 1 eI q3,⟨0,52,2,[[.own 5 0 (List.length ([]:List Step)),i64 p1.result]]⟩,ro 0 97 5 (Bu 3 52 97) ([]:List Step)]) [2,3,4,5] AA AA (.raw AA AA (.pure (AK λ_=>AA) (.raw AA AA (.deep (AP An) .nil)))) (.same AA)) (λ_ hv=>by rw[BX]at hv;cases hv) ?_);rintro n ⟨a,K,f,d0⟩ o;try dsimp only at o⊢
 rw[BX]at o;refine zr tb AA AA (AD λC5 q1=>?_);refine ci o AA ?_ ?_<;>clear o<;>intro C6 o
 ·refine AG (q1 _ (AD λC7 q2=>AL (sr AA λC8 q4=>bs o λd q5 o=>zz (Lj d) (E3 DT AA AA q5 (CK _) rfl) rfl (zq tb AA (Al (m:=4) AR Nl AA AA (Aq AR L6 AA AA AA AA AA AA qG rfl (Aa (Wk.CQ (L:=(Kd a p0 p1 f d (J2 p1 K []))) (st':=(JR f d0 p1.result [dV])) (id:=4) rfl qc (IC AA) (.same AA) rfl) (dn q4 AA (sr AA λC9 q6=>?_)))))))));refine zm tb 3 AA (bs o λp q7 o=>?_);refine Oa (rowsP:=[BQ f]) (rows0:=[BQ f]) (rows1:=[BQ f]) (rows2:=[BQ p.1]) (rows1':=[BQ f]) (rows2':=[BQ p.1]) (st':=(JR f d0 p1.result [dV,BQ p.1])) (v':=(.DX [ow 5 0 p.1,ls eI p.2])) [1] AR (hb 52) (Ng q7) rfl (by decide) rfl AA (.pure (AK λ_=>AA) .nil) rfl AA (.pure (AK λ_=>AA) .nil) (.pure (AK λ_=>AA) .nil) rfl AA ?_;refine zm tb 5 AA (dn q6 AA (AD λA2 q8=>sr AA λK0 q9=>zq tb AA (zz (Eu p.1) (D0 F8 AA AA AA) rfl (zq tb AA (dn q9 AA (bs o λk7 A o=>?_))))));have A3:∀(h:(List Step)),k7=h->∀s,Wk 0 s ⟨148,AN (Kd a p0 p1 f d (J2 p1 K [])),JR f h p1.result []⟩->A2 s:=by
   intro h hq s hw;subst k7;try dsimp only at o
   refine q8 _ (AJ hw (sr AA λK3 t0=>zm tb 2 AA (zl tb AA AA (bs o λA4 t1 o=>ZS (m:=4) (enc:=(eS eI)) (u:=[]) AR Kr AA AA AA t1 AA AA (zq tb AA (dn t0 AA (AD λA5 t2=>bs o λt3 A o=>?_)))))));have t4:∀(z:(List (List Int))),t3=z->∀s,Wk 0 s ⟨148,AN (Kd a p0 p1 f d ((17,ow 4 0 z)::J2 p1 K [])),JR f h p1.result [Qv z]⟩->A5 s:=by
    intro z hq s hw;subst t3;try dsimp only at o
    refine t2 _ (AJ hw (zr tb AA AA (AD λA6 t5=>sr AA λK7 t6=>zm tb 2 AA (zl tb AA AA (zq tb AA (dn t6 AA (bs o λk8 A o=>?_)))))));have A7:∀(g:(List Block)),k8=g->∀s,Wk 0 s ⟨148,AN (Kd a p0 p1 f d ((18,ow 4 0 g)::J2 p1 K [])),JR f h p1.result [IQ g]⟩->A6 s:=by
     intro g hq s hw;subst k8;try dsimp only at o
     refine t5 _ (AJ hw (AD λK8 t7=>?_));refine IX (by kernel_rfl) ?_;refine bs o λe h4 o=>bs o λc7 h5 o=>?_;refine MF (f':=9) (listed':=(bm 9 0)) rfl (by kernel_rfl) ?_;refine BL 0 (v:=G6) rfl AA (by kernel_rfl) (by kernel_rfl) (by kernel_rfl) rfl (CU (Ln U9 AA AA qY rfl)) ?_;refine BL 2 (v:=(Mb d)) rfl AA (by kernel_rfl) (by kernel_rfl) (by kernel_rfl) rfl (Hb L6 AA qG rfl) ?_;refine BL 3 (v:=(ow 4 0 g)) rfl AA (by kernel_rfl) (by kernel_rfl) (by kernel_rfl) rfl (CU (EK AA)) ?_;refine MI (KU λA76 G=>?_);have b1:A76 0 (bm 9 511) ⟨148,AN (Kd a p0 p1 f d (J2 p1 K [])),JR f c7 p1.result []⟩:=(G _ _ _).2 (by
      refine Jk AA (by kernel_rfl) ?_;refine t7 _ (sr AA λK9 t9=>zm tb 3 AA (bs o λc3 v0 o=>Fz (v':=(Uj c3.1 c3.2)) AR (hb 57) (Le v0) rfl (.val AA (.own AA AA (λ_=>AA) (.val AA .nil))) rfl mD AA AA (zm tb 5 AA (dn t9 AA (AD λA8 v1=>bs o λv2 A o=>?_)))));have v3:∀(M:(List Int)),v2=M->∀s,Wk 0 s ⟨148,AN ((3,Fs M)::(4,gJ p0)::gr p1 f ((21,i64 c3.1)::J2 p1 K [])),JR f c7 p1.result []⟩->A8 s:=by
       intro M hq s hw;subst v2;try dsimp only at o
       refine v1 _ (AJ hw (AF AA (zm tb 2 AA ?_)));refine CE (m:=4) (l:=[c3.1]) (enc:=eI) AR BD (by decide) rfl AA AA AA AA AA ?_;refine bs o λk9 v4 o=>Cd (l2:=[c3.1]) AR BD AA AA AA AA (H6 AA AA) (λ_=>AA) v4 AA (zq tb AA (dn q2 AA (AF AA (zm tb 2 AA ?_))));exact AE (xi (M,Sh.w (K+1),k9,c7) o (by refine Wk.trans (CJ (L:=((3,Fs M)::(4,gJ p0)::gr p1 k9 [(31,TV p1),(32,dq p1),(33,MO K)])) (st':=(JR k9 c7 p1.result [Qr c3.1])) (.raw AA AA (.pure (AK λ_=>AA) (.raw AA AA (.deep (AP An) (.pure (AK λ_=>AA) .nil))))) (.same AA)) ?_;exact Ab [0,1,2,3] AA AA (.raw AA AA (.pure (AK λ_=>AA) (.raw AA AA (.deep (AP An) .nil)))) (.same AA)))
      refine zr tb AA AA ?_;refine ci A AA ?_ ?_<;>clear A<;>intro v5 A
      ·have M0:decide (c3.1=0)=false:=by simpa using v5
       exact AF AA (zm tb 2 AA (zz (Eu f) (D0 F8 AA AA AA) rfl (bs A λA9 v6 A=>zc (hb 23) (Hj v6) rfl AA AA (zq tb AA (AE (v3 A9 (Sh.AB A).symm _ (AI AA)))))))
      ·have M1:decide (c3.1=0)=true:=by simpa using v5
       exact AG (v3 a (Sh.AB A).symm _ (Ao (L:=((3,Fs a)::(4,gJ p0)::gr p1 f ((21,i64 c3.1)::J2 p1 K []))) (.same AA))))
     have b6:A76 1 (bm 9 255) ⟨148,AN (Kd a p0 p1 f d (J2 p1 K [(99,ow 3 1 c7),(100,G6)])),[L7,BQ f,ZX h p1.result,gK c7]⟩:=(G _ _ _).2 (by
      refine ya [8] ⟨?_,mD⟩
      ·refine yo 8 ?_;exact Aq AR UZ AA AA AA AA AA AA qP rfl (NL G b1 (by exact CJ (L:=(Kd a p0 p1 f d (J2 p1 K []))) (st':=(JR f c7 p1.result [])) (.raw AA AA (.pure (AK λ_=>AA) (.raw AA AA (.deep (AP An) .nil)))) (.same AA))))
     have c8:A76 3 (bm 9 63) ⟨148,AN (Kd a p0 p1 f d (J2 p1 K [(94,ow 3 0 h),(98,.own 4 0 1)])),JR f h p1.result [⟨0,97,5,[gy e g]⟩,Q4 e,IQ g]⟩:=(G _ _ _).2 (by
      refine ya [6] ⟨?_,mD⟩
      ·refine yo 6 ?_;have l0:=NB h5;refine PC (st':=[L7,BQ f,ZX h p1.result,⟨1,97,5,hole c7 (Bu 3 52 97) (Sh.len h) (gy e g)⟩,⟨0,97,5,[gy e g]⟩,Q4 e,IQ g]) (c:=(Step.mk e.op e.num e.BB e.args g)) AR DT AA AA AA AA AA AA AA h5 AA ?_;refine Aa (Wk.take (id:=3) (m:=5) (j:=3) (i:=Sh.len h) (c:=(Step.mk e.op e.num e.BB e.args g)) (ys:=e.args) (encY:=eI) rfl l0 AA AA AA (by decide) qd (λ_=>AA) rfl AA) ?_;refine Aa (Wk.take (id:=3) (m:=6) (j:=4) (i:=Sh.len h) (c:=(Step.mk e.op e.num e.BB e.args g)) (ys:=g) (encY:=(Co 3 52 97)) rfl l0 AA AA AA (by decide) qe (λ_=>AA) rfl AA) ?_;refine Aa (HD (id:=3) (i:=Sh.len h) (c:=(Step.mk e.op e.num e.BB e.args g)) rfl l0 (DK (Step.mk e.op e.num e.BB e.args g)).symm AA) (AE ⟨AA,?_⟩);refine HX tb 7 AA (by kernel_rfl) rfl ?_;exact yw G b6 (by exact Ab [0,1,2,3] AA AA (.raw AA AA (.pure (AK λ_=>AA) (.raw AA AA (.deep (AP An) .nil)))) (.same AA)))
     have b2:A76 4 (bm 9 31) ⟨148,AN (Kd a p0 p1 f d (J2 p1 K [(94,ow 3 0 h),(97,.agg (kT e g))])),JR f h p1.result [Q4 e,IQ g]⟩:=(G _ _ _).2 (by
      refine ya [5] ⟨?_,mD⟩
      ·refine yo 5 ?_;refine CE (m:=6) (l:=[()]) (enc:=λ_=>(kT e g)) AR DT (by decide) rfl AA AA AA AA AA ?_;exact NL G c8 (by exact CP (L:=(Kd a p0 p1 f d (J2 p1 K [(94,ow 3 0 h),(98,.own 4 0 1)]))) (st':=(JR f h p1.result [⟨0,97,5,[gy e g]⟩,Q4 e,IQ g])) (st1:=(JR f h p1.result [⟨0,97,5,[kT e g]⟩,Q4 e,IQ g])) [0,1,2,3,6,4,5] AA AA (.raw AA AA (.pure (AK λ_=>AA) (.raw AA AA (.deep (AP An) (.raw AA AA (.pure (AK λ_=>AA) (.deep (AP λ_=>AA) .nil))))))) (.same AA)))
     have d4:A76 5 (bm 9 15) ⟨148,AN (Kd a p0 p1 f d (J2 p1 K [(94,ow 3 0 h),(95,Mb d),(96,ow 4 0 g)])),JR f h p1.result [IQ g]⟩:=(G _ _ _).2 (by
      refine ya [4] ⟨?_,mD⟩
      ·refine yo 4 ?_;refine Oa (rowsP:=[IQ g]) (rows0:=[IQ g]) (rows1:=[IQ g]) (rows2:=[Q4 e]) (rows1':=[IQ g]) (rows2':=[Q4 e]) (st':=(JR f h p1.result [IQ g,Q4 e])) (v':=(.agg [i64 e.op,i64 e.num,i64 e.BB,ow 5 0 e.args,ow 4 0 g])) [4] AR (hb 56) (LD h4) rfl (by decide) rfl AA (.deep (AP λ_=>AA) .nil) rfl AA (.deep (AP λ_=>AA) .nil) (.pure (AK λ_=>AA) .nil) rfl AA ?_;exact NL G b2 (by exact Ab [0,1,2,3,5,4] AA AA (.raw AA AA (.pure (AK λ_=>AA) (.raw AA AA (.deep (AP An) (.pure (AK λ_=>AA) (.deep (AP λ_=>AA) .nil)))))) (.same AA)))
     have d7:A76 6 (bm 9 13) ⟨148,AN (Kd a p0 p1 f d (J2 p1 K [(93,G6),(95,Mb d),(96,ow 4 0 g)])),JR f h p1.result [IQ g]⟩:=(G _ _ _).2 (by
      refine ya [1,4] ⟨?_,?_,mD⟩
      ·exact XC tb G d4
      ·refine yo 4 ?_;refine Oa (rowsP:=[IQ g]) (rows0:=[IQ g]) (rows1:=[IQ g]) (rows2:=[Q4 e]) (rows1':=[IQ g]) (rows2':=[Q4 e]) (st':=(JR f h p1.result [IQ g,Q4 e])) (v':=(.agg [i64 e.op,i64 e.num,i64 e.BB,ow 5 0 e.args,ow 4 0 g])) [4] AR (hb 56) (LD h4) rfl (by decide) rfl AA (.deep (AP λ_=>AA) .nil) rfl AA (.deep (AP λ_=>AA) .nil) (.pure (AK λ_=>AA) .nil) rfl AA ?_;refine AE ⟨AA,?_⟩;refine HX tb 1 AA (by kernel_rfl) rfl ?_;exact yw G b2 (by exact Ab [0,1,2,3,5,4] AA AA (.raw AA AA (.pure (AK λ_=>AA) (.raw AA AA (.deep (AP An) (.pure (AK λ_=>AA) (.deep (AP λ_=>AA) .nil)))))) (.same AA)))
     refine (G _ _ _).2 ?_;exact U5 G d7
    refine AL (Af (σ:=Int×(List Block)) (λn v=>BR N d z f p0 qj n v.1 v.2=some k8) (λ(Q,B)=>⟨148,AN [(3,ls eI a),(4,.Bt (Bp p0) 0),(5,.Bt [ls Bx p1.steps,i64 p1.result] 0),(8,.ptr 0 0 0 0),(9,ow 1 0 f),(10,.ptr 2 0 0 0),(12,.Bt [i64 d.op,i64 d.num,i64 d.BB,ls eI d.args,ls Bq d.kids] 0),(17,ow 4 0 z),(18,ow 5 0 B),(31,ls Bx p1.steps),(32,i64 (Sh.len p1.steps)),(33,i64 K),(74,ls Bq d.kids),(75,i64 (Sh.len d.kids)),(76,i64 Q)],[L7,ro 0 3 1 eI f,⟨0,52,2,[[ow 3 0 h,i64 p1.result]]⟩,ro 0 97 5 (Bu 3 52 97) h,ro 0 49 1 (eS eI) z,ro 0 52 2 (Co 3 52 97) B]⟩) N (0,[]) A ((FG (t:=18) rfl 52 (size:=2) (by decide)).trans (Ao (L:=[(3,ls eI a),(4,.Bt (Bp p0) 0),(5,.Bt [ls Bx p1.steps,i64 p1.result] 0),(8,.ptr 0 0 0 0),(9,ow 1 0 f),(10,.ptr 2 0 0 0),(12,.Bt [i64 d.op,i64 d.num,i64 d.BB,ls eI d.args,ls Bq d.kids] 0),(17,ow 4 0 z),(18,.own 5 0 (List.length ([]:List Block))),(31,ls Bx p1.steps),(32,i64 (Sh.len p1.steps)),(33,i64 K),(74,ls Bq d.kids),(75,i64 (Sh.len d.kids)),(76,i64 0)]) (.same AA))) (λ_ hv=>by rw[BR]at hv;cases hv) ?_);rintro n ⟨Q,B⟩ A;try dsimp only at A⊢
    rw[BR]at A;refine zr tb AA AA (AD λM2 v7=>?_);refine ci A AA ?_ ?_<;>clear A<;>intro M3 A
    ·refine AG (v7 _ (AD λM4 v8=>AL (sr AA λM5 v9=>zq tb AA (bs A λl1 w0 A=>zx JF w0 AA AA AA (zq tb AA (Al (m:=6) AR Hq AA AA (zq tb AA (Aq AR Ho AA AA AA AA AA AA qD rfl (Aa (Wk.CQ (L:=(Kd a p0 p1 f d (Zc z B ((19,i64 Q)::(20,T1 l1)::J2 p1 K (ZY d Q []))))) (st':=(JR f h p1.result [Qv z,IQ B,da])) (id:=6) rfl qe (IC AA) (.same AA) rfl) ?_)))))))));refine dn v9 AA ?_;refine IX (by kernel_rfl) ?_;refine bs A λB0 h6 A=>bs A λO w1 A=>bs A λc4 h7 A=>?_;refine MF (f':=12) (listed':=(bm 12 0)) rfl (by kernel_rfl) ?_;refine BL 0 (v:=(ow 5 0 B)) rfl AA (by kernel_rfl) (by kernel_rfl) (by kernel_rfl) rfl (CU (EK AA)) ?_;refine BL 1 (v:=(NS p0)) rfl AA (by kernel_rfl) (by kernel_rfl) (by kernel_rfl) rfl (Hb S5 AA qD rfl) ?_;refine BL 2 (v:=(DH l1)) rfl AA (by kernel_rfl) (by kernel_rfl) (by kernel_rfl) rfl (Hb Ho AA qD rfl) ?_;refine BL 3 (v:=(ow 1 0 f)) rfl AA (by kernel_rfl) (by kernel_rfl) (by kernel_rfl) rfl (CU (EK AA)) ?_;refine BL 4 (v:=(ow 4 0 z)) rfl AA (by kernel_rfl) (by kernel_rfl) (by kernel_rfl) rfl (CU (EK AA)) ?_;refine BL 5 (v:=(i64 Q)) rfl AA (by kernel_rfl) (by kernel_rfl) (by kernel_rfl) rfl (CU (EK AA)) ?_;refine MI (KU λA99 S=>?_);have T:A99 0 (bm 12 4095) ⟨148,AN (Kd a p0 p1 f d (Zc z c4 (J2 p1 K (ZY d Q [])))),JR f h p1.result [Qv z,IQ c4]⟩:=(S _ _ _).2 (by
      refine Jk AA (by kernel_rfl) ?_;exact v8 _ (AF AA (zm tb 2 AA (AE (xi (Sh.w (Q+1),c4) A (Ao (L:=(Kd a p0 p1 f d (Zc z c4 (J2 p1 K [(74,gF d),(75,Sm d),(76,MO Q)])))) (.same AA)))))))
     have X:A99 2 (bm 12 1023) ⟨148,AN (Kd a p0 p1 f d (Zc z B (J2 p1 K (ZY d Q [(81,ow 5 0 B),(90,.own 6 0 1)])))),JR f h p1.result [Qv z,IQ B,⟨0,52,2,[ZQ O]⟩,HL O]⟩:=(S _ _ _).2 (by
      refine ya [10] ⟨?_,mD⟩
      ·refine yo 10 ?_;have h8:=NB h7;refine PC (st':=(JR f h p1.result [Qv z,⟨1,52,2,hole c4 (Co 3 52 97) (Sh.len B) (ZQ O)⟩,⟨0,52,2,[ZQ O]⟩,HL O])) (c:=O) AR JF AA AA AA AA AA AA AA h7 AA ?_;refine Aa (Wk.take (id:=5) (m:=7) (j:=0) (i:=Sh.len B) (c:=O) (ys:=O.steps) (encY:=(Bu 3 52 97)) rfl h8 AA AA AA (by decide) qX Jp AA AA) ?_;refine Aa (HD (id:=5) (i:=Sh.len B) (c:=O) rfl h8 AA AA) (AE ⟨AA,?_⟩);refine HX tb 11 AA (by kernel_rfl) rfl ?_;exact Sp (by refine Wk.trans (Ab (L:=(Kd a p0 p1 f d ((17,ow 4 0 z)::(18,ow 5 1 c4)::J2 p1 K (ZY d Q [])))) (st':=(JR f h p1.result [Qv z,ro 1 52 2 (Co 3 52 97) c4])) [0,1,2,3,4,5] AA AA (.raw AA AA (.pure (AK λ_=>AA) (.raw AA AA (.deep (AP An) (.pure (AK λ_=>AA) (.deep (AP λ_=>AA) .nil)))))) ⟨.rfl,.rfl,.rfl,.rfl,.rfl,.rfl,.rfl,.rfl,.rfl,.rfl,.rfl,.rfl,.rfl,.rfl,.rfl,mD⟩) ?_;exact CJ (L:=(Kd a p0 p1 f d (Zc z c4 (J2 p1 K (ZY d Q []))))) (st':=(JR f h p1.result [Qv z,IQ c4])) (.raw AA AA (.pure (AK λ_=>AA) (.raw AA AA (.deep (AP An) (.pure (AK λ_=>AA) (.deep (AP λ_=>AA) .nil)))))) ⟨.rfl,.rfl,.rfl,.rfl,.rfl,.rfl,.rfl,.rfl,.rfl,.rfl,.rfl,.rfl,.rfl,.rfl,.rfl,mD⟩) (XZ (by kernel_rfl) ((S _ _ _).1 T)) rfl)
     have b3:A99 3 (bm 12 511) ⟨148,AN (Kd a p0 p1 f d (Zc z B (J2 p1 K (ZY d Q [(81,ow 5 0 B),(89,.agg (jB O))])))),JR f h p1.result [Qv z,IQ B,HL O]⟩:=(S _ _ _).2 (by
      refine ya [9] ⟨?_,mD⟩
      ·refine yo 9 ?_;refine CE (m:=7) (l:=[()]) (enc:=λ_=>(jB O)) AR JF (by decide) rfl AA AA AA AA AA ?_;exact NL S X (by exact CP (L:=(Kd a p0 p1 f d (Zc z B (J2 p1 K (ZY d Q [(81,ow 5 0 B),(90,.own 6 0 1)]))))) (st':=(JR f h p1.result [Qv z,IQ B,⟨0,52,2,[ZQ O]⟩,HL O])) (st1:=(JR f h p1.result [Qv z,IQ B,⟨0,52,2,[jB O]⟩,HL O])) [0,1,2,3,4,5,7,6] AA AA (.raw AA AA (.pure (AK λ_=>AA) (.raw AA AA (.deep (AP An) (.pure (AK λ_=>AA) (.deep (AP λ_=>AA) (.raw AA AA (.deep (AP An) .nil)))))))) (.same AA)))
     have b7:A99 4 (bm 12 255) ⟨148,AN (Kd a p0 p1 f d (Zc z B (J2 p1 K (ZY d Q [(81,ow 5 0 B),(82,NS p0),(83,DH l1),(84,ow 1 0 f),(88,ls eI B0)])))),JR f h p1.result [Qv z,IQ B]⟩:=(S _ _ _).2 (by
      refine ya [8] ⟨?_,mD⟩
      ·refine yo 8 ?_;exact Fz (v':=(.agg (jB O))) AR (hb 55) (Ms rG w1) rfl (.val AA (.val AA (.own AA AA (λ_=>AA) (.val AA .nil)))) rfl (Th Yp mD) rfl AA (yd S b3))
     refine (S _ _ _).2 ?_;refine Wa 6 (v:=(.ptr 4 0 (Int.toNat Q) 0)) rfl (by kernel_rfl) (by kernel_rfl) (Cb Kr AA AA AA AA h6) ?_;refine Wp 7 AA AA (by kernel_rfl) (PG Ky AA AA (Ed h6) rfl) ?_;exact yw S b7 (by exact Ab [0,1,2,3,4,5] AA AA (.raw AA AA (.pure (AK λ_=>AA) (.raw AA AA (.deep (AP An) (.pure (AK λ_=>AA) (.deep (AP λ_=>AA) .nil)))))) (.same AA))
    ·exact Ah (A7 B (Sh.AB A).symm _ (Ab [0,1,2,3,5] AA AA (.raw AA AA (.pure (AK λ_=>AA) (.raw AA AA (.deep (AP An) (.deep (AP λ_=>AA) .nil))))) (.same AA)))
   refine zr tb AA AA ?_;refine ci A AA ?_ ?_<;>clear A<;>intro B1 A
   ·refine AF AA (zm tb 3 AA (bs A λh9 l3 A=>BE (v':=(ow 5 0 h9)) AR (hb 54) (GL l3) rfl AA ⟨(Ay λ_=>AA),mD⟩ AA AA (zq tb AA ?_)));exact AE (t4 h9 (Sh.AB A).symm _ (Ab [0,1,2,3,5] AA AA (.raw AA AA (.pure (AK λ_=>AA) (.raw AA AA (.deep (AP An) (.pure (AK λ_=>AA) .nil))))) (.same AA)))
   ·exact AG (t4 A4 (Sh.AB A).symm _ (AI AA))
  refine AL (Af (σ:=Int×(List Step)) (λn v=>BW d p n v.1 v.2=some k7) (λ(V,H)=>⟨148,AN [(3,ls eI a),(4,.Bt (Bp p0) 0),(5,.Bt [ls Bx p1.steps,i64 p1.result] 0),(8,.ptr 0 0 0 0),(9,ow 1 0 f),(10,.ptr 2 0 0 0),(12,.Bt [i64 d.op,i64 d.num,i64 d.BB,ls eI d.args,ls Bq d.kids] 0),(31,ls Bx p1.steps),(32,i64 (Sh.len p1.steps)),(33,i64 K),(44,ow 4 0 p.1),(45,i64 (Sh.len p.1)),(46,i64 V)],[L7,ro 0 3 1 eI f,⟨0,52,2,[[ow 3 0 H,i64 p1.result]]⟩,ro 0 97 5 (Bu 3 52 97) H,ro 0 3 1 eI p.1]⟩) N (0,d0) A (Ab [0,1,2,3,5] AA AA (.raw AA AA (.pure (AK λ_=>AA) (.raw AA AA (.deep (AP An) (.pure (AK λ_=>AA) .nil))))) (.same AA)) (λ_ hv=>by rw[BW]at hv;cases hv) ?_);rintro n ⟨V,H⟩ A;try dsimp only at A⊢
  rw[BW]at A;refine zr tb AA AA (AD λB2 l4=>?_);refine ci A AA ?_ ?_<;>clear A<;>intro B3 A
  ·refine AG (l4 _ (AD λB4 l5=>AL (sr AA λB5 l6=>bs A λk0 d8 A=>zz (.ptr 4 0 (Int.toNat V) 0) (Cb BD AA AA AA AA d8) rfl (zz (i64 k0) (DQ Ie AA AA (Ed d8) rfl) rfl (zq tb AA (dn l6 AA ?_))))));refine IX (by kernel_rfl) ?_;refine bs A λd9 l7 A=>bs A λk g0 A=>bs A λc0 g1 A=>?_;refine MF (f':=12) (listed':=(bm 12 0)) rfl (by kernel_rfl) ?_;refine BL 0 (v:=G6) rfl AA (by kernel_rfl) (by kernel_rfl) (by kernel_rfl) rfl (CU (Ln U9 AA AA qY rfl)) ?_;refine BL 2 (v:=(.Bt (jJ d) 3)) rfl AA (by kernel_rfl) (by kernel_rfl) (by kernel_rfl) rfl (CU (JS iA AA AA)) ?_;refine BL 3 (v:=(Q2 d)) rfl AA (by kernel_rfl) (by kernel_rfl) (by kernel_rfl) rfl (KM Ky AA AA) ?_;refine BL 4 (v:=(i64 k0)) rfl AA (by kernel_rfl) (by kernel_rfl) (by kernel_rfl) rfl (CU (EK AA)) ?_;refine MI (KU λwF q=>?_);have R:wF 0 (bm 12 4095) ⟨148,AN (Kd a p0 p1 f d (J2 p1 K (aK p.1 V []))),JR f c0 p1.result [BQ p.1]⟩:=(q _ _ _).2 (by
    refine Jk AA (by kernel_rfl) ?_;exact l5 _ (AF AA (zm tb 2 AA (AE (xi (Sh.w (V+1),c0) A (Ao (L:=(Kd a p0 p1 f d (J2 p1 K [(44,ow 4 0 p.1),(45,Eu p.1),(46,MO V)]))) (.same AA)))))))
   have U:wF 1 (bm 12 2047) ⟨148,AN (Kd a p0 p1 f d (J2 p1 K (aK p.1 V [(59,ow 3 1 c0),(60,G6)]))),[L7,BQ f,ZX H p1.result,gK c0,BQ p.1]⟩:=(q _ _ _).2 (by
    refine ya [11] ⟨?_,mD⟩
    ·refine yo 11 ?_;exact Aq AR UZ AA AA AA AA AA AA qP rfl (NL q R (by exact CJ (L:=(Kd a p0 p1 f d (J2 p1 K (aK p.1 V [])))) (st':=(JR f c0 p1.result [BQ p.1])) (.raw AA AA (.pure (AK λ_=>AA) (.raw AA AA (.deep (AP An) (.pure (AK λ_=>AA) .nil))))) (.same AA))))
   have Y:wF 3 (bm 12 511) ⟨148,AN (Kd a p0 p1 f d (J2 p1 K (aK p.1 V [(51,ow 3 0 H),(58,.own 5 0 1)]))),JR f H p1.result ((BQ p.1)::⟨0,97,5,[gw k]⟩::Oz k [])⟩:=(q _ _ _).2 (by
    refine ya [9] ⟨?_,mD⟩
    ·refine yo 9 ?_;have g2:=NB g1;refine PC (st':=(L7::(BQ f)::(ZX H p1.result)::⟨1,97,5,hole c0 (Bu 3 52 97) (Sh.len H) (gw k)⟩::(BQ p.1)::⟨0,97,5,[gw k]⟩::Oz k [])) (c:=k) AR DT AA AA AA AA AA AA AA g1 AA ?_;refine Aa (Wk.take (id:=3) (m:=6) (j:=3) (i:=Sh.len H) (c:=k) (ys:=k.args) (encY:=eI) rfl g2 AA AA AA (by decide) qe (λ_=>AA) rfl AA) ?_;refine Aa (Wk.take (id:=3) (m:=7) (j:=4) (i:=Sh.len H) (c:=k) (ys:=k.kids) (encY:=(Co 3 52 97)) rfl g2 AA AA AA (by decide) qX (λ_=>AA) rfl AA) ?_;refine Aa (HD (id:=3) (i:=Sh.len H) (c:=k) rfl g2 (DK k).symm AA) (AE ⟨AA,?_⟩);refine HX tb 10 AA (by kernel_rfl) rfl ?_;exact yw q U (by exact Ab [0,1,2,3,4] AA AA (.raw AA AA (.pure (AK λ_=>AA) (.raw AA AA (.deep (AP An) (.pure (AK λ_=>AA) .nil))))) (.same AA)))
   have P:wF 4 (bm 12 255) ⟨148,AN (Kd a p0 p1 f d (J2 p1 K (aK p.1 V [(51,ow 3 0 H),(57,.agg (gN k))]))),JR f H p1.result ((BQ p.1)::Oz k [])⟩:=(q _ _ _).2 (by
    refine ya [8] ⟨?_,mD⟩
    ·refine yo 8 ?_;refine CE (m:=7) (l:=[()]) (enc:=λ_=>(gN k)) AR DT (by decide) rfl AA AA AA AA AA ?_;exact NL q Y (by exact CP (L:=(Kd a p0 p1 f d (J2 p1 K (aK p.1 V [(51,ow 3 0 H),(58,.own 5 0 1)])))) (st':=(JR f H p1.result ((BQ p.1)::⟨0,97,5,[gw k]⟩::Oz k []))) (st1:=(JR f H p1.result ((BQ p.1)::⟨0,97,5,[gN k]⟩::Oz k []))) [0,1,2,3,4,7,5,6] AA AA (.raw AA AA (.pure (AK λ_=>AA) (.raw AA AA (.deep (AP An) (.pure (AK λ_=>AA) (.raw AA AA (.pure (AK λ_=>AA) (.deep (AP λ_=>AA) .nil)))))))) (.same AA)))
   have b8:wF 5 (bm 12 127) ⟨148,AN (Kd a p0 p1 f d (J2 p1 K (aK p.1 V [(51,ow 3 0 H),(56,i64 d9)]))),JR f H p1.result [BQ p.1]⟩:=(q _ _ _).2 (by
    refine ya [7] ⟨?_,mD⟩
    ·refine yo 7 ?_;exact BE (v':=(.agg (gN k))) AR (hb 53) (Fx g0) rfl AA ⟨(Ay λ_=>AA),⟨(AP λ_=>AA),mD⟩⟩ AA AA (yd q P))
   have c5:wF 6 (bm 12 125) ⟨148,AN (Kd a p0 p1 f d (J2 p1 K (aK p.1 V [(50,G6),(56,i64 d9)]))),JR f H p1.result [BQ p.1]⟩:=(q _ _ _).2 (by
    refine ya [1,7] ⟨?_,?_,mD⟩
    ·exact XC tb q b8
    ·refine yo 7 ?_;refine BE (v':=(.agg (gN k))) AR (hb 53) (Fx g0) rfl AA ⟨(Ay λ_=>AA),⟨(AP λ_=>AA),mD⟩⟩ AA AA (AE ⟨AA,?_⟩);refine HX tb 1 AA (by kernel_rfl) rfl ?_;exact U5 q P)
   refine (q _ _ _).2 ?_;refine Wa 5 (v:=(Jq d9)) rfl (by kernel_rfl) (by kernel_rfl) (Bc BD AA AA l7 AA) ?_;refine HX tb 6 AA (by kernel_rfl) rfl ?_;exact U5 q c5
  ·exact Ah (A3 H (Sh.AB A).symm _ (Ab [0,1,2,3] AA AA (.raw AA AA (.pure (AK λ_=>AA) (.raw AA AA (.deep (AP An) .nil)))) (.same AA)))
 ·exact Ah (w8 a f d0 (Sh.AB o).symm _ (AI AA))
theorem LO {N:Nat}:∀(n:Nat),∀{p0:Ag} {p1:Block} {p2:(List Int)} {p3:(List Int)} {r:Block},DL N n p0 p1 p2 p3=some r->AS Tryz.prog 24 (eQ p0 p1 p2 p3) [] (λv st=>v=(PH r)/\st=[HL r]):=by
 intro n
 induction n with
 | zero=>intro p0 p1 p2 p3 r a;cases a
 | succ n ih=>
  intro p0 p1 p2 p3 r a;rw[DL]at a;exact LL (λh=>ih h) a
theorem MA {N:Nat}:∀{p0:Ag} {p1:Block} {p2:(List Int)} {p3:(List Int)} {r:Block},HC N p0 p1 p2 p3=some r->AS Tryz.prog 24 (eQ p0 p1 p2 p3) [] (λv st=>v=(PH r)/\st=[HL r]):=by
 intro p0 p1 p2 p3 r a;exact LO N a
theorem ML {N:Nat}{qt:(List Ac)}{rI:(List Bg)}{p0:Ad}{p1 r:Block}(h0:JJ N qt rI p0 p1=some r):AS Tryz.prog 21 [Wc p0,DH p1,Bm] [I7 qt rI] (λv st=>v=(.agg (Yw r))/\st=[I7 qt rI,HL r]):=by
 unfold JJ at h0;refine AS.wk (r0:=(.agg (Yw r))) (st0:=[I7 qt rI,HL r,⟨0,52,2,[Yw r]⟩]) ?_ (GA (L:=[(0,.agg (Yw r))]) (st':=[I7 qt rI,HL r]) [0,1] AA (by decide) rfl AA (.raw AA (.deep (AP An) mD)) (.same AA));refine ai Tryz.func21 AA AA AA AA (sr AA λY E=>Aw (m:=1) AR AA AA AA AA AA (Aw (m:=2) AR AA AA AA AA AA (Al (m:=3) AR Hq AA AA (dn E AA (zr tb AA AA (AD λR F=>sr AA λZ G=>zm tb 2 AA (zl tb AA AA (zq tb AA ?_))))))));refine dn G AA (bs h0 λH f h0=>?_);have S:∀(d:(List Int)),H=d->∀s,Wk 1 s ⟨36,AN [(2,Bm),(3,Dh),(4,G6),(5,Ue),(6,Fs d)],((I7 qt rI)::kI p0 p1 [])⟩->R s:=by
  intro d P s k;subst H;try dsimp only at h0
  refine F _ (AJ k (sr AA λK9 I=>zm tb 5 AA (bs h0 λe l h0=>BE (v':=(.agg [ow 4 0 e.steps,i64 e.result])) AR (hb 24) (MA l) rfl AA ⟨AP An,mD⟩ AA AA (Aq AR Ho AA AA AA AA AA AA qD rfl (dn I AA ?_)))));obtain rfl:=Sh.AB h0;exact BG (Exists.intro _ (And.intro ((CP (L:=[(5,G6)]) (st':=[I7 qt rI,HL e,⟨0,52,2,[Yw e]⟩]) (st1:=[I7 qt rI,HL e,⟨0,52,2,[[ow 4 0 e.steps,i64 e.result]]⟩]) [0,4,3] AA AA (.raw AA AA (.deep (AP An) (.raw AA AA .nil))) (.same AA)).trans (Ao (L:=[(5,G6)]) (.same AA))) (Ch (x:=.tmp 5) (off:=0) (cs:=(Yw e)) (vs:=(Yw e)) Ho AA AA AA qD rfl _ ⟨AA,AA⟩)))
 refine AL (Af (σ:=(List Int)×Int) (λn v=>Cm N p0 n v.1 v.2=some H) (λ(a,j)=>⟨36,AN [(2,.ptr 0 0 0 0),(3,.ptr 1 0 0 0),(4,.ptr 2 0 0 0),(5,.ptr 3 0 0 0),(6,ls eI a),(10,ls eI p0.params),(11,i64 (Sh.len p0.params)),(12,i64 j)],[I7 qt rI,lA p0.params p0.Ar p0.result p0.body.steps p0.body.result,⟨0,52,2,[[ls Bx p1.steps,i64 p1.result]]⟩,L7]⟩) N ([],0) f (Ao (L:=[(2,.ptr 0 0 0 0),(3,.ptr 1 0 0 0),(4,.ptr 2 0 0 0),(5,.ptr 3 0 0 0),(6,.sl (List.map eI [])),(10,ls eI p0.params),(11,i64 (Sh.len p0.params)),(12,i64 0)]) ⟨.rfl,.rfl,.rfl,.rfl,.zc,.rfl,.rfl,.rfl,mD⟩) (λ_ Q=>by rw[Cm]at Q;cases Q) ?_);rintro n ⟨a,j⟩ f;try dsimp only at f⊢
 rw[Cm]at f;refine zr tb AA AA (AD λT o=>?_);refine ci f AA ?_ ?_<;>clear f<;>intro U f
 ·refine AG (o _ (AD λJ p=>bs f λq g f=>?_));have t:∀(b:(List Int)),q=b->∀s,Wk 1 s ⟨36,AN [(2,Bm),(3,Dh),(4,G6),(5,Ue),(6,Fs b),(10,Fs p0.params),(11,Eu p0.params),(12,i64 j)],((I7 qt rI)::kI p0 p1 [])⟩->J s:=by
   intro b P s k;subst q;try dsimp only at f
   exact p _ (AJ k (AF AA (zm tb 2 AA (AE (xi (b,Sh.w (j+1)) f (AI AA))))))
  refine AL (sr AA λV u=>zq tb AA (bs g λW y g=>zx BD y AA AA AA (zm tb 3 AA (dn u AA (AD λK z=>bs g λA h g=>?_)))));have B:∀(i:Bool),A=i->∀s,Wk 1 s ⟨36,AN [(2,Bm),(3,Dh),(4,G6),(5,Ue),(6,Fs a),(7,i64 j),(10,Fs p0.params),(11,Eu p0.params),(12,i64 j),(25,.bool i)],((I7 qt rI)::kI p0 p1 [])⟩->K s:=by
   intro i P s k;subst A;try dsimp only at g
   refine z _ (AJ k ?_);refine ci g AA ?_ ?_<;>clear g<;>intro X g
   ·exact AF AA (zm tb 2 AA (bs g λM C g=>zc (hb 23) (Hj C) rfl AA AA (zq tb AA (AE (t M (Sh.AB g).symm _ (AI AA))))))
   ·exact AG (t a (Sh.AB g).symm _ (AI AA))
  refine AF AA (zm tb 3 AA ?_);rcases Sh.AU h with ⟨c,h⟩|⟨c,h⟩
  ·exact zg tb c AA (zg tb c AA (zg tb c AA (bs h λO D h=>zd c (hb 22) (JK D) rfl AA AA AA (zg tb c AA (zt c AA (AE (B (!O) (Sh.AB h).symm _ (AI AA))))))))
  ·refine zs c AA ?_;iterate 4 refine zs c rfl ?_
   exact zf c AA (AE (B false (Sh.AB h).symm _ (AI AA)))
 ·exact Ah (S a (Sh.AB f).symm _ (AI AA))
theorem Mp {N:Nat}{qt:(List Ac)}{rI:(List Bg)}{p0 r:AT}(h0:FI N qt rI p0=some r):AS Tryz.prog 20 [G2 p0,.fn 21 [Bm]] [I7 qt rI] (λv st=>v=(.agg (fN r))/\st=[I7 qt rI,HJ r.decls,Oq r]):=by
 unfold FI at h0;refine AS.wk (r0:=(.agg (fN r))) (st0:=[I7 qt rI,HJ r.decls,Oq r,⟨0,30,2,[fN r]⟩]) ?_ (GA (L:=[(0,.agg (fN r))]) (st':=[I7 qt rI,HJ r.decls,Oq r]) [0,1,2] AA (by decide) rfl AA (.raw AA (.deep (AP λ_=>AA) (.deep (AP λ_=>AA) mD))) (.same AA));refine ai Tryz.func20 AA AA AA AA (sr AA λK1 V=>Aw (m:=1) AR AA AA AA AA AA (Aa (Wk.CQ (L:=[(1,.fn 21 [Bm]),(2,fe p0)]) (st':=[I7 qt rI,⟨1,30,2,[]⟩]) (id:=1) rfl qO (IC AA) (.same AA) rfl) (Al (m:=2) AR KW AA AA (dn V AA (sr AA λK2 W=>zm tb 2 AA (bs h0 λo X h0=>BE (v':=(ow 3 0 o)) AR (hb 46) (Cl.Pj X) rfl AA ⟨(AP λ_=>AA),mD⟩ AA AA (zz (.agg [ow 3 0 o,.zc]) (Fo Xg Xm KW AA AA) rfl (Al (m:=4) AR KW AA AA ?_))))))));refine Aq AR Hs AA AA AA AA AA AA qD rfl (dn W AA (AD λK4 Y=>sr AA λK5 Z=>zm tb 2 AA (zl tb AA AA (zq tb AA (dn Z AA (bs h0 λo9 H h0=>?_))))));have M9:∀(I:(List Ad)),o9=I->∀s,Wk 1 s ⟨40,AN [(4,Dh),(5,Ue)],[I7 qt rI,Tu,HJ o,gk o I,Lg I]⟩->K4 s:=by
  intro I hq s hw;subst o9;try dsimp only at h0
  refine Y _ (AJ hw (sr AA λb0 Q=>zq tb AA (Aq AR Hs AA AA AA AA AA AA qD rfl (dn Q AA ?_))));obtain rfl:=Sh.AB h0;exact BG (Exists.intro _ (And.intro ((CP (L:=[(4,Ue)]) (st':=[I7 qt rI,HJ o,Lg I,⟨0,30,2,[[ow 1 0 o,ow 2 0 I]]⟩]) (st1:=[I7 qt rI,HJ o,Lg I,gk o I]) [0,2,4,1] AA AA (.raw AA AA (.deep (AP λ_=>AA) (.deep (AP λ_=>AA) (.raw AA AA .nil)))) (.same AA)).trans (Ao (L:=[(4,Ue)]) (.same AA))) (Ch (x:=.tmp 4) (off:=0) (cs:=[ow 1 0 o,ow 2 0 I]) (vs:=[ow 1 0 o,ow 2 0 I]) Hs AA AA AA qD rfl _ ⟨AA,AA⟩)))
 refine AL (Af (σ:=Int×(List Ad)) (λn v=>CG N qt rI p0 n v.1 v.2=some o9) (λ(G,y)=>⟨40,AN [(1,.fn 21 [.ptr 0 0 0 0]),(4,.ptr 1 0 0 0),(5,.ptr 3 0 0 0),(13,ls Aj p0.AH),(14,i64 (Sh.len p0.AH)),(15,i64 G)],[I7 qt rI,Tu,ro 0 83 3 (Az 116 3) o,⟨0,30,2,[[ow 2 0 o,ow 4 0 y]]⟩,ro 0 54 5 (At 3 3 3 52 97) y]⟩) N (0,[]) H (by refine Wk.trans (HR (id:=4) (st':=[I7 qt rI,⟨1,30,2,[]⟩,Tu,ro 0 83 3 (Az 116 3) o,⟨0,30,2,[[ow 3 0 o,.own 5 0 (List.length ([]:List Ad))]]⟩,ro 0 54 5 (At 3 3 3 52 97) ([]:List Ad)]) (j:=1) rfl AA 54 (size':=5) (by decide) rfl AA AA AA) ?_;exact CP (L:=[(1,.fn 21 [.ptr 0 0 0 0]),(4,.ptr 1 0 0 0),(5,.ptr 3 0 0 0),(13,ls Aj p0.AH),(14,i64 (Sh.len p0.AH)),(15,i64 0)]) (st':=[I7 qt rI,Tu,ro 0 83 3 (Az 116 3) o,⟨0,30,2,[[ow 2 0 o,.own 4 0 (List.length ([]:List Ad))]]⟩,ro 0 54 5 (At 3 3 3 52 97) ([]:List Ad)]) (st1:=[I7 qt rI,Tu,ro 0 83 3 (Az 116 3) o,⟨0,30,2,[[ow 3 0 o,.own 5 0 (List.length ([]:List Ad))]]⟩,ro 0 54 5 (At 3 3 3 52 97) ([]:List Ad)]) [0,2,3,4,5] AA AA (.raw AA AA (.raw AA AA (.deep (AP λ_=>AA) (.raw AA AA (.deep (AP λ_=>AA) .nil))))) (.same AA)) (λ_ hv=>by rw[CG]at hv;cases hv) ?_);rintro n ⟨G,y⟩ H;try dsimp only at H⊢
 rw[CG]at H;refine zr tb AA AA (AD λb1 R=>?_);refine ci H AA ?_ ?_<;>clear H<;>intro b2 H
 ·refine AG (R _ (AD λb3 S=>AL (sr AA λb4 T=>bs H λa U H=>zx GZ U AA AA AA (zq tb AA (Al (m:=5) AR Ni AA AA (Aq AR Nv AA AA AA AA AA AA qG rfl (Aa (Wk.CQ (L:=[(1,.fn 21 [Bm]),(4,Dh),(5,Ue),(7,.Bt (ZZ a) 0),(13,ft p0),(14,gU p0),(15,i64 G)]) (st':=[I7 qt rI,Tu,HJ o,gk o y,Lg y,⟨1,54,5,[]⟩]) (id:=5) rfl (show 1<=5 by decide) (IC AA) (.same AA) rfl) (dn T AA ?_))))))));refine IX (by kernel_rfl) ?_;refine bs H λd K H=>bs H λe M H=>bs H λf O H=>bs H λE P H=>?_;refine MF (f':=20) (listed':=(bm 20 0)) rfl (by kernel_rfl) ?_;refine BL 0 (v:=(.ptr 3 0 0 1)) rfl AA (by kernel_rfl) (by kernel_rfl) (by kernel_rfl) rfl (CU (Ln jF AA AA qP rfl)) ?_;refine BL 2 (v:=(.Bt (ZZ a) 0)) rfl AA (by kernel_rfl) (by kernel_rfl) (by kernel_rfl) rfl (CU (JS iQ AA AA)) ?_;refine BL 3 (v:=(Fs a.params)) rfl AA (by kernel_rfl) (by kernel_rfl) (by kernel_rfl) rfl (KM Ky AA AA) ?_;refine BL 5 (v:=(.Bt (ZZ a) 1)) rfl AA (by kernel_rfl) (by kernel_rfl) (by kernel_rfl) rfl (CU (JS iV AA AA)) ?_;refine BL 6 (v:=(Fs a.Ar)) rfl AA (by kernel_rfl) (by kernel_rfl) (by kernel_rfl) rfl (KM Ky AA AA) ?_;refine BL 8 (v:=(.Bt (ZZ a) 2)) rfl AA (by kernel_rfl) (by kernel_rfl) (by kernel_rfl) rfl (CU (JS jD AA AA)) ?_;refine BL 9 (v:=(i64 a.result)) rfl AA (by kernel_rfl) (by kernel_rfl) (by kernel_rfl) rfl (KM Ie AA AA) ?_;refine BL 10 (v:=(.fn 21 [Bm])) rfl AA (by kernel_rfl) (by kernel_rfl) (by kernel_rfl) rfl (CU (EK AA)) ?_;refine BL 11 (v:=(Wc a)) rfl AA (by kernel_rfl) (by kernel_rfl) (by kernel_rfl) rfl (Hb Nv AA qG rfl) ?_;refine BL 12 (v:=(.Bt (ZZ a) 3)) rfl AA (by kernel_rfl) (by kernel_rfl) (by kernel_rfl) rfl (CU (JS jC AA AA)) ?_;refine BL 13 (v:=(lH a)) rfl AA (by kernel_rfl) (by kernel_rfl) (by kernel_rfl) rfl (Hb Ho AA (show 3+2<=5 by decide) rfl) ?_;refine MI (KU λwQ b=>?_);have q:wQ 0 (bm 20 1048575) ⟨40,AN (SH p0 G []),QG qt rI o E []⟩:=(b _ _ _).2 (by
   refine Jk AA (by kernel_rfl) ?_;refine S _ (AF AA (zm tb 2 AA ?_));exact AE (xi (Sh.w (G+1),E) H (by exact CP (L:=[(1,.fn 21 [Bm]),(4,Dh),(5,Ue),(13,ft p0),(14,gU p0),(15,MO G)]) (st':=[I7 qt rI,Tu,HJ o,gk o E,Lg E]) (st1:=[I7 qt rI,Tu,HJ o,fZ o E,Lg E]) [0,1,3,2,4] AA AA (.raw AA AA (.raw AA AA (.deep (AP λ_=>AA) (.raw AA AA (.deep (AP λ_=>AA) .nil))))) (.same AA))))
  have t:wQ 1 (bm 20 524287) ⟨40,AN (SH p0 G [(36,ow 4 1 E),(37,.ptr 2 0 0 1)]),[I7 qt rI,Tu,fZ o y,HJ o,ro 1 54 5 (At 3 3 3 52 97) E]⟩:=(b _ _ _).2 (by
   refine ya [19] ⟨?_,mD⟩
   ·refine yo 19 ?_;exact Aq AR fD AA AA AA AA AA AA qS rfl (NL b q (by exact QO (L:=(SH p0 G [])) (st':=(QG qt rI o E [])) (.raw AA AA AA (.raw AA AA AA (.raw AA AA AA (.deep AA (AP λ_=>AA) (.deep AA (AP λ_=>AA) .nil))))) (.same AA))))
  have u:wQ 3 (bm 20 131071) ⟨40,AN (SH p0 G [(20,ow 4 0 y),(35,.own 5 0 1)]),QG qt rI o y [⟨0,54,5,[iR d e a.result f]⟩,BQ d,BQ e,HL f]⟩:=(b _ _ _).2 (by
   refine ya [17] ⟨?_,mD⟩
   ·refine yo 17 ?_;have J:=NB P;refine PC (st':=[I7 qt rI,Tu,fZ o y,HJ o,⟨1,54,5,hole E (At 3 3 3 52 97) (Sh.len y) (iR d e a.result f)⟩,⟨0,54,5,[iR d e a.result f]⟩,BQ d,BQ e,HL f]) (c:=(Ad.mk d e a.result f)) AR GZ AA AA AA AA AA AA AA P AA ?_;refine Aa (Wk.take (id:=4) (m:=6) (j:=0) (i:=Sh.len y) (c:=(Ad.mk d e a.result f)) (ys:=d) (encY:=eI) rfl J AA AA AA (by decide) (show 1<=6 by decide) (λ_=>AA) rfl AA) ?_;refine Aa (Wk.take (id:=4) (m:=7) (j:=1) (i:=Sh.len y) (c:=(Ad.mk d e a.result f)) (ys:=e) (encY:=eI) rfl J AA AA AA (by decide) (show 1<=7 by decide) (λ_=>AA) rfl AA) ?_;refine Aa (Wk.take (id:=4) (m:=8) (j:=3) (i:=Sh.len y) (c:=(Ad.mk d e a.result f)) (ys:=f.steps) (encY:=(Bu 3 52 97)) rfl J AA AA AA (by decide) (show 1<=8 by decide) Jp AA AA) ?_;refine Aa (HD (id:=4) (i:=Sh.len y) (c:=(Ad.mk d e a.result f)) rfl J AA AA) (AE ⟨AA,?_⟩);refine HX tb 18 AA (by kernel_rfl) rfl ?_;exact yw b t (by exact Ab [0,1,2,3,4] AA AA (.raw AA AA (.raw AA AA (.raw AA AA (.deep (AP λ_=>AA) (.deep (AP λ_=>AA) .nil))))) (.same AA)))
  have g:wQ 4 (bm 20 65535) ⟨40,AN (SH p0 G [(20,ow 4 0 y),(34,.agg (ga d e a.result f))]),QG qt rI o y [BQ d,BQ e,HL f]⟩:=(b _ _ _).2 (by
   refine ya [16] ⟨?_,mD⟩
   ·refine yo 16 ?_;refine CE (m:=8) (l:=[()]) (enc:=λ_=>(ga d e a.result f)) AR GZ (by decide) rfl AA AA AA AA AA ?_;exact NL b u (by exact CP (L:=(SH p0 G [(20,ow 4 0 y),(35,.own 5 0 1)])) (st':=(QG qt rI o y [⟨0,54,5,[iR d e a.result f]⟩,BQ d,BQ e,HL f])) (st1:=(QG qt rI o y [⟨0,54,5,[ga d e a.result f]⟩,BQ d,BQ e,HL f])) [0,1,2,3,4,8,5,6,7] AA AA (.raw AA AA (.raw AA AA (.raw AA AA (.deep (AP λ_=>AA) (.deep (AP λ_=>AA) (.raw AA AA (.pure (AK λ_=>AA) (.pure (AK λ_=>AA) (.deep (AP An) .nil))))))))) (.same AA)))
  have h:wQ 5 (bm 20 32767) ⟨40,AN (SH p0 G [(20,ow 4 0 y),(23,ow 5 0 d),(26,ow 6 0 e),(28,i64 a.result),(33,.agg (ZQ f))]),QG qt rI o y [BQ d,BQ e,HL f]⟩:=(b _ _ _).2 (by
   refine ya [15] ⟨?_,mD⟩
   ·refine yo 15 ?_;exact zz (.agg (ga d e a.result f)) (Fo fM fB Ni AA AA) rfl (yd b g))
  have k:wQ 6 (bm 20 16383) ⟨40,AN (SH p0 G ((20,ow 4 0 y)::(23,ow 5 0 d)::(26,ow 6 0 e)::bR a.result a [])),QG qt rI o y [BQ d,BQ e]⟩:=(b _ _ _).2 (by
   refine ya [14] ⟨?_,mD⟩
   ·refine yo 14 ?_;refine Rr (rowsP:=[I7 qt rI]) (rows0:=[I7 qt rI]) (rows1:=[I7 qt rI]) (rows2:=[HL f]) (rows1':=[I7 qt rI]) (rows2':=[HL f]) (st':=(QG qt rI o y [BQ d,BQ e,HL f])) (v':=(.agg (ZQ f))) [0] AR AA (hb 21) (ML O) rfl (by decide) rfl AA (.raw AA AA .nil) rfl AA (.raw AA AA .nil) (.deep (AP An) .nil) rfl AA ?_;exact yd b h)
  have p:wQ 7 (bm 20 16255) ⟨40,AN (SH p0 G ((20,ow 4 0 y)::(23,ow 5 0 d)::(25,Fs a.Ar)::bR a.result a [])),QG qt rI o y [BQ d]⟩:=(b _ _ _).2 (by
   refine ya [7] ⟨?_,mD⟩
   ·refine yo 7 ?_;exact BE (v':=(ow 6 0 e)) AR (hb 47) (Bn M) rfl AA ⟨(Ay λ_=>AA),mD⟩ AA AA (yd b k))
  have B:wQ 8 (bm 20 16239) ⟨40,AN (SH p0 G ((20,ow 4 0 y)::(22,Fs a.params)::(25,Fs a.Ar)::bR a.result a [])),QG qt rI o y []⟩:=(b _ _ _).2 (by
   refine ya [4] ⟨?_,mD⟩
   ·refine yo 4 ?_;exact BE (v':=(ow 5 0 d)) AR (hb 47) (Bn K) rfl AA ⟨(Ay λ_=>AA),mD⟩ AA AA (yd b p))
  have z:wQ 6 (bm 20 32765) ⟨40,AN (SH p0 G [(19,.ptr 2 0 0 1),(23,ow 5 0 d),(26,ow 6 0 e),(28,i64 a.result),(33,.agg (ZQ f))]),QG qt rI o y [BQ d,BQ e,HL f]⟩:=(b _ _ _).2 (by
   refine ya [1,15] ⟨?_,?_,mD⟩
   ·exact XC tb b h
   ·refine yo 15 ?_;refine zz (.agg (ga d e a.result f)) (Fo fM fB Ni AA AA) rfl (AE ⟨AA,?_⟩);refine HX tb 1 AA (by kernel_rfl) rfl ?_;exact U5 b g)
  have A:wQ 7 (bm 20 16381) ⟨40,AN (SH p0 G ((19,.ptr 2 0 0 1)::(23,ow 5 0 d)::(26,ow 6 0 e)::bR a.result a [])),QG qt rI o y [BQ d,BQ e]⟩:=(b _ _ _).2 (by
   refine ya [1,14] ⟨?_,?_,mD⟩
   ·exact XC tb b k
   ·refine yo 14 ?_;refine Rr (rowsP:=[I7 qt rI]) (rows0:=[I7 qt rI]) (rows1:=[I7 qt rI]) (rows2:=[HL f]) (rows1':=[I7 qt rI]) (rows2':=[HL f]) (st':=(QG qt rI o y [BQ d,BQ e,HL f])) (v':=(.agg (ZQ f))) [0] AR AA (hb 21) (ML O) rfl (by decide) rfl AA (.raw AA AA .nil) rfl AA (.raw AA AA .nil) (.deep (AP An) .nil) rfl AA ?_;exact yd b z)
  have C:wQ 8 (bm 20 16253) ⟨40,AN (SH p0 G ((19,.ptr 2 0 0 1)::(23,ow 5 0 d)::(25,Fs a.Ar)::bR a.result a [])),QG qt rI o y [BQ d]⟩:=(b _ _ _).2 (by
   refine ya [1,7] ⟨?_,?_,mD⟩
   ·exact XC tb b p
   ·refine yo 7 ?_;exact BE (v':=(ow 6 0 e)) AR (hb 47) (Bn M) rfl AA ⟨(Ay λ_=>AA),mD⟩ AA AA (yd b A))
  have D:wQ 9 (bm 20 16237) ⟨40,AN (SH p0 G ((19,.ptr 2 0 0 1)::(22,Fs a.params)::(25,Fs a.Ar)::bR a.result a [])),QG qt rI o y []⟩:=(b _ _ _).2 (by
   refine ya [1,4] ⟨?_,?_,mD⟩
   ·exact XC tb b B
   ·refine yo 4 ?_;exact BE (v':=(ow 5 0 d)) AR (hb 47) (Bn K) rfl AA ⟨(Ay λ_=>AA),mD⟩ AA AA (yd b C))
  refine (b _ _ _).2 ?_;exact yw b D (by exact CP (L:=(SH p0 G ((19,.ptr 2 0 0 1)::(22,Fs a.params)::(25,Fs a.Ar)::bR a.result a []))) (st':=(QG qt rI o y [])) (st1:=[I7 qt rI,Tu,gk o y,HJ o,Lg y]) [0,1,3,2,4] AA AA (.raw AA AA (.raw AA AA (.raw AA AA (.deep (AP λ_=>AA) (.deep (AP λ_=>AA) .nil))))) (.same AA))
 ·exact Ah (M9 y (Sh.AB H).symm _ (AI AA))
theorem QV {N:Nat}{p0:AT}{r:Bool}(h0:He N p0=some r):AS Tryz.prog 25 [G2 p0] [] (λv st=>v=(.bool r)/\st=[]):=by
 unfold He at h0;refine ai Tryz.func25 AA AA AA AA (sr AA λC g=>Aw (m:=0) AR AA AA AA AA AA (zq tb AA (dn g AA (AD λp h=>sr AA λD i=>zm tb 2 AA (zl tb AA AA (zq tb AA (dn i AA ?_)))))));obtain⟨j,a,h0⟩:=Sh.Av h0;have q:∀(_:Unit),j=Sum.inr ()->∀s,Wk 0 s ⟨17,AN [],[]⟩->p s:=by
  intro _ E s t;subst j;try dsimp only at h0
  refine h _ (AJ t (zr tb AA AA ?_));obtain rfl:=Sh.AB h0;exact rt [(2,.bool true)]
 refine AL (Af (σ:=Int) (λn v=>D4 N p0 n v=some j) (λk=>⟨17,AN [(6,ls Aj p0.AH),(7,i64 (Sh.len p0.AH)),(8,i64 k)],[]⟩) N 0 a (BF _ AA) (λ_ o=>by rw[D4]at o;cases o) ?_);rintro n k a;try dsimp only at a⊢
 rw[D4]at a;refine zr tb AA AA (AD λF l=>?_);refine ci a AA ?_ ?_<;>clear a<;>intro G a
 ·refine AG (l _ (AD λu b=>AL (sr AA λx c=>bs a λy d a=>zx GZ d AA AA AA (zq tb AA (Al (m:=0) AR Ni AA AA (Aq AR Nv AA AA AA AA AA AA qG rfl (dn c AA (sr AA λz e=>zm tb 2 AA ?_))))))));refine bs a λA f a=>zc (hb 58) (Oh f) rfl AA AA (zq tb AA (dn e AA ?_));refine ci a AA ?_ ?_<;>clear a<;>intro B a
  ·refine zr tb AA AA ?_;obtain rfl:=Sh.AB a;try dsimp only[id]at h0
   obtain rfl:=Sh.AB h0;exact rd [(2,.bool false)]
  ·exact AG (b _ (AF AA (zm tb 2 AA (AE (xi (Sh.w (k+1)) a (BF _ AA))))))
 ·exact Ah (q () (Sh.AB a).symm _ (AI AA))
theorem NK {N:Nat}{p0:AT}{r:AT×Bool}(h0:HQ N p0=some r):AS Tryz.prog 7 [G2 p0] [] (λv st=>v=(.DX [.agg [ow 0 0 r.1.decls,ow 1 0 r.1.AH],.bool r.2])/\st=[HJ r.1.decls,Lg r.1.AH]):=by
 unfold HQ at h0;refine AS.wk (r0:=(.DX [.agg [ow 0 0 r.1.decls,ow 1 0 r.1.AH],.bool r.2])) (st0:=(ko r.1.decls r.1.AH)) ?_ (GA (L:=[(0,.DX [.agg [ow 0 0 r.1.decls,ow 1 0 r.1.AH],.bool r.2])]) (st':=[HJ r.1.decls,Lg r.1.AH]) [0,1] AA (by decide) rfl AA (.deep (AP λ_=>AA) (.deep (AP λ_=>AA) mD)) (.same AA));refine ai Tryz.func7 AA AA AA AA (sr AA λG o=>Aw (m:=0) AR AA AA AA AA AA (Al (m:=1) AR KW AA AA (zq tb AA (dn o AA (AD λH p=>sr AA λI q=>zq tb AA (bs h0 λw s h0=>zc (hb 18) (TK s) rfl AA AA (zq tb AA ?_)))))));refine dn q AA ?_;refine ci h0 AA ?_ ?_<;>clear h0<;>intro y h0
 ·have J:w=false:=by simpa using y
  refine sr AA λK t=>zz (.agg [.zc,.zc]) (Fo Xg Xm KW AA AA) rfl (Aq AR Hs AA AA AA AA AA AA qD rfl (zq tb AA (dn t AA ?_)));obtain rfl:=Sh.AB h0;exact BG (Exists.intro _ (And.intro ((((HR (id:=1) (st':=[gi p0.decls p0.AH,⟨0,30,2,[[kt,.zc]]⟩,Z2]) (j:=0) rfl AA 83 (size':=3) (by decide) rfl AA AA AA).trans (HR (id:=1) (st':=[gi p0.decls p0.AH,⟨0,30,2,[[kt,iI]]⟩,Z2,du]) (j:=1) rfl AA 54 (size':=5) (by decide) rfl AA AA AA)).trans (CP (L:=[(2,G6),(3,.bool false)]) (st':=[Z2,du,⟨0,30,2,[eY]⟩]) (st1:=[Z2,du,⟨0,30,2,[[kt,iI]]⟩]) [2,3,1] AA AA (.deep (AP λ_=>AA) (.deep (AP λ_=>AA) (.raw AA AA .nil))) (.same AA))).trans (Ao (L:=[(2,G6),(3,.bool false)]) (.same AA))) (Ch (x:=.tmp 2) (off:=0) (cs:=eY) (vs:=eY) Hs AA AA AA qD rfl _ ⟨AA,AA⟩)))
 ·have M:w=true:=by simpa using y
  refine AG (p _ (sr AA λO u=>zq tb AA (bs h0 λb d h0=>zc (v':=(.DX [NS b.1,.bool b.2])) (hb 19) (Me d) rfl AA AA (zm tb 3 AA (Al (m:=2) AR XS AA AA (Aq AR S5 AA AA AA AA AA AA qD rfl (zq tb AA (dn u AA (sr AA λz e=>zq tb AA ?_)))))))));refine zz (.fn 21 [G6]) (fm AA) rfl (bs h0 λa f h0=>?_);refine Oa (rowsP:=[Nc b.1]) (rows0:=[Nc b.1]) (rows1:=[Nc b.1]) (rows2:=[HJ a.decls,Oq a]) (rows1':=[Nc b.1]) (rows2':=[HJ a.decls,Oq a]) (st':=[gi p0.decls p0.AH,Tu,Nc b.1,HJ a.decls,Oq a]) (v':=(.agg [ow 3 0 a.decls,ow 4 0 a.AH])) [2] AR (hb 20) (Mp f) rfl (by decide) rfl AA (.raw AA AA .nil) rfl AA (.raw AA AA .nil) (.deep (AP λ_=>AA) (.deep (AP λ_=>AA) .nil)) rfl AA ?_;refine Al (m:=5) AR KW AA AA (Aq AR Hs AA AA AA AA AA AA qD rfl (dn e AA (AD λA g=>sr AA λB h=>zq tb AA (bs h0 λc i h0=>Fz (v':=(.bool c)) AR (hb 25) (QV i) rfl (.agg (.ownD AA AA (λ_=>AA) (λx=>Fu x) (.ownD AA AA (λ_=>AA) (λx=>EI x) .nil)) .nil) rfl mD AA AA (zq tb AA (dn h AA ?_))))));refine ci h0 AA ?_ ?_<;>clear h0<;>intro k h0
  ·have C:c=false:=by simpa using k
   refine sr AA λD l=>zz (.agg [.zc,.zc]) (Fo Xg Xm KW AA AA) rfl (Aq AR Hs AA AA AA AA AA AA qD rfl (zq tb AA (dn l AA ?_)));obtain rfl:=Sh.AB h0;exact BG (Exists.intro _ (And.intro ((((HR (id:=1) (st':=[gi p0.decls p0.AH,⟨0,30,2,[[kE,.zc]]⟩,Nc b.1,HJ a.decls,Oq a,kW a,Z2]) (j:=0) rfl AA 83 (size':=3) (by decide) rfl AA AA AA).trans (HR (id:=1) (st':=[gi p0.decls p0.AH,⟨0,30,2,[[kE,.own 7 0 (List.length ([]:List Ad))]]⟩,Nc b.1,HJ a.decls,Oq a,kW a,Z2,du]) (j:=1) rfl AA 54 (size':=5) (by decide) rfl AA AA AA)).trans (CP (L:=[(2,G6),(3,.bool false)]) (st':=[Z2,du,⟨0,30,2,[eY]⟩]) (st1:=[Z2,du,⟨0,30,2,[[kE,.own 7 0 (List.length ([]:List Ad))]]⟩]) [6,7,1] AA AA (.deep (AP λ_=>AA) (.deep (AP λ_=>AA) (.raw AA AA .nil))) (.same AA))).trans (Ao (L:=[(2,G6),(3,.bool false)]) (.same AA))) (Ch (x:=.tmp 2) (off:=0) (cs:=eY) (vs:=eY) Hs AA AA AA qD rfl _ ⟨AA,AA⟩)))
  ·have E:c=true:=by simpa using k
   refine AG (g _ (sr AA λF n=>zq tb AA (Aq AR Hs AA AA AA AA AA AA qD rfl (zq tb AA (dn n AA ?_)))));obtain rfl:=Sh.AB h0;exact BG (Exists.intro _ (And.intro ((CP (L:=[(2,G6),(3,.bool true)]) (st':=[HJ a.decls,Oq a,⟨0,30,2,[bz a]⟩]) (st1:=[HJ a.decls,Oq a,kW a]) [3,4,1] AA AA (.deep (AP λ_=>AA) (.deep (AP λ_=>AA) (.raw AA AA .nil))) (.same AA)).trans (Ao (L:=[(2,G6),(3,.bool true)]) (.same AA))) (Ch (x:=.tmp 2) (off:=0) (cs:=(bz a)) (vs:=(bz a)) Hs AA AA AA qD rfl _ ⟨AA,AA⟩)))
theorem KK {N:Nat}{p0:(List Int)}{p1:(List Int)}{r:Bool}(h0:HY N p0 p1=some r):AS Tryz.prog 107 [ls eI p0,ls eI p1] [] (λv st=>v=(.bool r)/\st=[]):=by
 unfold HY at h0;refine ai Tryz.func107 AA AA AA AA (zr tb AA AA (AD λG m=>sr AA λH o=>zq tb AA (zl tb AA AA (zq tb AA (zl tb AA AA (zq tb AA (dn o AA ?_)))))));refine ci h0 AA ?_ ?_<;>clear h0<;>intro t h0
 ·have I:decide ((Sh.len p0)=(Sh.len p1))=false:=by simpa using t
  refine zr tb AA AA ?_;obtain rfl:=Sh.AB h0;exact rt [(4,.bool false)]
 ·have J:decide ((Sh.len p0)=(Sh.len p1))=true:=by simpa using t
  refine AG (m _ (AD λx p=>zr tb AA AA ?_));obtain⟨b,a,h0⟩:=Sh.Av h0;have q:∀(_:Unit),b=Sum.inr ()->∀s,Wk 0 s ⟨26,AN [],[]⟩->x s:=by
   intro _ K s y;subst b;try dsimp only at h0
   refine p _ (AJ y (zr tb AA AA ?_));obtain rfl:=Sh.AB h0;exact rt [(4,.bool true)]
  refine AL (Af (σ:=Int) (λn v=>FQ p0 p1 n v=some b) (λc=>⟨26,AN [(0,ls eI p0),(1,ls eI p1),(5,i64 c)],[]⟩) N 0 a (AI AA) (λ_ u=>by rw[FQ]at u;cases u) ?_);rintro n c a;try dsimp only at a⊢
  rw[FQ]at a;refine AD λz d=>sr AA λA e=>zm tb 2 AA (zl tb AA AA (zq tb AA (dn e AA ?_)));refine ci a AA ?_ ?_<;>clear a<;>intro B a
  ·refine AG (d _ (AD λC f=>AL (AD λD g=>?_)));refine CT (by kernel_rfl) (by kernel_rfl) (by rfl) ?_;iterate 2 refine yq tb rfl ?_
   refine bs a λh i a=>yx BD i AA AA AA ?_;iterate 3 refine yq tb rfl ?_
   refine bs a λj k a=>yx BD k AA AA AA ?_;iterate 2 refine yq tb rfl ?_
   refine BO (g _ ?_);refine ci a AA ?_ ?_<;>clear a<;>intro l a
   ·have E:decide (h=j)=false:=by simpa using l
    refine zr tb AA AA ?_;obtain rfl:=Sh.AB a;try dsimp only[id]at h0
    obtain rfl:=Sh.AB h0;exact rt [(4,.bool false)]
   ·have F:decide (h=j)=true:=by simpa using l
    exact AG (f _ (AF AA (zm tb 3 AA (AE (xi (Sh.w (c+1)) a (AI AA))))))
  ·exact Ah (q () (Sh.AB a).symm _ (AI AA))
theorem WM {N:Nat}{p0 p1:Bh}{r:Bool}(h0:MJ N p0 p1=some r):AS Tryz.prog 141 [.agg (Bv p0),.agg (Bv p1)] [] (λv st=>v=(.bool r)/\st=[]):=by
 unfold MJ at h0;refine ai Tryz.func141 AA AA AA AA (sr AA λg a=>Aw (m:=0) AR AA AA AA AA AA (Aw (m:=1) AR AA AA AA AA AA (zq tb AA (dn a AA (AD λh b=>sr AA λi c=>zm tb 4 AA (bs h0 λe d h0=>zc (hb 107) (KK d) rfl AA AA (zq tb AA ?_)))))));refine dn c AA ?_;refine ci h0 AA ?_ ?_<;>clear h0<;>intro f h0
 ·have j:e=false:=by simpa using f
  refine zr tb AA AA ?_;obtain rfl:=Sh.AB h0;exact rd [(4,.bool false)]
 ·have k:e=true:=by simpa using f
  refine AG (b _ (zr tb AA AA ?_));obtain rfl:=Sh.AB h0;exact rd [(4,.bool true)]
theorem Un {N:Nat}{p0:(List Bh)}{p1:(List Bh)}{r:Bool}(h0:Kq N p0 p1=some r):AS Tryz.prog 106 [ls Bv p0,ls Bv p1] [] (λv st=>v=(.bool r)/\st=[]):=by
 unfold Kq at h0;refine ai Tryz.func106 AA AA AA AA (zr tb AA AA (AD λI m=>sr AA λJ o=>zq tb AA (zl tb AA AA (zq tb AA (zl tb AA AA (zq tb AA (dn o AA ?_)))))));refine ci h0 AA ?_ ?_<;>clear h0<;>intro t h0
 ·have K:decide ((Sh.len p0)=(Sh.len p1))=false:=by simpa using t
  refine zr tb AA AA ?_;obtain rfl:=Sh.AB h0;exact rt [(4,.bool false)]
 ·have L:decide ((Sh.len p0)=(Sh.len p1))=true:=by simpa using t
  refine AG (m _ (AD λx p=>zr tb AA AA ?_));obtain⟨b,a,h0⟩:=Sh.Av h0;have q:∀(_:Unit),b=Sum.inr ()->∀s,Wk 0 s ⟨27,AN [],[]⟩->x s:=by
   intro _ M s y;subst b;try dsimp only at h0
   refine p _ (AJ y (zr tb AA AA ?_));obtain rfl:=Sh.AB h0;exact rt [(4,.bool true)]
  refine AL (Af (σ:=Int) (λn v=>F4 N p0 p1 n v=some b) (λc=>⟨27,AN [(0,ls Bv p0),(1,ls Bv p1),(5,i64 c)],[]⟩) N 0 a (AI AA) (λ_ u=>by rw[F4]at u;cases u) ?_);rintro n c a;try dsimp only at a⊢
  rw[F4]at a;refine AD λz e=>sr AA λA f=>zm tb 2 AA (zl tb AA AA (zq tb AA (dn f AA ?_)));refine ci a AA ?_ ?_<;>clear a<;>intro B a
  ·refine AG (e _ (AD λC g=>AL (AD λD h=>?_)));refine CT (by kernel_rfl) (by kernel_rfl) (by rfl) ?_;iterate 2 refine yq tb rfl ?_
   refine bs a λE i a=>yx KV i AA AA AA ?_;iterate 3 refine yq tb rfl ?_
   refine bs a λF j a=>yx KV j AA AA AA (yq tb AA (bs a λd k a=>CI (v:=(.bool d)) AR (hb 141) (WM k) rfl AA AA (yq tb AA (BO (h _ ?_)))));refine ci a AA ?_ ?_<;>clear a<;>intro l a
   ·have G:d=false:=by simpa using l
    refine zr tb AA AA ?_;obtain rfl:=Sh.AB a;try dsimp only[id]at h0
    obtain rfl:=Sh.AB h0;exact rt [(4,.bool false)]
   ·have H:d=true:=by simpa using l
    exact AG (g _ (AF AA (zm tb 3 AA (AE (xi (Sh.w (c+1)) a (AI AA))))))
  ·exact Ah (q () (Sh.AB a).symm _ (AI AA))
theorem Ui {N:Nat}{p0 p1:Ac}{r:Bool}(h0:Kl N p0 p1=some r):AS Tryz.prog 59 [OJ p0,OJ p1] [] (λv st=>v=(.bool r)/\st=[]):=by
 unfold Kl at h0;refine ai Tryz.func59 AA AA AA AA (sr AA λs g=>Aw (m:=0) AR AA AA AA AA AA (Aw (m:=1) AR AA AA AA AA AA (zq tb AA (dn g AA (AD λt h=>zr tb AA AA ?_)))));refine ci h0 AA ?_ ?_<;>clear h0<;>intro j h0
 ·have u:decide (p0.from_=p1.from_)=false:=by simpa using j
  refine zr tb AA AA ?_;obtain rfl:=Sh.AB h0;exact rd [(4,.bool false)]
 ·have w:decide (p0.from_=p1.from_)=true:=by simpa using j
  refine AG (h _ (AD λx i=>zr tb AA AA ?_));refine ci h0 AA ?_ ?_<;>clear h0<;>intro a h0
  ·have k:decide (p0.to=p1.to)=false:=by simpa using a
   refine zr tb AA AA ?_;obtain rfl:=Sh.AB h0;exact rd [(4,.bool false)]
  ·have l:decide (p0.to=p1.to)=true:=by simpa using a
   refine AG (i _ (AD λn b=>sr AA λo c=>zm tb 4 AA (bs h0 λd e h0=>zc (hb 106) (Un e) rfl AA AA (zq tb AA (dn c AA ?_)))));refine ci h0 AA ?_ ?_<;>clear h0<;>intro f h0
   ·have p:d=false:=by simpa using f
    refine zr tb AA AA ?_;obtain rfl:=Sh.AB h0;exact rd [(4,.bool false)]
   ·have q:d=true:=by simpa using f
    refine AG (b _ (zr tb AA AA ?_));obtain rfl:=Sh.AB h0;exact rd [(4,.bool true)]
theorem TO {N:Nat}{p0:(List Ac)}{p1:(List Ac)}{r:Bool}(h0:J4 N p0 p1=some r):AS Tryz.prog 26 [EG p0,EG p1] [] (λv st=>v=(.bool r)/\st=[]):=by
 unfold J4 at h0;refine ai Tryz.func26 AA AA AA AA (zr tb AA AA (AD λI m=>sr AA λJ o=>zq tb AA (zl tb AA AA (zq tb AA (zl tb AA AA (zq tb AA (dn o AA ?_)))))));refine ci h0 AA ?_ ?_<;>clear h0<;>intro t h0
 ·have K:decide ((Sh.len p0)=(Sh.len p1))=false:=by simpa using t
  refine zr tb AA AA ?_;obtain rfl:=Sh.AB h0;exact rt [(4,.bool false)]
 ·have L:decide ((Sh.len p0)=(Sh.len p1))=true:=by simpa using t
  refine AG (m _ (AD λx p=>zr tb AA AA ?_));obtain⟨b,a,h0⟩:=Sh.Av h0;have q:∀(_:Unit),b=Sum.inr ()->∀s,Wk 0 s ⟨27,AN [],[]⟩->x s:=by
   intro _ M s y;subst b;try dsimp only at h0
   refine p _ (AJ y (zr tb AA AA ?_));obtain rfl:=Sh.AB h0;exact rt [(4,.bool true)]
  refine AL (Af (σ:=Int) (λn v=>Fa N p0 p1 n v=some b) (λc=>⟨27,AN [(0,ls Am p0),(1,ls Am p1),(5,i64 c)],[]⟩) N 0 a (AI AA) (λ_ u=>by rw[Fa]at u;cases u) ?_);rintro n c a;try dsimp only at a⊢
  rw[Fa]at a;refine AD λz e=>sr AA λA f=>zm tb 2 AA (zl tb AA AA (zq tb AA (dn f AA ?_)));refine ci a AA ?_ ?_<;>clear a<;>intro B a
  ·refine AG (e _ (AD λC g=>AL (AD λD h=>?_)));refine CT (by kernel_rfl) (by kernel_rfl) (by rfl) ?_;iterate 2 refine yq tb rfl ?_
   refine bs a λE i a=>yx Dl i AA AA AA ?_;iterate 3 refine yq tb rfl ?_
   refine bs a λF j a=>yx Dl j AA AA AA (yq tb AA (bs a λd k a=>CI (v:=(.bool d)) AR (hb 59) (Ui k) rfl AA AA (yq tb AA (BO (h _ ?_)))));refine ci a AA ?_ ?_<;>clear a<;>intro l a
   ·have G:d=false:=by simpa using l
    refine zr tb AA AA ?_;obtain rfl:=Sh.AB a;try dsimp only[id]at h0
    obtain rfl:=Sh.AB h0;exact rt [(4,.bool false)]
   ·have H:d=true:=by simpa using l
    exact AG (g _ (AF AA (zm tb 3 AA (AE (xi (Sh.w (c+1)) a (AI AA))))))
  ·exact Ah (q () (Sh.AB a).symm _ (AI AA))
theorem Sz {N:Nat}{qn:Block->Block->Option (Bool)}(rM :∀{p0:Block} {p1:Block} {r:Bool},qn p0 p1=some r->AS Tryz.prog 108 [DH p0,DH p1] [] (λv st=>v=(.bool r)/\st=[])){p0:(List Block)}{p1:(List Block)}{r:Bool}(h0:LH N qn p0 p1=some r):AS Tryz.prog 156 [ls Bq p0,ls Bq p1] [] (λv st=>v=(.bool r)/\st=[]):=by
 unfold LH at h0;refine ai Tryz.func156 AA AA AA AA (zr tb AA AA (AD λI m=>sr AA λJ o=>zq tb AA (zl tb AA AA (zq tb AA (zl tb AA AA (zq tb AA (dn o AA ?_)))))));refine ci h0 AA ?_ ?_<;>clear h0<;>intro t h0
 ·have K:decide ((Sh.len p0)=(Sh.len p1))=false:=by simpa using t
  refine zr tb AA AA ?_;obtain rfl:=Sh.AB h0;exact rt [(4,.bool false)]
 ·have L:decide ((Sh.len p0)=(Sh.len p1))=true:=by simpa using t
  refine AG (m _ (AD λx p=>zr tb AA AA ?_));obtain⟨b,a,h0⟩:=Sh.Av h0;have q:∀(_:Unit),b=Sum.inr ()->∀s,Wk 0 s ⟨27,AN [],[]⟩->x s:=by
   intro _ M s y;subst b;try dsimp only at h0
   refine p _ (AJ y (zr tb AA AA ?_));obtain rfl:=Sh.AB h0;exact rt [(4,.bool true)]
  refine AL (Af (σ:=Int) (λn v=>Ef p0 p1 qn n v=some b) (λc=>⟨27,AN [(0,ls Bq p0),(1,ls Bq p1),(5,i64 c)],[]⟩) N 0 a (AI AA) (λ_ u=>by rw[Ef]at u;cases u) ?_);rintro n c a;try dsimp only at a⊢
  rw[Ef]at a;refine AD λz e=>sr AA λA f=>zm tb 2 AA (zl tb AA AA (zq tb AA (dn f AA ?_)));refine ci a AA ?_ ?_<;>clear a<;>intro B a
  ·refine AG (e _ (AD λC g=>AL (AD λD h=>?_)));refine CT (by kernel_rfl) (by kernel_rfl) (by rfl) ?_;iterate 2 refine yq tb rfl ?_
   refine bs a λE i a=>yx JF i AA AA AA ?_;iterate 3 refine yq tb rfl ?_
   refine bs a λF j a=>yx JF j AA AA AA (yq tb AA (bs a λd k a=>CI (v:=(.bool d)) AR (hb 108) (rM k) rfl AA AA (yq tb AA (BO (h _ ?_)))));refine ci a AA ?_ ?_<;>clear a<;>intro l a
   ·have G:d=false:=by simpa using l
    refine zr tb AA AA ?_;obtain rfl:=Sh.AB a;try dsimp only[id]at h0
    obtain rfl:=Sh.AB h0;exact rt [(4,.bool false)]
   ·have H:d=true:=by simpa using l
    exact AG (g _ (AF AA (zm tb 3 AA (AE (xi (Sh.w (c+1)) a (AI AA))))))
  ·exact Ah (q () (Sh.AB a).symm _ (AI AA))
theorem Ur {N:Nat}{qn:Block->Block->Option (Bool)}(rM :∀{p0:Block} {p1:Block} {r:Bool},qn p0 p1=some r->AS Tryz.prog 108 [DH p0,DH p1] [] (λv st=>v=(.bool r)/\st=[])){p0 p1:Step}{r:Bool}(h0:Kv N qn p0 p1=some r):AS Tryz.prog 152 [Mb p0,Mb p1] [] (λv st=>v=(.bool r)/\st=[]):=by
 unfold Kv at h0;refine ai Tryz.func152 AA AA AA AA (sr AA λH o=>Aw (m:=0) AR AA AA AA AA AA (Aw (m:=1) AR AA AA AA AA AA (zq tb AA (dn o AA (AD λI p=>zr tb AA AA ?_)))));refine ci h0 AA ?_ ?_<;>clear h0<;>intro s h0
 ·have J:decide (p0.op=p1.op)=false:=by simpa using s
  refine zr tb AA AA ?_;obtain rfl:=Sh.AB h0;exact rd [(4,.bool false)]
 ·have K:decide (p0.op=p1.op)=true:=by simpa using s
  refine AG (p _ (AD λL q=>zr tb AA AA ?_));refine ci h0 AA ?_ ?_<;>clear h0<;>intro a h0
  ·have t:decide (p0.num=p1.num)=false:=by simpa using a
   refine zr tb AA AA ?_;obtain rfl:=Sh.AB h0;exact rd [(4,.bool false)]
  ·have u:decide (p0.num=p1.num)=true:=by simpa using a
   refine AG (q _ (AD λw b=>zr tb AA AA ?_));refine ci h0 AA ?_ ?_<;>clear h0<;>intro c h0
   ·have x:decide (p0.BB=p1.BB)=false:=by simpa using c
    refine zr tb AA AA ?_;obtain rfl:=Sh.AB h0;exact rd [(4,.bool false)]
   ·have y:decide (p0.BB=p1.BB)=true:=by simpa using c
    refine AG (b _ (AD λz d=>sr AA λA e=>zm tb 4 AA (bs h0 λf g h0=>zc (hb 107) (KK g) rfl AA AA (zq tb AA (dn e AA ?_)))));refine ci h0 AA ?_ ?_<;>clear h0<;>intro h h0
    ·have B:f=false:=by simpa using h
     refine zr tb AA AA ?_;obtain rfl:=Sh.AB h0;exact rd [(4,.bool false)]
    ·have C:f=true:=by simpa using h
     refine AG (d _ (AD λD i=>sr AA λE j=>zm tb 4 AA (bs h0 λk l h0=>zc (hb 156) (Sz rM l) rfl AA AA (zq tb AA (dn j AA ?_)))));refine ci h0 AA ?_ ?_<;>clear h0<;>intro n h0
     ·have F:k=false:=by simpa using n
      refine zr tb AA AA ?_;obtain rfl:=Sh.AB h0;exact rd [(4,.bool false)]
     ·have G:k=true:=by simpa using n
      refine AG (i _ (zr tb AA AA ?_));obtain rfl:=Sh.AB h0;exact rd [(4,.bool true)]
theorem Ty {N:Nat}{qn:Block->Block->Option (Bool)}(rM :∀{p0:Block} {p1:Block} {r:Bool},qn p0 p1=some r->AS Tryz.prog 108 [DH p0,DH p1] [] (λv st=>v=(.bool r)/\st=[])){p0:(List Step)}{p1:(List Step)}{r:Bool}(h0:Lw N qn p0 p1=some r):AS Tryz.prog 142 [ls Bx p0,ls Bx p1] [] (λv st=>v=(.bool r)/\st=[]):=by
 unfold Lw at h0;refine ai Tryz.func142 AA AA AA AA (zr tb AA AA (AD λI m=>sr AA λJ o=>zq tb AA (zl tb AA AA (zq tb AA (zl tb AA AA (zq tb AA (dn o AA ?_)))))));refine ci h0 AA ?_ ?_<;>clear h0<;>intro x h0
 ·have K:decide ((Sh.len p0)=(Sh.len p1))=false:=by simpa using x
  refine zr tb AA AA ?_;obtain rfl:=Sh.AB h0;exact rt [(4,.bool false)]
 ·have L:decide ((Sh.len p0)=(Sh.len p1))=true:=by simpa using x
  refine AG (m _ (AD λz p=>zr tb AA AA ?_));obtain⟨b,a,h0⟩:=Sh.Av h0;have q:∀(_:Unit),b=Sum.inr ()->∀s,Wk 0 s ⟨27,AN [],[]⟩->z s:=by
   intro _ M s A;subst b;try dsimp only at h0
   refine p _ (AJ A (zr tb AA AA ?_));obtain rfl:=Sh.AB h0;exact rt [(4,.bool true)]
  refine AL (Af (σ:=Int) (λn v=>E1 N p0 p1 qn n v=some b) (λc=>⟨27,AN [(0,ls Bx p0),(1,ls Bx p1),(5,i64 c)],[]⟩) N 0 a (AI AA) (λ_ y=>by rw[E1]at y;cases y) ?_);rintro n c a;try dsimp only at a⊢
  rw[E1]at a;refine AD λB e=>sr AA λC f=>zm tb 2 AA (zl tb AA AA (zq tb AA (dn f AA ?_)));refine ci a AA ?_ ?_<;>clear a<;>intro D a
  ·refine AG (e _ (AD λE g=>AL (AD λF h=>?_)));refine CT (by kernel_rfl) (by kernel_rfl) (by rfl) ?_;iterate 2 refine yq tb rfl ?_
   refine bs a λt i a=>yz (Lj t) (E3 DT AA AA i (CK _) rfl) rfl ?_;iterate 3 refine yq tb rfl ?_
   refine bs a λu j a=>yz (Lj u) (E3 DT AA AA j (CK _) rfl) rfl (yq tb AA (bs a λd k a=>CI (v:=(.bool d)) AR (hb 152) (Ur rM k) rfl AA AA (yq tb AA (BO (h _ ?_)))));refine ci a AA ?_ ?_<;>clear a<;>intro l a
   ·have G:d=false:=by simpa using l
    refine zr tb AA AA ?_;obtain rfl:=Sh.AB a;try dsimp only[id]at h0
    obtain rfl:=Sh.AB h0;exact rt [(4,.bool false)]
   ·have H:d=true:=by simpa using l
    exact AG (g _ (AF AA (zm tb 3 AA (AE (xi (Sh.w (c+1)) a (AI AA))))))
  ·exact Ah (q () (Sh.AB a).symm _ (AI AA))
theorem Rt {N:Nat}{qn:Block->Block->Option (Bool)}(rM :∀{p0:Block} {p1:Block} {r:Bool},qn p0 p1=some r->AS Tryz.prog 108 [DH p0,DH p1] [] (λv st=>v=(.bool r)/\st=[])){p0 p1:Block}{r:Bool}(h0:KE N qn p0 p1=some r):AS Tryz.prog 108 [DH p0,DH p1] [] (λv st=>v=(.bool r)/\st=[]):=by
 unfold KE at h0;refine ai Tryz.func108 AA AA AA AA (sr AA λk b=>Aw (m:=0) AR AA AA AA AA AA (Aw (m:=1) AR AA AA AA AA AA (zq tb AA (dn b AA (AD λl c=>sr AA λn d=>zm tb 4 AA (bs h0 λg e h0=>zc (hb 142) (Ty rM e) rfl AA AA (zq tb AA ?_)))))));refine dn d AA ?_;refine ci h0 AA ?_ ?_<;>clear h0<;>intro h h0
 ·have o:g=false:=by simpa using h
  refine zr tb AA AA ?_;obtain rfl:=Sh.AB h0;exact rd [(4,.bool false)]
 ·have p:g=true:=by simpa using h
  refine AG (c _ (AD λq f=>zr tb AA AA ?_));refine ci h0 AA ?_ ?_<;>clear h0<;>intro a h0
  ·have i:decide (p0.result=p1.result)=false:=by simpa using a
   refine zr tb AA AA ?_;obtain rfl:=Sh.AB h0;exact rd [(4,.bool false)]
  ·have j:decide (p0.result=p1.result)=true:=by simpa using a
   refine AG (f _ (zr tb AA AA ?_));obtain rfl:=Sh.AB h0;exact rd [(4,.bool true)]
theorem R0 {N:Nat}:∀(n:Nat),∀{p0:Block} {p1:Block} {r:Bool},Ga N n p0 p1=some r->AS Tryz.prog 108 [DH p0,DH p1] [] (λv st=>v=(.bool r)/\st=[]):=by
 intro n
 induction n with
 | zero=>intro p0 p1 r a;cases a
 | succ n ih=>
  intro p0 p1 r a;rw[Ga]at a;exact Rt (λh=>ih h) a
theorem Tg {N:Nat}:∀{p0:Block} {p1:Block} {r:Bool},Ly N p0 p1=some r->AS Tryz.prog 108 [DH p0,DH p1] [] (λv st=>v=(.bool r)/\st=[]):=by
 intro p0 p1 r a;exact R0 N a
theorem R3 {N:Nat}{p0 p1:Ad}{r:Bool}(h0:Iu N p0 p1=some r):AS Tryz.prog 60 [Wc p0,Wc p1] [] (λv st=>v=(.bool r)/\st=[]):=by
 unfold Iu at h0;refine ai Tryz.func60 AA AA AA AA (sr AA λF l=>Aw (m:=0) AR AA AA AA AA AA (Aw (m:=1) AR AA AA AA AA AA (zq tb AA (dn l AA (AD λG n=>sr AA λH o=>zm tb 4 AA (bs h0 λs p h0=>zc (hb 107) (KK p) rfl AA AA (zq tb AA ?_)))))));refine dn o AA ?_;refine ci h0 AA ?_ ?_<;>clear h0<;>intro t h0
 ·have I:s=false:=by simpa using t
  refine zr tb AA AA ?_;obtain rfl:=Sh.AB h0;exact rd [(4,.bool false)]
 ·have J:s=true:=by simpa using t
  refine AG (n _ (AD λK q=>sr AA λu a=>zm tb 4 AA (bs h0 λb c h0=>zc (hb 107) (KK c) rfl AA AA (zq tb AA (dn a AA ?_)))));refine ci h0 AA ?_ ?_<;>clear h0<;>intro d h0
  ·have w:b=false:=by simpa using d
   refine zr tb AA AA ?_;obtain rfl:=Sh.AB h0;exact rd [(4,.bool false)]
  ·have x:b=true:=by simpa using d
   refine AG (q _ (AD λy e=>zr tb AA AA ?_));refine ci h0 AA ?_ ?_<;>clear h0<;>intro f h0
   ·have z:decide (p0.result=p1.result)=false:=by simpa using f
    refine zr tb AA AA ?_;obtain rfl:=Sh.AB h0;exact rd [(4,.bool false)]
   ·have A:decide (p0.result=p1.result)=true:=by simpa using f
    refine AG (e _ (AD λB g=>sr AA λC h=>zm tb 4 AA (bs h0 λi j h0=>zc (hb 108) (Tg j) rfl AA AA (zq tb AA (dn h AA ?_)))));refine ci h0 AA ?_ ?_<;>clear h0<;>intro k h0
    ·have D:i=false:=by simpa using k
     refine zr tb AA AA ?_;obtain rfl:=Sh.AB h0;exact rd [(4,.bool false)]
    ·have E:i=true:=by simpa using k
     refine AG (g _ (zr tb AA AA ?_));obtain rfl:=Sh.AB h0;exact rd [(4,.bool true)]
end Go.Proofs.YtgiajkaabnbieaaGreat
