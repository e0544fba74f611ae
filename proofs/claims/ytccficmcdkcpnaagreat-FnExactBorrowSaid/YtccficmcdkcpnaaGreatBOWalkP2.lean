import Derived.Test.YtccficmcdkcpnaaGreatBOWalkP1
set_option linter.all false
namespace Go.Proofs.YtccficmcdkcpnaaGreat
open Go Go.Abs RC
attribute [local irreducible] Go.Abs.DI
set_option maxRecDepth 100000
set_option maxHeartbeats 4000000
theorem gR:YE Tryz.prog 185 3=some .i64:=by kernel_rfl
theorem eU:YE Tryz.prog 3 185=some .u64:=by kernel_rfl
theorem OZ:CH Tryz.prog 74=some ⟨75,1,24,[.sl []]⟩:=by kernel_rfl
theorem Tv:CH Tryz.prog 75=some ⟨3,1,8,[.int .i64 0]⟩:=by kernel_rfl
theorem ib:Ic Tryz.prog 30 1=some 1:=by kernel_rfl
theorem iz:Ic Tryz.prog 50 0=some 0:=by kernel_rfl
theorem iJ:Ic Tryz.prog 50 1=some 1:=by kernel_rfl
theorem iS:Ic Tryz.prog 50 2=some 2:=by kernel_rfl
theorem iV:Ic Tryz.prog 50 3=some 3:=by kernel_rfl
theorem gY:B1 Tryz.prog 134=true:=by kernel_rfl
theorem jU:B1 Tryz.prog 28=true:=by kernel_rfl
theorem Za:B1 Tryz.prog 75=true:=by kernel_rfl
theorem iU:CF Tryz.prog 4=some (false,1):=by kernel_rfl
theorem lu:CF Tryz.prog 74=some (false,1):=by kernel_rfl
theorem Qv:CF Tryz.prog 75=some (false,1):=by kernel_rfl
theorem mE:Gz Tryz.prog 4=some [.bool false]:=by kernel_rfl
theorem lU:Gz Tryz.prog 74=some [.zc]:=by kernel_rfl
theorem LY {N:Nat}{rE:Aq->(List Int)->Block->Option (Int)}(rW :∀{p0:Aq} {p1:(List Int)} {p2:Block} {r:Int},rE p0 p1 p2=some r->Ay 65 [UQ p0,ls eI p1,DS p2] [] (i64 r) []){p0:Aq}{p1:(List Int)}{p2:Step}{r:Int×Bool}(h0:BT N rE p0 p1 p2=some r):Ay 120 [UQ p0,ls eI p1,Od p2] [] (Zr r.1 r.2) []:=by
 unfold BT at h0;refine ai Tryz.func120 AA AA AA AA (sr AA λK1 m6=>Az (m:=0) AN AA AA AA AA AA (Az (m:=1) AN AA AA AA AA AA (zm tb 2 AA (dn m6 AA (sr AA λK2 m7=>zm tb 2 AA (zl tb AA AA (bs h0 λl3 m8 h0=>aT (m:=2) (st':=(gO p0 p2 [ro 0 3 1 eI ([]:List Int)])) BH AA AA m8 AA AA (zq tb AA (dn m7 AA (AD λK4 m9=>sr AA λK5 q0=>zm tb 2 AA (zl tb AA AA (zq tb AA (dn q0 AA ?_)))))))))))));obtain⟨o9,a,h0⟩:=Sh.Ar h0;have M9:∀(U:(List Int)),o9=Sum.inr U->∀s,Wk 0 s ⟨233,AM (LS p1 [(8,ow 2 0 U)]),fj p0 p2 U⟩->K4 s:=by
  intro U hq s Q;subst o9;refine m9 _ (AJ Q (AD λt2 d6=>AD λq1 d7=>bs h0 λd8 a h0=>?_));have Z:∀c5,d8=c5->∀s,Wk 0 s ⟨233,AM (LS p1 [(8,ow 2 0 U),(70,.bool c5)]),fj p0 p2 U⟩->q1 s:=by
   intro c5 hq s Q;subst d8;refine d7 _ (AJ Q ?_);refine ci h0 AA ?_ ?_<;>intro t3 h0
   ·refine zr tb AA AA ?_;cases h0;exact rd (gU [])
   ·refine AH (d6 _ (AD λt4 d9=>AK (sr AA λt5 g0=>zm tb 2 AA (bs h0 λt7 g1 h0=>zc (hb 96) (G2 g1) rfl AA AA (zq tb AA (dn g0 AA ?_))))));refine ci h0 AA ?_ ?_<;>intro t8 h0
    ·refine AD λq2 g2=>bs h0 λg3 a h0=>?_;have b3:∀R,g3=R->∀s,Wk 0 s ⟨233,AM [(3,BL),(5,Ei),(8,ow 2 0 U),(11,.bool R)],fj p0 p2 U⟩->q2 s:=by
      intro R hq s Q;subst g3;refine g2 _ (AJ Q (AD λq3 g4=>bs h0 λg5 a h0=>?_));have g6:∀Y,g5=Y->∀s,Wk 0 s ⟨233,AM [(11,.bool Y)],[]⟩->q3 s:=by
       intro Y hq s Q;subst g5;refine g4 _ (AJ Q (zr tb AA AA ?_));cases h0;exact rt [(6,i64 (-1)),(7,.bool Y)]
      refine AD λq4 g7=>bs a λg8 V a=>?_;have c6:∀c7,g8=c7->∀s,Wk 0 s ⟨233,AM [(3,BL),(8,ow 1 0 U),(11,.bool R),(105,.bool c7)],[V2 p0,Bw U]⟩->q4 s:=by
       intro c7 hq s Q;subst g8;refine g7 _ (AJ Q ?_);refine ci a AA ?_ ?_<;>intro t9 a
       ·refine AD λv0 g9=>?_;refine Kv (by kernel_rfl) ?_;refine bs a λh3 c0 a=>bs a λc c1 a=>P4 λwZ b=>?_;have g:wZ 0 (bm 12 4095) ⟨233,AM [(13,.bool c.2)],[]⟩:=(b _ _ _).2 (by
         exact DQ AA (by kernel_rfl) (g9 _ (AG AA (zm tb 3 AA (AE (g6 (!c.2) (Sh.AF a).symm _ (As (L:=[(11,.bool (!c.2))]) (.same AA))))))))
        have f:wZ 2 (bm 12 1023) ⟨233,AM [(12,BL),(113,Rn c.1),(114,.bool c.2)],[fJ]⟩:=(b _ _ _).2 (by
         refine xa [10] ⟨?_,mV⟩
         ·refine xo 10 (Al AN G0 AA AA AA AA AA AA qn rfl (AE ⟨AA,(DG tb 11 AA (by kernel_rfl) rfl ?_)⟩));exact xw b g (by exact Ag [] AA AA .nil (.same AA)))
        have h:wZ 3 (bm 12 511) ⟨233,AM [(113,Rn c.1),(114,.bool c.2)],[]⟩:=(b _ _ _).2 (by
         refine xa [9] ⟨?_,mV⟩
         ·refine xo 9 ?_;exact Aj (m:=0) AN Fy AA AA (xd b f))
        have p:wZ 2 (bm 12 1791) ⟨233,AM [(106,N2 c.1 c.2)],[]⟩:=(b _ _ _).2 (by
         refine xa [8] ⟨?_,mV⟩
         ·refine xo 8 ?_;refine zq tb AA (AE ⟨AA,?_⟩);refine DG tb 11 AA (by kernel_rfl) rfl ?_;exact xt b g)
        have i:wZ 3 (bm 12 767) ⟨233,AM [(12,BL),(106,N2 c.1 c.2),(113,Rn c.1)],[fJ]⟩:=(b _ _ _).2 (by
         refine xa [8,10] ⟨?_,?_,mV⟩
         ·exact xq tb b f
         ·refine xo 10 ?_;exact Al AN G0 AA AA AA AA AA AA qn rfl (jC b p (by exact Ag [] AA AA .nil (.same AA))))
        have y:wZ 4 (bm 12 255) ⟨233,AM [(106,N2 c.1 c.2),(113,Rn c.1)],[]⟩:=(b _ _ _).2 (by
         refine xa [8,9] ⟨?_,?_,mV⟩
         ·exact xq tb b h
         ·refine xo 9 ?_;exact Aj (m:=0) AN Fy AA AA (xd b i))
        have j:wZ 3 (bm 12 895) ⟨233,AM [(12,BL),(106,N2 c.1 c.2),(114,.bool c.2)],[fJ]⟩:=(b _ _ _).2 (by
         refine xa [7] ⟨?_,mV⟩
         ·exact xq tb b f)
        have z:wZ 4 (bm 12 383) ⟨233,AM [(106,N2 c.1 c.2),(114,.bool c.2)],[]⟩:=(b _ _ _).2 (by
         refine xa [7,9] ⟨?_,?_,mV⟩
         ·exact xq tb b h
         ·refine xo 9 ?_;exact Aj (m:=0) AN Fy AA AA (xd b j))
        have k:wZ 4 (bm 12 639) ⟨233,AM [(12,BL),(106,N2 c.1 c.2)],[fJ]⟩:=(b _ _ _).2 (by
         refine xa [7,8] ⟨?_,?_,mV⟩
         ·exact xq tb b i
         ·exact xq tb b j)
        have C:wZ 5 (bm 12 127) ⟨233,AM [(106,N2 c.1 c.2)],[]⟩:=(b _ _ _).2 (by
         refine xa [7,8,9] ⟨?_,?_,?_,mV⟩
         ·exact xq tb b y
         ·exact xq tb b z
         ·refine xo 9 ?_;exact Aj (m:=0) AN Fy AA AA (xd b k))
        have S:wZ 6 (bm 12 543) ⟨233,AM [(12,BL),(108,Df p0.decls),(111,i64 h3)],[fJ]⟩:=(b _ _ _).2 (by
         refine xa [5] ⟨?_,mV⟩
         ·refine xo 5 ?_;refine zc (v':=(N2 c.1 c.2)) (hb 187) (Iu c1) rfl AA AA (AE ⟨AA,?_⟩);refine DG tb 6 AA (by kernel_rfl) rfl ?_;exact xt b k)
        have W:wZ 7 (bm 12 31) ⟨233,AM [(108,Df p0.decls),(111,i64 h3)],[]⟩:=(b _ _ _).2 (by
         refine xa [5,9] ⟨?_,?_,mV⟩
         ·exact xo 5 (zc (v':=(N2 c.1 c.2)) (hb 187) (Iu c1) rfl AA AA (AE ⟨AA,(DG tb 6 AA (by kernel_rfl) rfl (xt b C))⟩))
         ·refine xo 9 ?_;exact Aj (m:=0) AN Fy AA AA (xd b S))
        refine (b _ _ _).2 (DG tb 0 AA (by kernel_rfl) rfl (DG tb 1 AA (by kernel_rfl) rfl (DG tb 2 AA (by kernel_rfl) rfl (Kx 3 (v:=(.ptr 1 0 (Int.toNat 0) 0)) rfl (by kernel_rfl) (by kernel_rfl) (Ca BH AA AA AA AA c0) (VX 4 AA AA (by kernel_rfl) (Ut Jy AA AA (GC c0) rfl) ?_)))));exact xw b W (by exact Ag [] AA AA .nil (.same AA))
       ·exact AH (g6 R (Sh.AF a).symm _ (BD _ AA))
      refine AG AA (zm tb 2 AA ?_);rcases Sh.Ab V with ⟨t,V⟩|⟨t,V⟩
      ·refine zg tb t AA ?_;iterate 3 refine zg tb t rfl ?_
       rcases Sh.Ab V with ⟨D,V⟩|⟨D,V⟩
       ·exact zs D AA (zs D AA (zs D AA (At (v:=(.bool true)) (BI AA AA t) rfl (Ee AA D AA) (zt t AA (AE (c6 true (Sh.AF V).symm _ (Ag [0,2] AA AA (.w (.p .nil)) (.same AA))))))))
       ·exact zg tb D AA (zg tb D AA (zg tb D AA (At (v:=(.bool (decide (p2.op=17)))) (BI AA AA t) rfl (D6 AA D AA) (zt t AA (AE (c6 (decide (p2.op=17)) (Sh.AF V).symm _ (Ag [0,2] AA AA (.w (.p .nil)) (.same AA))))))))
      ·refine zs t AA ?_;iterate 3 refine zs t rfl ?_
       iterate 3 refine zn rfl ?_
       exact zs t AA (zf t AA (AE (c6 false (Sh.AF V).symm _ (Ag [0,2] AA AA (.w (.p .nil)) (.same AA)))))
     refine AG AA (zq tb AA (zz (Fb U) (E9 Hh AA AA AA) rfl (zm tb 2 AA ?_)));rcases Sh.Ab a with ⟨E,a⟩|⟨E,a⟩
     ·refine zg tb E AA (bs a λq5 c2 a=>At (v:=(.ptr 2 0 (Int.toNat 0) 0)) (BI AA AA E) rfl (Ca BH AA AA AA AA c2) (At (v:=(i64 q5)) (BI AA AA E) rfl (DH Jy AA AA (GC c2) rfl) (zg tb E AA (zt E AA (zq tb AA ?_)))));rcases Sh.Ab a with ⟨F,a⟩|⟨F,a⟩
      ·refine zg tb F AA (zg tb F AA (zg tb F AA (zt F AA (zq tb AA ?_))));rcases Sh.Ab a with ⟨G,a⟩|⟨G,a⟩
       ·exact zg tb G AA (zg tb G AA (At (v:=(Yn p2)) (BI AA AA G) rfl (Bo VQ AA) (zg tb G AA (zt G AA (zq tb AA (AE (b3 (decide ((Sh.len p2.kids)=0)) (Sh.AF a).symm _ (AI AA))))))))
       ·refine zs G AA ?_;iterate 3 refine zs G rfl ?_
        exact zf G AA (zq tb AA (AE (b3 false (Sh.AF a).symm _ (AI AA))))
      ·refine zs F AA (zs F AA (zs F AA (zf F AA (zq tb AA ?_))));iterate 4 refine zs rfl rfl ?_
       exact zf AA AA (zq tb AA (AE (b3 false (Sh.AF a).symm _ (AI AA))))
     ·refine zs E AA ?_;iterate 3 refine zs E rfl ?_
      refine zf E AA (zq tb AA ?_);iterate 3 refine zs rfl rfl ?_
      refine zf AA AA (zq tb AA ?_);iterate 4 refine zs rfl rfl ?_
      exact zf AA AA (zq tb AA (AE (b3 false (Sh.AF a).symm _ (AI AA))))
    ·refine zr tb AA AA ?_;refine ci h0 AA ?_ ?_<;>intro v1 h0
     ·refine AD λv2 h4=>AD λq6 h5=>bs h0 λh6 a h0=>?_;have b4:∀c8,h6=c8->∀s,Wk 0 s ⟨233,AM (LS p1 [(141,.bool c8)]),gO p0 p2 []⟩->q6 s:=by
       intro c8 hq s Q;subst h6;refine h5 _ (AJ Q ?_);refine ci h0 AA ?_ ?_<;>intro v3 h0
       ·refine zr tb AA AA ?_;cases h0;exact rd (gU [])
       ·refine AH (h4 _ (AD λv4 h7=>B3 9 (by kernel_rfl) (by kernel_rfl) (by rfl) ?_));iterate 4 refine yq tb rfl ?_
        refine bs h0 λv5 h8 h0=>lJ (enc:=(eS eI)) (u:=[]) AN I4 AA AA AA h8 (Ac λ_=>AA) (bs h0 λb5 h9 h0=>CU (v:=(Zr b5.1 b5.2)) AN (hb 188) (Hj rW h9) rfl AA AA ?_);iterate 3 refine yq tb rfl ?_
        refine BG (zq tb AA (dn h7 AA ?_));cases h0;exact rd [(6,i64 b5.1),(7,.bool b5.2)]
      refine AG AA (zq tb AA (zz (Fb U) (E9 Hh AA AA AA) rfl (zm tb 2 AA ?_)));rcases Sh.Ab a with ⟨H,a⟩|⟨H,a⟩
      ·refine zs H AA ?_;iterate 3 refine zs H rfl ?_
       refine zt H AA (zq tb AA ?_);iterate 3 refine zs rfl rfl ?_
       refine zt AA AA (zq tb AA ?_);iterate 4 refine zs rfl rfl ?_
       exact zt AA AA (AE (b4 true (Sh.AF a).symm _ (Ag [0,1] AA AA (.w (.w .nil)) (.same AA))))
      ·refine zg tb H AA (bs a λq7 c3 a=>At (v:=(.ptr 2 0 (Int.toNat 0) 0)) (BI AA AA H) rfl (Ca BH AA AA AA AA c3) (At (v:=(i64 q7)) (BI AA AA H) rfl (DH Jy AA AA (GC c3) rfl) (zg tb H AA (zf H AA (zq tb AA ?_)))));rcases Sh.Ab a with ⟨I,a⟩|⟨I,a⟩
       ·refine zs I AA (zs I AA (zs I AA (zt I AA (zq tb AA ?_))));iterate 4 refine zs rfl rfl ?_
        exact zt AA AA (AE (b4 true (Sh.AF a).symm _ (Ag [0,1] AA AA (.w (.w .nil)) (.same AA))))
       ·refine zg tb I AA (zg tb I AA (zg tb I AA (zf I AA (zq tb AA ?_))));rcases Sh.Ab a with ⟨J,a⟩|⟨J,a⟩
        ·refine zs J AA ?_;iterate 3 refine zs J rfl ?_
         exact zt J AA (AE (b4 true (Sh.AF a).symm _ (Ag [0,1] AA AA (.w (.w .nil)) (.same AA))))
        ·exact zg tb J AA (zg tb J AA (At (v:=(Yn p2)) (BI AA AA J) rfl (Bo VQ AA) (zg tb J AA (zf J AA (AE (b4 (!decide ((Sh.len p2.kids)=2)) (Sh.AF a).symm _ (Ag [0,1] AA AA (.w (.w .nil)) (.same AA))))))))
     ·refine zr tb AA AA ?_;refine ci h0 AA ?_ ?_<;>intro v6 h0
      ·refine sr AA λv7 k0=>zm tb 3 AA (bs h0 λX k1 h0=>A8 (v':=(ow 3 0 X)) AN (hb 117) (K0 k1) rfl AA ⟨(A9 λ_=>AA),mV⟩ AA AA (zq tb AA (dn k0 AA (AD λv8 k2=>AD λq8 k3=>bs h0 λk4 a h0=>?_))));have b6:∀c9,k4=c9->∀s,Wk 0 s ⟨233,AM (LS p1 [(14,ow 2 0 X),(181,.bool c9)]),gO p0 p2 [SI X]⟩->q8 s:=by
        intro c9 hq s Q;subst k4;refine k3 _ (AJ Q ?_);refine ci h0 AA ?_ ?_<;>intro v9 h0
        ·refine zr tb AA AA ?_;cases h0;exact rd (gU [])
        ·refine AH (k2 _ (sr AA λw0 k5=>zm tb 5 AA (Aa (Wk.Ct (L:=[(182,UQ p0),(183,ls eI p1),(185,ls Bg p2.kids),(186,Jz X)]) (st':=(gO p0 p2 [Pd])) (id:=2) rfl qm (Ac λ_=>AA) ⟨.rfl,.rfl,.rfl,.Ct AA,mV⟩ AA) (bs h0 λb7 k6 h0=>zc (v':=(Zr b7.1 b7.2)) (hb 188) (Hj rW k6) rfl AA AA (zm tb 4 AA (dn k5 AA ?_))))));cases h0;exact rd [(6,i64 b7.1),(7,.bool b7.2)]
       refine Bv (by kernel_rfl) (by kernel_rfl) (by rfl) (yq tb AA (yz (Fb U) (E9 Hh AA AA AA) rfl ?_));iterate 2 refine yq tb rfl ?_
       rcases Sh.Ab a with ⟨K,a⟩|⟨K,a⟩
       ·refine ys K AA ?_;iterate 5 refine ys K rfl ?_
        refine yt K AA (yq tb AA ?_);iterate 3 refine ys rfl rfl ?_
        refine yt AA AA (yq tb AA ?_);iterate 6 refine ys rfl rfl ?_
        exact yt AA AA (BG (b6 true (Sh.AF a).symm _ (Ag [0,1,3] AA AA (.w (.w (.p .nil))) (.same AA))))
       ·refine yg tb K AA (bs a λq9 c4 a=>JY (v:=(.ptr 2 0 (Int.toNat 0) 0)) (BI AA AA K) rfl (Ca BH AA AA AA AA c4) (JY (v:=(i64 q9)) (BI AA AA K) rfl (DH Jy AA AA (GC c4) rfl) ?_));iterate 3 refine yg tb K rfl ?_
        refine yf K AA (yq tb AA ?_);rcases Sh.Ab a with ⟨T,a⟩|⟨T,a⟩
        ·refine ys T AA ?_;iterate 2 refine ys T rfl ?_
         refine yt T AA (yq tb AA ?_);iterate 6 refine ys rfl rfl ?_
         exact yt AA AA (BG (b6 true (Sh.AF a).symm _ (Ag [0,1,3] AA AA (.w (.w (.p .nil))) (.same AA))))
        ·refine yg tb T AA (JY (v:=(Fb X)) (BI AA AA T) rfl (E9 gY AA AA AA) (yg tb T AA (yf T AA (yq tb AA ?_))));rcases Sh.Ab a with ⟨x,a⟩|⟨x,a⟩
         ·refine ys x AA ?_;iterate 5 refine ys x rfl ?_
          exact yt x AA (BG (b6 true (Sh.AF a).symm _ (Ag [0,1,3] AA AA (.w (.w (.p .nil))) (.same AA))))
         ·exact yg tb x AA (yg tb x AA (JY (v:=(Yn p2)) (BI AA AA x) rfl (Bo VQ AA) (yg tb x AA (JY (v:=(Fb X)) (BI AA AA x) rfl (E9 gY AA AA AA) (yg tb x AA (yf x AA (BG (b6 (!decide ((Sh.len p2.kids)=(Sh.len X))) (Sh.AF a).symm _ (Ag [0,1,3] AA AA (.w (.w (.p .nil))) (.same AA))))))))))
      ·refine AD λt0 k7=>bs h0 λk8 a h0=>?_;have b0:∀d1,k8=d1->∀s,Wk 0 s ⟨233,AM [(3,BL),(5,Ei),(8,ow 2 0 U),(190,.bool d1)],fj p0 p2 U⟩->t0 s:=by
        intro d1 hq s Q;subst k8;refine k7 _ (AJ Q ?_);refine ci h0 AA ?_ ?_<;>intro w1 h0
        ·refine zr tb AA AA ?_;cases h0;exact rd (gU [])
        ·refine AH (d9 _ (sr AA λw2 k9=>zm tb 6 AA (Aa (Wk.Ct (L:=[(224,.agg (FE p0)),(226,i64 p2.op),(228,i64 p2.num),(229,ls eI U)]) (st':=[⟨0,65,2,[FE p0]⟩,Tc p2.op p2.num p2.A5 p2.args p2.kids,⟨1,3,1,[]⟩]) (id:=2) rfl qm (Ac λ_=>AA) ⟨.rfl,.rfl,.rfl,.Ct AA,mV⟩ AA) (bs h0 λb8 l0 h0=>zc (v':=(.C7 [i64 b8.1,.bool b8.2])) (hb 189) (Kd l0) rfl AA AA (zm tb 4 AA (dn k9 AA ?_))))));cases h0;exact rd [(6,i64 b8.1),(7,.bool b8.2)]
       refine AG AA (zm tb 2 AA (zl tb AA AA (zm tb 2 AA ?_)));rcases Sh.Ab a with ⟨d,a⟩|⟨d,a⟩
       ·refine zs d AA ?_;iterate 3 refine zs d rfl ?_
        iterate 3 refine zn rfl ?_
        refine zs d AA (zs d AA ?_);iterate 6 refine zn rfl ?_
        refine zs d AA (zs d AA ?_);iterate 9 refine zn rfl ?_
        exact zs d AA (zt d AA (zq tb AA (AE (b0 true (Sh.AF a).symm _ (AI AA)))))
       ·refine zg tb d AA ?_;iterate 3 refine zg tb d rfl ?_
        rcases Sh.Ab a with ⟨M,a⟩|⟨M,a⟩
        ·refine zg tb M AA (zg tb M AA (zg tb M AA (At (v:=(.bool (decide (0<=p2.num)))) (BI AA AA d) rfl (Ee AA M AA) (zg tb d AA ?_))));rcases Sh.Ab a with ⟨O,a⟩|⟨O,a⟩
         ·refine zg tb O AA ?_;iterate 3 refine zg tb O rfl ?_
          refine At (v:=(i64 (Sh.len p0.funcs))) (BI AA AA O) rfl (Bo cG AA) (zg tb O AA (At (v:=(.bool (decide (p2.num<(Sh.len p0.funcs))))) (BI AA AA d) rfl (Ee AA O AA) (zg tb d AA ?_)));rcases Sh.Ab a with ⟨q,a⟩|⟨q,a⟩
          ·refine zg tb q AA ?_;iterate 3 refine zg tb q rfl ?_
           exact bs a λb9 l1 a=>At (v:=(.Bz (Du b9) 0)) (BI AA AA q) rfl (Bi To AA AA l1 AA) (zg tb q AA (zg tb q AA (At (v:=(Fb b9.Ao)) (BI AA AA q) rfl (Bo Hh AA) (zg tb q AA (At (v:=(.bool (decide (0<(Sh.len b9.Ao))))) (BI AA AA d) rfl (Ee AA q AA) (zf d AA (zq tb AA (AE (b0 (decide (0<(Sh.len b9.Ao))) (Sh.AF a).symm _ (AI AA))))))))))
          ·refine zs q AA ?_;iterate 8 refine zs q rfl ?_
           exact At (v:=(.bool false)) (BI AA AA d) rfl (D6 AA q AA) (zf d AA (zq tb AA (AE (b0 false (Sh.AF a).symm _ (AI AA)))))
         ·refine zs O AA ?_;iterate 5 refine zs O rfl ?_
          refine At (v:=(.bool false)) (BI AA AA d) rfl (D6 AA O AA) (zg tb d AA ?_);iterate 9 refine zs rfl rfl ?_
          exact At (v:=(.bool false)) (BI AA AA d) rfl (D6 AA AA AA) (zf d AA (zq tb AA (AE (b0 false (Sh.AF a).symm _ (AI AA)))))
        ·refine zs M AA (zs M AA (zs M AA (At (v:=(.bool false)) (BI AA AA d) rfl (D6 AA M AA) (zg tb d AA ?_))));iterate 6 refine zs rfl rfl ?_
         refine At (v:=(.bool false)) (BI AA AA d) rfl (D6 AA AA AA) (zg tb d AA ?_);iterate 9 refine zs rfl rfl ?_
         exact At (v:=(.bool false)) (BI AA AA d) rfl (D6 AA AA AA) (zf d AA (zq tb AA (AE (b0 false (Sh.AF a).symm _ (AI AA)))))
  refine AG AA (zm tb 4 AA ?_);rcases Sh.Ab a with ⟨e,a⟩|⟨e,a⟩
  ·refine zg tb e AA ?_;iterate 3 refine zg tb e rfl ?_
   rcases Sh.Ab a with ⟨P,a⟩|⟨P,a⟩
   ·refine zs P AA (zs P AA (zs P AA (At (v:=(.bool true)) (BI AA AA e) rfl (Ee AA P AA) (zg tb e AA ?_))));iterate 5 refine zs rfl rfl ?_
    refine At (v:=(.bool true)) (BI AA AA e) rfl (Ee AA AA AA) (zg tb e AA ?_);iterate 7 refine zs rfl rfl ?_
    exact At (v:=(.bool true)) (BI AA AA e) rfl (Ee AA AA AA) (zt e AA (AE (Z true (Sh.AF a).symm _ (AI AA))))
   ·refine zg tb P AA (zg tb P AA (zg tb P AA (At (v:=(.bool (decide (p2.A5<1)))) (BI AA AA e) rfl (D6 AA P AA) (zg tb e AA ?_))));rcases Sh.Ab a with ⟨A,a⟩|⟨A,a⟩
    ·refine zs A AA ?_;iterate 4 refine zs A rfl ?_
     refine At (v:=(.bool true)) (BI AA AA e) rfl (Ee AA A AA) (zg tb e AA ?_);iterate 7 refine zs rfl rfl ?_
     exact At (v:=(.bool true)) (BI AA AA e) rfl (Ee AA AA AA) (zt e AA (AE (Z true (Sh.AF a).symm _ (AI AA))))
    ·refine zg tb A AA (zg tb A AA (zg tb A AA (At (v:=(Fb p1)) (BI AA AA A) rfl (Bo Hh AA) (zg tb A AA (At (v:=(.bool (decide ((Sh.len p1)<p2.A5)))) (BI AA AA e) rfl (D6 AA A AA) (zg tb e AA ?_))))));rcases Sh.Ab a with ⟨B,a⟩|⟨B,a⟩
     ·refine zs B AA ?_;iterate 6 refine zs B rfl ?_
      exact At (v:=(.bool true)) (BI AA AA e) rfl (Ee AA B AA) (zt e AA (AE (Z true (Sh.AF a).symm _ (AI AA))))
     ·refine zg tb B AA ?_;iterate 3 refine zg tb B rfl ?_
      exact bs a λd2 l4 a=>At (v:=(LV d2)) (BI AA AA B) rfl (Bi BH AA AA l4 AA) (zg tb B AA (zg tb B AA (At (v:=(.bool (decide (d2=0)))) (BI AA AA e) rfl (D6 AA B AA) (zt e AA (AE (Z (decide (d2=0)) (Sh.AF a).symm _ (AI AA)))))))
  ·refine zs e AA ?_;iterate 3 refine zs e rfl ?_
   iterate 3 refine zn rfl ?_
   refine zs e AA (zs e AA ?_);iterate 5 refine zn rfl ?_
   refine zs e AA (zs e AA ?_);iterate 7 refine zn rfl ?_
   exact zs e AA (zf e AA (AE (Z false (Sh.AF a).symm _ (AI AA))))
 refine AK (AT (σ:=Int×(List Int)) (λn v=>BF p1 p2 n v.1 v.2=some o9) (λ(t6,l7)=>⟨233,AM [(1,ls eI p1),(3,.ptr 0 0 0 0),(5,.ptr 1 0 0 0),(8,ow 2 0 l7),(20,ls eI p2.args),(21,i64 (Sh.len p2.args)),(22,i64 t6)],[⟨0,65,2,[FE p0]⟩,Tc p2.op p2.num p2.A5 p2.args p2.kids,ro 0 3 1 eI l7]⟩) N (0,[]) a (AI AA) (λ_ hv=>by rw[BF]at hv;cases hv) ?_);rintro n ⟨t6,l7⟩ a;rw[BF]at a;refine zr tb AA AA (AD λw3 l5=>?_);refine ci a AA ?_ ?_<;>intro w4 a
 ·refine AH (l5 _ (AD λw5 l6=>AK (sr AA λw6 l9=>bs a λm0 m1 a=>zx BH m1 AA AA AA (zm tb 2 AA (dn l9 AA (AD λw7 m2=>AD λt1 m3=>bs a λm4 V a=>?_))))));have m5:∀d3,m4=d3->∀s,Wk 0 s ⟨233,AM (LS p1 [(8,ow 2 0 l7),(10,i64 m0),(20,ls eI p2.args),(21,i64 (Sh.len p2.args)),(22,i64 t6),(33,.bool d3)]),fj p0 p2 l7⟩->t1 s:=by
   intro d3 hq s Q;subst m4;refine m3 _ (AJ Q ?_);refine ci a AA ?_ ?_<;>intro w8 a
   ·refine zr tb AA AA ?_;cases a;cases h0;exact rd (gU [])
   ·refine AH (m2 _ (AG AA (zm tb 3 AA (bs a λb1 d4 a=>zx BH d4 AA AA AA (zq tb AA (Cn (m:=3) (l:=[b1]) (enc:=eI) AN BH (by decide) rfl AA AA AA AA AA (bs a λb2 d5 a=>EI (l2:=[b1]) AN BH AA AA AA AA (MQ AA AA) (λ_=>AA) d5 AA (zq tb AA (dn l6 AA (AG AA (zm tb 2 AA ?_)))))))))));exact AE (xi (Sh.w (t6+1),b2) a (by refine Wk.trans (CP (L:=(LS p1 [(8,ow 2 0 b2),(20,ls eI p2.args),(21,i64 (Sh.len p2.args)),(22,MY t6)])) (st':=(gO p0 p2 [Bw b2,YH b1])) (.raw AA AA (.raw AA AA (.pure (Ac λ_=>AA) (.pure (Ac λ_=>AA) .nil)))) (.same AA)) ?_;exact Ag [0,1,2] AA AA (.w (.w (.p .nil))) (.same AA)))
  refine AG AA (zm tb 3 AA ?_);rcases Sh.Ab V with ⟨o,V⟩|⟨o,V⟩
  ·refine zs o AA ?_;iterate 3 refine zs o rfl ?_
   exact zt o AA (AE (m5 true (Sh.AF V).symm _ (AI AA)))
  ·exact zg tb o AA (zg tb o AA (At (v:=(Fb p1)) (BI AA AA o) rfl (Bo Hh AA) (zg tb o AA (zf o AA (AE (m5 (decide ((Sh.len p1)<=m0)) (Sh.AF V).symm _ (AI AA)))))))
 ·exact Ad (M9 l7 (Sh.AF a).symm _ (AI AA))
theorem KK {N:Nat}{rE:Aq->(List Int)->Block->Option (Int)}(rW :∀{p0:Aq} {p1:(List Int)} {p2:Block} {r:Int},rE p0 p1 p2=some r->Ay 65 [UQ p0,ls eI p1,DS p2] [] (i64 r) []){p0:Aq}{p1:(List Int)}{p2:Block}{r:Int}(h0:Cm N rE p0 p1 p2=some r):Ay 65 [UQ p0,ls eI p1,DS p2] [] (i64 r) []:=by
 unfold Cm at h0;refine ai Tryz.func65 AA AA AA AA (sr AA λK1 R=>Az (m:=0) AN AA AA AA AA AA (Az (m:=1) AN AA AA AA AA AA (zq tb AA (dn R AA (sr AA λK2 S=>zq tb AA (bs h0 λZ T h0=>A8 (v':=(ow 2 0 Z)) AN (hb 56) (Ba T) rfl AA ⟨(A9 λ_=>AA),mV⟩ AA AA (zq tb AA (dn S AA (AD λK4 U=>sr AA λK5 V=>zm tb 2 AA (zl tb AA AA (zq tb AA (dn V AA ?_))))))))))));obtain⟨W,b,h0⟩:=Sh.Ar h0;have M9:∀(g:(List Int)),W=Sum.inr g->∀s,Wk 0 s ⟨54,AM [(5,BL),(7,ow 1 0 g)],[WC p2.steps p2.result,Bw g]⟩->K4 s:=by
  intro g hq s k;subst W;refine U _ (AJ k (AD λb0 o=>AD λX p=>bs h0 λq b h0=>?_));have t:∀i,q=i->∀s,Wk 0 s ⟨54,AM [(5,BL),(7,ow 1 0 g),(48,.bool i)],[WC p2.steps p2.result,Bw g]⟩->X s:=by
   intro i hq s k;subst q;refine p _ (AJ k ?_);refine ci h0 AA ?_ ?_<;>intro b1 h0
   ·refine zr tb AA AA ?_;obtain rfl:=Sh.AF h0;exact rd [(6,i64 (-1))]
   ·refine AH (o _ (sr AA λb2 u=>zm tb 3 AA (bs h0 λx h h0=>zz (.ptr 1 0 (Int.toNat p2.result) 0) (Ca BH AA AA AA AA h) rfl (zz (i64 x) (DH Jy AA AA (GC h) rfl) rfl (zq tb AA (dn u AA ?_))))));obtain rfl:=Sh.AF h0;exact rd [(6,i64 x)]
  refine AG AA (zm tb 4 AA ?_);rcases Sh.Ab b with ⟨a,b⟩|⟨a,b⟩
  ·refine zs a AA ?_;iterate 4 refine zs a rfl ?_
   exact zt a AA (AE (t true (Sh.AF b).symm _ (AI AA)))
  ·exact zg tb a AA (zg tb a AA (zg tb a AA (At (v:=(Fb g)) (BI AA AA a) rfl (E9 Hh AA AA AA) (zg tb a AA (zf a AA (AE (t (decide ((Sh.len g)<=p2.result)) (Sh.AF b).symm _ (AI AA))))))))
 refine AK (AT (σ:=Int×(List Int)) (λn v=>A6 N p0 p2 rE n v.1 v.2=some W) (λ(y,z)=>⟨54,AM [(3,.ptr 0 0 0 0),(5,.ptr 1 0 0 0),(7,ow 2 0 z),(15,ls Bk p2.steps),(16,i64 (Sh.len p2.steps)),(17,i64 y)],[⟨0,65,2,[FE p0]⟩,WC p2.steps p2.result,ro 0 3 1 eI z]⟩) N (0,Z) b (AI AA) (λ_ hv=>by rw[A6]at hv;cases hv) ?_);rintro n ⟨y,z⟩ b;rw[A6]at b;refine zr tb AA AA (AD λb3 A=>?_);refine ci b AA ?_ ?_<;>intro b4 b
 ·refine AH (A _ (AD λY B=>?_));obtain⟨C,c,b⟩:=Sh.Ar b;have D:∀(f:(List Int)),C=Sum.inr f->∀s,Wk 0 s ⟨54,AM [(3,BL),(5,Ei),(7,ow 2 0 f),(15,UT p2),(16,Vy p2),(17,i64 y)],[V2 p0,WC p2.steps p2.result,Bw f]⟩->Y s:=by
   intro f hq s k;subst C;exact B _ (AJ k (AG AA (zm tb 2 AA (AE (xi (Sh.w (y+1),f) b (AI AA))))))
  refine AK (sr AA λb5 E=>bs c λe F c=>zz (Jo e) (Cp FM AA AA F (Be _) rfl) rfl (zq tb AA (Aj (m:=3) AN Nk AA AA (Al AN LQ AA AA AA AA AA AA qi rfl (dn E AA (sr AA λb6 G=>zm tb 3 AA (bs c λd H c=>Kf (v':=(Zr d.1 d.2)) AN (hb 120) (LY rW H) rfl (.val AA (.own AA AA (λ_=>AA) (.val AA .nil))) rfl mV AA AA (zm tb 5 AA (dn G AA (AD λb7 I=>zr tb AA AA ?_))))))))));refine ci c AA ?_ ?_<;>intro J c
  ·have b8:d.2=false:=by simpa using J
   refine zr tb AA AA ?_;cases c;cases b;cases h0;exact rd [(6,i64 (-1))]
  ·have b9:d.2=true:=by simpa using J
   refine AH (I _ (sr AA λc0 K=>zm tb 2 AA (bs c λM O c=>zc (hb 96) (G2 O) rfl AA AA (zq tb AA (dn K AA ?_)))));refine ci c AA ?_ ?_<;>intro P c
   ·have c1:M=false:=by simpa using P
    refine AG AA (zm tb 2 AA (Cn (m:=4) (l:=[d.1]) (enc:=eI) AN BH (by decide) rfl AA AA AA AA AA (bs c λj Q c=>EI (l2:=[d.1]) AN BH AA AA AA AA (MQ AA AA) (λ_=>AA) Q AA (zq tb AA ?_))));exact AE (D j (Sh.AF c).symm _ (by refine Wk.trans (CP (L:=[(3,BL),(5,Ei),(7,ow 2 0 j),(15,UT p2),(16,Vy p2),(17,i64 y)]) (st':=[V2 p0,WC p2.steps p2.result,Bw j,Tc e.op e.num e.A5 e.args e.kids,YH d.1]) (.raw AA AA (.raw AA AA (.pure (Ac λ_=>AA) (.raw AA AA (.pure (Ac λ_=>AA) .nil))))) (.same AA)) ?_;exact Ag [0,1,2] AA AA (.w (.w (.p .nil))) (.same AA)))
   ·have c2:M=true:=by simpa using P
    exact AH (D z (Sh.AF c).symm _ (Ag [0,1,2] AA AA (.w (.w (.p .nil))) (.same AA)))
 ·exact Ad (M9 z (Sh.AF b).symm _ (Ag [1,2] AA AA (.w (.p .nil)) (.same AA)))
theorem KI {N:Nat}:∀(n:Nat),∀{p0:Aq} {p1:(List Int)} {p2:Block} {r:Int},B4 N n p0 p1 p2=some r->Ay 65 [UQ p0,ls eI p1,DS p2] [] (i64 r) []:=by
 intro n
 induction n with
 | zero=>intro p0 p1 p2 r a;cases a
 | succ n ih=>
  intro p0 p1 p2 r a;rw[B4]at a;exact KK (λh=>ih h) a
theorem LI {N:Nat}:∀{p0:Aq} {p1:(List Int)} {p2:Block} {r:Int},Bu N p0 p1 p2=some r->Ay 65 [UQ p0,ls eI p1,DS p2] [] (i64 r) []:=by
 intro p0 p1 p2 r a;exact KI N a
theorem Pn {N:Nat}{p0:AL}{r:Bool}(h0:Gs N p0=some r):Ay 22 [Ej p0] [] (.bool r) []:=by
 unfold Gs at h0;refine ai Tryz.func22 AA AA AA AA (sr AA λT z=>Az (m:=0) AN AA AA AA AA AA (zq tb AA (dn z AA (sr AA λU A=>zq tb AA (bs h0 λe B h0=>zc (v':=(.C7 [UQ e.1,.bool e.2])) (hb 32) (QZ B) rfl AA AA (zm tb 3 AA (Aj (m:=1) AN Z9 AA AA (Al AN XG AA AA AA AA AA AA qg rfl (zq tb AA (dn A AA (AD λV C=>zr tb AA AA ?_)))))))))));refine ci h0 AA ?_ ?_<;>intro J h0
 ·have W:e.2=false:=by simpa using J
  refine zr tb AA AA ?_;cases h0;exact rd [(2,.bool false)]
 ·have X:e.2=true:=by simpa using J
  refine AH (C _ (AD λD h=>sr AA λL i=>zm tb 2 AA (zl tb AA AA (zq tb AA (dn i AA ?_)))));obtain⟨f,b,h0⟩:=Sh.Ar h0;have E:∀(_:Unit),f=Sum.inr ()->∀s,Wk 0 s ⟨37,AM [],[]⟩->D s:=by
   intro _ M s F;subst f;refine h _ (AJ F (zr tb AA AA ?_));cases h0;exact rt [(2,.bool true)]
  refine AK (AT (σ:=Int) (λn v=>DL N p0 e n v=some f) (λc=>⟨37,AM [(3,.ptr 0 0 0 0),(15,ls Ah p0.AB),(16,i64 (Sh.len p0.AB)),(17,i64 c)],[⟨0,65,2,[FE e.1]⟩]⟩) N 0 b (Ag [1] AA AA (.w .nil) (.same AA)) (λ_ K=>by rw[DL]at K;cases K) ?_);rintro n c b;rw[DL]at b;refine zr tb AA AA (AD λO j=>?_);refine ci b AA ?_ ?_<;>intro P b
  ·refine AH (j _ (AD λQ k=>AK (sr AA λR l=>bs b λG o b=>zx Ez o AA AA AA (zq tb AA (Aj (m:=1) AN MJ AA AA (Al AN Mo AA AA AA AA AA AA qi rfl (dn l AA (AD λH p=>bs b λq d b=>?_))))))));have t:∀g,q=g->∀s,Wk 0 s ⟨37,AM [(3,BL),(15,UF p0),(16,WJ p0),(17,i64 c),(35,.bool g)],[V2 e.1]⟩->H s:=by
    intro g M s F;subst q;refine p _ (AJ F ?_);refine ci b AA ?_ ?_<;>intro S b
    ·refine zr tb AA AA ?_;cases b;cases h0;exact rd [(2,.bool false)]
    ·exact AH (k _ (AG AA (zm tb 2 AA (AE (xi (Sh.w (c+1)) b (AI AA))))))
   refine Bv (by kernel_rfl) (by kernel_rfl) (by rfl) ?_;iterate 2 refine yq tb rfl ?_
   refine bs d λI u d=>CU (v:=(i64 I)) AN (hb 64) (Sy u) rfl AA AA ?_;iterate 2 refine yq tb rfl ?_
   rcases Sh.Ab d with ⟨a,d⟩|⟨a,d⟩
   ·refine ys a AA ?_;iterate 8 refine ys a rfl ?_
    exact yt a AA (BG (t true (Sh.AF d).symm _ (Ag [0] AA AA (.w .nil) (.same AA))))
   ·refine yg tb a AA ?_;iterate 4 refine yg tb a rfl ?_
    refine bs d λx y d=>CU (v:=(i64 x)) (BI AA AA a) (hb 65) (LI y) rfl AA AA ?_;iterate 3 refine yg tb a rfl ?_
    exact yf a AA (BG (t (!decide (x=G.result)) (Sh.AF d).symm _ (Ag [0] AA AA (.w .nil) (.same AA))))
  ·exact Ad (E () (Sh.AF b).symm _ (BD _ AA))
theorem NL {rq:Bool}{p0:Step}{r:Bool}(h0:Fj rq p0=some r):Ay 121 [Od p0,BL] [Ll rq] (.C7 []) [Ll r]:=by
 unfold Fj at h0;refine ai Tryz.func121 AA AA AA AA (sr AA λe c=>Az (m:=1) AN AA AA AA AA AA (dn c AA (AG AA (zm tb 2 AA ?_))));rcases Sh.Ab h0 with ⟨a,h0⟩|⟨a,h0⟩
 ·refine zg tb a AA (zg tb a AA (bs h0 λf d h0=>zd a (hb 96) (G2 d) rfl AA AA AA (zg tb a AA (zt a AA (zq tb AA ?_)))));rcases Sh.Ab h0 with ⟨b,h0⟩|⟨b,h0⟩
  ·refine zg tb b AA (zg tb b AA (zg tb b AA (zt b AA (Al AN iU AA AA AA AA AA AA ql rfl ?_))));cases h0;exact AE (xr (Ag (L:=[]) (st':=[⟨0,4,1,[[.bool (decide (p0.A5=0))]]⟩]) [0] AA AA (.w .nil) mV))
  ·refine zs b AA (zs b AA (zs b AA (zf b AA (Al AN iU AA AA AA AA AA AA ql rfl ?_))));cases h0;exact AE (xr (Ag (L:=[]) (st':=[⟨0,4,1,[[.bool false]]⟩]) [0] AA AA (.w .nil) mV))
 ·refine zs a AA ?_;iterate 3 refine zs a rfl ?_
  refine zf a AA (zq tb AA ?_);iterate 3 refine zs rfl rfl ?_
  refine zf AA AA (Al AN iU AA AA AA AA AA AA ql rfl ?_);cases h0;exact AE (xr (Ag (L:=[]) (st':=[⟨0,4,1,[[.bool false]]⟩]) [0] AA AA (.w .nil) mV))
theorem Om {N:Nat}{rU:Bool->Block->Option (Bool)}(tM :∀{rq:Bool} {p0:Block} {r:Bool},rU rq p0=some r->Ay 44 [DS p0,.fn 121 [BL]] [Ll rq] (.C7 []) [Ll r]){rq:Bool}{p0:Block}{r:Bool}(h0:Hc N rU rq p0=some r):Ay 44 [DS p0,.fn 121 [BL]] [Ll rq] (.C7 []) [Ll r]:=by
 unfold Hc at h0;refine ai Tryz.func44 AA AA AA AA (sr AA λK1 E=>Az (m:=1) AN AA AA AA AA AA (dn E AA (sr AA λK2 F=>zm tb 2 AA (zl tb AA AA (zq tb AA (dn F AA (Wr λP G=>bs h0 λH b h0=>?_)))))));have Q:∀I,H=I->∀s,Wk 1 s ⟨30,AM [],[Ll I]⟩->P s:=by
  intro I R s J;subst H;refine G _ ?_;cases h0;exact Exists.intro _ (And.intro (J.trans (As (L:=[]) mV)) (And.intro AA AA))
 refine AK (AT (σ:=Int×Bool) (λn v=>CS N p0 rU n v.1 v.2=some H) (λ(j,k)=>⟨30,AM [(1,.fn 121 [.ptr 0 0 0 0]),(9,ls Bk p0.steps),(10,i64 (Sh.len p0.steps)),(11,i64 j)],[Ll k]⟩) N (0,rq) b (Ag [0] AA AA (.w .nil) (.same AA)) (λ_ l=>by rw[CS]at l;cases l) ?_);rintro n ⟨j,k⟩ b;rw[CS]at b;refine zr tb AA AA (AD λK9 K=>?_);refine ci b AA ?_ ?_<;>intro S b
 ·refine AH (K _ (AD λM o=>AK (sr AA λT p=>bs b λa q b=>zz (Jo a) (Cp FM AA AA q (Be _) rfl) rfl (zq tb AA (Aj (m:=1) AN Nk AA AA (Al AN LQ AA AA AA AA AA AA qi rfl (dn p AA (sr AA λU t=>zm tb 2 AA (bs b λd u b=>U9 (rowsP:=[Ll k]) (rows0:=[Ll k]) (rows1:=[Ll d]) (rows2:=[]) (rows1':=[Ll d]) (rows2':=[]) (st':=[Ll d,Tc a.op a.num a.A5 a.args a.kids]) (v':=(.C7 [])) [0] AN AA (hb 121) (NL u) rfl (by decide) rfl AA (.raw AA AA .nil) rfl AA (.raw AA AA .nil) .nil AA AA (dn t AA (sr AA λV x=>zm tb 2 AA (zl tb AA AA (zq tb AA (dn x AA (bs b λg c b=>?_)))))))))))))));have O:∀e,g=e->∀s,Wk 1 s ⟨30,AM [(1,.fn 121 [BL]),(9,UT p0),(10,Vy p0),(11,i64 j)],[Ll e]⟩->M s:=by
   intro e R s J;subst g;exact o _ (AJ J (AG AA (zm tb 2 AA (AE (xi (Sh.w (j+1),e) b (AI AA))))))
  refine AK (AT (σ:=Int×Bool) (λn v=>CQ a rU n v.1 v.2=some g) (λ(h,f)=>⟨30,AM [(1,.fn 121 [.ptr 0 0 0 0]),(9,ls Bk p0.steps),(10,i64 (Sh.len p0.steps)),(11,i64 j),(19,ls Bg a.kids),(20,i64 (Sh.len a.kids)),(21,i64 h)],[Ll f]⟩) N (0,d) c (Ag [0] AA AA (.w .nil) (.same AA)) (λ_ l=>by rw[CQ]at l;cases l) ?_);rintro n ⟨h,f⟩ c;rw[CQ]at c;refine zr tb AA AA (AD λW y=>?_);refine ci c AA ?_ ?_<;>intro X c
  ·exact AH (y _ (AD λY z=>AK (sr AA λZ A=>bs c λB C c=>zx Hs C AA AA AA (zq tb AA (Aj (m:=1) AN MK AA AA (Al AN Jj AA AA AA AA AA AA qg rfl (dn A AA (AG AA (zm tb 2 AA (bs c λi D c=>VR (rows0:=[Ll f]) (rows1:=[Ll i]) (st':=[Ll i,WC B.steps B.result]) (v':=(.C7 [])) [0] AN (hb 44) (tM D) rfl (by decide) rfl AA (.raw AA AA .nil) rfl AA (.raw AA AA .nil) .nil AA AA (dn z AA (AG AA (zm tb 2 AA (AE (xi (Sh.w (h+1),i) c (Ag [0] AA AA (.w .nil) (.same AA)))))))))))))))))
  ·exact Ad (O f (Sh.AF c).symm _ (AI AA))
 ·exact Ad (Q k (Sh.AF b).symm _ (AI AA))
theorem Oc {N:Nat}:∀(n:Nat),∀{rq:Bool} {p0:Block} {r:Bool},E3 N n rq p0=some r->Ay 44 [DS p0,.fn 121 [BL]] [Ll rq] (.C7 []) [Ll r]:=by
 intro n
 induction n with
 | zero=>intro rq p0 r a;cases a
 | succ n ih=>
  intro rq p0 r a;rw[E3]at a;exact Om (λh=>ih h) a
theorem QX {N:Nat}:∀{rq:Bool} {p0:Block} {r:Bool},KY N rq p0=some r->Ay 44 [DS p0,.fn 121 [BL]] [Ll rq] (.C7 []) [Ll r]:=by
 intro rq p0 r a;exact Oc N a
theorem Oy {N:Nat}{p0:Block}{r:Bool}(h0:Gd N p0=some r):Ay 63 [DS p0] [] (.bool r) []:=by
 unfold Gd at h0;refine ai Tryz.func63 AA AA AA AA (sr AA λf a=>Az (m:=0) AN AA AA AA AA AA (zq tb AA (dn a AA (sr AA λg b=>Aj (m:=1) AN mE AA AA (Al AN iU AA AA AA AA AA AA ql rfl (dn b AA (sr AA λh c=>zq tb AA (zz (.fn 121 [Ei]) (XV AA) rfl (bs h0 λd e h0=>VR (rows0:=[⟨0,4,1,[[.bool true]]⟩]) (rows1:=[Ll d]) (st':=[WC p0.steps p0.result,Ll d]) (v':=(.C7 [])) [1] AN (hb 44) (QX e) rfl (by decide) rfl AA (.raw AA AA .nil) rfl AA (.raw AA AA .nil) .nil AA AA (dn c AA (zr tb AA AA ?_)))))))))));obtain rfl:=Sh.AF h0;exact rd [(2,.bool d)]
theorem TE {N:Nat}{p0:AL}{r:Bool}(h0:I9 N p0=some r):Ay 21 [Ej p0] [] (.bool r) []:=by
 unfold I9 at h0;refine ai Tryz.func21 AA AA AA AA (sr AA λM o=>Az (m:=0) AN AA AA AA AA AA (zq tb AA (dn o AA (AD λO p=>sr AA λP q=>zq tb AA (bs h0 λy t h0=>zc (hb 22) (Pn t) rfl AA AA (zq tb AA (dn q AA ?_)))))));refine ci h0 AA ?_ ?_<;>intro z h0
 ·have Q:y=false:=by simpa using z
  refine zr tb AA AA ?_;cases h0;exact rd [(2,.bool false)]
 ·have R:y=true:=by simpa using z
  refine AH (p _ (AD λB u=>sr AA λC d=>zm tb 2 AA (zl tb AA AA (zq tb AA (dn d AA ?_)))));obtain⟨b,a,h0⟩:=Sh.Ar h0;have x:∀(_:Unit),b=Sum.inr ()->∀s,Wk 0 s ⟨20,AM [],[]⟩->B s:=by
   intro _ S s D;subst b;refine u _ (AJ D (zr tb AA AA ?_));cases h0;exact rt [(2,.bool true)]
  refine AK (AT (σ:=Int) (λn v=>FB N p0 n v=some b) (λc=>⟨20,AM [(9,ls Ah p0.AB),(10,i64 (Sh.len p0.AB)),(11,i64 c)],[]⟩) N 0 a (BD _ AA) (λ_ A=>by rw[FB]at A;cases A) ?_);rintro n c a;rw[FB]at a;refine zr tb AA AA (AD λE e=>?_);refine ci a AA ?_ ?_<;>intro F a
  ·refine AH (e _ (AD λG f=>AK (sr AA λH g=>bs a λI h a=>zx Ez h AA AA AA (zq tb AA (Aj (m:=0) AN MJ AA AA (Al AN Mo AA AA AA AA AA AA qi rfl (dn g AA (sr AA λJ i=>zm tb 2 AA (bs a λj k a=>zc (hb 63) (Oy k) rfl AA AA (zq tb AA (dn i AA ?_)))))))))));refine ci a AA ?_ ?_<;>intro l a
   ·have K:j=false:=by simpa using l
    refine zr tb AA AA ?_;cases a;cases h0;exact rd [(2,.bool false)]
   ·have L:j=true:=by simpa using l
    exact AH (f _ (AG AA (zm tb 2 AA (AE (xi (Sh.w (c+1)) a (BD _ AA))))))
  ·exact Ad (x () (Sh.AF a).symm _ (AI AA))
theorem Mh {p0:Int}{r:Bool}(h0:IY p0=some r):Ay 217 [i64 p0] [] (.bool r) []:=by
 unfold IY at h0;refine ai Tryz.func217 AA AA AA AA ?_;iterate 2 refine zr tb rfl rfl ?_
 cases h0;exact rt [(2,.bool (!decide (p0=p0)))]
theorem TD {p0 p1:Int}{r:Bool}(h0:I6 p0 p1=some r):Ay 156 [i64 p0,i64 p1] [] (.bool r) []:=by
 unfold I6 at h0;refine ai Tryz.func156 AA AA AA AA (zr tb AA AA (AD λj e=>bs h0 λi a h0=>?_));have f:∀d,i=d->∀s,Wk 0 s ⟨17,AM [(4,.bool d)],[]⟩->j s:=by
  intro d l s k;subst i;try dsimp only at h0
  refine e _ (AJ k ?_);obtain rfl:=Sh.AF h0;exact rt [(4,.bool d)]
 refine AG AA (zq tb AA (bs a λm g a=>zc (hb 217) (Mh g) rfl AA AA (zq tb AA ?_)));rcases Sh.Ab a with ⟨b,a⟩|⟨b,a⟩
 ·refine zg tb b AA (bs a λn h a=>zd b (hb 217) (Mh h) rfl AA AA AA (zg tb b AA (zt b AA (zq tb AA ?_))));rcases Sh.Ab a with ⟨c,a⟩|⟨c,a⟩
  ·exact zs c AA (zs c AA (zs c AA (zt c AA (zq tb AA (AE (f true (Sh.AF a).symm _ (AI AA)))))))
  ·exact zg tb c AA (zg tb c AA (zg tb c AA (zf c AA (zq tb AA (AE (f (decide (p0<p1)) (Sh.AF a).symm _ (AI AA)))))))
 ·refine zs b AA (zs b AA (zs b AA (zf b AA (zq tb AA ?_))));iterate 3 refine zg tb rfl rfl ?_
  exact zf AA AA (zq tb AA (AE (f (decide (p0<p1)) (Sh.AF a).symm _ (AI AA))))
theorem LM {p0:Int}{r:Bool}(h0:Fz p0=some r):Ay 157 [i64 p0] [] (.bool r) []:=by
 unfold Fz at h0;refine ai Tryz.func157 AA AA AA AA ?_;iterate 2 refine zr tb rfl rfl ?_
 cases h0;exact rt [(2,.bool (!decide (p0=p0)))]
theorem FY {N:Nat}{p0:(List Int)}{p1:Int}{r:Int×Bool}(h0:BW N p0 p1=some r):Ay 92 [ls eI p0,i64 p1] [] (Zr r.1 r.2) []:=by
 unfold BW at h0;refine ai Tryz.func92 AA AA AA AA (zr tb AA AA (sr AA λR y=>zq tb AA (zl tb AA AA (zq tb AA (dn y AA (zr tb AA AA (AD λE z=>bs h0 λA a h0=>?_)))))));have F:∀j,A=j->∀s,Wk 0 s ⟨54,AM [(0,ls eI p0),(1,i64 p1),(6,Fb p0),(7,i64 j)],[]⟩->E s:=by
  intro j G s B;subst A;refine z _ (AJ B (AD λH C=>bs h0 λk a h0=>?_));have e:∀f,k=f->∀s,Wk 0 s ⟨54,AM [(4,i64 j),(5,.bool f)],[]⟩->H s:=by
   intro f G s B;subst k;refine C _ (AJ B ?_);cases h0;exact rt [(4,i64 j),(5,.bool f)]
  refine AG AA (zm tb 5 AA ?_);rcases Sh.Ab a with ⟨b,a⟩|⟨b,a⟩
  ·refine zg tb b AA (zg tb b AA (bs a λl g a=>At (v:=(LV l)) (BI AA AA b) rfl (Bi Tv AA AA g AA) ?_));iterate 4 refine zg tb b rfl ?_
   rcases Sh.Ab a with ⟨c,a⟩|⟨c,a⟩
   ·refine zs c AA ?_;iterate 5 refine zs c rfl ?_
    iterate 2 refine zn rfl ?_
    exact zs c AA (At (v:=(.bool true)) (BI AA AA b) rfl (Ee AA c AA) (zt b AA (zm tb 2 AA (AE (e true (Sh.AF a).symm _ (AI AA))))))
   ·refine zg tb c AA (zg tb c AA (At (v:=(LV l)) (BI AA AA c) rfl (Bi Tv AA AA g AA) (zg tb c AA (bs a λI m a=>zd c (hb 157) (LM m) rfl AA AA AA (zg tb c AA ?_)))));rcases Sh.Ab a with ⟨d,a⟩|⟨d,a⟩
    ·exact zg tb d AA (bs a λi o a=>zd d (hb 157) (LM o) rfl AA AA AA (At (v:=(.bool i)) (BI AA AA c) rfl (Ee AA d AA) (At (v:=(.bool i)) (BI AA AA b) rfl (D6 AA c AA) (zt b AA (zm tb 2 AA (AE (e i (Sh.AF a).symm _ (AI AA))))))))
    ·exact zs d AA (zs d AA (At (v:=(.bool false)) (BI AA AA c) rfl (D6 AA d AA) (At (v:=(.bool false)) (BI AA AA b) rfl (D6 AA c AA) (zt b AA (zm tb 2 AA (AE (e false (Sh.AF a).symm _ (AI AA))))))))
  ·refine zs b AA ?_;iterate 6 refine zs b rfl ?_
   iterate 9 refine zn rfl ?_
   exact zs b AA (zf b AA (zm tb 2 AA (AE (e false (Sh.AF a).symm _ (AI AA)))))
 refine AK (AT (σ:=Int×Int) (λn v=>Au p0 p1 n v.1 v.2=some A) (λ(h,j6)=>⟨54,AM [(0,ls eI p0),(1,i64 p1),(6,i64 (Sh.len p0)),(7,i64 h),(8,i64 j6)],[]⟩) N (0,Sh.len p0) a (AI AA) (λ_ D=>by rw[Au]at D;cases D) ?_);rintro n ⟨h,j6⟩ a;rw[Au]at a;refine AD λJ p=>zr tb AA AA ?_;refine ci a AA ?_ ?_<;>intro K a
 ·refine AH (p _ (AK (sr AA λL q=>zm tb 3 AA (zz (.int .u64 (Sh.wk .u64 (Sh.w (h+j6)))) (eW eU AA) rfl (iO AN AA AA (by decide) (zz (i64 (Sh.wk .i64 (Sh.shr .u64 (Sh.wk .u64 (Sh.w (h+j6))) 1))) (eW gR AA) rfl (zq tb AA (dn q AA (sr AA λM t=>zm tb 2 AA (bs a λO u a=>zx Tv u AA AA AA (zm tb 2 AA (bs a λP x a=>zc (hb 156) (TD x) rfl AA AA (dn t AA ?_)))))))))))));refine ci a AA ?_ ?_<;>intro Q a
  ·exact AG AA (zm tb 3 AA (AE (xi (Sh.w ((Sh.wk .i64 (Sh.shr .u64 (Sh.wk .u64 (Sh.w (h+j6))) 1))+1),j6) a (AI AA))))
  ·exact AG AA (zm tb 2 AA (AE (xi (h,Sh.wk .i64 (Sh.shr .u64 (Sh.wk .u64 (Sh.w (h+j6))) 1)) a (AI AA))))
 ·exact Ad (F h (Sh.AF a).symm _ (AI AA))
theorem J1 {p0:(List Int)}{r:(List Int)}(h0:DM p0=some r):Ay 94 [ls eI p0] [] (ow 0 0 r) [Bw r]:=by
 unfold DM at h0;refine ai Tryz.func94 AA AA AA AA (zr tb AA AA (AD λh c=>sr AA λi a=>zq tb AA ?_));refine SJ AN Za AA (λg=>?_) ?_
 ·subst g;replace h0:some []=some r:=by rw[<- h0];first|rfl|simp[Sh.app]
  refine dn a AA (FC (b:=true) rfl (λ_=>zr tb AA AA ?_) (λq=>nomatch (show true=false from (AA:true=true).symm.trans q)));cases h0;exact BB (Exists.intro _ (And.intro (((Fk (t:=2) rfl 3 (size:=1) (by decide)).trans (As (L:=[(2,Zv)]) (.same AA))).trans (As (L:=[(2,Zv)]) (.same AA))) (And.intro AA AA)))
 ·refine dn a AA (FC (b:=false) rfl (λq=>nomatch (show false=true from (AA:false=false).symm.trans q)) (λ_=>AH (c _ (sr AA λj d=>Cn (m:=0) (l:=([]:List Int)) (enc:=eI) AN Tv (by decide) rfl AA AA AA AA AA (zq tb AA (bs h0 λf e h0=>EI (l2:=p0) AN Tv AA AA AA AA OV (λ_=>AA) e AA (zq tb AA (dn d AA ?_))))))));obtain rfl:=Sh.AF h0;exact BB (xr (CP (L:=[(2,ow 0 0 f)]) (st':=[Bw f]) (.pure (Ac λ_=>AA) .nil) (.same AA)))
theorem PI {N:Nat}{p0:(List Int)}{p1:Int}{r:(List Int)}(h0:F4 N p0 p1=some r):Ay 43 [ls eI p0,i64 p1] [] (ls eI r) []:=by
 unfold F4 at h0;refine ai Tryz.func43 AA AA AA AA (zr tb AA AA (sr AA λj c=>zm tb 2 AA (bs h0 λh d h0=>zc (v':=(Zr h.1 h.2)) (hb 92) (FY d) rfl AA AA (zm tb 5 AA (dn c AA (AD λk e=>zr tb AA AA ?_))))));refine ci h0 AA ?_ ?_<;>intro n h0
 ·refine zr tb AA AA ?_;obtain rfl:=Sh.AF h0;exact rt [(4,ls eI p0)]
 ·refine AH (e _ (sr AA λo f=>zq tb AA (bs h0 λi g h0=>A8 (v':=(ow 0 0 i)) AN (hb 94) (J1 g) rfl AA ⟨(A9 λ_=>AA),mV⟩ AA AA (zm tb 2 AA (Cn (m:=1) (l:=[p1]) (enc:=eI) AN BH (by decide) rfl AA AA AA AA AA (bs h0 λa b h0=>VR (rows0:=[Bw i,YH p1]) (rows1:=[ro 1 3 1 eI a,YH p1]) (st':=[ro 1 3 1 eI a,YH p1]) (v':=(ow 0 1 a)) [0,1] AN (hb 93) (SL b) rfl (by decide) rfl AA (.pure (Ac λ_=>AA) (.pure (Ac λ_=>AA) .nil)) rfl AA (.pure (Ac λ_=>AA) (.pure (Ac λ_=>AA) .nil)) .nil AA AA (zq tb AA (dn f AA ?_))))))));obtain rfl:=Sh.AF h0;exact BB (Exists.intro ⟨21,AM [(4,ls eI a)],[]⟩ (And.intro (by refine Wk.trans (Wk.Ct (L:=[(4,ls eI a)]) (st':=[⟨2,3,1,[]⟩,YH p1]) (id:=0) rfl qq (Ac λ_=>AA) ⟨.Ct AA,mV⟩ AA) ?_;exact Ag [] AA AA .nil (.same AA)) (And.intro AA AA)))
theorem SB {s1:(List (List Int))}{p0:Step}{r:(List (List Int))}(h0:G5 s1 p0=some r):Ay 45 [Od p0,BL] (O8 s1) (.C7 []) (O8 r):=by
 unfold G5 at h0;refine ai Tryz.func45 AA AA AA AA (sr AA λc b=>Az (m:=2) AN AA AA AA AA AA (dn b AA (zr tb AA AA ?_)));refine ci h0 AA ?_ ?_<;>intro d h0
 ·refine AG AA (zm tb 3 AA (bs h0 λe a h0=>zz (.ptr 1 0 (Int.toNat p0.num) 0) (Ca OZ AA AA AA AA a) rfl (iM (st':=[⟨0,74,1,[[ow 1 0 s1]]⟩,ro 0 75 1 (eS eI) (Sh.put s1 p0.num []),Tc p0.op p0.num p0.A5 p0.args p0.kids]) (u:=[]) AN Qv AA AA a AA AA AA AA ?_)));cases h0;exact AE (xi ⟨10,AM [],[⟨0,74,1,[[.own 1 0 (List.length (Sh.put s1 p0.num []))]]⟩,⟨0,75,1,List.map (eS eI) (Sh.put s1 p0.num [])⟩]⟩ (by refine Wk.trans (CB (st:=[⟨0,74,1,[[.own 1 0 (List.length s1)]]⟩,⟨0,75,1,List.map (eS eI) (Sh.put s1 p0.num [])⟩,⟨0,80,5,[[i64 p0.op,i64 p0.num,i64 p0.A5,.sl (List.map eI p0.args),.sl (List.map Bg p0.kids)]]⟩]) (st':=[⟨0,74,1,[[.own 1 0 (List.length (Sh.put s1 p0.num []))]]⟩,⟨0,75,1,List.map (eS eI) (Sh.put s1 p0.num [])⟩,⟨0,80,5,[[i64 p0.op,i64 p0.num,i64 p0.A5,.sl (List.map eI p0.args),.sl (List.map Bg p0.kids)]]⟩]) (by simp only[Sh.Ap])) ?_;refine Wk.trans (Ag (L:=[]) (st':=[⟨0,74,1,[[.own 1 0 (List.length (Sh.put s1 p0.num []))]]⟩,⟨0,75,1,List.map (eS eI) (Sh.put s1 p0.num [])⟩]) [0,1] AA AA (.w (.p .nil)) mV) ?_;exact As (L:=[]) mV) (And.intro AA AA))
 ·cases h0;exact AH (xi _ ((Ag (L:=[]) (st':=(O8 s1)) [0,1] AA AA (.w (.p .nil)) mV).trans (As (L:=[]) mV)) (And.intro AA AA))
theorem Nj {N:Nat}{rQ:(List (List Int))->Block->Option (List (List Int))}(su :∀{s1:(List (List Int))} {p0:Block} {r:(List (List Int))},rQ s1 p0=some r->Ay 44 [DS p0,.fn 45 [BL]] (O8 s1) (.C7 []) (O8 r)){s1:(List (List Int))}{p0:Block}{r:(List (List Int))}(h0:Fo N rQ s1 p0=some r):Ay 44 [DS p0,.fn 45 [BL]] (O8 s1) (.C7 []) (O8 r):=by
 unfold Fo at h0;refine ai Tryz.func44 AA AA AA AA (sr AA λK1 E=>Az (m:=2) AN AA AA AA AA AA (dn E AA (sr AA λK2 F=>zm tb 2 AA (zl tb AA AA (zq tb AA (dn F AA (Wr λR G=>bs h0 λH b h0=>?_)))))));have S:∀I,H=I->∀s,Wk 2 s ⟨30,AM [],O8 I⟩->R s:=by
  intro I T s J;subst H;refine G _ ?_;cases h0;exact Exists.intro _ (And.intro (J.trans (As (L:=[]) mV)) (And.intro AA AA))
 refine AK (AT (σ:=Int×(List (List Int))) (λn v=>BV N p0 rQ n v.1 v.2=some H) (λ(k,j)=>⟨30,AM [(1,.fn 45 [.ptr 0 0 0 0]),(9,ls Bk p0.steps),(10,i64 (Sh.len p0.steps)),(11,i64 k)],[⟨0,74,1,[[ow 1 0 j]]⟩,ro 0 75 1 (eS eI) j]⟩) N (0,s1) b (Ag [0,1] AA AA (.w (.p .nil)) (.same AA)) (λ_ l=>by rw[BV]at l;cases l) ?_);rintro n ⟨k,j⟩ b;rw[BV]at b;refine zr tb AA AA (AD λK9 K=>?_);refine ci b AA ?_ ?_<;>intro U b
 ·refine AH (K _ (AD λM o=>AK (sr AA λV p=>bs b λa q b=>zz (Jo a) (Cp FM AA AA q (Be _) rfl) rfl (zq tb AA (Aj (m:=2) AN Nk AA AA (Al AN LQ AA AA AA AA AA AA qi rfl (dn p AA (sr AA λW t=>zm tb 2 AA (bs b λf u b=>U9 (rowsP:=(O8 j)) (rows0:=(O8 j)) (rows1:=(O8 f)) (rows2:=[]) (rows1':=(O8 f)) (rows2':=[]) (st':=[⟨0,74,1,[[ow 1 0 f]]⟩,ro 0 75 1 (eS eI) f,Tc a.op a.num a.A5 a.args a.kids]) (v':=(.C7 [])) [0,1] AN AA (hb 45) (SB u) rfl (by decide) rfl AA (.raw AA AA (.pure (Ac λ_=>AA) .nil)) rfl AA (.raw AA AA (.pure (Ac λ_=>AA) .nil)) .nil AA AA (dn t AA (sr AA λX x=>zm tb 2 AA (zl tb AA AA (zq tb AA (dn x AA (bs b λh d b=>?_)))))))))))))));have O:∀g,h=g->∀s,Wk 2 s ⟨30,AM [(1,.fn 45 [BL]),(9,UT p0),(10,Vy p0),(11,i64 k)],O8 g⟩->M s:=by
   intro g T s J;subst h;exact o _ (AJ J (AG AA (zm tb 2 AA (AE (xi (Sh.w (k+1),g) b (AI AA))))))
  refine AK (AT (σ:=Int×(List (List Int))) (λn v=>BU a rQ n v.1 v.2=some h) (λ(i,c)=>⟨30,AM [(1,.fn 45 [.ptr 0 0 0 0]),(9,ls Bk p0.steps),(10,i64 (Sh.len p0.steps)),(11,i64 k),(19,ls Bg a.kids),(20,i64 (Sh.len a.kids)),(21,i64 i)],[⟨0,74,1,[[ow 1 0 c]]⟩,ro 0 75 1 (eS eI) c]⟩) N (0,f) d (Ag [0,1] AA AA (.w (.p .nil)) (.same AA)) (λ_ l=>by rw[BU]at l;cases l) ?_);rintro n ⟨i,c⟩ d;rw[BU]at d;refine zr tb AA AA (AD λY y=>?_);refine ci d AA ?_ ?_<;>intro Z d
  ·refine AH (y _ (AD λb0 z=>AK (sr AA λb1 A=>bs d λB C d=>zx Hs C AA AA AA (zq tb AA (Aj (m:=2) AN MK AA AA (Al AN Jj AA AA AA AA AA AA qg rfl (dn A AA (AG AA (zm tb 2 AA (bs d λe D d=>E2 (rowsP:=(dQ c)) (rows0:=(dQ c)) (rows1:=(dQ e)) (rows2:=[]) (rows1':=(dQ e)) (rows2':=[]) (st':=[⟨0,74,1,[[.own 1 0 (List.length e)]]⟩,hZ e,⟨0,48,2,[[.sl (List.map Bk B.steps),i64 B.result]]⟩]) (v':=(.C7 [])) [0,1] AN (hb 44) (su D) rfl (by decide) rfl AA (.raw AA AA (.pure (Ac λ_=>AA) .nil)) rfl AA (.raw AA AA (.pure (Ac λ_=>AA) .nil)) .nil AA AA (λP=>?_)))))))))));have Q:List.length e=List.length c:=by simpa only[mf] using P 1 _ _ rfl rfl rfl
   exact dn z AA (AG AA (zm tb 2 AA (AE (xi (Sh.w (i+1),e) d (Ag [0,1] AA AA (.w (.p .nil)) (.same AA))))))
  ·exact Ad (O c (Sh.AF d).symm _ (AI AA))
 ·exact Ad (S j (Sh.AF b).symm _ (AI AA))
theorem Nd {N:Nat}:∀(n:Nat),∀{s1:(List (List Int))} {p0:Block} {r:(List (List Int))},BY N n s1 p0=some r->Ay 44 [DS p0,.fn 45 [BL]] (O8 s1) (.C7 []) (O8 r):=by
 intro n
 induction n with
 | zero=>intro s1 p0 r a;cases a
 | succ n ih=>
  intro s1 p0 r a;rw[BY]at a;exact Nj (λh=>ih h) a
theorem Of {N:Nat}:∀{s1:(List (List Int))} {p0:Block} {r:(List (List Int))},JV N s1 p0=some r->Ay 44 [DS p0,.fn 45 [BL]] (O8 s1) (.C7 []) (O8 r):=by
 intro s1 p0 r a;exact Nd N a
theorem PQ {p0:Int}{r:Bool}(h0:F5 p0=some r):Ay 95 [i64 p0] [] (.bool r) []:=by
 unfold F5 at h0;refine ai Tryz.func95 AA AA AA AA (zr tb AA AA (AD λi g=>bs h0 λh a h0=>?_));have e:∀f,h=f->∀s,Wk 0 s ⟨17,AM [(2,.bool f)],[]⟩->i s:=by
  intro f k s j;subst h;try dsimp only at h0
  refine g _ (AJ j ?_);obtain rfl:=Sh.AF h0;exact rt [(2,.bool f)]
 refine AG AA (zm tb 3 AA ?_);rcases Sh.Ab a with ⟨b,a⟩|⟨b,a⟩
 ·exact zs b AA (zs b AA (zt b AA (zq tb AA (zs AA AA (zs AA AA (zt AA AA (zq tb AA (zs AA AA (zs AA AA (zt AA AA (zq tb AA (AE (e true (Sh.AF a).symm _ (AI AA))))))))))))))
 ·refine zg tb b AA (zg tb b AA (zf b AA (zq tb AA ?_)));rcases Sh.Ab a with ⟨c,a⟩|⟨c,a⟩
  ·exact zs c AA (zs c AA (zt c AA (zq tb AA (zs AA AA (zs AA AA (zt AA AA (zq tb AA (AE (e true (Sh.AF a).symm _ (AI AA))))))))))
  ·refine zg tb c AA (zg tb c AA (zf c AA (zq tb AA ?_)));rcases Sh.Ab a with ⟨d,a⟩|⟨d,a⟩
   ·exact zs d AA (zs d AA (zt d AA (zq tb AA (AE (e true (Sh.AF a).symm _ (AI AA))))))
   ·exact zg tb d AA (zg tb d AA (zf d AA (zq tb AA (AE (e (decide (p0=11)) (Sh.AF a).symm _ (AI AA))))))
theorem QY {N:Nat}{p0:(List Int)}{p1:Int}{r:Bool}(h0:GN N p0 p1=some r):Ay 78 [ls eI p0,i64 p1] [] (.bool r) []:=by
 unfold GN at h0;refine ai Tryz.func78 AA AA AA AA (zr tb AA AA (sr AA λd a=>zm tb 2 AA (bs h0 λb c h0=>zc (v':=(Zr b.1 b.2)) (hb 92) (FY c) rfl AA AA (zm tb 5 AA (dn a AA (zr tb AA AA ?_))))));cases h0;exact rt [(4,.bool b.2)]
theorem Qf {N:Nat}{rY:Block->Int->(List (List Int))->Option (Bool)}(th :∀{p0:Block} {p1:Int} {p2:(List (List Int))} {r:Bool},rY p0 p1 p2=some r->Ay 48 [DS p0,i64 p1,Jz p2] [] (.bool r) []){p0:Block}{p1:Int}{p2:(List (List Int))}{r:Bool}(h0:Iw N rY p0 p1 p2=some r):Ay 48 [DS p0,i64 p1,Jz p2] [] (.bool r) []:=by
 unfold Iw at h0;refine ai Tryz.func48 AA AA AA AA (sr AA λK1 U=>Az (m:=0) AN AA AA AA AA AA (zq tb AA (dn U AA (AD λK2 V=>zr tb AA AA ?_))));refine ci h0 AA ?_ ?_<;>intro b4 h0
 ·refine zr tb AA AA ?_;cases h0;exact rd [(6,.bool true)]
 ·refine AH (V _ (AD λK6 W=>sr AA λK7 X=>zm tb 2 AA (zl tb AA AA (zq tb AA (dn X AA ?_)))));obtain⟨Y,e,h0⟩:=Sh.Ar h0;have M9:∀(_:Unit),Y=Sum.inr ()->∀s,Wk 0 s ⟨69,AM [],[]⟩->K6 s:=by
   intro _ Z s l;subst Y;refine W _ (AJ l (zr tb AA AA ?_));cases h0;exact rt [(6,.bool false)]
  refine AK (AT (σ:=Int) (λn v=>C8 N p0 p1 p2 rY n v=some Y) (λj=>⟨69,AM [(1,i64 p1),(2,ls (eS eI) p2),(18,ls Bk p0.steps),(19,i64 (Sh.len p0.steps)),(20,i64 j)],[]⟩) N 0 e (BD _ AA) (λ_ k=>by rw[C8]at k;cases k) ?_);rintro n j e;rw[C8]at e;refine zr tb AA AA (AD λb7 u=>?_);refine ci e AA ?_ ?_<;>intro b8 e
  ·refine AH (u _ (AD λb0 x=>AK (sr AA λb9 y=>bs e λa z e=>zz (Jo a) (Cp FM AA AA z (Be _) rfl) rfl (zq tb AA (Aj (m:=0) AN Nk AA AA (Al AN LQ AA AA AA AA AA AA qi rfl (dn y AA (AD λb1 A=>sr AA λc0 B=>zm tb 2 AA (zl tb AA AA (zq tb AA (dn B AA ?_)))))))))));obtain⟨o,b,e⟩:=Sh.Ar e;have b2:∀(_:Unit),o=Sum.inr ()->∀s,Wk 0 s ⟨69,AM [(1,i64 p1),(2,Jz p2),(8,BL),(18,UT p0),(19,Vy p0),(20,i64 j)],[Tc a.op a.num a.A5 a.args a.kids]⟩->b1 s:=by
    intro _ Z s l;subst o;refine A _ (AJ l (sr AA λc1 C=>zm tb 2 AA (zl tb AA AA (zq tb AA (dn C AA ?_)))));obtain⟨p,b,e⟩:=Sh.Ar e;have b3:∀(_:Unit),p=Sum.inr ()->∀s,Wk 0 s ⟨69,AM [(1,i64 p1),(2,Jz p2),(18,UT p0),(19,Vy p0),(20,i64 j)],[]⟩->b0 s:=by
     intro _ Z s l;subst p;exact x _ (AJ l (AG AA (zm tb 2 AA (AE (xi (Sh.w (j+1)) e (AI AA))))))
    refine AK (AT (σ:=Int) (λn v=>C4 a p1 p2 rY n v=some p) (λq=>⟨69,AM [(1,i64 p1),(2,ls (eS eI) p2),(18,ls Bk p0.steps),(19,i64 (Sh.len p0.steps)),(20,i64 j),(57,ls Bg a.kids),(58,i64 (Sh.len a.kids)),(59,i64 q)],[]⟩) N 0 b (BD _ AA) (λ_ k=>by rw[C4]at k;cases k) ?_);rintro n q b;rw[C4]at b;refine zr tb AA AA (AD λc2 D=>?_);refine ci b AA ?_ ?_<;>intro c3 b
    ·refine AH (D _ (AD λc4 E=>AK (sr AA λc5 F=>bs b λc6 G b=>zx Hs G AA AA AA (zq tb AA (Aj (m:=0) AN MK AA AA (Al AN Jj AA AA AA AA AA AA qg rfl (dn F AA (sr AA λc7 H=>zm tb 3 AA (bs b λc8 I b=>zc (hb 48) (th I) rfl AA AA (dn H AA ?_))))))))));refine ci b AA ?_ ?_<;>intro c9 b
     ·refine zr tb AA AA ?_;cases b;cases e;cases h0;exact rd [(6,.bool true)]
     ·exact AH (E _ (AG AA (zm tb 2 AA (AE (xi (Sh.w (q+1)) b (BD _ AA))))))
    ·exact Ad (b3 () (Sh.AF b).symm _ (AI AA))
   refine AK (AT (σ:=Int) (λn v=>C9 N a p1 p2 n v=some o) (λh=>⟨69,AM [(1,i64 p1),(2,ls (eS eI) p2),(8,.ptr 0 0 0 0),(18,ls Bk p0.steps),(19,i64 (Sh.len p0.steps)),(20,i64 j),(25,ls eI a.args),(26,i64 (Sh.len a.args)),(27,i64 h)],[Tc a.op a.num a.A5 a.args a.kids]⟩) N 0 b (AI AA) (λ_ k=>by rw[C9]at k;cases k) ?_);rintro n h b;rw[C9]at b;refine zr tb AA AA (AD λd1 J=>?_);refine ci b AA ?_ ?_<;>intro d2 b
   ·refine AH (J _ (AD λd3 K=>AK (sr AA λd4 L=>zq tb AA (bs b λd5 M b=>zx BH M AA AA AA (zm tb 3 AA (dn L AA (AD λb5 O=>bs b λP f b=>?_)))))));have i:∀t,P=t->∀s,Wk 0 s ⟨69,AM [(1,i64 p1),(2,Jz p2),(8,BL),(18,UT p0),(19,Vy p0),(20,i64 j),(25,ls eI a.args),(26,i64 (Sh.len a.args)),(27,i64 h),(54,.bool t)],[Tc a.op a.num a.A5 a.args a.kids]⟩->b5 s:=by
     intro t Z s l;subst P;refine O _ (AJ l ?_);refine ci b AA ?_ ?_<;>intro d6 b
     ·refine zr tb AA AA ?_;cases b;cases e;cases h0;exact rd [(6,.bool true)]
     ·exact AH (K _ (AG AA (zm tb 2 AA (AE (xi (Sh.w (h+1)) b (AI AA))))))
    refine AG AA (zm tb 4 AA ?_);rcases Sh.Ab f with ⟨g,f⟩|⟨g,f⟩
    ·refine zg tb g AA (zg tb g AA (bs f λd7 Q f=>zd g (hb 95) (PQ Q) rfl AA AA AA (zt g AA (zq tb AA ?_))));rcases Sh.Ab f with ⟨d,f⟩|⟨d,f⟩
     ·refine zg tb d AA ?_;iterate 3 refine zg tb d rfl ?_
      rcases Sh.Ab f with ⟨c,f⟩|⟨c,f⟩
      ·refine zs c AA ?_;iterate 7 refine zs c rfl ?_
       exact At (v:=(.bool true)) (BI AA AA d) rfl (Ee AA c AA) (zt d AA (AE (i true (Sh.AF f).symm _ (AI AA))))
      ·exact zg tb c AA (zg tb c AA (zg tb c AA (bs f λb6 R f=>At (v:=(.Bz ((eS eI) b6) 0)) (BI AA AA c) rfl (Bi OZ AA AA R AA) (zg tb c AA (zg tb c AA (bs f λS T f=>zd c (hb 78) (QY T) rfl AA AA AA (zg tb c AA (At (v:=(.bool (!S))) (BI AA AA d) rfl (D6 AA c AA) (zt d AA (AE (i (!S) (Sh.AF f).symm _ (AI AA))))))))))))
     ·refine zs d AA ?_;iterate 3 refine zs d rfl ?_
      iterate 8 refine zn rfl ?_
      exact zs d AA (zf d AA (AE (i false (Sh.AF f).symm _ (AI AA))))
    ·refine zs g AA (zs g AA (zs g AA (zf g AA (zq tb AA ?_))));iterate 4 refine zs rfl rfl ?_
     iterate 8 refine zn rfl ?_
     exact zs AA AA (zf AA AA (AE (i false (Sh.AF f).symm _ (AI AA))))
   ·exact Ad (b2 () (Sh.AF b).symm _ (AI AA))
  ·exact Ad (M9 () (Sh.AF e).symm _ (AI AA))
theorem QP {N:Nat}:∀(n:Nat),∀{p0:Block} {p1:Int} {p2:(List (List Int))} {r:Bool},EP N n p0 p1 p2=some r->Ay 48 [DS p0,i64 p1,Jz p2] [] (.bool r) []:=by
 intro n
 induction n with
 | zero=>intro p0 p1 p2 r a;cases a
 | succ n ih=>
  intro p0 p1 p2 r a;rw[EP]at a;exact Qf (λh=>ih h) a
theorem Ro {N:Nat}:∀{p0:Block} {p1:Int} {p2:(List (List Int))} {r:Bool},L9 N p0 p1 p2=some r->Ay 48 [DS p0,i64 p1,Jz p2] [] (.bool r) []:=by
 intro p0 p1 p2 r a;exact QP N a
theorem SE {N:Nat}{p0:Int}{zo:(List Int)}{zu:(List Int)}{zw:Int}{xp:(List Step)}{xu:Int}{xx:(List (List Int))}{r:Bool}(h0:Jk N p0 zo zu zw xp xu xx=some r):Ay 47 [i64 p0,iH zo zu zw xp xu,.Bz [Jz xx] 0] [] (.bool r) []:=by
 unfold Jk at h0;refine ai Tryz.func47 AA AA AA AA (zr tb AA AA (sr AA λd a=>zm tb 4 AA (bs h0 λc b h0=>zc (hb 48) (Ro b) rfl AA AA (zm tb 2 AA (dn a AA ?_)))));cases h0;exact rt [(4,.bool (!c))]
theorem Jb {N:Nat}{p0:(List Int)}{sV:(List Int)}{sW:(List Int)}{sX:Int}{sY:(List Step)}{sZ:Int}{sa:(List (List Int))}{r:(List Int)}(h0:Fl N p0 sV sW sX sY sZ sa=some r):Ay 46 [ls eI p0,.fn 47 [iH sV sW sX sY sZ,.Bz [Jz sa] 0]] [] (ow 0 0 r) [Bw r]:=by
 unfold Fl at h0;refine ai Tryz.func46 AA AA AA AA ?_;iterate 2 refine zr tb rfl rfl ?_
 refine AD λG z=>sr AA λQ A=>zq tb AA (zl tb AA AA (zq tb AA (dn A AA (bs h0 λB a h0=>?_))));have H:∀g,B=g->∀s,Wk 0 s ⟨23,AM [(5,ow 0 0 g)],[Bw g]⟩->G s:=by
  intro g I s C;subst B;try dsimp only at h0
  refine z _ (AJ C (zr tb AA AA ?_));obtain rfl:=Sh.AF h0;exact rt [(4,ow 0 0 g)]
 refine AK (AT (σ:=Int×(List Int)) (λn v=>B0 N p0 sV sW sX sY sZ sa n v.1 v.2=some B) (λ(h,f)=>⟨23,AM [(1,.fn 47 [.Bz [ls eI sV,ls eI sW,i64 sX,ls Bk sY,i64 sZ] 0,.Bz [ls (eS eI) sa] 0]),(5,ow 0 0 f),(8,ls eI p0),(9,i64 (Sh.len p0)),(10,i64 h)],[ro 0 3 1 eI f]⟩) N (0,[]) a ((Fk (t:=5) rfl 3 (size:=1) (by decide)).trans (As (L:=[(1,.fn 47 [.Bz [ls eI sV,ls eI sW,i64 sX,ls Bk sY,i64 sZ] 0,.Bz [ls (eS eI) sa] 0]),(5,.own 0 0 (List.length ([]:List Int))),(8,ls eI p0),(9,i64 (Sh.len p0)),(10,i64 0)]) (.same AA))) (λ_ F=>by rw[B0]at F;cases F) ?_);rintro n ⟨h,f⟩ a;rw[B0]at a;refine zr tb AA AA (AD λJ i=>?_);refine ci a AA ?_ ?_<;>intro K a
 ·refine AH (i _ (AD λD j=>bs a λk b a=>?_));have o:∀c,k=c->∀s,Wk 0 s ⟨23,AM [(1,.fn 47 [iH sV sW sX sY sZ,.Bz [Jz sa] 0]),(5,ow 0 0 c),(8,ls eI p0),(9,Fb p0),(10,i64 h)],[Bw c]⟩->D s:=by
   intro c I s C;subst k;exact j _ (AJ C (AG AA (zm tb 2 AA (AE (xi (Sh.w (h+1),c) a (AI AA))))))
  refine AK (sr AA λM p=>bs b λd q b=>zx Tv q AA AA AA (zm tb 2 AA (dn p AA (sr AA λO u=>zm tb 2 AA (bs b λE x b=>QB (v':=(.bool E)) (st':=[Bw f]) AN AA (hb 47) (SE x) rfl AA mV AA AA (dn u AA ?_))))));refine ci b AA ?_ ?_<;>intro P b
  ·refine AG AA (zm tb 2 AA (Cn (m:=1) (l:=[d]) (enc:=eI) AN Tv (by decide) rfl AA AA AA AA AA (bs b λe y b=>EI (l2:=[d]) AN Tv AA AA AA AA (MQ AA AA) (λ_=>AA) y AA (zq tb AA ?_))));exact AE (o e (Sh.AF b).symm _ (by refine Wk.trans (CP (L:=[(1,.fn 47 [iH sV sW sX sY sZ,.Bz [Jz sa] 0]),(5,ow 0 0 e),(8,ls eI p0),(9,Fb p0),(10,i64 h)]) (st':=[Bw e,YH d]) (.pure (Ac λ_=>AA) (.pure (Ac λ_=>AA) .nil)) (.same AA)) ?_;exact Ag [0] AA AA (.p .nil) (.same AA)))
  ·exact AH (o f (Sh.AF b).symm _ (AI AA))
 ·exact Ad (H f (Sh.AF a).symm _ (AI AA))
theorem OS {s0:(List Block)}{p0 r:Step}(h0:G3 s0 p0=some r):Ay 119 [Od p0,ow 0 0 s0] [Lk s0] (.agg (gk r s0)) [Lk s0,Qe r]:=by
 unfold G3 at h0;refine BJ.wk (r0:=(.agg (gk r s0))) (st0:=[Lk s0,Qe r,⟨0,80,5,[gk r s0]⟩]) (ai Tryz.func119 AA AA AA AA (sr AA λf b=>Az (m:=1) AN AA AA AA AA AA (Aj (m:=2) AN Nk AA AA (dn b AA (sr AA λg c=>zm tb 2 AA (bs h0 λa d h0=>A8 (v':=(ow 3 0 a)) AN (hb 56) (Ba d) rfl AA ⟨(A9 λ_=>AA),mV⟩ AA AA (zm tb 2 AA (Al AN KL AA AA AA AA AA AA (show 3+1<=5 by decide) rfl (zq tb AA (Al AN fL AA AA AA AA AA AA rA rfl (dn c AA (sr AA λh e=>zq tb AA (Al AN LQ AA AA AA AA AA AA qi rfl (dn e AA ?_)))))))))))))) (GQ (L:=[(0,.agg (gk r s0))]) (st':=[Lk s0,Qe r]) [0,1] AA (by decide) rfl AA (.deep (AS λ_=>AA) (.pure (Ac λ_=>AA) mV)) (.same AA));cases h0;exact BB ⟨_,((CC (L:=[(4,Jh)]) (st':=[Lk s0,Bw a,⟨0,80,5,[kj p0 a s0]⟩]) (st1:=[Lk s0,Bw a,⟨0,80,5,[[i64 p0.op,i64 p0.num,i64 p0.A5,ow 3 0 a,ow 0 0 s0]]⟩]) [0,3,2] AA AA (.deep (AS λ_=>AA) (.p (.w .nil))) (.same AA)).trans (As (L:=[(4,Jh)]) (.same AA))),Cz (x:=.tmp 4) (off:=0) (cs:=(kj p0 a s0)) (vs:=(kj p0 a s0)) LQ AA AA AA qi rfl _ ⟨AA,AA⟩⟩
theorem Oh {N:Nat}{rL:Block->Option (Block)}(sE :∀{p0:Block} {r:Block},rL p0=some r->Ay 50 [DS p0] [] (OC r) [KJ r]){p0 r:Step}(h0:Ge N rL p0=some r):Ay 97 [Od p0,.fn 50 []] [] (.agg (Zp r)) [Qe r,Zt r]:=by
 unfold Ge at h0;refine BJ.wk (r0:=(.agg (Zp r))) (st0:=[Qe r,Zt r,⟨0,80,5,[Zp r]⟩]) (ai Tryz.func97 AA AA AA AA (sr AA λR C=>Az (m:=0) AN AA AA AA AA AA (Aj (m:=1) AN Nk AA AA (dn C AA (zr tb AA AA (AD λI D=>sr AA λS E=>zm tb 2 AA (zl tb AA AA (zq tb AA (dn E AA (bs h0 λF e h0=>?_)))))))))) (GQ (L:=[(0,.agg (Zp r))]) (st':=[Qe r,Zt r]) [0,1] AA (by decide) rfl AA (.pure (Ac λ_=>AA) (.deep (AS λ_=>AA) mV)) (.same AA));have J:∀d,F=d->∀s,Wk 0 s ⟨25,AM [(2,BL),(4,Ei),(5,ow 2 0 d)],eL p0 [Lk d]⟩->I s:=by
  intro d T s K;subst F;refine D _ (AJ K (sr AA λU G=>zm tb 2 AA (bs h0 λa o h0=>XJ (rowsP:=[Lk d]) (rows0:=[Lk d]) (rows1:=[Lk d]) (rows2:=[Qe a]) (rows1':=[Lk d]) (rows2':=[Qe a]) (st':=(eL p0 [Lk d,Qe a])) (v':=(.agg [i64 a.op,i64 a.num,i64 a.A5,ow 3 0 a.args,ow 2 0 d])) [2] AN (hb 119) (OS o) rfl (by decide) rfl AA (.deep (AS λ_=>AA) .nil) rfl AA (.deep (AS λ_=>AA) .nil) (.pure (Ac λ_=>AA) .nil) rfl AA (Al AN LQ AA AA AA AA AA AA qi rfl (dn G AA ?_)))));cases h0;exact BB ⟨_,((CC (L:=[(4,Jh)]) (st':=[Qe a,Lk d,⟨0,80,5,[kb a d]⟩]) (st1:=[Qe a,Lk d,⟨0,80,5,[[i64 a.op,i64 a.num,i64 a.A5,ow 3 0 a.args,ow 2 0 d]]⟩]) [3,2,1] AA AA (.p (.deep (AS λ_=>AA) (.w .nil))) (.same AA)).trans (As (L:=[(4,Jh)]) (.same AA))),Cz (x:=.tmp 4) (off:=0) (cs:=(kb a d)) (vs:=(kb a d)) LQ AA AA AA qi rfl _ ⟨AA,AA⟩⟩
 refine AK (AT (σ:=Int×(List Block)) (λn v=>C2 p0 rL n v.1 v.2=some F) (λ(p,h)=>⟨25,AM [(1,.fn 50 []),(2,.ptr 0 0 0 0),(4,.ptr 1 0 0 0),(5,ow 2 0 h),(9,ls Bg p0.kids),(10,i64 (Sh.len p0.kids)),(11,i64 p)],[Tc p0.op p0.num p0.A5 p0.args p0.kids,lq,ro 0 48 2 (DE 3 48 80) h]⟩) N (0,[]) e ((Fk (t:=5) rfl 48 (size:=2) (by decide)).trans (As (L:=[(1,.fn 50 []),(2,.ptr 0 0 0 0),(4,.ptr 1 0 0 0),(5,.own 2 0 (List.length ([]:List Block))),(9,ls Bg p0.kids),(10,i64 (Sh.len p0.kids)),(11,i64 0)]) (.same AA))) (λ_ H=>by rw[C2]at H;cases H) ?_);rintro n ⟨p,h⟩ e;rw[C2]at e;refine zr tb AA AA (AD λM q=>?_);refine ci e AA ?_ ?_<;>intro O e
 ·refine AH (q _ (AD λP u=>AK (sr AA λQ y=>bs e λg z e=>zx Hs z AA AA AA (zq tb AA (Aj (m:=3) AN MK AA AA (Al AN Jj AA AA AA AA AA AA qg rfl (dn y AA (AG AA (zm tb 3 AA (bs e λb A e=>QB (v':=(.agg (gu b))) (st':=(eL p0 [Lk h,WC g.steps g.result,KJ b])) AN AA (hb 50) (sE A) rfl AA ⟨AS BS,mV⟩ AA AA (Cn (m:=5) (l:=[()]) (enc:=λ_=>(gu b)) AN Hs (by decide) rfl AA AA AA AA AA (bs e λf k e=>?_))))))))))));have B:=V5 k;refine Yc (st':=(eL p0 [⟨1,48,2,hole f (DE 3 48 80) (Sh.len h) (gu b)⟩,WC g.steps g.result,KJ b,⟨0,48,2,[gu b]⟩])) (c:=b) AN Hs AA AA AA AA AA AA AA k AA (Aa (Wk.take (id:=2) (m:=4) (j:=0) (i:=Sh.len h) (c:=b) (ys:=b.steps) (encY:=(Bb 3 48 80)) rfl B AA AA AA (by decide) rB It AA AA) (Aa (MF (id:=2) (i:=Sh.len h) (c:=b) rfl B AA AA) (zq tb AA (dn u AA (AG AA (zm tb 2 AA ?_))))));exact AE (xi (Sh.w (p+1),f) e (by refine Wk.trans (Ag (L:=[(1,.fn 50 []),(2,BL),(4,Ei),(5,ow 2 1 f),(9,ls Bg p0.kids),(10,Yn p0),(11,MY p)]) (st':=(eL p0 [ro 1 48 2 (DE 3 48 80) f])) [0,1,2] AA AA (.w (.w (.deep (AS λ_=>AA) .nil))) ⟨.rfl,.rfl,.rfl,.rfl,.rfl,.rfl,.rfl,mV⟩) ?_;exact CP (L:=[(1,.fn 50 []),(2,BL),(4,Ei),(5,ow 2 0 f),(9,ls Bg p0.kids),(10,Yn p0),(11,MY p)]) (st':=(eL p0 [Lk f])) (.raw AA AA (.raw AA AA (.deep (AS λ_=>AA) .nil))) ⟨.rfl,.rfl,.rfl,.rfl,.rfl,.rfl,.rfl,mV⟩))
 ·exact Ad (J h (Sh.AF e).symm _ (AI AA))
theorem Ou {N:Nat}{rL:Block->Option (Block)}(sE :∀{p0:Block} {r:Block},rL p0=some r->Ay 50 [DS p0] [] (OC r) [KJ r]){p0 r:Block}(h0:HX N rL p0=some r):Ay 50 [DS p0] [] (OC r) [KJ r]:=by
 unfold HX at h0;refine BJ.wk (r0:=(OC r)) (st0:=(iZ r)) (ai Tryz.func50 AA AA AA AA (sr AA λK1 I=>Az (m:=0) AN AA AA AA AA AA (Aj (m:=1) AN MK AA AA (dn I AA (sr AA λK2 J=>zm tb 2 AA (zz (.agg [.zc,i64 p0.result]) (HU jS jP MK AA AA) rfl (Aj (m:=2) AN MK AA AA (Al AN Jj AA AA AA AA AA AA qg rfl (dn J AA (AD λU K=>sr AA λK4 M=>zm tb 2 AA (zl tb AA AA (zq tb AA (dn M AA (bs h0 λO e h0=>?_)))))))))))))) (GQ (L:=[(0,OC r)]) (st':=[KJ r]) [0] AA (by decide) rfl AA (.deep (AS BS) mV) (.same AA));have V:∀g,O=g->∀s,Wk 0 s ⟨31,AM [(2,BL),(3,Ei)],[YT,aM g p0.result,NM g]⟩->U s:=by
  intro g W s P;subst O;refine K _ (AJ P (sr AA λK9 Q=>zq tb AA (Al AN Jj AA AA AA AA AA AA qg rfl (dn Q AA ?_))));cases h0;exact BB ⟨_,(CC (L:=[(2,Ei)]) (st':=[NM g,⟨0,48,2,[QN g p0.result]⟩]) (st1:=[NM g,aM g p0.result]) [2,0] AA AA (.deep (AS BS) (.w .nil)) (.same AA)).trans (As (L:=[(2,Ei)]) (.same AA)),Cz (x:=.tmp 2) (off:=0) (cs:=(QN g p0.result)) (vs:=(QN g p0.result)) Jj AA AA AA qg rfl _ ⟨AA,AA⟩⟩
 refine AK (AT (σ:=Int×(List Step)) (λn v=>CR N p0 rL n v.1 v.2=some O) (λ(p,h)=>⟨31,AM [(2,.ptr 0 0 0 0),(3,.ptr 1 0 0 0),(10,ls Bk p0.steps),(11,i64 (Sh.len p0.steps)),(12,i64 p)],[YT,⟨0,48,2,[[ow 2 0 h,i64 p0.result]]⟩,ro 0 80 5 (Bb 3 48 80) h]⟩) N (0,[]) e (by refine Wk.trans (Jn (id:=2) (st':=[WC p0.steps p0.result,YT,⟨0,48,2,[[.own 3 0 (List.length ([]:List Step)),i64 p0.result]]⟩,ro 0 80 5 (Bb 3 48 80) ([]:List Step)]) (j:=0) rfl AA 80 (size':=5) (by decide) rfl AA AA AA) ?_;exact CC (L:=[(2,.ptr 0 0 0 0),(3,.ptr 1 0 0 0),(10,ls Bk p0.steps),(11,i64 (Sh.len p0.steps)),(12,i64 0)]) (st':=[YT,⟨0,48,2,[[.own 2 0 (List.length ([]:List Step)),i64 p0.result]]⟩,ro 0 80 5 (Bb 3 48 80) ([]:List Step)]) (st1:=[YT,⟨0,48,2,[[.own 3 0 (List.length ([]:List Step)),i64 p0.result]]⟩,ro 0 80 5 (Bb 3 48 80) ([]:List Step)]) [1,2,3] AA AA (.w (.w (.deep (AS BS) .nil))) (.same AA)) (λ_ T=>by rw[CR]at T;cases T) ?_);rintro n ⟨p,h⟩ e;rw[CR]at e;refine zr tb AA AA (AD λX q=>?_);refine ci e AA ?_ ?_<;>intro Y e
 ·refine AH (q _ (AD λR t=>bs e λu b e=>?_));have y:∀f,u=f->∀s,Wk 0 s ⟨31,AM [(2,BL),(3,Ei),(10,UT p0),(11,Vy p0),(12,i64 p)],[YT,aM f p0.result,NM f]⟩->R s:=by
   intro f W s P;subst u;exact t _ (AJ P (AG AA (zm tb 2 AA (AE (xi (Sh.w (p+1),f) e (AI AA))))))
  refine AK (sr AA λZ z=>bs b λS A b=>zz (Jo S) (Cp FM AA AA A (Be _) rfl) rfl (zq tb AA (Aj (m:=3) AN Nk AA AA (Al AN LQ AA AA AA AA AA AA qi rfl (dn z AA (sr AA λb0 B=>zm tb 2 AA (bs b λC D b=>zc (hb 96) (G2 D) rfl AA AA (zq tb AA (dn B AA ?_)))))))));refine ci b AA ?_ ?_<;>intro E b
  ·have b1:C=false:=by simpa using E
   refine sr AA λb2 F=>zq tb AA (bs b λa G b=>A8 (v':=(.agg [i64 a.op,i64 a.num,i64 a.A5,ow 4 0 a.args,ow 5 0 a.kids])) AN (hb 97) (Oh sE G) rfl AA ⟨(A9 λ_=>AA),⟨(AS λ_=>AA),mV⟩⟩ AA AA (Al AN LQ AA AA AA AA AA AA qi rfl (dn F AA (sr AA λb3 H=>zq tb AA (Al AN Jy AA AA AA AA AA AA qw rfl (dn H AA (AG AA (zm tb 3 AA (Cn (m:=6) (l:=[()]) (enc:=λ_=>(iD a)) AN FM (by decide) rfl AA AA AA AA AA (bs b λd k b=>?_))))))))));have o:=V5 k;refine Yc (st':=[YT,aM h p0.result,⟨1,80,5,hole d (Bb 3 48 80) (Sh.len h) (iD a)⟩,⟨0,80,5,[iD a]⟩,Qe a,Zt a,⟨0,80,5,[iD a]⟩]) (c:=(Step.mk a.op a.num 0 a.args a.kids)) AN FM AA AA AA AA AA AA AA k AA (Aa (Wk.take (id:=2) (m:=4) (j:=3) (i:=Sh.len h) (c:=(Step.mk a.op a.num 0 a.args a.kids)) (ys:=a.args) (encY:=eI) rfl o AA AA AA (by decide) rB (λ_=>AA) rfl AA) (Aa (Wk.take (id:=2) (m:=5) (j:=4) (i:=Sh.len h) (c:=(Step.mk a.op a.num 0 a.args a.kids)) (ys:=a.kids) (encY:=(DE 3 48 80)) rfl o AA AA AA (by decide) (show 0<=5 by decide) (λ_=>AA) rfl AA) (Aa (MF (id:=2) (i:=Sh.len h) (c:=(Step.mk a.op a.num 0 a.args a.kids)) rfl o (D8 (Step.mk a.op a.num 0 a.args a.kids)).symm AA) (zq tb AA (Al AN Z0 AA AA AA AA AA AA qx rfl ?_)))));exact AE (y d (Sh.AF b).symm _ (by refine Wk.trans (Ag (L:=[(2,BL),(3,Ei),(10,UT p0),(11,Vy p0),(12,i64 p)]) (st':=[YT,⟨0,48,2,[[ow 2 1 d,i64 p0.result]]⟩,ro 1 80 5 (Bb 3 48 80) d]) [0,1,2] AA AA (.w (.w (.deep (AS BS) .nil))) ⟨.rfl,.rfl,.rfl,.rfl,.rfl,mV⟩) ?_;exact CP (L:=[(2,BL),(3,Ei),(10,UT p0),(11,Vy p0),(12,i64 p)]) (st':=[YT,aM d p0.result,NM d]) (.raw AA AA (.raw AA AA (.deep (AS BS) .nil))) ⟨.rfl,.rfl,.rfl,.rfl,.rfl,mV⟩))
  ·have b4:C=true:=by simpa using E
   exact AH (y h (Sh.AF b).symm _ (Ag [0,1,2] AA AA (.w (.w (.deep (AS BS) .nil))) (.same AA)))
 ·exact Ad (V h (Sh.AF e).symm _ (AI AA))
theorem Oo {N:Nat}:∀(n:Nat),∀{p0:Block} {r:Block},D7 N n p0=some r->Ay 50 [DS p0] [] (OC r) [KJ r]:=by
 intro n
 induction n with
 | zero=>intro p0 r a;cases a
 | succ n ih=>
  intro p0 r a;rw[D7]at a;exact Ou (λh=>ih h) a
theorem QT {N:Nat}:∀{p0:Block} {r:Block},Ig N p0=some r->Ay 50 [DS p0] [] (OC r) [KJ r]:=by
 intro p0 r a;exact Oo N a
theorem Ma {N:Nat}{p0:AP}{p1 r:Block}(h0:KB N p0 p1=some r):Ay 49 [aI p0,DS p1] [] (OC r) [KJ r]:=by
 unfold KB at h0;refine BJ.wk (r0:=(OC r)) (st0:=(iZ r)) (ai Tryz.func49 AA AA AA AA (sr AA λe b=>Az (m:=0) AN AA AA AA AA AA (Az (m:=1) AN AA AA AA AA AA (Aj (m:=2) AN MK AA AA (dn b AA (sr AA λf c=>zq tb AA (bs h0 λa d h0=>A8 (v':=(.agg [ow 3 0 a.steps,i64 a.result])) AN (hb 50) (QT d) rfl AA ⟨AS BS,mV⟩ AA AA (Al AN Jj AA AA AA AA AA AA qg rfl (dn c AA ?_))))))))) (GQ (L:=[(0,OC r)]) (st':=[KJ r]) [0] AA (by decide) rfl AA (.deep (AS BS) mV) (.same AA));obtain rfl:=Sh.AF h0;exact BB (Exists.intro _ (And.intro ((CC (L:=[(4,Ei)]) (st':=(iZ a)) (st1:=[KJ a,⟨0,48,2,[[ow 3 0 a.steps,i64 a.result]]⟩]) [3,2] AA AA (.deep (AS BS) (.w .nil)) (.same AA)).trans (As (L:=[(4,Ei)]) (.same AA))) (Cz (x:=.tmp 4) (off:=0) (cs:=(iq a)) (vs:=(iq a)) Jj AA AA AA qg rfl _ ⟨AA,AA⟩)))
theorem Ls {N:Nat}{p0 r:AL}(h0:El N p0=some r):Ay 33 [Ej p0,.fn 49 []] [] (.agg (ZK r)) [GM r.decls,TW r]:=by
 unfold El at h0;refine BJ.wk (r0:=(.agg (ZK r))) (st0:=[GM r.decls,TW r,⟨0,30,2,[ZK r]⟩]) (ai Tryz.func33 AA AA AA AA (sr AA λK1 V=>Az (m:=0) AN AA AA AA AA AA (Aa (Wk.Ct (L:=[(1,.fn 49 []),(2,.Bz [Df p0.decls,UF p0] 0)]) (st':=[aF]) (id:=0) rfl qq (TQ AA) (.same AA) rfl) (Aj (m:=1) AN Gh AA AA (dn V AA (sr AA λK2 W=>zm tb 2 AA (bs h0 λp X h0=>A8 (v':=(ow 2 0 p)) AN (hb 54) (Cl.Oi X) rfl AA ⟨(AS λ_=>AA),mV⟩ AA AA (zz (.agg [ow 2 0 p,.zc]) (HU cK cF Gh AA AA) rfl (Aj (m:=3) AN Gh AA AA (Al AN FG AA AA AA AA AA AA qg rfl (dn W AA (AD λK4 Y=>sr AA λK5 Z=>zm tb 2 AA (zl tb AA AA (zq tb AA (dn Z AA (bs h0 λo9 H h0=>?_)))))))))))))))) (GQ (L:=[(0,.agg (ZK r))]) (st':=[GM r.decls,TW r]) [0,1] AA (by decide) rfl AA (.deep (AS λ_=>AA) (.deep (AS λ_=>AA) mV)) (.same AA));have M9:∀I,o9=I->∀s,Wk 0 s ⟨40,AM [(4,BL),(5,Jh)],[GF,GM p,gK p I,JU I]⟩->K4 s:=by
  intro I hq s hw;subst o9;refine Y _ (AJ hw (sr AA λb0 Q=>zq tb AA (Al AN FG AA AA AA AA AA AA qg rfl (dn Q AA ?_))));cases h0;exact BB ⟨_,((CC (L:=[(4,Jh)]) (st':=(fZ p I)) (st1:=[GM p,JU I,gK p I]) [1,3,0] AA AA (.deep (AS λ_=>AA) (.deep (AS λ_=>AA) (.w .nil))) (.same AA)).trans (As (L:=[(4,Jh)]) (.same AA))),Cz (x:=.tmp 4) (off:=0) (cs:=(WX p I)) (vs:=(WX p I)) FG AA AA AA qg rfl _ ⟨AA,AA⟩⟩
 refine AK (AT (σ:=Int×(List AP)) (λn v=>Bn N p0 n v.1 v.2=some o9) (λ(G,y)=>⟨40,AM [(1,.fn 49 []),(4,.ptr 0 0 0 0),(5,.ptr 2 0 0 0),(13,ls Ah p0.AB),(14,i64 (Sh.len p0.AB)),(15,i64 G)],[GF,ro 0 104 3 (Av 106 3) p,⟨0,30,2,[[ow 1 0 p,ow 3 0 y]]⟩,ro 0 50 5 (Am 3 3 3 48 80) y]⟩) N (0,[]) H (by refine Wk.trans (Jn (id:=3) (st':=[⟨1,30,2,[]⟩,GF,ro 0 104 3 (Av 106 3) p,⟨0,30,2,[[ow 2 0 p,.own 4 0 (List.length ([]:List AP))]]⟩,ro 0 50 5 (Am 3 3 3 48 80) ([]:List AP)]) (j:=1) rfl AA 50 (size':=5) (by decide) rfl AA AA AA) ?_;exact CC (L:=[(1,.fn 49 []),(4,.ptr 0 0 0 0),(5,.ptr 2 0 0 0),(13,ls Ah p0.AB),(14,i64 (Sh.len p0.AB)),(15,i64 0)]) (st':=[GF,ro 0 104 3 (Av 106 3) p,⟨0,30,2,[[ow 1 0 p,.own 3 0 (List.length ([]:List AP))]]⟩,ro 0 50 5 (Am 3 3 3 48 80) ([]:List AP)]) (st1:=[GF,ro 0 104 3 (Av 106 3) p,⟨0,30,2,[[ow 2 0 p,.own 4 0 (List.length ([]:List AP))]]⟩,ro 0 50 5 (Am 3 3 3 48 80) ([]:List AP)]) [1,2,3,4] AA AA (.w (.deep (AS λ_=>AA) (.w (.deep (AS λ_=>AA) .nil)))) (.same AA)) (λ_ hv=>by rw[Bn]at hv;cases hv) ?_);rintro n ⟨G,y⟩ H;rw[Bn]at H;refine zr tb AA AA (AD λb1 R=>?_);refine ci H AA ?_ ?_<;>intro b2 H
 ·refine AH (R _ (AD λb3 S=>AK (sr AA λb4 T=>bs H λa U H=>zx Ez U AA AA AA (zq tb AA (Aj (m:=4) AN MJ AA AA (Al AN Mo AA AA AA AA AA AA qi rfl (Aa (Wk.Ct (L:=[(1,.fn 49 []),(4,BL),(5,Jh),(7,.Bz (Y1 a) 0),(13,UF p0),(14,WJ p0),(15,i64 G)]) (st':=[GF,GM p,gK p y,JU y,⟨1,50,5,[]⟩]) (id:=4) rfl rB (TQ AA) (.same AA) rfl) (dn T AA ?_))))))));refine AW.ke (by kernel_rfl) ?_;refine bs H λd K H=>bs H λe M H=>bs H λf O H=>bs H λE P H=>?_;refine AZ.st (f':=20) (listed':=(bm 20 0)) rfl (by kernel_rfl) ?_;refine Fv 0 (v:=(.ptr 2 0 0 1)) rfl AA (by kernel_rfl) (by kernel_rfl) (by kernel_rfl) rfl (KX (Vv ib AA AA qx rfl)) ?_;refine Fv 2 (v:=(.Bz (Y1 a) 0)) rfl AA (by kernel_rfl) (by kernel_rfl) (by kernel_rfl) rfl (KX (L7 iz AA AA)) ?_;refine Fv 3 (v:=(ls eI a.params)) rfl AA (by kernel_rfl) (by kernel_rfl) (by kernel_rfl) rfl (N0 KL AA AA) ?_;refine Fv 5 (v:=(.Bz (Y1 a) 1)) rfl AA (by kernel_rfl) (by kernel_rfl) (by kernel_rfl) rfl (KX (L7 iJ AA AA)) ?_;refine Fv 6 (v:=(ls eI a.Ao)) rfl AA (by kernel_rfl) (by kernel_rfl) (by kernel_rfl) rfl (N0 KL AA AA) ?_;refine Fv 8 (v:=(.Bz (Y1 a) 2)) rfl AA (by kernel_rfl) (by kernel_rfl) (by kernel_rfl) rfl (KX (L7 iS AA AA)) ?_;refine Fv 9 (v:=(i64 a.result)) rfl AA (by kernel_rfl) (by kernel_rfl) (by kernel_rfl) rfl (N0 Jy AA AA) ?_;refine Fv 10 (v:=(.fn 49 [])) rfl AA (by kernel_rfl) (by kernel_rfl) (by kernel_rfl) rfl (KX (NQ AA)) ?_;refine Fv 11 (v:=(aI a)) rfl AA (by kernel_rfl) (by kernel_rfl) (by kernel_rfl) rfl (Pm Mo AA qi rfl) ?_;refine Fv 12 (v:=(.Bz (Y1 a) 3)) rfl AA (by kernel_rfl) (by kernel_rfl) (by kernel_rfl) rfl (KX (L7 iV AA AA)) ?_;refine Fv 13 (v:=(ly a)) rfl AA (by kernel_rfl) (by kernel_rfl) (by kernel_rfl) rfl (Pm Jj AA (show 3+2<=5 by decide) rfl) ?_;refine AZ.on (AY.one λwa b=>?_);have q:wa 0 (bm 20 1048575) ⟨40,AM (RR p0 G []),eo p E⟩:=(b _ _ _).2 (by
   refine AY.done AA (by kernel_rfl) (S _ (AG AA (zm tb 2 AA ?_)));exact AE (xi (Sh.w (G+1),E) H (by exact CC (L:=[(1,.fn 49 []),(4,BL),(5,Jh),(13,UF p0),(14,WJ p0),(15,MY G)]) (st':=[GF,GM p,gK p E,JU E]) (st1:=[GF,GM p,Xn p E,JU E]) [0,2,1,3] AA AA (.w (.deep (AS λ_=>AA) (.w (.deep (AS λ_=>AA) .nil)))) (.same AA))))
  have t:wa 1 (bm 20 524287) ⟨40,AM (RR p0 G [(36,ow 3 1 E),(37,.ptr 1 0 0 1)]),[GF,Xn p y,GM p,ro 1 50 5 (Am 3 3 3 48 80) E]⟩:=(b _ _ _).2 (by
   refine ya [19] ⟨?_,mV⟩
   ·refine yo 19 ?_;exact Al AN eY AA AA AA AA AA AA qu rfl (lY b q (by exact CP (L:=(RR p0 G [])) (st':=(eo p E)) (.raw AA AA (.raw AA AA (.deep (AS λ_=>AA) (.deep (AS λ_=>AA) .nil)))) (.same AA))))
  have u:wa 3 (bm 20 131071) ⟨40,AM (RR p0 G [(20,ow 3 0 y),(35,.own 4 0 1)]),aS p y [⟨0,50,5,[iP d e a.result f]⟩,Bw d,Bw e,KJ f]⟩:=(b _ _ _).2 (by
   refine ya [17] ⟨?_,mV⟩
   ·refine yo 17 ?_;have J:=V5 P;refine Yc (st':=[GF,Xn p y,GM p,⟨1,50,5,hole E (Am 3 3 3 48 80) (Sh.len y) (iP d e a.result f)⟩,⟨0,50,5,[iP d e a.result f]⟩,Bw d,Bw e,KJ f]) (c:=(AP.mk d e a.result f)) AN Ez AA AA AA AA AA AA AA P AA (Aa (Wk.take (id:=3) (m:=5) (j:=0) (i:=Sh.len y) (c:=(AP.mk d e a.result f)) (ys:=d) (encY:=eI) rfl J AA AA AA (by decide) (show 0<=5 by decide) (λ_=>AA) rfl AA) (Aa (Wk.take (id:=3) (m:=6) (j:=1) (i:=Sh.len y) (c:=(AP.mk d e a.result f)) (ys:=e) (encY:=eI) rfl J AA AA AA (by decide) (show 0<=6 by decide) (λ_=>AA) rfl AA) (Aa (Wk.take (id:=3) (m:=7) (j:=3) (i:=Sh.len y) (c:=(AP.mk d e a.result f)) (ys:=f.steps) (encY:=(Bb 3 48 80)) rfl J AA AA AA (by decide) (show 0<=7 by decide) It AA AA) (Aa (MF (id:=3) (i:=Sh.len y) (c:=(AP.mk d e a.result f)) rfl J AA AA) (AE ⟨AA,(Y3 tb 18 AA (by kernel_rfl) rfl ?_)⟩)))));exact yw b t (by exact Ag [0,1,2,3] AA AA (.w (.w (.deep (AS λ_=>AA) (.deep (AS λ_=>AA) .nil)))) (.same AA)))
  have g:wa 4 (bm 20 65535) ⟨40,AM (RR p0 G [(20,ow 3 0 y),(34,.agg (fE d e a.result f))]),gB p y d e f⟩:=(b _ _ _).2 (by
   refine ya [16] ⟨?_,mV⟩
   ·refine yo 16 (Cn (m:=7) (l:=[()]) (enc:=λ_=>(fE d e a.result f)) AN Ez (by decide) rfl AA AA AA AA AA ?_);exact lY b u (by exact CC (L:=(RR p0 G [(20,ow 3 0 y),(35,.own 4 0 1)])) (st':=(aS p y [⟨0,50,5,[iP d e a.result f]⟩,Bw d,Bw e,KJ f])) (st1:=(aS p y [⟨0,50,5,[fE d e a.result f]⟩,Bw d,Bw e,KJ f])) [0,1,2,3,7,4,5,6] AA AA (.w (.w (.deep (AS λ_=>AA) (.deep (AS λ_=>AA) (.w (.p (.p (.deep (AS BS) .nil)))))))) (.same AA)))
  have h:wa 5 (bm 20 32767) ⟨40,AM (RR p0 G [(20,ow 3 0 y),(23,ow 4 0 d),(26,ow 5 0 e),(28,i64 a.result),(33,hY f)]),gB p y d e f⟩:=(b _ _ _).2 (by
   refine ya [15] ⟨?_,mV⟩
   ·refine yo 15 ?_;exact zz (.agg (fE d e a.result f)) (HU gC ef MJ AA AA) rfl (yd b g))
  have k:wa 6 (bm 20 16383) ⟨40,AM (RR p0 G ((20,ow 3 0 y)::(23,ow 4 0 d)::(26,ow 5 0 e)::ax a.result a [])),aS p y [Bw d,Bw e]⟩:=(b _ _ _).2 (by
   refine ya [14] ⟨?_,mV⟩
   ·refine yo 14 ?_;exact QB (v':=(hY f)) (st':=(gB p y d e f)) AN AA (hb 49) (Ma O) rfl AA ⟨AS BS,mV⟩ AA AA (yd b h))
  have o:wa 7 (bm 20 16255) ⟨40,AM (RR p0 G ((20,ow 3 0 y)::(23,ow 4 0 d)::(25,ls eI a.Ao)::ax a.result a [])),aS p y [Bw d]⟩:=(b _ _ _).2 (by
   refine ya [7] ⟨?_,mV⟩
   ·refine yo 7 ?_;exact A8 (v':=(ow 5 0 e)) AN (hb 56) (Ba M) rfl AA ⟨(A9 λ_=>AA),mV⟩ AA AA (yd b k))
  have B:wa 8 (bm 20 16239) ⟨40,AM (RR p0 G ((20,ow 3 0 y)::(22,ls eI a.params)::(25,ls eI a.Ao)::ax a.result a [])),eo p y⟩:=(b _ _ _).2 (by
   refine ya [4] ⟨?_,mV⟩
   ·refine yo 4 ?_;exact A8 (v':=(ow 4 0 d)) AN (hb 56) (Ba K) rfl AA ⟨(A9 λ_=>AA),mV⟩ AA AA (yd b o))
  have z:wa 6 (bm 20 32765) ⟨40,AM (RR p0 G [(19,.ptr 1 0 0 1),(23,ow 4 0 d),(26,ow 5 0 e),(28,i64 a.result),(33,hY f)]),gB p y d e f⟩:=(b _ _ _).2 (by
   refine ya [1,15] ⟨?_,?_,mV⟩
   ·exact iF tb b h
   ·refine yo 15 ?_;refine zz (.agg (fE d e a.result f)) (HU gC ef MJ AA AA) rfl (AE ⟨AA,?_⟩);refine Y3 tb 1 AA (by kernel_rfl) rfl ?_;exact ld b g)
  have A:wa 7 (bm 20 16381) ⟨40,AM (RR p0 G ((19,.ptr 1 0 0 1)::(23,ow 4 0 d)::(26,ow 5 0 e)::ax a.result a [])),aS p y [Bw d,Bw e]⟩:=(b _ _ _).2 (by
   refine ya [1,14] ⟨?_,?_,mV⟩
   ·exact iF tb b k
   ·refine yo 14 ?_;exact QB (v':=(hY f)) (st':=(gB p y d e f)) AN AA (hb 49) (Ma O) rfl AA ⟨AS BS,mV⟩ AA AA (yd b z))
  have C:wa 8 (bm 20 16253) ⟨40,AM (RR p0 G ((19,.ptr 1 0 0 1)::(23,ow 4 0 d)::(25,ls eI a.Ao)::ax a.result a [])),aS p y [Bw d]⟩:=(b _ _ _).2 (by
   refine ya [1,7] ⟨?_,?_,mV⟩
   ·exact iF tb b o
   ·refine yo 7 ?_;exact A8 (v':=(ow 5 0 e)) AN (hb 56) (Ba M) rfl AA ⟨(A9 λ_=>AA),mV⟩ AA AA (yd b A))
  have D:wa 9 (bm 20 16237) ⟨40,AM (RR p0 G ((19,.ptr 1 0 0 1)::(22,ls eI a.params)::(25,ls eI a.Ao)::ax a.result a [])),eo p y⟩:=(b _ _ _).2 (by
   refine ya [1,4] ⟨?_,?_,mV⟩
   ·exact iF tb b B
   ·refine yo 4 ?_;exact A8 (v':=(ow 4 0 d)) AN (hb 56) (Ba K) rfl AA ⟨(A9 λ_=>AA),mV⟩ AA AA (yd b C))
  refine (b _ _ _).2 ?_;exact yw b D (by exact CC (L:=(RR p0 G ((19,.ptr 1 0 0 1)::(22,ls eI a.params)::(25,ls eI a.Ao)::ax a.result a []))) (st':=(eo p y)) (st1:=[GF,gK p y,GM p,JU y]) [0,2,1,3] AA AA (.w (.w (.deep (AS λ_=>AA) (.deep (AS λ_=>AA) .nil)))) (.same AA))
 ·exact Ad (M9 y (Sh.AF H).symm _ (AI AA))
theorem Oa {N:Nat}{p0:AL}{r:AL×Bool}(h0:Io N p0=some r):Ay 15 [Ej p0] [] (.C7 [.agg (WX r.1.decls r.1.AB),.bool r.2]) [GM r.1.decls,JU r.1.AB]:=by
 unfold Io at h0;refine BJ.wk (r0:=(.C7 [.agg (WX r.1.decls r.1.AB),.bool r.2])) (st0:=(fZ r.1.decls r.1.AB)) (ai Tryz.func15 AA AA AA AA (sr AA λK1 l7=>Az (m:=0) AN AA AA AA AA AA (Aj (m:=1) AN Gh AA AA (zq tb AA (dn l7 AA (AD λK2 l8=>sr AA λK3 l9=>zq tb AA (bs h0 λq4 m0 h0=>zc (hb 21) (TE m0) rfl AA AA (zq tb AA (dn l9 AA ?_))))))))) (GQ (L:=[(0,.C7 [.agg (WX r.1.decls r.1.AB),.bool r.2])]) (st':=[GM r.1.decls,JU r.1.AB]) [0,1] AA (by decide) rfl AA (.deep (AS λ_=>AA) (.deep (AS λ_=>AA) mV)) (.same AA));refine ci h0 AA ?_ ?_<;>intro b5 h0
 ·have b6:q4=false:=by simpa using b5
  refine sr AA λK7 m1=>zz (.agg [.zc,.zc]) (HU cK cF Gh AA AA) rfl (Al AN FG AA AA AA AA AA AA qg rfl (zq tb AA (dn m1 AA ?_)));cases h0;exact BB ⟨_,((((Jn (id:=1) (st':=[Ob p0.decls p0.AB,⟨0,30,2,[[jh,.zc]]⟩,iw]) (j:=0) rfl AA 104 (size':=3) (by decide) rfl AA AA AA).trans (Jn (id:=1) (st':=[Ob p0.decls p0.AB,⟨0,30,2,[[jh,iT]]⟩,iw,jt]) (j:=1) rfl AA 50 (size':=5) (by decide) rfl AA AA AA)).trans (CC (L:=[(2,Jh),(3,.bool false)]) (st':=[iw,jt,⟨0,30,2,[kg]⟩]) (st1:=[iw,jt,⟨0,30,2,[[jh,iT]]⟩]) [2,3,1] AA AA (.deep (AS λ_=>AA) (.deep (AS λ_=>AA) (.w .nil))) (.same AA))).trans (As (L:=[(2,Jh),(3,.bool false)]) (.same AA))),Cz (x:=.tmp 2) (off:=0) (cs:=kg) (vs:=kg) FG AA AA AA qg rfl _ ⟨AA,AA⟩⟩
 ·have b8:q4=true:=by simpa using b5
  refine AH (l8 _ (sr AA λK9 m2=>zm tb 2 AA (zl tb AA AA (bs h0 λm3 c2 h0=>Zi (m:=2) (enc:=(eS eI)) (u:=[]) AN OZ AA AA AA c2 AA AA (Aj (m:=3) AN lU AA AA (Al AN lu AA AA AA AA AA AA ql rfl (dn m2 AA (AD λm4 d6=>sr AA λt8 d7=>zm tb 2 AA (zl tb AA AA (zq tb AA (dn d7 AA (bs h0 λc6 p h0=>?_))))))))))));have m5:=p;have m6:∀W,c6=W->∀s,Wk 0 s ⟨116,AM (Wg []),Qs p0 [ro 0 75 1 (eS eI) W,SC W]⟩->m4 s:=by
   intro W hq s P;subst c6;refine d6 _ (AJ P (AD λm7 d8=>sr AA λt9 d9=>zm tb 2 AA (zl tb AA AA (zq tb AA (dn d9 AA (bs h0 λc7 p h0=>?_))))));have m8:=p;have m9:∀K,c7=K->∀s,Wk 0 s ⟨116,AM (Wg []),Qs p0 [ro 0 75 1 (eS eI) K,SC K]⟩->m7 s:=by
    intro K hq s P;subst c7;refine d8 _ (AJ P (AD λq0 g0=>zr tb AA AA (bs h0 λc0 p h0=>?_)));have q1:∀E,c0=E->∀s,Wk 0 s ⟨116,AM (Wg []),Qs p0 [ro 0 75 1 eV E,SC E]⟩->q0 s:=by
     intro E hq s P;subst c0;refine g0 _ (AJ P (sr AA λv0 g1=>zq tb AA (bs h0 λd g2 h0=>A8 (v':=(.agg (jE d))) AN (hb 33) (Ls g2) rfl AA ⟨(AS λ_=>AA),⟨(AS λ_=>AA),mV⟩⟩ AA AA (Aj (m:=6) AN Gh AA AA (Al AN FG AA AA AA AA AA AA qg rfl (dn g1 AA (AD λq2 g3=>sr AA λv1 g4=>zm tb 2 AA (zz (WJ d) (E9 jU AA AA AA) rfl (zq tb AA (dn g4 AA (bs h0 λc8 p h0=>?_)))))))))));have q3:∀R,c8=R->∀s,Wk 0 s ⟨116,AM [(2,BL),(15,SY)],(GF::jo d.decls R [])⟩->q2 s:=by
      intro R hq s P;subst c8;refine g3 _ (AJ P (sr AA λv2 g5=>zq tb AA (Al AN FG AA AA AA AA AA AA qg rfl (zq tb AA (dn g5 AA ?_)))));cases h0;exact BB ⟨_,((CC (L:=[(2,Jh),(3,.bool true)]) (st':=(fZ d.decls R)) (st1:=(jo d.decls R [])) [1,2,0] AA AA (.deep (AS λ_=>AA) (.deep (AS λ_=>AA) (.w .nil))) (.same AA)).trans (As (L:=[(2,Jh),(3,.bool true)]) (.same AA))),Cz (x:=.tmp 2) (off:=0) (cs:=(WX d.decls R)) (vs:=(WX d.decls R)) FG AA AA AA qg rfl _ ⟨AA,AA⟩⟩
     refine AK (AT (σ:=Int×List AP×List (Option (List Int))) (λn v=>EH E d n v.1 v.2.1=some c8/\GI E v.1 v.2.2) (λ(f,q,k)=>⟨116,AM [(2,.ptr 1 0 0 0),(4,.ptr 3 0 0 0),(15,.ptr 6 0 0 0),(101,i64 (Sh.len d.AB)),(102,i64 f)],[⟨1,30,2,[]⟩,GF,ro 0 75 1 eG k,⟨0,74,1,[[ow 2 0 k]]⟩,ro 0 104 3 (Av 106 3) d.decls,ro 0 50 5 (Am 3 3 3 48 80) q,⟨0,30,2,[[ow 4 0 d.decls,ow 5 0 q]]⟩]⟩) N (0,d.AB,E.map some) ⟨p,GI.init E⟩ (by refine Wk.trans (Wk.Ct (L:=[(2,.ptr 1 0 0 0),(4,.ptr 3 0 0 0),(15,.ptr 6 0 0 0),(101,i64 (Sh.len d.AB)),(102,i64 0)]) (st':=[⟨1,30,2,[]⟩,GF,ro 0 75 1 eV E,⟨0,74,1,[[ow 2 0 E]]⟩,ro 0 104 3 (Av 106 3) d.decls,ro 0 50 5 (Am 3 3 3 48 80) d.AB,⟨0,30,2,[[ow 4 0 d.decls,ow 5 0 d.AB]]⟩]) (id:=0) rfl (mi _) (TQ AA) (.same AA) rfl) (CB (st':=[⟨1,30,2,[]⟩,GF,ro 0 75 1 eG (E.map some),⟨0,74,1,[[ow 2 0 (E.map some)]]⟩,ro 0 104 3 (Av 106 3) d.decls,ro 0 50 5 (Am 3 3 3 48 80) d.AB,⟨0,30,2,[[ow 4 0 d.decls,ow 5 0 d.AB]]⟩]) ?_);simp only[ro,ow,fh,mf]) (λ_ T=>by have h:=T.1;rw[EH]at h;cases h) ?_);rintro n ⟨f,q,k⟩ ⟨p,c9⟩;try dsimp only at p c9⊢
     rw[EH]at p;refine zr tb AA AA (AD λv3 g6=>?_);refine ci p AA ?_ ?_<;>intro v4 p
     ·refine AH (g6 _ (AD λv5 g7=>AK (zr tb AA AA (bs p λt c3 p=>bs p λb U p=>?_))));have gx:=c9.get c3;refine AJ (Fi (id:=2) (j:=0) (i:=f) (c:=some t) (ys:=t) (encY:=eI) (x:=[.dv 3 1 (t.map eI)]) (x':=[ow 7 0 t]) (st':=[aF,GF,fQ k f t,SC k,GM d.decls,JU q,ae d.decls q,Bw t]) rfl gx AA AA AA AA AA) (AJ (Fi (id:=5) (j:=1) (i:=f) (c:=b) (ys:=b.Ao) (encY:=eI) (x:=[.dv 3 1 (b.params.map eI),.dv 3 1 (b.Ao.map eI),.int .i64 b.result,.dv 80 5 (b.body.steps.map (Bb 3 48 80)),.int .i64 b.body.result]) (x':=[.dv 3 1 (b.params.map eI),ow 8 0 b.Ao,.int .i64 b.result,.dv 80 5 (b.body.steps.map (Bb 3 48 80)),.int .i64 b.body.result]) (st':=[aF,GF,fQ k f t,SC k,GM d.decls,⟨0,50,5,hole q (Am 3 3 3 48 80) f [.dv 3 1 (b.params.map eI),ow 8 0 b.Ao,.int .i64 b.result,.dv 80 5 (b.body.steps.map (Bb 3 48 80)),.int .i64 b.body.result]⟩,ae d.decls q,Bw t,Bw b.Ao]) rfl U AA AA AA AA AA) (B3 9 (by kernel_rfl) (by kernel_rfl) (by rfl) ?_));iterate 5 refine yq tb rfl ?_
      refine yz (Xj f) (Rs OZ AA AA AA AA gx) rfl (yz (ow 7 0 t) (DH Qv AA AA (FV gx) rfl) rfl (yz (.ptr 5 0 (Int.toNat f) 0) (Rs Ez AA AA AA AA U) rfl (yq tb AA (BG (cd (x':=[.dv 3 1 (b.params.map eI),ow 7 0 t,.int .i64 b.result,.dv 80 5 (b.body.steps.map (Bb 3 48 80)),.int .i64 b.body.result]) (st':=[aF,GF,fQ k f t,SC k,GM d.decls,⟨0,50,5,hole q (Am 3 3 3 48 80) f [.dv 3 1 (b.params.map eI),ow 7 0 t,.int .i64 b.result,.dv 80 5 (b.body.steps.map (Bb 3 48 80)),.int .i64 b.body.result]⟩,ae d.decls q,Bw t,Bw b.Ao]) AN KL AA AA U AA AA AA qy rfl AA (Aa (Wk.take (id:=5) (m:=7) (j:=1) (i:=f) (c:=b) (ys:=t) (encY:=eI) (x':=[.dv 3 1 (b.params.map eI),.dv 3 1 (t.map eI),.int .i64 b.result,.dv 80 5 (b.body.steps.map (Bb 3 48 80)),.int .i64 b.body.result]) (st':=[aF,GF,fQ k f t,SC k,GM d.decls,⟨0,50,5,hole q (Am 3 3 3 48 80) f [.dv 3 1 (b.params.map eI),.dv 3 1 (t.map eI),.int .i64 b.result,.dv 80 5 (b.body.steps.map (Bb 3 48 80)),.int .i64 b.body.result]⟩,ae d.decls q,⟨1,3,1,[]⟩,Bw b.Ao]) rfl U AA AA AA (by decide) (mi _) (λ_=>AA) rfl AA) (Aa (Cu (id:=5) (i:=f) (u:=(AP.mk b.params t b.result b.body)) (st':=[aF,GF,fQ k f t,SC k,GM d.decls,ro 0 50 5 (Am 3 3 3 48 80) (Sh.put q f (AP.mk b.params t b.result b.body)),ae d.decls q,⟨1,3,1,[]⟩,Bw b.Ao]) rfl AA AA) ?_)))))));refine Aa (Wk.il (id:=2) (i:=f.toNat) (z:=0) (st':=[⟨1,30,2,[]⟩,GF,⟨0,75,1,hole k eG f [.own 0 0 0]⟩,⟨0,74,1,[[ow 2 0 k]]⟩,ro 0 104 3 (Av 106 3) d.decls,ro 0 50 5 (Am 3 3 3 48 80) (Sh.put q f (AP.mk b.params t b.result b.body)),⟨0,30,2,[[ow 4 0 d.decls,ow 5 0 q]]⟩,⟨1,3,1,[]⟩,ro 0 3 1 eI b.Ao]) rfl (FV gx) rfl (by decide) (by rw[QL];rfl)) ?_;refine Aa (Cu (id:=2) (i:=f) (u:=none) (st':=[aF,GF,ro 0 75 1 eG (Sh.put k f none),SC k,GM d.decls,ro 0 50 5 (Am 3 3 3 48 80) (Sh.put q f (AP.mk b.params t b.result b.body)),ae d.decls q,⟨1,3,1,[]⟩,Bw b.Ao]) rfl AA AA) (dn g7 AA (AG AA (zm tb 2 AA ?_)));exact AE (xi (Sh.w (f+1),Sh.put q f (AP.mk b.params t b.result b.body),Sh.put k f none) ⟨p,c9.next c3⟩ (by refine Wk.trans (CB (st:=[⟨1,30,2,[]⟩,GF,ro 0 75 1 eG (Sh.put k f none),⟨0,74,1,[[ow 2 0 k]]⟩,ro 0 104 3 (Av 106 3) d.decls,ro 0 50 5 (Am 3 3 3 48 80) (Sh.put q f (AP.mk b.params t b.result b.body)),⟨0,30,2,[[ow 4 0 d.decls,ow 5 0 q]]⟩,⟨1,3,1,[]⟩,ro 0 3 1 eI b.Ao]) (st':=[⟨1,30,2,[]⟩,GF,ro 0 75 1 eG (Sh.put k f none),⟨0,74,1,[[ow 2 0 (Sh.put k f none)]]⟩,ro 0 104 3 (Av 106 3) d.decls,ro 0 50 5 (Am 3 3 3 48 80) (Sh.put q f (AP.mk b.params t b.result b.body)),⟨0,30,2,[[ow 4 0 d.decls,ow 5 0 (Sh.put q f (AP.mk b.params t b.result b.body))]]⟩,⟨1,3,1,[]⟩,ro 0 3 1 eI b.Ao]) (by simp only[ow,Sh.Ap])) ?_;exact Wk.kz (L:=[(2,.ptr 1 0 0 0),(4,.ptr 3 0 0 0),(15,.ptr 6 0 0 0),(101,i64 (Sh.len d.AB)),(102,i64 (Sh.w (f+1)))]) (st1:=[⟨1,30,2,[]⟩,GF,ro 0 75 1 eG (Sh.put k f none),⟨0,74,1,[[ow 2 0 (Sh.put k f none)]]⟩,ro 0 104 3 (Av 106 3) d.decls,ro 0 50 5 (Am 3 3 3 48 80) (Sh.put q f (AP.mk b.params t b.result b.body)),⟨0,30,2,[[ow 4 0 d.decls,ow 5 0 (Sh.put q f (AP.mk b.params t b.result b.body))]]⟩]) [0,1,2,3,4,5,6] AA (by decide) rfl AA (.pure (λx hx=>by cases hx) (.raw AA AA (.fix (iL AA _) (.raw AA AA (.deep (AS λ_=>AA) (.deep (AS λ_=>AA) (.raw AA AA .nil))))))) (.same AA)))
     ·exact Ad (q3 q (Sh.AF p).symm _ (CC (L:=[(2,BL),(15,SY)]) (st':=(GF::jo d.decls q [])) (st1:=[GF,GM d.decls,JU q,ae d.decls q]) [1,4,5,6] AA AA (.w (.deep (AS λ_=>AA) (.deep (AS λ_=>AA) (.w .nil)))) (.same AA)))
    refine AK (AT (σ:=Bool×List (Bool×List Int)) (λn v=>Ex N p0 n v.1 (v.2.map Prod.snd)=some c0/\v.2.length<=p0.AB.length/\(v.1=false->∀x∈v.2,x.1=true)) (λ(F,a)=>⟨116,AM [(1,.ptr 0 0 0 0),(2,.ptr 1 0 0 0),(4,.ptr 3 0 0 0),(11,.bool F)],[Ob p0.decls p0.AB,GF,ro 0 75 1 eT a,⟨0,74,1,[[ow 2 0 a]]⟩]⟩) N (true,K.map λx=>(false,x)) ⟨by simp only[snd_false];exact p,by simpa using jH c2 m5 m8,by simp⟩ (by refine Wk.trans (CB (st:=[Ob p0.decls p0.AB,GF,ro 0 75 1 (eS eI) K,⟨0,74,1,[[ow 2 0 K]]⟩]) (st':=[Ob p0.decls p0.AB,GF,(ro 0 75 1 eT (K.map λx=>(false,x))),⟨0,74,1,[[(ow 2 0 (K.map λx=>(false,x)))]]⟩]) ?_) (AI AA);simp only[ro,ow,fp,mf]) (λ_ T=>by have h:=T.1;rw[Ex]at h;cases h) ?_);rintro n ⟨F,a⟩ ⟨p,g8,d0⟩;try dsimp only at p g8 d0⊢
    rw[Ex]at p;refine AD λv6 g9=>zr tb AA AA ?_;refine ci p AA ?_ ?_<;>intro q5 p
    ·refine AH (g9 _ (AK (zr tb AA AA (sr AA λv7 h4=>zm tb 2 AA (zl tb AA AA (zq tb AA (dn h4 AA (bs p λd1 B p=>?_))))))));have q6:∀(D:Bool) (G:List (Bool×List Int)),d1=(D,G.map Prod.snd)->G.length<=p0.AB.length->(∀x∈G,x.1=true)->∀s,Wk 0 s ⟨116,AM (Wg [(11,.bool D)]),Qs p0 [ro 0 75 1 eT G,SC G]⟩->(∃v,(Ex N p0 n v.1 (v.2.map Prod.snd)=some c0/\v.2.length<=p0.AB.length/\(v.1=false->∀x∈v.2,x.1=true))/\Wk 0 s ((λ(F,a)=>⟨116,AM (Wg [(11,.bool F)]),Qs p0 [ro 0 75 1 eT a,SC a]⟩) v)):=by
      rintro D G rfl hl ht s P;exact Exists.intro (D,G) (And.intro ⟨p,hl,λ_=>ht⟩ (P.trans (As (L:=(Wg [(11,.bool D)])) (.same AA))))
     clear d0;refine AK (AT (σ:=Bool×Int×List (Bool×List Int)) (λn v=>Ey N p0 n v.1 v.2.1 (v.2.2.map Prod.snd)=some d1/\TI p0.AB.length v.2.1 v.2.2) (λ(M,e,a)=>⟨116,AM [(1,.ptr 0 0 0 0),(2,.ptr 1 0 0 0),(4,.ptr 3 0 0 0),(11,.bool M),(68,ls Ah p0.AB),(69,i64 (Sh.len p0.AB)),(70,i64 e)],[Ob p0.decls p0.AB,GF,ro 0 75 1 eT a,⟨0,74,1,[[ow 2 0 a]]⟩]⟩) N (false,0,a) ⟨B,TI.init g8⟩ (AI AA) (λ_ T=>by have h:=T.1;rw[Ey]at h;cases h) ?_);rintro n ⟨M,e,a⟩ ⟨B,X⟩;try dsimp only at B X⊢
     rw[Ey]at B;refine zr tb AA AA (AD λv8 h5=>?_);refine ci B AA ?_ ?_<;>intro q7 B
     ·refine AH (h5 _ (AD λv9 c4=>AK (sr AA λw0 h6=>zq tb AA (bs B λl h7 B=>zx Ez h7 AA AA AA (zq tb AA (Aj (m:=4) AN MJ AA AA (zq tb AA (Al AN Mo AA AA AA AA AA AA qi rfl (dn h6 AA (bs B λA h8 B=>bs B λg c5 B=>?_))))))))));obtain⟨q8,O⟩:=fH h8;cases q8
      ·refine sr AA λq9 Y=>zm tb 2 AA (zz (Xj e) (Ca OZ AA AA AA AA O) rfl (zz (ls eI A) (DH Qv AA AA (GC O) rfl) rfl (zz (.fn 47 [dX,SY]) (XV AA) rfl (W8 (v':=(ow 5 0 g)) (st':=(Qs p0 ((ro 0 75 1 eT a)::Ya a l [Bw g]))) AN (hb 46) (Jb c5) rfl (.one (.val AA) (.fn (.ptr AA (.cons (.val AA) (.cons (.val AA) (.cons (.val AA) (.cons (.val AA) (.cons (.val AA) .nil))))) (.ptr AA (.cons (lG AA AA) .nil) .nil)) .nil)) rfl (jY (λ_=>AA) mV) rfl AA (zq tb AA (dn Y AA (AD λd2 Z=>bs B λb0 H B=>?_)))))));have b1:∀o,b0=o->∀s,Wk 0 s ⟨116,AM (Wg [(11,.bool o),(12,i64 e),(14,ow 5 0 g),(68,UF p0),(69,WJ p0),(70,i64 e)]),Qs p0 ((ro 0 75 1 eT a)::Ya a l [Bw g])⟩->d2 s:=by
        intro o hq s P;subst b0;refine Z _ (AJ P (AG AA (zm tb 3 AA (zz (Xj e) (Ca OZ AA AA AA AA O) rfl (OF (st':=(Qs p0 (⟨0,75,1,hole a eT e [ow 5 0 g]⟩::Ya a l [Bw g]))) AN Qv AA AA O AA AA AA qt rfl AA (Aa (Wk.take (id:=2) (m:=5) (j:=0) (i:=e) (c:=(false,A)) (ys:=g) (encY:=eI) (x':=[.dv 3 1 (g.map eI)]) (st':=(Qs p0 (⟨0,75,1,hole a eT e [.dv 3 1 (g.map eI)]⟩::Ya a l [⟨1,3,1,[]⟩]))) rfl O AA AA AA (by decide) (mi _) (λ_=>AA) rfl AA) (Aa (Cu (id:=2) (i:=e) (u:=(true,g)) (st':=(Qs p0 ((ro 0 75 1 eT (Sh.put a e (true,g)))::Ya a l [⟨1,3,1,[]⟩]))) rfl AA AA) (dn c4 AA (AG AA (zm tb 2 AA ?_))))))))));exact AE (xi (o,Sh.w (e+1),Sh.put a e (true,g)) ⟨by simp only[ZM];exact B,X.next O⟩ (by refine Wk.trans (CB (st':=[Ob p0.decls p0.AB,GF,ro 0 75 1 eT (Sh.put a e (true,g)),⟨0,74,1,[[ow 2 0 (Sh.put a e (true,g))]]⟩,eZ l.params l.Ao l.result l.body.steps l.body.result,⟨1,3,1,[]⟩]) (by simp only[ow,Sh.Ap])) ?_;exact CC (L:=[(1,.ptr 0 0 0 0),(2,.ptr 1 0 0 0),(4,.ptr 3 0 0 0),(11,.bool o),(68,ls Ah p0.AB),(69,i64 (Sh.len p0.AB)),(70,i64 (Sh.w (e+1)))]) (st1:=[Ob p0.decls p0.AB,GF,ro 0 75 1 eT (Sh.put a e (true,g)),⟨0,74,1,[[ow 2 0 (Sh.put a e (true,g))]]⟩]) [0,1,2,3] AA AA (.w (.w (.deep (AS cE) (.w .nil)))) (.same AA)))
       refine AG AA (zm tb 2 AA ?_);rcases Sh.Ab H with ⟨y,H⟩|⟨y,H⟩
       ·refine zs y AA ?_;iterate 7 refine zs y rfl ?_
        exact zt y AA (zq tb AA (AE (b1 true (Sh.AF H).symm _ (AI AA))))
       ·exact zg tb y AA (At (v:=(Fb g)) (BI AA AA y) rfl (E9 Za AA AA AA) (zg tb y AA (zg tb y AA (At (v:=(Xj e)) (BI AA AA y) rfl (Ca OZ AA AA AA AA O) (At (v:=(ls eI A)) (BI AA AA y) rfl (DH Qv AA AA (GC O) rfl) (At (v:=(Fb A)) (BI AA AA y) rfl (Bo Za AA) (zg tb y AA (zf y AA (zq tb AA (AE (b1 (decide ((Sh.len g)<(Sh.len A))) (Sh.AF H).symm _ (AI AA))))))))))))
      ·refine sr AA λq9 Y=>zm tb 2 AA (Aa (Fi (id:=2) (j:=0) (i:=e) (c:=(true,A)) (ys:=A) (encY:=eI) (x:=[.dv 3 1 (A.map eI)]) (x':=[ow 5 0 A]) (st':=[Ob p0.decls p0.AB,GF,⟨0,75,1,hole a eT e [ow 5 0 A]⟩,⟨0,74,1,[[ow 2 0 a]]⟩,eZ l.params l.Ao l.result l.body.steps l.body.result,ro 0 3 1 eI A]) rfl O AA AA AA AA AA) (zz (.ptr 2 0 (Int.toNat e) 0) (Rs OZ AA AA AA AA O) rfl (zz (ow 5 0 A) (DH Qv AA AA (FV O) rfl) rfl (zz (.fn 47 [.ptr 4 0 0 0,.ptr 3 0 0 0]) (XV AA) rfl (W8 (v':=(ow 6 0 g)) (st':=[Ob p0.decls p0.AB,GF,⟨0,75,1,hole a eT e [ow 5 0 A]⟩,⟨0,74,1,[[ow 2 0 a]]⟩,eZ l.params l.Ao l.result l.body.steps l.body.result,ro 0 3 1 eI A,ro 0 3 1 eI g]) AN (hb 46) (Jb c5) rfl (.one (.own AA AA (λ_=>AA) (λ_=>N9 AA)) (.fn (.ptr AA (.cons (.val AA) (.cons (.val AA) (.cons (.val AA) (.cons (.val AA) (.cons (.val AA) .nil))))) (.ptr AA (.cons (lj AA AA O (.own AA AA (λ_=>AA) .nil)) .nil) .nil)) .nil)) rfl (jY (λ_=>AA) mV) rfl AA (zq tb AA (dn Y AA (AD λd2 Z=>bs B λb0 H B=>?_))))))));have b1:∀o,b0=o->∀s,Wk 0 s ⟨116,AM (Wg [(11,.bool o),(12,i64 e),(14,ow 6 0 g),(68,UF p0),(69,WJ p0),(70,i64 e)]),Qs p0 (⟨0,75,1,hole a eT e [ow 5 0 A]⟩::Ya a l [Bw A,Bw g])⟩->d2 s:=by
        intro o hq s P;subst b0;refine Z _ (AJ P (AG AA (zm tb 3 AA (zz (Xj e) (Rs OZ AA AA AA AA O) rfl (cd (x':=[ow 6 0 g]) (st':=(Qs p0 (⟨0,75,1,hole a eT e [ow 6 0 g]⟩::Ya a l [Bw A,Bw g]))) AN Qv AA AA O AA AA AA ql rfl AA (Aa (Wk.take (id:=2) (m:=6) (j:=0) (i:=e) (c:=(true,A)) (ys:=g) (encY:=eI) (x':=[.dv 3 1 (g.map eI)]) (st':=(Qs p0 (⟨0,75,1,hole a eT e [.dv 3 1 (g.map eI)]⟩::Ya a l [Bw A,⟨1,3,1,[]⟩]))) rfl O AA AA AA (by decide) (mi _) (λ_=>AA) rfl AA) (Aa (Cu (id:=2) (i:=e) (u:=(true,g)) (st':=(Qs p0 ((ro 0 75 1 eT (Sh.put a e (true,g)))::Ya a l [Bw A,⟨1,3,1,[]⟩]))) rfl AA AA) (dn c4 AA (AG AA (zm tb 2 AA ?_))))))))));exact AE (xi (o,Sh.w (e+1),Sh.put a e (true,g)) ⟨by simp only[ZM];exact B,X.next O⟩ (by refine Wk.trans (CB (st':=[Ob p0.decls p0.AB,GF,ro 0 75 1 eT (Sh.put a e (true,g)),⟨0,74,1,[[ow 2 0 (Sh.put a e (true,g))]]⟩,eZ l.params l.Ao l.result l.body.steps l.body.result,ro 0 3 1 eI A,⟨1,3,1,[]⟩]) (by simp only[ow,Sh.Ap])) ?_;exact CC (L:=[(1,.ptr 0 0 0 0),(2,.ptr 1 0 0 0),(4,.ptr 3 0 0 0),(11,.bool o),(68,ls Ah p0.AB),(69,i64 (Sh.len p0.AB)),(70,i64 (Sh.w (e+1)))]) (st1:=[Ob p0.decls p0.AB,GF,ro 0 75 1 eT (Sh.put a e (true,g)),⟨0,74,1,[[ow 2 0 (Sh.put a e (true,g))]]⟩]) [0,1,2,3] AA AA (.w (.w (.deep (AS cE) (.w .nil)))) (.same AA)))
       refine AG AA (zm tb 2 AA ?_);rcases Sh.Ab H with ⟨y,H⟩|⟨y,H⟩
       ·refine zs y AA ?_;iterate 7 refine zs y rfl ?_
        exact zt y AA (zq tb AA (AE (b1 true (Sh.AF H).symm _ (AI AA))))
       ·exact zg tb y AA (At (v:=(Fb g)) (BI AA AA y) rfl (E9 Za AA AA AA) (zg tb y AA (zg tb y AA (At (v:=(Xj e)) (BI AA AA y) rfl (Rs OZ AA AA AA AA O) (At (v:=(ow 5 0 A)) (BI AA AA y) rfl (DH Qv AA AA (FV O) rfl) (At (v:=(Fb A)) (BI AA AA y) rfl (E9 Za AA AA AA) (zg tb y AA (zf y AA (zq tb AA (AE (b1 (decide ((Sh.len g)<(Sh.len A))) (Sh.AF H).symm _ (AI AA))))))))))))
     ·have t0:(p0.AB.length:Int)<=e:=Int.not_lt.1 (pg q7);exact Ad (q6 M a (Sh.AF B).symm X.1 (X.all t0) _ (AI AA))
    ·have ht:=d0 (by simpa using q5);exact Ad (q1 (a.map Prod.snd) (Sh.AF p).symm _ (by refine Wk.trans (CB (st:=[Ob p0.decls p0.AB,GF,ro 0 75 1 eT a,⟨0,74,1,[[ow 2 0 a]]⟩]) (st':=[Ob p0.decls p0.AB,GF,ro 0 75 1 eV (a.map Prod.snd),⟨0,74,1,[[ow 2 0 (a.map Prod.snd)]]⟩]) ?_) (AI AA);simp only[ro,ow,ir ht,mf]))
   refine AK (AT (σ:=Int×(List (List Int))) (λn v=>CJ N p0 n v.1 v.2=some c7) (λ(d3,Q)=>⟨116,AM [(1,.ptr 0 0 0 0),(2,.ptr 1 0 0 0),(4,.ptr 3 0 0 0),(55,ls Ah p0.AB),(56,i64 (Sh.len p0.AB)),(57,i64 d3)],[Ob p0.decls p0.AB,GF,ro 0 75 1 (eS eI) Q,⟨0,74,1,[[ow 2 0 Q]]⟩]⟩) N (0,W) p (AI AA) (λ_ T=>by rw[CJ]at T;cases T) ?_);rintro n ⟨d3,Q⟩ p;rw[CJ]at p;refine zr tb AA AA (AD λw1 h9=>?_);refine ci p AA ?_ ?_<;>intro w2 p
   ·refine AH (h9 _ (AD λw3 k0=>AK (sr AA λw4 k1=>bs p λb2 k2 p=>zx Ez k2 AA AA AA (zq tb AA (Aj (m:=4) AN MJ AA AA (Al AN Mo AA AA AA AA AA AA qi rfl (dn k1 AA (AG AA (zm tb 2 AA (zz (.fn 45 [SY]) (XV AA) rfl (bs p λS k3 p=>E2 (rowsP:=[⟨0,74,1,[[eM Q]]⟩,hZ Q]) (rows0:=(dQ Q)) (rows1:=(dQ S)) (rows2:=[]) (rows1':=[⟨0,74,1,[[eM S]]⟩,hZ S]) (rows2':=[]) (st':=[⟨0,30,2,kt p0⟩,GF,hZ S,⟨0,74,1,[[eM S]]⟩,⟨0,50,5,[[.sl (List.map eI b2.params),.sl (List.map eI b2.Ao),i64 b2.result,.sl (List.map Bk b2.body.steps),i64 b2.body.result]]⟩]) (v':=(.C7 [])) [3,2] AN (hb 44) (Of k3) rfl (by decide) rfl AA (.raw AA AA (.pure (Ac λ_=>AA) .nil)) rfl AA (.raw AA AA (.pure (Ac λ_=>AA) .nil)) .nil AA AA (λt1=>?_))))))))))));have t6:List.length S=List.length Q:=by simpa only[mf] using t1 1 _ _ rfl rfl rfl
    exact dn k0 AA (AG AA (zm tb 2 AA (AE (xi (Sh.w (d3+1),S) p (Ag [0,1,2,3] AA AA (.w (.w (.p (.w .nil)))) (.same AA))))))
   ·exact Ad (m9 Q (Sh.AF p).symm _ (AI AA))
  refine AK (AT (σ:=Int×(List (List Int))) (λn v=>CL N p0 n v.1 v.2=some c6) (λ(C,b3)=>⟨116,AM [(1,.ptr 0 0 0 0),(2,.ptr 1 0 0 0),(4,.ptr 3 0 0 0),(26,ls Ah p0.AB),(27,i64 (Sh.len p0.AB)),(28,i64 C)],[Ob p0.decls p0.AB,GF,ro 0 75 1 (eS eI) b3,⟨0,74,1,[[ow 2 0 b3]]⟩]⟩) N (0,m3) p (AI AA) (λ_ T=>by rw[CL]at T;cases T) ?_);rintro n ⟨C,b3⟩ p;rw[CL]at p;refine zr tb AA AA (AD λw5 k4=>?_);refine ci p AA ?_ ?_<;>intro w6 p
  ·refine AH (k4 _ (AD λt2 k5=>AK (sr AA λw7 k6=>zq tb AA (bs p λb4 k7 p=>zx Ez k7 AA AA AA (zq tb AA (Aj (m:=4) AN MJ AA AA (zq tb AA (Al AN Mo AA AA AA AA AA AA qi rfl (dn k6 AA (sr AA λw8 k8=>zm tb 2 AA (zl tb AA AA (zq tb AA (dn k8 AA (bs p λd4 B p=>?_))))))))))))));have t3:∀b7,d4=b7->∀s,Wk 0 s ⟨116,AM (Wg [(26,UF p0),(27,WJ p0),(28,i64 C)]),Qs p0 [ro 0 75 1 (eS eI) b7,SC b7]⟩->t2 s:=by
    intro b7 hq s P;subst d4;exact k5 _ (AJ P (AG AA (zm tb 2 AA (AE (xi (Sh.w (C+1),b7) p (AI AA))))))
   refine AK (AT (σ:=Int×(List (List Int))) (λn v=>Ck N b4 C n v.1 v.2=some d4) (λ(c1,I)=>⟨116,AM [(1,.ptr 0 0 0 0),(2,.ptr 1 0 0 0),(4,.ptr 3 0 0 0),(5,i64 C),(26,ls Ah p0.AB),(27,i64 (Sh.len p0.AB)),(28,i64 C),(34,ls eI b4.params),(35,i64 (Sh.len b4.params)),(36,i64 c1)],[Ob p0.decls p0.AB,GF,ro 0 75 1 (eS eI) I,⟨0,74,1,[[ow 2 0 I]]⟩]⟩) N (0,b3) B (Ag [0,1,2,3] AA AA (.w (.w (.p (.w .nil)))) (.same AA)) (λ_ T=>by rw[Ck]at T;cases T) ?_);rintro n ⟨c1,I⟩ B;rw[Ck]at B;refine zr tb AA AA (AD λw9 k9=>?_);refine ci B AA ?_ ?_<;>intro A0 B
   ·refine AH (k9 _ (AD λt4 l0=>bs B λl1 H B=>?_));have l2:∀b9,l1=b9->∀s,Wk 0 s ⟨116,AM (Wg [(5,i64 C),(26,UF p0),(27,WJ p0),(28,i64 C),(34,ls eI b4.params),(35,Fb b4.params),(36,i64 c1)]),Qs p0 [ro 0 75 1 (eS eI) b9,SC b9]⟩->t4 s:=by
     intro b9 hq s P;subst l1;exact l0 _ (AJ P (AG AA (zm tb 2 AA (AE (xi (Sh.w (c1+1),b9) B (AI AA))))))
    refine AK (sr AA λA1 l3=>zq tb AA (bs H λl4 l5 H=>zx BH l5 AA AA AA (zm tb 3 AA (dn l3 AA (zr tb AA AA ?_)))));refine ci H AA ?_ ?_<;>intro l6 H
    ·have A2:decide (l4=0)=false:=by simpa using l6
     refine B3 9 (by kernel_rfl) (by kernel_rfl) (by rfl) ?_;iterate 4 refine yq tb rfl ?_
     refine bs H λt5 V H=>yz (Xj C) (Ca OZ AA AA AA AA V) rfl (yz (ls eI t5) (DH Qv AA AA (GC V) rfl) rfl (yq tb AA (bs H λJ d5 H=>CU (v:=(ls eI J)) AN (hb 43) (PI d5) rfl AA AA (yz (Xj C) (Ca OZ AA AA AA AA V) rfl (BG (J4 (u':=J) AN Qv AA AA V AA AA AA ql rfl AA ?_))))));exact AE (l2 (Sh.put I C J) (Sh.AF H).symm _ (by refine Wk.trans (CB (st:=[⟨0,30,2,[[.sl (List.map Ak p0.decls),.sl (List.map Ah p0.AB)]]⟩,GF,⟨0,75,1,List.map (eS eI) (Sh.put I C J)⟩,⟨0,74,1,[[.own 2 0 (List.length I)]]⟩]) (st':=[⟨0,30,2,[[.sl (List.map Ak p0.decls),.sl (List.map Ah p0.AB)]]⟩,GF,⟨0,75,1,List.map (eS eI) (Sh.put I C J)⟩,⟨0,74,1,[[.own 2 0 (List.length (Sh.put I C J))]]⟩]) (by simp only[Sh.Ap])) ?_;exact AI AA))
    ·have t7:decide (l4=0)=true:=by simpa using l6
     exact AH (l2 I (Sh.AF H).symm _ (AI AA))
   ·exact Ad (t3 I (Sh.AF B).symm _ (AI AA))
  ·exact Ad (m6 b3 (Sh.AF p).symm _ (AI AA))
theorem JR {N:Nat}{p0:(List Int)}{p1:(List Int)}{r:Bool}(h0:Gr N p0 p1=some r):Ay 148 [ls eI p0,ls eI p1] [] (.bool r) []:=by
 unfold Gr at h0;refine ai Tryz.func148 AA AA AA AA (zr tb AA AA (AD λG m=>sr AA λH o=>zq tb AA (zl tb AA AA (zq tb AA (zl tb AA AA (zq tb AA (dn o AA ?_)))))));refine ci h0 AA ?_ ?_<;>intro t h0
 ·have I:decide ((Sh.len p0)=(Sh.len p1))=false:=by simpa using t
  refine zr tb AA AA ?_;cases h0;exact rt [(4,.bool false)]
 ·have J:decide ((Sh.len p0)=(Sh.len p1))=true:=by simpa using t
  refine AH (m _ (AD λx p=>zr tb AA AA ?_));obtain⟨b,a,h0⟩:=Sh.Ar h0;have q:∀(_:Unit),b=Sum.inr ()->∀s,Wk 0 s ⟨26,AM [],[]⟩->x s:=by
   intro _ K s y;subst b;refine p _ (AJ y (zr tb AA AA ?_));cases h0;exact rt [(4,.bool true)]
  refine AK (AT (σ:=Int) (λn v=>Ev p0 p1 n v=some b) (λc=>⟨26,AM [(0,ls eI p0),(1,ls eI p1),(5,i64 c)],[]⟩) N 0 a (AI AA) (λ_ u=>by rw[Ev]at u;cases u) ?_);rintro n c a;rw[Ev]at a;refine AD λz d=>sr AA λA e=>zm tb 2 AA (zl tb AA AA (zq tb AA (dn e AA ?_)));refine ci a AA ?_ ?_<;>intro B a
  ·refine AH (d _ (AD λC f=>AK (AD λD g=>Bv (by kernel_rfl) (by kernel_rfl) (by rfl) ?_)));iterate 2 refine yq tb rfl ?_
   refine bs a λh i a=>yx BH i AA AA AA ?_;iterate 3 refine yq tb rfl ?_
   refine bs a λj k a=>yx BH k AA AA AA ?_;iterate 2 refine yq tb rfl ?_
   refine BG (g _ ?_);refine ci a AA ?_ ?_<;>intro l a
   ·have E:decide (h=j)=false:=by simpa using l
    refine zr tb AA AA ?_;cases a;cases h0;exact rt [(4,.bool false)]
   ·have F:decide (h=j)=true:=by simpa using l
    exact AH (f _ (AG AA (zm tb 3 AA (AE (xi (Sh.w (c+1)) a (AI AA))))))
  ·exact Ad (q () (Sh.AF a).symm _ (AI AA))
theorem Vi {N:Nat}{p0 p1:BN}{r:Bool}(h0:LL N p0 p1=some r):Ay 211 [.agg (BR p0),.agg (BR p1)] [] (.bool r) []:=by
 unfold LL at h0;refine ai Tryz.func211 AA AA AA AA (sr AA λg a=>Az (m:=0) AN AA AA AA AA AA (Az (m:=1) AN AA AA AA AA AA (zq tb AA (dn a AA (AD λh b=>sr AA λi c=>zm tb 4 AA (bs h0 λe d h0=>zc (hb 148) (JR d) rfl AA AA (zq tb AA (dn c AA ?_))))))));refine ci h0 AA ?_ ?_<;>intro f h0
 ·have j:e=false:=by simpa using f
  refine zr tb AA AA ?_;cases h0;exact rd [(4,.bool false)]
 ·have k:e=true:=by simpa using f
  refine AH (b _ (zr tb AA AA ?_));cases h0;exact rd [(4,.bool true)]
theorem UD {N:Nat}{p0:(List BN)}{p1:(List BN)}{r:Bool}(h0:Js N p0 p1=some r):Ay 147 [ls BR p0,ls BR p1] [] (.bool r) []:=by
 unfold Js at h0;refine ai Tryz.func147 AA AA AA AA (zr tb AA AA (AD λI m=>sr AA λJ o=>zq tb AA (zl tb AA AA (zq tb AA (zl tb AA AA (zq tb AA (dn o AA ?_)))))));refine ci h0 AA ?_ ?_<;>intro t h0
 ·have K:decide ((Sh.len p0)=(Sh.len p1))=false:=by simpa using t
  refine zr tb AA AA ?_;cases h0;exact rt [(4,.bool false)]
 ·have L:decide ((Sh.len p0)=(Sh.len p1))=true:=by simpa using t
  refine AH (m _ (AD λx p=>zr tb AA AA ?_));obtain⟨b,a,h0⟩:=Sh.Ar h0;have q:∀(_:Unit),b=Sum.inr ()->∀s,Wk 0 s ⟨27,AM [],[]⟩->x s:=by
   intro _ M s y;subst b;refine p _ (AJ y (zr tb AA AA ?_));cases h0;exact rt [(4,.bool true)]
  refine AK (AT (σ:=Int) (λn v=>FN N p0 p1 n v=some b) (λc=>⟨27,AM [(0,ls BR p0),(1,ls BR p1),(5,i64 c)],[]⟩) N 0 a (AI AA) (λ_ u=>by rw[FN]at u;cases u) ?_);rintro n c a;rw[FN]at a;refine AD λz e=>sr AA λA f=>zm tb 2 AA (zl tb AA AA (zq tb AA (dn f AA ?_)));refine ci a AA ?_ ?_<;>intro B a
  ·refine AH (e _ (AD λC g=>AK (AD λD h=>Bv (by kernel_rfl) (by kernel_rfl) (by rfl) ?_)));iterate 2 refine yq tb rfl ?_
   refine bs a λE i a=>yx HC i AA AA AA ?_;iterate 3 refine yq tb rfl ?_
   refine bs a λF j a=>yx HC j AA AA AA (yq tb AA (bs a λd k a=>CU (v:=(.bool d)) AN (hb 211) (Vi k) rfl AA AA (yq tb AA (BG (h _ ?_)))));refine ci a AA ?_ ?_<;>intro l a
   ·have G:d=false:=by simpa using l
    refine zr tb AA AA ?_;cases a;cases h0;exact rt [(4,.bool false)]
   ·have H:d=true:=by simpa using l
    exact AH (g _ (AG AA (zm tb 3 AA (AE (xi (Sh.w (c+1)) a (AI AA))))))
  ·exact Ad (q () (Sh.AF a).symm _ (AI AA))
theorem UE {N:Nat}{p0 p1:AR}{r:Bool}(h0:Jl N p0 p1=some r):Ay 81 [Rn p0,Rn p1] [] (.bool r) []:=by
 unfold Jl at h0;refine ai Tryz.func81 AA AA AA AA (sr AA λs g=>Az (m:=0) AN AA AA AA AA AA (Az (m:=1) AN AA AA AA AA AA (zq tb AA (dn g AA (AD λt h=>zr tb AA AA ?_)))));refine ci h0 AA ?_ ?_<;>intro j h0
 ·have u:decide (p0.from_=p1.from_)=false:=by simpa using j
  refine zr tb AA AA ?_;cases h0;exact rd [(4,.bool false)]
 ·have w:decide (p0.from_=p1.from_)=true:=by simpa using j
  refine AH (h _ (AD λx i=>zr tb AA AA ?_));refine ci h0 AA ?_ ?_<;>intro a h0
  ·have k:decide (p0.to=p1.to)=false:=by simpa using a
   refine zr tb AA AA ?_;cases h0;exact rd [(4,.bool false)]
  ·have l:decide (p0.to=p1.to)=true:=by simpa using a
   refine AH (i _ (AD λn b=>sr AA λo c=>zm tb 4 AA (bs h0 λd e h0=>zc (hb 147) (UD e) rfl AA AA (zq tb AA (dn c AA ?_)))));refine ci h0 AA ?_ ?_<;>intro f h0
   ·have p:d=false:=by simpa using f
    refine zr tb AA AA ?_;cases h0;exact rd [(4,.bool false)]
   ·have q:d=true:=by simpa using f
    refine AH (b _ (zr tb AA AA ?_));cases h0;exact rd [(4,.bool true)]
theorem TB {N:Nat}{p0:(List AR)}{p1:(List AR)}{r:Bool}(h0:JC N p0 p1=some r):Ay 36 [Df p0,Df p1] [] (.bool r) []:=by
 unfold JC at h0;refine ai Tryz.func36 AA AA AA AA (zr tb AA AA (AD λI m=>sr AA λJ o=>zq tb AA (zl tb AA AA (zq tb AA (zl tb AA AA (zq tb AA (dn o AA ?_)))))));refine ci h0 AA ?_ ?_<;>intro t h0
 ·have K:decide ((Sh.len p0)=(Sh.len p1))=false:=by simpa using t
  refine zr tb AA AA ?_;cases h0;exact rt [(4,.bool false)]
 ·have L:decide ((Sh.len p0)=(Sh.len p1))=true:=by simpa using t
  refine AH (m _ (AD λx p=>zr tb AA AA ?_));obtain⟨b,a,h0⟩:=Sh.Ar h0;have q:∀(_:Unit),b=Sum.inr ()->∀s,Wk 0 s ⟨27,AM [],[]⟩->x s:=by
   intro _ M s y;subst b;refine p _ (AJ y (zr tb AA AA ?_));cases h0;exact rt [(4,.bool true)]
  refine AK (AT (σ:=Int) (λn v=>E5 N p0 p1 n v=some b) (λc=>⟨27,AM [(0,ls Ak p0),(1,ls Ak p1),(5,i64 c)],[]⟩) N 0 a (AI AA) (λ_ u=>by rw[E5]at u;cases u) ?_);rintro n c a;rw[E5]at a;refine AD λz e=>sr AA λA f=>zm tb 2 AA (zl tb AA AA (zq tb AA (dn f AA ?_)));refine ci a AA ?_ ?_<;>intro B a
  ·refine AH (e _ (AD λC g=>AK (AD λD h=>Bv (by kernel_rfl) (by kernel_rfl) (by rfl) ?_)));iterate 2 refine yq tb rfl ?_
   refine bs a λE i a=>yx DZ i AA AA AA ?_;iterate 3 refine yq tb rfl ?_
   refine bs a λF j a=>yx DZ j AA AA AA (yq tb AA (bs a λd k a=>CU (v:=(.bool d)) AN (hb 81) (UE k) rfl AA AA (yq tb AA (BG (h _ ?_)))));refine ci a AA ?_ ?_<;>intro l a
   ·have G:d=false:=by simpa using l
    refine zr tb AA AA ?_;cases a;cases h0;exact rt [(4,.bool false)]
   ·have H:d=true:=by simpa using l
    exact AH (g _ (AG AA (zm tb 3 AA (AE (xi (Sh.w (c+1)) a (AI AA))))))
  ·exact Ad (q () (Sh.AF a).symm _ (AI AA))
theorem Rr {N:Nat}{rJ:Block->Block->Option (Bool)}(rk :∀{p0:Block} {p1:Block} {r:Bool},rJ p0 p1=some r->Ay 149 [DS p0,DS p1] [] (.bool r) []){p0:(List Block)}{p1:(List Block)}{r:Bool}(h0:Jm N rJ p0 p1=some r):Ay 281 [ls Bg p0,ls Bg p1] [] (.bool r) []:=by
 unfold Jm at h0;refine ai Tryz.func281 AA AA AA AA (zr tb AA AA (AD λI m=>sr AA λJ o=>zq tb AA (zl tb AA AA (zq tb AA (zl tb AA AA (zq tb AA (dn o AA ?_)))))));refine ci h0 AA ?_ ?_<;>intro t h0
 ·have K:decide ((Sh.len p0)=(Sh.len p1))=false:=by simpa using t
  refine zr tb AA AA ?_;cases h0;exact rt [(4,.bool false)]
 ·have L:decide ((Sh.len p0)=(Sh.len p1))=true:=by simpa using t
  refine AH (m _ (AD λx p=>zr tb AA AA ?_));obtain⟨b,a,h0⟩:=Sh.Ar h0;have q:∀(_:Unit),b=Sum.inr ()->∀s,Wk 0 s ⟨27,AM [],[]⟩->x s:=by
   intro _ M s y;subst b;refine p _ (AJ y (zr tb AA AA ?_));cases h0;exact rt [(4,.bool true)]
  refine AK (AT (σ:=Int) (λn v=>D3 p0 p1 rJ n v=some b) (λc=>⟨27,AM [(0,ls Bg p0),(1,ls Bg p1),(5,i64 c)],[]⟩) N 0 a (AI AA) (λ_ u=>by rw[D3]at u;cases u) ?_);rintro n c a;rw[D3]at a;refine AD λz e=>sr AA λA f=>zm tb 2 AA (zl tb AA AA (zq tb AA (dn f AA ?_)));refine ci a AA ?_ ?_<;>intro B a
  ·refine AH (e _ (AD λC g=>AK (AD λD h=>Bv (by kernel_rfl) (by kernel_rfl) (by rfl) ?_)));iterate 2 refine yq tb rfl ?_
   refine bs a λE i a=>yx Hs i AA AA AA ?_;iterate 3 refine yq tb rfl ?_
   refine bs a λF j a=>yx Hs j AA AA AA (yq tb AA (bs a λd k a=>CU (v:=(.bool d)) AN (hb 149) (rk k) rfl AA AA (yq tb AA (BG (h _ ?_)))));refine ci a AA ?_ ?_<;>intro l a
   ·have G:d=false:=by simpa using l
    refine zr tb AA AA ?_;cases a;cases h0;exact rt [(4,.bool false)]
   ·have H:d=true:=by simpa using l
    exact AH (g _ (AG AA (zm tb 3 AA (AE (xi (Sh.w (c+1)) a (AI AA))))))
  ·exact Ad (q () (Sh.AF a).symm _ (AI AA))
theorem T8 {N:Nat}{rJ:Block->Block->Option (Bool)}(rk :∀{p0:Block} {p1:Block} {r:Bool},rJ p0 p1=some r->Ay 149 [DS p0,DS p1] [] (.bool r) []){p0 p1:Step}{r:Bool}(h0:J3 N rJ p0 p1=some r):Ay 266 [Od p0,Od p1] [] (.bool r) []:=by
 unfold J3 at h0;refine ai Tryz.func266 AA AA AA AA (sr AA λH o=>Az (m:=0) AN AA AA AA AA AA (Az (m:=1) AN AA AA AA AA AA (zq tb AA (dn o AA (AD λI p=>zr tb AA AA ?_)))));refine ci h0 AA ?_ ?_<;>intro s h0
 ·have J:decide (p0.op=p1.op)=false:=by simpa using s
  refine zr tb AA AA ?_;cases h0;exact rd [(4,.bool false)]
 ·have K:decide (p0.op=p1.op)=true:=by simpa using s
  refine AH (p _ (AD λL q=>zr tb AA AA ?_));refine ci h0 AA ?_ ?_<;>intro a h0
  ·have t:decide (p0.num=p1.num)=false:=by simpa using a
   refine zr tb AA AA ?_;cases h0;exact rd [(4,.bool false)]
  ·have u:decide (p0.num=p1.num)=true:=by simpa using a
   refine AH (q _ (AD λw b=>zr tb AA AA ?_));refine ci h0 AA ?_ ?_<;>intro c h0
   ·have x:decide (p0.A5=p1.A5)=false:=by simpa using c
    refine zr tb AA AA ?_;cases h0;exact rd [(4,.bool false)]
   ·have y:decide (p0.A5=p1.A5)=true:=by simpa using c
    refine AH (b _ (AD λz d=>sr AA λA e=>zm tb 4 AA (bs h0 λf g h0=>zc (hb 148) (JR g) rfl AA AA (zq tb AA (dn e AA ?_)))));refine ci h0 AA ?_ ?_<;>intro h h0
    ·have B:f=false:=by simpa using h
     refine zr tb AA AA ?_;cases h0;exact rd [(4,.bool false)]
    ·have C:f=true:=by simpa using h
     refine AH (d _ (AD λD i=>sr AA λE j=>zm tb 4 AA (bs h0 λk l h0=>zc (hb 281) (Rr rk l) rfl AA AA (zq tb AA (dn j AA ?_)))));refine ci h0 AA ?_ ?_<;>intro n h0
     ·have F:k=false:=by simpa using n
      refine zr tb AA AA ?_;cases h0;exact rd [(4,.bool false)]
     ·have G:k=true:=by simpa using n
      refine AH (i _ (zr tb AA AA ?_));cases h0;exact rd [(4,.bool true)]
theorem Tf {N:Nat}{rJ:Block->Block->Option (Bool)}(rk :∀{p0:Block} {p1:Block} {r:Bool},rJ p0 p1=some r->Ay 149 [DS p0,DS p1] [] (.bool r) []){p0:(List Step)}{p1:(List Step)}{r:Bool}(h0:Kn N rJ p0 p1=some r):Ay 212 [ls Bk p0,ls Bk p1] [] (.bool r) []:=by
 unfold Kn at h0;refine ai Tryz.func212 AA AA AA AA (zr tb AA AA (AD λI m=>sr AA λJ o=>zq tb AA (zl tb AA AA (zq tb AA (zl tb AA AA (zq tb AA (dn o AA ?_)))))));refine ci h0 AA ?_ ?_<;>intro x h0
 ·have K:decide ((Sh.len p0)=(Sh.len p1))=false:=by simpa using x
  refine zr tb AA AA ?_;cases h0;exact rt [(4,.bool false)]
 ·have L:decide ((Sh.len p0)=(Sh.len p1))=true:=by simpa using x
  refine AH (m _ (AD λz p=>zr tb AA AA ?_));obtain⟨b,a,h0⟩:=Sh.Ar h0;have q:∀(_:Unit),b=Sum.inr ()->∀s,Wk 0 s ⟨27,AM [],[]⟩->z s:=by
   intro _ M s A;subst b;refine p _ (AJ A (zr tb AA AA ?_));cases h0;exact rt [(4,.bool true)]
  refine AK (AT (σ:=Int) (λn v=>EO N p0 p1 rJ n v=some b) (λc=>⟨27,AM [(0,ls Bk p0),(1,ls Bk p1),(5,i64 c)],[]⟩) N 0 a (AI AA) (λ_ y=>by rw[EO]at y;cases y) ?_);rintro n c a;rw[EO]at a;refine AD λB e=>sr AA λC f=>zm tb 2 AA (zl tb AA AA (zq tb AA (dn f AA ?_)));refine ci a AA ?_ ?_<;>intro D a
  ·refine AH (e _ (AD λE g=>AK (AD λF h=>Bv (by kernel_rfl) (by kernel_rfl) (by rfl) ?_)));iterate 2 refine yq tb rfl ?_
   refine bs a λt i a=>yz (Jo t) (Cp FM AA AA i (Be _) rfl) rfl ?_;iterate 3 refine yq tb rfl ?_
   refine bs a λu j a=>yz (Jo u) (Cp FM AA AA j (Be _) rfl) rfl (yq tb AA (bs a λd k a=>CU (v:=(.bool d)) AN (hb 266) (T8 rk k) rfl AA AA (yq tb AA (BG (h _ ?_)))));refine ci a AA ?_ ?_<;>intro l a
   ·have G:d=false:=by simpa using l
    refine zr tb AA AA ?_;cases a;cases h0;exact rt [(4,.bool false)]
   ·have H:d=true:=by simpa using l
    exact AH (g _ (AG AA (zm tb 3 AA (AE (xi (Sh.w (c+1)) a (AI AA))))))
  ·exact Ad (q () (Sh.AF a).symm _ (AI AA))
theorem Rg {N:Nat}{rJ:Block->Block->Option (Bool)}(rk :∀{p0:Block} {p1:Block} {r:Bool},rJ p0 p1=some r->Ay 149 [DS p0,DS p1] [] (.bool r) []){p0 p1:Block}{r:Bool}(h0:JH N rJ p0 p1=some r):Ay 149 [DS p0,DS p1] [] (.bool r) []:=by
 unfold JH at h0;refine ai Tryz.func149 AA AA AA AA (sr AA λk b=>Az (m:=0) AN AA AA AA AA AA (Az (m:=1) AN AA AA AA AA AA (zq tb AA (dn b AA (AD λl c=>sr AA λn d=>zm tb 4 AA (bs h0 λg e h0=>zc (hb 212) (Tf rk e) rfl AA AA (zq tb AA (dn d AA ?_))))))));refine ci h0 AA ?_ ?_<;>intro h h0
 ·have o:g=false:=by simpa using h
  refine zr tb AA AA ?_;cases h0;exact rd [(4,.bool false)]
 ·have p:g=true:=by simpa using h
  refine AH (c _ (AD λq f=>zr tb AA AA ?_));refine ci h0 AA ?_ ?_<;>intro a h0
  ·have i:decide (p0.result=p1.result)=false:=by simpa using a
   refine zr tb AA AA ?_;cases h0;exact rd [(4,.bool false)]
  ·have j:decide (p0.result=p1.result)=true:=by simpa using a
   refine AH (f _ (zr tb AA AA ?_));cases h0;exact rd [(4,.bool true)]
theorem RF {N:Nat}:∀(n:Nat),∀{p0:Block} {p1:Block} {r:Bool},F8 N n p0 p1=some r->Ay 149 [DS p0,DS p1] [] (.bool r) []:=by
 intro n
 induction n with
 | zero=>intro p0 p1 r a;cases a
 | succ n ih=>
  intro p0 p1 r a;rw[F8]at a;exact Rg (λh=>ih h) a
theorem TH {N:Nat}:∀{p0:Block} {p1:Block} {r:Bool},Ks N p0 p1=some r->Ay 149 [DS p0,DS p1] [] (.bool r) []:=by
 intro p0 p1 r a;exact RF N a
end Go.Proofs.YtccficmcdkcpnaaGreat
