import Derived.Test.YtccficmcdkcpnaaGreatCNWalkP4
set_option linter.all false
namespace Go.Proofs.YtccficmcdkcpnaaGreat
open Go Go.Abs RC
attribute [local irreducible] Go.Abs.DX
set_option maxRecDepth 100000
set_option maxHeartbeats 4000000
theorem qy:G7 Tryz.prog 30 1=some 1:=by kernel_rfl
theorem jz:G7 Tryz.prog 50 0=some 0:=by kernel_rfl
theorem pe:G7 Tryz.prog 50 1=some 1:=by kernel_rfl
theorem qx:G7 Tryz.prog 50 2=some 2:=by kernel_rfl
theorem pn:G7 Tryz.prog 50 3=some 3:=by kernel_rfl
theorem QY {N:Nat}{ze:(List AP)->(List Aw)->(List Int)->(List Int)->(List Int)->(List Step)->Block->Option (Block×(List Int)×(List Int)×(List Step))}(hrec_impl_counter_block :∀{zR:(List AP)} {zS:(List Aw)} {zW:(List Int)} {zT:(List Int)} {s1:(List Int)} {s2:(List Step)} {p1:Block} {r:Block×(List Int)×(List Int)×(List Step)},ze zR zS zW zT s1 s2 p1=some r->BH 80 [Ax,DN p1] ((bY zR zS s1 zW zT s2)::Ez s1 s2 []) (dq r.2.2.2 r.1.result) (iJ zR zS r.2.1 r.2.2.1 zT r.2.2.2)){zR:(List AP)}{zS:(List Aw)}{zW:(List Int)}{zT:(List Int)}{s1:(List Int)}{s2:(List Step)}{p1:Block}{r:Block×(List Int)×(List Int)×(List Step)}(h0:Fv N ze zR zS zW zT s1 s2 p1=some r):BH 80 [Ax,DN p1] ((bY zR zS s1 zW zT s2)::Ez s1 s2 []) (dq r.2.2.2 r.1.result) (iJ zR zS r.2.1 r.2.2.1 zT r.2.2.2):=by
 unfold Fv at h0;refine BW.wk (r0:=(dq r.2.2.2 r.1.result)) (st0:=((MY zR zS r.2.1 r.2.2.1 zT r.2.2.2)::KE (Ez r.2.1 r.2.2.2 [⟨0,48,2,[[ow 4 0 r.2.2.2,i64 r.1.result]]⟩]))) ?_ (Gy (L:=[(0,dq r.2.2.2 r.1.result)]) (st':=(iJ zR zS r.2.1 r.2.2.1 zT r.2.2.2)) [0,1,2,3,4] AA (by decide) rfl AA (.raw AA (.pure nN (.pure nN (.pure BB (.deep (AT AN) uM))))) (.same AA));refine Bb Tryz.func80 AA ?_;refine AH (Wk.move (id:=1) (p:=0) (j:=2) (st':=[⟨0,127,6,[[DH zR,RY zS,ow 3 0 s1,ls eI zW,ls eI zT,ow 2 0 s2]]⟩,⟨1,3,1,[]⟩,I0 s2,As s1]) rfl AA (by decide) rfl AA) ?_;refine AH (Wk.move (id:=2) (p:=0) (j:=5) (st':=(iJ zR zS s1 zW zT s2)) rfl AA (by decide) rfl AA) ?_;refine Ab λK1 t7=>CY 5 AA (CY 6 AA (Ac (Wk.Db (L:=[(2,XI),(3,O5 p1)]) (st':=((MY zR zS s1 zW zT s2)::KE (Ez s1 s2 [Ir,jJ]))) (id:=6) rfl (show 3<=6 by decide) (HL AA) (.same AA) rfl) (Cm 7 Lr AA (AR t7 (AB λK2 t8=>Ab λK3 t9=>AM 2 AA (Bd AA (AK AA (AR t9 ?_))))))));refine bs h0 λk0 h1 h0=>?_;have v0:∀W Q k,k0=(W,Q,k)->∀s,Wk 3 s ⟨143,AJ (F5 p1 []),NT zR zS Q W zT k⟩->K2 s:=by
  rintro W Q k rfl s hw;refine t8 _ (AH hw (AB λv1 l3=>bs h0 λl4 h1 h0=>?_));have l5:∀X,l4=X->∀s,Wk 3 s ⟨143,AJ (F5 p1 []),NT zR zS Q W zT X⟩->v1 s:=by
   intro X hq s hw;subst l4;refine l3 _ (AH hw (AB λv8 l8=>?_));refine Ci (by kernel_rfl) ?_;refine FQ (f':=8) (listed':=(bm 8 0)) rfl (by kernel_rfl) ?_;refine hZ 4 (.Bj (pY p1) 1) rfl (Au (GH kT AA AA)) ?_;refine hZ 5 (i64 p1.result) rfl (Ge JR AA AA) ?_;refine FE (D7 λA16 c4=>?_);have c7:A16 0 (bm 8 255) ⟨143,AJ [(4,XI)],((MY zR zS Q W zT X)::KE (Ez Q X [⟨0,48,2,[[ow 4 0 X,i64 p1.result]]⟩]))⟩:=(c4 _ _ _).2 (by
    refine DQ AA (by kernel_rfl) ?_;refine l8 _ ?_;cases h0;exact BP ⟨_,DY [(4,XI)] (.same AA),Lk (.tmp 4) [ow 4 0 X,i64 p1.result] LO AA _ ⟨AA,AA⟩⟩)
   have d0:A16 1 (bm 8 127) ⟨143,AJ [(4,XI),(142,dq X p1.result)],pz zR zS Q W zT X⟩:=(c4 _ _ _).2 (by
    refine ya [7] ⟨?_,uM⟩
    ·refine yo 7 ?_;exact CF LO AA (yd c4 c7))
   have d5:A16 2 (bm 8 63) ⟨143,AJ [(4,XI),(139,ow 4 0 X),(141,i64 p1.result)],pz zR zS Q W zT X⟩:=(c4 _ _ _).2 (by
    refine ya [6] ⟨?_,uM⟩
    ·refine yo 6 ?_;exact zz (dq X p1.result) (Gs kH kO Lr AA AA) rfl (yd c4 d0))
   refine (c4 _ _ _).2 ?_;refine qY tb 0 AA AA ?_;refine hY 1 Ax AA (Bk AA AA) ?_;refine qY tb 2 AA AA ?_;refine qY tb 3 AA AA ?_;exact yw c4 d5 (by exact Da (L:=[(4,XI),(139,ow 4 0 X),(141,i64 p1.result)]) (st':=(pz zR zS Q W zT X)) (st1:=(pz zR zS Q W zT X)) [0,1,2,3,4,6] (.w (.pure nN (.pure nN (.p (.deep (AT AN) (.w .nil)))))) (.same AA))
  refine AS AA (AB λv2 m0=>bs h1 λm1 J h1=>?_);have k1:∀k2,m1=k2->∀s,Wk 3 s ⟨143,AJ (F5 p1 [(12,i64 p1.result),(124,.bool k2)]),NT zR zS Q W zT k⟩->v2 s:=by
   intro k2 hq s hw;subst m1;refine m0 _ (AH hw ?_);refine An h1 ?_ ?_<;>intro v9 h1
   ·refine Ci (by kernel_rfl) ?_;refine bs h1 λq c8 h1=>bs h1 λb7 g5 h1=>?_;refine FQ (f':=12) (listed':=(bm 12 0)) rfl (by kernel_rfl) ?_;refine hZ 5 (i64 p1.result) rfl (Au (BY AA)) ?_;refine FE (D7 λA25 f=>?_);have b3:A25 0 (bm 12 4095) ⟨143,AJ (F5 p1 []),NT zR zS Q W zT b7⟩:=(f _ _ _).2 (by
     refine DQ AA (by kernel_rfl) ?_;exact l5 b7 (Bm h1) _ (DY (F5 p1 []) (.same AA)))
    have K:A25 1 (bm 12 2047) ⟨143,AJ (F5 p1 [(133,ow 4 1 b7),(135,OX)]),bc zR zS Q W zT k b7⟩:=(f _ _ _).2 (by
     refine ya [11] ⟨?_,uM⟩
     ·refine yo 11 ?_;exact CF R8 AA (JY f b3 (by exact EO (L:=(F5 p1 [])) (st':=(NT zR zS Q W zT b7)) (.raw AA AA AA (.pure AA nN (.pure AA nN (.pure AA BB (.deep AA (AT AN) (.raw AA AA AA (.raw AA AA AA .nil))))))) (.same AA))))
    have Z:A25 4 (bm 12 255) ⟨143,AJ (F5 p1 [(125,Ax),(129,ow 4 0 k),(132,.own 7 0 1)]),gS zR zS Q W zT k q⟩:=(f _ _ _).2 (by
     refine ya [8] ⟨?_,uM⟩
     ·refine yo 8 ?_;have k3:=Jg g5;refine LX (st':=((MY zR zS Q W zT k)::KE ((As Q)::(qH b7 k q)::Ir::JO::⟨0,80,5,[nL q]⟩::Jy q []))) (c:=q) BJ Cb AA AA AA AA AA AA AA g5 AA ?_;refine Ac (Wk.take (id:=4) (m:=8) (j:=3) (i:=Sh.len k) (c:=q) (ys:=q.args) (encY:=eI) rfl k3 AA AA AA (by decide) zJ DA AA AA) ?_;refine Ac (Wk.take (id:=4) (m:=9) (j:=4) (i:=Sh.len k) (c:=q) (ys:=q.kids) (encY:=(Bv 3 48 80)) rfl k3 AA AA AA (by decide) zK DA AA AA) ?_;refine Ac (EB (id:=4) (i:=Sh.len k) (c:=q) rfl k3 (CV q).symm AA) (AD ⟨AA,?_⟩);refine hY 9 Ax AA (Bk AA AA) ?_;refine qY tb 10 AA AA ?_;exact yw f K (by exact Da (L:=(F5 p1 [(133,ow 4 1 b7),(135,OX)])) (st':=(bc zR zS Q W zT k b7)) (st1:=(bc zR zS Q W zT k b7)) [0,1,2,3,4,5,6] (.w (.pure nN (.pure nN (.p (.deep (AT AN) (.w (.w .nil))))))) (.same AA)))
    have C:A25 5 (bm 12 127) ⟨143,AJ (F5 p1 [(125,Ax),(129,ow 4 0 k),(131,UQ q)]),qZ zR zS Q W zT k q⟩:=(f _ _ _).2 (by
     refine ya [7] ⟨?_,uM⟩
     ·refine yo 7 ?_;refine D9 9 [()] (λ_=>(lI q)) Cb AA ?_;exact JY f Z (by exact Da (L:=(F5 p1 [(125,Ax),(129,ow 4 0 k),(132,.own 7 0 1)])) (st':=(gS zR zS Q W zT k q)) (st1:=(qz zR zS Q W zT k q)) [0,1,2,3,4,5,6,9,7,8] (.w (.pure nN (.pure nN (.p (.deep (AT AN) (.w (.w (.w (.p (.deep Bi .nil)))))))))) (.same AA)))
    have c1:A25 6 (bm 12 63) ⟨143,AJ (F5 p1 [(125,Ax),(129,ow 4 0 k),(130,i64 p1.result)]),NT zR zS Q W zT k⟩:=(f _ _ _).2 (by
     refine ya [6] ⟨?_,uM⟩
     ·refine yo 6 ?_;exact Dx (UQ q) (Be c8) ⟨(Ar λ_=>AA),⟨Bi,uM⟩⟩ (yd f C))
    have c5:A25 7 (bm 12 47) ⟨143,AJ (F5 p1 [(125,Ax),(128,OX),(130,i64 p1.result)]),NT zR zS Q W zT k⟩:=(f _ _ _).2 (by
     refine ya [4,6] ⟨?_,?_,uM⟩
     ·exact Lq tb f c1
     ·refine yo 6 ?_;refine Dx (UQ q) (Be c8) ⟨(Ar λ_=>AA),⟨Bi,uM⟩⟩ (AD ⟨AA,?_⟩);refine qY tb 4 AA AA ?_;exact I6 f C)
    have h6:A25 10 (bm 12 33) ⟨143,AJ (F5 p1 [(125,Ax),(130,i64 p1.result)]),NT zR zS Q W zT k⟩:=(f _ _ _).2 (by
     refine ya [1,6] ⟨?_,?_,uM⟩
     ·refine yo 1 ?_;refine AK AA (AD ⟨AA,?_⟩);refine hY 2 Ax AA (Bk AA AA) ?_;refine qY tb 3 AA AA ?_;exact I6 f c5
     ·refine yo 6 ?_;refine Dx (UQ q) (Be c8) ⟨(Ar λ_=>AA),⟨Bi,uM⟩⟩ (AD ⟨AA,?_⟩);refine qY tb 1 AA AA ?_;refine hY 2 Ax AA (Bk AA AA) ?_;refine qY tb 3 AA AA ?_;refine qY tb 4 AA AA ?_;exact I6 f C)
    have d1:A25 5 (bm 12 254) ⟨143,AJ (F5 p1 [(129,ow 4 0 k),(132,.own 7 0 1)]),gS zR zS Q W zT k q⟩:=(f _ _ _).2 (by
     refine ya [0,8] ⟨?_,?_,uM⟩
     ·exact Lq tb f Z
     ·refine yo 8 ?_;have k4:=Jg g5;refine LX (st':=((MY zR zS Q W zT k)::KE ((As Q)::(qH b7 k q)::Ir::JO::⟨0,80,5,[nL q]⟩::Jy q []))) (c:=q) BJ Cb AA AA AA AA AA AA AA g5 AA ?_;refine Ac (Wk.take (id:=4) (m:=8) (j:=3) (i:=Sh.len k) (c:=q) (ys:=q.args) (encY:=eI) rfl k4 AA AA AA (by decide) zJ DA AA AA) ?_;refine Ac (Wk.take (id:=4) (m:=9) (j:=4) (i:=Sh.len k) (c:=q) (ys:=q.kids) (encY:=(Bv 3 48 80)) rfl k4 AA AA AA (by decide) zK DA AA AA) ?_;refine Ac (EB (id:=4) (i:=Sh.len k) (c:=q) rfl k4 (CV q).symm AA) (AD ⟨AA,?_⟩);refine qY tb 0 AA AA ?_;refine hY 9 Ax AA (Bk AA AA) ?_;refine qY tb 10 AA AA ?_;exact yw f K (by exact Da (L:=(F5 p1 [(133,ow 4 1 b7),(135,OX)])) (st':=(bc zR zS Q W zT k b7)) (st1:=(bc zR zS Q W zT k b7)) [0,1,2,3,4,5,6] (.w (.pure nN (.pure nN (.p (.deep (AT AN) (.w (.w .nil))))))) (.same AA)))
    have R:A25 6 (bm 12 126) ⟨143,AJ (F5 p1 [(129,ow 4 0 k),(131,UQ q)]),qZ zR zS Q W zT k q⟩:=(f _ _ _).2 (by
     refine ya [0,7] ⟨?_,?_,uM⟩
     ·exact Lq tb f C
     ·refine yo 7 ?_;refine D9 9 [()] (λ_=>(lI q)) Cb AA ?_;exact JY f d1 (by exact Da (L:=(F5 p1 [(129,ow 4 0 k),(132,.own 7 0 1)])) (st':=(gS zR zS Q W zT k q)) (st1:=(qz zR zS Q W zT k q)) [0,1,2,3,4,5,6,9,7,8] (.w (.pure nN (.pure nN (.p (.deep (AT AN) (.w (.w (.w (.p (.deep Bi .nil)))))))))) (.same AA)))
    have d9:A25 7 (bm 12 62) ⟨143,AJ (F5 p1 [(129,ow 4 0 k),(130,i64 p1.result)]),NT zR zS Q W zT k⟩:=(f _ _ _).2 (by
     refine ya [0,6] ⟨?_,?_,uM⟩
     ·exact Lq tb f c1
     ·refine yo 6 ?_;exact Dx (UQ q) (Be c8) ⟨(Ar λ_=>AA),⟨Bi,uM⟩⟩ (yd f R))
    have g8:A25 8 (bm 12 46) ⟨143,AJ (F5 p1 [(128,OX),(130,i64 p1.result)]),NT zR zS Q W zT k⟩:=(f _ _ _).2 (by
     refine ya [0,4,6] ⟨?_,?_,?_,uM⟩
     ·exact Lq tb f c5
     ·exact Lq tb f d9
     ·refine yo 6 ?_;refine Dx (UQ q) (Be c8) ⟨(Ar λ_=>AA),⟨Bi,uM⟩⟩ (AD ⟨AA,?_⟩);refine qY tb 4 AA AA ?_;exact I6 f R)
    have k5:A25 11 (bm 12 32) ⟨143,AJ (F5 p1 [(130,i64 p1.result)]),NT zR zS Q W zT k⟩:=(f _ _ _).2 (by
     refine ya [0,1,6] ⟨?_,?_,?_,uM⟩
     ·exact Lq tb f h6
     ·refine yo 1 ?_;refine AK AA (AD ⟨AA,?_⟩);refine hY 2 Ax AA (Bk AA AA) ?_;refine qY tb 3 AA AA ?_;exact I6 f g8
     ·refine yo 6 ?_;refine Dx (UQ q) (Be c8) ⟨(Ar λ_=>AA),⟨Bi,uM⟩⟩ (AD ⟨AA,?_⟩);refine qY tb 1 AA AA ?_;refine hY 2 Ax AA (Bk AA AA) ?_;refine qY tb 3 AA AA ?_;refine qY tb 4 AA AA ?_;exact I6 f R)
    refine (f _ _ _).2 ?_;exact I6 f k5
   ·exact AG (l5 k (Bm h1) _ Ag)
  refine AE AA (AM 5 AA (bs J λv3 h8 J=>zz (.ptr 3 0 (Int.toNat p1.result) 0) (Ls Ay AA h8) rfl (zz (i64 v3) (De JR AA AA (Ef h8) rfl) rfl (AM 2 AA ?_))));rcases Sh.Aa J with ⟨b8,J⟩|⟨b8,J⟩
  ·refine Aj b8 AA ?_;iterate 4 refine Aj b8 rfl ?_
   refine bs J λw0 m2 J=>Iy b8 (Cz m2) rfl (Aj b8 AA ?_);rcases Sh.Aa J with ⟨d2,J⟩|⟨d2,J⟩
   ·refine zs d2 AA ?_;iterate 6 refine zs d2 rfl ?_
    exact CP (.bool true) b8 (E6 AA d2 AA) (zt b8 AA (AD (k1 true (Bm J) _ Ag)))
   ·refine Aj d2 AA ?_;iterate 4 refine Aj d2 rfl ?_
    exact bs J λm3 m4 J=>Iy d2 (Cz m4) rfl (Aj d2 AA (CP (.bool (!m3)) b8 (Eg AA d2 AA) (zt b8 AA (AD (k1 (!m3) (Bm J) _ Ag)))))
  ·refine zs b8 AA ?_;iterate 6 refine zs b8 rfl ?_
   iterate 7 refine zn rfl ?_
   exact zs b8 AA (zf b8 AA (AD (k1 false (Bm J) _ Ag)))
 refine AI (LK (σ:=Int×(List Int)×(List Int)×(List Step)) (λn v=>CZ N zR zS zT p1 ze n v.1 v.2.1 v.2.2.1 v.2.2.2=some k0) (λ(z,f5,B,l7)=>⟨143,AJ [(2,.ptr 5 0 0 0),(3,.Bj [ls Ba p1.steps,i64 p1.result] 0),(4,.ptr 6 0 0 0),(14,ls Ba p1.steps),(15,i64 (Sh.len p1.steps)),(16,i64 z)],[⟨0,127,6,[[ls Ai zR,ls BI zS,ow 3 0 B,ls eI f5,ls eI zT,ow 4 0 l7]]⟩,⟨1,3,1,[]⟩,⟨1,80,5,[]⟩,ro 0 3 1 eI B,ro 0 80 5 (BV 3 48 80) l7,⟨0,178,1,[[.ptr 0 0 0 0]]⟩,JO]⟩) N (0,zW,s1,s2) h1 (by refine Wk.trans (Da (L:=[(2,.ptr 5 0 0 0),(3,.Bj [ls Ba p1.steps,i64 p1.result] 0),(4,.ptr 6 0 0 0),(14,ls Ba p1.steps),(15,i64 (Sh.len p1.steps)),(16,i64 0)]) (st':=[⟨0,127,6,[[ls Ai zR,ls BI zS,ow 3 0 s1,ls eI zW,ls eI zT,ow 4 0 s2]]⟩,⟨1,3,1,[]⟩,⟨1,80,5,[]⟩,ro 0 3 1 eI s1,ro 0 80 5 (BV 3 48 80) s2,⟨0,178,1,[[.ptr 0 0 0 0]]⟩,JO]) (st1:=[⟨0,127,6,[[ls Ai zR,ls BI zS,ow 3 0 s1,ls eI zW,ls eI zT,ow 4 0 s2]]⟩,⟨1,3,1,[]⟩,⟨1,80,5,[]⟩,ro 0 3 1 eI s1,ro 0 80 5 (BV 3 48 80) s2,⟨0,178,1,[[.ptr 0 0 0 0]]⟩,JO]) [0,1,2,3,4,5,7] (.w (.pure nN (.pure nN (.p (.deep (AT AN) (.w (.w .nil))))))) (.same AA)) ?_;exact F3 AA) (λ_ hv=>by rw[CZ]at hv;cases hv) ?_);rintro n ⟨z,f5,B,l7⟩ h1;rw[CZ]at h1;refine AS AA (AB λw1 m5=>?_);refine An h1 ?_ ?_<;>intro w2 h1
 ·refine AG (m5 _ (AB λv4 m6=>bs h1 λm7 J h1=>?_));have k6:∀g9 g0 g1,m7=(g9,g0,g1)->∀s,Wk 3 s ⟨143,AJ (ir p1 (H7 p1 z [])),rD zR zS g0 g9 zT g1⟩->v4 s:=by
   rintro g9 g0 g1 rfl s hw;refine m6 _ (AH hw (AE AA (AM 2 AA ?_)));exact AD (xi (Sh.w (z+1),g9,g0,g1) h1 (by refine Wk.trans (Da (L:=(F5 p1 [(14,T9 p1),(15,lQ p1),(16,NV z)])) (st':=(NT zR zS g0 g9 zT g1)) (st1:=(⟨0,127,6,[[DH zR,RY zS,ow 5 0 g0,ls eI g9,ls eI zT,ow 6 0 g1]]⟩::KE (Ez g0 g1 [Ir,JO]))) [0,1,2,5,6,3,4] (.w (.pure nN (.pure nN (.p (.deep (AT AN) (.w (.w .nil))))))) (.same AA)) ?_;exact F3 AA))
  refine AI (Ab λw3 m8=>AK AA (bs J λS m9 J=>zz (H4 S) (E1 Cb AA AA m9 (CE _) rfl) rfl (AK AA (Cm 7 Ot AA (AK AA (CF LP AA (Ac (Wk.Db (L:=(F5 p1 ((5,i64 z)::(6,H4 S)::H7 p1 z []))) (st':=((MY zR zS B f5 zT l7)::KE (Ez B l7 [Ir,JO,Qd]))) (id:=7) rfl (show 3<=7 by decide) (HL AA) (.same AA) rfl) (AR m8 (Ab λw4 q0=>?_)))))))));refine AM 3 AA (bs J λP q1 J=>Dx (ow 8 0 P) (PM q1) ⟨(Ar λ_=>AA),uM⟩ (Cm 9 rU AA (CF X1 AA (AR q0 (Ab λw5 q2=>zz (.fn 144 [U3,XI]) (Yx AA) rfl (AK AA (AR q2 (AB λw6 q3=>?_))))))));refine Ci (by kernel_rfl) ?_;refine bs J λt q4 J=>?_;refine FQ (f':=15) (listed':=(bm 15 0)) rfl (by kernel_rfl) ?_;refine hZ 8 (Hu S) rfl (Hc LP AA zF rfl) ?_;refine FE (D7 λA48 E=>?_);have A:A48 0 (bm 15 32767) ⟨143,AJ (F5 p1 (ja S ((9,i64 t.1)::H7 p1 z []))),U2 zR zS B f5 zT l7 P⟩:=(E _ _ _).2 (by
   refine DQ AA (by kernel_rfl) ?_;refine q3 _ (Ab λw7 q5=>AM 4 AA (zz (Dc B) (Ec Hq AA AA AA) rfl (AK AA (AR q5 (AB λv5 q6=>bs J λq7 h3 J=>?_)))));have q8:∀d I a G,q7=(d,I,a,G)->∀s,Wk 3 s ⟨143,AJ (ir p1 ((8,.fn 144 [XI,VZ])::(9,i64 t.1)::(11,Dc B)::H7 p1 z [])),rl zR zS I d zT a G⟩->v5 s:=by
    rintro d I a G rfl s hw;refine q6 _ (AH hw (AB λw8 q9=>?_));refine Ci (by kernel_rfl) ?_;refine bs J λb h9 J=>?_;refine FQ (f':=11) (listed':=(bm 11 0)) rfl (by kernel_rfl) ?_;refine hZ 5 (i64 t.1) rfl (Au (BY AA)) ?_;refine FE (D7 λA58 H=>?_);have b9:A58 0 (bm 11 2047) ⟨143,AJ (F5 p1 (Yf t.1 B (H7 p1 z []))),U2 zR zS b d zT a G⟩:=(H _ _ _).2 (by
     refine DQ AA (by kernel_rfl) ?_;refine q9 _ (AI (AS AA ?_));refine An J ?_ ?_<;>intro w9 J
     ·exact AG (k6 d b a (Bm J) _ (by refine Wk.trans (Da (L:=(ir p1 (H7 p1 z []))) (st':=(rD zR zS b d zT a)) (st1:=((MY zR zS b d zT a)::KE (Ir::JO::Ez b a []))) [0,1,2,5,6,3,4] (.w (.pure nN (.pure nN (.w (.w (.p (.deep (AT AN) .nil))))))) (.same AA)) ?_;exact F3 AA))
     ·refine Ab λA0 t0=>AM 2 AA (bs J λv6 t1 J=>?_);refine Ib (rowsP:=((U6 G)::(As G)::Ir::(MY zR zS b d zT a)::Ez b a [])) (rows0:=(RD G zR zS b d zT a)) (rows1:=(RD G zR zS b d zT a)) (rows2:=[]) (rows1':=((U6 G)::(As G)::Ir::(MY zR zS b d zT a)::Ez b a [])) (rows2':=[]) (st':=(U2 zR zS b d zT a G)) (v':=(.bool v6)) [7,8,5,0,3,4] BJ AA (hb 144) (Eh t1) rfl (by decide) rfl AA (.raw AA AA (.pure BB (.raw AA AA (.raw AA AA (.pure BB (.deep (AT AN) .nil)))))) rfl AA (.raw AA AA (.pure BB (.raw AA AA (.raw AA AA (.pure BB (.deep (AT AN) .nil)))))) .nil AA AA ?_;refine AK AA (AR t0 ?_);refine An J ?_ ?_<;>intro A1 J
      ·refine Ci (by kernel_rfl) ?_;refine bs J λo g6 J=>?_;refine FQ (f':=10) (listed':=(bm 10 0)) rfl (by kernel_rfl) ?_;refine hZ 5 (Dc B) rfl (Au (BY AA)) ?_;refine FE (D7 λA65 b0=>?_);have c3:A65 0 (bm 10 1023) ⟨143,AJ (F5 p1 (H7 p1 z [])),NT zR zS b o zT a⟩:=(b0 _ _ _).2 (by
        refine DQ AA (by kernel_rfl) ?_;exact k6 o b a (Bm J) _ (by exact Da (L:=(ir p1 (H7 p1 z []))) (st':=(rD zR zS b o zT a)) (st1:=((MY zR zS b o zT a)::KE (Ir::JO::Ez b a []))) [0,1,2,5,6,3,4] (.w (.pure nN (.pure nN (.w (.w (.p (.deep (AT AN) .nil))))))) (.same AA)))
       have T:A65 1 (bm 10 511) ⟨143,AJ (F5 p1 (H7 p1 z [(94,ls eI o),(96,.ptr 0 0 0 3)])),NT zR zS b d zT a⟩:=(b0 _ _ _).2 (by
        refine ya [9] ⟨?_,uM⟩
        ·refine yo 9 ?_;exact CF X1 AA (yd b0 c3))
       have d6:A65 4 (bm 10 63) ⟨143,AJ (F5 p1 (H7 p1 z [(88,Ax),(92,ls eI d),(93,Dc B)])),NT zR zS b d zT a⟩:=(b0 _ _ _).2 (by
        refine ya [6] ⟨?_,uM⟩
        ·refine yo 6 ?_;refine CR (hb 43) (Hj g6) rfl (AD ⟨AA,?_⟩);refine hY 7 Ax AA (Bk AA AA) ?_;refine qY tb 8 AA AA ?_;exact I6 b0 T)
       have g2:A65 5 (bm 10 62) ⟨143,AJ (F5 p1 (H7 p1 z [(92,ls eI d),(93,Dc B)])),NT zR zS b d zT a⟩:=(b0 _ _ _).2 (by
        refine ya [0,6] ⟨?_,?_,uM⟩
        ·exact Lq tb b0 d6
        ·refine yo 6 ?_;refine CR (hb 43) (Hj g6) rfl (AD ⟨AA,?_⟩);refine qY tb 0 AA AA ?_;refine hY 7 Ax AA (Bk AA AA) ?_;refine qY tb 8 AA AA ?_;exact I6 b0 T)
       refine (b0 _ _ _).2 ?_;refine qY tb 1 AA AA ?_;refine hY 2 Ax AA (Bk AA AA) ?_;refine qY tb 3 AA AA ?_;refine qY tb 4 AA AA ?_;exact yw b0 g2 (by exact Da (L:=(F5 p1 (H7 p1 z [(92,ls eI d),(93,Dc B)]))) (st':=(NT zR zS b d zT a)) (st1:=(NT zR zS b d zT a)) [0,1,2,3,4,5,6] (.w (.pure nN (.pure nN (.p (.deep (AT AN) (.w (.w .nil))))))) (.same AA))
      ·refine Ci (by kernel_rfl) ?_;refine bs J λu c9 J=>bs J λY g7 J=>?_;refine FQ (f':=12) (listed':=(bm 12 0)) rfl (by kernel_rfl) ?_;refine hZ 5 (Dc B) rfl (Au (BY AA)) ?_;refine FE (D7 λA69 g=>?_);have b4:A69 0 (bm 12 4095) ⟨143,AJ (F5 p1 (H7 p1 z [])),NT zR zS b d zT Y⟩:=(g _ _ _).2 (by
        refine DQ AA (by kernel_rfl) ?_;exact k6 d b Y (Bm J) _ (by exact Da (L:=(ir p1 (H7 p1 z []))) (st':=(rD zR zS b d zT Y)) (st1:=((MY zR zS b d zT Y)::KE (Ir::JO::Ez b Y []))) [0,1,2,5,6,3,4] (.w (.pure nN (.pure nN (.w (.w (.p (.deep (AT AN) .nil))))))) (.same AA)))
       have M:A69 1 (bm 12 2047) ⟨143,AJ (F5 p1 (H7 p1 z [(78,ow 4 1 Y),(80,OX)])),bc zR zS b d zT a Y⟩:=(g _ _ _).2 (by
        refine ya [11] ⟨?_,uM⟩
        ·refine yo 11 ?_;exact CF R8 AA (JY g b4 (by exact EO (L:=(F5 p1 (H7 p1 z []))) (st':=(NT zR zS b d zT Y)) (.raw AA AA AA (.pure AA nN (.pure AA nN (.pure AA BB (.deep AA (AT AN) (.raw AA AA AA (.raw AA AA AA .nil))))))) (.same AA))))
       have b1:A69 4 (bm 12 255) ⟨143,AJ (F5 p1 (H7 p1 z [(70,Ax),(74,ow 4 0 a),(77,.own 7 0 1)])),gS zR zS b d zT a u⟩:=(g _ _ _).2 (by
        refine ya [8] ⟨?_,uM⟩
        ·refine yo 8 ?_;have k7:=Jg g7;refine LX (st':=((MY zR zS b d zT a)::KE ((As b)::(qH Y a u)::Ir::JO::⟨0,80,5,[nL u]⟩::Jy u []))) (c:=u) BJ Cb AA AA AA AA AA AA AA g7 AA ?_;refine Ac (Wk.take (id:=4) (m:=8) (j:=3) (i:=Sh.len a) (c:=u) (ys:=u.args) (encY:=eI) rfl k7 AA AA AA (by decide) zJ DA AA AA) ?_;refine Ac (Wk.take (id:=4) (m:=9) (j:=4) (i:=Sh.len a) (c:=u) (ys:=u.kids) (encY:=(Bv 3 48 80)) rfl k7 AA AA AA (by decide) zK DA AA AA) ?_;refine Ac (EB (id:=4) (i:=Sh.len a) (c:=u) rfl k7 (CV u).symm AA) (AD ⟨AA,?_⟩);refine hY 9 Ax AA (Bk AA AA) ?_;refine qY tb 10 AA AA ?_;exact yw g M (by exact Da (L:=(F5 p1 (H7 p1 z [(78,ow 4 1 Y),(80,OX)]))) (st':=(bc zR zS b d zT a Y)) (st1:=(bc zR zS b d zT a Y)) [0,1,2,3,4,5,6] (.w (.pure nN (.pure nN (.p (.deep (AT AN) (.w (.w .nil))))))) (.same AA)))
       have D:A69 5 (bm 12 127) ⟨143,AJ (F5 p1 (H7 p1 z [(70,Ax),(74,ow 4 0 a),(76,UQ u)])),qZ zR zS b d zT a u⟩:=(g _ _ _).2 (by
        refine ya [7] ⟨?_,uM⟩
        ·refine yo 7 ?_;refine D9 9 [()] (λ_=>(lI u)) Cb AA ?_;exact JY g b1 (by exact Da (L:=(F5 p1 (H7 p1 z [(70,Ax),(74,ow 4 0 a),(77,.own 7 0 1)]))) (st':=(gS zR zS b d zT a u)) (st1:=(qz zR zS b d zT a u)) [0,1,2,3,4,5,6,9,7,8] (.w (.pure nN (.pure nN (.p (.deep (AT AN) (.w (.w (.w (.p (.deep Bi .nil)))))))))) (.same AA)))
       have c2:A69 6 (bm 12 63) ⟨143,AJ (F5 p1 (H7 p1 z [(70,Ax),(74,ow 4 0 a),(75,Dc B)])),NT zR zS b d zT a⟩:=(g _ _ _).2 (by
        refine ya [6] ⟨?_,uM⟩
        ·refine yo 6 ?_;exact Dx (UQ u) (Be c9) ⟨(Ar λ_=>AA),⟨Bi,uM⟩⟩ (yd g D))
       have c6:A69 7 (bm 12 47) ⟨143,AJ (F5 p1 (H7 p1 z [(70,Ax),(73,OX),(75,Dc B)])),NT zR zS b d zT a⟩:=(g _ _ _).2 (by
        refine ya [4,6] ⟨?_,?_,uM⟩
        ·exact Lq tb g c2
        ·refine yo 6 ?_;refine Dx (UQ u) (Be c9) ⟨(Ar λ_=>AA),⟨Bi,uM⟩⟩ (AD ⟨AA,?_⟩);refine qY tb 4 AA AA ?_;exact I6 g D)
       have h7:A69 10 (bm 12 33) ⟨143,AJ (F5 p1 (H7 p1 z [(70,Ax),(75,Dc B)])),NT zR zS b d zT a⟩:=(g _ _ _).2 (by
        refine ya [1,6] ⟨?_,?_,uM⟩
        ·refine yo 1 ?_;refine AK AA (AD ⟨AA,?_⟩);refine hY 2 Ax AA (Bk AA AA) ?_;refine qY tb 3 AA AA ?_;exact I6 g c6
        ·refine yo 6 ?_;refine Dx (UQ u) (Be c9) ⟨(Ar λ_=>AA),⟨Bi,uM⟩⟩ (AD ⟨AA,?_⟩);refine qY tb 1 AA AA ?_;refine hY 2 Ax AA (Bk AA AA) ?_;refine qY tb 3 AA AA ?_;refine qY tb 4 AA AA ?_;exact I6 g D)
       have d3:A69 5 (bm 12 254) ⟨143,AJ (F5 p1 (H7 p1 z [(74,ow 4 0 a),(77,.own 7 0 1)])),gS zR zS b d zT a u⟩:=(g _ _ _).2 (by
        refine ya [0,8] ⟨?_,?_,uM⟩
        ·exact Lq tb g b1
        ·refine yo 8 ?_;have k8:=Jg g7;refine LX (st':=((MY zR zS b d zT a)::KE ((As b)::(qH Y a u)::Ir::JO::⟨0,80,5,[nL u]⟩::Jy u []))) (c:=u) BJ Cb AA AA AA AA AA AA AA g7 AA ?_;refine Ac (Wk.take (id:=4) (m:=8) (j:=3) (i:=Sh.len a) (c:=u) (ys:=u.args) (encY:=eI) rfl k8 AA AA AA (by decide) zJ DA AA AA) ?_;refine Ac (Wk.take (id:=4) (m:=9) (j:=4) (i:=Sh.len a) (c:=u) (ys:=u.kids) (encY:=(Bv 3 48 80)) rfl k8 AA AA AA (by decide) zK DA AA AA) ?_;refine Ac (EB (id:=4) (i:=Sh.len a) (c:=u) rfl k8 (CV u).symm AA) (AD ⟨AA,?_⟩);refine qY tb 0 AA AA ?_;refine hY 9 Ax AA (Bk AA AA) ?_;refine qY tb 10 AA AA ?_;exact yw g M (by exact Da (L:=(F5 p1 (H7 p1 z [(78,ow 4 1 Y),(80,OX)]))) (st':=(bc zR zS b d zT a Y)) (st1:=(bc zR zS b d zT a Y)) [0,1,2,3,4,5,6] (.w (.pure nN (.pure nN (.p (.deep (AT AN) (.w (.w .nil))))))) (.same AA)))
       have U:A69 6 (bm 12 126) ⟨143,AJ (F5 p1 (H7 p1 z [(74,ow 4 0 a),(76,UQ u)])),qZ zR zS b d zT a u⟩:=(g _ _ _).2 (by
        refine ya [0,7] ⟨?_,?_,uM⟩
        ·exact Lq tb g D
        ·refine yo 7 ?_;refine D9 9 [()] (λ_=>(lI u)) Cb AA ?_;exact JY g d3 (by exact Da (L:=(F5 p1 (H7 p1 z [(74,ow 4 0 a),(77,.own 7 0 1)]))) (st':=(gS zR zS b d zT a u)) (st1:=(qz zR zS b d zT a u)) [0,1,2,3,4,5,6,9,7,8] (.w (.pure nN (.pure nN (.p (.deep (AT AN) (.w (.w (.w (.p (.deep Bi .nil)))))))))) (.same AA)))
       have g3:A69 7 (bm 12 62) ⟨143,AJ (F5 p1 (H7 p1 z [(74,ow 4 0 a),(75,Dc B)])),NT zR zS b d zT a⟩:=(g _ _ _).2 (by
        refine ya [0,6] ⟨?_,?_,uM⟩
        ·exact Lq tb g c2
        ·refine yo 6 ?_;exact Dx (UQ u) (Be c9) ⟨(Ar λ_=>AA),⟨Bi,uM⟩⟩ (yd g U))
       have h5:A69 8 (bm 12 46) ⟨143,AJ (F5 p1 (H7 p1 z [(73,OX),(75,Dc B)])),NT zR zS b d zT a⟩:=(g _ _ _).2 (by
        refine ya [0,4,6] ⟨?_,?_,?_,uM⟩
        ·exact Lq tb g c6
        ·exact Lq tb g g3
        ·refine yo 6 ?_;refine Dx (UQ u) (Be c9) ⟨(Ar λ_=>AA),⟨Bi,uM⟩⟩ (AD ⟨AA,?_⟩);refine qY tb 4 AA AA ?_;exact I6 g U)
       have k9:A69 11 (bm 12 32) ⟨143,AJ (F5 p1 (H7 p1 z [(75,Dc B)])),NT zR zS b d zT a⟩:=(g _ _ _).2 (by
        refine ya [0,1,6] ⟨?_,?_,?_,uM⟩
        ·exact Lq tb g h7
        ·refine yo 1 ?_;refine AK AA (AD ⟨AA,?_⟩);refine hY 2 Ax AA (Bk AA AA) ?_;refine qY tb 3 AA AA ?_;exact I6 g h5
        ·refine yo 6 ?_;refine Dx (UQ u) (Be c9) ⟨(Ar λ_=>AA),⟨Bi,uM⟩⟩ (AD ⟨AA,?_⟩);refine qY tb 1 AA AA ?_;refine hY 2 Ax AA (Bk AA AA) ?_;refine qY tb 3 AA AA ?_;refine qY tb 4 AA AA ?_;exact I6 g U)
       refine (g _ _ _).2 ?_;exact yw g k9 (by exact Da (L:=(F5 p1 (H7 p1 z [(75,Dc B)]))) (st':=(NT zR zS b d zT a)) (st1:=(NT zR zS b d zT a)) [0,1,2,3,4,5,6] (.w (.pure nN (.pure nN (.p (.deep (AT AN) (.w (.w .nil))))))) (.same AA)))
    have O:A58 1 (bm 11 1023) ⟨143,AJ (F5 p1 (Yf t.1 B (H7 p1 z [(67,ow 3 1 b),(69,.ptr 0 0 0 2)]))),((MY zR zS I d zT a)::KE ((VP b)::(I0 a)::eb G []))⟩:=(H _ _ _).2 (by
     refine ya [10] ⟨?_,uM⟩
     ·refine yo 10 ?_;exact CF Kl AA (JY H b9 (by exact EO (L:=(F5 p1 (Yf t.1 B (H7 p1 z [])))) (st':=(U2 zR zS b d zT a G)) (.raw AA AA AA (.pure AA nN (.pure AA nN (.pure AA BB (.deep AA (AT AN) (.raw AA AA AA (.raw AA AA AA (.raw AA AA AA (.pure AA BB .nil))))))))) (.same AA))))
    have b5:A58 4 (bm 11 127) ⟨143,AJ (F5 p1 (Yf t.1 B (H7 p1 z [(60,Ax),(64,ow 3 0 I),(66,ow 9 0 [t.1])]))),((MY zR zS I d zT a)::KE (Ez I a (eb G [Ml t.1])))⟩:=(H _ _ _).2 (by
     refine ya [7] ⟨?_,uM⟩
     ·refine yo 7 ?_;refine KA [t.1] Ay AA (GY AA AA) h9 (AD ⟨AA,?_⟩);refine hY 8 Ax AA (Bk AA AA) ?_;refine qY tb 9 AA AA ?_;exact yw H O (by exact Da (L:=(F5 p1 (Yf t.1 B (H7 p1 z [(67,ow 3 1 b),(69,.ptr 0 0 0 2)])))) (st':=((MY zR zS I d zT a)::KE ((VP b)::(I0 a)::eb G []))) (st1:=((MY zR zS I d zT a)::KE ((VP b)::(I0 a)::eb G []))) [0,1,2,3,4,5,6,7,8] (.w (.pure nN (.pure nN (.p (.deep (AT AN) (.w (.w (.w (.p .nil))))))))) (.same AA)))
    have d7:A58 5 (bm 11 63) ⟨143,AJ (F5 p1 (Yf t.1 B (H7 p1 z [(60,Ax),(64,ow 3 0 I),(65,i64 t.1)]))),U2 zR zS I d zT a G⟩:=(H _ _ _).2 (by
     refine ya [6] ⟨?_,uM⟩
     ·refine yo 6 ?_;refine D9 9 [t.1] eI Ay AA ?_;exact yd H b5)
    have d8:A58 5 (bm 11 126) ⟨143,AJ (F5 p1 (Yf t.1 B (H7 p1 z [(64,ow 3 0 I),(66,ow 9 0 [t.1])]))),((MY zR zS I d zT a)::KE (Ez I a (eb G [Ml t.1])))⟩:=(H _ _ _).2 (by
     refine ya [0,7] ⟨?_,?_,uM⟩
     ·exact Lq tb H b5
     ·refine yo 7 ?_;refine KA [t.1] Ay AA (GY AA AA) h9 (AD ⟨AA,?_⟩);refine qY tb 0 AA AA ?_;refine hY 8 Ax AA (Bk AA AA) ?_;refine qY tb 9 AA AA ?_;exact yw H O (by exact Da (L:=(F5 p1 (Yf t.1 B (H7 p1 z [(67,ow 3 1 b),(69,.ptr 0 0 0 2)])))) (st':=((MY zR zS I d zT a)::KE ((VP b)::(I0 a)::eb G []))) (st1:=((MY zR zS I d zT a)::KE ((VP b)::(I0 a)::eb G []))) [0,1,2,3,4,5,6,7,8] (.w (.pure nN (.pure nN (.p (.deep (AT AN) (.w (.w (.w (.p .nil))))))))) (.same AA)))
    have g4:A58 6 (bm 11 62) ⟨143,AJ (F5 p1 (Yf t.1 B (H7 p1 z [(64,ow 3 0 I),(65,i64 t.1)]))),U2 zR zS I d zT a G⟩:=(H _ _ _).2 (by
     refine ya [0,6] ⟨?_,?_,uM⟩
     ·exact Lq tb H d7
     ·refine yo 6 ?_;refine D9 9 [t.1] eI Ay AA ?_;exact yd H d8)
    refine (H _ _ _).2 ?_;refine qY tb 1 AA AA ?_;refine hY 2 Ax AA (Bk AA AA) ?_;refine qY tb 3 AA AA ?_;refine qY tb 4 AA AA ?_;exact yw H g4 (by exact Da (L:=(F5 p1 (Yf t.1 B (H7 p1 z [(64,ow 3 0 I),(65,i64 t.1)])))) (st':=(U2 zR zS I d zT a G)) (st1:=((YL zR zS I d zT a)::KE (Ez I a (eb G [])))) [0,1,2,6,7,3,4,5,8] (.w (.pure nN (.pure nN (.p (.deep (AT AN) (.w (.w (.w (.p .nil))))))))) (.same AA))
   refine AB λv7 t2=>bs h3 λt3 h4 h3=>?_;have t5:∀l0,t3=l0->∀s,Wk 3 s ⟨143,AJ (F5 p1 ((6,H4 S)::Yf t.1 B (H7 p1 z [(51,.bool l0)]))),U2 zR zS B f5 zT l7 P⟩->v7 s:=by
    intro l0 hq s hw;subst t3;refine t2 _ (AH hw ?_);refine An h3 ?_ ?_<;>intro A2 h3
    ·refine AE AA (AM 3 AA (bs h3 λy t6 h3=>?_));refine HG (rowsP:=((MY zR zS B f5 zT l7)::Ez B l7 [U6 P,As P,Ir])) (rows0:=((bY zR zS B f5 zT l7)::Ez B l7 [aq P,As P,Ir])) (rows1:=((YL zR zS y.1 y.2.1 zT y.2.2.1)::KE [U6 y.2.2.2,⟨1,3,1,[]⟩,Ir])) (rows2:=(Ez y.1 y.2.2.1 [As y.2.2.2])) (rows1':=((kg zR zS y.1 y.2.1 zT y.2.2.1)::KE [mU y.2.2.2,⟨1,3,1,[]⟩,Ir])) (rows2':=(Ez y.1 y.2.2.1 [As y.2.2.2])) (st':=((kg zR zS y.1 y.2.1 zT y.2.2.1)::KE (KE (Ir::JO::(mU y.2.2.2)::⟨1,3,1,[]⟩::Ez y.1 y.2.2.1 [As y.2.2.2])))) (v':=(.CW [])) [0,3,4,7,8,5] BJ (hb 145) (Qg hrec_impl_counter_block t6) rfl (by decide) rfl AA (.raw AA AA (.pure BB (.deep (AT AN) (.raw AA AA (.pure BB (.raw AA AA .nil)))))) rfl AA (.raw AA AA (.pure nN (.pure nN (.raw AA AA (.pure nN (.raw AA AA .nil)))))) (.pure BB (.deep (AT AN) (.pure BB .nil))) rfl AA ?_;exact AD (q8 y.2.1 y.1 y.2.2.1 y.2.2.2 (Bm h3) _ (by refine Wk.trans (Da (L:=(ir p1 ((8,.fn 144 [XI,VZ])::(9,i64 t.1)::(11,Dc B)::H7 p1 z []))) (st':=(rl zR zS y.1 y.2.1 zT y.2.2.1 y.2.2.2)) (st1:=((kg zR zS y.1 y.2.1 zT y.2.2.1)::KE (Ir::JO::(mU y.2.2.2)::Ez y.1 y.2.2.1 [As y.2.2.2]))) [0,1,2,5,6,7,9,10,11] (.w (.pure nN (.pure nN (.w (.w (.w (.p (.deep (AT AN) (.p .nil))))))))) (.same AA)) ?_;exact F3 AA))
    ·refine AE AA (AM 3 AA (bs h3 λo g6 h3=>?_));refine HG (rowsP:=((MY zR zS B f5 zT l7)::Ez B l7 [U6 P,As P,Ir])) (rows0:=((bY zR zS B f5 zT l7)::Ez B l7 [aq P,As P,Ir])) (rows1:=((YL zR zS o.1 o.2.1 zT o.2.2.1)::KE [U6 o.2.2.2,⟨1,3,1,[]⟩,Ir])) (rows2:=(Ez o.1 o.2.2.1 [As o.2.2.2])) (rows1':=((kg zR zS o.1 o.2.1 zT o.2.2.1)::KE [mU o.2.2.2,⟨1,3,1,[]⟩,Ir])) (rows2':=(Ez o.1 o.2.2.1 [As o.2.2.2])) (st':=((kg zR zS o.1 o.2.1 zT o.2.2.1)::KE (KE (Ir::JO::(mU o.2.2.2)::⟨1,3,1,[]⟩::Ez o.1 o.2.2.1 [As o.2.2.2])))) (v':=(.CW [])) [0,3,4,7,8,5] BJ (hb 146) (QW g6) rfl (by decide) rfl AA (.raw AA AA (.pure BB (.deep (AT AN) (.raw AA AA (.pure BB (.raw AA AA .nil)))))) rfl AA (.raw AA AA (.pure nN (.pure nN (.raw AA AA (.pure nN (.raw AA AA .nil)))))) (.pure BB (.deep (AT AN) (.pure BB .nil))) rfl AA ?_;exact AD (q8 o.2.1 o.1 o.2.2.1 o.2.2.2 (Bm h3) _ (by refine Wk.trans (Da (L:=(ir p1 ((8,.fn 144 [XI,VZ])::(9,i64 t.1)::(11,Dc B)::H7 p1 z []))) (st':=(rl zR zS o.1 o.2.1 zT o.2.2.1 o.2.2.2)) (st1:=((kg zR zS o.1 o.2.1 zT o.2.2.1)::KE (Ir::JO::(mU o.2.2.2)::Ez o.1 o.2.2.1 [As o.2.2.2]))) [0,1,2,5,6,7,9,10,11] (.w (.pure nN (.pure nN (.w (.w (.w (.p (.deep (AT AN) (.p .nil))))))))) (.same AA)) ?_;exact F3 AA))
   refine AE AA (AM 4 AA ?_);rcases Sh.Aa h4 with ⟨d4,h4⟩|⟨d4,h4⟩
   ·exact zs d4 AA (zs d4 AA (zs d4 AA (zt d4 AA (AD (t5 true (Bm h4) _ Ag)))))
   ·exact Aj d4 AA (Aj d4 AA (Aj d4 AA (zf d4 AA (AD (t5 (decide (S.op=8)) (Bm h4) _ (DY (F5 p1 ((6,H4 S)::Yf t.1 B (H7 p1 z [(51,.bool (decide (S.op=8)))]))) (.same AA))))))))
  have b2:A48 2 (bm 15 12287) ⟨143,AJ (F5 p1 (ja S ((9,i64 t.1)::H7 p1 z [(26,aI t.1 t.2)]))),U2 zR zS B f5 zT l7 P⟩:=(E _ _ _).2 (by
   refine ya [12] ⟨?_,uM⟩
   ·refine yo 12 ?_;refine AK AA (AD ⟨AA,?_⟩);refine qY tb 14 AA AA ?_;exact I6 E A)
  have b6:A48 3 (bm 15 6143) ⟨143,AJ (F5 p1 (ja S (H7 p1 z [(26,aI t.1 t.2),(38,.bool t.2)]))),U2 zR zS B f5 zT l7 P⟩:=(E _ _ _).2 (by
   refine ya [11] ⟨?_,uM⟩
   ·refine yo 11 ?_;refine AK AA (AD ⟨AA,?_⟩);refine qY tb 13 AA AA ?_;refine qY tb 14 AA AA ?_;exact I6 E A)
  have c0:A48 4 (bm 15 2047) ⟨143,AJ (F5 p1 (ja S (H7 p1 z [(26,aI t.1 t.2)]))),U2 zR zS B f5 zT l7 P⟩:=(E _ _ _).2 (by
   refine ya [11,12] ⟨?_,?_,uM⟩
   ·refine yo 11 ?_;refine AK AA (AD ⟨AA,?_⟩);refine qY tb 13 AA AA ?_;exact I6 E b2
   ·exact Lq tb E b6)
  have V:A48 6 (bm 15 511) ⟨143,AJ (F5 p1 (ja S (H7 p1 z [(30,Sd zR zS),(34,ow 3 0 B),(35,Hu S)]))),U2 zR zS B f5 zT l7 P⟩:=(E _ _ _).2 (by
   refine ya [9] ⟨?_,uM⟩
   ·refine yo 9 ?_;refine Fw (v':=(aI t.1 t.2)) BJ (hb 120) (KW (λh=>J1 h) q4) rfl (.val AA (.own AA AA (λ_=>AA) (.val AA .nil))) rfl uM AA AA (AD ⟨AA,?_⟩);refine qY tb 10 AA AA ?_;exact I6 E c0)
  have l1:A48 14 (bm 15 256) ⟨143,AJ (F5 p1 (ja S (H7 p1 z [(35,Hu S)]))),U2 zR zS B f5 zT l7 P⟩:=(E _ _ _).2 (by
   refine ya [0,4] ⟨?_,?_,uM⟩
   ·refine yo 0 ?_;refine AK AA (AD ⟨AA,?_⟩);refine hY 1 Ax AA (Bk AA AA) ?_;refine qY tb 2 AA AA ?_;refine qY tb 4 AA AA ?_;refine hY 5 Ax AA (Bk AA AA) ?_;refine qY tb 3 AA AA ?_;refine qY tb 6 AA AA ?_;refine qY tb 7 AA AA ?_;exact I6 E V
   ·refine yo 4 ?_;refine AK AA (AD ⟨AA,?_⟩);refine hY 5 Ax AA (Bk AA AA) ?_;refine qY tb 0 AA AA ?_;refine hY 1 Ax AA (Bk AA AA) ?_;refine qY tb 2 AA AA ?_;refine qY tb 3 AA AA ?_;refine qY tb 6 AA AA ?_;refine qY tb 7 AA AA ?_;exact I6 E V)
  refine (E _ _ _).2 ?_;exact yw E l1 (by exact Da (L:=(F5 p1 (ja S (H7 p1 z [(35,Hu S)])))) (st':=(U2 zR zS B f5 zT l7 P)) (st1:=(U2 zR zS B f5 zT l7 P)) [0,1,2,3,4,5,6,9,8] (.w (.pure nN (.pure nN (.p (.deep (AT AN) (.w (.w (.w (.p .nil))))))))) (.same AA))
 ·exact Af (v0 f5 B l7 (Bm h1) _ Ag)
theorem QO {N:Nat}:∀(n:Nat),∀{zR:(List AP)} {zS:(List Aw)} {zW:(List Int)} {zT:(List Int)} {s1:(List Int)} {s2:(List Step)} {p1:Block} {r:Block×(List Int)×(List Int)×(List Step)},Ev N n zR zS zW zT s1 s2 p1=some r->BH 80 [Ax,DN p1] ((bY zR zS s1 zW zT s2)::Ez s1 s2 []) (dq r.2.2.2 r.1.result) (iJ zR zS r.2.1 r.2.2.1 zT r.2.2.2):=by
 intro n
 induction n with
 | zero=>intro zR zS zW zT s1 s2 p1 r a;cases a
 | succ n ih=>
  intro zR zS zW zT s1 s2 p1 r a;rw[Ev]at a;exact QY (λh=>ih h) a
theorem Rr {N:Nat}:∀{zR:(List AP)} {zS:(List Aw)} {zW:(List Int)} {zT:(List Int)} {s1:(List Int)} {s2:(List Step)} {p1:Block} {r:Block×(List Int)×(List Int)×(List Step)},Ll N zR zS zW zT s1 s2 p1=some r->BH 80 [Ax,DN p1] ((bY zR zS s1 zW zT s2)::Ez s1 s2 []) (dq r.2.2.2 r.1.result) (iJ zR zS r.2.1 r.2.2.1 zT r.2.2.2):=by
 intro zR zS zW zT s1 s2 p1 r a;exact QO N a
theorem Jz {N:Nat}{p0:Ap}{p1:Ad}{p2 r:Block}(h0:E8 N p0 p1 p2=some r):BH 34 [NY p0,Z5 p1,DN p2] [] (YN r) [RI r]:=by
 unfold E8 at h0;refine BW.wk (r0:=(YN r)) (st0:=[RI r,⟨0,48,2,[[ow 0 0 r.steps,i64 r.result]]⟩]) ?_ (Gy (L:=[(0,YN r)]) (st':=[RI r]) [0] AA (by decide) rfl AA (.deep (AT AN) uM) (.same AA));refine Bb Tryz.func34 AA (Ab λK1 c0=>CY 0 AA (Ac (Wk.Db (L:=[(1,Z5 p1),(2,DN p2),(3,nM p0)]) (st':=[⟨1,65,2,[]⟩]) (id:=0) rfl yu (HL AA) (.same AA) rfl) (CY 1 AA (Ac (Wk.Db (L:=[(2,DN p2),(3,nM p0),(4,iP p1)]) (st':=[⟨1,65,2,[]⟩,iK]) (id:=1) rfl yp (HL AA) (.same AA) rfl) (CY 2 AA (Ac (Wk.Db (L:=[(3,nM p0),(4,iP p1),(5,O5 p2)]) (st':=[⟨1,65,2,[]⟩,iK,jJ]) (id:=2) rfl zE (HL AA) (.same AA) rfl) (Cm 3 Lr AA (AR c0 (Ab λK2 c1=>AK AA ?_)))))))));refine bs h0 λB c2 h0=>Dx (ow 4 0 B) (PM c2) ⟨(Ar λ_=>AA),uM⟩ (AK AA (AR c1 ?_));iterate 2 refine AS rfl ?_
 refine AB λK6 c3=>Ab λK7 c4=>AM 2 AA (Bd AA (AK AA (AR c4 (bs h0 λO H h0=>?_))));have c5:∀a b,O=(a,b)->∀s,Wk 0 s ⟨54,AJ [(3,nM p0),(4,iP p1),(5,O5 p2),(6,Ax),(8,HQ a),(9,ow 1 0 b)],[JO,I0 b]⟩->K6 s:=by
  rintro a b rfl s T;refine c3 _ (AH T (AB λd1 U=>?_));refine Ci (by kernel_rfl) ?_;refine bs h0 λf J h0=>?_;refine FQ (f':=9) (listed':=(bm 9 0)) rfl (by kernel_rfl) ?_;refine hZ 0 (NY p0) rfl (Hc Xz AA zH rfl) ?_;refine hZ 1 (iP p1) rfl (Au (GH jz AA AA)) ?_;refine hZ 2 (HQ p1.params) rfl (Ge Kl AA AA) ?_;refine hZ 4 (HQ a) rfl (Au (BY AA)) ?_;refine hZ 5 (ow 1 0 b) rfl (Au (BY AA)) ?_;refine FE (D7 λA16 e=>?_);have u:A16 0 (bm 9 511) ⟨54,AJ [(5,O5 p2),(6,Ax),(12,HI)],(JO::⟨0,127,6,[[DH p0.decls,Wj p0,ow 2 0 f,HQ a,.zc,ow 3 0 b]]⟩::Ez f b [])⟩:=(e _ _ _).2 (by
   refine DQ AA (by kernel_rfl) ?_;refine U _ (Ab λd2 V=>AK AA (Ac (ID (id:=1) (cs:=[DH p0.decls,Wj p0,ow 2 0 f,HQ a,.zc,ow 3 0 b]) (cs':=[DH p0.decls,Wj p0,ow 2 0 f,HQ a,SY,ow 3 0 b]) (st':=(JO::⟨0,127,6,[[DH p0.decls,Wj p0,ow 2 0 f,HQ a,SY,ow 3 0 b]]⟩::Ez f b [])) rfl ⟨le.rfl,le.rfl,le.rfl,le.rfl,le.zc,le.rfl,uM⟩ AA AA) (bs h0 λd W h0=>?_)));refine HG (rowsP:=(⟨0,127,6,[[DH p0.decls,Wj p0,ow 2 0 f,HQ a,SY,ow 3 0 b]]⟩::Ez f b [])) (rows0:=(⟨0,127,6,[[DH p0.decls,Wj p0,ow 1 0 f,HQ a,SY,ow 2 0 b]]⟩::Ez f b [])) (rows1:=(⟨0,127,6,[[DH p0.decls,Wj p0,ow 3 0 d.2.1,HQ d.2.2.1,SY,ow 4 0 d.2.2.2]]⟩::KE [])) (rows2:=(Ez d.2.1 d.2.2.2 [])) (rows1':=(⟨0,127,6,[[DH p0.decls,Wj p0,ow 4 0 d.2.1,HQ d.2.2.1,SY,ow 5 0 d.2.2.2]]⟩::KE [])) (rows2':=(Ez d.2.1 d.2.2.2 [])) (st':=(JO::⟨0,127,6,[[DH p0.decls,Wj p0,ow 4 0 d.2.1,HQ d.2.2.1,SY,ow 5 0 d.2.2.2]]⟩::KE (Ez d.2.1 d.2.2.2 []))) (v':=(.agg [ow 5 0 d.2.2.2,i64 d.1.result])) [1,2,3] BJ (hb 80) (Rr W) rfl (by decide) rfl AA (.raw AA AA (.pure BB (.deep (AT AN) .nil))) rfl AA (.raw AA AA (.pure nN (.pure nN .nil))) (.pure BB (.deep (AT AN) .nil)) rfl AA ?_;refine CF LO AA (AR V ?_);cases h0;exact BP ⟨_,(Da (L:=[(6,HI)]) (st':=[I0 d.2.2.2,⟨0,48,2,[Vu d.2.2.2 d.1.result]⟩]) (st1:=[I0 d.2.2.2,⟨0,48,2,[[ow 5 0 d.2.2.2,i64 d.1.result]]⟩]) [5,0] (.deep (AT AN) (.w .nil)) (.same AA)).trans (DY [(6,HI)] (.same AA)),Lk (.tmp 6) (Vu d.2.2.2 d.1.result) LO AA _ ⟨AA,AA⟩⟩)
  have h:A16 1 (bm 9 255) ⟨54,AJ [(5,O5 p2),(6,Ax),(12,HI),(51,.agg [DH p0.decls,Wj p0,ow 2 0 f,HQ a,.zc,ow 3 0 b])],(JO::sI::Ez f b [])⟩:=(e _ _ _).2 (by
   refine ya [8] ⟨?_,uM⟩
   ·refine yo 8 ?_;exact CF nH AA (yd e u))
  have z:A16 2 (bm 9 127) ⟨54,AJ [(5,O5 p2),(6,Ax),(51,.agg [DH p0.decls,Wj p0,ow 1 0 f,HQ a,.zc,ow 2 0 b])],(JO::Ez f b [])⟩:=(e _ _ _).2 (by
   refine ya [7] ⟨?_,uM⟩
   ·refine yo 7 ?_;exact Cm 3 Nx AA (JY e h (by exact Bf [0,3,1,2] (.w (.w (.p (.deep (AT AN) .nil)))) (.same AA))))
  have k:A16 2 (bm 9 191) ⟨54,AJ [(5,O5 p2),(6,Ax),(12,HI),(45,NY p0),(48,ow 2 0 f),(49,HQ a),(50,ow 3 0 b)],(JO::sI::Ez f b [])⟩:=(e _ _ _).2 (by
   refine ya [6] ⟨?_,uM⟩
   ·refine yo 6 ?_;exact zz (.agg [DH p0.decls,Wj p0,ow 2 0 f,HQ a,.zc,ow 3 0 b]) (Gs dM dS Nx AA AA) rfl (yd e h))
  have C:A16 3 (bm 9 63) ⟨54,AJ [(5,O5 p2),(6,Ax),(45,NY p0),(48,ow 1 0 f),(49,HQ a),(50,ow 2 0 b)],(JO::Ez f b [])⟩:=(e _ _ _).2 (by
   refine ya [6,7] ⟨?_,?_,uM⟩
   ·refine yo 6 ?_;exact zz (.agg [DH p0.decls,Wj p0,ow 1 0 f,HQ a,.zc,ow 2 0 b]) (Gs dM dS Nx AA AA) rfl (yd e z)
   ·refine yo 7 ?_;exact Cm 3 Nx AA (JY e k (by exact Bf [0,3,1,2] (.w (.w (.p (.deep (AT AN) .nil)))) (.same AA))))
  have D:A16 3 (bm 9 183) ⟨54,AJ [(5,O5 p2),(6,Ax),(12,HI),(45,NY p0),(47,HQ p1.params),(49,HQ a),(50,ow 2 0 b)],[JO,sI,I0 b]⟩:=(e _ _ _).2 (by
   refine ya [3] ⟨?_,uM⟩
   ·refine yo 3 ?_;exact Dx (ow 3 0 f) (Bg J) ⟨(Ar λ_=>AA),uM⟩ (JY e k (by exact Bf [0,1,3,2] (.w (.w (.p (.deep (AT AN) .nil)))) (.same AA))))
  have E:A16 4 (bm 9 55) ⟨54,AJ [(5,O5 p2),(6,Ax),(45,NY p0),(47,HQ p1.params),(49,HQ a),(50,ow 1 0 b)],[JO,I0 b]⟩:=(e _ _ _).2 (by
   refine ya [3,7] ⟨?_,?_,uM⟩
   ·refine yo 3 ?_;exact Dx (ow 2 0 f) (Bg J) ⟨(Ar λ_=>AA),uM⟩ (JY e C (by exact Bf [0,2,1] (.w (.p (.deep (AT AN) .nil))) (.same AA)))
   ·refine yo 7 ?_;exact Cm 2 Nx AA (JY e D (by exact Bf [0,2,1] (.w (.w (.deep (AT AN) .nil))) (.same AA))))
  refine (e _ _ _).2 ?_;exact I6 e E
 refine AI (Vl (CC N p1 B) (λg K p=>⟨54,AJ [(3,.Bj (Cp p0) 0),(4,.Bj [ls eI p1.params,ls eI p1.Aq,i64 p1.result,ls Ba p1.body.steps,i64 p1.body.result] 0),(5,.Bj [ls Ba p2.steps,i64 p2.result] 0),(6,.ptr 0 0 0 0),(7,ow 1 0 B),(8,ls eI g),(9,ow 2 0 p),(16,ls eI p1.params),(17,i64 (Sh.len p1.params)),(18,i64 K)],[JO,ro 0 3 1 eI B,ro 0 80 5 (BV 3 48 80) p]⟩) N [] 0 [] H (by refine Wk.trans ((ER (t:=9) rfl 80 (size:=5) (by decide)).trans (DY [(3,.Bj (Cp p0) 0),(4,.Bj [ls eI p1.params,ls eI p1.Aq,i64 p1.result,ls Ba p1.body.steps,i64 p1.body.result] 0),(5,.Bj [ls Ba p2.steps,i64 p2.result] 0),(6,.ptr 3 0 0 0),(7,ow 4 0 B),(8,.zc),(9,.own 5 0 (List.length ([]:List Step))),(16,ls eI p1.params),(17,i64 (Sh.len p1.params)),(18,i64 0)] ⟨.rfl,.rfl,.rfl,.rfl,.rfl,.rfl,.rfl,.rfl,.rfl,.rfl,uM⟩)) ?_;refine Wk.trans (Bf (L:=[(3,.Bj (Cp p0) 0),(4,.Bj [ls eI p1.params,ls eI p1.Aq,i64 p1.result,ls Ba p1.body.steps,i64 p1.body.result] 0),(5,.Bj [ls Ba p2.steps,i64 p2.result] 0),(6,.ptr 0 0 0 0),(7,ow 1 0 B),(8,.zc),(9,.own 2 0 (List.length ([]:List Step))),(16,ls eI p1.params),(17,i64 (Sh.len p1.params)),(18,i64 0)]) (st':=[JO,ro 0 3 1 eI B,ro 0 80 5 (BV 3 48 80) ([]:List Step)]) [3,4,5] (.w (.p (.deep (AT AN) .nil))) ⟨.rfl,.rfl,.rfl,.rfl,.rfl,.rfl,.rfl,.rfl,.rfl,.rfl,uM⟩) ?_;exact DY [(3,.Bj (Cp p0) 0),(4,.Bj [ls eI p1.params,ls eI p1.Aq,i64 p1.result,ls Ba p1.body.steps,i64 p1.body.result] 0),(5,.Bj [ls Ba p2.steps,i64 p2.result] 0),(6,.ptr 0 0 0 0),(7,ow 1 0 B),(8,.sl (List.map eI [])),(9,.own 2 0 (List.length ([]:List Step))),(16,ls eI p1.params),(17,i64 (Sh.len p1.params)),(18,i64 0)] ⟨.rfl,.rfl,.rfl,.rfl,.rfl,.zc,.rfl,.rfl,.rfl,.rfl,uM⟩) ?_);intro n g K p H;rw[CC]at H;refine AS AA (AB λd3 X=>?_);refine An H ?_ ?_<;>intro d4 H
 ·refine AG (X _ (AB λc6 Y=>bs H λZ y H=>?_));have P:∀o I,Z=(o,I)->∀s,Wk 0 s ⟨54,AJ (qI p0 p1 p2 B o ((9,ow 2 0 I)::qN p1.params K [])),(JO::Ez B I [])⟩->c6 s:=by
   rintro o I rfl s T;exact Y _ (AH T (AE AA (AM 2 AA (AD (xi (o,Sh.w (K+1),I) H Ag)))))
  refine AI (Ab λd5 b0=>AK AA (bs y λd6 b1 y=>DI Ay b1 AA (AM 3 AA (AR b0 (AI (AB λc7 b2=>bs y λb3 Q y=>?_))))));have b4:∀{R},JJ b3 R ⟨54,AJ (qI p0 p1 p2 B g ((9,ow 2 0 p)::(10,i64 K)::qN p1.params K [(28,.bool R)])),(JO::Ez B p [])⟩ c7:=by
   rintro _ ⟨⟩ s T;refine b2 _ (AH T ?_);refine An y ?_ ?_<;>intro d7 y
   ·exact AG (P g p (Bm y) _ Ag)
   ·refine Ab λd8 b5=>AM 2 AA (bs y λc8 b6 y=>Fw (v':=(.bool c8)) BJ (hb 78) (Cz b6) rfl (.own AA AA (λ_=>AA) (.val AA .nil)) rfl uM AA AA (AK AA (AR b5 ?_)));refine An y ?_ ?_<;>intro d9 y
    ·exact AE AA (AM 2 AA (bs y λc9 b7 y=>CR (hb 43) (Hj b7) rfl (AK AA (AD (P c9 p (Bm y) _ Ag)))))
    ·refine AE AA (AM 2 AA (bs y λq b8 y=>Dx (.agg (pf q)) (Be b8) ⟨(Ar λ_=>AA),⟨Bi,uM⟩⟩ ?_));refine D9 5 [()] (λ_=>(pf q)) Cb AA ?_;refine bs y λG M y=>?_;have S:=Jg M;refine LX (st':=(JO::(As B)::⟨1,80,5,hole G (BV 3 48 80) (Sh.len p) (pf q)⟩::Jy q [⟨0,80,5,[pf q]⟩])) (c:=q) BJ Cb AA AA AA AA AA AA AA M AA ?_;refine Ac (Wk.take (id:=2) (m:=3) (j:=3) (i:=Sh.len p) (c:=q) (ys:=q.args) (encY:=eI) rfl S AA AA AA (by decide) (show 0<=3 by decide) DA AA AA) ?_;refine Ac (Wk.take (id:=2) (m:=4) (j:=4) (i:=Sh.len p) (c:=q) (ys:=q.kids) (encY:=(Bv 3 48 80)) rfl S AA AA AA (by decide) (show 0<=4 by decide) DA AA AA) ?_;refine Ac (EB (id:=2) (i:=Sh.len p) (c:=q) rfl S (CV q).symm AA) (AK AA ?_);exact AD (P g G (Bm y) _ (by refine Wk.trans (Bf (L:=(qI p0 p1 p2 B g ((9,ow 2 1 G)::qN p1.params K []))) (st':=[JO,As B,RJ G]) [0,1,2] (.w (.p (.deep (AT AN) .nil))) ⟨.rfl,.rfl,.rfl,.rfl,.rfl,.rfl,.rfl,.rfl,.rfl,.rfl,uM⟩) ?_;exact CH (L:=(qI p0 p1 p2 B g ((9,ow 2 0 G)::qN p1.params K []))) (st':=(JO::Ez B G [])) (.raw AA AA (.pure BB (.deep (AT AN) .nil))) ⟨.rfl,.rfl,.rfl,.rfl,.rfl,.rfl,.rfl,.rfl,.rfl,.rfl,uM⟩))
  refine AE AA (AM 3 AA ?_);rcases Sh.Aa Q with ⟨A,Q⟩|⟨A,Q⟩
  ·refine zs A AA ?_;iterate 3 refine zs A rfl ?_
   exact zt A AA (AK AA (AD (b4 Q Ag)))
  ·exact Aj A AA (Aj A AA (Aj A AA (bs Q λd0 b9 Q=>Iy A (H9 b9) rfl (zf A AA (AK AA (AD (b4 Q Ag)))))))
 ·exact Af (c5 g p (Bm H) _ (Bf [0,2] (.w (.deep (AT AN) .nil)) (.same AA)))
theorem O9 {N:Nat}{p0:AL}{p1_0:Ap}{r:AL}(h0:F4 N p0 p1_0=some r):BH 33 [Gz p0,.bd 34 [NY p1_0]] [] (.agg (bb r)) [JB r.decls,TZ r]:=by
 unfold F4 at h0;refine BW.wk (r0:=(.agg (bb r))) (st0:=[JB r.decls,TZ r,⟨0,30,2,[bb r]⟩]) ?_ (Gy (L:=[(0,.agg (bb r))]) (st':=[JB r.decls,TZ r]) [0,1] AA (by decide) rfl AA (.deep Bi (.deep Bi uM)) (.same AA));refine Bb Tryz.func33 AA (Ab λK1 V=>CY 0 AA (Ac (Wk.Db (L:=[(1,.bd 34 [NY p1_0]),(2,Z0 p0)]) (st':=[⟨1,30,2,[]⟩]) (id:=0) rfl yu (HL AA) (.same AA) rfl) (Cm 1 Me AA (AR V (Ab λK2 W=>AM 2 AA (bs h0 λp X h0=>Dx (ow 2 0 p) (Cl.Sj X) ⟨Bi,uM⟩ (zz (.agg [ow 2 0 p,.zc]) (Gs bx cx Me AA AA) rfl (Cm 3 Me AA ?_))))))));refine CF I1 AA (AR W (AB λK4 Y=>Ab λK5 Z=>AM 2 AA (Bd AA (AK AA (AR Z (bs h0 λo9 H h0=>?_))))));have M9:∀{I},JJ o9 I ⟨40,AJ [(4,Ax),(5,E4)],[V8,JB p,pB p I,NU I]⟩ K4:=by
  rintro _ ⟨⟩ s hw;refine Y _ (AH hw (Ab λb0 Q=>AK AA (CF I1 AA (AR Q ?_))));cases h0;exact BP ⟨_,(Da (L:=[(4,E4)]) (st':=(qO p o9)) (st1:=[JB p,NU o9,pB p o9]) [1,3,0] (.deep Bi (.deep Bi (.w .nil))) (.same AA)).trans (DY [(4,E4)] (.same AA)),Lk (.tmp 4) (ma p o9) I1 AA _ ⟨AA,AA⟩⟩
 refine AI (Fh (CT N p0 p1_0) (λG y=>⟨40,AJ [(1,.bd 34 [.agg (Cp p1_0)]),(4,.ptr 0 0 0 0),(5,.ptr 2 0 0 0),(13,ls Al p0.AF),(14,i64 (Sh.len p0.AF)),(15,i64 G)],[V8,ro 0 104 3 (BO 106 3) p,⟨0,30,2,[[ow 1 0 p,ow 3 0 y]]⟩,ro 0 50 5 (BD 3 3 3 48 80) y]⟩) N 0 [] H (by refine Wk.trans (HU (id:=3) (st':=[⟨1,30,2,[]⟩,V8,ro 0 104 3 (BO 106 3) p,⟨0,30,2,[[ow 2 0 p,.own 4 0 (List.length ([]:List Ad))]]⟩,ro 0 50 5 (BD 3 3 3 48 80) ([]:List Ad)]) (j:=1) rfl AA 50 (size':=5) (by decide) rfl AA AA AA) ?_;exact Da (L:=[(1,.bd 34 [.agg (Cp p1_0)]),(4,.ptr 0 0 0 0),(5,.ptr 2 0 0 0),(13,ls Al p0.AF),(14,i64 (Sh.len p0.AF)),(15,i64 0)]) (st':=[V8,ro 0 104 3 (BO 106 3) p,⟨0,30,2,[[ow 1 0 p,.own 3 0 (List.length ([]:List Ad))]]⟩,ro 0 50 5 (BD 3 3 3 48 80) ([]:List Ad)]) (st1:=[V8,ro 0 104 3 (BO 106 3) p,⟨0,30,2,[[ow 2 0 p,.own 4 0 (List.length ([]:List Ad))]]⟩,ro 0 50 5 (BD 3 3 3 48 80) ([]:List Ad)]) [1,2,3,4] (.w (.deep Bi (.w (.deep Bi .nil)))) (.same AA)) ?_);intro n G y H;rw[CT]at H;refine AS AA (AB λb1 R=>?_);refine An H ?_ ?_<;>intro b2 H
 ·refine AG (R _ (AB λb3 S=>AI (Ab λb4 T=>bs H λa U H=>DI Hg U AA (AK AA (Cm 4 Q2 AA (CF Q9 AA (Ac (Wk.Db (L:=[(1,.bd 34 [NY p1_0]),(4,Ax),(5,E4),(7,iP a),(13,nU p0),(14,mz p0),(15,i64 G)]) (st':=[V8,JB p,pB p y,NU y,iK]) (id:=4) rfl (show 0<=4 by decide) (HL AA) (.same AA) rfl) (AR T ?_))))))));refine Ci (by kernel_rfl) ?_;refine bs H λd K H=>bs H λe M H=>bs H λf O H=>bs H λE P H=>?_;refine FQ (f':=20) (listed':=(bm 20 0)) rfl (by kernel_rfl) ?_;refine hZ 0 (.ptr 2 0 0 1) rfl (Au (Gj qy AA AA (show 0+1<=2 by decide) rfl)) ?_;refine hZ 2 (iP a) rfl (Au (GH jz AA AA)) ?_;refine hZ 3 (HQ a.params) rfl (Ge Kl AA AA) ?_;refine hZ 5 (.Bj (mR a) 1) rfl (Au (GH pe AA AA)) ?_;refine hZ 6 (HQ a.Aq) rfl (Ge Kl AA AA) ?_;refine hZ 8 (.Bj (mR a) 2) rfl (Au (GH qx AA AA)) ?_;refine hZ 9 (i64 a.result) rfl (Ge JR AA AA) ?_;refine hZ 10 (.bd 34 [NY p1_0]) rfl (Au (BY AA)) ?_;refine hZ 11 (Z5 a) rfl (Hc Q9 AA zF rfl) ?_;refine hZ 12 (.Bj (mR a) 3) rfl (Au (GH pn AA AA)) ?_;refine hZ 13 (qm a) rfl (Hc LO AA (show 3+2<=5 by decide) rfl) ?_;refine FE (D7 λA22 b=>?_);have q:A22 0 (bm 20 1048575) ⟨40,AJ (VR p1_0 p0 G []),nR p E⟩:=(b _ _ _).2 (by
   refine DQ AA (by kernel_rfl) ?_;refine S _ (AE AA (AM 2 AA ?_));exact AD (xi (Sh.w (G+1),E) H (by exact Da (L:=[(1,.bd 34 [NY p1_0]),(4,Ax),(5,E4),(13,nU p0),(14,mz p0),(15,NV G)]) (st':=[V8,JB p,pB p E,NU E]) (st1:=[V8,JB p,eM p E,NU E]) [0,2,1,3] (.w (.deep Bi (.w (.deep Bi .nil)))) (.same AA))))
  have t:A22 1 (bm 20 524287) ⟨40,AJ (VR p1_0 p0 G [(36,ow 3 1 E),(37,.ptr 1 0 0 1)]),[V8,eM p y,JB p,ro 1 50 5 (BD 3 3 3 48 80) E]⟩:=(b _ _ _).2 (by
   refine ya [19] ⟨?_,uM⟩
   ·refine yo 19 ?_;exact CF nS AA (JY b q (by exact CH (L:=(VR p1_0 p0 G [])) (st':=(nR p E)) (.raw AA AA (.raw AA AA (.deep Bi (.deep Bi .nil)))) (.same AA))))
  have u:A22 3 (bm 20 131071) ⟨40,AJ (VR p1_0 p0 G [(20,ow 3 0 y),(35,.own 4 0 1)]),ij p y (⟨0,50,5,[qw d e a.result f]⟩::Cf d e [RI f])⟩:=(b _ _ _).2 (by
   refine ya [17] ⟨?_,uM⟩
   ·refine yo 17 ?_;have J:=Jg P;refine LX (st':=(V8::(eM p y)::(JB p)::⟨1,50,5,hole E (BD 3 3 3 48 80) (Sh.len y) (qw d e a.result f)⟩::⟨0,50,5,[qw d e a.result f]⟩::Cf d e [RI f])) (c:=(Ad.mk d e a.result f)) BJ Hg AA AA AA AA AA AA AA P AA ?_;refine Ac (Wk.take (id:=3) (m:=5) (j:=0) (i:=Sh.len y) (c:=(Ad.mk d e a.result f)) (ys:=d) (encY:=eI) rfl J AA AA AA (by decide) (show 0<=5 by decide) DA AA AA) ?_;refine Ac (Wk.take (id:=3) (m:=6) (j:=1) (i:=Sh.len y) (c:=(Ad.mk d e a.result f)) (ys:=e) (encY:=eI) rfl J AA AA AA (by decide) (show 0<=6 by decide) DA AA AA) ?_;refine Ac (Wk.take (id:=3) (m:=7) (j:=3) (i:=Sh.len y) (c:=(Ad.mk d e a.result f)) (ys:=f.steps) (encY:=(BV 3 48 80)) rfl J AA AA AA (by decide) (show 0<=7 by decide) Le AA AA) ?_;refine Ac (EB (id:=3) (i:=Sh.len y) (c:=(Ad.mk d e a.result f)) rfl J AA AA) (AD ⟨AA,?_⟩);refine qY tb 18 AA AA ?_;exact yw b t (by exact Bf [0,1,2,3] (.w (.w (.deep Bi (.deep Bi .nil)))) (.same AA)))
  have g:A22 4 (bm 20 65535) ⟨40,AJ (VR p1_0 p0 G [(20,ow 3 0 y),(34,.agg (oT d e a.result f))]),oY p y d e f⟩:=(b _ _ _).2 (by
   refine ya [16] ⟨?_,uM⟩
   ·refine yo 16 ?_;refine D9 7 [()] (λ_=>(oT d e a.result f)) Hg AA ?_;exact JY b u (by exact Da (L:=(VR p1_0 p0 G [(20,ow 3 0 y),(35,.own 4 0 1)])) (st':=(ij p y (⟨0,50,5,[qw d e a.result f]⟩::Cf d e [RI f]))) (st1:=(ij p y (⟨0,50,5,[oT d e a.result f]⟩::Cf d e [RI f]))) [0,1,2,3,7,4,5,6] (.w (.w (.deep Bi (.deep Bi (.w (.p (.p (.deep (AT AN) .nil)))))))) (.same AA)))
  have h:A22 5 (bm 20 32767) ⟨40,AJ (VR p1_0 p0 G [(20,ow 3 0 y),(23,ow 4 0 d),(26,ow 5 0 e),(28,i64 a.result),(33,pt f)]),oY p y d e f⟩:=(b _ _ _).2 (by
   refine ya [15] ⟨?_,uM⟩
   ·refine yo 15 ?_;exact zz (.agg (oT d e a.result f)) (Gs oN oH Q2 AA AA) rfl (yd b g))
  have k:A22 6 (bm 20 16383) ⟨40,AJ (VR p1_0 p0 G ((20,ow 3 0 y)::(23,ow 4 0 d)::(26,ow 5 0 e)::jC a.result p1_0 a [])),ij p y (Cf d e [])⟩:=(b _ _ _).2 (by
   refine ya [14] ⟨?_,uM⟩
   ·refine yo 14 ?_;exact Y5 (v':=(pt f)) (st':=(oY p y d e f)) BJ AA (hb 34) (Jz O) rfl AA ⟨AT AN,uM⟩ AA AA (yd b h))
  have o:A22 7 (bm 20 16255) ⟨40,AJ (VR p1_0 p0 G ((20,ow 3 0 y)::(23,ow 4 0 d)::(25,HQ a.Aq)::jC a.result p1_0 a [])),ij p y [As d]⟩:=(b _ _ _).2 (by
   refine ya [7] ⟨?_,uM⟩
   ·refine yo 7 ?_;exact Dx (ow 5 0 e) (Bg M) ⟨(Ar λ_=>AA),uM⟩ (yd b k))
  have B:A22 8 (bm 20 16239) ⟨40,AJ (VR p1_0 p0 G ((20,ow 3 0 y)::(22,HQ a.params)::(25,HQ a.Aq)::jC a.result p1_0 a [])),nR p y⟩:=(b _ _ _).2 (by
   refine ya [4] ⟨?_,uM⟩
   ·refine yo 4 ?_;exact Dx (ow 4 0 d) (Bg K) ⟨(Ar λ_=>AA),uM⟩ (yd b o))
  have z:A22 6 (bm 20 32765) ⟨40,AJ (VR p1_0 p0 G [(19,.ptr 1 0 0 1),(23,ow 4 0 d),(26,ow 5 0 e),(28,i64 a.result),(33,pt f)]),oY p y d e f⟩:=(b _ _ _).2 (by
   refine ya [1,15] ⟨?_,?_,uM⟩
   ·exact Lq tb b h
   ·refine yo 15 ?_;refine zz (.agg (oT d e a.result f)) (Gs oN oH Q2 AA AA) rfl (AD ⟨AA,?_⟩);refine qY tb 1 AA AA ?_;exact I6 b g)
  have A:A22 7 (bm 20 16381) ⟨40,AJ (VR p1_0 p0 G ((19,.ptr 1 0 0 1)::(23,ow 4 0 d)::(26,ow 5 0 e)::jC a.result p1_0 a [])),ij p y (Cf d e [])⟩:=(b _ _ _).2 (by
   refine ya [1,14] ⟨?_,?_,uM⟩
   ·exact Lq tb b k
   ·refine yo 14 ?_;exact Y5 (v':=(pt f)) (st':=(oY p y d e f)) BJ AA (hb 34) (Jz O) rfl AA ⟨AT AN,uM⟩ AA AA (yd b z))
  have C:A22 8 (bm 20 16253) ⟨40,AJ (VR p1_0 p0 G ((19,.ptr 1 0 0 1)::(23,ow 4 0 d)::(25,HQ a.Aq)::jC a.result p1_0 a [])),ij p y [As d]⟩:=(b _ _ _).2 (by
   refine ya [1,7] ⟨?_,?_,uM⟩
   ·exact Lq tb b o
   ·refine yo 7 ?_;exact Dx (ow 5 0 e) (Bg M) ⟨(Ar λ_=>AA),uM⟩ (yd b A))
  have D:A22 9 (bm 20 16237) ⟨40,AJ (VR p1_0 p0 G ((19,.ptr 1 0 0 1)::(22,HQ a.params)::(25,HQ a.Aq)::jC a.result p1_0 a [])),nR p y⟩:=(b _ _ _).2 (by
   refine ya [1,4] ⟨?_,?_,uM⟩
   ·exact Lq tb b B
   ·refine yo 4 ?_;exact Dx (ow 4 0 d) (Bg K) ⟨(Ar λ_=>AA),uM⟩ (yd b C))
  refine (b _ _ _).2 ?_;exact yw b D (by exact Da (L:=(VR p1_0 p0 G ((19,.ptr 1 0 0 1)::(22,HQ a.params)::(25,HQ a.Aq)::jC a.result p1_0 a []))) (st':=(nR p y)) (st1:=[V8,pB p y,JB p,NU y]) [0,2,1,3] (.w (.w (.deep Bi (.deep Bi .nil)))) (.same AA))
 ·exact Af (M9 H Ag)
theorem TR {N:Nat}{p0:AL}{r:Bool}(h0:JC N p0=some r):BH 35 [Gz p0] [] (.bool r) []:=by
 unfold JC at h0;refine Bb Tryz.func35 AA (Ab λC g=>CY 0 AA (AK AA (AR g (AB λp h=>Ab λD i=>AM 2 AA (Bd AA (AK AA (AR i ?_)))))));obtain⟨j,a,h0⟩:=Sh.BG h0;have q:JJ j (.inr ()) ⟨17,AJ [],[]⟩ p:=by
  rintro⟨⟩ s t;refine h _ (AH t (AS AA ?_));cases h0;exact rt [(2,.bool true)]
 refine AI (LN (FH N p0) (λk=>⟨17,AJ [(6,ls Al p0.AF),(7,i64 (Sh.len p0.AF)),(8,i64 k)],[]⟩) N 0 a (BT _ AA) ?_);intro n k a;rw[FH]at a;refine AS AA (AB λF l=>?_);refine An a ?_ ?_<;>intro G a
 ·refine AG (l _ (AB λu b=>AI (Ab λx c=>bs a λy d a=>DI Hg d AA (AK AA (Cm 0 Q2 AA (CF Q9 AA (AR c (Ab λz e=>AM 2 AA ?_))))))));refine bs a λA f a=>CR (hb 64) (Qm f) rfl (AK AA (AR e ?_));refine An a ?_ ?_<;>intro B a
  ·refine AS AA ?_;cases a;cases h0;exact rd [(2,.bool false)]
  ·exact AG (b _ (AE AA (AM 2 AA (AD (xi (Sh.w (k+1)) a (BT _ AA))))))
 ·exact Af (q a Ag)
theorem TM {N:Nat}{p0:AL}{r:AL×Bool}(h0:Mj N p0=some r):BH 10 [Gz p0] [] (.CW [.agg (ma r.1.decls r.1.AF),.bool r.2]) [JB r.1.decls,NU r.1.AF]:=by
 unfold Mj at h0;refine BW.wk (r0:=(.CW [.agg (ma r.1.decls r.1.AF),.bool r.2])) (st0:=(qO r.1.decls r.1.AF)) ?_ (Gy (L:=[(0,.CW [.agg (ma r.1.decls r.1.AF),.bool r.2])]) (st':=[JB r.1.decls,NU r.1.AF]) [0,1] AA (by decide) rfl AA (.deep Bi (.deep Bi uM)) (.same AA));refine Bb Tryz.func10 AA (Ab λG o=>CY 0 AA (Cm 1 Me AA (AK AA (AR o (AB λH p=>Ab λI q=>AK AA (bs h0 λw s h0=>CR (hb 21) (XL s) rfl (AK AA ?_)))))));refine AR q ?_;refine An h0 ?_ ?_<;>intro y h0
 ·have J:w=false:=by simpa using y
  refine Ab λK t=>zz (.agg [.zc,.zc]) (Gs bx cx Me AA AA) rfl (CF I1 AA (AK AA (AR t ?_)));cases h0;exact BP ⟨_,((((HU (id:=1) (st':=[⟨0,30,2,[jI p0]⟩,⟨0,30,2,[[sw,.zc]]⟩,fj]) (j:=0) rfl AA 104 (size':=3) (by decide) rfl AA AA AA).trans (HU (id:=1) (st':=[⟨0,30,2,[jI p0]⟩,⟨0,30,2,[[sw,qe]]⟩,fj,me]) (j:=1) rfl AA 50 (size':=5) (by decide) rfl AA AA AA)).trans (Da (L:=[(2,E4),(3,.bool false)]) (st':=[fj,me,⟨0,30,2,[qW]⟩]) (st1:=[fj,me,⟨0,30,2,[[sw,qe]]⟩]) [2,3,1] (.deep Bi (.deep Bi (.w .nil))) (.same AA))).trans (DY [(2,E4),(3,.bool false)] (.same AA))),Lk (.tmp 2) qW I1 AA _ ⟨AA,AA⟩⟩
 ·have M:w=true:=by simpa using y
  refine AG (p _ (Ab λO u=>AK AA (bs h0 λb d h0=>Px (.CW [NY b.1,.bool b.2]) (hb 32) (Ow d) rfl (AM 3 AA (Cm 2 cE AA (CF Xz AA (AK AA (AR u (Ab λz e=>AM 2 AA ?_)))))))));refine zz (.bd 34 [NY b.1]) (po AA AA) rfl (bs h0 λa f h0=>Dx (.agg [ow 3 0 a.decls,ow 4 0 a.AF]) (O9 f) ⟨Bi,⟨Bi,uM⟩⟩ (Cm 5 Me AA (CF I1 AA (AR e (AB λA g=>Ab λB h=>AK AA (bs h0 λc i h0=>Fw (v':=(.bool c)) BJ (hb 35) (TR i) rfl (.agg (.ownD AA AA (λ_=>AA) (λx=>Gg x) (.ownD AA AA (λ_=>AA) (λx=>Ed x) .nil)) .nil) rfl uM AA AA (AK AA ?_)))))));refine AR h ?_;refine An h0 ?_ ?_<;>intro k h0
  ·have C:c=false:=by simpa using k
   refine Ab λD l=>zz (.agg [.zc,.zc]) (Gs bx cx Me AA AA) rfl (CF I1 AA (AK AA (AR l ?_)));cases h0;exact BP ⟨_,((((HU (id:=1) (st':=[⟨0,30,2,[jI p0]⟩,⟨0,30,2,[[sD,.zc]]⟩,UH b.1,JB a.decls,TZ a,sY a,fj]) (j:=0) rfl AA 104 (size':=3) (by decide) rfl AA AA AA).trans (HU (id:=1) (st':=[⟨0,30,2,[jI p0]⟩,⟨0,30,2,[[sD,.own 7 0 (List.length ([]:List Ad))]]⟩,UH b.1,JB a.decls,TZ a,sY a,fj,me]) (j:=1) rfl AA 50 (size':=5) (by decide) rfl AA AA AA)).trans (Da (L:=[(2,E4),(3,.bool false)]) (st':=[fj,me,⟨0,30,2,[qW]⟩]) (st1:=[fj,me,⟨0,30,2,[[sD,.own 7 0 (List.length ([]:List Ad))]]⟩]) [6,7,1] (.deep Bi (.deep Bi (.w .nil))) (.same AA))).trans (DY [(2,E4),(3,.bool false)] (.same AA))),Lk (.tmp 2) qW I1 AA _ ⟨AA,AA⟩⟩
  ·have E:c=true:=by simpa using k
   refine AG (g _ (Ab λF n=>AK AA (CF I1 AA (AK AA (AR n ?_)))));cases h0;exact BP ⟨_,(Da (L:=[(2,E4),(3,.bool true)]) (st':=[JB a.decls,TZ a,⟨0,30,2,[bb a]⟩]) (st1:=[JB a.decls,TZ a,sY a]) [3,4,1] (.deep Bi (.deep Bi (.w .nil))) (.same AA)).trans (DY [(2,E4),(3,.bool true)] (.same AA)),Lk (.tmp 2) (bb a) I1 AA _ ⟨AA,AA⟩⟩
theorem MN {N:Nat}{p0:(List Int)}{p1:(List Int)}{r:Bool}(h0:JG N p0 p1=some r):BH 148 [ls eI p0,ls eI p1] [] (.bool r) []:=by
 unfold JG at h0;refine Bb Tryz.func148 AA (AS AA (AB λG m=>Ab λH o=>AK AA (Bd AA (AK AA (Bd AA (AK AA (AR o ?_)))))));refine An h0 ?_ ?_<;>intro t h0
 ·have I:decide ((Sh.len p0)=(Sh.len p1))=false:=by simpa using t
  refine AS AA ?_;cases h0;exact rt [(4,.bool false)]
 ·have J:decide ((Sh.len p0)=(Sh.len p1))=true:=by simpa using t
  refine AG (m _ (AB λx p=>AS AA ?_));obtain⟨b,a,h0⟩:=Sh.BG h0;have q:JJ b (.inr ()) ⟨26,AJ [],[]⟩ x:=by
   rintro⟨⟩ s y;refine p _ (AH y (AS AA ?_));cases h0;exact rt [(4,.bool true)]
  refine AI (LN (G3 p0 p1) (λc=>⟨26,AJ [(0,ls eI p0),(1,ls eI p1),(5,i64 c)],[]⟩) N 0 a Ag ?_);intro n c a;rw[G3]at a;refine AB λz d=>Ab λA e=>AM 2 AA (Bd AA (AK AA (AR e ?_)));refine An a ?_ ?_<;>intro B a
  ·refine AG (d _ (AB λC f=>AI (AB λD g=>?_)));refine Cu (by kernel_rfl) (by kernel_rfl) (by rfl) ?_;iterate 2 refine yq tb rfl ?_
   refine bs a λh i a=>Lw Ay i AA ?_;iterate 3 refine yq tb rfl ?_
   refine bs a λj k a=>Lw Ay k AA ?_;iterate 2 refine yq tb rfl ?_
   refine Bl (g _ ?_);refine An a ?_ ?_<;>intro l a
   ·have E:decide (h=j)=false:=by simpa using l
    refine AS AA ?_;cases a;cases h0;exact rt [(4,.bool false)]
   ·have F:decide (h=j)=true:=by simpa using l
    exact AG (f _ (AE AA (AM 3 AA (AD (xi (Sh.w (c+1)) a Ag)))))
  ·exact Af (q a Ag)
theorem Z4 {N:Nat}{p0 p1:Bw}{r:Bool}(h0:OP N p0 p1=some r):BH 211 [.agg (By p0),.agg (By p1)] [] (.bool r) []:=by
 unfold OP at h0;refine Bb Tryz.func211 AA (Ab λg a=>CY 0 AA (CY 1 AA (AK AA (AR a (AB λh b=>Ab λi c=>AM 4 AA (bs h0 λe d h0=>CR (hb 148) (MN d) rfl (AK AA ?_)))))));refine AR c ?_;refine An h0 ?_ ?_<;>intro f h0
 ·have j:e=false:=by simpa using f
  refine AS AA ?_;cases h0;exact rd [(4,.bool false)]
 ·have k:e=true:=by simpa using f
  refine AG (b _ (AS AA ?_));cases h0;exact rd [(4,.bool true)]
theorem Ye {N:Nat}{p0:(List Bw)}{p1:(List Bw)}{r:Bool}(h0:Mq N p0 p1=some r):BH 147 [ls By p0,ls By p1] [] (.bool r) []:=by
 unfold Mq at h0;refine Bb Tryz.func147 AA (AS AA (AB λI m=>Ab λJ o=>AK AA (Bd AA (AK AA (Bd AA (AK AA (AR o ?_)))))));refine An h0 ?_ ?_<;>intro t h0
 ·have K:decide ((Sh.len p0)=(Sh.len p1))=false:=by simpa using t
  refine AS AA ?_;cases h0;exact rt [(4,.bool false)]
 ·have L:decide ((Sh.len p0)=(Sh.len p1))=true:=by simpa using t
  refine AG (m _ (AB λx p=>AS AA ?_));obtain⟨b,a,h0⟩:=Sh.BG h0;have q:JJ b (.inr ()) ⟨27,AJ [],[]⟩ x:=by
   rintro⟨⟩ s y;refine p _ (AH y (AS AA ?_));cases h0;exact rt [(4,.bool true)]
  refine AI (LN (Hs N p0 p1) (λc=>⟨27,AJ [(0,ls By p0),(1,ls By p1),(5,i64 c)],[]⟩) N 0 a Ag ?_);intro n c a;rw[Hs]at a;refine AB λz e=>Ab λA f=>AM 2 AA (Bd AA (AK AA (AR f ?_)));refine An a ?_ ?_<;>intro B a
  ·refine AG (e _ (AB λC g=>AI (AB λD h=>?_)));refine Cu (by kernel_rfl) (by kernel_rfl) (by rfl) ?_;iterate 2 refine yq tb rfl ?_
   refine bs a λE i a=>Lw Jl i AA ?_;iterate 3 refine yq tb rfl ?_
   refine bs a λF j a=>Lw Jl j AA (yq tb AA (bs a λd k a=>Og (Z4 k) (yq tb AA (Bl (h _ ?_)))));refine An a ?_ ?_<;>intro l a
   ·have G:d=false:=by simpa using l
    refine AS AA ?_;cases a;cases h0;exact rt [(4,.bool false)]
   ·have H:d=true:=by simpa using l
    exact AG (g _ (AE AA (AM 3 AA (AD (xi (Sh.w (c+1)) a Ag)))))
  ·exact Af (q a Ag)
theorem YR {N:Nat}{p0 p1:AP}{r:Bool}(h0:ND N p0 p1=some r):BH 81 [WX p0,WX p1] [] (.bool r) []:=by
 unfold ND at h0;refine Bb Tryz.func81 AA (Ab λs g=>CY 0 AA (CY 1 AA (AK AA (AR g (AB λt h=>AS AA ?_)))));refine An h0 ?_ ?_<;>intro j h0
 ·have u:decide (p0.from_=p1.from_)=false:=by simpa using j
  refine AS AA ?_;cases h0;exact rd [(4,.bool false)]
 ·have w:decide (p0.from_=p1.from_)=true:=by simpa using j
  refine AG (h _ (AB λx i=>AS AA ?_));refine An h0 ?_ ?_<;>intro a h0
  ·have k:decide (p0.to=p1.to)=false:=by simpa using a
   refine AS AA ?_;cases h0;exact rd [(4,.bool false)]
  ·have l:decide (p0.to=p1.to)=true:=by simpa using a
   refine AG (i _ (AB λn b=>Ab λo c=>AM 4 AA (bs h0 λd e h0=>CR (hb 147) (Ye e) rfl (AK AA (AR c ?_)))));refine An h0 ?_ ?_<;>intro f h0
   ·have p:d=false:=by simpa using f
    refine AS AA ?_;cases h0;exact rd [(4,.bool false)]
   ·have q:d=true:=by simpa using f
    refine AG (b _ (AS AA ?_));cases h0;exact rd [(4,.bool true)]
theorem Wq {N:Nat}{p0:(List AP)}{p1:(List AP)}{r:Bool}(h0:L5 N p0 p1=some r):BH 36 [DH p0,DH p1] [] (.bool r) []:=by
 unfold L5 at h0;refine Bb Tryz.func36 AA (AS AA (AB λI m=>Ab λJ o=>AK AA (Bd AA (AK AA (Bd AA (AK AA (AR o ?_)))))));refine An h0 ?_ ?_<;>intro t h0
 ·have K:decide ((Sh.len p0)=(Sh.len p1))=false:=by simpa using t
  refine AS AA ?_;cases h0;exact rt [(4,.bool false)]
 ·have L:decide ((Sh.len p0)=(Sh.len p1))=true:=by simpa using t
  refine AG (m _ (AB λx p=>AS AA ?_));obtain⟨b,a,h0⟩:=Sh.BG h0;have q:JJ b (.inr ()) ⟨27,AJ [],[]⟩ x:=by
   rintro⟨⟩ s y;refine p _ (AH y (AS AA ?_));cases h0;exact rt [(4,.bool true)]
  refine AI (LN (HH N p0 p1) (λc=>⟨27,AJ [(0,ls Ai p0),(1,ls Ai p1),(5,i64 c)],[]⟩) N 0 a Ag ?_);intro n c a;rw[HH]at a;refine AB λz e=>Ab λA f=>AM 2 AA (Bd AA (AK AA (AR f ?_)));refine An a ?_ ?_<;>intro B a
  ·refine AG (e _ (AB λC g=>AI (AB λD h=>?_)));refine Cu (by kernel_rfl) (by kernel_rfl) (by rfl) ?_;iterate 2 refine yq tb rfl ?_
   refine bs a λE i a=>Lw EZ i AA ?_;iterate 3 refine yq tb rfl ?_
   refine bs a λF j a=>Lw EZ j AA (yq tb AA (bs a λd k a=>Og (YR k) (yq tb AA (Bl (h _ ?_)))));refine An a ?_ ?_<;>intro l a
   ·have G:d=false:=by simpa using l
    refine AS AA ?_;cases a;cases h0;exact rt [(4,.bool false)]
   ·have H:d=true:=by simpa using l
    exact AG (g _ (AE AA (AM 3 AA (AD (xi (Sh.w (c+1)) a Ag)))))
  ·exact Af (q a Ag)
theorem WJ {N:Nat}{za:Block->Block->Option (Bool)}(hrec_laws_eqBlock :∀{p0:Block} {p1:Block} {r:Bool},za p0 p1=some r->BH 149 [DN p0,DN p1] [] (.bool r) []){p0:(List Block)}{p1:(List Block)}{r:Bool}(h0:NR N za p0 p1=some r):BH 281 [ls BS p0,ls BS p1] [] (.bool r) []:=by
 unfold NR at h0;refine Bb Tryz.func281 AA (AS AA (AB λI m=>Ab λJ o=>AK AA (Bd AA (AK AA (Bd AA (AK AA (AR o ?_)))))));refine An h0 ?_ ?_<;>intro t h0
 ·have K:decide ((Sh.len p0)=(Sh.len p1))=false:=by simpa using t
  refine AS AA ?_;cases h0;exact rt [(4,.bool false)]
 ·have L:decide ((Sh.len p0)=(Sh.len p1))=true:=by simpa using t
  refine AG (m _ (AB λx p=>AS AA ?_));obtain⟨b,a,h0⟩:=Sh.BG h0;have q:JJ b (.inr ()) ⟨27,AJ [],[]⟩ x:=by
   rintro⟨⟩ s y;refine p _ (AH y (AS AA ?_));cases h0;exact rt [(4,.bool true)]
  refine AI (LN (Fk p0 p1 za) (λc=>⟨27,AJ [(0,ls BS p0),(1,ls BS p1),(5,i64 c)],[]⟩) N 0 a Ag ?_);intro n c a;rw[Fk]at a;refine AB λz e=>Ab λA f=>AM 2 AA (Bd AA (AK AA (AR f ?_)));refine An a ?_ ?_<;>intro B a
  ·refine AG (e _ (AB λC g=>AI (AB λD h=>?_)));refine Cu (by kernel_rfl) (by kernel_rfl) (by rfl) ?_;iterate 2 refine yq tb rfl ?_
   refine bs a λE i a=>Lw Kq i AA ?_;iterate 3 refine yq tb rfl ?_
   refine bs a λF j a=>Lw Kq j AA (yq tb AA (bs a λd k a=>Og (hrec_laws_eqBlock k) (yq tb AA (Bl (h _ ?_)))));refine An a ?_ ?_<;>intro l a
   ·have G:d=false:=by simpa using l
    refine AS AA ?_;cases a;cases h0;exact rt [(4,.bool false)]
   ·have H:d=true:=by simpa using l
    exact AG (g _ (AE AA (AM 3 AA (AD (xi (Sh.w (c+1)) a Ag)))))
  ·exact Af (q a Ag)
theorem YX {N:Nat}{za:Block->Block->Option (Bool)}(hrec_laws_eqBlock :∀{p0:Block} {p1:Block} {r:Bool},za p0 p1=some r->BH 149 [DN p0,DN p1] [] (.bool r) []){p0 p1:Step}{r:Bool}(h0:Mv N za p0 p1=some r):BH 266 [Hu p0,Hu p1] [] (.bool r) []:=by
 unfold Mv at h0;refine Bb Tryz.func266 AA (Ab λH o=>CY 0 AA (CY 1 AA (AK AA (AR o (AB λI p=>AS AA ?_)))));refine An h0 ?_ ?_<;>intro s h0
 ·have J:decide (p0.op=p1.op)=false:=by simpa using s
  refine AS AA ?_;cases h0;exact rd [(4,.bool false)]
 ·have K:decide (p0.op=p1.op)=true:=by simpa using s
  refine AG (p _ (AB λL q=>AS AA ?_));refine An h0 ?_ ?_<;>intro a h0
  ·have t:decide (p0.num=p1.num)=false:=by simpa using a
   refine AS AA ?_;cases h0;exact rd [(4,.bool false)]
  ·have u:decide (p0.num=p1.num)=true:=by simpa using a
   refine AG (q _ (AB λw b=>AS AA ?_));refine An h0 ?_ ?_<;>intro c h0
   ·have x:decide (p0.BF=p1.BF)=false:=by simpa using c
    refine AS AA ?_;cases h0;exact rd [(4,.bool false)]
   ·have y:decide (p0.BF=p1.BF)=true:=by simpa using c
    refine AG (b _ (AB λz d=>Ab λA e=>AM 4 AA (bs h0 λf g h0=>CR (hb 148) (MN g) rfl (AK AA (AR e ?_)))));refine An h0 ?_ ?_<;>intro h h0
    ·have B:f=false:=by simpa using h
     refine AS AA ?_;cases h0;exact rd [(4,.bool false)]
    ·have C:f=true:=by simpa using h
     refine AG (d _ (AB λD i=>Ab λE j=>AM 4 AA (bs h0 λk l h0=>CR (hb 281) (WJ hrec_laws_eqBlock l) rfl (AK AA (AR j ?_)))));refine An h0 ?_ ?_<;>intro n h0
     ·have F:k=false:=by simpa using n
      refine AS AA ?_;cases h0;exact rd [(4,.bool false)]
     ·have G:k=true:=by simpa using n
      refine AG (i _ (AS AA ?_));cases h0;exact rd [(4,.bool true)]
end Go.Proofs.YtccficmcdkcpnaaGreat
