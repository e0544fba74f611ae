import Derived.Test.YtpahalfiiahddaaGreatProg
import Derived.Test.YtpahalfiiahddaaGreatGAbsXToSSDefs
import Derived.Test.YtpahalfiiahddaaGreatGHADefsToFODefs
import Derived.Test.YtpahalfiiahddaaGreatCFWalk
import Derived.Test.YtpahalfiiahddaaGreatLAWalk
import Derived.Test.YtpahalfiiahddaaGreatFOWalkP2
namespace Go.Proofs.YtpahalfiiahddaaGreat
open Go Go.Abs RC
attribute [local irreducible] Go.Abs.C3
set_option maxRecDepth 100000
set_option maxHeartbeats 4000000

theorem PT:Gy Tryz.prog 30 1=some 1:=by kernel_rfl
theorem YG:Gy Tryz.prog 44 2=some 2:=by kernel_rfl
theorem bP:Gy Tryz.prog 48 0=some 0:=by kernel_rfl
theorem bg:Gy Tryz.prog 48 1=some 1:=by kernel_rfl
theorem bT:Gy Tryz.prog 48 2=some 2:=by kernel_rfl
theorem dC:Ao Tryz.prog 103=true:=by kernel_rfl
theorem Zs:Ao Tryz.prog 104=true:=by kernel_rfl
theorem fT:Ao Tryz.prog 34=true:=by kernel_rfl
theorem et:Ao Tryz.prog 35=true:=by kernel_rfl
theorem eD:Ao Tryz.prog 40=true:=by kernel_rfl
theorem Sj:Ao Tryz.prog 41=true:=by kernel_rfl
theorem Vq:Ao Tryz.prog 56=true:=by kernel_rfl
theorem ff:Ao Tryz.prog 68=true:=by kernel_rfl
theorem fC:Ao Tryz.prog 69=true:=by kernel_rfl

theorem Ox {N:Nat} {rec_impl_shifted:AG→Int→Int→Option (AG)} (hrec_impl_shifted :∀{p0:AG} {p1:Int} {p2:Int} {r:AG},rec_impl_shifted p0 p1 p2=some r→Ag Tryz.prog 41 (Uw p0 p1 p2) [] (fun v st=>v=(Nv r)∧st=[(Bj r)])) {p0:AG} {p1:Int} {p2:Int} {r:AG} (h0:Gm N rec_impl_shifted p0 p1 p2=some r):Ag Tryz.prog 41 (Uw p0 p1 p2) [] (fun v st=>v=(Nv r)∧st=[(Bj r)]):=by
 unfold Gm at h0
 refine Ag.wk (r0:=(Nv r)) (st0:=[(Bj r),⟨0,44,3,[(Xq r)]⟩]) ?_ (Ev (L:=[(0,(Nv r))]) (st':=[(Bj r)]) [0] U (by decide) rfl U (.deep (AL Ac) trivial) (.same U))
 refine ai Tryz.func41 U U U U (sr U fun K1 hK1=>BH (m:=0) Ah U U U U U (A0 (m:=1) Ah Fz U U (dn hK1 U (AF fun K2 hK2=>bs h0 fun o4 h1 h0=>?_))))
 have M4 :∀(f3:Int),o4=f3→∀s,Wk 0 s ⟨44,AP [(1,(i64 p1)),(2,(i64 p2)),(3,Ar),(6,Ay)],[(ba p0.op f3 p0.kids),Dd]⟩→K2 s:=by
  intro f3 hq s hw
  subst o4
  try dsimp only at h0
  refine hK2 _ (AR hw (zr tb U U (sr U fun K6 hK6=>zq tb U (A1 Ah UM U U U U U U (show 2+1≤3 by decide) rfl (dn hK6 U (AF fun K7 hK7=>sr U fun K8 hK8=>zq tb U (zl tb U U (zq tb U (dn hK8 U ?_)))))))))
  refine bs h0 fun o12 h1 h0=>?_
  have M12 :∀(l11:(List AG)),o12=l11→∀s,Wk 0 s ⟨44,AP [(3,Ar),(6,Ay)],[(aH p0 f3 l11),Dd,(EX l11)]⟩→K7 s:=by
   intro l11 hq s hw
   subst o12
   try dsimp only at h0
   refine hK7 _ (AR hw (sr U fun K13 hK13=>zq tb U (A1 Ah Bl U U U U U U (show 0+3≤3 by decide) rfl (dn hK13 U ?_))))
   replace h0:=Sh.AB h0
   subst r
   exact AJ (Exists.intro _ (And.intro ((A4 (L:=[(6,Ay)]) (st':=[(EX l11),⟨0,44,3,[[(i64 p0.op),(i64 f3),(ow 0 0 l11)]]⟩]) (st1:=[(EX l11),(aH p0 f3 l11)]) [2,1] U .nil (by decide) rfl U (.deep (AL Ac) (.raw U U .nil)) (.same U)).trans (AT (L:=[(6,Ay)]) (.same U))) (BE (x:=.tmp 6) (off:=0) (cs:=[(i64 p0.op),(i64 f3),(ow 0 0 l11)]) (vs:=[(i64 p0.op),(i64 f3),(ow 0 0 l11)]) Bl U U U (show 0+3≤3 by decide) rfl _ ⟨U,U⟩)))
  refine AU (As (σ:=Int×(List AG)) (fun n v=>Bw p0 p1 p2 rec_impl_shifted n v.1 v.2=some o12) (fun (t9,l10)=>⟨44,AP [(1,(i64 p1)),(2,(i64 p2)),(3,Ar),(6,Ay),(27,(G8 p0)),(28,(IA p0)),(29,(i64 t9))],[(aH p0 f3 l10),Dd,(EX l10)]⟩) N (0,[]) h1 (by refine Wk.trans (Fq (id:=0) (st':=[⟨0,44,3,[[(i64 p0.op),(i64 f3),(.own 2 0 (List.length ([]:List AG)))]]⟩,Dd,bA]) (j:=2) rfl U 44 (size':=3) (by decide) rfl U U U) ?_;exact AD U) (fun _ hv=>by rw[Bw] at hv;cases hv) ?_)
  rintro n ⟨t9,l10⟩ h1
  try dsimp only at h1 ⊢
  rw[Bw] at h1
  refine zr tb U U (AF fun K15 hK15=>?_)
  refine ci h1 U ?_ ?_ <;> clear h1
  ·intro b16 h1
   refine AI (hK15 _ (AF fun K17 hK17=>AU (sr U fun K18 hK18=>bs h1 fun c19 gc19 h1=>zz (EI c19) (BM Bc U U gc19 (Ax _) rfl) rfl (zq tb U (A0 (m:=3) Ah Fz U U (A1 Ah Bl U U U U U U (show 0+3≤3 by decide) rfl (dn hK18 U ?_)))))))
   refine HK (by kernel_rfl) ?_
   refine bs h1 fun q20 gq20 h1=>bs h1 fun l21 gl21 h1=>JP fun A23 hA23=>?_
   have A23_0123456789:A23 0 (bm 10 1023) ⟨44,AP [(1,(i64 p1)),(2,(i64 p2)),(3,Ar),(6,BK),(27,(G8 p0)),(28,(IA p0)),(29,(i64 t9))],[(Mw p0 f3 l21),(EX l21),Dd]⟩:=(hA23 _ _ _).2 (by
    refine GZ U (by kernel_rfl) ?_
    refine hK17 _ (AK U (zm tb 2 U ?_))
    exact AA (xi (Sh.w (t9+1),l21) h1 (by exact A4 (L:=[(1,(i64 p1)),(2,(i64 p2)),(3,Ar),(6,Ay),(27,(G8 p0)),(28,(IA p0)),(29,(KL t9))]) (st':=[(aH p0 f3 l21),Dd,(EX l21)]) (st1:=[(Mw p0 f3 l21),Dd,(EX l21)]) [0,2,1] U .nil (by decide) rfl U (.raw U U (.raw U U (.deep (AL Ac) .nil))) (.same U))))
   have A23_012345678:A23 1 (bm 10 511) ⟨44,AP [(1,(i64 p1)),(2,(i64 p2)),(3,Ar),(6,BK),(27,(G8 p0)),(28,(IA p0)),(29,(i64 t9)),(40,(ow 1 1 l21)),(41,(.ptr 0 0 0 2))],[(Mw p0 f3 l10),(ro 1 44 3 (Av 44) l21),Dd]⟩:=(hA23 _ _ _).2 (by
    refine Ae [9] U (by kernel_rfl) (by decide) ⟨?_,trivial⟩
    ·refine Az.of (i:=9) rfl U (by rfl) ?_
     refine A1 Ah UM U U U U U U (show 2+1≤3 by decide) rfl (AA ⟨U,?_⟩)
     exact AE (by exact Dx (L:=[(1,(i64 p1)),(2,(i64 p2)),(3,Ar),(6,BK),(27,(G8 p0)),(28,(IA p0)),(29,(i64 t9))]) (st':=[(Mw p0 f3 l21),(EX l21),Dd]) (.raw U U (.deep (AL Ac) (.raw U U .nil))) (.same U)) (AH (by kernel_rfl) ((hA23 _ _ _).1 A23_0123456789)) rfl)
   have A23_01234567:A23 2 (bm 10 255) ⟨44,AP [(1,(i64 p1)),(2,(i64 p2)),(3,Ar),(6,BK),(27,(G8 p0)),(28,(IA p0)),(29,(i64 t9)),(40,(ow 1 1 l21))],[(Mw p0 f3 l10),(ro 1 44 3 (Av 44) l21),Dd]⟩:=(hA23 _ _ _).2 (by
    refine Ae [8] U (by kernel_rfl) (by decide) ⟨?_,trivial⟩
    ·refine Az.of (i:=8) rfl U (by rfl) ?_
     refine zq tb U (AA ⟨U,?_⟩)
     exact AE (by exact AD U) (AH (by kernel_rfl) ((hA23 _ _ _).1 A23_012345678)) rfl)
   have A23_0123456:A23 3 (bm 10 127) ⟨44,AP [(1,(i64 p1)),(2,(i64 p2)),(3,Ar),(6,BK),(27,(G8 p0)),(28,(IA p0)),(29,(i64 t9)),(34,(ow 1 0 l10)),(39,(.own 3 0 1))],(Yq p0 f3 l10 q20)⟩:=(hA23 _ _ _).2 (by
    refine Ae [7] U (by kernel_rfl) (by decide) ⟨?_,trivial⟩
    ·refine Az.of (i:=7) rfl U (by rfl) ?_
     have g24:=We gl21
     refine X8 (st':=[(Mw p0 f3 l10),⟨1,44,3,hole l21 (Av 44) (Sh.len l10) (Mc q20)⟩,Dd,(V7 q20),(Bj q20)]) (c:=q20) Ah Bc U U U U U U U gl21 U ?_
     refine Ak (Wk.take (id:=1) (m:=4) (j:=2) (i:=Sh.len l10) (c:=q20) (ys:=q20.kids) (encY:=(Av 44)) rfl g24 U U U (by decide) (show 0≤4 by decide) CM U U) ?_
     refine Ak (FU (id:=1) (i:=Sh.len l10) (c:=q20) rfl g24 (BV q20).symm U) (AA ⟨U,?_⟩)
     exact AE (by exact Af [0,1,2] U (by decide) rfl U (.raw U U (.deep (AL Ac) (.raw U U .nil))) (.same U)) (AH (by kernel_rfl) ((hA23 _ _ _).1 A23_01234567)) rfl)
   have A23_012345:A23 4 (bm 10 63) ⟨44,AP [(1,(i64 p1)),(2,(i64 p2)),(3,Ar),(6,BK),(27,(G8 p0)),(28,(IA p0)),(29,(i64 t9)),(34,(ow 1 0 l10)),(38,(.agg (PR q20)))],[(Mw p0 f3 l10),(EX l10),Dd,(Bj q20)]⟩:=(hA23 _ _ _).2 (by
    refine Ae [6] U (by kernel_rfl) (by decide) ⟨?_,trivial⟩
    ·refine Az.of (i:=6) rfl U (by rfl) ?_
     refine Cb (m:=4) (l:=[()]) (enc:=fun _=>(PR q20)) Ah Bc (by decide) rfl U U U U U ?_
     refine AA ⟨U,?_⟩
     exact AE (by exact A4 (L:=[(1,(i64 p1)),(2,(i64 p2)),(3,Ar),(6,BK),(27,(G8 p0)),(28,(IA p0)),(29,(i64 t9)),(34,(ow 1 0 l10)),(39,(.own 3 0 1))]) (st':=(Yq p0 f3 l10 q20)) (st1:=[(Mw p0 f3 l10),(EX l10),Dd,(U1 q20),(Bj q20)]) [0,1,2,4,3] U .nil (by decide) rfl U (.raw U U (.deep (AL Ac) (.raw U U (.raw U U (.deep (AL Ac) .nil))))) (.same U)) (AH (by kernel_rfl) ((hA23 _ _ _).1 A23_0123456)) rfl)
   have A23_01234:A23 5 (bm 10 31) ⟨44,AP [(1,(i64 p1)),(2,(i64 p2)),(3,Ar),(6,BK),(27,(G8 p0)),(28,(IA p0)),(29,(i64 t9)),(34,(ow 1 0 l10)),(35,(B5 c19)),(36,(i64 p1)),(37,(i64 p2))],[(Mw p0 f3 l10),(EX l10),Dd]⟩:=(hA23 _ _ _).2 (by
    refine Ae [5] U (by kernel_rfl) (by decide) ⟨?_,trivial⟩
    ·refine Az.of (i:=5) rfl U (by rfl) ?_
     refine BY (v':=(.agg (PR q20))) Ah Sj (hrec_impl_shifted gq20) rfl U ⟨(AL Ac),trivial⟩ U U (AA ⟨U,?_⟩)
     exact AE (by exact AD U) (AH (by kernel_rfl) ((hA23 _ _ _).1 A23_012345)) rfl)
   have A23_0134:A23 6 (bm 10 27) ⟨44,AP [(1,(i64 p1)),(2,(i64 p2)),(3,Ar),(6,BK),(9,Ec),(27,(G8 p0)),(28,(IA p0)),(29,(i64 t9)),(34,(ow 1 0 l10)),(36,(i64 p1)),(37,(i64 p2))],(Y0 p0 f3 l10 c19)⟩:=(hA23 _ _ _).2 (by
    refine Ae [2] U (by kernel_rfl) (by decide) ⟨?_,trivial⟩
    ·refine Az.of (i:=2) rfl U (by rfl) ?_
     refine zq tb U (AA ⟨U,?_⟩)
     exact AE (by exact Af [0,1,2] U (by decide) rfl U (.raw U U (.deep (AL Ac) (.raw U U .nil))) (.same U)) (AH (by kernel_rfl) ((hA23 _ _ _).1 A23_01234)) rfl)
   have A23_023456:A23 4 (bm 10 125) ⟨44,AP [(1,(i64 p1)),(2,(i64 p2)),(3,Ar),(6,BK),(27,(G8 p0)),(28,(IA p0)),(29,(i64 t9)),(33,(.ptr 0 0 0 2)),(39,(.own 3 0 1))],(Yq p0 f3 l10 q20)⟩:=(hA23 _ _ _).2 (by
    refine Ae [1] U (by kernel_rfl) (by decide) ⟨?_,trivial⟩
    ·refine Az.of (i:=1) rfl U (by rfl) ?_
     refine zq tb U (AA ⟨U,?_⟩)
     exact AE (by exact AD U) (AH (by kernel_rfl) ((hA23 _ _ _).1 A23_0123456)) rfl)
   have A23_02345:A23 5 (bm 10 61) ⟨44,AP [(1,(i64 p1)),(2,(i64 p2)),(3,Ar),(6,BK),(27,(G8 p0)),(28,(IA p0)),(29,(i64 t9)),(33,(.ptr 0 0 0 2)),(38,(.agg (PR q20)))],[(Mw p0 f3 l10),(EX l10),Dd,(Bj q20)]⟩:=(hA23 _ _ _).2 (by
    refine Ae [1,6] U (by kernel_rfl) (by decide) ⟨?_,?_,trivial⟩
    ·refine Az.of (i:=1) rfl U (by rfl) ?_
     refine zq tb U (AA ⟨U,?_⟩)
     exact AE (by exact AD U) (AH (by kernel_rfl) ((hA23 _ _ _).1 A23_012345)) rfl
    ·refine Az.of (i:=6) rfl U (by rfl) ?_
     refine Cb (m:=4) (l:=[()]) (enc:=fun _=>(PR q20)) Ah Bc (by decide) rfl U U U U U ?_
     refine AA ⟨U,?_⟩
     exact AE (by exact A4 (L:=[(1,(i64 p1)),(2,(i64 p2)),(3,Ar),(6,BK),(27,(G8 p0)),(28,(IA p0)),(29,(i64 t9)),(33,(.ptr 0 0 0 2)),(39,(.own 3 0 1))]) (st':=(Yq p0 f3 l10 q20)) (st1:=[(Mw p0 f3 l10),(EX l10),Dd,(U1 q20),(Bj q20)]) [0,1,2,4,3] U .nil (by decide) rfl U (.raw U U (.deep (AL Ac) (.raw U U (.raw U U (.deep (AL Ac) .nil))))) (.same U)) (AH (by kernel_rfl) ((hA23 _ _ _).1 A23_023456)) rfl)
   have A23_0234:A23 6 (bm 10 29) ⟨44,AP [(1,(i64 p1)),(2,(i64 p2)),(3,Ar),(6,BK),(27,(G8 p0)),(28,(IA p0)),(29,(i64 t9)),(33,(.ptr 0 0 0 2)),(35,(B5 c19)),(36,(i64 p1)),(37,(i64 p2))],[(Mw p0 f3 l10),(EX l10),Dd]⟩:=(hA23 _ _ _).2 (by
    refine Ae [1,5] U (by kernel_rfl) (by decide) ⟨?_,?_,trivial⟩
    ·refine Az.of (i:=1) rfl U (by rfl) ?_
     refine zq tb U (AA ⟨U,?_⟩)
     exact AE (by exact AD U) (AH (by kernel_rfl) ((hA23 _ _ _).1 A23_01234)) rfl
    ·refine Az.of (i:=5) rfl U (by rfl) ?_
     refine BY (v':=(.agg (PR q20))) Ah Sj (hrec_impl_shifted gq20) rfl U ⟨(AL Ac),trivial⟩ U U (AA ⟨U,?_⟩)
     exact AE (by exact AD U) (AH (by kernel_rfl) ((hA23 _ _ _).1 A23_02345)) rfl)
   have A23_034:A23 7 (bm 10 25) ⟨44,AP [(1,(i64 p1)),(2,(i64 p2)),(3,Ar),(6,BK),(9,Ec),(27,(G8 p0)),(28,(IA p0)),(29,(i64 t9)),(33,(.ptr 0 0 0 2)),(36,(i64 p1)),(37,(i64 p2))],(Y0 p0 f3 l10 c19)⟩:=(hA23 _ _ _).2 (by
    refine Ae [1,2] U (by kernel_rfl) (by decide) ⟨?_,?_,trivial⟩
    ·refine Az.of (i:=1) rfl U (by rfl) ?_
     refine zq tb U (AA ⟨U,?_⟩)
     exact AE (by exact AD U) (AH (by kernel_rfl) ((hA23 _ _ _).1 A23_0134)) rfl
    ·refine Az.of (i:=2) rfl U (by rfl) ?_
     refine zq tb U (AA ⟨U,?_⟩)
     exact AE (by exact Af [0,1,2] U (by decide) rfl U (.raw U U (.deep (AL Ac) (.raw U U .nil))) (.same U)) (AH (by kernel_rfl) ((hA23 _ _ _).1 A23_0234)) rfl)
   have A23_23456:A23 5 (bm 10 124) ⟨44,AP [(1,(i64 p1)),(2,(i64 p2)),(3,Ar),(6,BK),(27,(G8 p0)),(28,(IA p0)),(29,(i64 t9)),(39,(.own 3 0 1))],(Yq p0 f3 l10 q20)⟩:=(hA23 _ _ _).2 (by
    refine Ae [0] U (by kernel_rfl) (by decide) ⟨?_,trivial⟩
    ·refine Az.of (i:=0) rfl U (by rfl) ?_
     refine zq tb U (AA ⟨U,?_⟩)
     exact AE (by exact AD U) (AH (by kernel_rfl) ((hA23 _ _ _).1 A23_023456)) rfl)
   have A23_2345:A23 6 (bm 10 60) ⟨44,AP [(1,(i64 p1)),(2,(i64 p2)),(3,Ar),(6,BK),(27,(G8 p0)),(28,(IA p0)),(29,(i64 t9)),(38,(.agg (PR q20)))],[(Mw p0 f3 l10),(EX l10),Dd,(Bj q20)]⟩:=(hA23 _ _ _).2 (by
    refine Ae [0,6] U (by kernel_rfl) (by decide) ⟨?_,?_,trivial⟩
    ·refine Az.of (i:=0) rfl U (by rfl) ?_
     refine zq tb U (AA ⟨U,?_⟩)
     exact AE (by exact AD U) (AH (by kernel_rfl) ((hA23 _ _ _).1 A23_02345)) rfl
    ·refine Az.of (i:=6) rfl U (by rfl) ?_
     refine Cb (m:=4) (l:=[()]) (enc:=fun _=>(PR q20)) Ah Bc (by decide) rfl U U U U U ?_
     refine AA ⟨U,?_⟩
     exact AE (by exact A4 (L:=[(1,(i64 p1)),(2,(i64 p2)),(3,Ar),(6,BK),(27,(G8 p0)),(28,(IA p0)),(29,(i64 t9)),(39,(.own 3 0 1))]) (st':=(Yq p0 f3 l10 q20)) (st1:=[(Mw p0 f3 l10),(EX l10),Dd,(U1 q20),(Bj q20)]) [0,1,2,4,3] U .nil (by decide) rfl U (.raw U U (.deep (AL Ac) (.raw U U (.raw U U (.deep (AL Ac) .nil))))) (.same U)) (AH (by kernel_rfl) ((hA23 _ _ _).1 A23_23456)) rfl)
   have A23_234:A23 7 (bm 10 28) ⟨44,AP [(1,(i64 p1)),(2,(i64 p2)),(3,Ar),(6,BK),(27,(G8 p0)),(28,(IA p0)),(29,(i64 t9)),(35,(B5 c19)),(36,(i64 p1)),(37,(i64 p2))],[(Mw p0 f3 l10),(EX l10),Dd]⟩:=(hA23 _ _ _).2 (by
    refine Ae [0,5] U (by kernel_rfl) (by decide) ⟨?_,?_,trivial⟩
    ·refine Az.of (i:=0) rfl U (by rfl) ?_
     refine zq tb U (AA ⟨U,?_⟩)
     exact AE (by exact AD U) (AH (by kernel_rfl) ((hA23 _ _ _).1 A23_0234)) rfl
    ·refine Az.of (i:=5) rfl U (by rfl) ?_
     refine BY (v':=(.agg (PR q20))) Ah Sj (hrec_impl_shifted gq20) rfl U ⟨(AL Ac),trivial⟩ U U (AA ⟨U,?_⟩)
     exact AE (by exact AD U) (AH (by kernel_rfl) ((hA23 _ _ _).1 A23_2345)) rfl)
   have A23_34:A23 8 (bm 10 24) ⟨44,AP [(1,(i64 p1)),(2,(i64 p2)),(3,Ar),(6,BK),(9,Ec),(27,(G8 p0)),(28,(IA p0)),(29,(i64 t9)),(36,(i64 p1)),(37,(i64 p2))],(Y0 p0 f3 l10 c19)⟩:=(hA23 _ _ _).2 (by
    refine Ae [0,2] U (by kernel_rfl) (by decide) ⟨?_,?_,trivial⟩
    ·refine Az.of (i:=0) rfl U (by rfl) ?_
     refine zq tb U (AA ⟨U,?_⟩)
     exact AE (by exact AD U) (AH (by kernel_rfl) ((hA23 _ _ _).1 A23_034)) rfl
    ·refine Az.of (i:=2) rfl U (by rfl) ?_
     refine zq tb U (AA ⟨U,?_⟩)
     exact AE (by exact Af [0,1,2] U (by decide) rfl U (.raw U U (.deep (AL Ac) (.raw U U .nil))) (.same U)) (AH (by kernel_rfl) ((hA23 _ _ _).1 A23_234)) rfl)
   have A23_3:A23 9 (bm 10 8) ⟨44,AP [(1,(i64 p1)),(2,(i64 p2)),(3,Ar),(6,BK),(9,Ec),(27,(G8 p0)),(28,(IA p0)),(29,(i64 t9)),(36,(i64 p1))],(Y0 p0 f3 l10 c19)⟩:=(hA23 _ _ _).2 (by
    refine Bt 4 (v:=(i64 p2)) rfl U (by kernel_rfl) (by kernel_rfl) (by kernel_rfl) rfl (CS U) ?_
    exact AE (by exact AD U) (AH (by kernel_rfl) ((hA23 _ _ _).1 A23_34)) rfl)
   have A23_e:A23 10 (bm 10 0) ⟨44,AP [(1,(i64 p1)),(2,(i64 p2)),(3,Ar),(6,BK),(9,Ec),(27,(G8 p0)),(28,(IA p0)),(29,(i64 t9))],(Y0 p0 f3 l10 c19)⟩:=(hA23 _ _ _).2 (by
    refine Bt 3 (v:=(i64 p1)) rfl U (by kernel_rfl) (by kernel_rfl) (by kernel_rfl) rfl (CS U) ?_
    exact AE (by exact AD U) (AH (by kernel_rfl) ((hA23 _ _ _).1 A23_3)) rfl)
   refine (hA23 _ _ _).2 ?_
   exact AE (by exact A4 (L:=[(1,(i64 p1)),(2,(i64 p2)),(3,Ar),(6,BK),(9,Ec),(27,(G8 p0)),(28,(IA p0)),(29,(i64 t9))]) (st':=(Y0 p0 f3 l10 c19)) (st1:=[(aH p0 f3 l10),(EX l10),Dd,(ba c19.op c19.num c19.kids)]) [0,2,1,3] U .nil (by decide) rfl U (.raw U U (.deep (AL Ac) (.raw U U (.raw U U .nil)))) (.same U)) (AH (by kernel_rfl) ((hA23 _ _ _).1 A23_e)) rfl
  ·intro b16 h1
   exact Aw (M12 l10 (Sh.AB h1).symm _ (AD U))
 refine AF fun K24 hK24=>bs h1 fun o26 h2 h1=>?_
 have M26 :∀(t25:Bool),o26=t25→∀s,Wk 0 s ⟨44,AP [(1,(i64 p1)),(2,(i64 p2)),(3,Ar),(6,Ay),(18,(.bool t25))],[(ba p0.op p0.num p0.kids),Dd]⟩→K24 s:=by
  intro t25 hq s hw
  subst o26
  try dsimp only at h1
  refine hK24 _ (AR hw ?_)
  refine ci h1 U ?_ ?_ <;> clear h1
  ·intro b27 h1
   exact AK U (zm tb 5 U (A1 Ah IJ U U U U U U (show 1+1≤3 by decide) rfl (AA (M4 (Sh.w (p0.num+p2)) (Sh.AB h1).symm _ (AD U)))))
  ·intro b27 h1
   exact AI (M4 p0.num (Sh.AB h1).symm _ (AD U))
 refine AK U (zm tb 4 U ?_)
 rcases Sh.Au h2 with ⟨b28,h2⟩ | ⟨b28,h2⟩
 ·refine zg tb b28 U ?_
  iterate 3 refine zg tb b28 rfl ?_
  exact zt b28 U (AA (M26 (decide (p1≤p0.num)) (Sh.AB h2).symm _ (AD U)))
 ·refine zs b28 U ?_
  iterate 3 refine zs b28 rfl ?_
  exact zf b28 U (AA (M26 false (Sh.AB h2).symm _ (AD U)))

theorem Of {N:Nat} :∀(n:Nat),∀{p0:AG} {p1:Int} {p2:Int} {r:AG},Ck N n p0 p1 p2=some r→Ag Tryz.prog 41 (Uw p0 p1 p2) [] (fun v st=>v=(Nv r)∧st=[(Bj r)]):=by
 intro n
 induction n with
 | zero=>intro p0 p1 p2 r h0;cases h0
 | succ n ih=>
  intro p0 p1 p2 r h0
  rw[Ck] at h0
  exact Ox (fun h=>ih h) h0
theorem Lh {N:Nat} :∀{p0:AG} {p1:Int} {p2:Int} {r:AG},FK N p0 p1 p2=some r→Ag Tryz.prog 41 (Uw p0 p1 p2) [] (fun v st=>v=(Nv r)∧st=[(Bj r)]):=by
 intro p0 p1 p2 r h0
 exact Of N h0
theorem KN {N:Nat} {p0:AG} {r:AG} (h0:Gp N p0=some r):Ag Tryz.prog 104 [(B5 p0)] [] (fun v st=>v=(Nv r)∧st=[(Bj r)]):=by
 unfold Gp at h0
 refine Ag.wk (r0:=(Nv r)) (st0:=[(Bj r),⟨0,44,3,[(Xq r)]⟩]) ?_ (Ev (L:=[(0,(Nv r))]) (st':=[(Bj r)]) [0] U (by decide) rfl U (.deep (AL Ac) trivial) (.same U))
 refine ai Tryz.func104 U U U U (sr U fun K1 hK1=>BH (m:=0) Ah U U U U U (A0 (m:=1) Ah Fz U U (dn hK1 U (sr U fun K2 hK2=>zq tb U (bs h0 fun q3 gq3 h0=>BY (v':=(NV q3)) Ah Sj (Lh gq3) rfl U ⟨(AL Ac),trivial⟩ U U (A1 Ah Bl U U U U U U (show 0+3≤3 by decide) rfl (dn hK2 U ?_)))))))
 replace h0:=Sh.AB h0
 subst r
 exact AJ (Exists.intro _ (And.intro ((A4 (L:=[(2,Ay)]) (st':=[(Bj q3),⟨0,44,3,[(Xq q3)]⟩]) (st1:=[(Bj q3),(Xw q3)]) [2,1] U .nil (by decide) rfl U (.deep (AL Ac) (.raw U U .nil)) (.same U)).trans (AT (L:=[(2,Ay)]) (.same U))) (BE (x:=.tmp 2) (off:=0) (cs:=(Xq q3)) (vs:=(Xq q3)) Bl U U U (show 0+3≤3 by decide) rfl _ ⟨U,U⟩)))
theorem Me {N:Nat} {p0:Aa} {r:Aa} (h0:FT N p0=some r):Ag Tryz.prog 55 [(HM p0)] [] (fun v st=>v=(.agg [(ow 0 0 r.decls),(ow 1 0 r.funcs)])∧st=[(ro 0 81 3 (Aj 111 3) r.decls),(Ny r)]):=by
 unfold FT at h0
 refine Ag.wk (r0:=(.agg [(ow 0 0 r.decls),(ow 1 0 r.funcs)])) (st0:=[(ro 0 81 3 (Aj 111 3) r.decls),(Ny r),⟨0,30,2,[[(ow 0 0 r.decls),(ow 1 0 r.funcs)]]⟩]) ?_ (Ev (L:=[(0,(.agg [(ow 0 0 r.decls),(ow 1 0 r.funcs)]))]) (st':=[(ro 0 81 3 (Aj 111 3) r.decls),(Ny r)]) [0,1] U (by decide) rfl U (.deep (AL fun _=>U) (.deep (AL fun _=>U) trivial)) (.same U))
 refine ai Tryz.func55 U U U U (sr U fun K1 hK1=>BH (m:=0) Ah U U U U U (Ak (Wk.Er (L:=[(1,(DK p0))]) (st':=[⟨1,30,2,[]⟩]) (id:=0) rfl (show 0≤0 by decide) (Fi U) (.same U) rfl) (A0 (m:=1) Ah HY U U (dn hK1 U (sr U fun K2 hK2=>zm tb 2 U (bs h0 fun q3 gq3 h0=>BY (v':=(ow 2 0 q3)) Ah dC (Cl.Mb gq3) rfl U ⟨(AL fun _=>U),trivial⟩ U U (zz (.agg [(ow 2 0 q3),.zc]) (FG Sw TJ HY U U) rfl (A0 (m:=3) Ah HY U U ?_))))))))
 refine A1 Ah FV U U U U U U (show 0+2≤2 by decide) rfl (dn hK2 U (AF fun K4 hK4=>sr U fun K5 hK5=>zm tb 2 U (zl tb U U (zq tb U (dn hK5 U (bs h0 fun o9 h1 h0=>?_))))))
 have M9 :∀(l8:(List Am)),o9=l8→∀s,Wk 0 s ⟨33,AP [(2,Ar),(3,BK)],[IT,(EC q3),(Yy q3 l8),(CA l8)]⟩→K4 s:=by
  intro l8 hq s hw
  subst o9
  try dsimp only at h0
  refine hK4 _ (AR hw (sr U fun K10 hK10=>zq tb U (A1 Ah FV U U U U U U (show 0+2≤2 by decide) rfl (dn hK10 U ?_))))
  replace h0:=Sh.AB h0
  subst r
  exact AJ (Exists.intro _ (And.intro ((A4 (L:=[(2,BK)]) (st':=(aE q3 l8)) (st1:=[(EC q3),(CA l8),(Yy q3 l8)]) [1,3,0] U .nil (by decide) rfl U (.deep (AL fun _=>U) (.deep (AL fun _=>U) (.raw U U .nil))) (.same U)).trans (AT (L:=[(2,BK)]) (.same U))) (BE (x:=.tmp 2) (off:=0) (cs:=(Th q3 l8)) (vs:=(Th q3 l8)) FV U U U (show 0+2≤2 by decide) rfl _ ⟨U,U⟩)))
 refine AU (As (σ:=Int×(List Am)) (fun n v=>CD N p0 n v.1 v.2=some o9) (fun (t6,l7)=>⟨33,AP [(2,Ar),(3,BK),(11,(IQ p0)),(12,(i64 (Sh.len p0.funcs))),(13,(i64 t6))],[IT,(EC q3),(Yy q3 l7),(CA l7)]⟩) N (0,[]) h1 (by refine Wk.trans (Fq (id:=3) (st':=[⟨1,30,2,[]⟩,IT,(EC q3),⟨0,30,2,[[(ow 2 0 q3),(.own 4 0 (List.length ([]:List Am)))]]⟩,Uo]) (j:=1) rfl U 48 (size':=5) (by decide) rfl U U U) ?_;exact A4 (L:=[(2,Ar),(3,BK),(11,(IQ p0)),(12,(i64 (Sh.len p0.funcs))),(13,(i64 0))]) (st':=[IT,(EC q3),⟨0,30,2,[[(ow 1 0 q3),Y1]]⟩,Uo]) (st1:=[IT,(EC q3),⟨0,30,2,[[(ow 2 0 q3),(.own 4 0 (List.length ([]:List Am)))]]⟩,Uo]) [1,2,3,4] U .nil (by decide) rfl U (.raw U U (.deep (AL fun _=>U) (.raw U U (.deep (AL fun _=>U) .nil)))) (.same U)) (fun _ hv=>by rw[CD] at hv;cases hv) ?_)
 rintro n ⟨t6,l7⟩ h1
 try dsimp only at h1 ⊢
 rw[CD] at h1
 refine zr tb U U (AF fun K12 hK12=>?_)
 refine ci h1 U ?_ ?_ <;> clear h1
 ·intro b13 h1
  refine AI (hK12 _ (AF fun K14 hK14=>AU (sr U fun K15 hK15=>bs h1 fun c16 gc16 h1=>zx CR gc16 U U U (zq tb U (A0 (m:=4) Ah Mx U U (A1 Ah Pt U U U U U U (show 0+5≤5 by decide) rfl (Ak (Wk.Er (L:=[(2,Ar),(3,BK),(5,(.Bu (Sp c16) 0)),(11,(IQ p0)),(12,(i64 (Sh.len p0.funcs))),(13,(i64 t6))]) (st':=[IT,(EC q3),(Yy q3 l7),(CA l7),⟨1,48,5,[]⟩]) (id:=4) rfl (show 0≤4 by decide) (Fi U) (.same U) rfl) (dn hK15 U ?_))))))))
  refine Mq (by kernel_rfl) ?_
  refine bs h1 fun q17 gq17 h1=>bs h1 fun q18 gq18 h1=>bs h1 fun l19 gl19 h1=>?_
  refine R9 (f':=15) (listed':=(bm 15 0)) rfl (by kernel_rfl) ?_
  refine CI 0 (v:=Ee) rfl U (by kernel_rfl) (by kernel_rfl) (by kernel_rfl) rfl (Di (IB PT U U (show 0+1≤2 by decide) rfl)) ?_
  refine CI 2 (v:=(.Bu (Sp c16) 0)) rfl U (by kernel_rfl) (by kernel_rfl) (by kernel_rfl) rfl (Di (L7 bP U U)) ?_
  refine CI 3 (v:=(ls eI c16.params)) rfl U (by kernel_rfl) (by kernel_rfl) (by kernel_rfl) rfl (Oj HZ U U) ?_
  refine CI 5 (v:=(.Bu (Sp c16) 1)) rfl U (by kernel_rfl) (by kernel_rfl) (by kernel_rfl) rfl (Di (L7 bg U U)) ?_
  refine CI 6 (v:=(i64 c16.result)) rfl U (by kernel_rfl) (by kernel_rfl) (by kernel_rfl) rfl (Oj IJ U U) ?_
  refine CI 7 (v:=(.Bu (Sp c16) 2)) rfl U (by kernel_rfl) (by kernel_rfl) (by kernel_rfl) rfl (Di (L7 bT U U)) ?_
  refine CI 8 (v:=(YX c16)) rfl U (by kernel_rfl) (by kernel_rfl) (by kernel_rfl) rfl (V6 Bl U (show 2+3≤5 by decide) rfl) ?_
  refine TA (Qy fun A21 hA21=>?_)
  have A21_0123456789abcde:A21 0 (bm 15 32767) ⟨33,AP [(2,Ar),(3,Ay),(11,(IQ p0)),(12,(i64 (Sh.len p0.funcs))),(13,(i64 t6))],[IT,(Jq q3 l19),(EC q3),(CA l19)]⟩:=(hA21 _ _ _).2 (by
   refine OU U (by kernel_rfl) ?_
   refine hK14 _ (AK U (zm tb 2 U ?_))
   exact AA (xi (Sh.w (t6+1),l19) h1 (by exact A4 (L:=[(2,Ar),(3,BK),(11,(IQ p0)),(12,(i64 (Sh.len p0.funcs))),(13,(KL t6))]) (st':=[IT,(EC q3),(Yy q3 l19),(CA l19)]) (st1:=[IT,(EC q3),(Jq q3 l19),(CA l19)]) [0,2,1,3] U .nil (by decide) rfl U (.raw U U (.deep (AL fun _=>U) (.raw U U (.deep (AL fun _=>U) .nil)))) (.same U))))
  have A21_0123456789abcd:A21 1 (bm 15 16383) ⟨33,AP [(2,Ar),(3,Ay),(11,(IQ p0)),(12,(i64 (Sh.len p0.funcs))),(13,(i64 t6)),(29,(ow 3 1 l19)),(30,VM)],[IT,(Jq q3 l7),(EC q3),(ro 1 48 5 (BB 3 44) l19)]⟩:=(hA21 _ _ _).2 (by
   refine At [14] U (by kernel_rfl) (by decide) ⟨?_,trivial⟩
   ·refine BJ.of (i:=14) rfl U (by rfl) ?_
    refine A1 Ah af U U U U U U (show 1+1≤2 by decide) rfl (AA ⟨U,?_⟩)
    exact AM (by exact Dx (L:=[(2,Ar),(3,Ay),(11,(IQ p0)),(12,(i64 (Sh.len p0.funcs))),(13,(i64 t6))]) (st':=[IT,(Jq q3 l19),(EC q3),(CA l19)]) (.raw U U (.raw U U (.deep (AL fun _=>U) (.deep (AL fun _=>U) .nil)))) (.same U)) (Ad (by kernel_rfl) ((hA21 _ _ _).1 A21_0123456789abcde)) rfl)
  have A21_0123456789abc:A21 2 (bm 15 8191) ⟨33,AP [(2,Ar),(3,Ay),(11,(IQ p0)),(12,(i64 (Sh.len p0.funcs))),(13,(i64 t6)),(29,(ow 3 1 l19))],[IT,(Jq q3 l7),(EC q3),(ro 1 48 5 (BB 3 44) l19)]⟩:=(hA21 _ _ _).2 (by
   refine AY.hoist 13 (v:=VM) rfl U (by kernel_rfl) (by kernel_rfl) (by kernel_rfl) rfl (IB PT U U (show 0+1≤2 by decide) rfl) ?_
   exact AM (by exact AD U) (Ad (by kernel_rfl) ((hA21 _ _ _).1 A21_0123456789abcd)) rfl)
  have A21_0123456789ab:A21 3 (bm 15 4095) ⟨33,AP [(2,Ar),(3,Ay),(11,(IQ p0)),(12,(i64 (Sh.len p0.funcs))),(13,(i64 t6)),(18,(ow 3 0 l7)),(28,(.own 4 0 1))],[IT,(Jq q3 l7),(EC q3),(CA l7),⟨0,48,5,[[(ow 5 0 q17),(i64 c16.result),(i64 q18.op),(i64 q18.num),(ow 6 0 q18.kids)]]⟩,(BL q17),(Bj q18)]⟩:=(hA21 _ _ _).2 (by
   refine At [12] U (by kernel_rfl) (by decide) ⟨?_,trivial⟩
   ·refine BJ.of (i:=12) rfl U (by rfl) ?_
    have g22:=We gl19
    refine X8 (st':=[IT,(Jq q3 l7),(EC q3),⟨1,48,5,hole l19 (BB 3 44) (Sh.len l7) [(ow 5 0 q17),(i64 c16.result),(i64 q18.op),(i64 q18.num),(ow 6 0 q18.kids)]⟩,⟨0,48,5,[[(ow 5 0 q17),(i64 c16.result),(i64 q18.op),(i64 q18.num),(ow 6 0 q18.kids)]]⟩,(BL q17),(Bj q18)]) (c:=(Am.mk q17 c16.result q18)) Ah CR U U U U U U U gl19 U ?_
    refine Ak (Wk.take (id:=3) (m:=5) (j:=0) (i:=Sh.len l7) (c:=(Am.mk q17 c16.result q18)) (ys:=q17) (encY:=eI) rfl g22 U U U (by decide) (show 0≤5 by decide) (fun _=>U) rfl U) ?_
    refine Ak (Wk.take (id:=3) (m:=6) (j:=4) (i:=Sh.len l7) (c:=(Am.mk q17 c16.result q18)) (ys:=q18.kids) (encY:=(Av 44)) rfl g22 U U U (by decide) (show 0≤6 by decide) CM U U) ?_
    refine Ak (FU (id:=3) (i:=Sh.len l7) (c:=(Am.mk q17 c16.result q18)) rfl g22 U U) (AA ⟨U,?_⟩)
    exact AM (by exact Af [0,1,2,3] U (by decide) rfl U (.raw U U (.raw U U (.deep (AL fun _=>U) (.deep (AL fun _=>U) .nil)))) (.same U)) (Ad (by kernel_rfl) ((hA21 _ _ _).1 A21_0123456789abc)) rfl)
  have A21_0123456789a:A21 4 (bm 15 2047) ⟨33,AP [(2,Ar),(3,Ay),(11,(IQ p0)),(12,(i64 (Sh.len p0.funcs))),(13,(i64 t6)),(18,(ow 3 0 l7)),(27,(.agg [(ow 4 0 q17),(i64 c16.result),(i64 q18.op),(i64 q18.num),(ow 5 0 q18.kids)]))],[IT,(Jq q3 l7),(EC q3),(CA l7),(BL q17),(Bj q18)]⟩:=(hA21 _ _ _).2 (by
   refine At [11] U (by kernel_rfl) (by decide) ⟨?_,trivial⟩
   ·refine BJ.of (i:=11) rfl U (by rfl) ?_
    refine Cb (m:=6) (l:=[()]) (enc:=fun _=>[(ow 4 0 q17),(i64 c16.result),(i64 q18.op),(i64 q18.num),(ow 5 0 q18.kids)]) Ah CR (by decide) rfl U U U U U ?_
    refine AA ⟨U,?_⟩
    exact AM (by exact A4 (L:=[(2,Ar),(3,Ay),(11,(IQ p0)),(12,(i64 (Sh.len p0.funcs))),(13,(i64 t6)),(18,(ow 3 0 l7)),(28,(.own 4 0 1))]) (st':=[IT,(Jq q3 l7),(EC q3),(CA l7),⟨0,48,5,[[(ow 5 0 q17),(i64 c16.result),(i64 q18.op),(i64 q18.num),(ow 6 0 q18.kids)]]⟩,(BL q17),(Bj q18)]) (st1:=[IT,(Jq q3 l7),(EC q3),(CA l7),⟨0,48,5,[[(ow 4 0 q17),(i64 c16.result),(i64 q18.op),(i64 q18.num),(ow 5 0 q18.kids)]]⟩,(BL q17),(Bj q18)]) [0,1,2,3,6,4,5] U .nil (by decide) rfl U (.raw U U (.raw U U (.deep (AL fun _=>U) (.deep (AL fun _=>U) (.raw U U (.pure (AN fun _=>U) (.deep (AL Ac) .nil))))))) (.same U)) (Ad (by kernel_rfl) ((hA21 _ _ _).1 A21_0123456789ab)) rfl)
  have A21_0123456789:A21 5 (bm 15 1023) ⟨33,AP [(2,Ar),(3,Ay),(11,(IQ p0)),(12,(i64 (Sh.len p0.funcs))),(13,(i64 t6)),(18,(ow 3 0 l7)),(21,(ow 4 0 q17)),(23,(i64 c16.result)),(26,(.agg (Md q18)))],[IT,(Jq q3 l7),(EC q3),(CA l7),(BL q17),(Bj q18)]⟩:=(hA21 _ _ _).2 (by
   refine At [10] U (by kernel_rfl) (by decide) ⟨?_,trivial⟩
   ·refine BJ.of (i:=10) rfl U (by rfl) ?_
    refine zz (.agg [(ow 4 0 q17),(i64 c16.result),(i64 q18.op),(i64 q18.num),(ow 5 0 q18.kids)]) (FG aR aj Mx U U) rfl (AA ⟨U,?_⟩)
    exact AM (by exact AD U) (Ad (by kernel_rfl) ((hA21 _ _ _).1 A21_0123456789a)) rfl)
  have A21_012345678:A21 6 (bm 15 511) ⟨33,AP [(2,Ar),(3,Ay),(11,(IQ p0)),(12,(i64 (Sh.len p0.funcs))),(13,(i64 t6)),(18,(ow 3 0 l7)),(21,(ow 4 0 q17)),(23,(i64 c16.result)),(25,(YX c16))],[IT,(Jq q3 l7),(EC q3),(CA l7),(BL q17)]⟩:=(hA21 _ _ _).2 (by
   refine At [9] U (by kernel_rfl) (by decide) ⟨?_,trivial⟩
   ·refine BJ.of (i:=9) rfl U (by rfl) ?_
    refine BY (v':=(.agg (Md q18))) Ah Zs (KN gq18) rfl U ⟨(AL Ac),trivial⟩ U U (AA ⟨U,?_⟩)
    exact AM (by exact AD U) (Ad (by kernel_rfl) ((hA21 _ _ _).1 A21_0123456789)) rfl)
  have A21_01235678:A21 7 (bm 15 495) ⟨33,AP [(2,Ar),(3,Ay),(11,(IQ p0)),(12,(i64 (Sh.len p0.funcs))),(13,(i64 t6)),(18,(ow 3 0 l7)),(20,(ls eI c16.params)),(23,(i64 c16.result)),(25,(YX c16))],[IT,(Jq q3 l7),(EC q3),(CA l7)]⟩:=(hA21 _ _ _).2 (by
   refine At [4] U (by kernel_rfl) (by decide) ⟨?_,trivial⟩
   ·refine BJ.of (i:=4) rfl U (by rfl) ?_
    refine BY (v':=(ow 4 0 q17)) Ah MB (B0 gq17) rfl U ⟨(B2 fun _=>U),trivial⟩ U U (AA ⟨U,?_⟩)
    exact AM (by exact AD U) (Ad (by kernel_rfl) ((hA21 _ _ _).1 A21_012345678)) rfl)
  have A21_023456789ab:A21 4 (bm 15 4093) ⟨33,AP [(2,Ar),(3,Ay),(11,(IQ p0)),(12,(i64 (Sh.len p0.funcs))),(13,(i64 t6)),(17,VM),(28,(.own 4 0 1))],[IT,(Jq q3 l7),(EC q3),(CA l7),⟨0,48,5,[[(ow 5 0 q17),(i64 c16.result),(i64 q18.op),(i64 q18.num),(ow 6 0 q18.kids)]]⟩,(BL q17),(Bj q18)]⟩:=(hA21 _ _ _).2 (by
   refine At [1] U (by kernel_rfl) (by decide) ⟨?_,trivial⟩
   ·refine BJ.of (i:=1) rfl U (by rfl) ?_
    refine zq tb U (AA ⟨U,?_⟩)
    exact AM (by exact AD U) (Ad (by kernel_rfl) ((hA21 _ _ _).1 A21_0123456789ab)) rfl)
  have A21_023456789a:A21 5 (bm 15 2045) ⟨33,AP [(2,Ar),(3,Ay),(11,(IQ p0)),(12,(i64 (Sh.len p0.funcs))),(13,(i64 t6)),(17,VM),(27,(.agg [(ow 4 0 q17),(i64 c16.result),(i64 q18.op),(i64 q18.num),(ow 5 0 q18.kids)]))],[IT,(Jq q3 l7),(EC q3),(CA l7),(BL q17),(Bj q18)]⟩:=(hA21 _ _ _).2 (by
   refine At [1,11] U (by kernel_rfl) (by decide) ⟨?_,?_,trivial⟩
   ·refine BJ.of (i:=1) rfl U (by rfl) ?_
    refine zq tb U (AA ⟨U,?_⟩)
    exact AM (by exact AD U) (Ad (by kernel_rfl) ((hA21 _ _ _).1 A21_0123456789a)) rfl
   ·refine BJ.of (i:=11) rfl U (by rfl) ?_
    refine Cb (m:=6) (l:=[()]) (enc:=fun _=>[(ow 4 0 q17),(i64 c16.result),(i64 q18.op),(i64 q18.num),(ow 5 0 q18.kids)]) Ah CR (by decide) rfl U U U U U ?_
    refine AA ⟨U,?_⟩
    exact AM (by exact A4 (L:=[(2,Ar),(3,Ay),(11,(IQ p0)),(12,(i64 (Sh.len p0.funcs))),(13,(i64 t6)),(17,VM),(28,(.own 4 0 1))]) (st':=[IT,(Jq q3 l7),(EC q3),(CA l7),⟨0,48,5,[[(ow 5 0 q17),(i64 c16.result),(i64 q18.op),(i64 q18.num),(ow 6 0 q18.kids)]]⟩,(BL q17),(Bj q18)]) (st1:=[IT,(Jq q3 l7),(EC q3),(CA l7),⟨0,48,5,[[(ow 4 0 q17),(i64 c16.result),(i64 q18.op),(i64 q18.num),(ow 5 0 q18.kids)]]⟩,(BL q17),(Bj q18)]) [0,1,2,3,6,4,5] U .nil (by decide) rfl U (.raw U U (.raw U U (.deep (AL fun _=>U) (.deep (AL fun _=>U) (.raw U U (.pure (AN fun _=>U) (.deep (AL Ac) .nil))))))) (.same U)) (Ad (by kernel_rfl) ((hA21 _ _ _).1 A21_023456789ab)) rfl)
  have A21_023456789:A21 6 (bm 15 1021) ⟨33,AP [(2,Ar),(3,Ay),(11,(IQ p0)),(12,(i64 (Sh.len p0.funcs))),(13,(i64 t6)),(17,VM),(21,(ow 4 0 q17)),(23,(i64 c16.result)),(26,(.agg (Md q18)))],[IT,(Jq q3 l7),(EC q3),(CA l7),(BL q17),(Bj q18)]⟩:=(hA21 _ _ _).2 (by
   refine At [1,10] U (by kernel_rfl) (by decide) ⟨?_,?_,trivial⟩
   ·refine BJ.of (i:=1) rfl U (by rfl) ?_
    refine zq tb U (AA ⟨U,?_⟩)
    exact AM (by exact AD U) (Ad (by kernel_rfl) ((hA21 _ _ _).1 A21_0123456789)) rfl
   ·refine BJ.of (i:=10) rfl U (by rfl) ?_
    refine zz (.agg [(ow 4 0 q17),(i64 c16.result),(i64 q18.op),(i64 q18.num),(ow 5 0 q18.kids)]) (FG aR aj Mx U U) rfl (AA ⟨U,?_⟩)
    exact AM (by exact AD U) (Ad (by kernel_rfl) ((hA21 _ _ _).1 A21_023456789a)) rfl)
  have A21_02345678:A21 7 (bm 15 509) ⟨33,AP [(2,Ar),(3,Ay),(11,(IQ p0)),(12,(i64 (Sh.len p0.funcs))),(13,(i64 t6)),(17,VM),(21,(ow 4 0 q17)),(23,(i64 c16.result)),(25,(YX c16))],[IT,(Jq q3 l7),(EC q3),(CA l7),(BL q17)]⟩:=(hA21 _ _ _).2 (by
   refine At [1,9] U (by kernel_rfl) (by decide) ⟨?_,?_,trivial⟩
   ·refine BJ.of (i:=1) rfl U (by rfl) ?_
    refine zq tb U (AA ⟨U,?_⟩)
    exact AM (by exact AD U) (Ad (by kernel_rfl) ((hA21 _ _ _).1 A21_012345678)) rfl
   ·refine BJ.of (i:=9) rfl U (by rfl) ?_
    refine BY (v':=(.agg (Md q18))) Ah Zs (KN gq18) rfl U ⟨(AL Ac),trivial⟩ U U (AA ⟨U,?_⟩)
    exact AM (by exact AD U) (Ad (by kernel_rfl) ((hA21 _ _ _).1 A21_023456789)) rfl)
  have A21_0235678:A21 8 (bm 15 493) ⟨33,AP [(2,Ar),(3,Ay),(11,(IQ p0)),(12,(i64 (Sh.len p0.funcs))),(13,(i64 t6)),(17,VM),(20,(ls eI c16.params)),(23,(i64 c16.result)),(25,(YX c16))],[IT,(Jq q3 l7),(EC q3),(CA l7)]⟩:=(hA21 _ _ _).2 (by
   refine At [1,4] U (by kernel_rfl) (by decide) ⟨?_,?_,trivial⟩
   ·refine BJ.of (i:=1) rfl U (by rfl) ?_
    refine zq tb U (AA ⟨U,?_⟩)
    exact AM (by exact AD U) (Ad (by kernel_rfl) ((hA21 _ _ _).1 A21_01235678)) rfl
   ·refine BJ.of (i:=4) rfl U (by rfl) ?_
    refine BY (v':=(ow 4 0 q17)) Ah MB (B0 gq17) rfl U ⟨(B2 fun _=>U),trivial⟩ U U (AA ⟨U,?_⟩)
    exact AM (by exact AD U) (Ad (by kernel_rfl) ((hA21 _ _ _).1 A21_02345678)) rfl)
  refine (hA21 _ _ _).2 ?_
  exact AM (by exact A4 (L:=[(2,Ar),(3,Ay),(11,(IQ p0)),(12,(i64 (Sh.len p0.funcs))),(13,(i64 t6)),(17,VM),(20,(ls eI c16.params)),(23,(i64 c16.result)),(25,(YX c16))]) (st':=[IT,(Jq q3 l7),(EC q3),(CA l7)]) (st1:=[IT,(Yy q3 l7),(EC q3),(CA l7)]) [0,2,1,3] U .nil (by decide) rfl U (.raw U U (.raw U U (.deep (AL fun _=>U) (.deep (AL fun _=>U) .nil)))) (.same U)) (Ad (by kernel_rfl) ((hA21 _ _ _).1 A21_0235678)) rfl
 ·intro b13 h1
  exact Aw (M9 l7 (Sh.AB h1).symm _ (AD U))
theorem Tm {p0:Int} {p1:Int} {p2:Int} {r:Int} (h0:KE p0 p1 p2=some r):Ag Tryz.prog 68 [(i64 p0),(i64 p1),(i64 p2)] [] (fun v st=>v=(i64 r)∧st=[]):=by
 unfold KE at h0
 refine ai Tryz.func68 U U U U (zr tb U U (AF fun K2 hK2=>AF fun K3 hK3=>bs h0 fun o5 h1 h0=>?_))
 have M5 :∀(t4:Bool),o5=t4→∀s,Wk 0 s ⟨46,AP [(0,(i64 p0)),(1,(i64 p1)),(2,(i64 p2)),(21,(.bool t4))],[]⟩→K3 s:=by
  intro t4 hq s hw
  subst o5
  try dsimp only at h0
  refine hK3 _ (AR hw ?_)
  refine ci h0 U ?_ ?_ <;> clear h0
  ·intro b6 h0
   refine zr tb U U ?_
   replace h0:=Sh.AB h0
   subst r
   exact AJ (xr (AT (L:=[(6,(i64 0))]) (.same U)))
  ·intro b6 h0
   refine AI (hK2 _ (zr tb U U (AF fun K9 hK9=>bs h0 fun o11 h1 h0=>?_)))
   have M11 :∀(n10:Int),o11=n10→∀s,Wk 0 s ⟨46,AP [(7,(i64 n10))],[]⟩→K9 s:=by
    intro n10 hq s hw
    subst o11
    try dsimp only at h0
    refine hK9 _ (AR hw (sr U fun K12 hK12=>zq tb U (zz (i64 (if (-999) > n10 then (-999) else n10)) (YD U U) rfl (zz (i64 (if 999 < (if (-999) > n10 then (-999) else n10) then 999 else (if (-999) > n10 then (-999) else n10))) (YK U U) rfl (zq tb U (dn hK12 U ?_))))))
    replace h0:=Sh.AB h0
    subst r
    exact AJ (xr (AT (L:=[(6,(i64 (if 999 < (if (-999) > n10 then (-999) else n10) then 999 else (if (-999) > n10 then (-999) else n10))))]) (.same U)))
   refine zr tb U U (AU (zr tb U U ?_))
   refine ci h1 U ?_ ?_ <;> clear h1
   ·intro b15 h1
    exact AK U (zm tb 4 U (AA (M11 (Sh.w (p1+p2)) (Sh.AB h1).symm _ (AD U))))
   ·intro b15 h1
    refine zr tb U U ?_
    refine ci h1 U ?_ ?_ <;> clear h1
    ·intro b17 h1
     exact AK U (zm tb 4 U (AA (M11 (Sh.w (p1 - p2)) (Sh.AB h1).symm _ (AD U))))
    ·intro b17 h1
     refine zr tb U U ?_
     refine ci h1 U ?_ ?_ <;> clear h1
     ·intro b19 h1
      exact AK U (zm tb 4 U (AA (M11 (Sh.w (p1 * p2)) (Sh.AB h1).symm _ (AD U))))
     ·intro b19 h1
      refine zr tb U U ?_
      refine ci h1 U ?_ ?_ <;> clear h1
      ·intro b21 h1
       refine zr tb U U ?_
       refine ci h1 U ?_ ?_ <;> clear h1
       ·intro b23 h1
        exact AK U (zq tb U (AA (M11 1 (Sh.AB h1).symm _ (AD U))))
       ·intro b23 h1
        exact AI (M11 0 (Sh.AB h1).symm _ (AD U))
      ·intro b21 h1
       exact AI (M11 0 (Sh.AB h1).symm _ (AD U))
 refine AK U (zm tb 3 U ?_)
 rcases Sh.Au h1 with ⟨b24,h1⟩ | ⟨b24,h1⟩
 ·exact zs b24 U (zs b24 U (zt b24 U (zq tb U (zs U U (zs U U (zt U U (zq tb U (zs U U (zs U U (zt U U (AA (M5 true (Sh.AB h1).symm _ (AD U)))))))))))))
 ·refine zg tb b24 U (zg tb b24 U (zf b24 U (zq tb U ?_)))
  rcases Sh.Au h1 with ⟨b25,h1⟩ | ⟨b25,h1⟩
  ·exact zs b25 U (zs b25 U (zt b25 U (zq tb U (zs U U (zs U U (zt U U (AA (M5 true (Sh.AB h1).symm _ (AD U)))))))))
  ·refine zg tb b25 U (zg tb b25 U (zf b25 U (zq tb U ?_)))
   rcases Sh.Au h1 with ⟨b26,h1⟩ | ⟨b26,h1⟩
   ·exact zs b26 U (zs b26 U (zt b26 U (AA (M5 true (Sh.AB h1).symm _ (AD U)))))
   ·exact zg tb b26 U (zg tb b26 U (zf b26 U (AA (M5 (decide (999 < p2)) (Sh.AB h1).symm _ (AD U)))))
theorem LM {N:Nat} {p0:(List Int)} {p1:Int} {r:Int} (h0:Ep N p0 p1=some r):Ag Tryz.prog 69 [(ls eI p0),(i64 p1)] [] (fun v st=>v=(i64 r)∧st=[]):=by
 unfold Ep at h0
 refine ai Tryz.func69 U U U U (zr tb U U (AF fun K2 hK2=>sr U fun K3 hK3=>zq tb U (zl tb U U (zq tb U (dn hK3 U ?_)))))
 obtain⟨o5,h1,h0⟩:=Sh.BF h0
 have M5 :∀(_:Unit),o5=Sum.inr ()→∀s,Wk 0 s ⟨19,AP [],[]⟩→K2 s:=by
  intro _ hq s hw
  subst o5
  try dsimp only at h0
  refine hK2 _ (AR hw (zr tb U U ?_))
  replace h0:=Sh.AB h0
  subst r
  exact AJ (xr (AT (L:=[(4,(i64 (-1)))]) (.same U)))
 refine AU (As (σ:=Int) (fun n v=>B8 p0 p1 n v=some o5) (fun t4=>⟨19,AP [(0,(ls eI p0)),(1,(i64 p1)),(7,(Bp p0)),(8,(i64 t4))],[]⟩) N 0 h1 (AD U) (fun _ hv=>by rw[B8] at hv;cases hv) ?_)
 rintro n t4 h1
 try dsimp only at h1 ⊢
 rw[B8] at h1
 refine zr tb U U (AF fun K8 hK8=>?_)
 refine ci h1 U ?_ ?_ <;> clear h1
 ·intro b9 h1
  refine AI (hK8 _ (AF fun K10 hK10=>AU (zr tb U U (sr U fun K12 hK12=>zm tb 3 U (bs h1 fun c13 gc13 h1=>zx Bm gc13 U U U (zm tb 2 U (dn hK12 U ?_)))))))
  refine ci h1 U ?_ ?_ <;> clear h1
  ·intro b14 h1
   refine zr tb U U ?_
   replace h1:=Sh.AB h1
   subst o5
   try dsimp only[id] at h0
   replace h0:=Sh.AB h0
   subst r
   exact AJ (xr (AT (L:=[(4,(i64 t4))]) (.same U)))
  ·intro b14 h1
   exact AI (hK10 _ (AK U (zm tb 2 U (AA (xi (Sh.w (t4+1)) h1 (AD U))))))
 ·intro b9 h1
  exact Aw (M5 () (Sh.AB h1).symm _ (AD U))
theorem Rk {N:Nat} {s0:(List AG)} {p0:(List Ab)} {p1_0:Int} {p1_1:Int} {p2:Int} {r:AG} (h0:HU N s0 p0 p1_0 p1_1 p2=some r):Ag Tryz.prog 35 [(BT p0),(.agg [(i64 p1_0),(i64 p1_1),(ow 0 0 s0)]),(i64 p2)] [(EX s0)] (fun v st=>v=(.agg (Rp r))∧st=[B3,(Bj r)]):=by
 unfold HU at h0
 refine Ag.wk (r0:=(.agg (Rp r))) (st0:=(cA r)) ?_ (Ev (L:=[(0,(.agg (Rp r)))]) (st':=[B3,(Bj r)]) [0,1] U (by decide) rfl U (.pure (by intro x hx;cases hx) (.deep (AL Ac) trivial)) (.same U))
 refine ai Tryz.func35 U U U U (AR (Nb (L:=[(0,(BT p0)),(1,(.agg [(i64 p1_0),(i64 p1_1),(ow 1 0 s0)])),(2,(i64 p2))]) (id:=0) (N:=1) (st':=[B3,(EX s0)]) rfl U (.same U) rfl) (sr U fun K1 hK1=>BH (m:=2) Ah U U U U U (A0 (m:=3) Ah Fz U U (dn hK1 U (AF fun K2 hK2=>?_)))))
 obtain⟨o3,h1,h0⟩:=Sh.BF h0
 have M3 :∀(_:Unit),o3=Sum.inr ()→∀s,Wk 1 s ⟨92,AP [(4,BK),(6,Ec)],[B3,(EX s0),(Ro p1_0 p1_1 s0),Dd]⟩→K2 s:=by
  intro _ hq s hw
  subst o3
  try dsimp only at h0
  refine hK2 _ (AR hw (sr U fun K4 hK4=>zq tb U (A1 Ah Bl U U U U U U (show 0+3≤3 by decide) rfl (dn hK4 U ?_))))
  replace h0:=Sh.AB h0
  subst r
  exact AJ (Exists.intro _ (And.intro ((Af (L:=[(6,BK)]) (st':=[B3,(EX s0),(Ro p1_0 p1_1 s0)]) [0,1,3] U (by decide) rfl U (.pure (by intro x hx;cases hx) (.deep (AL Ac) (.raw U U .nil))) ⟨.rfl,trivial⟩).trans (AT (L:=[(6,BK)]) ⟨.rfl,trivial⟩)) (BE (x:=.tmp 6) (off:=0) (cs:=[(i64 p1_0),(i64 p1_1),(ow 1 0 s0)]) (vs:=[(i64 p1_0),(i64 p1_1),(ow 1 0 s0)]) Bl U U U (show 0+3≤3 by decide) rfl _ ⟨U,U⟩)))
 refine zr tb U U (AU (AF fun K6 hK6=>bs h1 fun o8 h2 h1=>?_))
 have M8 :∀(t7:Bool),o8=t7→∀s,Wk 1 s ⟨92,AP [(0,(BT p0)),(2,(i64 p2)),(4,BK),(6,Ec),(11,(i64 p1_0)),(12,(.bool t7))],[B3,(EX s0),(Ro p1_0 p1_1 s0),Dd]⟩→K6 s:=by
  intro t7 hq s hw
  subst o8
  try dsimp only at h1
  refine hK6 _ (AR hw ?_)
  refine ci h1 U ?_ ?_ <;> clear h1
  ·intro b9 h1
   refine AF fun K10 hK10=>bs h1 fun o12 h2 h1=>?_
   have M12 :∀(t11:Bool),o12=t11→∀s,Wk 1 s ⟨92,AP [(4,BK),(6,Ec),(30,(.bool t11))],[B3,(EX s0),(Ro p1_0 p1_1 s0),Dd]⟩→K10 s:=by
    intro t11 hq s hw
    subst o12
    try dsimp only at h1
    refine hK10 _ (AR hw ?_)
    refine ci h1 U ?_ ?_ <;> clear h1
    ·intro b13 h1
     refine AF fun K14 hK14=>?_
     refine Be 14 (by kernel_rfl) (by kernel_rfl) (by rfl) ?_
     iterate 4 refine yq tb rfl ?_
     refine bs h1 fun c15 gc15 h1=>yz (.ptr 1 0 (Int.toNat 0) 0) (Bf Bc U U U U gc15) rfl (yq tb U (yz (i64 c15.num) (CP IJ U U (Nt gc15 (BV _)) rfl) rfl ?_))
     iterate 2 refine yq tb rfl ?_
     refine bs h1 fun c16 gc16 h1=>yz (.ptr 1 0 (Int.toNat 1) 0) (Bf Bc U U U U gc16) rfl (yq tb U (yz (i64 c16.num) (CP IJ U U (Nt gc16 (BV _)) rfl) rfl (bs h1 fun q17 gq17 h1=>Bk (v:=(i64 q17)) Ah ff (Tm gq17) rfl U U (yz (.agg [(i64 0),(i64 q17),.zc]) (FG RL RB Fz U U) rfl (BR (A1 Ah Bl U U U U U U (show 0+3≤3 by decide) rfl (dn hK14 U ?_)))))))
     replace h1:=Sh.AB h1
     subst o3
     try dsimp only[id] at h0
     replace h0:=Sh.AB h0
     subst r
     exact AJ (Exists.intro _ (And.intro (((Fq (id:=3) (st':=[B3,(EX s0),(Ro p1_0 p1_1 s0),⟨0,44,3,[[(i64 0),(i64 q17),(.own 4 0 (List.length ([]:List AG)))]]⟩,bA]) (j:=2) rfl U 44 (size':=3) (by decide) rfl U U U).trans (A4 (L:=[(6,BK)]) (st':=[B3,bA,⟨0,44,3,[(di q17)]⟩]) (st1:=[B3,bA,⟨0,44,3,[[(i64 0),(i64 q17),(.own 4 0 (List.length ([]:List AG)))]]⟩]) [0,4,3] U (.pure (by intro x hx;cases hx) .nil) (by decide) rfl U (.pure (by intro x hx;cases hx) (.deep (AL Ac) (.raw U U .nil))) (.same U))).trans (AT (L:=[(6,BK)]) (.same U))) (BE (x:=.tmp 6) (off:=0) (cs:=(di q17)) (vs:=(di q17)) Bl U U U (show 0+3≤3 by decide) rfl _ ⟨U,U⟩)))
    ·intro b13 h1
     exact AI (M3 () (Sh.AB h1).symm _ (AD U))
   refine AK U (zm tb 2 U (bs h2 fun c18 gc18 h2=>zz (.ptr 1 0 (Int.toNat 0) 0) (Bf Bc U U U U gc18) rfl (zq tb U (zz (i64 c18.op) (CP IJ U U (Nt gc18 (BV _)) rfl) rfl (zm tb 2 U ?_)))))
   rcases Sh.Au h2 with ⟨b19,h2⟩ | ⟨b19,h2⟩
   ·exact zg tb b19 U (zg tb b19 U (bs h2 fun c20 gc20 h2=>BP (v:=(.ptr 1 0 (Int.toNat 1) 0)) (DF U U b19) rfl (Bf Bc U U U U gc20) (zg tb b19 U (BP (v:=(i64 c20.op)) (DF U U b19) rfl (CP IJ U U (Nt gc20 (BV _)) rfl) (zg tb b19 U (zt b19 U (AA (M12 (decide (c20.op=0)) (Sh.AB h2).symm _ (AD U)))))))))
   ·refine zs b19 U ?_
    iterate 5 refine zs b19 rfl ?_
    exact zf b19 U (AA (M12 false (Sh.AB h2).symm _ (AD U)))
  ·intro b9 h1
   refine zr tb U U ?_
   refine ci h1 U ?_ ?_ <;> clear h1
   ·intro b22 h1
    refine sr U fun K23 hK23=>zm tb 2 U (bs h1 fun c24 gc24 h1=>zz (.ptr 1 0 (Int.toNat 0) 0) (Bf Bc U U U U gc24) rfl (Ak (Bg (id:=1) (j:=2) (i:=0) (c:=c24) (ys:=c24.kids) (encY:=(Av 44)) rfl gc24 (BV _) rfl U U U) (zz (.agg (Mc c24)) (BE Bl U U (Bd gc24) (show 0+3≤3 by decide) rfl) rfl (A0 (m:=5) Ah Fz U U (A1 Ah Bl U U U U U U (show 0+3≤3 by decide) rfl (dn hK23 U (zr tb U U ?_)))))))
    refine ci h1 U ?_ ?_ <;> clear h1
    ·intro b26 h1
     refine AF fun K27 hK27=>zr tb U U ?_
     refine ci h1 U ?_ ?_ <;> clear h1
     ·intro b29 h1
      have b30:decide (c24.num=0)=false:=by simpa using b29
      refine sr U fun K31 hK31=>zm tb 2 U (bs h1 fun c32 gc32 h1=>zz (.ptr 1 0 (Int.toNat 1) 0) (Ik Bc U U U U gc32) rfl ?_)
      refine Ak (Wk.take (id:=1) (m:=4) (j:=2) (i:=0) (c:=c24) (ys:=c24.kids) (encY:=(Av 44)) rfl gc24 U U U (by decide) (show 1≤4 by decide) CM U U) ?_
      refine Ak (FU (id:=1) (i:=0) (c:=c24) rfl gc24 (BV c24).symm U) (Ak (Bg (id:=1) (j:=2) (i:=1) (c:=c32) (ys:=c32.kids) (encY:=(Av 44)) rfl gc32 (BV _) rfl U U U) (zz (.agg (bU c32)) (BE Bl U U (Bd gc32) (show 0+3≤3 by decide) rfl) rfl (A1 Ah Bl U U U U U U (show 0+3≤3 by decide) rfl (dn hK31 U ?_))))
      replace h1:=Sh.AB h1
      subst o3
      try dsimp only[id] at h0
      replace h0:=Sh.AB h0
      subst r
      exact AJ (Exists.intro _ (And.intro ((A4 (L:=[(6,BK)]) (st':=(cA c32)) (st1:=[B3,(Bj c32),⟨0,44,3,[(bU c32)]⟩]) [0,6,3] U (.pure (by intro x hx;cases hx) .nil) (by decide) rfl U (.pure (by intro x hx;cases hx) (.deep (AL Ac) (.raw U U .nil))) (.same U)).trans (AT (L:=[(6,BK)]) (.same U))) (BE (x:=.tmp 6) (off:=0) (cs:=(Rp c32)) (vs:=(Rp c32)) Bl U U U (show 0+3≤3 by decide) rfl _ ⟨U,U⟩)))
     ·intro b29 h1
      have b33:decide (c24.num=0)=true:=by simpa using b29
      refine AR (Wk.take (id:=1) (m:=4) (j:=2) (i:=0) (c:=c24) (ys:=c24.kids) (encY:=(Av 44)) (x':=(Y7 c24)) (st':=(db s0 c24 p1_0 p1_1)) rfl gc24 U U U (by decide) (show 1≤4 by decide) CM U U) ?_
      refine AR (FU (id:=1) (i:=0) (c:=c24) (st':=[B3,(EX s0),(Ro p1_0 p1_1 s0),Dd,B3,(V7 c24)]) rfl gc24 (BV c24).symm U) (AI (hK27 _ (sr U fun K34 hK34=>zm tb 2 U (bs h1 fun c35 gc35 h1=>zz (.ptr 1 0 (Int.toNat 2) 0) (Bf Bc U U U U gc35) rfl (Ak (Bg (id:=1) (j:=2) (i:=2) (c:=c35) (ys:=c35.kids) (encY:=(Av 44)) rfl gc35 (BV _) rfl U U U) (zz (.agg (bU c35)) (BE Bl U U (Bd gc35) (show 0+3≤3 by decide) rfl) rfl (A1 Ah Bl U U U U U U (show 0+3≤3 by decide) rfl (dn hK34 U ?_))))))))
      replace h1:=Sh.AB h1
      subst o3
      try dsimp only[id] at h0
      replace h0:=Sh.AB h0
      subst r
      exact AJ (Exists.intro _ (And.intro ((A4 (L:=[(6,BK)]) (st':=(cA c35)) (st1:=[B3,(Bj c35),⟨0,44,3,[(bU c35)]⟩]) [0,6,3] U (.pure (by intro x hx;cases hx) .nil) (by decide) rfl U (.pure (by intro x hx;cases hx) (.deep (AL Ac) (.raw U U .nil))) (.same U)).trans (AT (L:=[(6,BK)]) (.same U))) (BE (x:=.tmp 6) (off:=0) (cs:=(Rp c35)) (vs:=(Rp c35)) Bl U U U (show 0+3≤3 by decide) rfl _ ⟨U,U⟩)))
    ·intro b26 h1
     refine AR (Wk.take (id:=1) (m:=4) (j:=2) (i:=0) (c:=c24) (ys:=c24.kids) (encY:=(Av 44)) (x':=(Y7 c24)) (st':=(db s0 c24 p1_0 p1_1)) rfl gc24 U U U (by decide) (show 1≤4 by decide) CM U U) ?_
     refine AR (FU (id:=1) (i:=0) (c:=c24) (st':=[B3,(EX s0),(Ro p1_0 p1_1 s0),Dd,B3,(V7 c24)]) rfl gc24 (BV c24).symm U) ?_
     exact AI (M3 () (Sh.AB h1).symm _ (by refine Wk.trans (Af (L:=[(4,BK),(6,Ec)]) (st':=[B3,(EX s0),(Ro p1_0 p1_1 s0),Dd]) [0,1,2,3] U (by decide) rfl U (.pure (by intro x hx;cases hx) (.deep (AL Ac) (.raw U U (.raw U U .nil)))) ⟨.rfl,.rfl,trivial⟩) ?_;exact AD U))
   ·intro b22 h1
    refine zr tb U U ?_
    refine ci h1 U ?_ ?_ <;> clear h1
    ·intro b37 h1
     refine sr U fun K38 hK38=>zm tb 2 U (bs h1 fun c39 gc39 h1=>zz (.ptr 1 0 (Int.toNat 0) 0) (Bf Bc U U U U gc39) rfl (Ak (Bg (id:=1) (j:=2) (i:=0) (c:=c39) (ys:=c39.kids) (encY:=(Av 44)) rfl gc39 (BV _) rfl U U U) (zz (.agg (Mc c39)) (BE Bl U U (Bd gc39) (show 0+3≤3 by decide) rfl) rfl (A0 (m:=5) Ah Fz U U (A1 Ah Bl U U U U U U (show 0+3≤3 by decide) rfl (dn hK38 U (zr tb U U ?_)))))))
     refine ci h1 U ?_ ?_ <;> clear h1
     ·intro b41 h1
      refine AF fun K42 hK42=>?_
      refine Be 7 (by kernel_rfl) (by kernel_rfl) (by rfl) ?_
      iterate 3 refine yq tb rfl ?_
      refine bs h1 fun q43 gq43 h1=>?_
      refine Bk (v:=(ls eI q43)) Ah Zg (Ag.wk (Jr gq43) (by refine Wk.trans (Wk.Er (L:=[(0,(ls eI q43))]) (st':=Vs) (id:=0) rfl (show 0≤0 by decide) (AN fun _=>U) ⟨(.Er U),trivial⟩ U) ?_;exact Af [] U (by decide) rfl U .nil (.same U))) rfl U U ?_
      iterate 2 refine yq tb rfl ?_
      refine bs h1 fun q44 gq44 h1=>Bk (v:=(i64 q44)) Ah fC (LM gq44) rfl U U (BR (zq tb U (dn hK42 U (AF fun K45 hK45=>?_))))
      refine Mq (by kernel_rfl) ?_
      refine bs h1 fun c46 gc46 h1=>bs h1 fun u47 gu47 h1=>bs h1 fun q48 gq48 h1=>?_
      refine R9 (f':=11) (listed':=(bm 11 0)) rfl (by kernel_rfl) ?_
      refine CI 0 (v:=(.ptr 5 0 0 2)) rfl U (by kernel_rfl) (by kernel_rfl) (by kernel_rfl) rfl (Di (IB YG U U (show 0+2≤3 by decide) rfl)) ?_
      refine CI 2 (v:=MG) rfl U (by kernel_rfl) (by kernel_rfl) (by kernel_rfl) rfl (Di (IB YG U U (show 0+2≤3 by decide) rfl)) ?_
      refine CI 4 (v:=(i64 q44)) rfl U (by kernel_rfl) (by kernel_rfl) (by kernel_rfl) rfl (Di (CS U)) ?_
      refine CI 8 (v:=(i64 p2)) rfl U (by kernel_rfl) (by kernel_rfl) (by kernel_rfl) rfl (Di (CS U)) ?_
      refine TA (Qy fun A49 hA49=>?_)
      have A49_0123456789a:A49 0 (bm 11 2047) ⟨92,AP [(6,Ay)],[B3,(Xw q48),(Bj q48)]⟩:=(hA49 _ _ _).2 (by
       refine OU U (by kernel_rfl) ?_
       refine hK45 _ ?_
       replace h1:=Sh.AB h1
       subst o3
       try dsimp only[id] at h0
       replace h0:=Sh.AB h0
       subst r
       exact AJ (Exists.intro _ (And.intro ((A4 (L:=[(6,BK)]) (st':=(cA q48)) (st1:=[B3,(Bj q48),(Xw q48)]) [0,2,1] U (.pure (by intro x hx;cases hx) .nil) (by decide) rfl U (.pure (by intro x hx;cases hx) (.deep (AL Ac) (.raw U U .nil))) (.same U)).trans (AT (L:=[(6,BK)]) (.same U))) (BE (x:=.tmp 6) (off:=0) (cs:=(Rp q48)) (vs:=(Rp q48)) Bl U U U (show 0+3≤3 by decide) rfl _ ⟨U,U⟩))))
      have A49_0123456789:A49 1 (bm 11 1023) ⟨92,AP [(6,Ay),(90,(NV q48))],[B3,Dd,(Bj q48)]⟩:=(hA49 _ _ _).2 (by
       refine At [10] U (by kernel_rfl) (by decide) ⟨?_,trivial⟩
       ·refine BJ.of (i:=10) rfl U (by rfl) ?_
        refine A1 Ah Bl U U U U U U (show 0+3≤3 by decide) rfl (AA ⟨U,?_⟩)
        exact AM (by exact AD U) (Ad (by kernel_rfl) ((hA49 _ _ _).1 A49_0123456789a)) rfl)
      have A49_012345678:A49 2 (bm 11 511) ⟨92,AP [(6,Ay),(82,(ow 2 0 c39.kids)),(88,(.agg (PR c46))),(89,(i64 p2))],[B3,Dd,(Bj c39),(Bj c46)]⟩:=(hA49 _ _ _).2 (by
       refine At [9] U (by kernel_rfl) (by decide) ⟨?_,trivial⟩
       ·refine BJ.of (i:=9) rfl U (by rfl) ?_
        refine Ak (Gb (L:=[(6,Ay),(82,(G8 c39)),(88,(.agg (PR c46))),(89,(i64 p2))]) (st':=[B3,Dd,B3,(Bj c46)]) (id:=2) rfl (show 1≤2 by decide) (Go.Abs.EY CM) ⟨.rfl,(.X2 U (fun x=>J7 x)),(.agg ⟨.rfl,.rfl,.rfl,trivial⟩),.rfl,trivial⟩ U) ?_
        refine Gu (rowsP:=[(Bj c46)]) (rows0:=[(Bj c46)]) (rows1:=[B3]) (rows2:=[(Bj q48)]) (rows1':=[B3]) (rows2':=[(Bj q48)]) (st':=[B3,Dd,B3,B3,(Bj q48)]) (v':=(.agg (Mc q48))) [3] Ah eD (La.Pc Lh gq48) rfl (by decide) rfl U (.deep (AL Ac) .nil) rfl U (.pure (by intro x hx;cases hx) .nil) (.deep (AL Ac) .nil) rfl U ?_
        refine AA ⟨U,?_⟩
        exact AM (by exact Af [0,1,4] U (by decide) rfl U (.pure (by intro x hx;cases hx) (.raw U U (.deep (AL Ac) .nil))) (.same U)) (Ad (by kernel_rfl) ((hA49 _ _ _).1 A49_0123456789)) rfl)
      have A49_01234568:A49 3 (bm 11 383) ⟨92,AP [(6,Ay),(82,(ow 2 0 c39.kids)),(87,(.ptr 3 0 (Int.toNat (Sh.w (1+q44))) 0)),(89,(i64 p2))],(ZK c39 s0)⟩:=(hA49 _ _ _).2 (by
       refine At [7] U (by kernel_rfl) (by decide) ⟨?_,trivial⟩
       ·refine BJ.of (i:=7) rfl U (by rfl) ?_
        refine Ak (Pr (id:=3) (j:=Sh.w (1+q44)) (q:=2) (c:=c46) (ys:=c46.kids) (encY:=(Av 44)) (y:=(Y7 c46)) (y':=(Mc c46)) (st':=[B3,Dd,(Bj c39),⟨0,44,3,U2 s0 (Av 44) 0 (VI c39) (Sh.w (1+q44)) (Mc c46)⟩,(Bj c46)]) rfl gc46 (TQ gu47 gc39 gc46) (BV _) rfl U U U) (zz (.agg (Mc c46)) (BE Bl U U (RE gc46) (show 0+3≤3 by decide) rfl) rfl (AA ⟨U,?_⟩))
        exact AM (by exact Af [0,1,2,4] U (by decide) rfl U (.pure (by intro x hx;cases hx) (.raw U U (.deep (AL Ac) (.deep (AL Ac) .nil)))) (.same U)) (Ad (by kernel_rfl) ((hA49 _ _ _).1 A49_012345678)) rfl)
      have A49_0123458:A49 4 (bm 11 319) ⟨92,AP [(6,Ay),(82,(ow 2 0 c39.kids)),(84,(ow 3 0 s0)),(86,(i64 (Sh.w (1+q44)))),(89,(i64 p2))],(ZK c39 s0)⟩:=(hA49 _ _ _).2 (by
       refine At [6] U (by kernel_rfl) (by decide) ⟨?_,trivial⟩
       ·refine BJ.of (i:=6) rfl U (by rfl) ?_
        refine zz (.ptr 3 0 (Int.toNat (Sh.w (1+q44))) 0) (Ik Bc U U U U gc46) rfl (AA ⟨U,?_⟩)
        exact AM (by exact AD U) (Ad (by kernel_rfl) ((hA49 _ _ _).1 A49_01234568)) rfl)
      have A49_012348:A49 5 (bm 11 287) ⟨92,AP [(6,Ay),(82,(ow 2 0 c39.kids)),(84,(ow 3 0 s0)),(85,(i64 q44)),(89,(i64 p2))],(ZK c39 s0)⟩:=(hA49 _ _ _).2 (by
       refine At [5] U (by kernel_rfl) (by decide) ⟨?_,trivial⟩
       ·refine BJ.of (i:=5) rfl U (by rfl) ?_
        refine zq tb U (AA ⟨U,?_⟩)
        exact AM (by exact AD U) (Ad (by kernel_rfl) ((hA49 _ _ _).1 A49_0123458)) rfl)
      have A49_012458:A49 5 (bm 11 311) ⟨92,AP [(6,Ay),(82,(ow 2 0 c39.kids)),(83,VS),(86,(i64 (Sh.w (1+q44)))),(89,(i64 p2))],(bq c39 p1_0 p1_1 s0)⟩:=(hA49 _ _ _).2 (by
       refine At [3] U (by kernel_rfl) (by decide) ⟨?_,trivial⟩
       ·refine BJ.of (i:=3) rfl U (by rfl) ?_
        refine zq tb U (AA ⟨U,?_⟩)
        exact AM (by exact Af [0,1,2,4] U (by decide) rfl U (.pure (by intro x hx;cases hx) (.raw U U (.deep (AL Ac) (.hol (AL Ac) (Et C7) rfl U .nil)))) (.same U)) (Ad (by kernel_rfl) ((hA49 _ _ _).1 A49_0123458)) rfl)
      have A49_01248:A49 6 (bm 11 279) ⟨92,AP [(6,Ay),(82,(ow 2 0 c39.kids)),(83,VS),(85,(i64 q44)),(89,(i64 p2))],(bq c39 p1_0 p1_1 s0)⟩:=(hA49 _ _ _).2 (by
       refine At [3,5] U (by kernel_rfl) (by decide) ⟨?_,?_,trivial⟩
       ·refine BJ.of (i:=3) rfl U (by rfl) ?_
        refine zq tb U (AA ⟨U,?_⟩)
        exact AM (by exact Af [0,1,2,4] U (by decide) rfl U (.pure (by intro x hx;cases hx) (.raw U U (.deep (AL Ac) (.hol (AL Ac) (Et C7) rfl U .nil)))) (.same U)) (Ad (by kernel_rfl) ((hA49 _ _ _).1 A49_012348)) rfl
       ·refine BJ.of (i:=5) rfl U (by rfl) ?_
        refine zq tb U (AA ⟨U,?_⟩)
        exact AM (by exact AD U) (Ad (by kernel_rfl) ((hA49 _ _ _).1 A49_012458)) rfl)
      have A49_02345678:A49 3 (bm 11 509) ⟨92,AP [(6,Ay),(81,MG),(88,(.agg (Mc c46))),(89,(i64 p2))],[B3,Dd,(U1 c39),(Bj c39),(Bj c46)]⟩:=(hA49 _ _ _).2 (by
       refine At [1] U (by kernel_rfl) (by decide) ⟨?_,trivial⟩
       ·refine BJ.of (i:=1) rfl U (by rfl) ?_
        refine zq tb U (AA ⟨U,?_⟩)
        exact AM (by exact Af [0,1,3,4] U (by decide) rfl U (.pure (by intro x hx;cases hx) (.raw U U (.deep (AL Ac) (.deep (AL Ac) .nil)))) (.same U)) (Ad (by kernel_rfl) ((hA49 _ _ _).1 A49_012345678)) rfl)
      have A49_0234568:A49 4 (bm 11 381) ⟨92,AP [(6,Ay),(81,MG),(87,(.ptr 4 0 (Int.toNat (Sh.w (1+q44))) 0)),(89,(i64 p2))],[B3,Dd,(U1 c39),(Bj c39),(VJ s0 c39)]⟩:=(hA49 _ _ _).2 (by
       refine At [1,7] U (by kernel_rfl) (by decide) ⟨?_,?_,trivial⟩
       ·refine BJ.of (i:=1) rfl U (by rfl) ?_
        refine zq tb U (AA ⟨U,?_⟩)
        exact AM (by exact A4 (L:=[(6,Ay),(82,(ow 2 0 c39.kids)),(87,(.ptr 3 0 (Int.toNat (Sh.w (1+q44))) 0)),(89,(i64 p2))]) (st':=(ZK c39 s0)) (st1:=[B3,Dd,(Bj c39),(VJ s0 c39)]) [0,1,3,4] U (.pure (by intro x hx;cases hx) .nil) (by decide) rfl U (.pure (by intro x hx;cases hx) (.raw U U (.deep (AL Ac) (.hol (AL Ac) (Et C7) rfl U .nil)))) (.same U)) (Ad (by kernel_rfl) ((hA49 _ _ _).1 A49_01234568)) rfl
       ·refine BJ.of (i:=7) rfl U (by rfl) ?_
        refine Ak (Pr (id:=4) (j:=Sh.w (1+q44)) (q:=2) (c:=c46) (ys:=c46.kids) (encY:=(Av 44)) (y:=(Y7 c46)) (y':=(Md c46)) (st':=[B3,Dd,(U1 c39),(Bj c39),⟨0,44,3,U2 s0 (Av 44) 0 (PR c39) (Sh.w (1+q44)) (Md c46)⟩,(Bj c46)]) rfl gc46 (TQ gu47 gc39 gc46) (BV _) rfl U U U) (zz (.agg (Md c46)) (BE Bl U U (RE gc46) (show 0+3≤3 by decide) rfl) rfl (AA ⟨U,?_⟩))
        exact AM (by exact Af [0,1,2,3,5] U (by decide) rfl U (.pure (by intro x hx;cases hx) (.raw U U (.raw U U (.deep (AL Ac) (.deep (AL Ac) .nil))))) (.same U)) (Ad (by kernel_rfl) ((hA49 _ _ _).1 A49_02345678)) rfl)
      have A49_023458:A49 5 (bm 11 317) ⟨92,AP [(6,Ay),(81,MG),(84,(ow 4 0 s0)),(86,(i64 (Sh.w (1+q44)))),(89,(i64 p2))],[B3,Dd,(U1 c39),(Bj c39),(VJ s0 c39)]⟩:=(hA49 _ _ _).2 (by
       refine At [1,6] U (by kernel_rfl) (by decide) ⟨?_,?_,trivial⟩
       ·refine BJ.of (i:=1) rfl U (by rfl) ?_
        refine zq tb U (AA ⟨U,?_⟩)
        exact AM (by exact A4 (L:=[(6,Ay),(82,(ow 2 0 c39.kids)),(84,(ow 3 0 s0)),(86,(i64 (Sh.w (1+q44)))),(89,(i64 p2))]) (st':=(ZK c39 s0)) (st1:=[B3,Dd,(Bj c39),(VJ s0 c39)]) [0,1,3,4] U (.pure (by intro x hx;cases hx) .nil) (by decide) rfl U (.pure (by intro x hx;cases hx) (.raw U U (.deep (AL Ac) (.hol (AL Ac) (Et C7) rfl U .nil)))) (.same U)) (Ad (by kernel_rfl) ((hA49 _ _ _).1 A49_0123458)) rfl
       ·refine BJ.of (i:=6) rfl U (by rfl) ?_
        refine zz (.ptr 4 0 (Int.toNat (Sh.w (1+q44))) 0) (Ik Bc U U U U gc46) rfl (AA ⟨U,?_⟩)
        exact AM (by exact AD U) (Ad (by kernel_rfl) ((hA49 _ _ _).1 A49_0234568)) rfl)
      have A49_02348:A49 6 (bm 11 285) ⟨92,AP [(6,Ay),(81,MG),(84,(ow 4 0 s0)),(85,(i64 q44)),(89,(i64 p2))],[B3,Dd,(U1 c39),(Bj c39),(VJ s0 c39)]⟩:=(hA49 _ _ _).2 (by
       refine At [1,5] U (by kernel_rfl) (by decide) ⟨?_,?_,trivial⟩
       ·refine BJ.of (i:=1) rfl U (by rfl) ?_
        refine zq tb U (AA ⟨U,?_⟩)
        exact AM (by exact A4 (L:=[(6,Ay),(82,(ow 2 0 c39.kids)),(84,(ow 3 0 s0)),(85,(i64 q44)),(89,(i64 p2))]) (st':=(ZK c39 s0)) (st1:=[B3,Dd,(Bj c39),(VJ s0 c39)]) [0,1,3,4] U (.pure (by intro x hx;cases hx) .nil) (by decide) rfl U (.pure (by intro x hx;cases hx) (.raw U U (.deep (AL Ac) (.hol (AL Ac) (Et C7) rfl U .nil)))) (.same U)) (Ad (by kernel_rfl) ((hA49 _ _ _).1 A49_012348)) rfl
       ·refine BJ.of (i:=5) rfl U (by rfl) ?_
        refine zq tb U (AA ⟨U,?_⟩)
        exact AM (by exact AD U) (Ad (by kernel_rfl) ((hA49 _ _ _).1 A49_023458)) rfl)
      have A49_02458:A49 6 (bm 11 309) ⟨92,AP [(6,Ay),(81,MG),(83,(.ptr 4 0 0 2)),(86,(i64 (Sh.w (1+q44)))),(89,(i64 p2))],(dE c39 p1_0 p1_1 s0)⟩:=(hA49 _ _ _).2 (by
       refine At [1,3] U (by kernel_rfl) (by decide) ⟨?_,?_,trivial⟩
       ·refine BJ.of (i:=1) rfl U (by rfl) ?_
        refine zq tb U (AA ⟨U,?_⟩)
        exact AM (by exact A4 (L:=[(6,Ay),(82,(ow 2 0 c39.kids)),(83,VS),(86,(i64 (Sh.w (1+q44)))),(89,(i64 p2))]) (st':=(bq c39 p1_0 p1_1 s0)) (st1:=[B3,Dd,(Bj c39),⟨0,44,3,[[(i64 p1_0),(i64 p1_1),(ow 5 0 s0)]]⟩,(VJ s0 c39)]) [0,1,3,4,5] U (.pure (by intro x hx;cases hx) .nil) (by decide) rfl U (.pure (by intro x hx;cases hx) (.raw U U (.deep (AL Ac) (.raw U U (.hol (AL Ac) (Et C7) rfl U .nil))))) (.same U)) (Ad (by kernel_rfl) ((hA49 _ _ _).1 A49_012458)) rfl
       ·refine BJ.of (i:=3) rfl U (by rfl) ?_
        refine zq tb U (AA ⟨U,?_⟩)
        exact AM (by exact Af [0,1,2,3,5] U (by decide) rfl U (.pure (by intro x hx;cases hx) (.raw U U (.raw U U (.deep (AL Ac) (.hol (AL Ac) (Et C7) rfl U .nil))))) (.same U)) (Ad (by kernel_rfl) ((hA49 _ _ _).1 A49_023458)) rfl)
      have A49_0248:A49 7 (bm 11 277) ⟨92,AP [(6,Ay),(81,MG),(83,(.ptr 4 0 0 2)),(85,(i64 q44)),(89,(i64 p2))],(dE c39 p1_0 p1_1 s0)⟩:=(hA49 _ _ _).2 (by
       refine At [1,3,5] U (by kernel_rfl) (by decide) ⟨?_,?_,?_,trivial⟩
       ·refine BJ.of (i:=1) rfl U (by rfl) ?_
        refine zq tb U (AA ⟨U,?_⟩)
        exact AM (by exact A4 (L:=[(6,Ay),(82,(ow 2 0 c39.kids)),(83,VS),(85,(i64 q44)),(89,(i64 p2))]) (st':=(bq c39 p1_0 p1_1 s0)) (st1:=[B3,Dd,(Bj c39),⟨0,44,3,[[(i64 p1_0),(i64 p1_1),(ow 5 0 s0)]]⟩,(VJ s0 c39)]) [0,1,3,4,5] U (.pure (by intro x hx;cases hx) .nil) (by decide) rfl U (.pure (by intro x hx;cases hx) (.raw U U (.deep (AL Ac) (.raw U U (.hol (AL Ac) (Et C7) rfl U .nil))))) (.same U)) (Ad (by kernel_rfl) ((hA49 _ _ _).1 A49_01248)) rfl
       ·refine BJ.of (i:=3) rfl U (by rfl) ?_
        refine zq tb U (AA ⟨U,?_⟩)
        exact AM (by exact Af [0,1,2,3,5] U (by decide) rfl U (.pure (by intro x hx;cases hx) (.raw U U (.raw U U (.deep (AL Ac) (.hol (AL Ac) (Et C7) rfl U .nil))))) (.same U)) (Ad (by kernel_rfl) ((hA49 _ _ _).1 A49_02348)) rfl
       ·refine BJ.of (i:=5) rfl U (by rfl) ?_
        refine zq tb U (AA ⟨U,?_⟩)
        exact AM (by exact AD U) (Ad (by kernel_rfl) ((hA49 _ _ _).1 A49_02458)) rfl)
      refine (hA49 _ _ _).2 ?_
      exact AM (by exact A4 (L:=[(6,Ay),(81,MG),(83,(.ptr 4 0 0 2)),(85,(i64 q44)),(89,(i64 p2))]) (st':=(dE c39 p1_0 p1_1 s0)) (st1:=[B3,Dd,(V7 c39),(Bj c39),(Ro p1_0 p1_1 s0),⟨0,44,3,hole s0 (Av 44) 0 (Mc c39)⟩]) [0,3,5,4,2,1] U (.pure (by intro x hx;cases hx) .nil) (by decide) rfl U (.pure (by intro x hx;cases hx) (.raw U U (.raw U U (.deep (AL Ac) (.raw U U (.hol (AL Ac) (Et C7) rfl U .nil)))))) (.same U)) (Ad (by kernel_rfl) ((hA49 _ _ _).1 A49_0248)) rfl
     ·intro b41 h1
      refine AR (Wk.take (id:=1) (m:=4) (j:=2) (i:=0) (c:=c39) (ys:=c39.kids) (encY:=(Av 44)) (x':=(Y7 c39)) (st':=(db s0 c39 p1_0 p1_1)) rfl gc39 U U U (by decide) (show 1≤4 by decide) CM U U) ?_
      refine AR (FU (id:=1) (i:=0) (c:=c39) (st':=[B3,(EX s0),(Ro p1_0 p1_1 s0),Dd,B3,(V7 c39)]) rfl gc39 (BV c39).symm U) ?_
      exact AI (M3 () (Sh.AB h1).symm _ (by refine Wk.trans (Af (L:=[(4,BK),(6,Ec)]) (st':=[B3,(EX s0),(Ro p1_0 p1_1 s0),Dd]) [0,1,2,3] U (by decide) rfl U (.pure (by intro x hx;cases hx) (.deep (AL Ac) (.raw U U (.raw U U .nil)))) ⟨.rfl,.rfl,trivial⟩) ?_;exact AD U))
    ·intro b37 h1
     exact AI (M3 () (Sh.AB h1).symm _ (AD U))
 refine zr tb U U ?_
 refine ci h2 U ?_ ?_ <;> clear h2
 ·intro b51 h2
  exact AI (M8 true (Sh.AB h2).symm _ (AT (L:=[(0,(BT p0)),(2,(i64 p2)),(4,BK),(6,Ec),(11,(i64 p1_0)),(12,(.bool true))]) ⟨.rfl,.rfl,.rfl,.rfl,.rfl,(.of (congrArg AV.bool b51)),trivial⟩))
 ·intro b51 h2
  refine zr tb U U ?_
  refine ci h2 U ?_ ?_ <;> clear h2
  ·intro b53 h2
   exact AI (M8 true (Sh.AB h2).symm _ (AT (L:=[(0,(BT p0)),(2,(i64 p2)),(4,BK),(6,Ec),(11,(i64 p1_0)),(12,(.bool true))]) ⟨.rfl,.rfl,.rfl,.rfl,.rfl,(.of (congrArg AV.bool b53)),trivial⟩))
  ·intro b53 h2
   refine zr tb U U ?_
   refine ci h2 U ?_ ?_ <;> clear h2
   ·intro b55 h2
    exact AI (M8 true (Sh.AB h2).symm _ (AT (L:=[(0,(BT p0)),(2,(i64 p2)),(4,BK),(6,Ec),(11,(i64 p1_0)),(12,(.bool true))]) ⟨.rfl,.rfl,.rfl,.rfl,.rfl,(.of (congrArg AV.bool b55)),trivial⟩))
   ·intro b55 h2
    exact AK U (zm tb 2 U (AA (M8 (decide (p1_0=4)) (Sh.AB h2).symm _ (AD U))))
theorem Ru {N:Nat} {s0_0:(List Ab)} {s0_1:(List Am)} {s1:(List AG)} {p0_0:Int} {p0_1:Int} {p1:Int} {r:AG} (h0:J6 N s0_0 s0_1 s1 p0_0 p0_1 p1=some r):Ag Tryz.prog 34 [(.agg [(i64 p0_0),(i64 p0_1),(ow 1 0 s1)]),(i64 p1),Ar] [(FB s0_0 s0_1),(EX s1)] (fun v st=>v=(NV r)∧st=[(FB s0_0 s0_1),B3,(Bj r)]):=by
 unfold J6 at h0
 refine Ag.wk (r0:=(NV r)) (st0:=[(FB s0_0 s0_1),B3,(Bj r),(Xw r)]) ?_ (Ev (L:=[(0,(NV r))]) (st':=[(FB s0_0 s0_1),B3,(Bj r)]) [0,1,2] U (by decide) rfl U (.raw U (.pure (by intro x hx;cases hx) (.deep (AL Ac) trivial))) (.same U))
 refine ai Tryz.func34 U U U U (AR (Nb (L:=[(0,(.agg [(i64 p0_0),(i64 p0_1),(ow 2 0 s1)])),(1,(i64 p1)),(2,Ar)]) (id:=1) (N:=2) (st':=[(FB s0_0 s0_1),B3,(EX s1)]) rfl U (.same U) rfl) (sr U fun K1 hK1=>BH (m:=3) Ah U U U U U (A0 (m:=4) Ah Fz U U (dn hK1 U (sr U fun K2 hK2=>zm tb 4 U (bs h0 fun q3 gq3 h0=>?_))))))
 refine Gu (rowsP:=[(EX s1)]) (rows0:=[(EX s1)]) (rows1:=[B3]) (rows2:=[(Bj q3)]) (rows1':=[B3]) (rows2':=[(Bj q3)]) (st':=[(FB s0_0 s0_1),B3,B3,⟨0,44,3,[[(i64 p0_0),(i64 p0_1),(ow 2 0 s1)]]⟩,Dd,(Bj q3)]) (v':=(.agg (Md q3))) [2] Ah et (Rk gq3) rfl (by decide) rfl U (.deep (AL Ac) .nil) rfl U (.pure (by intro x hx;cases hx) .nil) (.deep (AL Ac) .nil) rfl U ?_
 refine A1 Ah Bl U U U U U U (show 0+3≤3 by decide) rfl (dn hK2 U ?_)
 replace h0:=Sh.AB h0
 subst r
 exact AJ (Exists.intro _ (And.intro ((A4 (L:=[(5,Ec)]) (st':=[(FB s0_0 s0_1),B3,(Bj q3),(Xw q3)]) (st1:=[(FB s0_0 s0_1),B3,(Bj q3),⟨0,44,3,[(Md q3)]⟩]) [0,1,5,4] U (.raw U U (.pure (by intro x hx;cases hx) .nil)) (by decide) rfl U (.raw U U (.pure (by intro x hx;cases hx) (.deep (AL Ac) (.raw U U .nil)))) (.same U)).trans (AT (L:=[(5,Ec)]) (.same U))) (BE (x:=.tmp 5) (off:=0) (cs:=(VI q3)) (vs:=(VI q3)) Bl U U U (show 0+3≤3 by decide) rfl _ ⟨U,U⟩)))
theorem LB {N:Nat} {rec_impl_rewriteExpr_2:(List AG)→(List Ab)→(List Am)→(List Ab)→Int→Int→Int→Option (AG)} (hrec_impl_rewriteExpr_2 :∀{s0:(List AG)} {s1_0:(List Ab)} {s1_1:(List Am)} {p0:(List Ab)} {p1_0:Int} {p1_1:Int} {p2:Int} {r:AG},rec_impl_rewriteExpr_2 s0 s1_0 s1_1 p0 p1_0 p1_1 p2=some r→Ag Tryz.prog 56 (cC p0 p1_0 p1_1 s0 p2) [(EX s0),(FB s1_0 s1_1)] (fun v st=>v=(NV r)∧st=[B3,(FB s1_0 s1_1),(Bj r)])) {s0:(List AG)} {s1_0:(List Ab)} {s1_1:(List Am)} {p0:(List Ab)} {p1_0:Int} {p1_1:Int} {p2:Int} {r:AG} (h0:Fc N rec_impl_rewriteExpr_2 s0 s1_0 s1_1 p0 p1_0 p1_1 p2=some r):Ag Tryz.prog 56 (cC p0 p1_0 p1_1 s0 p2) [(EX s0),(FB s1_0 s1_1)] (fun v st=>v=(NV r)∧st=[B3,(FB s1_0 s1_1),(Bj r)]):=by
 unfold Fc at h0
 refine Ag.wk (r0:=(NV r)) (st0:=[B3,(FB s1_0 s1_1),(Bj r),(Xw r)]) ?_ (Ev (L:=[(0,(NV r))]) (st':=[B3,(FB s1_0 s1_1),(Bj r)]) [0,1,2] U (by decide) rfl U (.pure (by intro x hx;cases hx) (.raw U (.deep (AL Ac) trivial))) (.same U))
 refine ai Tryz.func56 U U U U (sr U fun K1 hK1=>BH (m:=2) Ah U U U U U (A0 (m:=3) Ah Fz U U (dn hK1 U (AF fun K2 hK2=>sr U fun K3 hK3=>zm tb 2 U (zz (Bp s0) (Cs Ss U U U) rfl (zq tb U (dn hK3 U (bs h0 fun o7 h1 h0=>?_))))))))
 have M7 :∀(l6:(List AG)),o7=l6→∀s,Wk 2 s ⟨67,AP [(2,(i64 p2)),(3,(.fn 34 [Ay])),(5,BK),(8,Ec)],(Kf l6 s1_0 s1_1 p1_0 p1_1)⟩→K2 s:=by
  intro l6 hq s hw
  subst o7
  try dsimp only at h0
  refine hK2 _ (AR hw (sr U fun K8 hK8=>zm tb 3 U (bs h0 fun q9 gq9 h0=>?_)))
  refine Xs (rowsP:=[(FB s1_0 s1_1),(EX l6)]) (rows0:=[(FB s1_0 s1_1),(EX l6)]) (rows1:=[(FB s1_0 s1_1),B3]) (rows2:=[(Bj q9)]) (rows1':=[(FB s1_0 s1_1),B3]) (rows2':=[(Bj q9)]) (st':=[B3,(FB s1_0 s1_1),(P1 p1_0 p1_1 l6),Dd,(Bj q9)]) (v':=(.agg (Mc q9))) [1,0] Ah U fT (Ru gq9) rfl (by decide) rfl U (.raw U U (.deep (AL Ac) .nil)) rfl U (.raw U U (.pure (by intro x hx;cases hx) .nil)) (.deep (AL Ac) .nil) rfl U ?_
  refine A1 Ah Bl U U U U U U (show 0+3≤3 by decide) rfl (dn hK8 U ?_)
  replace h0:=Sh.AB h0
  subst r
  exact AJ (Exists.intro _ (And.intro ((A4 (L:=[(8,Ec)]) (st':=[B3,(FB s1_0 s1_1),(Bj q9),(Xw q9)]) (st1:=[B3,(FB s1_0 s1_1),(Bj q9),(V7 q9)]) [0,1,4,3] U (.pure (by intro x hx;cases hx) (.raw U U .nil)) (by decide) rfl U (.pure (by intro x hx;cases hx) (.raw U U (.deep (AL Ac) (.raw U U .nil)))) (.same U)).trans (AT (L:=[(8,Ec)]) (.same U))) (BE (x:=.tmp 8) (off:=0) (cs:=(VI q9)) (vs:=(VI q9)) Bl U U U (show 0+3≤3 by decide) rfl _ ⟨U,U⟩)))
 refine AU (As (σ:=Int×(List AG)) (fun n v=>Bz N s0 s1_0 s1_1 p0 p1_0 p1_1 p2 rec_impl_rewriteExpr_2 n v.1 v.2=some o7) (fun (t4,l5)=>⟨67,AP [(0,(BT p0)),(2,(i64 p2)),(3,(.fn 34 [Ay])),(5,BK),(8,Ec),(13,(Bp s0)),(14,(i64 t4))],(Kf l5 s1_0 s1_1 p1_0 p1_1)⟩) N (0,s0) h1 (AD U) (fun _ hv=>by rw[Bz] at hv;cases hv) ?_)
 rintro n ⟨t4,l5⟩ h1
 try dsimp only at h1 ⊢
 rw[Bz] at h1
 refine zr tb U U (AF fun K11 hK11=>?_)
 refine ci h1 U ?_ ?_ <;> clear h1
 ·intro b12 h1
  refine AI (hK11 _ (AF fun K13 hK13=>AU ?_))
  iterate 2 refine zr tb rfl rfl ?_
  refine AF fun K16 hK16=>bs h1 fun o18 h2 h1=>?_
  have M18 :∀(scope17:Int),o18=scope17→∀s,Wk 2 s ⟨67,AP [(0,(BT p0)),(2,(i64 p2)),(3,(.fn 34 [Ay])),(5,BK),(8,Ec),(9,(i64 t4)),(10,(i64 scope17)),(13,(Bp s0)),(14,(i64 t4))],(Kf l5 s1_0 s1_1 p1_0 p1_1)⟩→K16 s:=by
   intro scope17 hq s hw
   subst o18
   try dsimp only at h1
   refine hK16 _ (AR hw ?_)
   refine HK (by kernel_rfl) ?_
   refine bs h1 fun c19 gc19 h1=>bs h1 fun q20 gq20 h1=>JP fun A21 hA21=>?_
   have A21_0123456789abcd:A21 0 (bm 14 16383) ⟨67,AP [(0,(BT p0)),(2,(i64 p2)),(3,(.fn 34 [Ay])),(5,BK),(8,Ec),(13,(Bp s0)),(14,(i64 t4))],[(ro 0 44 3 (Av 44) (Sh.put l5 t4 q20)),(FB s1_0 s1_1),⟨0,44,3,[[(i64 p1_0),(i64 p1_1),(ow 0 0 (Sh.put l5 t4 q20))]]⟩,Dd]⟩:=(hA21 _ _ _).2 (by
    refine GZ U (by kernel_rfl) ?_
    exact hK13 _ (AK U (zm tb 2 U (AA (xi (Sh.w (t4+1),Sh.put l5 t4 q20) h1 (AT (L:=[(0,(BT p0)),(2,(i64 p2)),(3,(.fn 34 [Ay])),(5,BK),(8,Ec),(13,(Bp s0)),(14,(KL t4))]) (.same U)))))))
   have A21_0123456789abc:A21 1 (bm 14 8191) ⟨67,AP [(0,(BT p0)),(2,(i64 p2)),(3,(.fn 34 [Ay])),(5,Ec),(8,LG),(13,(Bp s0)),(14,(i64 t4)),(60,(.agg (Md q20))),(61,(Ml t4))],[(Wn l5 t4 c19),(FB s1_0 s1_1),B3,(P1 p1_0 p1_1 l5),Dd,(Bj q20)]⟩:=(hA21 _ _ _).2 (by
    refine Ae [13] U (by kernel_rfl) (by decide) ⟨?_,trivial⟩
    ·refine Az.of (i:=13) rfl U (by rfl) ?_
     refine YS (x':=(Md q20)) (st':=[⟨0,44,3,hole l5 (Av 44) t4 (Md q20)⟩,(FB s1_0 s1_1),B3,(P1 p1_0 p1_1 l5),Dd,(Bj q20)]) Ah Bl U U gc19 U U U (show 0+3≤3 by decide) rfl U ?_
     refine Ak (Wk.take (id:=0) (m:=5) (j:=2) (i:=t4) (c:=c19) (ys:=q20.kids) (encY:=(Av 44)) rfl gc19 U U U (by decide) (show 2≤5 by decide) CM U U) ?_
     refine Ak (EW (id:=0) (i:=t4) (u:=q20) rfl (BV q20).symm U) (AA ⟨U,?_⟩)
     exact AE (by refine Wk.trans (AT (L:=[(0,(.sl (List.map Ai p0))),(2,(i64 p2)),(3,(.fn 34 [(.ptr 1 0 0 0)])),(5,(.ptr 3 0 0 0)),(8,(.ptr 4 0 0 0)),(13,(i64 (Sh.len s0))),(14,(i64 t4))]) (.same U)) ?_;refine Wk.trans (DG (st:=[⟨0,44,3,List.map (Av 44) (Sh.put l5 t4 q20)⟩,⟨0,30,2,[[(.sl (List.map Ai s1_0)),(.sl (List.map A3 s1_1))]]⟩,⟨1,44,3,[]⟩,⟨0,44,3,[[(i64 p1_0),(i64 p1_1),(.own 0 0 (List.length l5))]]⟩,Dd,⟨1,44,3,[]⟩]) (st':=[⟨0,44,3,List.map (Av 44) (Sh.put l5 t4 q20)⟩,⟨0,30,2,[[(.sl (List.map Ai s1_0)),(.sl (List.map A3 s1_1))]]⟩,⟨1,44,3,[]⟩,⟨0,44,3,[[(i64 p1_0),(i64 p1_1),(.own 0 0 (List.length (Sh.put l5 t4 q20)))]]⟩,Dd,⟨1,44,3,[]⟩]) (by simp only[Sh.A7])) ?_;exact Af [0,1,3,4] U (by decide) rfl U (.deep (AL Ac) (.raw U U (.raw U U (.raw U U .nil)))) (.same U)) (AH (by kernel_rfl) ((hA21 _ _ _).1 A21_0123456789abcd)) rfl)
   have A21_0123456789ab:A21 2 (bm 14 4095) ⟨67,AP [(0,(BT p0)),(2,(i64 p2)),(3,(.fn 34 [Ay])),(5,Ec),(8,LG),(13,(Bp s0)),(14,(i64 t4)),(50,(ow 0 0 l5)),(51,(i64 t4)),(60,(.agg (Md q20)))],[(Wn l5 t4 c19),(FB s1_0 s1_1),B3,(P1 p1_0 p1_1 l5),Dd,(Bj q20)]⟩:=(hA21 _ _ _).2 (by
    refine Ae [12] U (by kernel_rfl) (by decide) ⟨?_,trivial⟩
    ·refine Az.of (i:=12) rfl U (by rfl) ?_
     refine zz (Ml t4) (Ik Bc U U U U gc19) rfl (AA ⟨U,?_⟩)
     exact AE (by exact AD U) (AH (by kernel_rfl) ((hA21 _ _ _).1 A21_0123456789abc)) rfl)
   have A21_0123456789a:A21 3 (bm 14 2047) ⟨67,AP [(0,(BT p0)),(2,(i64 p2)),(3,(.fn 34 [Ay])),(5,Ec),(8,LG),(13,(Bp s0)),(14,(i64 t4)),(50,(ow 0 0 l5)),(51,(i64 t4)),(52,(BT p0)),(57,(NV c19)),(58,(i64 scope17)),(59,(.fn 34 [Ay]))],(YY l5 t4 c19 s1_0 s1_1 p1_0 p1_1)⟩:=(hA21 _ _ _).2 (by
    refine Ae [11] U (by kernel_rfl) (by decide) ⟨?_,trivial⟩
    ·refine Az.of (i:=11) rfl U (by rfl) ?_
     refine Gu (rowsP:=[(Bj c19),(FB s1_0 s1_1)]) (rows0:=[(Bj c19),(FB s1_0 s1_1)]) (rows1:=[B3,(FB s1_0 s1_1)]) (rows2:=[(Bj q20)]) (rows1':=[B3,(FB s1_0 s1_1)]) (rows2':=[(Bj q20)]) (st':=[(Wn l5 t4 c19),(FB s1_0 s1_1),B3,(P1 p1_0 p1_1 l5),Dd,(Bj q20)]) (v':=(.agg (Md q20))) [2,1] Ah Vq (hrec_impl_rewriteExpr_2 gq20) rfl (by decide) rfl U (.deep (AL Ac) (.raw U U .nil)) rfl U (.pure (by intro x hx;cases hx) (.raw U U .nil)) (.deep (AL Ac) .nil) rfl U ?_
     refine AA ⟨U,?_⟩
     exact AE (by exact AD U) (AH (by kernel_rfl) ((hA21 _ _ _).1 A21_0123456789ab)) rfl)
   have A21_012345679a:A21 4 (bm 14 1791) ⟨67,AP [(0,(BT p0)),(2,(i64 p2)),(3,(.fn 34 [Ay])),(5,BK),(8,Ec),(13,(Bp s0)),(14,(i64 t4)),(50,(ow 0 0 l5)),(51,(i64 t4)),(52,(BT p0)),(56,(Ml t4)),(58,(i64 scope17)),(59,(.fn 34 [Ay]))],(Kf l5 s1_0 s1_1 p1_0 p1_1)⟩:=(hA21 _ _ _).2 (by
    refine Ae [8] U (by kernel_rfl) (by decide) ⟨?_,trivial⟩
    ·refine Az.of (i:=8) rfl U (by rfl) ?_
     refine Ak (Bg (id:=0) (j:=2) (i:=t4) (c:=c19) (ys:=c19.kids) (encY:=(Av 44)) rfl gc19 (BV _) rfl U U U) (zz (.agg (Mc c19)) (BE Bl U U (Bd gc19) (show 0+3≤3 by decide) rfl) rfl (AA ⟨U,?_⟩))
     exact AE (by exact IG (L:=[(0,(BT p0)),(2,(i64 p2)),(3,(.fn 34 [Ay])),(5,Ec),(8,LG),(13,(Bp s0)),(14,(i64 t4)),(50,(ow 0 0 l5)),(51,(i64 t4)),(52,(BT p0)),(57,(NV c19)),(58,(i64 scope17)),(59,(.fn 34 [Ay]))]) (st':=(YY l5 t4 c19 s1_0 s1_1 p1_0 p1_1)) (st1:=[⟨0,44,3,hole l5 (Av 44) t4 (Mc c19)⟩,(FB s1_0 s1_1),(Bj c19),(P1 p1_0 p1_1 l5),Dd]) [0,1,4,2,3] U (by decide) rfl U (.hol (AL Ac) (Et C7) rfl U (.raw U U (.deep (AL Ac) (.raw U U (.raw U U .nil))))) (.same U)) (AH (by kernel_rfl) ((hA21 _ _ _).1 A21_0123456789a)) rfl)
   have A21_01234569a:A21 5 (bm 14 1663) ⟨67,AP [(0,(BT p0)),(2,(i64 p2)),(3,(.fn 34 [Ay])),(5,BK),(8,Ec),(13,(Bp s0)),(14,(i64 t4)),(50,(ow 0 0 l5)),(51,(i64 t4)),(52,(BT p0)),(54,(ow 0 0 l5)),(55,(i64 t4)),(58,(i64 scope17)),(59,(.fn 34 [Ay]))],(Kf l5 s1_0 s1_1 p1_0 p1_1)⟩:=(hA21 _ _ _).2 (by
    refine Ae [7] U (by kernel_rfl) (by decide) ⟨?_,trivial⟩
    ·refine Az.of (i:=7) rfl U (by rfl) ?_
     refine zz (Ml t4) (Bf Bc U U U U gc19) rfl (AA ⟨U,?_⟩)
     exact AE (by exact AD U) (AH (by kernel_rfl) ((hA21 _ _ _).1 A21_012345679a)) rfl)
   have A21_0123469a:A21 6 (bm 14 1631) ⟨67,AP [(0,(BT p0)),(2,(i64 p2)),(3,(.fn 34 [Ay])),(5,BK),(8,Ec),(13,(Bp s0)),(14,(i64 t4)),(50,(ow 0 0 l5)),(51,(i64 t4)),(52,(BT p0)),(53,MG),(55,(i64 t4)),(58,(i64 scope17)),(59,(.fn 34 [Ay]))],(Kf l5 s1_0 s1_1 p1_0 p1_1)⟩:=(hA21 _ _ _).2 (by
    refine Ae [5] U (by kernel_rfl) (by decide) ⟨?_,trivial⟩
    ·refine Az.of (i:=5) rfl U (by rfl) ?_
     refine zq tb U (AA ⟨U,?_⟩)
     exact AE (by exact AD U) (AH (by kernel_rfl) ((hA21 _ _ _).1 A21_01234569a)) rfl)
   have A21_012369a:A21 7 (bm 14 1615) ⟨67,AP [(0,(BT p0)),(2,(i64 p2)),(3,(.fn 34 [Ay])),(5,BK),(8,Ec),(13,(Bp s0)),(14,(i64 t4)),(50,(ow 0 0 l5)),(51,(i64 t4)),(52,(BT p0)),(55,(i64 t4)),(58,(i64 scope17)),(59,(.fn 34 [Ay]))],(Kf l5 s1_0 s1_1 p1_0 p1_1)⟩:=(hA21 _ _ _).2 (by
    refine Ae [4] U (by kernel_rfl) (by decide) ⟨?_,trivial⟩
    ·refine Az.of (i:=4) rfl U (by rfl) ?_
     refine zq tb U (AA ⟨U,?_⟩)
     exact AE (by exact AD U) (AH (by kernel_rfl) ((hA21 _ _ _).1 A21_0123469a)) rfl)
   have A21_023456789ab:A21 3 (bm 14 4093) ⟨67,AP [(0,(BT p0)),(2,(i64 p2)),(3,(.fn 34 [Ay])),(5,Ec),(8,LG),(13,(Bp s0)),(14,(i64 t4)),(49,VS),(51,(i64 t4)),(60,(.agg (Md q20)))],[(Wn l5 t4 c19),(FB s1_0 s1_1),B3,(P1 p1_0 p1_1 l5),Dd,(Bj q20)]⟩:=(hA21 _ _ _).2 (by
    refine Ae [1] U (by kernel_rfl) (by decide) ⟨?_,trivial⟩
    ·refine Az.of (i:=1) rfl U (by rfl) ?_
     refine zq tb U (AA ⟨U,?_⟩)
     exact AE (by exact AD U) (AH (by kernel_rfl) ((hA21 _ _ _).1 A21_0123456789ab)) rfl)
   have A21_023456789a:A21 4 (bm 14 2045) ⟨67,AP [(0,(BT p0)),(2,(i64 p2)),(3,(.fn 34 [Ay])),(5,Ec),(8,LG),(13,(Bp s0)),(14,(i64 t4)),(49,VS),(51,(i64 t4)),(52,(BT p0)),(57,(NV c19)),(58,(i64 scope17)),(59,(.fn 34 [Ay]))],(YY l5 t4 c19 s1_0 s1_1 p1_0 p1_1)⟩:=(hA21 _ _ _).2 (by
    refine Ae [1,11] U (by kernel_rfl) (by decide) ⟨?_,?_,trivial⟩
    ·refine Az.of (i:=1) rfl U (by rfl) ?_
     refine zq tb U (AA ⟨U,?_⟩)
     exact AE (by exact AD U) (AH (by kernel_rfl) ((hA21 _ _ _).1 A21_0123456789a)) rfl
    ·refine Az.of (i:=11) rfl U (by rfl) ?_
     refine Gu (rowsP:=[(Bj c19),(FB s1_0 s1_1)]) (rows0:=[(Bj c19),(FB s1_0 s1_1)]) (rows1:=[B3,(FB s1_0 s1_1)]) (rows2:=[(Bj q20)]) (rows1':=[B3,(FB s1_0 s1_1)]) (rows2':=[(Bj q20)]) (st':=[(Wn l5 t4 c19),(FB s1_0 s1_1),B3,(P1 p1_0 p1_1 l5),Dd,(Bj q20)]) (v':=(.agg (Md q20))) [2,1] Ah Vq (hrec_impl_rewriteExpr_2 gq20) rfl (by decide) rfl U (.deep (AL Ac) (.raw U U .nil)) rfl U (.pure (by intro x hx;cases hx) (.raw U U .nil)) (.deep (AL Ac) .nil) rfl U ?_
     refine AA ⟨U,?_⟩
     exact AE (by exact AD U) (AH (by kernel_rfl) ((hA21 _ _ _).1 A21_023456789ab)) rfl)
   have A21_02345679a:A21 5 (bm 14 1789) ⟨67,AP [(0,(BT p0)),(2,(i64 p2)),(3,(.fn 34 [Ay])),(5,BK),(8,Ec),(13,(Bp s0)),(14,(i64 t4)),(49,MG),(51,(i64 t4)),(52,(BT p0)),(56,(Ml t4)),(58,(i64 scope17)),(59,(.fn 34 [Ay]))],(Kf l5 s1_0 s1_1 p1_0 p1_1)⟩:=(hA21 _ _ _).2 (by
    refine Ae [1,8] U (by kernel_rfl) (by decide) ⟨?_,?_,trivial⟩
    ·refine Az.of (i:=1) rfl U (by rfl) ?_
     refine zq tb U (AA ⟨U,?_⟩)
     exact AE (by exact AD U) (AH (by kernel_rfl) ((hA21 _ _ _).1 A21_012345679a)) rfl
    ·refine Az.of (i:=8) rfl U (by rfl) ?_
     refine Ak (Bg (id:=0) (j:=2) (i:=t4) (c:=c19) (ys:=c19.kids) (encY:=(Av 44)) rfl gc19 (BV _) rfl U U U) (zz (.agg (Mc c19)) (BE Bl U U (Bd gc19) (show 0+3≤3 by decide) rfl) rfl (AA ⟨U,?_⟩))
     exact AE (by exact IG (L:=[(0,(BT p0)),(2,(i64 p2)),(3,(.fn 34 [Ay])),(5,Ec),(8,LG),(13,(Bp s0)),(14,(i64 t4)),(49,VS),(51,(i64 t4)),(52,(BT p0)),(57,(NV c19)),(58,(i64 scope17)),(59,(.fn 34 [Ay]))]) (st':=(YY l5 t4 c19 s1_0 s1_1 p1_0 p1_1)) (st1:=[⟨0,44,3,hole l5 (Av 44) t4 (Mc c19)⟩,(FB s1_0 s1_1),(Bj c19),(P1 p1_0 p1_1 l5),Dd]) [0,1,4,2,3] U (by decide) rfl U (.hol (AL Ac) (Et C7) rfl U (.raw U U (.deep (AL Ac) (.raw U U (.raw U U .nil))))) (.same U)) (AH (by kernel_rfl) ((hA21 _ _ _).1 A21_023456789a)) rfl)
   have A21_0234569a:A21 6 (bm 14 1661) ⟨67,AP [(0,(BT p0)),(2,(i64 p2)),(3,(.fn 34 [Ay])),(5,BK),(8,Ec),(13,(Bp s0)),(14,(i64 t4)),(49,MG),(51,(i64 t4)),(52,(BT p0)),(54,(ow 0 0 l5)),(55,(i64 t4)),(58,(i64 scope17)),(59,(.fn 34 [Ay]))],(Kf l5 s1_0 s1_1 p1_0 p1_1)⟩:=(hA21 _ _ _).2 (by
    refine Ae [1,7] U (by kernel_rfl) (by decide) ⟨?_,?_,trivial⟩
    ·refine Az.of (i:=1) rfl U (by rfl) ?_
     refine zq tb U (AA ⟨U,?_⟩)
     exact AE (by exact AD U) (AH (by kernel_rfl) ((hA21 _ _ _).1 A21_01234569a)) rfl
    ·refine Az.of (i:=7) rfl U (by rfl) ?_
     refine zz (Ml t4) (Bf Bc U U U U gc19) rfl (AA ⟨U,?_⟩)
     exact AE (by exact AD U) (AH (by kernel_rfl) ((hA21 _ _ _).1 A21_02345679a)) rfl)
   have A21_023469a:A21 7 (bm 14 1629) ⟨67,AP [(0,(BT p0)),(2,(i64 p2)),(3,(.fn 34 [Ay])),(5,BK),(8,Ec),(13,(Bp s0)),(14,(i64 t4)),(49,MG),(51,(i64 t4)),(52,(BT p0)),(53,MG),(55,(i64 t4)),(58,(i64 scope17)),(59,(.fn 34 [Ay]))],(Kf l5 s1_0 s1_1 p1_0 p1_1)⟩:=(hA21 _ _ _).2 (by
    refine Ae [1,5] U (by kernel_rfl) (by decide) ⟨?_,?_,trivial⟩
    ·refine Az.of (i:=1) rfl U (by rfl) ?_
     refine zq tb U (AA ⟨U,?_⟩)
     exact AE (by exact AD U) (AH (by kernel_rfl) ((hA21 _ _ _).1 A21_0123469a)) rfl
    ·refine Az.of (i:=5) rfl U (by rfl) ?_
     refine zq tb U (AA ⟨U,?_⟩)
     exact AE (by exact AD U) (AH (by kernel_rfl) ((hA21 _ _ _).1 A21_0234569a)) rfl)
   have A21_02369a:A21 8 (bm 14 1613) ⟨67,AP [(0,(BT p0)),(2,(i64 p2)),(3,(.fn 34 [Ay])),(5,BK),(8,Ec),(13,(Bp s0)),(14,(i64 t4)),(49,MG),(51,(i64 t4)),(52,(BT p0)),(55,(i64 t4)),(58,(i64 scope17)),(59,(.fn 34 [Ay]))],(Kf l5 s1_0 s1_1 p1_0 p1_1)⟩:=(hA21 _ _ _).2 (by
    refine Ae [1,4] U (by kernel_rfl) (by decide) ⟨?_,?_,trivial⟩
    ·refine Az.of (i:=1) rfl U (by rfl) ?_
     refine zq tb U (AA ⟨U,?_⟩)
     exact AE (by exact AD U) (AH (by kernel_rfl) ((hA21 _ _ _).1 A21_012369a)) rfl
    ·refine Az.of (i:=4) rfl U (by rfl) ?_
     refine zq tb U (AA ⟨U,?_⟩)
     exact AE (by exact AD U) (AH (by kernel_rfl) ((hA21 _ _ _).1 A21_023469a)) rfl)
   have A21_23456789ab:A21 4 (bm 14 4092) ⟨67,AP [(0,(BT p0)),(2,(i64 p2)),(3,(.fn 34 [Ay])),(5,Ec),(8,LG),(13,(Bp s0)),(14,(i64 t4)),(51,(i64 t4)),(60,(.agg (Md q20)))],[(Wn l5 t4 c19),(FB s1_0 s1_1),B3,(P1 p1_0 p1_1 l5),Dd,(Bj q20)]⟩:=(hA21 _ _ _).2 (by
    refine Ae [0] U (by kernel_rfl) (by decide) ⟨?_,trivial⟩
    ·refine Az.of (i:=0) rfl U (by rfl) ?_
     refine zq tb U (AA ⟨U,?_⟩)
     exact AE (by exact AD U) (AH (by kernel_rfl) ((hA21 _ _ _).1 A21_023456789ab)) rfl)
   have A21_23456789a:A21 5 (bm 14 2044) ⟨67,AP [(0,(BT p0)),(2,(i64 p2)),(3,(.fn 34 [Ay])),(5,Ec),(8,LG),(13,(Bp s0)),(14,(i64 t4)),(51,(i64 t4)),(52,(BT p0)),(57,(NV c19)),(58,(i64 scope17)),(59,(.fn 34 [Ay]))],(YY l5 t4 c19 s1_0 s1_1 p1_0 p1_1)⟩:=(hA21 _ _ _).2 (by
    refine Ae [0,11] U (by kernel_rfl) (by decide) ⟨?_,?_,trivial⟩
    ·refine Az.of (i:=0) rfl U (by rfl) ?_
     refine zq tb U (AA ⟨U,?_⟩)
     exact AE (by exact AD U) (AH (by kernel_rfl) ((hA21 _ _ _).1 A21_023456789a)) rfl
    ·refine Az.of (i:=11) rfl U (by rfl) ?_
     refine Gu (rowsP:=[(Bj c19),(FB s1_0 s1_1)]) (rows0:=[(Bj c19),(FB s1_0 s1_1)]) (rows1:=[B3,(FB s1_0 s1_1)]) (rows2:=[(Bj q20)]) (rows1':=[B3,(FB s1_0 s1_1)]) (rows2':=[(Bj q20)]) (st':=[(Wn l5 t4 c19),(FB s1_0 s1_1),B3,(P1 p1_0 p1_1 l5),Dd,(Bj q20)]) (v':=(.agg (Md q20))) [2,1] Ah Vq (hrec_impl_rewriteExpr_2 gq20) rfl (by decide) rfl U (.deep (AL Ac) (.raw U U .nil)) rfl U (.pure (by intro x hx;cases hx) (.raw U U .nil)) (.deep (AL Ac) .nil) rfl U ?_
     refine AA ⟨U,?_⟩
     exact AE (by exact AD U) (AH (by kernel_rfl) ((hA21 _ _ _).1 A21_23456789ab)) rfl)
   have A21_2345679a:A21 6 (bm 14 1788) ⟨67,AP [(0,(BT p0)),(2,(i64 p2)),(3,(.fn 34 [Ay])),(5,BK),(8,Ec),(13,(Bp s0)),(14,(i64 t4)),(51,(i64 t4)),(52,(BT p0)),(56,(Ml t4)),(58,(i64 scope17)),(59,(.fn 34 [Ay]))],(Kf l5 s1_0 s1_1 p1_0 p1_1)⟩:=(hA21 _ _ _).2 (by
    refine Ae [0,8] U (by kernel_rfl) (by decide) ⟨?_,?_,trivial⟩
    ·refine Az.of (i:=0) rfl U (by rfl) ?_
     refine zq tb U (AA ⟨U,?_⟩)
     exact AE (by exact AD U) (AH (by kernel_rfl) ((hA21 _ _ _).1 A21_02345679a)) rfl
    ·refine Az.of (i:=8) rfl U (by rfl) ?_
     refine Ak (Bg (id:=0) (j:=2) (i:=t4) (c:=c19) (ys:=c19.kids) (encY:=(Av 44)) rfl gc19 (BV _) rfl U U U) (zz (.agg (Mc c19)) (BE Bl U U (Bd gc19) (show 0+3≤3 by decide) rfl) rfl (AA ⟨U,?_⟩))
     exact AE (by exact IG (L:=[(0,(BT p0)),(2,(i64 p2)),(3,(.fn 34 [Ay])),(5,Ec),(8,LG),(13,(Bp s0)),(14,(i64 t4)),(51,(i64 t4)),(52,(BT p0)),(57,(NV c19)),(58,(i64 scope17)),(59,(.fn 34 [Ay]))]) (st':=(YY l5 t4 c19 s1_0 s1_1 p1_0 p1_1)) (st1:=[⟨0,44,3,hole l5 (Av 44) t4 (Mc c19)⟩,(FB s1_0 s1_1),(Bj c19),(P1 p1_0 p1_1 l5),Dd]) [0,1,4,2,3] U (by decide) rfl U (.hol (AL Ac) (Et C7) rfl U (.raw U U (.deep (AL Ac) (.raw U U (.raw U U .nil))))) (.same U)) (AH (by kernel_rfl) ((hA21 _ _ _).1 A21_23456789a)) rfl)
   have A21_234569a:A21 7 (bm 14 1660) ⟨67,AP [(0,(BT p0)),(2,(i64 p2)),(3,(.fn 34 [Ay])),(5,BK),(8,Ec),(13,(Bp s0)),(14,(i64 t4)),(51,(i64 t4)),(52,(BT p0)),(54,(ow 0 0 l5)),(55,(i64 t4)),(58,(i64 scope17)),(59,(.fn 34 [Ay]))],(Kf l5 s1_0 s1_1 p1_0 p1_1)⟩:=(hA21 _ _ _).2 (by
    refine Ae [0,7] U (by kernel_rfl) (by decide) ⟨?_,?_,trivial⟩
    ·refine Az.of (i:=0) rfl U (by rfl) ?_
     refine zq tb U (AA ⟨U,?_⟩)
     exact AE (by exact AD U) (AH (by kernel_rfl) ((hA21 _ _ _).1 A21_0234569a)) rfl
    ·refine Az.of (i:=7) rfl U (by rfl) ?_
     refine zz (Ml t4) (Bf Bc U U U U gc19) rfl (AA ⟨U,?_⟩)
     exact AE (by exact AD U) (AH (by kernel_rfl) ((hA21 _ _ _).1 A21_2345679a)) rfl)
   have A21_23469a:A21 8 (bm 14 1628) ⟨67,AP [(0,(BT p0)),(2,(i64 p2)),(3,(.fn 34 [Ay])),(5,BK),(8,Ec),(13,(Bp s0)),(14,(i64 t4)),(51,(i64 t4)),(52,(BT p0)),(53,MG),(55,(i64 t4)),(58,(i64 scope17)),(59,(.fn 34 [Ay]))],(Kf l5 s1_0 s1_1 p1_0 p1_1)⟩:=(hA21 _ _ _).2 (by
    refine Ae [0,5] U (by kernel_rfl) (by decide) ⟨?_,?_,trivial⟩
    ·refine Az.of (i:=0) rfl U (by rfl) ?_
     refine zq tb U (AA ⟨U,?_⟩)
     exact AE (by exact AD U) (AH (by kernel_rfl) ((hA21 _ _ _).1 A21_023469a)) rfl
    ·refine Az.of (i:=5) rfl U (by rfl) ?_
     refine zq tb U (AA ⟨U,?_⟩)
     exact AE (by exact AD U) (AH (by kernel_rfl) ((hA21 _ _ _).1 A21_234569a)) rfl)
   have A21_2369a:A21 9 (bm 14 1612) ⟨67,AP [(0,(BT p0)),(2,(i64 p2)),(3,(.fn 34 [Ay])),(5,BK),(8,Ec),(13,(Bp s0)),(14,(i64 t4)),(51,(i64 t4)),(52,(BT p0)),(55,(i64 t4)),(58,(i64 scope17)),(59,(.fn 34 [Ay]))],(Kf l5 s1_0 s1_1 p1_0 p1_1)⟩:=(hA21 _ _ _).2 (by
    refine Ae [0,4] U (by kernel_rfl) (by decide) ⟨?_,?_,trivial⟩
    ·refine Az.of (i:=0) rfl U (by rfl) ?_
     refine zq tb U (AA ⟨U,?_⟩)
     exact AE (by exact AD U) (AH (by kernel_rfl) ((hA21 _ _ _).1 A21_02369a)) rfl
    ·refine Az.of (i:=4) rfl U (by rfl) ?_
     refine zq tb U (AA ⟨U,?_⟩)
     exact AE (by exact AD U) (AH (by kernel_rfl) ((hA21 _ _ _).1 A21_23469a)) rfl)
   have A21_2369:A21 10 (bm 14 588) ⟨67,AP [(0,(BT p0)),(2,(i64 p2)),(3,(.fn 34 [Ay])),(5,BK),(8,Ec),(13,(Bp s0)),(14,(i64 t4)),(51,(i64 t4)),(52,(BT p0)),(55,(i64 t4)),(58,(i64 scope17))],(Kf l5 s1_0 s1_1 p1_0 p1_1)⟩:=(hA21 _ _ _).2 (by
    refine Bt 10 (v:=(.fn 34 [Ay])) rfl U (by kernel_rfl) (by kernel_rfl) (by kernel_rfl) rfl (CS U) ?_
    exact AE (by exact AD U) (AH (by kernel_rfl) ((hA21 _ _ _).1 A21_2369a)) rfl)
   have A21_236:A21 11 (bm 14 76) ⟨67,AP [(0,(BT p0)),(2,(i64 p2)),(3,(.fn 34 [Ay])),(5,BK),(8,Ec),(10,(i64 scope17)),(13,(Bp s0)),(14,(i64 t4)),(51,(i64 t4)),(52,(BT p0)),(55,(i64 t4))],(Kf l5 s1_0 s1_1 p1_0 p1_1)⟩:=(hA21 _ _ _).2 (by
    refine Bt 9 (v:=(i64 scope17)) rfl U (by kernel_rfl) (by kernel_rfl) (by kernel_rfl) rfl (CS U) ?_
    exact AE (by exact AD U) (AH (by kernel_rfl) ((hA21 _ _ _).1 A21_2369)) rfl)
   have A21_23:A21 12 (bm 14 12) ⟨67,AP [(0,(BT p0)),(2,(i64 p2)),(3,(.fn 34 [Ay])),(5,BK),(8,Ec),(9,(i64 t4)),(10,(i64 scope17)),(13,(Bp s0)),(14,(i64 t4)),(51,(i64 t4)),(52,(BT p0))],(Kf l5 s1_0 s1_1 p1_0 p1_1)⟩:=(hA21 _ _ _).2 (by
    refine Bt 6 (v:=(i64 t4)) rfl U (by kernel_rfl) (by kernel_rfl) (by kernel_rfl) rfl (CS U) ?_
    exact AE (by exact AD U) (AH (by kernel_rfl) ((hA21 _ _ _).1 A21_236)) rfl)
   have A21_2:A21 13 (bm 14 4) ⟨67,AP [(0,(BT p0)),(2,(i64 p2)),(3,(.fn 34 [Ay])),(5,BK),(8,Ec),(9,(i64 t4)),(10,(i64 scope17)),(13,(Bp s0)),(14,(i64 t4)),(51,(i64 t4))],(Kf l5 s1_0 s1_1 p1_0 p1_1)⟩:=(hA21 _ _ _).2 (by
    refine Bt 3 (v:=(BT p0)) rfl U (by kernel_rfl) (by kernel_rfl) (by kernel_rfl) rfl (CS U) ?_
    exact AE (by exact AD U) (AH (by kernel_rfl) ((hA21 _ _ _).1 A21_23)) rfl)
   have A21_e:A21 14 (bm 14 0) ⟨67,AP [(0,(BT p0)),(2,(i64 p2)),(3,(.fn 34 [Ay])),(5,BK),(8,Ec),(9,(i64 t4)),(10,(i64 scope17)),(13,(Bp s0)),(14,(i64 t4))],(Kf l5 s1_0 s1_1 p1_0 p1_1)⟩:=(hA21 _ _ _).2 (by
    refine Bt 2 (v:=(i64 t4)) rfl U (by kernel_rfl) (by kernel_rfl) (by kernel_rfl) rfl (CS U) ?_
    exact AE (by exact AD U) (AH (by kernel_rfl) ((hA21 _ _ _).1 A21_2)) rfl)
   refine (hA21 _ _ _).2 ?_
   exact AE (by exact AD U) (AH (by kernel_rfl) ((hA21 _ _ _).1 A21_e)) rfl
  refine AU (AF fun K22 hK22=>bs h2 fun o24 h3 h2=>?_)
  have M24 :∀(t23:Bool),o24=t23→∀s,Wk 2 s ⟨67,AP [(0,(BT p0)),(2,(i64 p2)),(3,(.fn 34 [Ay])),(5,BK),(8,Ec),(9,(i64 t4)),(10,(i64 p2)),(13,(Bp s0)),(14,(i64 t4)),(18,(.bool t23))],(Kf l5 s1_0 s1_1 p1_0 p1_1)⟩→K22 s:=by
   intro t23 hq s hw
   subst o24
   try dsimp only at h2
   refine hK22 _ (AR hw ?_)
   refine ci h2 U ?_ ?_ <;> clear h2
   ·intro b25 h2
    exact AK U (zm tb 3 U (AA (M18 (Sh.w (p2+1)) (Sh.AB h2).symm _ (AD U))))
   ·intro b25 h2
    refine AF fun K26 hK26=>bs h2 fun o28 h3 h2=>?_
    have M28 :∀(t27:Bool),o28=t27→∀s,Wk 2 s ⟨67,AP [(0,(BT p0)),(2,(i64 p2)),(3,(.fn 34 [Ay])),(5,BK),(8,Ec),(9,(i64 t4)),(10,(i64 p2)),(13,(Bp s0)),(14,(i64 t4)),(28,(.bool t27))],(Kf l5 s1_0 s1_1 p1_0 p1_1)⟩→K26 s:=by
     intro t27 hq s hw
     subst o28
     try dsimp only at h2
     refine hK26 _ (AR hw ?_)
     refine ci h2 U ?_ ?_ <;> clear h2
     ·intro b29 h2
      refine AK U (zm tb 5 U (bs h2 fun q30 gq30 h2=>BY (v':=(ow 4 0 q30)) Ah Zg (Jr gq30) rfl U ⟨(B2 fun _=>U),trivial⟩ U U (zm tb 2 U (bs h2 fun c31 gc31 h2=>zz (.ptr 4 0 (Int.toNat (Sh.w (t4 - 1))) 0) (Bf Bm U U U U gc31) rfl (zz (i64 c31) (CP IJ U U (GH gc31) rfl) rfl (bs h2 fun q32 gq32 h2=>zc Zc (Ks gq32) rfl U U (zl tb U U (zm tb 2 U ?_))))))))
      exact AA (M18 (Sh.w (p2+(Sh.len q32))) (Sh.AB h2).symm _ (Af [0,1,2,3] U (by decide) rfl U (.deep (AL Ac) (.raw U U (.raw U U (.raw U U .nil)))) (.same U)))
     ·intro b29 h2
      exact AI (M18 p2 (Sh.AB h2).symm _ (AD U))
    refine AK U (zm tb 4 U ?_)
    rcases Sh.Au h3 with ⟨b33,h3⟩ | ⟨b33,h3⟩
    ·exact zg tb b33 U (zg tb b33 U (zt b33 U (zq tb U (AA (M28 (decide (0 < t4)) (Sh.AB h3).symm _ (AD U))))))
    ·exact zs b33 U (zs b33 U (zf b33 U (zq tb U (AA (M28 false (Sh.AB h3).symm _ (AD U))))))
  refine AK U (zm tb 4 U ?_)
  rcases Sh.Au h3 with ⟨b34,h3⟩ | ⟨b34,h3⟩
  ·exact zg tb b34 U (zg tb b34 U (zt b34 U (zq tb U (AA (M24 (decide (t4=1)) (Sh.AB h3).symm _ (AD U))))))
  ·exact zs b34 U (zs b34 U (zf b34 U (zq tb U (AA (M24 false (Sh.AB h3).symm _ (AD U))))))
 ·intro b12 h1
  exact Aw (M7 l5 (Sh.AB h1).symm _ (AD U))

theorem LJ {N:Nat} :∀(n:Nat),∀{s0:(List AG)} {s1_0:(List Ab)} {s1_1:(List Am)} {p0:(List Ab)} {p1_0:Int} {p1_1:Int} {p2:Int} {r:AG},CE N n s0 s1_0 s1_1 p0 p1_0 p1_1 p2=some r→Ag Tryz.prog 56 (cC p0 p1_0 p1_1 s0 p2) [(EX s0),(FB s1_0 s1_1)] (fun v st=>v=(NV r)∧st=[B3,(FB s1_0 s1_1),(Bj r)]):=by
 intro n
 induction n with
 | zero=>intro s0 s1_0 s1_1 p0 p1_0 p1_1 p2 r h0;cases h0
 | succ n ih=>
  intro s0 s1_0 s1_1 p0 p1_0 p1_1 p2 r h0
  rw[CE] at h0
  exact LB (fun h=>ih h) h0
theorem Iy {N:Nat} :∀{s0:(List AG)} {s1_0:(List Ab)} {s1_1:(List Am)} {p0:(List Ab)} {p1_0:Int} {p1_1:Int} {p2:Int} {r:AG},Hd N s0 s1_0 s1_1 p0 p1_0 p1_1 p2=some r→Ag Tryz.prog 56 (cC p0 p1_0 p1_1 s0 p2) [(EX s0),(FB s1_0 s1_1)] (fun v st=>v=(NV r)∧st=[B3,(FB s1_0 s1_1),(Bj r)]):=by
 intro s0 s1_0 s1_1 p0 p1_0 p1_1 p2 r h0
 exact LJ N h0
end Go.Proofs.YtpahalfiiahddaaGreat

