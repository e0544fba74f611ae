import Derived.Test.YtpahalfiiahddaaGreatProg
import Derived.Test.YtpahalfiiahddaaGreatGAbsXToSSDefs
import Derived.Test.YtpahalfiiahddaaGreatGHADefsToKCDefs
import Derived.Test.YtpahalfiiahddaaGreatCFWalk
import Derived.Test.YtpahalfiiahddaaGreatKCWalkP3
namespace Go.Proofs.YtpahalfiiahddaaGreat
open Go Go.Abs RC
attribute [local irreducible] Go.Abs.Cp
set_option maxRecDepth 100000
set_option maxHeartbeats 4000000

theorem Tl:Gp Tryz.prog 44 2=some 2:=by kernel_rfl

theorem MB {s0:(List AK)} {p0_0:Int} {p0_1:Int} {p1:Int} {r:AK} (h0:FQ s0 p0_0 p0_1 p1=some r):Ak Tryz.prog 26 [(.agg [(i64 p0_0),(i64 p0_1),(ow 0 0 s0)]),(i64 p1)] [(Dx s0)] (fun v st=>v=(.agg (KK r))∧st=[B6,(BP r)]):=by
 unfold FQ at h0
 refine Ak.wk (r0:=(.agg (KK r))) (st0:=[B6,(BP r),⟨0,44,3,[(KK r)]⟩]) ?_ (FD (L:=[(0,(.agg (KK r)))]) (st':=[B6,(BP r)]) [0,1] U (by decide) rfl U (.pure (by intro x hx;cases hx) (.deep (AG AF) trivial)) (.same U))
 refine ai Tryz.func26 U U U U (Aa (Wk.Z1 (L:=[(0,(.agg [(i64 p0_0),(i64 p0_1),(ow 1 0 s0)]))]) (id:=0) (N:=1) (st':=[B6,(Dx s0)]) rfl U (.same U) rfl) (sr U fun K1 hK1=>BY (m:=2) Aj U U U U U (A7 (m:=3) Aj Ik U U (dn hK1 U (AJ fun K2 hK2=>AJ fun K3 hK3=>bs h0 fun o5 h1 h0=>?_)))))
 have M5 :∀(t4:Bool),o5=t4→∀s,Wk 1 s ⟨34,AM [(2,CD),(4,Jg),(15,(.bool t4))],[B6,(Dx s0),⟨0,44,3,[[(i64 p0_0),(i64 p0_1),(ow 1 0 s0)]]⟩,E3]⟩→K3 s:=by
  intro t4 hq s hw
  subst o5
  try dsimp only at h0
  refine hK3 _ (Aa hw ?_)
  refine ci h0 U ?_ ?_ <;> clear h0
  ·intro b6 h0
   refine AJ fun K7 hK7=>bs h0 fun c8 gc8 h0=>bs h0 fun c9 gc9 h0=>Aa (Bo (id:=1) (j:=2) (i:=0) (c:=c8) (ys:=c8.kids) (encY:=(Ay 44)) (x:=[(i64 c8.op),(i64 c8.num),(.dv 44 3 (List.map (Ay 44) c8.kids))]) (x':=(Hu c8)) (st':=[B6,⟨0,44,3,hole s0 (Ay 44) 0 (Hu c8)⟩,⟨0,44,3,[[(i64 p0_0),(i64 p0_1),(ow 1 0 s0)]]⟩,E3,(BP c8)]) rfl gc8 (Bp _) rfl U U U) ?_
   refine Aa (Wk.Yk (id:=1) (j:=1) (q:=2) (c:=c9) (ys:=c9.kids) (encY:=(Ay 44)) (y:=[(i64 c9.op),(i64 c9.num),(.dv 44 3 (List.map (Ay 44) c9.kids))]) (y':=(Ht c9)) (st':=[B6,(PO s0 c8 c9),⟨0,44,3,[[(i64 p0_0),(i64 p0_1),(ow 1 0 s0)]]⟩,E3,(BP c8),(BP c9)]) rfl gc9 (by decide) (Bp _) rfl U U U) ?_
   refine Mv (by kernel_rfl) ?_
   refine bs h0 fun l10 gl10 h0=>?_
   refine Rk (f':=18) (listed':=(bm 18 0)) rfl (by kernel_rfl) ?_
   refine CR 0 (v:=D9) rfl U (by kernel_rfl) (by kernel_rfl) (by kernel_rfl) rfl (D4 (G4 Tl U U (show 0+2≤3 by decide) rfl)) ?_
   refine CR 5 (v:=D9) rfl U (by kernel_rfl) (by kernel_rfl) (by kernel_rfl) rfl (D4 (G4 Tl U U (show 0+2≤3 by decide) rfl)) ?_
   refine CR 10 (v:=D9) rfl U (by kernel_rfl) (by kernel_rfl) (by kernel_rfl) rfl (D4 (G4 Tl U U (show 0+2≤3 by decide) rfl)) ?_
   refine RU (PM fun A12 hA12=>?_)
   have A12_0123456789abcdefgh:A12 0 (bm 18 262143) ⟨34,AM [(4,Ao)],[B6,⟨0,44,3,[[(i64 9),(i64 c8.num),(ow 2 0 l10)]]⟩,(Dx l10)]⟩:=(hA12 _ _ _).2 (by
    refine OH U (by kernel_rfl) ?_
    refine hK7 _ ?_
    replace h0:=Sh.AE h0
    subst r
    exact AP (Exists.intro _ (And.intro ((BM (L:=[(4,CD)]) (st':=[B6,(Dx l10),⟨0,44,3,[[(i64 9),(i64 c8.num),(ow 1 0 l10)]]⟩]) (st1:=[B6,(Dx l10),⟨0,44,3,[[(i64 9),(i64 c8.num),(ow 2 0 l10)]]⟩]) [0,2,1] U (.pure (by intro x hx;cases hx) .nil) (by decide) rfl U (.pure (by intro x hx;cases hx) (.deep (AG AF) (.raw U U .nil))) (.same U)).trans (Ab (L:=[(4,CD)]) (.same U))) (A8 (x:=.tmp 4) (off:=0) (cs:=[(i64 9),(i64 c8.num),(ow 1 0 l10)]) (vs:=[(i64 9),(i64 c8.num),(ow 1 0 l10)]) Bz U U U (show 0+3≤3 by decide) rfl _ ⟨U,U⟩))))
   have A12_0123456789abcdefg:A12 1 (bm 18 131071) ⟨34,AM [(4,Ao),(32,(.agg [(i64 9),(i64 c8.num),(ow 2 0 l10)]))],[B6,E3,(Dx l10)]⟩:=(hA12 _ _ _).2 (by
    refine AU [17] U (by kernel_rfl) (by decide) ⟨?_,trivial⟩
    ·refine An.of (i:=17) rfl U (by rfl) ?_
     refine BI Aj Bz U U U U U U (show 0+3≤3 by decide) rfl (AA ⟨U,?_⟩)
     exact AD (by exact AB U) (AH (by kernel_rfl) ((hA12 _ _ _).1 A12_0123456789abcdefgh)) rfl)
   have A12_0123456789abcdef:A12 2 (bm 18 65535) ⟨34,AM [(4,Ao),(20,(i64 c8.num)),(31,(ow 2 0 l10))],[B6,E3,(Dx l10)]⟩:=(hA12 _ _ _).2 (by
    refine AU [16] U (by kernel_rfl) (by decide) ⟨?_,trivial⟩
    ·refine An.of (i:=16) rfl U (by rfl) ?_
     refine zz (.agg [(i64 9),(i64 c8.num),(ow 2 0 l10)]) (FX UE T3 Ik U U) rfl (AA ⟨U,?_⟩)
     exact AD (by exact AB U) (AH (by kernel_rfl) ((hA12 _ _ _).1 A12_0123456789abcdefg)) rfl)
   have A12_0123456789abcde:A12 3 (bm 18 32767) ⟨34,AM [(4,Ao),(20,(i64 c8.num)),(25,(ow 2 0 c8.kids)),(30,(.own 3 0 1))],[B6,E3,(BP c8),(MD c9),(BP c9)]⟩:=(hA12 _ _ _).2 (by
    refine AU [15] U (by kernel_rfl) (by decide) ⟨?_,trivial⟩
    ·refine An.of (i:=15) rfl U (by rfl) ?_
     have g13:=Js gl10
     refine Lt (st':=[B6,E3,⟨1,44,3,hole l10 (Ay 44) (Sh.len c8.kids) (Hu c9)⟩,(MD c9),(BP c9)]) (c:=c9) Aj A2 U U U U U U U gl10 U ?_
     refine Al (Wk.take (id:=2) (m:=4) (j:=2) (i:=Sh.len c8.kids) (c:=c9) (ys:=c9.kids) (encY:=(Ay 44)) rfl g13 U U U (by decide) (show 1≤4 by decide) Co U U) ?_
     refine Al (Ev (id:=2) (i:=Sh.len c8.kids) (c:=c9) rfl g13 (Bp c9).symm U) (AA ⟨U,?_⟩)
     exact AD (by refine Wk.trans (Ai (L:=[(4,Ao),(20,(i64 c8.num)),(31,(ow 2 1 l10))]) (st':=[B6,E3,(ro 1 44 3 (Ay 44) l10)]) [0,1,2] U (by decide) rfl U (.pure (by intro x hx;cases hx) (.raw U U (.deep (AG AF) .nil))) ⟨.rfl,.rfl,.rfl,trivial⟩) ?_;exact Tz (L:=[(4,Ao),(20,(i64 c8.num)),(31,(ow 2 0 l10))]) (st':=[B6,E3,(Dx l10)]) (.pure U (by intro x hx;cases hx) (.raw U U U (.deep U (AG AF) .nil))) ⟨.rfl,.rfl,.rfl,trivial⟩) (AH (by kernel_rfl) ((hA12 _ _ _).1 A12_0123456789abcdef)) rfl)
   have A12_0123456789abcd:A12 4 (bm 18 16383) ⟨34,AM [(4,Ao),(20,(i64 c8.num)),(25,(ow 2 0 c8.kids)),(29,(.agg (J8 c9)))],[B6,E3,(BP c8),(BP c9)]⟩:=(hA12 _ _ _).2 (by
    refine AU [14] U (by kernel_rfl) (by decide) ⟨?_,trivial⟩
    ·refine An.of (i:=14) rfl U (by rfl) ?_
     refine Bb (m:=4) (l:=[()]) (enc:=fun _=>(J8 c9)) Aj A2 (by decide) rfl U U U U U ?_
     refine AA ⟨U,?_⟩
     exact AD (by exact BM (L:=[(4,Ao),(20,(i64 c8.num)),(25,(ow 2 0 c8.kids)),(30,(.own 3 0 1))]) (st':=[B6,E3,(BP c8),(MD c9),(BP c9)]) (st1:=[B6,E3,(BP c8),⟨0,44,3,[(J8 c9)]⟩,(BP c9)]) [0,1,2,4,3] U (.pure (by intro x hx;cases hx) .nil) (by decide) rfl U (.pure (by intro x hx;cases hx) (.raw U U (.deep (AG AF) (.raw U U (.deep (AG AF) .nil))))) (.same U)) (AH (by kernel_rfl) ((hA12 _ _ _).1 A12_0123456789abcde)) rfl)
   have A12_0123456789abc:A12 5 (bm 18 8191) ⟨34,AM [(4,Ao),(20,(i64 c8.num)),(25,(ow 2 0 c8.kids)),(28,Mk)],(Vm c8 s0 c9)⟩:=(hA12 _ _ _).2 (by
    refine AU [13] U (by kernel_rfl) (by decide) ⟨?_,trivial⟩
    ·refine An.of (i:=13) rfl U (by rfl) ?_
     refine zz (Es c9) (A8 Bz U U (Bt gc9) (show 0+3≤3 by decide) rfl) rfl (AA ⟨U,?_⟩)
     exact AD (by exact Ai [0,1,2,4] U (by decide) rfl U (.pure (by intro x hx;cases hx) (.raw U U (.deep (AG AF) (.deep (AG AF) .nil)))) (.same U)) (AH (by kernel_rfl) ((hA12 _ _ _).1 A12_0123456789abcd)) rfl)
   have A12_0123456789ab:A12 6 (bm 18 4095) ⟨34,AM [(4,Ao),(20,(i64 c8.num)),(25,(ow 2 0 c8.kids)),(27,(ow 3 0 s0))],(Vm c8 s0 c9)⟩:=(hA12 _ _ _).2 (by
    refine AU [12] U (by kernel_rfl) (by decide) ⟨?_,trivial⟩
    ·refine An.of (i:=12) rfl U (by rfl) ?_
     refine zz Mk (BD A2 U U U U gc9) rfl (AA ⟨U,?_⟩)
     exact AD (by exact AB U) (AH (by kernel_rfl) ((hA12 _ _ _).1 A12_0123456789abc)) rfl)
   have A12_0123456789a:A12 7 (bm 18 2047) ⟨34,AM [(4,Ao),(20,(i64 c8.num)),(25,(ow 2 0 c8.kids)),(26,(.ptr 3 0 0 2))],(Z6 c8 p0_0 p0_1 s0 c9)⟩:=(hA12 _ _ _).2 (by
    refine AU [11] U (by kernel_rfl) (by decide) ⟨?_,trivial⟩
    ·refine An.of (i:=11) rfl U (by rfl) ?_
     refine zq tb U (AA ⟨U,?_⟩)
     exact AD (by exact Au (L:=[(4,Ao),(20,(i64 c8.num)),(25,(ow 2 0 c8.kids)),(27,(ow 3 0 s0))]) (st':=(Vm c8 s0 c9)) (st1:=[B6,E3,(BP c8),⟨0,44,3,Hr s0 (Ay 44) 0 [(i64 c8.op),(i64 c8.num),(ow 2 0 c8.kids)] 1 (Ht c9)⟩,(BP c9)]) [0,1,2,4,5] U (by decide) rfl U (.pure (by intro x hx;cases hx) (.raw U U (.deep (AG AF) (.hh (AG AF) (A1 Ap) rfl U U U (.deep (AG AF) .nil))))) (.same U)) (AH (by kernel_rfl) ((hA12 _ _ _).1 A12_0123456789ab)) rfl)
   have A12_012345678abcde:A12 4 (bm 18 32255) ⟨34,AM [(4,Ao),(20,(i64 c8.num)),(24,IZ),(30,(.own 5 0 1))],(JJ s0 c8 c9)⟩:=(hA12 _ _ _).2 (by
    refine AU [9] U (by kernel_rfl) (by decide) ⟨?_,trivial⟩
    ·refine An.of (i:=9) rfl U (by rfl) ?_
     refine zz (Fs c8) (BG Ez U U (A9 (by decide) gc8) rfl) rfl ?_
     refine AA ⟨U,?_⟩
     exact AD (by exact Ai [0,1,3,5,4] U (by decide) rfl U (.pure (by intro x hx;cases hx) (.raw U U (.deep (AG AF) (.raw U U (.deep (AG AF) .nil))))) (.same U)) (AH (by kernel_rfl) ((hA12 _ _ _).1 A12_0123456789abcde)) rfl)
   have A12_012345678abcd:A12 5 (bm 18 15871) ⟨34,AM [(4,Ao),(20,(i64 c8.num)),(24,IZ),(29,(Es c9))],(B5 s0 c8 c9)⟩:=(hA12 _ _ _).2 (by
    refine AU [9,14] U (by kernel_rfl) (by decide) ⟨?_,?_,trivial⟩
    ·refine An.of (i:=9) rfl U (by rfl) ?_
     refine zz (Fs c8) (BG Ez U U (A9 (by decide) gc8) rfl) rfl ?_
     refine AA ⟨U,?_⟩
     exact AD (by exact Ai [0,1,3,4] U (by decide) rfl U (.pure (by intro x hx;cases hx) (.raw U U (.deep (AG AF) (.deep (AG AF) .nil)))) (.same U)) (AH (by kernel_rfl) ((hA12 _ _ _).1 A12_0123456789abcd)) rfl
    ·refine An.of (i:=14) rfl U (by rfl) ?_
     refine Bb (m:=5) (l:=[()]) (enc:=fun _=>(Hu c9)) Aj A2 (by decide) rfl U U U U U ?_
     refine AA ⟨U,?_⟩
     exact AD (by exact AB U) (AH (by kernel_rfl) ((hA12 _ _ _).1 A12_012345678abcde)) rfl)
   have A12_012345678abc:A12 6 (bm 18 7679) ⟨34,AM [(4,Ao),(20,(i64 c8.num)),(24,IZ),(28,FY)],(B5 s0 c8 c9)⟩:=(hA12 _ _ _).2 (by
    refine AU [9,13] U (by kernel_rfl) (by decide) ⟨?_,?_,trivial⟩
    ·refine An.of (i:=9) rfl U (by rfl) ?_
     refine zz (Fs c8) (BG Ez U U (A9 (by decide) gc8) rfl) rfl ?_
     refine AA ⟨U,?_⟩
     exact AD (by exact Au (L:=[(4,Ao),(20,(i64 c8.num)),(25,(ow 2 0 c8.kids)),(28,Mk)]) (st':=(Vm c8 s0 c9)) (st1:=[B6,E3,(BP c8),(KJ s0 c8 c9),(BP c9)]) [0,1,3,2,4] U (by decide) rfl U (.pure (by intro x hx;cases hx) (.raw U U (.deep (AG AF) (.hh (AG AF) (A1 Ap) rfl U U U (.deep (AG AF) .nil))))) (.same U)) (AH (by kernel_rfl) ((hA12 _ _ _).1 A12_0123456789abc)) rfl
    ·refine An.of (i:=13) rfl U (by rfl) ?_
     refine zz (Es c9) (A8 Bz U U (Bt gc9) (show 0+3≤3 by decide) rfl) rfl (AA ⟨U,?_⟩)
     exact AD (by exact AB U) (AH (by kernel_rfl) ((hA12 _ _ _).1 A12_012345678abcd)) rfl)
   have A12_012345678ab:A12 7 (bm 18 3583) ⟨34,AM [(4,Ao),(20,(i64 c8.num)),(24,IZ),(27,(ow 2 0 s0))],(B5 s0 c8 c9)⟩:=(hA12 _ _ _).2 (by
    refine AU [9,12] U (by kernel_rfl) (by decide) ⟨?_,?_,trivial⟩
    ·refine An.of (i:=9) rfl U (by rfl) ?_
     refine zz (Fs c8) (BG Ez U U (A9 (by decide) gc8) rfl) rfl ?_
     refine AA ⟨U,?_⟩
     exact AD (by exact Au (L:=[(4,Ao),(20,(i64 c8.num)),(25,(ow 2 0 c8.kids)),(27,(ow 3 0 s0))]) (st':=(Vm c8 s0 c9)) (st1:=[B6,E3,(BP c8),(KJ s0 c8 c9),(BP c9)]) [0,1,3,2,4] U (by decide) rfl U (.pure (by intro x hx;cases hx) (.raw U U (.deep (AG AF) (.hh (AG AF) (A1 Ap) rfl U U U (.deep (AG AF) .nil))))) (.same U)) (AH (by kernel_rfl) ((hA12 _ _ _).1 A12_0123456789ab)) rfl
    ·refine An.of (i:=12) rfl U (by rfl) ?_
     refine zz FY (BD A2 U U U U gc9) rfl (AA ⟨U,?_⟩)
     exact AD (by exact AB U) (AH (by kernel_rfl) ((hA12 _ _ _).1 A12_012345678abc)) rfl)
   have A12_012345678a:A12 8 (bm 18 1535) ⟨34,AM [(4,Ao),(20,(i64 c8.num)),(24,IZ),(26,Fj)],(Gy s0 c8 c9 p0_0 p0_1)⟩:=(hA12 _ _ _).2 (by
    refine AU [9,11] U (by kernel_rfl) (by decide) ⟨?_,?_,trivial⟩
    ·refine An.of (i:=9) rfl U (by rfl) ?_
     refine zz (Fs c8) (BG Ez U U (A9 (by decide) gc8) rfl) rfl ?_
     refine AA ⟨U,?_⟩
     exact AD (by exact Au (L:=[(4,Ao),(20,(i64 c8.num)),(25,(ow 2 0 c8.kids)),(26,(.ptr 3 0 0 2))]) (st':=(Z6 c8 p0_0 p0_1 s0 c9)) (st1:=[B6,E3,(BP c8),(Rz p0_0 p0_1 s0),(KJ s0 c8 c9),(BP c9)]) [0,1,3,5,2,4] U (by decide) rfl U (.pure (by intro x hx;cases hx) (.raw U U (.deep (AG AF) (.raw U U (.hh (AG AF) (A1 Ap) rfl U U U (.deep (AG AF) .nil)))))) (.same U)) (AH (by kernel_rfl) ((hA12 _ _ _).1 A12_0123456789a)) rfl
    ·refine An.of (i:=11) rfl U (by rfl) ?_
     refine zq tb U (AA ⟨U,?_⟩)
     exact AD (by exact Au (L:=[(4,Ao),(20,(i64 c8.num)),(24,IZ),(27,(ow 2 0 s0))]) (st':=(B5 s0 c8 c9)) (st1:=(B5 s0 c8 c9)) [0,1,2,3,4] U (by decide) rfl U (.pure (by intro x hx;cases hx) (.raw U U (.hh (AG AF) (A1 Ap) rfl U U U (.deep (AG AF) (.deep (AG AF) .nil))))) (.same U)) (AH (by kernel_rfl) ((hA12 _ _ _).1 A12_012345678ab)) rfl)
   have A12_01234567abcde:A12 5 (bm 18 31999) ⟨34,AM [(4,Ao),(20,(i64 c8.num)),(23,B0),(30,(.own 5 0 1))],(JJ s0 c8 c9)⟩:=(hA12 _ _ _).2 (by
    refine AU [8] U (by kernel_rfl) (by decide) ⟨?_,trivial⟩
    ·refine An.of (i:=8) rfl U (by rfl) ?_
     refine zq tb U (AA ⟨U,?_⟩)
     exact AD (by exact AB U) (AH (by kernel_rfl) ((hA12 _ _ _).1 A12_012345678abcde)) rfl)
   have A12_01234567abcd:A12 6 (bm 18 15615) ⟨34,AM [(4,Ao),(20,(i64 c8.num)),(23,B0),(29,(Es c9))],(B5 s0 c8 c9)⟩:=(hA12 _ _ _).2 (by
    refine AU [8,14] U (by kernel_rfl) (by decide) ⟨?_,?_,trivial⟩
    ·refine An.of (i:=8) rfl U (by rfl) ?_
     refine zq tb U (AA ⟨U,?_⟩)
     exact AD (by exact AB U) (AH (by kernel_rfl) ((hA12 _ _ _).1 A12_012345678abcd)) rfl
    ·refine An.of (i:=14) rfl U (by rfl) ?_
     refine Bb (m:=5) (l:=[()]) (enc:=fun _=>(Hu c9)) Aj A2 (by decide) rfl U U U U U ?_
     refine AA ⟨U,?_⟩
     exact AD (by exact AB U) (AH (by kernel_rfl) ((hA12 _ _ _).1 A12_01234567abcde)) rfl)
   have A12_01234567abc:A12 7 (bm 18 7423) ⟨34,AM [(4,Ao),(20,(i64 c8.num)),(23,B0),(28,FY)],(B5 s0 c8 c9)⟩:=(hA12 _ _ _).2 (by
    refine AU [8,13] U (by kernel_rfl) (by decide) ⟨?_,?_,trivial⟩
    ·refine An.of (i:=8) rfl U (by rfl) ?_
     refine zq tb U (AA ⟨U,?_⟩)
     exact AD (by exact AB U) (AH (by kernel_rfl) ((hA12 _ _ _).1 A12_012345678abc)) rfl
    ·refine An.of (i:=13) rfl U (by rfl) ?_
     refine zz (Es c9) (A8 Bz U U (Bt gc9) (show 0+3≤3 by decide) rfl) rfl (AA ⟨U,?_⟩)
     exact AD (by exact AB U) (AH (by kernel_rfl) ((hA12 _ _ _).1 A12_01234567abcd)) rfl)
   have A12_01234567ab:A12 8 (bm 18 3327) ⟨34,AM [(4,Ao),(20,(i64 c8.num)),(23,B0),(27,(ow 2 0 s0))],(B5 s0 c8 c9)⟩:=(hA12 _ _ _).2 (by
    refine AU [8,12] U (by kernel_rfl) (by decide) ⟨?_,?_,trivial⟩
    ·refine An.of (i:=8) rfl U (by rfl) ?_
     refine zq tb U (AA ⟨U,?_⟩)
     exact AD (by exact AB U) (AH (by kernel_rfl) ((hA12 _ _ _).1 A12_012345678ab)) rfl
    ·refine An.of (i:=12) rfl U (by rfl) ?_
     refine zz FY (BD A2 U U U U gc9) rfl (AA ⟨U,?_⟩)
     exact AD (by exact AB U) (AH (by kernel_rfl) ((hA12 _ _ _).1 A12_01234567abc)) rfl)
   have A12_01234567a:A12 9 (bm 18 1279) ⟨34,AM [(4,Ao),(20,(i64 c8.num)),(23,B0),(26,Fj)],(Gy s0 c8 c9 p0_0 p0_1)⟩:=(hA12 _ _ _).2 (by
    refine AU [8,11] U (by kernel_rfl) (by decide) ⟨?_,?_,trivial⟩
    ·refine An.of (i:=8) rfl U (by rfl) ?_
     refine zq tb U (AA ⟨U,?_⟩)
     exact AD (by exact AB U) (AH (by kernel_rfl) ((hA12 _ _ _).1 A12_012345678a)) rfl
    ·refine An.of (i:=11) rfl U (by rfl) ?_
     refine zq tb U (AA ⟨U,?_⟩)
     exact AD (by exact Au (L:=[(4,Ao),(20,(i64 c8.num)),(23,B0),(27,(ow 2 0 s0))]) (st':=(B5 s0 c8 c9)) (st1:=(B5 s0 c8 c9)) [0,1,2,3,4] U (by decide) rfl U (.pure (by intro x hx;cases hx) (.raw U U (.hh (AG AF) (A1 Ap) rfl U U U (.deep (AG AF) (.deep (AG AF) .nil))))) (.same U)) (AH (by kernel_rfl) ((hA12 _ _ _).1 A12_01234567ab)) rfl)
   have A12_0123456abcde:A12 6 (bm 18 31871) ⟨34,AM [(4,Ao),(20,(i64 c8.num)),(22,(ow 2 0 s0)),(30,(.own 5 0 1))],(JJ s0 c8 c9)⟩:=(hA12 _ _ _).2 (by
    refine AU [7] U (by kernel_rfl) (by decide) ⟨?_,trivial⟩
    ·refine An.of (i:=7) rfl U (by rfl) ?_
     refine zz B0 (BD A2 U U U U gc8) rfl (AA ⟨U,?_⟩)
     exact AD (by exact AB U) (AH (by kernel_rfl) ((hA12 _ _ _).1 A12_01234567abcde)) rfl)
   have A12_0123456abcd:A12 7 (bm 18 15487) ⟨34,AM [(4,Ao),(20,(i64 c8.num)),(22,(ow 2 0 s0)),(29,(Es c9))],(B5 s0 c8 c9)⟩:=(hA12 _ _ _).2 (by
    refine AU [7,14] U (by kernel_rfl) (by decide) ⟨?_,?_,trivial⟩
    ·refine An.of (i:=7) rfl U (by rfl) ?_
     refine zz B0 (BD A2 U U U U gc8) rfl (AA ⟨U,?_⟩)
     exact AD (by exact AB U) (AH (by kernel_rfl) ((hA12 _ _ _).1 A12_01234567abcd)) rfl
    ·refine An.of (i:=14) rfl U (by rfl) ?_
     refine Bb (m:=5) (l:=[()]) (enc:=fun _=>(Hu c9)) Aj A2 (by decide) rfl U U U U U ?_
     refine AA ⟨U,?_⟩
     exact AD (by exact AB U) (AH (by kernel_rfl) ((hA12 _ _ _).1 A12_0123456abcde)) rfl)
   have A12_0123456abc:A12 8 (bm 18 7295) ⟨34,AM [(4,Ao),(20,(i64 c8.num)),(22,(ow 2 0 s0)),(28,FY)],(B5 s0 c8 c9)⟩:=(hA12 _ _ _).2 (by
    refine AU [7,13] U (by kernel_rfl) (by decide) ⟨?_,?_,trivial⟩
    ·refine An.of (i:=7) rfl U (by rfl) ?_
     refine zz B0 (BD A2 U U U U gc8) rfl (AA ⟨U,?_⟩)
     exact AD (by exact AB U) (AH (by kernel_rfl) ((hA12 _ _ _).1 A12_01234567abc)) rfl
    ·refine An.of (i:=13) rfl U (by rfl) ?_
     refine zz (Es c9) (A8 Bz U U (Bt gc9) (show 0+3≤3 by decide) rfl) rfl (AA ⟨U,?_⟩)
     exact AD (by exact AB U) (AH (by kernel_rfl) ((hA12 _ _ _).1 A12_0123456abcd)) rfl)
   have A12_0123456ab:A12 9 (bm 18 3199) ⟨34,AM [(4,Ao),(20,(i64 c8.num)),(22,(ow 2 0 s0)),(27,(ow 2 0 s0))],(B5 s0 c8 c9)⟩:=(hA12 _ _ _).2 (by
    refine AU [7,12] U (by kernel_rfl) (by decide) ⟨?_,?_,trivial⟩
    ·refine An.of (i:=7) rfl U (by rfl) ?_
     refine zz B0 (BD A2 U U U U gc8) rfl (AA ⟨U,?_⟩)
     exact AD (by exact AB U) (AH (by kernel_rfl) ((hA12 _ _ _).1 A12_01234567ab)) rfl
    ·refine An.of (i:=12) rfl U (by rfl) ?_
     refine zz FY (BD A2 U U U U gc9) rfl (AA ⟨U,?_⟩)
     exact AD (by exact AB U) (AH (by kernel_rfl) ((hA12 _ _ _).1 A12_0123456abc)) rfl)
   have A12_0123456a:A12 10 (bm 18 1151) ⟨34,AM [(4,Ao),(20,(i64 c8.num)),(22,(ow 2 0 s0)),(26,Fj)],(Gy s0 c8 c9 p0_0 p0_1)⟩:=(hA12 _ _ _).2 (by
    refine AU [7,11] U (by kernel_rfl) (by decide) ⟨?_,?_,trivial⟩
    ·refine An.of (i:=7) rfl U (by rfl) ?_
     refine zz B0 (BD A2 U U U U gc8) rfl (AA ⟨U,?_⟩)
     exact AD (by exact AB U) (AH (by kernel_rfl) ((hA12 _ _ _).1 A12_01234567a)) rfl
    ·refine An.of (i:=11) rfl U (by rfl) ?_
     refine zq tb U (AA ⟨U,?_⟩)
     exact AD (by exact Au (L:=[(4,Ao),(20,(i64 c8.num)),(22,(ow 2 0 s0)),(27,(ow 2 0 s0))]) (st':=(B5 s0 c8 c9)) (st1:=(B5 s0 c8 c9)) [0,1,2,3,4] U (by decide) rfl U (.pure (by intro x hx;cases hx) (.raw U U (.hh (AG AF) (A1 Ap) rfl U U U (.deep (AG AF) (.deep (AG AF) .nil))))) (.same U)) (AH (by kernel_rfl) ((hA12 _ _ _).1 A12_0123456ab)) rfl)
   have A12_012345abcde:A12 7 (bm 18 31807) ⟨34,AM [(4,Ao),(20,(i64 c8.num)),(21,D9),(30,(.own 6 0 1))],(Uy p0_0 p0_1 s0 c8 c9)⟩:=(hA12 _ _ _).2 (by
    refine AU [6] U (by kernel_rfl) (by decide) ⟨?_,trivial⟩
    ·refine An.of (i:=6) rfl U (by rfl) ?_
     refine zq tb U (AA ⟨U,?_⟩)
     exact AD (by exact Au (L:=[(4,Ao),(20,(i64 c8.num)),(22,(ow 2 0 s0)),(30,(.own 5 0 1))]) (st':=(JJ s0 c8 c9)) (st1:=(Xz s0 c8 c9)) [0,1,3,4,5,6] U (by decide) rfl U (.pure (by intro x hx;cases hx) (.raw U U (.hh (AG AF) (A1 Ap) rfl U U U (.deep (AG AF) (.deep (AG AF) (.raw U U .nil)))))) (.same U)) (AH (by kernel_rfl) ((hA12 _ _ _).1 A12_0123456abcde)) rfl)
   have A12_012345abcd:A12 8 (bm 18 15423) ⟨34,AM [(4,Ao),(20,(i64 c8.num)),(21,D9),(29,(.agg (Ht c9)))],(II p0_0 p0_1 s0 c8 c9)⟩:=(hA12 _ _ _).2 (by
    refine AU [6,14] U (by kernel_rfl) (by decide) ⟨?_,?_,trivial⟩
    ·refine An.of (i:=6) rfl U (by rfl) ?_
     refine zq tb U (AA ⟨U,?_⟩)
     exact AD (by exact Au (L:=[(4,Ao),(20,(i64 c8.num)),(22,(ow 2 0 s0)),(29,(Es c9))]) (st':=(B5 s0 c8 c9)) (st1:=(N2 s0 c8 c9)) [0,1,3,4,5] U (by decide) rfl U (.pure (by intro x hx;cases hx) (.raw U U (.hh (AG AF) (A1 Ap) rfl U U U (.deep (AG AF) (.deep (AG AF) .nil))))) (.same U)) (AH (by kernel_rfl) ((hA12 _ _ _).1 A12_0123456abcd)) rfl
    ·refine An.of (i:=14) rfl U (by rfl) ?_
     refine Bb (m:=6) (l:=[()]) (enc:=fun _=>(Ht c9)) Aj A2 (by decide) rfl U U U U U ?_
     refine AA ⟨U,?_⟩
     exact AD (by exact AB U) (AH (by kernel_rfl) ((hA12 _ _ _).1 A12_012345abcde)) rfl)
   have A12_012345abc:A12 9 (bm 18 7231) ⟨34,AM [(4,Ao),(20,(i64 c8.num)),(21,D9),(28,Mk)],(II p0_0 p0_1 s0 c8 c9)⟩:=(hA12 _ _ _).2 (by
    refine AU [6,13] U (by kernel_rfl) (by decide) ⟨?_,?_,trivial⟩
    ·refine An.of (i:=6) rfl U (by rfl) ?_
     refine zq tb U (AA ⟨U,?_⟩)
     exact AD (by exact Au (L:=[(4,Ao),(20,(i64 c8.num)),(22,(ow 2 0 s0)),(28,FY)]) (st':=(B5 s0 c8 c9)) (st1:=(N2 s0 c8 c9)) [0,1,3,4,5] U (by decide) rfl U (.pure (by intro x hx;cases hx) (.raw U U (.hh (AG AF) (A1 Ap) rfl U U U (.deep (AG AF) (.deep (AG AF) .nil))))) (.same U)) (AH (by kernel_rfl) ((hA12 _ _ _).1 A12_0123456abc)) rfl
    ·refine An.of (i:=13) rfl U (by rfl) ?_
     refine zz (.agg (Ht c9)) (A8 Bz U U (Bt gc9) (show 0+3≤3 by decide) rfl) rfl (AA ⟨U,?_⟩)
     exact AD (by exact AB U) (AH (by kernel_rfl) ((hA12 _ _ _).1 A12_012345abcd)) rfl)
   have A12_012345ab:A12 10 (bm 18 3135) ⟨34,AM [(4,Ao),(20,(i64 c8.num)),(21,D9),(27,(ow 3 0 s0))],(II p0_0 p0_1 s0 c8 c9)⟩:=(hA12 _ _ _).2 (by
    refine AU [6,12] U (by kernel_rfl) (by decide) ⟨?_,?_,trivial⟩
    ·refine An.of (i:=6) rfl U (by rfl) ?_
     refine zq tb U (AA ⟨U,?_⟩)
     exact AD (by exact Au (L:=[(4,Ao),(20,(i64 c8.num)),(22,(ow 2 0 s0)),(27,(ow 2 0 s0))]) (st':=(B5 s0 c8 c9)) (st1:=(N2 s0 c8 c9)) [0,1,3,4,5] U (by decide) rfl U (.pure (by intro x hx;cases hx) (.raw U U (.hh (AG AF) (A1 Ap) rfl U U U (.deep (AG AF) (.deep (AG AF) .nil))))) (.same U)) (AH (by kernel_rfl) ((hA12 _ _ _).1 A12_0123456ab)) rfl
    ·refine An.of (i:=12) rfl U (by rfl) ?_
     refine zz Mk (BD A2 U U U U gc9) rfl (AA ⟨U,?_⟩)
     exact AD (by exact AB U) (AH (by kernel_rfl) ((hA12 _ _ _).1 A12_012345abc)) rfl)
   have A12_012345a:A12 11 (bm 18 1087) ⟨34,AM [(4,Ao),(20,(i64 c8.num)),(21,D9),(26,D9)],(II p0_0 p0_1 s0 c8 c9)⟩:=(hA12 _ _ _).2 (by
    refine AU [6,11] U (by kernel_rfl) (by decide) ⟨?_,?_,trivial⟩
    ·refine An.of (i:=6) rfl U (by rfl) ?_
     refine zq tb U (AA ⟨U,?_⟩)
     exact AD (by exact Au (L:=[(4,Ao),(20,(i64 c8.num)),(22,(ow 2 0 s0)),(26,Fj)]) (st':=(Gy s0 c8 c9 p0_0 p0_1)) (st1:=(Tq s0 c8 c9 p0_0 p0_1)) [0,1,3,4,5,2] U (by decide) rfl U (.pure (by intro x hx;cases hx) (.raw U U (.hh (AG AF) (A1 Ap) rfl U U U (.deep (AG AF) (.deep (AG AF) (.raw U U .nil)))))) (.same U)) (AH (by kernel_rfl) ((hA12 _ _ _).1 A12_0123456a)) rfl
    ·refine An.of (i:=11) rfl U (by rfl) ?_
     refine zq tb U (AA ⟨U,?_⟩)
     exact AD (by exact AB U) (AH (by kernel_rfl) ((hA12 _ _ _).1 A12_012345ab)) rfl)
   have A12_012356789abcdef:A12 3 (bm 18 65519) ⟨34,AM [(4,Ao),(19,G2),(31,(ow 3 1 l10))],(SB s0 c8 c9 l10)⟩:=(hA12 _ _ _).2 (by
    refine AU [4] U (by kernel_rfl) (by decide) ⟨?_,trivial⟩
    ·refine An.of (i:=4) rfl U (by rfl) ?_
     refine zz (i64 c8.num) (BG Em U U (A9 (by decide) gc8) rfl) rfl ?_
     refine AA ⟨U,?_⟩
     exact AD (by refine Wk.trans (Ai (L:=[(4,Ao),(20,(i64 c8.num)),(31,(ow 2 1 l10))]) (st':=[B6,E3,(ro 1 44 3 (Ay 44) l10)]) [0,1,3] U (by decide) rfl U (.pure (by intro x hx;cases hx) (.raw U U (.deep (AG AF) .nil))) ⟨.rfl,.rfl,.rfl,trivial⟩) ?_;exact Tz (L:=[(4,Ao),(20,(i64 c8.num)),(31,(ow 2 0 l10))]) (st':=[B6,E3,(Dx l10)]) (.pure U (by intro x hx;cases hx) (.raw U U U (.deep U (AG AF) .nil))) ⟨.rfl,.rfl,.rfl,trivial⟩) (AH (by kernel_rfl) ((hA12 _ _ _).1 A12_0123456789abcdef)) rfl)
   have A12_012356789abcde:A12 4 (bm 18 32751) ⟨34,AM [(4,Ao),(19,G2),(25,(Fs c8)),(30,(.own 5 0 1))],(JJ s0 c8 c9)⟩:=(hA12 _ _ _).2 (by
    refine AU [4,15] U (by kernel_rfl) (by decide) ⟨?_,?_,trivial⟩
    ·refine An.of (i:=4) rfl U (by rfl) ?_
     refine zz (i64 c8.num) (BG Em U U (A9 (by decide) gc8) rfl) rfl ?_
     refine AA ⟨U,?_⟩
     exact AD (by exact Ai [0,1,3,5,4] U (by decide) rfl U (.pure (by intro x hx;cases hx) (.raw U U (.deep (AG AF) (.raw U U (.deep (AG AF) .nil))))) (.same U)) (AH (by kernel_rfl) ((hA12 _ _ _).1 A12_0123456789abcde)) rfl
    ·refine An.of (i:=15) rfl U (by rfl) ?_
     have g13:=Js gl10
     refine Lt (st':=[B6,E3,(KJ s0 c8 c9),⟨1,44,3,hole l10 (Ay 44) (Sh.len c8.kids) (Hu c9)⟩,(BP c9),(MD c9)]) (c:=c9) Aj A2 U U U U U U U gl10 U ?_
     refine Al (Wk.take (id:=3) (m:=4) (j:=2) (i:=Sh.len c8.kids) (c:=c9) (ys:=c9.kids) (encY:=(Ay 44)) rfl g13 U U U (by decide) (show 1≤4 by decide) Co U U) ?_
     refine Al (Ev (id:=3) (i:=Sh.len c8.kids) (c:=c9) rfl g13 (Bp c9).symm U) (AA ⟨U,?_⟩)
     exact AD (by exact Au (L:=[(4,Ao),(19,G2),(31,(ow 3 1 l10))]) (st':=(SB s0 c8 c9 l10)) (st1:=(SB s0 c8 c9 l10)) [0,1,2,3,4] U (by decide) rfl U (.pure (by intro x hx;cases hx) (.raw U U (.hh (AG AF) (A1 Ap) rfl U U U (.deep (AG AF) (.pure (by intro x hx;cases hx) .nil))))) (.same U)) (AH (by kernel_rfl) ((hA12 _ _ _).1 A12_012356789abcdef)) rfl)
   have A12_012356789abcd:A12 5 (bm 18 16367) ⟨34,AM [(4,Ao),(19,G2),(25,(Fs c8)),(29,(Es c9))],(B5 s0 c8 c9)⟩:=(hA12 _ _ _).2 (by
    refine AU [4,14] U (by kernel_rfl) (by decide) ⟨?_,?_,trivial⟩
    ·refine An.of (i:=4) rfl U (by rfl) ?_
     refine zz (i64 c8.num) (BG Em U U (A9 (by decide) gc8) rfl) rfl ?_
     refine AA ⟨U,?_⟩
     exact AD (by exact Ai [0,1,3,4] U (by decide) rfl U (.pure (by intro x hx;cases hx) (.raw U U (.deep (AG AF) (.deep (AG AF) .nil)))) (.same U)) (AH (by kernel_rfl) ((hA12 _ _ _).1 A12_0123456789abcd)) rfl
    ·refine An.of (i:=14) rfl U (by rfl) ?_
     refine Bb (m:=5) (l:=[()]) (enc:=fun _=>(Hu c9)) Aj A2 (by decide) rfl U U U U U ?_
     refine AA ⟨U,?_⟩
     exact AD (by exact AB U) (AH (by kernel_rfl) ((hA12 _ _ _).1 A12_012356789abcde)) rfl)
   have A12_012356789abc:A12 6 (bm 18 8175) ⟨34,AM [(4,Ao),(19,G2),(25,(Fs c8)),(28,FY)],(B5 s0 c8 c9)⟩:=(hA12 _ _ _).2 (by
    refine AU [4,13] U (by kernel_rfl) (by decide) ⟨?_,?_,trivial⟩
    ·refine An.of (i:=4) rfl U (by rfl) ?_
     refine zz (i64 c8.num) (BG Em U U (A9 (by decide) gc8) rfl) rfl ?_
     refine AA ⟨U,?_⟩
     exact AD (by exact Au (L:=[(4,Ao),(20,(i64 c8.num)),(25,(ow 2 0 c8.kids)),(28,Mk)]) (st':=(Vm c8 s0 c9)) (st1:=[B6,E3,(BP c8),(KJ s0 c8 c9),(BP c9)]) [0,1,3,2,4] U (by decide) rfl U (.pure (by intro x hx;cases hx) (.raw U U (.deep (AG AF) (.hh (AG AF) (A1 Ap) rfl U U U (.deep (AG AF) .nil))))) (.same U)) (AH (by kernel_rfl) ((hA12 _ _ _).1 A12_0123456789abc)) rfl
    ·refine An.of (i:=13) rfl U (by rfl) ?_
     refine zz (Es c9) (A8 Bz U U (Bt gc9) (show 0+3≤3 by decide) rfl) rfl (AA ⟨U,?_⟩)
     exact AD (by exact AB U) (AH (by kernel_rfl) ((hA12 _ _ _).1 A12_012356789abcd)) rfl)
   have A12_012356789ab:A12 7 (bm 18 4079) ⟨34,AM [(4,Ao),(19,G2),(25,(Fs c8)),(27,(ow 2 0 s0))],(B5 s0 c8 c9)⟩:=(hA12 _ _ _).2 (by
    refine AU [4,12] U (by kernel_rfl) (by decide) ⟨?_,?_,trivial⟩
    ·refine An.of (i:=4) rfl U (by rfl) ?_
     refine zz (i64 c8.num) (BG Em U U (A9 (by decide) gc8) rfl) rfl ?_
     refine AA ⟨U,?_⟩
     exact AD (by exact Au (L:=[(4,Ao),(20,(i64 c8.num)),(25,(ow 2 0 c8.kids)),(27,(ow 3 0 s0))]) (st':=(Vm c8 s0 c9)) (st1:=[B6,E3,(BP c8),(KJ s0 c8 c9),(BP c9)]) [0,1,3,2,4] U (by decide) rfl U (.pure (by intro x hx;cases hx) (.raw U U (.deep (AG AF) (.hh (AG AF) (A1 Ap) rfl U U U (.deep (AG AF) .nil))))) (.same U)) (AH (by kernel_rfl) ((hA12 _ _ _).1 A12_0123456789ab)) rfl
    ·refine An.of (i:=12) rfl U (by rfl) ?_
     refine zz FY (BD A2 U U U U gc9) rfl (AA ⟨U,?_⟩)
     exact AD (by exact AB U) (AH (by kernel_rfl) ((hA12 _ _ _).1 A12_012356789abc)) rfl)
   have A12_012356789a:A12 8 (bm 18 2031) ⟨34,AM [(4,Ao),(19,G2),(25,(Fs c8)),(26,Fj)],(Gy s0 c8 c9 p0_0 p0_1)⟩:=(hA12 _ _ _).2 (by
    refine AU [4,11] U (by kernel_rfl) (by decide) ⟨?_,?_,trivial⟩
    ·refine An.of (i:=4) rfl U (by rfl) ?_
     refine zz (i64 c8.num) (BG Em U U (A9 (by decide) gc8) rfl) rfl ?_
     refine AA ⟨U,?_⟩
     exact AD (by exact Au (L:=[(4,Ao),(20,(i64 c8.num)),(25,(ow 2 0 c8.kids)),(26,(.ptr 3 0 0 2))]) (st':=(Z6 c8 p0_0 p0_1 s0 c9)) (st1:=[B6,E3,(BP c8),(Rz p0_0 p0_1 s0),(KJ s0 c8 c9),(BP c9)]) [0,1,3,5,2,4] U (by decide) rfl U (.pure (by intro x hx;cases hx) (.raw U U (.deep (AG AF) (.raw U U (.hh (AG AF) (A1 Ap) rfl U U U (.deep (AG AF) .nil)))))) (.same U)) (AH (by kernel_rfl) ((hA12 _ _ _).1 A12_0123456789a)) rfl
    ·refine An.of (i:=11) rfl U (by rfl) ?_
     refine zq tb U (AA ⟨U,?_⟩)
     exact AD (by exact Au (L:=[(4,Ao),(19,G2),(25,(Fs c8)),(27,(ow 2 0 s0))]) (st':=(B5 s0 c8 c9)) (st1:=(B5 s0 c8 c9)) [0,1,2,3,4] U (by decide) rfl U (.pure (by intro x hx;cases hx) (.raw U U (.hh (AG AF) (A1 Ap) rfl U U U (.deep (AG AF) (.deep (AG AF) .nil))))) (.same U)) (AH (by kernel_rfl) ((hA12 _ _ _).1 A12_012356789ab)) rfl)
   have A12_01235678abcde:A12 5 (bm 18 32239) ⟨34,AM [(4,Ao),(19,G2),(24,IZ),(30,(.own 5 0 1))],(JJ s0 c8 c9)⟩:=(hA12 _ _ _).2 (by
    refine AU [4,9] U (by kernel_rfl) (by decide) ⟨?_,?_,trivial⟩
    ·refine An.of (i:=4) rfl U (by rfl) ?_
     refine zz (i64 c8.num) (BG Em U U (A9 (by decide) gc8) rfl) rfl ?_
     refine AA ⟨U,?_⟩
     exact AD (by exact AB U) (AH (by kernel_rfl) ((hA12 _ _ _).1 A12_012345678abcde)) rfl
    ·refine An.of (i:=9) rfl U (by rfl) ?_
     refine zz (Fs c8) (BG Ez U U (A9 (by decide) gc8) rfl) rfl ?_
     refine AA ⟨U,?_⟩
     exact AD (by exact AB U) (AH (by kernel_rfl) ((hA12 _ _ _).1 A12_012356789abcde)) rfl)
   have A12_01235678abcd:A12 6 (bm 18 15855) ⟨34,AM [(4,Ao),(19,G2),(24,IZ),(29,(Es c9))],(B5 s0 c8 c9)⟩:=(hA12 _ _ _).2 (by
    refine AU [4,9,14] U (by kernel_rfl) (by decide) ⟨?_,?_,?_,trivial⟩
    ·refine An.of (i:=4) rfl U (by rfl) ?_
     refine zz (i64 c8.num) (BG Em U U (A9 (by decide) gc8) rfl) rfl ?_
     refine AA ⟨U,?_⟩
     exact AD (by exact AB U) (AH (by kernel_rfl) ((hA12 _ _ _).1 A12_012345678abcd)) rfl
    ·refine An.of (i:=9) rfl U (by rfl) ?_
     refine zz (Fs c8) (BG Ez U U (A9 (by decide) gc8) rfl) rfl ?_
     refine AA ⟨U,?_⟩
     exact AD (by exact AB U) (AH (by kernel_rfl) ((hA12 _ _ _).1 A12_012356789abcd)) rfl
    ·refine An.of (i:=14) rfl U (by rfl) ?_
     refine Bb (m:=5) (l:=[()]) (enc:=fun _=>(Hu c9)) Aj A2 (by decide) rfl U U U U U ?_
     refine AA ⟨U,?_⟩
     exact AD (by exact AB U) (AH (by kernel_rfl) ((hA12 _ _ _).1 A12_01235678abcde)) rfl)
   have A12_01235678abc:A12 7 (bm 18 7663) ⟨34,AM [(4,Ao),(19,G2),(24,IZ),(28,FY)],(B5 s0 c8 c9)⟩:=(hA12 _ _ _).2 (by
    refine AU [4,9,13] U (by kernel_rfl) (by decide) ⟨?_,?_,?_,trivial⟩
    ·refine An.of (i:=4) rfl U (by rfl) ?_
     refine zz (i64 c8.num) (BG Em U U (A9 (by decide) gc8) rfl) rfl ?_
     refine AA ⟨U,?_⟩
     exact AD (by exact AB U) (AH (by kernel_rfl) ((hA12 _ _ _).1 A12_012345678abc)) rfl
    ·refine An.of (i:=9) rfl U (by rfl) ?_
     refine zz (Fs c8) (BG Ez U U (A9 (by decide) gc8) rfl) rfl ?_
     refine AA ⟨U,?_⟩
     exact AD (by exact AB U) (AH (by kernel_rfl) ((hA12 _ _ _).1 A12_012356789abc)) rfl
    ·refine An.of (i:=13) rfl U (by rfl) ?_
     refine zz (Es c9) (A8 Bz U U (Bt gc9) (show 0+3≤3 by decide) rfl) rfl (AA ⟨U,?_⟩)
     exact AD (by exact AB U) (AH (by kernel_rfl) ((hA12 _ _ _).1 A12_01235678abcd)) rfl)
   have A12_01235678ab:A12 8 (bm 18 3567) ⟨34,AM [(4,Ao),(19,G2),(24,IZ),(27,(ow 2 0 s0))],(B5 s0 c8 c9)⟩:=(hA12 _ _ _).2 (by
    refine AU [4,9,12] U (by kernel_rfl) (by decide) ⟨?_,?_,?_,trivial⟩
    ·refine An.of (i:=4) rfl U (by rfl) ?_
     refine zz (i64 c8.num) (BG Em U U (A9 (by decide) gc8) rfl) rfl ?_
     refine AA ⟨U,?_⟩
     exact AD (by exact AB U) (AH (by kernel_rfl) ((hA12 _ _ _).1 A12_012345678ab)) rfl
    ·refine An.of (i:=9) rfl U (by rfl) ?_
     refine zz (Fs c8) (BG Ez U U (A9 (by decide) gc8) rfl) rfl ?_
     refine AA ⟨U,?_⟩
     exact AD (by exact AB U) (AH (by kernel_rfl) ((hA12 _ _ _).1 A12_012356789ab)) rfl
    ·refine An.of (i:=12) rfl U (by rfl) ?_
     refine zz FY (BD A2 U U U U gc9) rfl (AA ⟨U,?_⟩)
     exact AD (by exact AB U) (AH (by kernel_rfl) ((hA12 _ _ _).1 A12_01235678abc)) rfl)
   have A12_01235678a:A12 9 (bm 18 1519) ⟨34,AM [(4,Ao),(19,G2),(24,IZ),(26,Fj)],(Gy s0 c8 c9 p0_0 p0_1)⟩:=(hA12 _ _ _).2 (by
    refine AU [4,9,11] U (by kernel_rfl) (by decide) ⟨?_,?_,?_,trivial⟩
    ·refine An.of (i:=4) rfl U (by rfl) ?_
     refine zz (i64 c8.num) (BG Em U U (A9 (by decide) gc8) rfl) rfl ?_
     refine AA ⟨U,?_⟩
     exact AD (by exact AB U) (AH (by kernel_rfl) ((hA12 _ _ _).1 A12_012345678a)) rfl
    ·refine An.of (i:=9) rfl U (by rfl) ?_
     refine zz (Fs c8) (BG Ez U U (A9 (by decide) gc8) rfl) rfl ?_
     refine AA ⟨U,?_⟩
     exact AD (by exact AB U) (AH (by kernel_rfl) ((hA12 _ _ _).1 A12_012356789a)) rfl
    ·refine An.of (i:=11) rfl U (by rfl) ?_
     refine zq tb U (AA ⟨U,?_⟩)
     exact AD (by exact Au (L:=[(4,Ao),(19,G2),(24,IZ),(27,(ow 2 0 s0))]) (st':=(B5 s0 c8 c9)) (st1:=(B5 s0 c8 c9)) [0,1,2,3,4] U (by decide) rfl U (.pure (by intro x hx;cases hx) (.raw U U (.hh (AG AF) (A1 Ap) rfl U U U (.deep (AG AF) (.deep (AG AF) .nil))))) (.same U)) (AH (by kernel_rfl) ((hA12 _ _ _).1 A12_01235678ab)) rfl)
   have A12_0123567abcde:A12 6 (bm 18 31983) ⟨34,AM [(4,Ao),(19,G2),(23,B0),(30,(.own 5 0 1))],(JJ s0 c8 c9)⟩:=(hA12 _ _ _).2 (by
    refine AU [4,8] U (by kernel_rfl) (by decide) ⟨?_,?_,trivial⟩
    ·refine An.of (i:=4) rfl U (by rfl) ?_
     refine zz (i64 c8.num) (BG Em U U (A9 (by decide) gc8) rfl) rfl ?_
     refine AA ⟨U,?_⟩
     exact AD (by exact AB U) (AH (by kernel_rfl) ((hA12 _ _ _).1 A12_01234567abcde)) rfl
    ·refine An.of (i:=8) rfl U (by rfl) ?_
     refine zq tb U (AA ⟨U,?_⟩)
     exact AD (by exact AB U) (AH (by kernel_rfl) ((hA12 _ _ _).1 A12_01235678abcde)) rfl)
   have A12_0123567abcd:A12 7 (bm 18 15599) ⟨34,AM [(4,Ao),(19,G2),(23,B0),(29,(Es c9))],(B5 s0 c8 c9)⟩:=(hA12 _ _ _).2 (by
    refine AU [4,8,14] U (by kernel_rfl) (by decide) ⟨?_,?_,?_,trivial⟩
    ·refine An.of (i:=4) rfl U (by rfl) ?_
     refine zz (i64 c8.num) (BG Em U U (A9 (by decide) gc8) rfl) rfl ?_
     refine AA ⟨U,?_⟩
     exact AD (by exact AB U) (AH (by kernel_rfl) ((hA12 _ _ _).1 A12_01234567abcd)) rfl
    ·refine An.of (i:=8) rfl U (by rfl) ?_
     refine zq tb U (AA ⟨U,?_⟩)
     exact AD (by exact AB U) (AH (by kernel_rfl) ((hA12 _ _ _).1 A12_01235678abcd)) rfl
    ·refine An.of (i:=14) rfl U (by rfl) ?_
     refine Bb (m:=5) (l:=[()]) (enc:=fun _=>(Hu c9)) Aj A2 (by decide) rfl U U U U U ?_
     refine AA ⟨U,?_⟩
     exact AD (by exact AB U) (AH (by kernel_rfl) ((hA12 _ _ _).1 A12_0123567abcde)) rfl)
   have A12_0123567abc:A12 8 (bm 18 7407) ⟨34,AM [(4,Ao),(19,G2),(23,B0),(28,FY)],(B5 s0 c8 c9)⟩:=(hA12 _ _ _).2 (by
    refine AU [4,8,13] U (by kernel_rfl) (by decide) ⟨?_,?_,?_,trivial⟩
    ·refine An.of (i:=4) rfl U (by rfl) ?_
     refine zz (i64 c8.num) (BG Em U U (A9 (by decide) gc8) rfl) rfl ?_
     refine AA ⟨U,?_⟩
     exact AD (by exact AB U) (AH (by kernel_rfl) ((hA12 _ _ _).1 A12_01234567abc)) rfl
    ·refine An.of (i:=8) rfl U (by rfl) ?_
     refine zq tb U (AA ⟨U,?_⟩)
     exact AD (by exact AB U) (AH (by kernel_rfl) ((hA12 _ _ _).1 A12_01235678abc)) rfl
    ·refine An.of (i:=13) rfl U (by rfl) ?_
     refine zz (Es c9) (A8 Bz U U (Bt gc9) (show 0+3≤3 by decide) rfl) rfl (AA ⟨U,?_⟩)
     exact AD (by exact AB U) (AH (by kernel_rfl) ((hA12 _ _ _).1 A12_0123567abcd)) rfl)
   have A12_0123567ab:A12 9 (bm 18 3311) ⟨34,AM [(4,Ao),(19,G2),(23,B0),(27,(ow 2 0 s0))],(B5 s0 c8 c9)⟩:=(hA12 _ _ _).2 (by
    refine AU [4,8,12] U (by kernel_rfl) (by decide) ⟨?_,?_,?_,trivial⟩
    ·refine An.of (i:=4) rfl U (by rfl) ?_
     refine zz (i64 c8.num) (BG Em U U (A9 (by decide) gc8) rfl) rfl ?_
     refine AA ⟨U,?_⟩
     exact AD (by exact AB U) (AH (by kernel_rfl) ((hA12 _ _ _).1 A12_01234567ab)) rfl
    ·refine An.of (i:=8) rfl U (by rfl) ?_
     refine zq tb U (AA ⟨U,?_⟩)
     exact AD (by exact AB U) (AH (by kernel_rfl) ((hA12 _ _ _).1 A12_01235678ab)) rfl
    ·refine An.of (i:=12) rfl U (by rfl) ?_
     refine zz FY (BD A2 U U U U gc9) rfl (AA ⟨U,?_⟩)
     exact AD (by exact AB U) (AH (by kernel_rfl) ((hA12 _ _ _).1 A12_0123567abc)) rfl)
   have A12_0123567a:A12 10 (bm 18 1263) ⟨34,AM [(4,Ao),(19,G2),(23,B0),(26,Fj)],(Gy s0 c8 c9 p0_0 p0_1)⟩:=(hA12 _ _ _).2 (by
    refine AU [4,8,11] U (by kernel_rfl) (by decide) ⟨?_,?_,?_,trivial⟩
    ·refine An.of (i:=4) rfl U (by rfl) ?_
     refine zz (i64 c8.num) (BG Em U U (A9 (by decide) gc8) rfl) rfl ?_
     refine AA ⟨U,?_⟩
     exact AD (by exact AB U) (AH (by kernel_rfl) ((hA12 _ _ _).1 A12_01234567a)) rfl
    ·refine An.of (i:=8) rfl U (by rfl) ?_
     refine zq tb U (AA ⟨U,?_⟩)
     exact AD (by exact AB U) (AH (by kernel_rfl) ((hA12 _ _ _).1 A12_01235678a)) rfl
    ·refine An.of (i:=11) rfl U (by rfl) ?_
     refine zq tb U (AA ⟨U,?_⟩)
     exact AD (by exact Au (L:=[(4,Ao),(19,G2),(23,B0),(27,(ow 2 0 s0))]) (st':=(B5 s0 c8 c9)) (st1:=(B5 s0 c8 c9)) [0,1,2,3,4] U (by decide) rfl U (.pure (by intro x hx;cases hx) (.raw U U (.hh (AG AF) (A1 Ap) rfl U U U (.deep (AG AF) (.deep (AG AF) .nil))))) (.same U)) (AH (by kernel_rfl) ((hA12 _ _ _).1 A12_0123567ab)) rfl)
   have A12_012356abcde:A12 7 (bm 18 31855) ⟨34,AM [(4,Ao),(19,G2),(22,(ow 2 0 s0)),(30,(.own 5 0 1))],(JJ s0 c8 c9)⟩:=(hA12 _ _ _).2 (by
    refine AU [4,7] U (by kernel_rfl) (by decide) ⟨?_,?_,trivial⟩
    ·refine An.of (i:=4) rfl U (by rfl) ?_
     refine zz (i64 c8.num) (BG Em U U (A9 (by decide) gc8) rfl) rfl ?_
     refine AA ⟨U,?_⟩
     exact AD (by exact AB U) (AH (by kernel_rfl) ((hA12 _ _ _).1 A12_0123456abcde)) rfl
    ·refine An.of (i:=7) rfl U (by rfl) ?_
     refine zz B0 (BD A2 U U U U gc8) rfl (AA ⟨U,?_⟩)
     exact AD (by exact AB U) (AH (by kernel_rfl) ((hA12 _ _ _).1 A12_0123567abcde)) rfl)
   have A12_012356abcd:A12 8 (bm 18 15471) ⟨34,AM [(4,Ao),(19,G2),(22,(ow 2 0 s0)),(29,(Es c9))],(B5 s0 c8 c9)⟩:=(hA12 _ _ _).2 (by
    refine AU [4,7,14] U (by kernel_rfl) (by decide) ⟨?_,?_,?_,trivial⟩
    ·refine An.of (i:=4) rfl U (by rfl) ?_
     refine zz (i64 c8.num) (BG Em U U (A9 (by decide) gc8) rfl) rfl ?_
     refine AA ⟨U,?_⟩
     exact AD (by exact AB U) (AH (by kernel_rfl) ((hA12 _ _ _).1 A12_0123456abcd)) rfl
    ·refine An.of (i:=7) rfl U (by rfl) ?_
     refine zz B0 (BD A2 U U U U gc8) rfl (AA ⟨U,?_⟩)
     exact AD (by exact AB U) (AH (by kernel_rfl) ((hA12 _ _ _).1 A12_0123567abcd)) rfl
    ·refine An.of (i:=14) rfl U (by rfl) ?_
     refine Bb (m:=5) (l:=[()]) (enc:=fun _=>(Hu c9)) Aj A2 (by decide) rfl U U U U U ?_
     refine AA ⟨U,?_⟩
     exact AD (by exact AB U) (AH (by kernel_rfl) ((hA12 _ _ _).1 A12_012356abcde)) rfl)
   have A12_012356abc:A12 9 (bm 18 7279) ⟨34,AM [(4,Ao),(19,G2),(22,(ow 2 0 s0)),(28,FY)],(B5 s0 c8 c9)⟩:=(hA12 _ _ _).2 (by
    refine AU [4,7,13] U (by kernel_rfl) (by decide) ⟨?_,?_,?_,trivial⟩
    ·refine An.of (i:=4) rfl U (by rfl) ?_
     refine zz (i64 c8.num) (BG Em U U (A9 (by decide) gc8) rfl) rfl ?_
     refine AA ⟨U,?_⟩
     exact AD (by exact AB U) (AH (by kernel_rfl) ((hA12 _ _ _).1 A12_0123456abc)) rfl
    ·refine An.of (i:=7) rfl U (by rfl) ?_
     refine zz B0 (BD A2 U U U U gc8) rfl (AA ⟨U,?_⟩)
     exact AD (by exact AB U) (AH (by kernel_rfl) ((hA12 _ _ _).1 A12_0123567abc)) rfl
    ·refine An.of (i:=13) rfl U (by rfl) ?_
     refine zz (Es c9) (A8 Bz U U (Bt gc9) (show 0+3≤3 by decide) rfl) rfl (AA ⟨U,?_⟩)
     exact AD (by exact AB U) (AH (by kernel_rfl) ((hA12 _ _ _).1 A12_012356abcd)) rfl)
   have A12_012356ab:A12 10 (bm 18 3183) ⟨34,AM [(4,Ao),(19,G2),(22,(ow 2 0 s0)),(27,(ow 2 0 s0))],(B5 s0 c8 c9)⟩:=(hA12 _ _ _).2 (by
    refine AU [4,7,12] U (by kernel_rfl) (by decide) ⟨?_,?_,?_,trivial⟩
    ·refine An.of (i:=4) rfl U (by rfl) ?_
     refine zz (i64 c8.num) (BG Em U U (A9 (by decide) gc8) rfl) rfl ?_
     refine AA ⟨U,?_⟩
     exact AD (by exact AB U) (AH (by kernel_rfl) ((hA12 _ _ _).1 A12_0123456ab)) rfl
    ·refine An.of (i:=7) rfl U (by rfl) ?_
     refine zz B0 (BD A2 U U U U gc8) rfl (AA ⟨U,?_⟩)
     exact AD (by exact AB U) (AH (by kernel_rfl) ((hA12 _ _ _).1 A12_0123567ab)) rfl
    ·refine An.of (i:=12) rfl U (by rfl) ?_
     refine zz FY (BD A2 U U U U gc9) rfl (AA ⟨U,?_⟩)
     exact AD (by exact AB U) (AH (by kernel_rfl) ((hA12 _ _ _).1 A12_012356abc)) rfl)
   have A12_012356a:A12 11 (bm 18 1135) ⟨34,AM [(4,Ao),(19,G2),(22,(ow 2 0 s0)),(26,Fj)],(Gy s0 c8 c9 p0_0 p0_1)⟩:=(hA12 _ _ _).2 (by
    refine AU [4,7,11] U (by kernel_rfl) (by decide) ⟨?_,?_,?_,trivial⟩
    ·refine An.of (i:=4) rfl U (by rfl) ?_
     refine zz (i64 c8.num) (BG Em U U (A9 (by decide) gc8) rfl) rfl ?_
     refine AA ⟨U,?_⟩
     exact AD (by exact AB U) (AH (by kernel_rfl) ((hA12 _ _ _).1 A12_0123456a)) rfl
    ·refine An.of (i:=7) rfl U (by rfl) ?_
     refine zz B0 (BD A2 U U U U gc8) rfl (AA ⟨U,?_⟩)
     exact AD (by exact AB U) (AH (by kernel_rfl) ((hA12 _ _ _).1 A12_0123567a)) rfl
    ·refine An.of (i:=11) rfl U (by rfl) ?_
     refine zq tb U (AA ⟨U,?_⟩)
     exact AD (by exact Au (L:=[(4,Ao),(19,G2),(22,(ow 2 0 s0)),(27,(ow 2 0 s0))]) (st':=(B5 s0 c8 c9)) (st1:=(B5 s0 c8 c9)) [0,1,2,3,4] U (by decide) rfl U (.pure (by intro x hx;cases hx) (.raw U U (.hh (AG AF) (A1 Ap) rfl U U U (.deep (AG AF) (.deep (AG AF) .nil))))) (.same U)) (AH (by kernel_rfl) ((hA12 _ _ _).1 A12_012356ab)) rfl)
   have A12_01235abcde:A12 8 (bm 18 31791) ⟨34,AM [(4,Ao),(19,G2),(21,Fj),(30,(.own 6 0 1))],[B6,E3,(KJ s0 c8 c9),(BP c8),(BP c9),(Rz p0_0 p0_1 s0),(MD c9)]⟩:=(hA12 _ _ _).2 (by
    refine AU [4,6] U (by kernel_rfl) (by decide) ⟨?_,?_,trivial⟩
    ·refine An.of (i:=4) rfl U (by rfl) ?_
     refine zz (i64 c8.num) (BG Em U U (A9 (by decide) gc8) rfl) rfl ?_
     refine AA ⟨U,?_⟩
     exact AD (by exact Au (L:=[(4,Ao),(20,(i64 c8.num)),(21,D9),(30,(.own 6 0 1))]) (st':=(Uy p0_0 p0_1 s0 c8 c9)) (st1:=[B6,E3,(Rz p0_0 p0_1 s0),(KJ s0 c8 c9),(BP c8),(BP c9),(MD c9)]) [0,1,5,2,3,4,6] U (by decide) rfl U (.pure (by intro x hx;cases hx) (.raw U U (.raw U U (.hh (AG AF) (A1 Ap) rfl U U U (.deep (AG AF) (.deep (AG AF) (.raw U U .nil))))))) (.same U)) (AH (by kernel_rfl) ((hA12 _ _ _).1 A12_012345abcde)) rfl
    ·refine An.of (i:=6) rfl U (by rfl) ?_
     refine zq tb U (AA ⟨U,?_⟩)
     exact AD (by exact Au (L:=[(4,Ao),(19,G2),(22,(ow 2 0 s0)),(30,(.own 5 0 1))]) (st':=(JJ s0 c8 c9)) (st1:=(JJ s0 c8 c9)) [0,1,2,3,4,6] U (by decide) rfl U (.pure (by intro x hx;cases hx) (.raw U U (.hh (AG AF) (A1 Ap) rfl U U U (.deep (AG AF) (.deep (AG AF) (.raw U U .nil)))))) (.same U)) (AH (by kernel_rfl) ((hA12 _ _ _).1 A12_012356abcde)) rfl)
   have A12_01235abcd:A12 9 (bm 18 15407) ⟨34,AM [(4,Ao),(19,G2),(21,Fj),(29,(Es c9))],(Gy s0 c8 c9 p0_0 p0_1)⟩:=(hA12 _ _ _).2 (by
    refine AU [4,6,14] U (by kernel_rfl) (by decide) ⟨?_,?_,?_,trivial⟩
    ·refine An.of (i:=4) rfl U (by rfl) ?_
     refine zz (i64 c8.num) (BG Em U U (A9 (by decide) gc8) rfl) rfl ?_
     refine AA ⟨U,?_⟩
     exact AD (by exact Au (L:=[(4,Ao),(20,(i64 c8.num)),(21,D9),(29,(.agg (Ht c9)))]) (st':=(II p0_0 p0_1 s0 c8 c9)) (st1:=[B6,E3,(Rz p0_0 p0_1 s0),(KJ s0 c8 c9),(BP c8),(BP c9)]) [0,1,5,2,3,4] U (by decide) rfl U (.pure (by intro x hx;cases hx) (.raw U U (.raw U U (.hh (AG AF) (A1 Ap) rfl U U U (.deep (AG AF) (.deep (AG AF) .nil)))))) (.same U)) (AH (by kernel_rfl) ((hA12 _ _ _).1 A12_012345abcd)) rfl
    ·refine An.of (i:=6) rfl U (by rfl) ?_
     refine zq tb U (AA ⟨U,?_⟩)
     exact AD (by exact Au (L:=[(4,Ao),(19,G2),(22,(ow 2 0 s0)),(29,(Es c9))]) (st':=(B5 s0 c8 c9)) (st1:=(B5 s0 c8 c9)) [0,1,2,3,4] U (by decide) rfl U (.pure (by intro x hx;cases hx) (.raw U U (.hh (AG AF) (A1 Ap) rfl U U U (.deep (AG AF) (.deep (AG AF) .nil))))) (.same U)) (AH (by kernel_rfl) ((hA12 _ _ _).1 A12_012356abcd)) rfl
    ·refine An.of (i:=14) rfl U (by rfl) ?_
     refine Bb (m:=6) (l:=[()]) (enc:=fun _=>(Hu c9)) Aj A2 (by decide) rfl U U U U U ?_
     refine AA ⟨U,?_⟩
     exact AD (by exact AB U) (AH (by kernel_rfl) ((hA12 _ _ _).1 A12_01235abcde)) rfl)
   have A12_01235abc:A12 10 (bm 18 7215) ⟨34,AM [(4,Ao),(19,G2),(21,Fj),(28,FY)],(Gy s0 c8 c9 p0_0 p0_1)⟩:=(hA12 _ _ _).2 (by
    refine AU [4,6,13] U (by kernel_rfl) (by decide) ⟨?_,?_,?_,trivial⟩
    ·refine An.of (i:=4) rfl U (by rfl) ?_
     refine zz (i64 c8.num) (BG Em U U (A9 (by decide) gc8) rfl) rfl ?_
     refine AA ⟨U,?_⟩
     exact AD (by exact Au (L:=[(4,Ao),(20,(i64 c8.num)),(21,D9),(28,Mk)]) (st':=(II p0_0 p0_1 s0 c8 c9)) (st1:=[B6,E3,(Rz p0_0 p0_1 s0),(KJ s0 c8 c9),(BP c8),(BP c9)]) [0,1,5,2,3,4] U (by decide) rfl U (.pure (by intro x hx;cases hx) (.raw U U (.raw U U (.hh (AG AF) (A1 Ap) rfl U U U (.deep (AG AF) (.deep (AG AF) .nil)))))) (.same U)) (AH (by kernel_rfl) ((hA12 _ _ _).1 A12_012345abc)) rfl
    ·refine An.of (i:=6) rfl U (by rfl) ?_
     refine zq tb U (AA ⟨U,?_⟩)
     exact AD (by exact Au (L:=[(4,Ao),(19,G2),(22,(ow 2 0 s0)),(28,FY)]) (st':=(B5 s0 c8 c9)) (st1:=(B5 s0 c8 c9)) [0,1,2,3,4] U (by decide) rfl U (.pure (by intro x hx;cases hx) (.raw U U (.hh (AG AF) (A1 Ap) rfl U U U (.deep (AG AF) (.deep (AG AF) .nil))))) (.same U)) (AH (by kernel_rfl) ((hA12 _ _ _).1 A12_012356abc)) rfl
    ·refine An.of (i:=13) rfl U (by rfl) ?_
     refine zz (Es c9) (A8 Bz U U (Bt gc9) (show 0+3≤3 by decide) rfl) rfl (AA ⟨U,?_⟩)
     exact AD (by exact AB U) (AH (by kernel_rfl) ((hA12 _ _ _).1 A12_01235abcd)) rfl)
   have A12_01235ab:A12 11 (bm 18 3119) ⟨34,AM [(4,Ao),(19,G2),(21,Fj),(27,(ow 2 0 s0))],(Gy s0 c8 c9 p0_0 p0_1)⟩:=(hA12 _ _ _).2 (by
    refine AU [4,6,12] U (by kernel_rfl) (by decide) ⟨?_,?_,?_,trivial⟩
    ·refine An.of (i:=4) rfl U (by rfl) ?_
     refine zz (i64 c8.num) (BG Em U U (A9 (by decide) gc8) rfl) rfl ?_
     refine AA ⟨U,?_⟩
     exact AD (by exact Au (L:=[(4,Ao),(20,(i64 c8.num)),(21,D9),(27,(ow 3 0 s0))]) (st':=(II p0_0 p0_1 s0 c8 c9)) (st1:=[B6,E3,(Rz p0_0 p0_1 s0),(KJ s0 c8 c9),(BP c8),(BP c9)]) [0,1,5,2,3,4] U (by decide) rfl U (.pure (by intro x hx;cases hx) (.raw U U (.raw U U (.hh (AG AF) (A1 Ap) rfl U U U (.deep (AG AF) (.deep (AG AF) .nil)))))) (.same U)) (AH (by kernel_rfl) ((hA12 _ _ _).1 A12_012345ab)) rfl
    ·refine An.of (i:=6) rfl U (by rfl) ?_
     refine zq tb U (AA ⟨U,?_⟩)
     exact AD (by exact Au (L:=[(4,Ao),(19,G2),(22,(ow 2 0 s0)),(27,(ow 2 0 s0))]) (st':=(B5 s0 c8 c9)) (st1:=(B5 s0 c8 c9)) [0,1,2,3,4] U (by decide) rfl U (.pure (by intro x hx;cases hx) (.raw U U (.hh (AG AF) (A1 Ap) rfl U U U (.deep (AG AF) (.deep (AG AF) .nil))))) (.same U)) (AH (by kernel_rfl) ((hA12 _ _ _).1 A12_012356ab)) rfl
    ·refine An.of (i:=12) rfl U (by rfl) ?_
     refine zz FY (BD A2 U U U U gc9) rfl (AA ⟨U,?_⟩)
     exact AD (by exact AB U) (AH (by kernel_rfl) ((hA12 _ _ _).1 A12_01235abc)) rfl)
   have A12_01235a:A12 12 (bm 18 1071) ⟨34,AM [(4,Ao),(19,G2),(21,Fj),(26,Fj)],(Gy s0 c8 c9 p0_0 p0_1)⟩:=(hA12 _ _ _).2 (by
    refine AU [4,6,11] U (by kernel_rfl) (by decide) ⟨?_,?_,?_,trivial⟩
    ·refine An.of (i:=4) rfl U (by rfl) ?_
     refine zz (i64 c8.num) (BG Em U U (A9 (by decide) gc8) rfl) rfl ?_
     refine AA ⟨U,?_⟩
     exact AD (by exact Au (L:=[(4,Ao),(20,(i64 c8.num)),(21,D9),(26,D9)]) (st':=(II p0_0 p0_1 s0 c8 c9)) (st1:=[B6,E3,(Rz p0_0 p0_1 s0),(KJ s0 c8 c9),(BP c8),(BP c9)]) [0,1,5,2,3,4] U (by decide) rfl U (.pure (by intro x hx;cases hx) (.raw U U (.raw U U (.hh (AG AF) (A1 Ap) rfl U U U (.deep (AG AF) (.deep (AG AF) .nil)))))) (.same U)) (AH (by kernel_rfl) ((hA12 _ _ _).1 A12_012345a)) rfl
    ·refine An.of (i:=6) rfl U (by rfl) ?_
     refine zq tb U (AA ⟨U,?_⟩)
     exact AD (by exact AB U) (AH (by kernel_rfl) ((hA12 _ _ _).1 A12_012356a)) rfl
    ·refine An.of (i:=11) rfl U (by rfl) ?_
     refine zq tb U (AA ⟨U,?_⟩)
     exact AD (by exact AB U) (AH (by kernel_rfl) ((hA12 _ _ _).1 A12_01235ab)) rfl)
   have A12_01256789abcdef:A12 4 (bm 18 65511) ⟨34,AM [(4,Ao),(18,B0),(31,(ow 3 1 l10))],(SB s0 c8 c9 l10)⟩:=(hA12 _ _ _).2 (by
    refine AU [3] U (by kernel_rfl) (by decide) ⟨?_,trivial⟩
    ·refine An.of (i:=3) rfl U (by rfl) ?_
     refine zq tb U (AA ⟨U,?_⟩)
     exact AD (by exact AB U) (AH (by kernel_rfl) ((hA12 _ _ _).1 A12_012356789abcdef)) rfl)
   have A12_01256789abcde:A12 5 (bm 18 32743) ⟨34,AM [(4,Ao),(18,B0),(25,(Fs c8)),(30,(.own 5 0 1))],(JJ s0 c8 c9)⟩:=(hA12 _ _ _).2 (by
    refine AU [3,15] U (by kernel_rfl) (by decide) ⟨?_,?_,trivial⟩
    ·refine An.of (i:=3) rfl U (by rfl) ?_
     refine zq tb U (AA ⟨U,?_⟩)
     exact AD (by exact AB U) (AH (by kernel_rfl) ((hA12 _ _ _).1 A12_012356789abcde)) rfl
    ·refine An.of (i:=15) rfl U (by rfl) ?_
     have g13:=Js gl10
     refine Lt (st':=[B6,E3,(KJ s0 c8 c9),⟨1,44,3,hole l10 (Ay 44) (Sh.len c8.kids) (Hu c9)⟩,(BP c9),(MD c9)]) (c:=c9) Aj A2 U U U U U U U gl10 U ?_
     refine Al (Wk.take (id:=3) (m:=4) (j:=2) (i:=Sh.len c8.kids) (c:=c9) (ys:=c9.kids) (encY:=(Ay 44)) rfl g13 U U U (by decide) (show 1≤4 by decide) Co U U) ?_
     refine Al (Ev (id:=3) (i:=Sh.len c8.kids) (c:=c9) rfl g13 (Bp c9).symm U) (AA ⟨U,?_⟩)
     exact AD (by exact Au (L:=[(4,Ao),(18,B0),(31,(ow 3 1 l10))]) (st':=(SB s0 c8 c9 l10)) (st1:=(SB s0 c8 c9 l10)) [0,1,2,3,4] U (by decide) rfl U (.pure (by intro x hx;cases hx) (.raw U U (.hh (AG AF) (A1 Ap) rfl U U U (.deep (AG AF) (.pure (by intro x hx;cases hx) .nil))))) (.same U)) (AH (by kernel_rfl) ((hA12 _ _ _).1 A12_01256789abcdef)) rfl)
   have A12_01256789abcd:A12 6 (bm 18 16359) ⟨34,AM [(4,Ao),(18,B0),(25,(Fs c8)),(29,(Es c9))],(B5 s0 c8 c9)⟩:=(hA12 _ _ _).2 (by
    refine AU [3,14] U (by kernel_rfl) (by decide) ⟨?_,?_,trivial⟩
    ·refine An.of (i:=3) rfl U (by rfl) ?_
     refine zq tb U (AA ⟨U,?_⟩)
     exact AD (by exact AB U) (AH (by kernel_rfl) ((hA12 _ _ _).1 A12_012356789abcd)) rfl
    ·refine An.of (i:=14) rfl U (by rfl) ?_
     refine Bb (m:=5) (l:=[()]) (enc:=fun _=>(Hu c9)) Aj A2 (by decide) rfl U U U U U ?_
     refine AA ⟨U,?_⟩
     exact AD (by exact AB U) (AH (by kernel_rfl) ((hA12 _ _ _).1 A12_01256789abcde)) rfl)
   have A12_01256789abc:A12 7 (bm 18 8167) ⟨34,AM [(4,Ao),(18,B0),(25,(Fs c8)),(28,FY)],(B5 s0 c8 c9)⟩:=(hA12 _ _ _).2 (by
    refine AU [3,13] U (by kernel_rfl) (by decide) ⟨?_,?_,trivial⟩
    ·refine An.of (i:=3) rfl U (by rfl) ?_
     refine zq tb U (AA ⟨U,?_⟩)
     exact AD (by exact AB U) (AH (by kernel_rfl) ((hA12 _ _ _).1 A12_012356789abc)) rfl
    ·refine An.of (i:=13) rfl U (by rfl) ?_
     refine zz (Es c9) (A8 Bz U U (Bt gc9) (show 0+3≤3 by decide) rfl) rfl (AA ⟨U,?_⟩)
     exact AD (by exact AB U) (AH (by kernel_rfl) ((hA12 _ _ _).1 A12_01256789abcd)) rfl)
   have A12_01256789ab:A12 8 (bm 18 4071) ⟨34,AM [(4,Ao),(18,B0),(25,(Fs c8)),(27,(ow 2 0 s0))],(B5 s0 c8 c9)⟩:=(hA12 _ _ _).2 (by
    refine AU [3,12] U (by kernel_rfl) (by decide) ⟨?_,?_,trivial⟩
    ·refine An.of (i:=3) rfl U (by rfl) ?_
     refine zq tb U (AA ⟨U,?_⟩)
     exact AD (by exact AB U) (AH (by kernel_rfl) ((hA12 _ _ _).1 A12_012356789ab)) rfl
    ·refine An.of (i:=12) rfl U (by rfl) ?_
     refine zz FY (BD A2 U U U U gc9) rfl (AA ⟨U,?_⟩)
     exact AD (by exact AB U) (AH (by kernel_rfl) ((hA12 _ _ _).1 A12_01256789abc)) rfl)
   have A12_01256789a:A12 9 (bm 18 2023) ⟨34,AM [(4,Ao),(18,B0),(25,(Fs c8)),(26,Fj)],(Gy s0 c8 c9 p0_0 p0_1)⟩:=(hA12 _ _ _).2 (by
    refine AU [3,11] U (by kernel_rfl) (by decide) ⟨?_,?_,trivial⟩
    ·refine An.of (i:=3) rfl U (by rfl) ?_
     refine zq tb U (AA ⟨U,?_⟩)
     exact AD (by exact AB U) (AH (by kernel_rfl) ((hA12 _ _ _).1 A12_012356789a)) rfl
    ·refine An.of (i:=11) rfl U (by rfl) ?_
     refine zq tb U (AA ⟨U,?_⟩)
     exact AD (by exact Au (L:=[(4,Ao),(18,B0),(25,(Fs c8)),(27,(ow 2 0 s0))]) (st':=(B5 s0 c8 c9)) (st1:=(B5 s0 c8 c9)) [0,1,2,3,4] U (by decide) rfl U (.pure (by intro x hx;cases hx) (.raw U U (.hh (AG AF) (A1 Ap) rfl U U U (.deep (AG AF) (.deep (AG AF) .nil))))) (.same U)) (AH (by kernel_rfl) ((hA12 _ _ _).1 A12_01256789ab)) rfl)
   have A12_0125678abcde:A12 6 (bm 18 32231) ⟨34,AM [(4,Ao),(18,B0),(24,IZ),(30,(.own 5 0 1))],(JJ s0 c8 c9)⟩:=(hA12 _ _ _).2 (by
    refine AU [3,9] U (by kernel_rfl) (by decide) ⟨?_,?_,trivial⟩
    ·refine An.of (i:=3) rfl U (by rfl) ?_
     refine zq tb U (AA ⟨U,?_⟩)
     exact AD (by exact AB U) (AH (by kernel_rfl) ((hA12 _ _ _).1 A12_01235678abcde)) rfl
    ·refine An.of (i:=9) rfl U (by rfl) ?_
     refine zz (Fs c8) (BG Ez U U (A9 (by decide) gc8) rfl) rfl ?_
     refine AA ⟨U,?_⟩
     exact AD (by exact AB U) (AH (by kernel_rfl) ((hA12 _ _ _).1 A12_01256789abcde)) rfl)
   have A12_0125678abcd:A12 7 (bm 18 15847) ⟨34,AM [(4,Ao),(18,B0),(24,IZ),(29,(Es c9))],(B5 s0 c8 c9)⟩:=(hA12 _ _ _).2 (by
    refine AU [3,9,14] U (by kernel_rfl) (by decide) ⟨?_,?_,?_,trivial⟩
    ·refine An.of (i:=3) rfl U (by rfl) ?_
     refine zq tb U (AA ⟨U,?_⟩)
     exact AD (by exact AB U) (AH (by kernel_rfl) ((hA12 _ _ _).1 A12_01235678abcd)) rfl
    ·refine An.of (i:=9) rfl U (by rfl) ?_
     refine zz (Fs c8) (BG Ez U U (A9 (by decide) gc8) rfl) rfl ?_
     refine AA ⟨U,?_⟩
     exact AD (by exact AB U) (AH (by kernel_rfl) ((hA12 _ _ _).1 A12_01256789abcd)) rfl
    ·refine An.of (i:=14) rfl U (by rfl) ?_
     refine Bb (m:=5) (l:=[()]) (enc:=fun _=>(Hu c9)) Aj A2 (by decide) rfl U U U U U ?_
     refine AA ⟨U,?_⟩
     exact AD (by exact AB U) (AH (by kernel_rfl) ((hA12 _ _ _).1 A12_0125678abcde)) rfl)
   have A12_0125678abc:A12 8 (bm 18 7655) ⟨34,AM [(4,Ao),(18,B0),(24,IZ),(28,FY)],(B5 s0 c8 c9)⟩:=(hA12 _ _ _).2 (by
    refine AU [3,9,13] U (by kernel_rfl) (by decide) ⟨?_,?_,?_,trivial⟩
    ·refine An.of (i:=3) rfl U (by rfl) ?_
     refine zq tb U (AA ⟨U,?_⟩)
     exact AD (by exact AB U) (AH (by kernel_rfl) ((hA12 _ _ _).1 A12_01235678abc)) rfl
    ·refine An.of (i:=9) rfl U (by rfl) ?_
     refine zz (Fs c8) (BG Ez U U (A9 (by decide) gc8) rfl) rfl ?_
     refine AA ⟨U,?_⟩
     exact AD (by exact AB U) (AH (by kernel_rfl) ((hA12 _ _ _).1 A12_01256789abc)) rfl
    ·refine An.of (i:=13) rfl U (by rfl) ?_
     refine zz (Es c9) (A8 Bz U U (Bt gc9) (show 0+3≤3 by decide) rfl) rfl (AA ⟨U,?_⟩)
     exact AD (by exact AB U) (AH (by kernel_rfl) ((hA12 _ _ _).1 A12_0125678abcd)) rfl)
   have A12_0125678ab:A12 9 (bm 18 3559) ⟨34,AM [(4,Ao),(18,B0),(24,IZ),(27,(ow 2 0 s0))],(B5 s0 c8 c9)⟩:=(hA12 _ _ _).2 (by
    refine AU [3,9,12] U (by kernel_rfl) (by decide) ⟨?_,?_,?_,trivial⟩
    ·refine An.of (i:=3) rfl U (by rfl) ?_
     refine zq tb U (AA ⟨U,?_⟩)
     exact AD (by exact AB U) (AH (by kernel_rfl) ((hA12 _ _ _).1 A12_01235678ab)) rfl
    ·refine An.of (i:=9) rfl U (by rfl) ?_
     refine zz (Fs c8) (BG Ez U U (A9 (by decide) gc8) rfl) rfl ?_
     refine AA ⟨U,?_⟩
     exact AD (by exact AB U) (AH (by kernel_rfl) ((hA12 _ _ _).1 A12_01256789ab)) rfl
    ·refine An.of (i:=12) rfl U (by rfl) ?_
     refine zz FY (BD A2 U U U U gc9) rfl (AA ⟨U,?_⟩)
     exact AD (by exact AB U) (AH (by kernel_rfl) ((hA12 _ _ _).1 A12_0125678abc)) rfl)
   have A12_0125678a:A12 10 (bm 18 1511) ⟨34,AM [(4,Ao),(18,B0),(24,IZ),(26,Fj)],(Gy s0 c8 c9 p0_0 p0_1)⟩:=(hA12 _ _ _).2 (by
    refine AU [3,9,11] U (by kernel_rfl) (by decide) ⟨?_,?_,?_,trivial⟩
    ·refine An.of (i:=3) rfl U (by rfl) ?_
     refine zq tb U (AA ⟨U,?_⟩)
     exact AD (by exact AB U) (AH (by kernel_rfl) ((hA12 _ _ _).1 A12_01235678a)) rfl
    ·refine An.of (i:=9) rfl U (by rfl) ?_
     refine zz (Fs c8) (BG Ez U U (A9 (by decide) gc8) rfl) rfl ?_
     refine AA ⟨U,?_⟩
     exact AD (by exact AB U) (AH (by kernel_rfl) ((hA12 _ _ _).1 A12_01256789a)) rfl
    ·refine An.of (i:=11) rfl U (by rfl) ?_
     refine zq tb U (AA ⟨U,?_⟩)
     exact AD (by exact Au (L:=[(4,Ao),(18,B0),(24,IZ),(27,(ow 2 0 s0))]) (st':=(B5 s0 c8 c9)) (st1:=(B5 s0 c8 c9)) [0,1,2,3,4] U (by decide) rfl U (.pure (by intro x hx;cases hx) (.raw U U (.hh (AG AF) (A1 Ap) rfl U U U (.deep (AG AF) (.deep (AG AF) .nil))))) (.same U)) (AH (by kernel_rfl) ((hA12 _ _ _).1 A12_0125678ab)) rfl)
   have A12_012567abcde:A12 7 (bm 18 31975) ⟨34,AM [(4,Ao),(18,B0),(23,B0),(30,(.own 5 0 1))],(JJ s0 c8 c9)⟩:=(hA12 _ _ _).2 (by
    refine AU [3,8] U (by kernel_rfl) (by decide) ⟨?_,?_,trivial⟩
    ·refine An.of (i:=3) rfl U (by rfl) ?_
     refine zq tb U (AA ⟨U,?_⟩)
     exact AD (by exact AB U) (AH (by kernel_rfl) ((hA12 _ _ _).1 A12_0123567abcde)) rfl
    ·refine An.of (i:=8) rfl U (by rfl) ?_
     refine zq tb U (AA ⟨U,?_⟩)
     exact AD (by exact AB U) (AH (by kernel_rfl) ((hA12 _ _ _).1 A12_0125678abcde)) rfl)
   have A12_012567abcd:A12 8 (bm 18 15591) ⟨34,AM [(4,Ao),(18,B0),(23,B0),(29,(Es c9))],(B5 s0 c8 c9)⟩:=(hA12 _ _ _).2 (by
    refine AU [3,8,14] U (by kernel_rfl) (by decide) ⟨?_,?_,?_,trivial⟩
    ·refine An.of (i:=3) rfl U (by rfl) ?_
     refine zq tb U (AA ⟨U,?_⟩)
     exact AD (by exact AB U) (AH (by kernel_rfl) ((hA12 _ _ _).1 A12_0123567abcd)) rfl
    ·refine An.of (i:=8) rfl U (by rfl) ?_
     refine zq tb U (AA ⟨U,?_⟩)
     exact AD (by exact AB U) (AH (by kernel_rfl) ((hA12 _ _ _).1 A12_0125678abcd)) rfl
    ·refine An.of (i:=14) rfl U (by rfl) ?_
     refine Bb (m:=5) (l:=[()]) (enc:=fun _=>(Hu c9)) Aj A2 (by decide) rfl U U U U U ?_
     refine AA ⟨U,?_⟩
     exact AD (by exact AB U) (AH (by kernel_rfl) ((hA12 _ _ _).1 A12_012567abcde)) rfl)
   have A12_012567abc:A12 9 (bm 18 7399) ⟨34,AM [(4,Ao),(18,B0),(23,B0),(28,FY)],(B5 s0 c8 c9)⟩:=(hA12 _ _ _).2 (by
    refine AU [3,8,13] U (by kernel_rfl) (by decide) ⟨?_,?_,?_,trivial⟩
    ·refine An.of (i:=3) rfl U (by rfl) ?_
     refine zq tb U (AA ⟨U,?_⟩)
     exact AD (by exact AB U) (AH (by kernel_rfl) ((hA12 _ _ _).1 A12_0123567abc)) rfl
    ·refine An.of (i:=8) rfl U (by rfl) ?_
     refine zq tb U (AA ⟨U,?_⟩)
     exact AD (by exact AB U) (AH (by kernel_rfl) ((hA12 _ _ _).1 A12_0125678abc)) rfl
    ·refine An.of (i:=13) rfl U (by rfl) ?_
     refine zz (Es c9) (A8 Bz U U (Bt gc9) (show 0+3≤3 by decide) rfl) rfl (AA ⟨U,?_⟩)
     exact AD (by exact AB U) (AH (by kernel_rfl) ((hA12 _ _ _).1 A12_012567abcd)) rfl)
   have A12_012567ab:A12 10 (bm 18 3303) ⟨34,AM [(4,Ao),(18,B0),(23,B0),(27,(ow 2 0 s0))],(B5 s0 c8 c9)⟩:=(hA12 _ _ _).2 (by
    refine AU [3,8,12] U (by kernel_rfl) (by decide) ⟨?_,?_,?_,trivial⟩
    ·refine An.of (i:=3) rfl U (by rfl) ?_
     refine zq tb U (AA ⟨U,?_⟩)
     exact AD (by exact AB U) (AH (by kernel_rfl) ((hA12 _ _ _).1 A12_0123567ab)) rfl
    ·refine An.of (i:=8) rfl U (by rfl) ?_
     refine zq tb U (AA ⟨U,?_⟩)
     exact AD (by exact AB U) (AH (by kernel_rfl) ((hA12 _ _ _).1 A12_0125678ab)) rfl
    ·refine An.of (i:=12) rfl U (by rfl) ?_
     refine zz FY (BD A2 U U U U gc9) rfl (AA ⟨U,?_⟩)
     exact AD (by exact AB U) (AH (by kernel_rfl) ((hA12 _ _ _).1 A12_012567abc)) rfl)
   have A12_012567a:A12 11 (bm 18 1255) ⟨34,AM [(4,Ao),(18,B0),(23,B0),(26,Fj)],(Gy s0 c8 c9 p0_0 p0_1)⟩:=(hA12 _ _ _).2 (by
    refine AU [3,8,11] U (by kernel_rfl) (by decide) ⟨?_,?_,?_,trivial⟩
    ·refine An.of (i:=3) rfl U (by rfl) ?_
     refine zq tb U (AA ⟨U,?_⟩)
     exact AD (by exact AB U) (AH (by kernel_rfl) ((hA12 _ _ _).1 A12_0123567a)) rfl
    ·refine An.of (i:=8) rfl U (by rfl) ?_
     refine zq tb U (AA ⟨U,?_⟩)
     exact AD (by exact AB U) (AH (by kernel_rfl) ((hA12 _ _ _).1 A12_0125678a)) rfl
    ·refine An.of (i:=11) rfl U (by rfl) ?_
     refine zq tb U (AA ⟨U,?_⟩)
     exact AD (by exact Au (L:=[(4,Ao),(18,B0),(23,B0),(27,(ow 2 0 s0))]) (st':=(B5 s0 c8 c9)) (st1:=(B5 s0 c8 c9)) [0,1,2,3,4] U (by decide) rfl U (.pure (by intro x hx;cases hx) (.raw U U (.hh (AG AF) (A1 Ap) rfl U U U (.deep (AG AF) (.deep (AG AF) .nil))))) (.same U)) (AH (by kernel_rfl) ((hA12 _ _ _).1 A12_012567ab)) rfl)
   have A12_01256abcde:A12 8 (bm 18 31847) ⟨34,AM [(4,Ao),(18,B0),(22,(ow 2 0 s0)),(30,(.own 5 0 1))],(JJ s0 c8 c9)⟩:=(hA12 _ _ _).2 (by
    refine AU [3,7] U (by kernel_rfl) (by decide) ⟨?_,?_,trivial⟩
    ·refine An.of (i:=3) rfl U (by rfl) ?_
     refine zq tb U (AA ⟨U,?_⟩)
     exact AD (by exact AB U) (AH (by kernel_rfl) ((hA12 _ _ _).1 A12_012356abcde)) rfl
    ·refine An.of (i:=7) rfl U (by rfl) ?_
     refine zz B0 (BD A2 U U U U gc8) rfl (AA ⟨U,?_⟩)
     exact AD (by exact AB U) (AH (by kernel_rfl) ((hA12 _ _ _).1 A12_012567abcde)) rfl)
   have A12_01256abcd:A12 9 (bm 18 15463) ⟨34,AM [(4,Ao),(18,B0),(22,(ow 2 0 s0)),(29,(Es c9))],(B5 s0 c8 c9)⟩:=(hA12 _ _ _).2 (by
    refine AU [3,7,14] U (by kernel_rfl) (by decide) ⟨?_,?_,?_,trivial⟩
    ·refine An.of (i:=3) rfl U (by rfl) ?_
     refine zq tb U (AA ⟨U,?_⟩)
     exact AD (by exact AB U) (AH (by kernel_rfl) ((hA12 _ _ _).1 A12_012356abcd)) rfl
    ·refine An.of (i:=7) rfl U (by rfl) ?_
     refine zz B0 (BD A2 U U U U gc8) rfl (AA ⟨U,?_⟩)
     exact AD (by exact AB U) (AH (by kernel_rfl) ((hA12 _ _ _).1 A12_012567abcd)) rfl
    ·refine An.of (i:=14) rfl U (by rfl) ?_
     refine Bb (m:=5) (l:=[()]) (enc:=fun _=>(Hu c9)) Aj A2 (by decide) rfl U U U U U ?_
     refine AA ⟨U,?_⟩
     exact AD (by exact AB U) (AH (by kernel_rfl) ((hA12 _ _ _).1 A12_01256abcde)) rfl)
   have A12_01256abc:A12 10 (bm 18 7271) ⟨34,AM [(4,Ao),(18,B0),(22,(ow 2 0 s0)),(28,FY)],(B5 s0 c8 c9)⟩:=(hA12 _ _ _).2 (by
    refine AU [3,7,13] U (by kernel_rfl) (by decide) ⟨?_,?_,?_,trivial⟩
    ·refine An.of (i:=3) rfl U (by rfl) ?_
     refine zq tb U (AA ⟨U,?_⟩)
     exact AD (by exact AB U) (AH (by kernel_rfl) ((hA12 _ _ _).1 A12_012356abc)) rfl
    ·refine An.of (i:=7) rfl U (by rfl) ?_
     refine zz B0 (BD A2 U U U U gc8) rfl (AA ⟨U,?_⟩)
     exact AD (by exact AB U) (AH (by kernel_rfl) ((hA12 _ _ _).1 A12_012567abc)) rfl
    ·refine An.of (i:=13) rfl U (by rfl) ?_
     refine zz (Es c9) (A8 Bz U U (Bt gc9) (show 0+3≤3 by decide) rfl) rfl (AA ⟨U,?_⟩)
     exact AD (by exact AB U) (AH (by kernel_rfl) ((hA12 _ _ _).1 A12_01256abcd)) rfl)
   have A12_01256ab:A12 11 (bm 18 3175) ⟨34,AM [(4,Ao),(18,B0),(22,(ow 2 0 s0)),(27,(ow 2 0 s0))],(B5 s0 c8 c9)⟩:=(hA12 _ _ _).2 (by
    refine AU [3,7,12] U (by kernel_rfl) (by decide) ⟨?_,?_,?_,trivial⟩
    ·refine An.of (i:=3) rfl U (by rfl) ?_
     refine zq tb U (AA ⟨U,?_⟩)
     exact AD (by exact AB U) (AH (by kernel_rfl) ((hA12 _ _ _).1 A12_012356ab)) rfl
    ·refine An.of (i:=7) rfl U (by rfl) ?_
     refine zz B0 (BD A2 U U U U gc8) rfl (AA ⟨U,?_⟩)
     exact AD (by exact AB U) (AH (by kernel_rfl) ((hA12 _ _ _).1 A12_012567ab)) rfl
    ·refine An.of (i:=12) rfl U (by rfl) ?_
     refine zz FY (BD A2 U U U U gc9) rfl (AA ⟨U,?_⟩)
     exact AD (by exact AB U) (AH (by kernel_rfl) ((hA12 _ _ _).1 A12_01256abc)) rfl)
   have A12_01256a:A12 12 (bm 18 1127) ⟨34,AM [(4,Ao),(18,B0),(22,(ow 2 0 s0)),(26,Fj)],(Gy s0 c8 c9 p0_0 p0_1)⟩:=(hA12 _ _ _).2 (by
    refine AU [3,7,11] U (by kernel_rfl) (by decide) ⟨?_,?_,?_,trivial⟩
    ·refine An.of (i:=3) rfl U (by rfl) ?_
     refine zq tb U (AA ⟨U,?_⟩)
     exact AD (by exact AB U) (AH (by kernel_rfl) ((hA12 _ _ _).1 A12_012356a)) rfl
    ·refine An.of (i:=7) rfl U (by rfl) ?_
     refine zz B0 (BD A2 U U U U gc8) rfl (AA ⟨U,?_⟩)
     exact AD (by exact AB U) (AH (by kernel_rfl) ((hA12 _ _ _).1 A12_012567a)) rfl
    ·refine An.of (i:=11) rfl U (by rfl) ?_
     refine zq tb U (AA ⟨U,?_⟩)
     exact AD (by exact Au (L:=[(4,Ao),(18,B0),(22,(ow 2 0 s0)),(27,(ow 2 0 s0))]) (st':=(B5 s0 c8 c9)) (st1:=(B5 s0 c8 c9)) [0,1,2,3,4] U (by decide) rfl U (.pure (by intro x hx;cases hx) (.raw U U (.hh (AG AF) (A1 Ap) rfl U U U (.deep (AG AF) (.deep (AG AF) .nil))))) (.same U)) (AH (by kernel_rfl) ((hA12 _ _ _).1 A12_01256ab)) rfl)
   have A12_0125abcde:A12 9 (bm 18 31783) ⟨34,AM [(4,Ao),(18,B0),(21,Fj),(30,(.own 6 0 1))],[B6,E3,(KJ s0 c8 c9),(BP c8),(BP c9),(Rz p0_0 p0_1 s0),(MD c9)]⟩:=(hA12 _ _ _).2 (by
    refine AU [3,6] U (by kernel_rfl) (by decide) ⟨?_,?_,trivial⟩
    ·refine An.of (i:=3) rfl U (by rfl) ?_
     refine zq tb U (AA ⟨U,?_⟩)
     exact AD (by exact AB U) (AH (by kernel_rfl) ((hA12 _ _ _).1 A12_01235abcde)) rfl
    ·refine An.of (i:=6) rfl U (by rfl) ?_
     refine zq tb U (AA ⟨U,?_⟩)
     exact AD (by exact Au (L:=[(4,Ao),(18,B0),(22,(ow 2 0 s0)),(30,(.own 5 0 1))]) (st':=(JJ s0 c8 c9)) (st1:=(JJ s0 c8 c9)) [0,1,2,3,4,6] U (by decide) rfl U (.pure (by intro x hx;cases hx) (.raw U U (.hh (AG AF) (A1 Ap) rfl U U U (.deep (AG AF) (.deep (AG AF) (.raw U U .nil)))))) (.same U)) (AH (by kernel_rfl) ((hA12 _ _ _).1 A12_01256abcde)) rfl)
   have A12_0125abcd:A12 10 (bm 18 15399) ⟨34,AM [(4,Ao),(18,B0),(21,Fj),(29,(Es c9))],(Gy s0 c8 c9 p0_0 p0_1)⟩:=(hA12 _ _ _).2 (by
    refine AU [3,6,14] U (by kernel_rfl) (by decide) ⟨?_,?_,?_,trivial⟩
    ·refine An.of (i:=3) rfl U (by rfl) ?_
     refine zq tb U (AA ⟨U,?_⟩)
     exact AD (by exact AB U) (AH (by kernel_rfl) ((hA12 _ _ _).1 A12_01235abcd)) rfl
    ·refine An.of (i:=6) rfl U (by rfl) ?_
     refine zq tb U (AA ⟨U,?_⟩)
     exact AD (by exact Au (L:=[(4,Ao),(18,B0),(22,(ow 2 0 s0)),(29,(Es c9))]) (st':=(B5 s0 c8 c9)) (st1:=(B5 s0 c8 c9)) [0,1,2,3,4] U (by decide) rfl U (.pure (by intro x hx;cases hx) (.raw U U (.hh (AG AF) (A1 Ap) rfl U U U (.deep (AG AF) (.deep (AG AF) .nil))))) (.same U)) (AH (by kernel_rfl) ((hA12 _ _ _).1 A12_01256abcd)) rfl
    ·refine An.of (i:=14) rfl U (by rfl) ?_
     refine Bb (m:=6) (l:=[()]) (enc:=fun _=>(Hu c9)) Aj A2 (by decide) rfl U U U U U ?_
     refine AA ⟨U,?_⟩
     exact AD (by exact AB U) (AH (by kernel_rfl) ((hA12 _ _ _).1 A12_0125abcde)) rfl)
   have A12_0125abc:A12 11 (bm 18 7207) ⟨34,AM [(4,Ao),(18,B0),(21,Fj),(28,FY)],(Gy s0 c8 c9 p0_0 p0_1)⟩:=(hA12 _ _ _).2 (by
    refine AU [3,6,13] U (by kernel_rfl) (by decide) ⟨?_,?_,?_,trivial⟩
    ·refine An.of (i:=3) rfl U (by rfl) ?_
     refine zq tb U (AA ⟨U,?_⟩)
     exact AD (by exact AB U) (AH (by kernel_rfl) ((hA12 _ _ _).1 A12_01235abc)) rfl
    ·refine An.of (i:=6) rfl U (by rfl) ?_
     refine zq tb U (AA ⟨U,?_⟩)
     exact AD (by exact Au (L:=[(4,Ao),(18,B0),(22,(ow 2 0 s0)),(28,FY)]) (st':=(B5 s0 c8 c9)) (st1:=(B5 s0 c8 c9)) [0,1,2,3,4] U (by decide) rfl U (.pure (by intro x hx;cases hx) (.raw U U (.hh (AG AF) (A1 Ap) rfl U U U (.deep (AG AF) (.deep (AG AF) .nil))))) (.same U)) (AH (by kernel_rfl) ((hA12 _ _ _).1 A12_01256abc)) rfl
    ·refine An.of (i:=13) rfl U (by rfl) ?_
     refine zz (Es c9) (A8 Bz U U (Bt gc9) (show 0+3≤3 by decide) rfl) rfl (AA ⟨U,?_⟩)
     exact AD (by exact AB U) (AH (by kernel_rfl) ((hA12 _ _ _).1 A12_0125abcd)) rfl)
   have A12_0125ab:A12 12 (bm 18 3111) ⟨34,AM [(4,Ao),(18,B0),(21,Fj),(27,(ow 2 0 s0))],(Gy s0 c8 c9 p0_0 p0_1)⟩:=(hA12 _ _ _).2 (by
    refine AU [3,6,12] U (by kernel_rfl) (by decide) ⟨?_,?_,?_,trivial⟩
    ·refine An.of (i:=3) rfl U (by rfl) ?_
     refine zq tb U (AA ⟨U,?_⟩)
     exact AD (by exact AB U) (AH (by kernel_rfl) ((hA12 _ _ _).1 A12_01235ab)) rfl
    ·refine An.of (i:=6) rfl U (by rfl) ?_
     refine zq tb U (AA ⟨U,?_⟩)
     exact AD (by exact Au (L:=[(4,Ao),(18,B0),(22,(ow 2 0 s0)),(27,(ow 2 0 s0))]) (st':=(B5 s0 c8 c9)) (st1:=(B5 s0 c8 c9)) [0,1,2,3,4] U (by decide) rfl U (.pure (by intro x hx;cases hx) (.raw U U (.hh (AG AF) (A1 Ap) rfl U U U (.deep (AG AF) (.deep (AG AF) .nil))))) (.same U)) (AH (by kernel_rfl) ((hA12 _ _ _).1 A12_01256ab)) rfl
    ·refine An.of (i:=12) rfl U (by rfl) ?_
     refine zz FY (BD A2 U U U U gc9) rfl (AA ⟨U,?_⟩)
     exact AD (by exact AB U) (AH (by kernel_rfl) ((hA12 _ _ _).1 A12_0125abc)) rfl)
   have A12_0125a:A12 13 (bm 18 1063) ⟨34,AM [(4,Ao),(18,B0),(21,Fj),(26,Fj)],(Gy s0 c8 c9 p0_0 p0_1)⟩:=(hA12 _ _ _).2 (by
    refine AU [3,6,11] U (by kernel_rfl) (by decide) ⟨?_,?_,?_,trivial⟩
    ·refine An.of (i:=3) rfl U (by rfl) ?_
     refine zq tb U (AA ⟨U,?_⟩)
     exact AD (by exact AB U) (AH (by kernel_rfl) ((hA12 _ _ _).1 A12_01235a)) rfl
    ·refine An.of (i:=6) rfl U (by rfl) ?_
     refine zq tb U (AA ⟨U,?_⟩)
     exact AD (by exact AB U) (AH (by kernel_rfl) ((hA12 _ _ _).1 A12_01256a)) rfl
    ·refine An.of (i:=11) rfl U (by rfl) ?_
     refine zq tb U (AA ⟨U,?_⟩)
     exact AD (by exact AB U) (AH (by kernel_rfl) ((hA12 _ _ _).1 A12_0125ab)) rfl)
   have A12_0156789abcdef:A12 5 (bm 18 65507) ⟨34,AM [(4,Ao),(17,(ow 2 0 s0)),(31,(ow 3 1 l10))],(SB s0 c8 c9 l10)⟩:=(hA12 _ _ _).2 (by
    refine AU [2] U (by kernel_rfl) (by decide) ⟨?_,trivial⟩
    ·refine An.of (i:=2) rfl U (by rfl) ?_
     refine zz B0 (BD A2 U U U U gc8) rfl (AA ⟨U,?_⟩)
     exact AD (by exact AB U) (AH (by kernel_rfl) ((hA12 _ _ _).1 A12_01256789abcdef)) rfl)
   have A12_0156789abcde:A12 6 (bm 18 32739) ⟨34,AM [(4,Ao),(17,(ow 2 0 s0)),(25,(Fs c8)),(30,(.own 5 0 1))],(JJ s0 c8 c9)⟩:=(hA12 _ _ _).2 (by
    refine AU [2,15] U (by kernel_rfl) (by decide) ⟨?_,?_,trivial⟩
    ·refine An.of (i:=2) rfl U (by rfl) ?_
     refine zz B0 (BD A2 U U U U gc8) rfl (AA ⟨U,?_⟩)
     exact AD (by exact AB U) (AH (by kernel_rfl) ((hA12 _ _ _).1 A12_01256789abcde)) rfl
    ·refine An.of (i:=15) rfl U (by rfl) ?_
     have g13:=Js gl10
     refine Lt (st':=[B6,E3,(KJ s0 c8 c9),⟨1,44,3,hole l10 (Ay 44) (Sh.len c8.kids) (Hu c9)⟩,(BP c9),(MD c9)]) (c:=c9) Aj A2 U U U U U U U gl10 U ?_
     refine Al (Wk.take (id:=3) (m:=4) (j:=2) (i:=Sh.len c8.kids) (c:=c9) (ys:=c9.kids) (encY:=(Ay 44)) rfl g13 U U U (by decide) (show 1≤4 by decide) Co U U) ?_
     refine Al (Ev (id:=3) (i:=Sh.len c8.kids) (c:=c9) rfl g13 (Bp c9).symm U) (AA ⟨U,?_⟩)
     exact AD (by exact Au (L:=[(4,Ao),(17,(ow 2 0 s0)),(31,(ow 3 1 l10))]) (st':=(SB s0 c8 c9 l10)) (st1:=(SB s0 c8 c9 l10)) [0,1,2,3,4] U (by decide) rfl U (.pure (by intro x hx;cases hx) (.raw U U (.hh (AG AF) (A1 Ap) rfl U U U (.deep (AG AF) (.pure (by intro x hx;cases hx) .nil))))) (.same U)) (AH (by kernel_rfl) ((hA12 _ _ _).1 A12_0156789abcdef)) rfl)
   have A12_0156789abcd:A12 7 (bm 18 16355) ⟨34,AM [(4,Ao),(17,(ow 2 0 s0)),(25,(Fs c8)),(29,(Es c9))],(B5 s0 c8 c9)⟩:=(hA12 _ _ _).2 (by
    refine AU [2,14] U (by kernel_rfl) (by decide) ⟨?_,?_,trivial⟩
    ·refine An.of (i:=2) rfl U (by rfl) ?_
     refine zz B0 (BD A2 U U U U gc8) rfl (AA ⟨U,?_⟩)
     exact AD (by exact AB U) (AH (by kernel_rfl) ((hA12 _ _ _).1 A12_01256789abcd)) rfl
    ·refine An.of (i:=14) rfl U (by rfl) ?_
     refine Bb (m:=5) (l:=[()]) (enc:=fun _=>(Hu c9)) Aj A2 (by decide) rfl U U U U U ?_
     refine AA ⟨U,?_⟩
     exact AD (by exact AB U) (AH (by kernel_rfl) ((hA12 _ _ _).1 A12_0156789abcde)) rfl)
   have A12_0156789abc:A12 8 (bm 18 8163) ⟨34,AM [(4,Ao),(17,(ow 2 0 s0)),(25,(Fs c8)),(28,FY)],(B5 s0 c8 c9)⟩:=(hA12 _ _ _).2 (by
    refine AU [2,13] U (by kernel_rfl) (by decide) ⟨?_,?_,trivial⟩
    ·refine An.of (i:=2) rfl U (by rfl) ?_
     refine zz B0 (BD A2 U U U U gc8) rfl (AA ⟨U,?_⟩)
     exact AD (by exact AB U) (AH (by kernel_rfl) ((hA12 _ _ _).1 A12_01256789abc)) rfl
    ·refine An.of (i:=13) rfl U (by rfl) ?_
     refine zz (Es c9) (A8 Bz U U (Bt gc9) (show 0+3≤3 by decide) rfl) rfl (AA ⟨U,?_⟩)
     exact AD (by exact AB U) (AH (by kernel_rfl) ((hA12 _ _ _).1 A12_0156789abcd)) rfl)
   have A12_0156789ab:A12 9 (bm 18 4067) ⟨34,AM [(4,Ao),(17,(ow 2 0 s0)),(25,(Fs c8)),(27,(ow 2 0 s0))],(B5 s0 c8 c9)⟩:=(hA12 _ _ _).2 (by
    refine AU [2,12] U (by kernel_rfl) (by decide) ⟨?_,?_,trivial⟩
    ·refine An.of (i:=2) rfl U (by rfl) ?_
     refine zz B0 (BD A2 U U U U gc8) rfl (AA ⟨U,?_⟩)
     exact AD (by exact AB U) (AH (by kernel_rfl) ((hA12 _ _ _).1 A12_01256789ab)) rfl
    ·refine An.of (i:=12) rfl U (by rfl) ?_
     refine zz FY (BD A2 U U U U gc9) rfl (AA ⟨U,?_⟩)
     exact AD (by exact AB U) (AH (by kernel_rfl) ((hA12 _ _ _).1 A12_0156789abc)) rfl)
   have A12_0156789a:A12 10 (bm 18 2019) ⟨34,AM [(4,Ao),(17,(ow 2 0 s0)),(25,(Fs c8)),(26,Fj)],(Gy s0 c8 c9 p0_0 p0_1)⟩:=(hA12 _ _ _).2 (by
    refine AU [2,11] U (by kernel_rfl) (by decide) ⟨?_,?_,trivial⟩
    ·refine An.of (i:=2) rfl U (by rfl) ?_
     refine zz B0 (BD A2 U U U U gc8) rfl (AA ⟨U,?_⟩)
     exact AD (by exact AB U) (AH (by kernel_rfl) ((hA12 _ _ _).1 A12_01256789a)) rfl
    ·refine An.of (i:=11) rfl U (by rfl) ?_
     refine zq tb U (AA ⟨U,?_⟩)
     exact AD (by exact Au (L:=[(4,Ao),(17,(ow 2 0 s0)),(25,(Fs c8)),(27,(ow 2 0 s0))]) (st':=(B5 s0 c8 c9)) (st1:=(B5 s0 c8 c9)) [0,1,2,3,4] U (by decide) rfl U (.pure (by intro x hx;cases hx) (.raw U U (.hh (AG AF) (A1 Ap) rfl U U U (.deep (AG AF) (.deep (AG AF) .nil))))) (.same U)) (AH (by kernel_rfl) ((hA12 _ _ _).1 A12_0156789ab)) rfl)
   have A12_015678abcde:A12 7 (bm 18 32227) ⟨34,AM [(4,Ao),(17,(ow 2 0 s0)),(24,IZ),(30,(.own 5 0 1))],(JJ s0 c8 c9)⟩:=(hA12 _ _ _).2 (by
    refine AU [2,9] U (by kernel_rfl) (by decide) ⟨?_,?_,trivial⟩
    ·refine An.of (i:=2) rfl U (by rfl) ?_
     refine zz B0 (BD A2 U U U U gc8) rfl (AA ⟨U,?_⟩)
     exact AD (by exact AB U) (AH (by kernel_rfl) ((hA12 _ _ _).1 A12_0125678abcde)) rfl
    ·refine An.of (i:=9) rfl U (by rfl) ?_
     refine zz (Fs c8) (BG Ez U U (A9 (by decide) gc8) rfl) rfl ?_
     refine AA ⟨U,?_⟩
     exact AD (by exact AB U) (AH (by kernel_rfl) ((hA12 _ _ _).1 A12_0156789abcde)) rfl)
   have A12_015678abcd:A12 8 (bm 18 15843) ⟨34,AM [(4,Ao),(17,(ow 2 0 s0)),(24,IZ),(29,(Es c9))],(B5 s0 c8 c9)⟩:=(hA12 _ _ _).2 (by
    refine AU [2,9,14] U (by kernel_rfl) (by decide) ⟨?_,?_,?_,trivial⟩
    ·refine An.of (i:=2) rfl U (by rfl) ?_
     refine zz B0 (BD A2 U U U U gc8) rfl (AA ⟨U,?_⟩)
     exact AD (by exact AB U) (AH (by kernel_rfl) ((hA12 _ _ _).1 A12_0125678abcd)) rfl
    ·refine An.of (i:=9) rfl U (by rfl) ?_
     refine zz (Fs c8) (BG Ez U U (A9 (by decide) gc8) rfl) rfl ?_
     refine AA ⟨U,?_⟩
     exact AD (by exact AB U) (AH (by kernel_rfl) ((hA12 _ _ _).1 A12_0156789abcd)) rfl
    ·refine An.of (i:=14) rfl U (by rfl) ?_
     refine Bb (m:=5) (l:=[()]) (enc:=fun _=>(Hu c9)) Aj A2 (by decide) rfl U U U U U ?_
     refine AA ⟨U,?_⟩
     exact AD (by exact AB U) (AH (by kernel_rfl) ((hA12 _ _ _).1 A12_015678abcde)) rfl)
   have A12_015678abc:A12 9 (bm 18 7651) ⟨34,AM [(4,Ao),(17,(ow 2 0 s0)),(24,IZ),(28,FY)],(B5 s0 c8 c9)⟩:=(hA12 _ _ _).2 (by
    refine AU [2,9,13] U (by kernel_rfl) (by decide) ⟨?_,?_,?_,trivial⟩
    ·refine An.of (i:=2) rfl U (by rfl) ?_
     refine zz B0 (BD A2 U U U U gc8) rfl (AA ⟨U,?_⟩)
     exact AD (by exact AB U) (AH (by kernel_rfl) ((hA12 _ _ _).1 A12_0125678abc)) rfl
    ·refine An.of (i:=9) rfl U (by rfl) ?_
     refine zz (Fs c8) (BG Ez U U (A9 (by decide) gc8) rfl) rfl ?_
     refine AA ⟨U,?_⟩
     exact AD (by exact AB U) (AH (by kernel_rfl) ((hA12 _ _ _).1 A12_0156789abc)) rfl
    ·refine An.of (i:=13) rfl U (by rfl) ?_
     refine zz (Es c9) (A8 Bz U U (Bt gc9) (show 0+3≤3 by decide) rfl) rfl (AA ⟨U,?_⟩)
     exact AD (by exact AB U) (AH (by kernel_rfl) ((hA12 _ _ _).1 A12_015678abcd)) rfl)
   have A12_015678ab:A12 10 (bm 18 3555) ⟨34,AM [(4,Ao),(17,(ow 2 0 s0)),(24,IZ),(27,(ow 2 0 s0))],(B5 s0 c8 c9)⟩:=(hA12 _ _ _).2 (by
    refine AU [2,9,12] U (by kernel_rfl) (by decide) ⟨?_,?_,?_,trivial⟩
    ·refine An.of (i:=2) rfl U (by rfl) ?_
     refine zz B0 (BD A2 U U U U gc8) rfl (AA ⟨U,?_⟩)
     exact AD (by exact AB U) (AH (by kernel_rfl) ((hA12 _ _ _).1 A12_0125678ab)) rfl
    ·refine An.of (i:=9) rfl U (by rfl) ?_
     refine zz (Fs c8) (BG Ez U U (A9 (by decide) gc8) rfl) rfl ?_
     refine AA ⟨U,?_⟩
     exact AD (by exact AB U) (AH (by kernel_rfl) ((hA12 _ _ _).1 A12_0156789ab)) rfl
    ·refine An.of (i:=12) rfl U (by rfl) ?_
     refine zz FY (BD A2 U U U U gc9) rfl (AA ⟨U,?_⟩)
     exact AD (by exact AB U) (AH (by kernel_rfl) ((hA12 _ _ _).1 A12_015678abc)) rfl)
   have A12_015678a:A12 11 (bm 18 1507) ⟨34,AM [(4,Ao),(17,(ow 2 0 s0)),(24,IZ),(26,Fj)],(Gy s0 c8 c9 p0_0 p0_1)⟩:=(hA12 _ _ _).2 (by
    refine AU [2,9,11] U (by kernel_rfl) (by decide) ⟨?_,?_,?_,trivial⟩
    ·refine An.of (i:=2) rfl U (by rfl) ?_
     refine zz B0 (BD A2 U U U U gc8) rfl (AA ⟨U,?_⟩)
     exact AD (by exact AB U) (AH (by kernel_rfl) ((hA12 _ _ _).1 A12_0125678a)) rfl
    ·refine An.of (i:=9) rfl U (by rfl) ?_
     refine zz (Fs c8) (BG Ez U U (A9 (by decide) gc8) rfl) rfl ?_
     refine AA ⟨U,?_⟩
     exact AD (by exact AB U) (AH (by kernel_rfl) ((hA12 _ _ _).1 A12_0156789a)) rfl
    ·refine An.of (i:=11) rfl U (by rfl) ?_
     refine zq tb U (AA ⟨U,?_⟩)
     exact AD (by exact Au (L:=[(4,Ao),(17,(ow 2 0 s0)),(24,IZ),(27,(ow 2 0 s0))]) (st':=(B5 s0 c8 c9)) (st1:=(B5 s0 c8 c9)) [0,1,2,3,4] U (by decide) rfl U (.pure (by intro x hx;cases hx) (.raw U U (.hh (AG AF) (A1 Ap) rfl U U U (.deep (AG AF) (.deep (AG AF) .nil))))) (.same U)) (AH (by kernel_rfl) ((hA12 _ _ _).1 A12_015678ab)) rfl)
   have A12_01567abcde:A12 8 (bm 18 31971) ⟨34,AM [(4,Ao),(17,(ow 2 0 s0)),(23,B0),(30,(.own 5 0 1))],(JJ s0 c8 c9)⟩:=(hA12 _ _ _).2 (by
    refine AU [2,8] U (by kernel_rfl) (by decide) ⟨?_,?_,trivial⟩
    ·refine An.of (i:=2) rfl U (by rfl) ?_
     refine zz B0 (BD A2 U U U U gc8) rfl (AA ⟨U,?_⟩)
     exact AD (by exact AB U) (AH (by kernel_rfl) ((hA12 _ _ _).1 A12_012567abcde)) rfl
    ·refine An.of (i:=8) rfl U (by rfl) ?_
     refine zq tb U (AA ⟨U,?_⟩)
     exact AD (by exact AB U) (AH (by kernel_rfl) ((hA12 _ _ _).1 A12_015678abcde)) rfl)
   have A12_01567abcd:A12 9 (bm 18 15587) ⟨34,AM [(4,Ao),(17,(ow 2 0 s0)),(23,B0),(29,(Es c9))],(B5 s0 c8 c9)⟩:=(hA12 _ _ _).2 (by
    refine AU [2,8,14] U (by kernel_rfl) (by decide) ⟨?_,?_,?_,trivial⟩
    ·refine An.of (i:=2) rfl U (by rfl) ?_
     refine zz B0 (BD A2 U U U U gc8) rfl (AA ⟨U,?_⟩)
     exact AD (by exact AB U) (AH (by kernel_rfl) ((hA12 _ _ _).1 A12_012567abcd)) rfl
    ·refine An.of (i:=8) rfl U (by rfl) ?_
     refine zq tb U (AA ⟨U,?_⟩)
     exact AD (by exact AB U) (AH (by kernel_rfl) ((hA12 _ _ _).1 A12_015678abcd)) rfl
    ·refine An.of (i:=14) rfl U (by rfl) ?_
     refine Bb (m:=5) (l:=[()]) (enc:=fun _=>(Hu c9)) Aj A2 (by decide) rfl U U U U U ?_
     refine AA ⟨U,?_⟩
     exact AD (by exact AB U) (AH (by kernel_rfl) ((hA12 _ _ _).1 A12_01567abcde)) rfl)
   have A12_01567abc:A12 10 (bm 18 7395) ⟨34,AM [(4,Ao),(17,(ow 2 0 s0)),(23,B0),(28,FY)],(B5 s0 c8 c9)⟩:=(hA12 _ _ _).2 (by
    refine AU [2,8,13] U (by kernel_rfl) (by decide) ⟨?_,?_,?_,trivial⟩
    ·refine An.of (i:=2) rfl U (by rfl) ?_
     refine zz B0 (BD A2 U U U U gc8) rfl (AA ⟨U,?_⟩)
     exact AD (by exact AB U) (AH (by kernel_rfl) ((hA12 _ _ _).1 A12_012567abc)) rfl
    ·refine An.of (i:=8) rfl U (by rfl) ?_
     refine zq tb U (AA ⟨U,?_⟩)
     exact AD (by exact AB U) (AH (by kernel_rfl) ((hA12 _ _ _).1 A12_015678abc)) rfl
    ·refine An.of (i:=13) rfl U (by rfl) ?_
     refine zz (Es c9) (A8 Bz U U (Bt gc9) (show 0+3≤3 by decide) rfl) rfl (AA ⟨U,?_⟩)
     exact AD (by exact AB U) (AH (by kernel_rfl) ((hA12 _ _ _).1 A12_01567abcd)) rfl)
   have A12_01567ab:A12 11 (bm 18 3299) ⟨34,AM [(4,Ao),(17,(ow 2 0 s0)),(23,B0),(27,(ow 2 0 s0))],(B5 s0 c8 c9)⟩:=(hA12 _ _ _).2 (by
    refine AU [2,8,12] U (by kernel_rfl) (by decide) ⟨?_,?_,?_,trivial⟩
    ·refine An.of (i:=2) rfl U (by rfl) ?_
     refine zz B0 (BD A2 U U U U gc8) rfl (AA ⟨U,?_⟩)
     exact AD (by exact AB U) (AH (by kernel_rfl) ((hA12 _ _ _).1 A12_012567ab)) rfl
    ·refine An.of (i:=8) rfl U (by rfl) ?_
     refine zq tb U (AA ⟨U,?_⟩)
     exact AD (by exact AB U) (AH (by kernel_rfl) ((hA12 _ _ _).1 A12_015678ab)) rfl
    ·refine An.of (i:=12) rfl U (by rfl) ?_
     refine zz FY (BD A2 U U U U gc9) rfl (AA ⟨U,?_⟩)
     exact AD (by exact AB U) (AH (by kernel_rfl) ((hA12 _ _ _).1 A12_01567abc)) rfl)
   have A12_01567a:A12 12 (bm 18 1251) ⟨34,AM [(4,Ao),(17,(ow 2 0 s0)),(23,B0),(26,Fj)],(Gy s0 c8 c9 p0_0 p0_1)⟩:=(hA12 _ _ _).2 (by
    refine AU [2,8,11] U (by kernel_rfl) (by decide) ⟨?_,?_,?_,trivial⟩
    ·refine An.of (i:=2) rfl U (by rfl) ?_
     refine zz B0 (BD A2 U U U U gc8) rfl (AA ⟨U,?_⟩)
     exact AD (by exact AB U) (AH (by kernel_rfl) ((hA12 _ _ _).1 A12_012567a)) rfl
    ·refine An.of (i:=8) rfl U (by rfl) ?_
     refine zq tb U (AA ⟨U,?_⟩)
     exact AD (by exact AB U) (AH (by kernel_rfl) ((hA12 _ _ _).1 A12_015678a)) rfl
    ·refine An.of (i:=11) rfl U (by rfl) ?_
     refine zq tb U (AA ⟨U,?_⟩)
     exact AD (by exact Au (L:=[(4,Ao),(17,(ow 2 0 s0)),(23,B0),(27,(ow 2 0 s0))]) (st':=(B5 s0 c8 c9)) (st1:=(B5 s0 c8 c9)) [0,1,2,3,4] U (by decide) rfl U (.pure (by intro x hx;cases hx) (.raw U U (.hh (AG AF) (A1 Ap) rfl U U U (.deep (AG AF) (.deep (AG AF) .nil))))) (.same U)) (AH (by kernel_rfl) ((hA12 _ _ _).1 A12_01567ab)) rfl)
   have A12_0156abcde:A12 9 (bm 18 31843) ⟨34,AM [(4,Ao),(17,(ow 2 0 s0)),(22,(ow 2 0 s0)),(30,(.own 5 0 1))],(JJ s0 c8 c9)⟩:=(hA12 _ _ _).2 (by
    refine AU [2,7] U (by kernel_rfl) (by decide) ⟨?_,?_,trivial⟩
    ·refine An.of (i:=2) rfl U (by rfl) ?_
     refine zz B0 (BD A2 U U U U gc8) rfl (AA ⟨U,?_⟩)
     exact AD (by exact AB U) (AH (by kernel_rfl) ((hA12 _ _ _).1 A12_01256abcde)) rfl
    ·refine An.of (i:=7) rfl U (by rfl) ?_
     refine zz B0 (BD A2 U U U U gc8) rfl (AA ⟨U,?_⟩)
     exact AD (by exact AB U) (AH (by kernel_rfl) ((hA12 _ _ _).1 A12_01567abcde)) rfl)
   have A12_0156abcd:A12 10 (bm 18 15459) ⟨34,AM [(4,Ao),(17,(ow 2 0 s0)),(22,(ow 2 0 s0)),(29,(Es c9))],(B5 s0 c8 c9)⟩:=(hA12 _ _ _).2 (by
    refine AU [2,7,14] U (by kernel_rfl) (by decide) ⟨?_,?_,?_,trivial⟩
    ·refine An.of (i:=2) rfl U (by rfl) ?_
     refine zz B0 (BD A2 U U U U gc8) rfl (AA ⟨U,?_⟩)
     exact AD (by exact AB U) (AH (by kernel_rfl) ((hA12 _ _ _).1 A12_01256abcd)) rfl
    ·refine An.of (i:=7) rfl U (by rfl) ?_
     refine zz B0 (BD A2 U U U U gc8) rfl (AA ⟨U,?_⟩)
     exact AD (by exact AB U) (AH (by kernel_rfl) ((hA12 _ _ _).1 A12_01567abcd)) rfl
    ·refine An.of (i:=14) rfl U (by rfl) ?_
     refine Bb (m:=5) (l:=[()]) (enc:=fun _=>(Hu c9)) Aj A2 (by decide) rfl U U U U U ?_
     refine AA ⟨U,?_⟩
     exact AD (by exact AB U) (AH (by kernel_rfl) ((hA12 _ _ _).1 A12_0156abcde)) rfl)
   have A12_0156abc:A12 11 (bm 18 7267) ⟨34,AM [(4,Ao),(17,(ow 2 0 s0)),(22,(ow 2 0 s0)),(28,FY)],(B5 s0 c8 c9)⟩:=(hA12 _ _ _).2 (by
    refine AU [2,7,13] U (by kernel_rfl) (by decide) ⟨?_,?_,?_,trivial⟩
    ·refine An.of (i:=2) rfl U (by rfl) ?_
     refine zz B0 (BD A2 U U U U gc8) rfl (AA ⟨U,?_⟩)
     exact AD (by exact AB U) (AH (by kernel_rfl) ((hA12 _ _ _).1 A12_01256abc)) rfl
    ·refine An.of (i:=7) rfl U (by rfl) ?_
     refine zz B0 (BD A2 U U U U gc8) rfl (AA ⟨U,?_⟩)
     exact AD (by exact AB U) (AH (by kernel_rfl) ((hA12 _ _ _).1 A12_01567abc)) rfl
    ·refine An.of (i:=13) rfl U (by rfl) ?_
     refine zz (Es c9) (A8 Bz U U (Bt gc9) (show 0+3≤3 by decide) rfl) rfl (AA ⟨U,?_⟩)
     exact AD (by exact AB U) (AH (by kernel_rfl) ((hA12 _ _ _).1 A12_0156abcd)) rfl)
   have A12_0156ab:A12 12 (bm 18 3171) ⟨34,AM [(4,Ao),(17,(ow 2 0 s0)),(22,(ow 2 0 s0)),(27,(ow 2 0 s0))],(B5 s0 c8 c9)⟩:=(hA12 _ _ _).2 (by
    refine AU [2,7,12] U (by kernel_rfl) (by decide) ⟨?_,?_,?_,trivial⟩
    ·refine An.of (i:=2) rfl U (by rfl) ?_
     refine zz B0 (BD A2 U U U U gc8) rfl (AA ⟨U,?_⟩)
     exact AD (by exact AB U) (AH (by kernel_rfl) ((hA12 _ _ _).1 A12_01256ab)) rfl
    ·refine An.of (i:=7) rfl U (by rfl) ?_
     refine zz B0 (BD A2 U U U U gc8) rfl (AA ⟨U,?_⟩)
     exact AD (by exact AB U) (AH (by kernel_rfl) ((hA12 _ _ _).1 A12_01567ab)) rfl
    ·refine An.of (i:=12) rfl U (by rfl) ?_
     refine zz FY (BD A2 U U U U gc9) rfl (AA ⟨U,?_⟩)
     exact AD (by exact AB U) (AH (by kernel_rfl) ((hA12 _ _ _).1 A12_0156abc)) rfl)
   have A12_0156a:A12 13 (bm 18 1123) ⟨34,AM [(4,Ao),(17,(ow 2 0 s0)),(22,(ow 2 0 s0)),(26,Fj)],(Gy s0 c8 c9 p0_0 p0_1)⟩:=(hA12 _ _ _).2 (by
    refine AU [2,7,11] U (by kernel_rfl) (by decide) ⟨?_,?_,?_,trivial⟩
    ·refine An.of (i:=2) rfl U (by rfl) ?_
     refine zz B0 (BD A2 U U U U gc8) rfl (AA ⟨U,?_⟩)
     exact AD (by exact AB U) (AH (by kernel_rfl) ((hA12 _ _ _).1 A12_01256a)) rfl
    ·refine An.of (i:=7) rfl U (by rfl) ?_
     refine zz B0 (BD A2 U U U U gc8) rfl (AA ⟨U,?_⟩)
     exact AD (by exact AB U) (AH (by kernel_rfl) ((hA12 _ _ _).1 A12_01567a)) rfl
    ·refine An.of (i:=11) rfl U (by rfl) ?_
     refine zq tb U (AA ⟨U,?_⟩)
     exact AD (by exact Au (L:=[(4,Ao),(17,(ow 2 0 s0)),(22,(ow 2 0 s0)),(27,(ow 2 0 s0))]) (st':=(B5 s0 c8 c9)) (st1:=(B5 s0 c8 c9)) [0,1,2,3,4] U (by decide) rfl U (.pure (by intro x hx;cases hx) (.raw U U (.hh (AG AF) (A1 Ap) rfl U U U (.deep (AG AF) (.deep (AG AF) .nil))))) (.same U)) (AH (by kernel_rfl) ((hA12 _ _ _).1 A12_0156ab)) rfl)
   have A12_015abcde:A12 10 (bm 18 31779) ⟨34,AM [(4,Ao),(17,(ow 2 0 s0)),(21,Fj),(30,(.own 6 0 1))],[B6,E3,(KJ s0 c8 c9),(BP c8),(BP c9),(Rz p0_0 p0_1 s0),(MD c9)]⟩:=(hA12 _ _ _).2 (by
    refine AU [2,6] U (by kernel_rfl) (by decide) ⟨?_,?_,trivial⟩
    ·refine An.of (i:=2) rfl U (by rfl) ?_
     refine zz B0 (BD A2 U U U U gc8) rfl (AA ⟨U,?_⟩)
     exact AD (by exact AB U) (AH (by kernel_rfl) ((hA12 _ _ _).1 A12_0125abcde)) rfl
    ·refine An.of (i:=6) rfl U (by rfl) ?_
     refine zq tb U (AA ⟨U,?_⟩)
     exact AD (by exact Au (L:=[(4,Ao),(17,(ow 2 0 s0)),(22,(ow 2 0 s0)),(30,(.own 5 0 1))]) (st':=(JJ s0 c8 c9)) (st1:=(JJ s0 c8 c9)) [0,1,2,3,4,6] U (by decide) rfl U (.pure (by intro x hx;cases hx) (.raw U U (.hh (AG AF) (A1 Ap) rfl U U U (.deep (AG AF) (.deep (AG AF) (.raw U U .nil)))))) (.same U)) (AH (by kernel_rfl) ((hA12 _ _ _).1 A12_0156abcde)) rfl)
   have A12_015abcd:A12 11 (bm 18 15395) ⟨34,AM [(4,Ao),(17,(ow 2 0 s0)),(21,Fj),(29,(Es c9))],(Gy s0 c8 c9 p0_0 p0_1)⟩:=(hA12 _ _ _).2 (by
    refine AU [2,6,14] U (by kernel_rfl) (by decide) ⟨?_,?_,?_,trivial⟩
    ·refine An.of (i:=2) rfl U (by rfl) ?_
     refine zz B0 (BD A2 U U U U gc8) rfl (AA ⟨U,?_⟩)
     exact AD (by exact AB U) (AH (by kernel_rfl) ((hA12 _ _ _).1 A12_0125abcd)) rfl
    ·refine An.of (i:=6) rfl U (by rfl) ?_
     refine zq tb U (AA ⟨U,?_⟩)
     exact AD (by exact Au (L:=[(4,Ao),(17,(ow 2 0 s0)),(22,(ow 2 0 s0)),(29,(Es c9))]) (st':=(B5 s0 c8 c9)) (st1:=(B5 s0 c8 c9)) [0,1,2,3,4] U (by decide) rfl U (.pure (by intro x hx;cases hx) (.raw U U (.hh (AG AF) (A1 Ap) rfl U U U (.deep (AG AF) (.deep (AG AF) .nil))))) (.same U)) (AH (by kernel_rfl) ((hA12 _ _ _).1 A12_0156abcd)) rfl
    ·refine An.of (i:=14) rfl U (by rfl) ?_
     refine Bb (m:=6) (l:=[()]) (enc:=fun _=>(Hu c9)) Aj A2 (by decide) rfl U U U U U ?_
     refine AA ⟨U,?_⟩
     exact AD (by exact AB U) (AH (by kernel_rfl) ((hA12 _ _ _).1 A12_015abcde)) rfl)
   have A12_015abc:A12 12 (bm 18 7203) ⟨34,AM [(4,Ao),(17,(ow 2 0 s0)),(21,Fj),(28,FY)],(Gy s0 c8 c9 p0_0 p0_1)⟩:=(hA12 _ _ _).2 (by
    refine AU [2,6,13] U (by kernel_rfl) (by decide) ⟨?_,?_,?_,trivial⟩
    ·refine An.of (i:=2) rfl U (by rfl) ?_
     refine zz B0 (BD A2 U U U U gc8) rfl (AA ⟨U,?_⟩)
     exact AD (by exact AB U) (AH (by kernel_rfl) ((hA12 _ _ _).1 A12_0125abc)) rfl
    ·refine An.of (i:=6) rfl U (by rfl) ?_
     refine zq tb U (AA ⟨U,?_⟩)
     exact AD (by exact Au (L:=[(4,Ao),(17,(ow 2 0 s0)),(22,(ow 2 0 s0)),(28,FY)]) (st':=(B5 s0 c8 c9)) (st1:=(B5 s0 c8 c9)) [0,1,2,3,4] U (by decide) rfl U (.pure (by intro x hx;cases hx) (.raw U U (.hh (AG AF) (A1 Ap) rfl U U U (.deep (AG AF) (.deep (AG AF) .nil))))) (.same U)) (AH (by kernel_rfl) ((hA12 _ _ _).1 A12_0156abc)) rfl
    ·refine An.of (i:=13) rfl U (by rfl) ?_
     refine zz (Es c9) (A8 Bz U U (Bt gc9) (show 0+3≤3 by decide) rfl) rfl (AA ⟨U,?_⟩)
     exact AD (by exact AB U) (AH (by kernel_rfl) ((hA12 _ _ _).1 A12_015abcd)) rfl)
   have A12_015ab:A12 13 (bm 18 3107) ⟨34,AM [(4,Ao),(17,(ow 2 0 s0)),(21,Fj),(27,(ow 2 0 s0))],(Gy s0 c8 c9 p0_0 p0_1)⟩:=(hA12 _ _ _).2 (by
    refine AU [2,6,12] U (by kernel_rfl) (by decide) ⟨?_,?_,?_,trivial⟩
    ·refine An.of (i:=2) rfl U (by rfl) ?_
     refine zz B0 (BD A2 U U U U gc8) rfl (AA ⟨U,?_⟩)
     exact AD (by exact AB U) (AH (by kernel_rfl) ((hA12 _ _ _).1 A12_0125ab)) rfl
    ·refine An.of (i:=6) rfl U (by rfl) ?_
     refine zq tb U (AA ⟨U,?_⟩)
     exact AD (by exact Au (L:=[(4,Ao),(17,(ow 2 0 s0)),(22,(ow 2 0 s0)),(27,(ow 2 0 s0))]) (st':=(B5 s0 c8 c9)) (st1:=(B5 s0 c8 c9)) [0,1,2,3,4] U (by decide) rfl U (.pure (by intro x hx;cases hx) (.raw U U (.hh (AG AF) (A1 Ap) rfl U U U (.deep (AG AF) (.deep (AG AF) .nil))))) (.same U)) (AH (by kernel_rfl) ((hA12 _ _ _).1 A12_0156ab)) rfl
    ·refine An.of (i:=12) rfl U (by rfl) ?_
     refine zz FY (BD A2 U U U U gc9) rfl (AA ⟨U,?_⟩)
     exact AD (by exact AB U) (AH (by kernel_rfl) ((hA12 _ _ _).1 A12_015abc)) rfl)
   have A12_015a:A12 14 (bm 18 1059) ⟨34,AM [(4,Ao),(17,(ow 2 0 s0)),(21,Fj),(26,Fj)],(Gy s0 c8 c9 p0_0 p0_1)⟩:=(hA12 _ _ _).2 (by
    refine AU [2,6,11] U (by kernel_rfl) (by decide) ⟨?_,?_,?_,trivial⟩
    ·refine An.of (i:=2) rfl U (by rfl) ?_
     refine zz B0 (BD A2 U U U U gc8) rfl (AA ⟨U,?_⟩)
     exact AD (by exact AB U) (AH (by kernel_rfl) ((hA12 _ _ _).1 A12_0125a)) rfl
    ·refine An.of (i:=6) rfl U (by rfl) ?_
     refine zq tb U (AA ⟨U,?_⟩)
     exact AD (by exact AB U) (AH (by kernel_rfl) ((hA12 _ _ _).1 A12_0156a)) rfl
    ·refine An.of (i:=11) rfl U (by rfl) ?_
     refine zq tb U (AA ⟨U,?_⟩)
     exact AD (by exact AB U) (AH (by kernel_rfl) ((hA12 _ _ _).1 A12_015ab)) rfl)
   have A12_056789abcdef:A12 6 (bm 18 65505) ⟨34,AM [(4,Ao),(16,D9),(31,(ow 4 1 l10))],[B6,E3,(VN p0_0 p0_1 s0),(PO s0 c8 c9),(ro 1 44 3 (Ay 44) l10),B6]⟩:=(hA12 _ _ _).2 (by
    refine AU [1] U (by kernel_rfl) (by decide) ⟨?_,trivial⟩
    ·refine An.of (i:=1) rfl U (by rfl) ?_
     refine zq tb U (AA ⟨U,?_⟩)
     exact AD (by exact Au (L:=[(4,Ao),(17,(ow 2 0 s0)),(31,(ow 3 1 l10))]) (st':=(SB s0 c8 c9 l10)) (st1:=[B6,E3,(PO s0 c8 c9),(ro 1 44 3 (Ay 44) l10),B6]) [0,1,3,4,5] U (by decide) rfl U (.pure (by intro x hx;cases hx) (.raw U U (.hh (AG AF) (A1 Ap) rfl U U U (.deep (AG AF) (.pure (by intro x hx;cases hx) .nil))))) (.same U)) (AH (by kernel_rfl) ((hA12 _ _ _).1 A12_0156789abcdef)) rfl)
   have A12_056789abcde:A12 7 (bm 18 32737) ⟨34,AM [(4,Ao),(16,D9),(25,(ow 4 0 c8.kids)),(30,(.own 6 0 1))],(Uy p0_0 p0_1 s0 c8 c9)⟩:=(hA12 _ _ _).2 (by
    refine AU [1,15] U (by kernel_rfl) (by decide) ⟨?_,?_,trivial⟩
    ·refine An.of (i:=1) rfl U (by rfl) ?_
     refine zq tb U (AA ⟨U,?_⟩)
     exact AD (by exact Au (L:=[(4,Ao),(17,(ow 2 0 s0)),(25,(Fs c8)),(30,(.own 5 0 1))]) (st':=(JJ s0 c8 c9)) (st1:=(Xz s0 c8 c9)) [0,1,3,4,5,6] U (by decide) rfl U (.pure (by intro x hx;cases hx) (.raw U U (.hh (AG AF) (A1 Ap) rfl U U U (.deep (AG AF) (.deep (AG AF) (.raw U U .nil)))))) (.same U)) (AH (by kernel_rfl) ((hA12 _ _ _).1 A12_0156789abcde)) rfl
    ·refine An.of (i:=15) rfl U (by rfl) ?_
     have g13:=Js gl10
     refine Lt (st':=[B6,E3,(VN p0_0 p0_1 s0),(PO s0 c8 c9),⟨1,44,3,hole l10 (Ay 44) (Sh.len c8.kids) (Ht c9)⟩,(BP c9),⟨0,44,3,[(Ht c9)]⟩]) (c:=c9) Aj A2 U U U U U U U gl10 U ?_
     refine Al (Wk.take (id:=4) (m:=5) (j:=2) (i:=Sh.len c8.kids) (c:=c9) (ys:=c9.kids) (encY:=(Ay 44)) rfl g13 U U U (by decide) (show 1≤5 by decide) Co U U) ?_
     refine Al (Ev (id:=4) (i:=Sh.len c8.kids) (c:=c9) rfl g13 (Bp c9).symm U) (AA ⟨U,?_⟩)
     exact AD (by exact Au (L:=[(4,Ao),(16,D9),(31,(ow 4 1 l10))]) (st':=[B6,E3,(VN p0_0 p0_1 s0),(PO s0 c8 c9),(ro 1 44 3 (Ay 44) l10),B6]) (st1:=[B6,E3,(VN p0_0 p0_1 s0),(PO s0 c8 c9),(ro 1 44 3 (Ay 44) l10),B6]) [0,1,2,3,4,5] U (by decide) rfl U (.pure (by intro x hx;cases hx) (.raw U U (.raw U U (.hh (AG AF) (A1 Ap) rfl U U U (.deep (AG AF) (.pure (by intro x hx;cases hx) .nil)))))) (.same U)) (AH (by kernel_rfl) ((hA12 _ _ _).1 A12_056789abcdef)) rfl)
   have A12_056789abcd:A12 8 (bm 18 16353) ⟨34,AM [(4,Ao),(16,D9),(25,(ow 4 0 c8.kids)),(29,(.agg (Ht c9)))],(II p0_0 p0_1 s0 c8 c9)⟩:=(hA12 _ _ _).2 (by
    refine AU [1,14] U (by kernel_rfl) (by decide) ⟨?_,?_,trivial⟩
    ·refine An.of (i:=1) rfl U (by rfl) ?_
     refine zq tb U (AA ⟨U,?_⟩)
     exact AD (by exact Au (L:=[(4,Ao),(17,(ow 2 0 s0)),(25,(Fs c8)),(29,(Es c9))]) (st':=(B5 s0 c8 c9)) (st1:=(N2 s0 c8 c9)) [0,1,3,4,5] U (by decide) rfl U (.pure (by intro x hx;cases hx) (.raw U U (.hh (AG AF) (A1 Ap) rfl U U U (.deep (AG AF) (.deep (AG AF) .nil))))) (.same U)) (AH (by kernel_rfl) ((hA12 _ _ _).1 A12_0156789abcd)) rfl
    ·refine An.of (i:=14) rfl U (by rfl) ?_
     refine Bb (m:=6) (l:=[()]) (enc:=fun _=>(Ht c9)) Aj A2 (by decide) rfl U U U U U ?_
     refine AA ⟨U,?_⟩
     exact AD (by exact AB U) (AH (by kernel_rfl) ((hA12 _ _ _).1 A12_056789abcde)) rfl)
   have A12_056789abc:A12 9 (bm 18 8161) ⟨34,AM [(4,Ao),(16,D9),(25,(ow 4 0 c8.kids)),(28,Mk)],(II p0_0 p0_1 s0 c8 c9)⟩:=(hA12 _ _ _).2 (by
    refine AU [1,13] U (by kernel_rfl) (by decide) ⟨?_,?_,trivial⟩
    ·refine An.of (i:=1) rfl U (by rfl) ?_
     refine zq tb U (AA ⟨U,?_⟩)
     exact AD (by exact Au (L:=[(4,Ao),(17,(ow 2 0 s0)),(25,(Fs c8)),(28,FY)]) (st':=(B5 s0 c8 c9)) (st1:=(N2 s0 c8 c9)) [0,1,3,4,5] U (by decide) rfl U (.pure (by intro x hx;cases hx) (.raw U U (.hh (AG AF) (A1 Ap) rfl U U U (.deep (AG AF) (.deep (AG AF) .nil))))) (.same U)) (AH (by kernel_rfl) ((hA12 _ _ _).1 A12_0156789abc)) rfl
    ·refine An.of (i:=13) rfl U (by rfl) ?_
     refine zz (.agg (Ht c9)) (A8 Bz U U (Bt gc9) (show 0+3≤3 by decide) rfl) rfl (AA ⟨U,?_⟩)
     exact AD (by exact AB U) (AH (by kernel_rfl) ((hA12 _ _ _).1 A12_056789abcd)) rfl)
   have A12_056789ab:A12 10 (bm 18 4065) ⟨34,AM [(4,Ao),(16,D9),(25,(ow 4 0 c8.kids)),(27,(ow 3 0 s0))],(II p0_0 p0_1 s0 c8 c9)⟩:=(hA12 _ _ _).2 (by
    refine AU [1,12] U (by kernel_rfl) (by decide) ⟨?_,?_,trivial⟩
    ·refine An.of (i:=1) rfl U (by rfl) ?_
     refine zq tb U (AA ⟨U,?_⟩)
     exact AD (by exact Au (L:=[(4,Ao),(17,(ow 2 0 s0)),(25,(Fs c8)),(27,(ow 2 0 s0))]) (st':=(B5 s0 c8 c9)) (st1:=(N2 s0 c8 c9)) [0,1,3,4,5] U (by decide) rfl U (.pure (by intro x hx;cases hx) (.raw U U (.hh (AG AF) (A1 Ap) rfl U U U (.deep (AG AF) (.deep (AG AF) .nil))))) (.same U)) (AH (by kernel_rfl) ((hA12 _ _ _).1 A12_0156789ab)) rfl
    ·refine An.of (i:=12) rfl U (by rfl) ?_
     refine zz Mk (BD A2 U U U U gc9) rfl (AA ⟨U,?_⟩)
     exact AD (by exact AB U) (AH (by kernel_rfl) ((hA12 _ _ _).1 A12_056789abc)) rfl)
   have A12_056789a:A12 11 (bm 18 2017) ⟨34,AM [(4,Ao),(16,D9),(25,(ow 4 0 c8.kids)),(26,D9)],(II p0_0 p0_1 s0 c8 c9)⟩:=(hA12 _ _ _).2 (by
    refine AU [1,11] U (by kernel_rfl) (by decide) ⟨?_,?_,trivial⟩
    ·refine An.of (i:=1) rfl U (by rfl) ?_
     refine zq tb U (AA ⟨U,?_⟩)
     exact AD (by exact Au (L:=[(4,Ao),(17,(ow 2 0 s0)),(25,(Fs c8)),(26,Fj)]) (st':=(Gy s0 c8 c9 p0_0 p0_1)) (st1:=(Tq s0 c8 c9 p0_0 p0_1)) [0,1,3,4,5,2] U (by decide) rfl U (.pure (by intro x hx;cases hx) (.raw U U (.hh (AG AF) (A1 Ap) rfl U U U (.deep (AG AF) (.deep (AG AF) (.raw U U .nil)))))) (.same U)) (AH (by kernel_rfl) ((hA12 _ _ _).1 A12_0156789a)) rfl
    ·refine An.of (i:=11) rfl U (by rfl) ?_
     refine zq tb U (AA ⟨U,?_⟩)
     exact AD (by exact AB U) (AH (by kernel_rfl) ((hA12 _ _ _).1 A12_056789ab)) rfl)
   have A12_05678abcde:A12 8 (bm 18 32225) ⟨34,AM [(4,Ao),(16,D9),(24,(.ptr 3 0 (Int.toNat 0) 2)),(30,(.own 6 0 1))],(Uy p0_0 p0_1 s0 c8 c9)⟩:=(hA12 _ _ _).2 (by
    refine AU [1,9] U (by kernel_rfl) (by decide) ⟨?_,?_,trivial⟩
    ·refine An.of (i:=1) rfl U (by rfl) ?_
     refine zq tb U (AA ⟨U,?_⟩)
     exact AD (by exact Au (L:=[(4,Ao),(17,(ow 2 0 s0)),(24,IZ),(30,(.own 5 0 1))]) (st':=(JJ s0 c8 c9)) (st1:=(Xz s0 c8 c9)) [0,1,3,4,5,6] U (by decide) rfl U (.pure (by intro x hx;cases hx) (.raw U U (.hh (AG AF) (A1 Ap) rfl U U U (.deep (AG AF) (.deep (AG AF) (.raw U U .nil)))))) (.same U)) (AH (by kernel_rfl) ((hA12 _ _ _).1 A12_015678abcde)) rfl
    ·refine An.of (i:=9) rfl U (by rfl) ?_
     refine zz (ow 4 0 c8.kids) (BG Ez U U (A9 (by decide) gc8) rfl) rfl ?_
     refine AA ⟨U,?_⟩
     exact AD (by exact AB U) (AH (by kernel_rfl) ((hA12 _ _ _).1 A12_056789abcde)) rfl)
   have A12_05678abcd:A12 9 (bm 18 15841) ⟨34,AM [(4,Ao),(16,D9),(24,(.ptr 3 0 (Int.toNat 0) 2)),(29,(.agg (Ht c9)))],(II p0_0 p0_1 s0 c8 c9)⟩:=(hA12 _ _ _).2 (by
    refine AU [1,9,14] U (by kernel_rfl) (by decide) ⟨?_,?_,?_,trivial⟩
    ·refine An.of (i:=1) rfl U (by rfl) ?_
     refine zq tb U (AA ⟨U,?_⟩)
     exact AD (by exact Au (L:=[(4,Ao),(17,(ow 2 0 s0)),(24,IZ),(29,(Es c9))]) (st':=(B5 s0 c8 c9)) (st1:=(N2 s0 c8 c9)) [0,1,3,4,5] U (by decide) rfl U (.pure (by intro x hx;cases hx) (.raw U U (.hh (AG AF) (A1 Ap) rfl U U U (.deep (AG AF) (.deep (AG AF) .nil))))) (.same U)) (AH (by kernel_rfl) ((hA12 _ _ _).1 A12_015678abcd)) rfl
    ·refine An.of (i:=9) rfl U (by rfl) ?_
     refine zz (ow 4 0 c8.kids) (BG Ez U U (A9 (by decide) gc8) rfl) rfl ?_
     refine AA ⟨U,?_⟩
     exact AD (by exact AB U) (AH (by kernel_rfl) ((hA12 _ _ _).1 A12_056789abcd)) rfl
    ·refine An.of (i:=14) rfl U (by rfl) ?_
     refine Bb (m:=6) (l:=[()]) (enc:=fun _=>(Ht c9)) Aj A2 (by decide) rfl U U U U U ?_
     refine AA ⟨U,?_⟩
     exact AD (by exact AB U) (AH (by kernel_rfl) ((hA12 _ _ _).1 A12_05678abcde)) rfl)
   have A12_05678abc:A12 10 (bm 18 7649) ⟨34,AM [(4,Ao),(16,D9),(24,(.ptr 3 0 (Int.toNat 0) 2)),(28,Mk)],(II p0_0 p0_1 s0 c8 c9)⟩:=(hA12 _ _ _).2 (by
    refine AU [1,9,13] U (by kernel_rfl) (by decide) ⟨?_,?_,?_,trivial⟩
    ·refine An.of (i:=1) rfl U (by rfl) ?_
     refine zq tb U (AA ⟨U,?_⟩)
     exact AD (by exact Au (L:=[(4,Ao),(17,(ow 2 0 s0)),(24,IZ),(28,FY)]) (st':=(B5 s0 c8 c9)) (st1:=(N2 s0 c8 c9)) [0,1,3,4,5] U (by decide) rfl U (.pure (by intro x hx;cases hx) (.raw U U (.hh (AG AF) (A1 Ap) rfl U U U (.deep (AG AF) (.deep (AG AF) .nil))))) (.same U)) (AH (by kernel_rfl) ((hA12 _ _ _).1 A12_015678abc)) rfl
    ·refine An.of (i:=9) rfl U (by rfl) ?_
     refine zz (ow 4 0 c8.kids) (BG Ez U U (A9 (by decide) gc8) rfl) rfl ?_
     refine AA ⟨U,?_⟩
     exact AD (by exact AB U) (AH (by kernel_rfl) ((hA12 _ _ _).1 A12_056789abc)) rfl
    ·refine An.of (i:=13) rfl U (by rfl) ?_
     refine zz (.agg (Ht c9)) (A8 Bz U U (Bt gc9) (show 0+3≤3 by decide) rfl) rfl (AA ⟨U,?_⟩)
     exact AD (by exact AB U) (AH (by kernel_rfl) ((hA12 _ _ _).1 A12_05678abcd)) rfl)
   have A12_05678ab:A12 11 (bm 18 3553) ⟨34,AM [(4,Ao),(16,D9),(24,(.ptr 3 0 (Int.toNat 0) 2)),(27,(ow 3 0 s0))],(II p0_0 p0_1 s0 c8 c9)⟩:=(hA12 _ _ _).2 (by
    refine AU [1,9,12] U (by kernel_rfl) (by decide) ⟨?_,?_,?_,trivial⟩
    ·refine An.of (i:=1) rfl U (by rfl) ?_
     refine zq tb U (AA ⟨U,?_⟩)
     exact AD (by exact Au (L:=[(4,Ao),(17,(ow 2 0 s0)),(24,IZ),(27,(ow 2 0 s0))]) (st':=(B5 s0 c8 c9)) (st1:=(N2 s0 c8 c9)) [0,1,3,4,5] U (by decide) rfl U (.pure (by intro x hx;cases hx) (.raw U U (.hh (AG AF) (A1 Ap) rfl U U U (.deep (AG AF) (.deep (AG AF) .nil))))) (.same U)) (AH (by kernel_rfl) ((hA12 _ _ _).1 A12_015678ab)) rfl
    ·refine An.of (i:=9) rfl U (by rfl) ?_
     refine zz (ow 4 0 c8.kids) (BG Ez U U (A9 (by decide) gc8) rfl) rfl ?_
     refine AA ⟨U,?_⟩
     exact AD (by exact AB U) (AH (by kernel_rfl) ((hA12 _ _ _).1 A12_056789ab)) rfl
    ·refine An.of (i:=12) rfl U (by rfl) ?_
     refine zz Mk (BD A2 U U U U gc9) rfl (AA ⟨U,?_⟩)
     exact AD (by exact AB U) (AH (by kernel_rfl) ((hA12 _ _ _).1 A12_05678abc)) rfl)
   have A12_05678a:A12 12 (bm 18 1505) ⟨34,AM [(4,Ao),(16,D9),(24,(.ptr 3 0 (Int.toNat 0) 2)),(26,D9)],(II p0_0 p0_1 s0 c8 c9)⟩:=(hA12 _ _ _).2 (by
    refine AU [1,9,11] U (by kernel_rfl) (by decide) ⟨?_,?_,?_,trivial⟩
    ·refine An.of (i:=1) rfl U (by rfl) ?_
     refine zq tb U (AA ⟨U,?_⟩)
     exact AD (by exact Au (L:=[(4,Ao),(17,(ow 2 0 s0)),(24,IZ),(26,Fj)]) (st':=(Gy s0 c8 c9 p0_0 p0_1)) (st1:=(Tq s0 c8 c9 p0_0 p0_1)) [0,1,3,4,5,2] U (by decide) rfl U (.pure (by intro x hx;cases hx) (.raw U U (.hh (AG AF) (A1 Ap) rfl U U U (.deep (AG AF) (.deep (AG AF) (.raw U U .nil)))))) (.same U)) (AH (by kernel_rfl) ((hA12 _ _ _).1 A12_015678a)) rfl
    ·refine An.of (i:=9) rfl U (by rfl) ?_
     refine zz (ow 4 0 c8.kids) (BG Ez U U (A9 (by decide) gc8) rfl) rfl ?_
     refine AA ⟨U,?_⟩
     exact AD (by exact AB U) (AH (by kernel_rfl) ((hA12 _ _ _).1 A12_056789a)) rfl
    ·refine An.of (i:=11) rfl U (by rfl) ?_
     refine zq tb U (AA ⟨U,?_⟩)
     exact AD (by exact AB U) (AH (by kernel_rfl) ((hA12 _ _ _).1 A12_05678ab)) rfl)
   have A12_0567abcde:A12 9 (bm 18 31969) ⟨34,AM [(4,Ao),(16,D9),(23,R3),(30,(.own 6 0 1))],(Uy p0_0 p0_1 s0 c8 c9)⟩:=(hA12 _ _ _).2 (by
    refine AU [1,8] U (by kernel_rfl) (by decide) ⟨?_,?_,trivial⟩
    ·refine An.of (i:=1) rfl U (by rfl) ?_
     refine zq tb U (AA ⟨U,?_⟩)
     exact AD (by exact Au (L:=[(4,Ao),(17,(ow 2 0 s0)),(23,B0),(30,(.own 5 0 1))]) (st':=(JJ s0 c8 c9)) (st1:=(Xz s0 c8 c9)) [0,1,3,4,5,6] U (by decide) rfl U (.pure (by intro x hx;cases hx) (.raw U U (.hh (AG AF) (A1 Ap) rfl U U U (.deep (AG AF) (.deep (AG AF) (.raw U U .nil)))))) (.same U)) (AH (by kernel_rfl) ((hA12 _ _ _).1 A12_01567abcde)) rfl
    ·refine An.of (i:=8) rfl U (by rfl) ?_
     refine zq tb U (AA ⟨U,?_⟩)
     exact AD (by exact AB U) (AH (by kernel_rfl) ((hA12 _ _ _).1 A12_05678abcde)) rfl)
   have A12_0567abcd:A12 10 (bm 18 15585) ⟨34,AM [(4,Ao),(16,D9),(23,R3),(29,(.agg (Ht c9)))],(II p0_0 p0_1 s0 c8 c9)⟩:=(hA12 _ _ _).2 (by
    refine AU [1,8,14] U (by kernel_rfl) (by decide) ⟨?_,?_,?_,trivial⟩
    ·refine An.of (i:=1) rfl U (by rfl) ?_
     refine zq tb U (AA ⟨U,?_⟩)
     exact AD (by exact Au (L:=[(4,Ao),(17,(ow 2 0 s0)),(23,B0),(29,(Es c9))]) (st':=(B5 s0 c8 c9)) (st1:=(N2 s0 c8 c9)) [0,1,3,4,5] U (by decide) rfl U (.pure (by intro x hx;cases hx) (.raw U U (.hh (AG AF) (A1 Ap) rfl U U U (.deep (AG AF) (.deep (AG AF) .nil))))) (.same U)) (AH (by kernel_rfl) ((hA12 _ _ _).1 A12_01567abcd)) rfl
    ·refine An.of (i:=8) rfl U (by rfl) ?_
     refine zq tb U (AA ⟨U,?_⟩)
     exact AD (by exact AB U) (AH (by kernel_rfl) ((hA12 _ _ _).1 A12_05678abcd)) rfl
    ·refine An.of (i:=14) rfl U (by rfl) ?_
     refine Bb (m:=6) (l:=[()]) (enc:=fun _=>(Ht c9)) Aj A2 (by decide) rfl U U U U U ?_
     refine AA ⟨U,?_⟩
     exact AD (by exact AB U) (AH (by kernel_rfl) ((hA12 _ _ _).1 A12_0567abcde)) rfl)
   have A12_0567abc:A12 11 (bm 18 7393) ⟨34,AM [(4,Ao),(16,D9),(23,R3),(28,Mk)],(II p0_0 p0_1 s0 c8 c9)⟩:=(hA12 _ _ _).2 (by
    refine AU [1,8,13] U (by kernel_rfl) (by decide) ⟨?_,?_,?_,trivial⟩
    ·refine An.of (i:=1) rfl U (by rfl) ?_
     refine zq tb U (AA ⟨U,?_⟩)
     exact AD (by exact Au (L:=[(4,Ao),(17,(ow 2 0 s0)),(23,B0),(28,FY)]) (st':=(B5 s0 c8 c9)) (st1:=(N2 s0 c8 c9)) [0,1,3,4,5] U (by decide) rfl U (.pure (by intro x hx;cases hx) (.raw U U (.hh (AG AF) (A1 Ap) rfl U U U (.deep (AG AF) (.deep (AG AF) .nil))))) (.same U)) (AH (by kernel_rfl) ((hA12 _ _ _).1 A12_01567abc)) rfl
    ·refine An.of (i:=8) rfl U (by rfl) ?_
     refine zq tb U (AA ⟨U,?_⟩)
     exact AD (by exact AB U) (AH (by kernel_rfl) ((hA12 _ _ _).1 A12_05678abc)) rfl
    ·refine An.of (i:=13) rfl U (by rfl) ?_
     refine zz (.agg (Ht c9)) (A8 Bz U U (Bt gc9) (show 0+3≤3 by decide) rfl) rfl (AA ⟨U,?_⟩)
     exact AD (by exact AB U) (AH (by kernel_rfl) ((hA12 _ _ _).1 A12_0567abcd)) rfl)
   have A12_0567ab:A12 12 (bm 18 3297) ⟨34,AM [(4,Ao),(16,D9),(23,R3),(27,(ow 3 0 s0))],(II p0_0 p0_1 s0 c8 c9)⟩:=(hA12 _ _ _).2 (by
    refine AU [1,8,12] U (by kernel_rfl) (by decide) ⟨?_,?_,?_,trivial⟩
    ·refine An.of (i:=1) rfl U (by rfl) ?_
     refine zq tb U (AA ⟨U,?_⟩)
     exact AD (by exact Au (L:=[(4,Ao),(17,(ow 2 0 s0)),(23,B0),(27,(ow 2 0 s0))]) (st':=(B5 s0 c8 c9)) (st1:=(N2 s0 c8 c9)) [0,1,3,4,5] U (by decide) rfl U (.pure (by intro x hx;cases hx) (.raw U U (.hh (AG AF) (A1 Ap) rfl U U U (.deep (AG AF) (.deep (AG AF) .nil))))) (.same U)) (AH (by kernel_rfl) ((hA12 _ _ _).1 A12_01567ab)) rfl
    ·refine An.of (i:=8) rfl U (by rfl) ?_
     refine zq tb U (AA ⟨U,?_⟩)
     exact AD (by exact AB U) (AH (by kernel_rfl) ((hA12 _ _ _).1 A12_05678ab)) rfl
    ·refine An.of (i:=12) rfl U (by rfl) ?_
     refine zz Mk (BD A2 U U U U gc9) rfl (AA ⟨U,?_⟩)
     exact AD (by exact AB U) (AH (by kernel_rfl) ((hA12 _ _ _).1 A12_0567abc)) rfl)
   have A12_0567a:A12 13 (bm 18 1249) ⟨34,AM [(4,Ao),(16,D9),(23,R3),(26,D9)],(II p0_0 p0_1 s0 c8 c9)⟩:=(hA12 _ _ _).2 (by
    refine AU [1,8,11] U (by kernel_rfl) (by decide) ⟨?_,?_,?_,trivial⟩
    ·refine An.of (i:=1) rfl U (by rfl) ?_
     refine zq tb U (AA ⟨U,?_⟩)
     exact AD (by exact Au (L:=[(4,Ao),(17,(ow 2 0 s0)),(23,B0),(26,Fj)]) (st':=(Gy s0 c8 c9 p0_0 p0_1)) (st1:=(Tq s0 c8 c9 p0_0 p0_1)) [0,1,3,4,5,2] U (by decide) rfl U (.pure (by intro x hx;cases hx) (.raw U U (.hh (AG AF) (A1 Ap) rfl U U U (.deep (AG AF) (.deep (AG AF) (.raw U U .nil)))))) (.same U)) (AH (by kernel_rfl) ((hA12 _ _ _).1 A12_01567a)) rfl
    ·refine An.of (i:=8) rfl U (by rfl) ?_
     refine zq tb U (AA ⟨U,?_⟩)
     exact AD (by exact AB U) (AH (by kernel_rfl) ((hA12 _ _ _).1 A12_05678a)) rfl
    ·refine An.of (i:=11) rfl U (by rfl) ?_
     refine zq tb U (AA ⟨U,?_⟩)
     exact AD (by exact AB U) (AH (by kernel_rfl) ((hA12 _ _ _).1 A12_0567ab)) rfl)
   have A12_056abcde:A12 10 (bm 18 31841) ⟨34,AM [(4,Ao),(16,D9),(22,(ow 3 0 s0)),(30,(.own 6 0 1))],(Uy p0_0 p0_1 s0 c8 c9)⟩:=(hA12 _ _ _).2 (by
    refine AU [1,7] U (by kernel_rfl) (by decide) ⟨?_,?_,trivial⟩
    ·refine An.of (i:=1) rfl U (by rfl) ?_
     refine zq tb U (AA ⟨U,?_⟩)
     exact AD (by exact Au (L:=[(4,Ao),(17,(ow 2 0 s0)),(22,(ow 2 0 s0)),(30,(.own 5 0 1))]) (st':=(JJ s0 c8 c9)) (st1:=(Xz s0 c8 c9)) [0,1,3,4,5,6] U (by decide) rfl U (.pure (by intro x hx;cases hx) (.raw U U (.hh (AG AF) (A1 Ap) rfl U U U (.deep (AG AF) (.deep (AG AF) (.raw U U .nil)))))) (.same U)) (AH (by kernel_rfl) ((hA12 _ _ _).1 A12_0156abcde)) rfl
    ·refine An.of (i:=7) rfl U (by rfl) ?_
     refine zz R3 (BD A2 U U U U gc8) rfl (AA ⟨U,?_⟩)
     exact AD (by exact AB U) (AH (by kernel_rfl) ((hA12 _ _ _).1 A12_0567abcde)) rfl)
   have A12_056abcd:A12 11 (bm 18 15457) ⟨34,AM [(4,Ao),(16,D9),(22,(ow 3 0 s0)),(29,(.agg (Ht c9)))],(II p0_0 p0_1 s0 c8 c9)⟩:=(hA12 _ _ _).2 (by
    refine AU [1,7,14] U (by kernel_rfl) (by decide) ⟨?_,?_,?_,trivial⟩
    ·refine An.of (i:=1) rfl U (by rfl) ?_
     refine zq tb U (AA ⟨U,?_⟩)
     exact AD (by exact Au (L:=[(4,Ao),(17,(ow 2 0 s0)),(22,(ow 2 0 s0)),(29,(Es c9))]) (st':=(B5 s0 c8 c9)) (st1:=(N2 s0 c8 c9)) [0,1,3,4,5] U (by decide) rfl U (.pure (by intro x hx;cases hx) (.raw U U (.hh (AG AF) (A1 Ap) rfl U U U (.deep (AG AF) (.deep (AG AF) .nil))))) (.same U)) (AH (by kernel_rfl) ((hA12 _ _ _).1 A12_0156abcd)) rfl
    ·refine An.of (i:=7) rfl U (by rfl) ?_
     refine zz R3 (BD A2 U U U U gc8) rfl (AA ⟨U,?_⟩)
     exact AD (by exact AB U) (AH (by kernel_rfl) ((hA12 _ _ _).1 A12_0567abcd)) rfl
    ·refine An.of (i:=14) rfl U (by rfl) ?_
     refine Bb (m:=6) (l:=[()]) (enc:=fun _=>(Ht c9)) Aj A2 (by decide) rfl U U U U U ?_
     refine AA ⟨U,?_⟩
     exact AD (by exact AB U) (AH (by kernel_rfl) ((hA12 _ _ _).1 A12_056abcde)) rfl)
   have A12_056abc:A12 12 (bm 18 7265) ⟨34,AM [(4,Ao),(16,D9),(22,(ow 3 0 s0)),(28,Mk)],(II p0_0 p0_1 s0 c8 c9)⟩:=(hA12 _ _ _).2 (by
    refine AU [1,7,13] U (by kernel_rfl) (by decide) ⟨?_,?_,?_,trivial⟩
    ·refine An.of (i:=1) rfl U (by rfl) ?_
     refine zq tb U (AA ⟨U,?_⟩)
     exact AD (by exact Au (L:=[(4,Ao),(17,(ow 2 0 s0)),(22,(ow 2 0 s0)),(28,FY)]) (st':=(B5 s0 c8 c9)) (st1:=(N2 s0 c8 c9)) [0,1,3,4,5] U (by decide) rfl U (.pure (by intro x hx;cases hx) (.raw U U (.hh (AG AF) (A1 Ap) rfl U U U (.deep (AG AF) (.deep (AG AF) .nil))))) (.same U)) (AH (by kernel_rfl) ((hA12 _ _ _).1 A12_0156abc)) rfl
    ·refine An.of (i:=7) rfl U (by rfl) ?_
     refine zz R3 (BD A2 U U U U gc8) rfl (AA ⟨U,?_⟩)
     exact AD (by exact AB U) (AH (by kernel_rfl) ((hA12 _ _ _).1 A12_0567abc)) rfl
    ·refine An.of (i:=13) rfl U (by rfl) ?_
     refine zz (.agg (Ht c9)) (A8 Bz U U (Bt gc9) (show 0+3≤3 by decide) rfl) rfl (AA ⟨U,?_⟩)
     exact AD (by exact AB U) (AH (by kernel_rfl) ((hA12 _ _ _).1 A12_056abcd)) rfl)
   have A12_056ab:A12 13 (bm 18 3169) ⟨34,AM [(4,Ao),(16,D9),(22,(ow 3 0 s0)),(27,(ow 3 0 s0))],(II p0_0 p0_1 s0 c8 c9)⟩:=(hA12 _ _ _).2 (by
    refine AU [1,7,12] U (by kernel_rfl) (by decide) ⟨?_,?_,?_,trivial⟩
    ·refine An.of (i:=1) rfl U (by rfl) ?_
     refine zq tb U (AA ⟨U,?_⟩)
     exact AD (by exact Au (L:=[(4,Ao),(17,(ow 2 0 s0)),(22,(ow 2 0 s0)),(27,(ow 2 0 s0))]) (st':=(B5 s0 c8 c9)) (st1:=(N2 s0 c8 c9)) [0,1,3,4,5] U (by decide) rfl U (.pure (by intro x hx;cases hx) (.raw U U (.hh (AG AF) (A1 Ap) rfl U U U (.deep (AG AF) (.deep (AG AF) .nil))))) (.same U)) (AH (by kernel_rfl) ((hA12 _ _ _).1 A12_0156ab)) rfl
    ·refine An.of (i:=7) rfl U (by rfl) ?_
     refine zz R3 (BD A2 U U U U gc8) rfl (AA ⟨U,?_⟩)
     exact AD (by exact AB U) (AH (by kernel_rfl) ((hA12 _ _ _).1 A12_0567ab)) rfl
    ·refine An.of (i:=12) rfl U (by rfl) ?_
     refine zz Mk (BD A2 U U U U gc9) rfl (AA ⟨U,?_⟩)
     exact AD (by exact AB U) (AH (by kernel_rfl) ((hA12 _ _ _).1 A12_056abc)) rfl)
   have A12_056a:A12 14 (bm 18 1121) ⟨34,AM [(4,Ao),(16,D9),(22,(ow 3 0 s0)),(26,D9)],(II p0_0 p0_1 s0 c8 c9)⟩:=(hA12 _ _ _).2 (by
    refine AU [1,7,11] U (by kernel_rfl) (by decide) ⟨?_,?_,?_,trivial⟩
    ·refine An.of (i:=1) rfl U (by rfl) ?_
     refine zq tb U (AA ⟨U,?_⟩)
     exact AD (by exact Au (L:=[(4,Ao),(17,(ow 2 0 s0)),(22,(ow 2 0 s0)),(26,Fj)]) (st':=(Gy s0 c8 c9 p0_0 p0_1)) (st1:=(Tq s0 c8 c9 p0_0 p0_1)) [0,1,3,4,5,2] U (by decide) rfl U (.pure (by intro x hx;cases hx) (.raw U U (.hh (AG AF) (A1 Ap) rfl U U U (.deep (AG AF) (.deep (AG AF) (.raw U U .nil)))))) (.same U)) (AH (by kernel_rfl) ((hA12 _ _ _).1 A12_0156a)) rfl
    ·refine An.of (i:=7) rfl U (by rfl) ?_
     refine zz R3 (BD A2 U U U U gc8) rfl (AA ⟨U,?_⟩)
     exact AD (by exact AB U) (AH (by kernel_rfl) ((hA12 _ _ _).1 A12_0567a)) rfl
    ·refine An.of (i:=11) rfl U (by rfl) ?_
     refine zq tb U (AA ⟨U,?_⟩)
     exact AD (by exact AB U) (AH (by kernel_rfl) ((hA12 _ _ _).1 A12_056ab)) rfl)
   have A12_05abcde:A12 11 (bm 18 31777) ⟨34,AM [(4,Ao),(16,D9),(21,D9),(30,(.own 6 0 1))],(Uy p0_0 p0_1 s0 c8 c9)⟩:=(hA12 _ _ _).2 (by
    refine AU [1,6] U (by kernel_rfl) (by decide) ⟨?_,?_,trivial⟩
    ·refine An.of (i:=1) rfl U (by rfl) ?_
     refine zq tb U (AA ⟨U,?_⟩)
     exact AD (by exact Au (L:=[(4,Ao),(17,(ow 2 0 s0)),(21,Fj),(30,(.own 6 0 1))]) (st':=[B6,E3,(KJ s0 c8 c9),(BP c8),(BP c9),(Rz p0_0 p0_1 s0),(MD c9)]) (st1:=[B6,E3,(PO s0 c8 c9),(BP c8),(BP c9),(VN p0_0 p0_1 s0),⟨0,44,3,[(Ht c9)]⟩]) [0,1,3,4,5,2,6] U (by decide) rfl U (.pure (by intro x hx;cases hx) (.raw U U (.hh (AG AF) (A1 Ap) rfl U U U (.deep (AG AF) (.deep (AG AF) (.raw U U (.raw U U .nil))))))) (.same U)) (AH (by kernel_rfl) ((hA12 _ _ _).1 A12_015abcde)) rfl
    ·refine An.of (i:=6) rfl U (by rfl) ?_
     refine zq tb U (AA ⟨U,?_⟩)
     exact AD (by exact AB U) (AH (by kernel_rfl) ((hA12 _ _ _).1 A12_056abcde)) rfl)
   have A12_05abcd:A12 12 (bm 18 15393) ⟨34,AM [(4,Ao),(16,D9),(21,D9),(29,(.agg (Ht c9)))],(II p0_0 p0_1 s0 c8 c9)⟩:=(hA12 _ _ _).2 (by
    refine AU [1,6,14] U (by kernel_rfl) (by decide) ⟨?_,?_,?_,trivial⟩
    ·refine An.of (i:=1) rfl U (by rfl) ?_
     refine zq tb U (AA ⟨U,?_⟩)
     exact AD (by exact Au (L:=[(4,Ao),(17,(ow 2 0 s0)),(21,Fj),(29,(Es c9))]) (st':=(Gy s0 c8 c9 p0_0 p0_1)) (st1:=(Tq s0 c8 c9 p0_0 p0_1)) [0,1,3,4,5,2] U (by decide) rfl U (.pure (by intro x hx;cases hx) (.raw U U (.hh (AG AF) (A1 Ap) rfl U U U (.deep (AG AF) (.deep (AG AF) (.raw U U .nil)))))) (.same U)) (AH (by kernel_rfl) ((hA12 _ _ _).1 A12_015abcd)) rfl
    ·refine An.of (i:=6) rfl U (by rfl) ?_
     refine zq tb U (AA ⟨U,?_⟩)
     exact AD (by exact AB U) (AH (by kernel_rfl) ((hA12 _ _ _).1 A12_056abcd)) rfl
    ·refine An.of (i:=14) rfl U (by rfl) ?_
     refine Bb (m:=6) (l:=[()]) (enc:=fun _=>(Ht c9)) Aj A2 (by decide) rfl U U U U U ?_
     refine AA ⟨U,?_⟩
     exact AD (by exact AB U) (AH (by kernel_rfl) ((hA12 _ _ _).1 A12_05abcde)) rfl)
   have A12_05abc:A12 13 (bm 18 7201) ⟨34,AM [(4,Ao),(16,D9),(21,D9),(28,Mk)],(II p0_0 p0_1 s0 c8 c9)⟩:=(hA12 _ _ _).2 (by
    refine AU [1,6,13] U (by kernel_rfl) (by decide) ⟨?_,?_,?_,trivial⟩
    ·refine An.of (i:=1) rfl U (by rfl) ?_
     refine zq tb U (AA ⟨U,?_⟩)
     exact AD (by exact Au (L:=[(4,Ao),(17,(ow 2 0 s0)),(21,Fj),(28,FY)]) (st':=(Gy s0 c8 c9 p0_0 p0_1)) (st1:=(Tq s0 c8 c9 p0_0 p0_1)) [0,1,3,4,5,2] U (by decide) rfl U (.pure (by intro x hx;cases hx) (.raw U U (.hh (AG AF) (A1 Ap) rfl U U U (.deep (AG AF) (.deep (AG AF) (.raw U U .nil)))))) (.same U)) (AH (by kernel_rfl) ((hA12 _ _ _).1 A12_015abc)) rfl
    ·refine An.of (i:=6) rfl U (by rfl) ?_
     refine zq tb U (AA ⟨U,?_⟩)
     exact AD (by exact AB U) (AH (by kernel_rfl) ((hA12 _ _ _).1 A12_056abc)) rfl
    ·refine An.of (i:=13) rfl U (by rfl) ?_
     refine zz (.agg (Ht c9)) (A8 Bz U U (Bt gc9) (show 0+3≤3 by decide) rfl) rfl (AA ⟨U,?_⟩)
     exact AD (by exact AB U) (AH (by kernel_rfl) ((hA12 _ _ _).1 A12_05abcd)) rfl)
   have A12_05ab:A12 14 (bm 18 3105) ⟨34,AM [(4,Ao),(16,D9),(21,D9),(27,(ow 3 0 s0))],(II p0_0 p0_1 s0 c8 c9)⟩:=(hA12 _ _ _).2 (by
    refine AU [1,6,12] U (by kernel_rfl) (by decide) ⟨?_,?_,?_,trivial⟩
    ·refine An.of (i:=1) rfl U (by rfl) ?_
     refine zq tb U (AA ⟨U,?_⟩)
     exact AD (by exact Au (L:=[(4,Ao),(17,(ow 2 0 s0)),(21,Fj),(27,(ow 2 0 s0))]) (st':=(Gy s0 c8 c9 p0_0 p0_1)) (st1:=(Tq s0 c8 c9 p0_0 p0_1)) [0,1,3,4,5,2] U (by decide) rfl U (.pure (by intro x hx;cases hx) (.raw U U (.hh (AG AF) (A1 Ap) rfl U U U (.deep (AG AF) (.deep (AG AF) (.raw U U .nil)))))) (.same U)) (AH (by kernel_rfl) ((hA12 _ _ _).1 A12_015ab)) rfl
    ·refine An.of (i:=6) rfl U (by rfl) ?_
     refine zq tb U (AA ⟨U,?_⟩)
     exact AD (by exact AB U) (AH (by kernel_rfl) ((hA12 _ _ _).1 A12_056ab)) rfl
    ·refine An.of (i:=12) rfl U (by rfl) ?_
     refine zz Mk (BD A2 U U U U gc9) rfl (AA ⟨U,?_⟩)
     exact AD (by exact AB U) (AH (by kernel_rfl) ((hA12 _ _ _).1 A12_05abc)) rfl)
   have A12_05a:A12 15 (bm 18 1057) ⟨34,AM [(4,Ao),(16,D9),(21,D9),(26,D9)],(II p0_0 p0_1 s0 c8 c9)⟩:=(hA12 _ _ _).2 (by
    refine AU [1,6,11] U (by kernel_rfl) (by decide) ⟨?_,?_,?_,trivial⟩
    ·refine An.of (i:=1) rfl U (by rfl) ?_
     refine zq tb U (AA ⟨U,?_⟩)
     exact AD (by exact Au (L:=[(4,Ao),(17,(ow 2 0 s0)),(21,Fj),(26,Fj)]) (st':=(Gy s0 c8 c9 p0_0 p0_1)) (st1:=(Tq s0 c8 c9 p0_0 p0_1)) [0,1,3,4,5,2] U (by decide) rfl U (.pure (by intro x hx;cases hx) (.raw U U (.hh (AG AF) (A1 Ap) rfl U U U (.deep (AG AF) (.deep (AG AF) (.raw U U .nil)))))) (.same U)) (AH (by kernel_rfl) ((hA12 _ _ _).1 A12_015a)) rfl
    ·refine An.of (i:=6) rfl U (by rfl) ?_
     refine zq tb U (AA ⟨U,?_⟩)
     exact AD (by exact AB U) (AH (by kernel_rfl) ((hA12 _ _ _).1 A12_056a)) rfl
    ·refine An.of (i:=11) rfl U (by rfl) ?_
     refine zq tb U (AA ⟨U,?_⟩)
     exact AD (by exact AB U) (AH (by kernel_rfl) ((hA12 _ _ _).1 A12_05ab)) rfl)
   refine (hA12 _ _ _).2 ?_
   exact AD (by exact Au (L:=[(4,Ao),(16,D9),(21,D9),(26,D9)]) (st':=(II p0_0 p0_1 s0 c8 c9)) (st1:=[B6,E3,⟨0,44,3,[[(i64 p0_0),(i64 p0_1),(ow 1 0 s0)]]⟩,(PO s0 c8 c9),(BP c8),(BP c9)]) [0,3,2,1,4,5] U (by decide) rfl U (.pure (by intro x hx;cases hx) (.raw U U (.raw U U (.hh (AG AF) (A1 Ap) rfl U U U (.deep (AG AF) (.deep (AG AF) .nil)))))) (.same U)) (AH (by kernel_rfl) ((hA12 _ _ _).1 A12_05a)) rfl
  ·intro b6 h0
   refine AN (hK2 _ (sr U fun K13 hK13=>zq tb U (BI Aj Bz U U U U U U (show 0+3≤3 by decide) rfl (dn hK13 U ?_))))
   replace h0:=Sh.AE h0
   subst r
   exact AP (Exists.intro _ (And.intro ((Ai (L:=[(4,CD)]) (st':=[B6,(Dx s0),⟨0,44,3,[[(i64 p0_0),(i64 p0_1),(ow 1 0 s0)]]⟩]) [0,1,3] U (by decide) rfl U (.pure (by intro x hx;cases hx) (.deep (AG AF) (.raw U U .nil))) ⟨.rfl,trivial⟩).trans (Ab (L:=[(4,CD)]) ⟨.rfl,trivial⟩)) (A8 (x:=.tmp 4) (off:=0) (cs:=[(i64 p0_0),(i64 p0_1),(ow 1 0 s0)]) (vs:=[(i64 p0_0),(i64 p0_1),(ow 1 0 s0)]) Bz U U U (show 0+3≤3 by decide) rfl _ ⟨U,U⟩)))
 refine AR U (zm tb 4 U ?_)
 rcases Sh.Az h1 with ⟨b14,h1⟩ | ⟨b14,h1⟩
 ·exact zg tb b14 U (zg tb b14 U (bs h1 fun c15 gc15 h1=>BU (v:=SD) (DH U U b14) rfl (BZ A2 U U U U gc15) (zg tb b14 U (BU (v:=(i64 c15.op)) (DH U U b14) rfl (BG Em U U (FZ gc15 (Bp _)) rfl) (zg tb b14 U (zt b14 U (AA (M5 (decide (c15.op=10)) (Sh.AE h1).symm _ (AB U)))))))))
 ·refine zs b14 U ?_
  iterate 5 refine zs b14 rfl ?_
  exact zf b14 U (AA (M5 false (Sh.AE h1).symm _ (AB U)))
end Go.Proofs.YtpahalfiiahddaaGreat

