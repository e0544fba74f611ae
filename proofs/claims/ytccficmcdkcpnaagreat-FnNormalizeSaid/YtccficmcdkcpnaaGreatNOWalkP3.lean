import Derived.Test.YtccficmcdkcpnaaGreatNOWalkP2
set_option linter.all false
namespace Go.Proofs.YtccficmcdkcpnaaGreat
open Go Go.Abs RC
attribute [local irreducible] Go.Abs.Dp
set_option maxRecDepth 100000
set_option maxHeartbeats 4000000
theorem jz:HM Tryz.prog 48=true:=by kernel_rfl
theorem bu:HM Tryz.prog 80=true:=by kernel_rfl
theorem kS:HM Tryz.prog 92=true:=by kernel_rfl
theorem kF:Ig Tryz.prog 48=some [(0,1),(1,1)]:=by kernel_rfl
theorem dQ:Ig Tryz.prog 80=some [(0,1),(1,1),(2,1),(3,1),(4,1)]:=by kernel_rfl
theorem lC:Ig Tryz.prog 92=some [(0,1),(1,1),(2,1)]:=by kernel_rfl
theorem MC:DR Tryz.prog 46=some ⟨80,5,72,[.int .i64 0,.int .i64 0,.int .i64 0,.sl [],.sl []]⟩:=by kernel_rfl
theorem Rv:DR Tryz.prog 78=some ⟨48,2,32,[.sl [],.int .i64 0]⟩:=by kernel_rfl
theorem lv:HH Tryz.prog 80 3=some 3:=by kernel_rfl
theorem lj:HH Tryz.prog 80 4=some 4:=by kernel_rfl
theorem aH:HH Tryz.prog 92 0=some 0:=by kernel_rfl
theorem mM:HH Tryz.prog 92 1=some 1:=by kernel_rfl
theorem lp:HH Tryz.prog 92 2=some 2:=by kernel_rfl
theorem YV:De Tryz.prog 46=some (false,1):=by kernel_rfl
theorem WR:De Tryz.prog 48=some (true,2):=by kernel_rfl
theorem ov:De Tryz.prog 78=some (false,1):=by kernel_rfl
theorem Zy:De Tryz.prog 80=some (true,5):=by kernel_rfl
theorem mm:De Tryz.prog 92=some (true,3):=by kernel_rfl
theorem Rj:HN Tryz.prog 48=some [.zc,.int .i64 0]:=by kernel_rfl
theorem P8:HN Tryz.prog 80=some [.int .i64 0,.int .i64 0,.int .i64 0,.zc,.zc]:=by kernel_rfl
theorem WU:HN Tryz.prog 92=some [.zc,.int .i64 0,.zc]:=by kernel_rfl
theorem N3 {N:Nat}{uZ:(List Int)->Ah->AG->Option (Int)}(uw :∀{s0:(List Int)} {p0:Ah} {p2:AG} {r:Int},uZ s0 p0 p2=some r->Bn 170 [I1 p0,ow 0 0 s0,BJ p2.op p2.num p2.kids] [BP s0] (i64 r) [BP s0]){s0:(List Int)}{p0:Ah}{p2:AG}{r:Int}(h0:BG N uZ s0 p0 p2=some r):Bn 170 [I1 p0,ow 0 0 s0,BJ p2.op p2.num p2.kids] [BP s0] (i64 r) [BP s0]:=by
 unfold BG at h0;refine Cx Tryz.func170 AA (Ai λK1 t1=>Et 1 AA (Et 2 AA (AR AA (Ad t1 (AD λK2 t2=>Al AA (AJ (Al AA ?_)))))));refine Az h0 ?_ ?_<;>intro b5 h0
 ·refine AD λK6 t3=>AD λK7 t4=>bs h0 λo9 e h0=>?_;have M9:∀t8,o9=t8->∀s,Wk 1 s ⟨194,AL [(1,ow 0 0 s0),(5,DW),(36,.bool t8)],[BP s0,O8 p2.op p2.num p2.kids]⟩->K7 s:=by
   intro t8 hq s hw;subst o9;refine t4 _ (AF hw ?_);refine Az h0 ?_ ?_<;>intro w5 h0
   ·refine Al AA ?_;obtain rfl:=Sh.Bt h0;exact Ap (xr (BH (L:=[(6,i64 (-1))]) (st':=[BP s0]) [0] (.p .nil) ⟨.rfl,pw⟩))
   ·refine AH (t3 _ (Ai λw6 g8=>Ae 3 AA (bs h0 λg9 c5 h0=>zz (.ptr 0 0 (Int.toNat p2.num) 0) (HC BE AA c5) rfl (zz (i64 g9) (CL HP AA AA (CM c5) rfl) rfl (AR AA (Ad g8 ?_))))));obtain rfl:=Sh.Bt h0;exact Ap (xr (BH (L:=[(6,i64 g9)]) (st':=[BP s0]) [0] (.p .nil) ⟨.rfl,pw⟩))
  refine AE AA (Ae 2 AA (Cc AA (Ae 2 AA ?_)));rcases Sh.Aa e with ⟨U,e⟩|⟨U,e⟩
  ·refine zs U AA (zs U AA (zs U AA (zt U AA (AR AA ?_))));iterate 5 refine zs rfl rfl ?_
   exact zt AA AA (AB (M9 true (BU e) _ (BH [0,2] (.p (.w .nil)) (.same AA))))
  ·refine Am U AA (Am U AA (Am U AA (zf U AA (AR AA ?_))));rcases Sh.Aa e with ⟨O,e⟩|⟨O,e⟩
   ·refine zs O AA ?_;iterate 4 refine zs O rfl ?_
    exact zt O AA (AB (M9 true (BU e) _ (BH [0,2] (.p (.w .nil)) (.same AA))))
   ·exact Am O AA (Am O AA (Am O AA (DQ (Cb s0) O (C9 FY AA AA AA) (Am O AA (zf O AA (AB (M9 (decide ((Sh.len s0)<=p2.num)) (BU e) _ (BH [0,2] (.p (.w .nil)) (.same AA)))))))))
 ·refine Al AA ?_;refine Az h0 ?_ ?_<;>intro w7 h0
  ·refine AD λw8 h2=>AD λt5 h3=>bs h0 λh4 e h0=>?_;have h5:∀d0,h4=d0->∀s,Wk 1 s ⟨194,AL [(1,ow 0 0 s0),(3,DW),(5,Ca),(52,.bool d0)],[BP s0,IM p0,O8 p2.op p2.num p2.kids]⟩->t5 s:=by
    intro d0 hq s hw;subst h4;refine h3 _ (AF hw ?_);refine Az h0 ?_ ?_<;>intro w9 h0
    ·refine Al AA ?_;cases h0;exact Ap (xr (BH (L:=[(6,i64 (-1))]) (st':=[BP s0]) [0] (.p .nil) ⟨.rfl,pw⟩))
    ·refine AH (h2 _ (AD λA0 h6=>CZ (by kernel_rfl) (by kernel_rfl) (by rfl) ?_));iterate 4 refine yq tb rfl ?_
     refine bs h0 λd1 h7 h0=>yz (Cz d1.op d1.num d1.kids) (CI Bq AA AA h7 (Aj _) rfl) rfl (yq tb AA (bs h0 λh h8 h0=>XZ (rowsP:=[BP s0]) (rows0:=[BP s0]) (rows1:=[BP s0]) (rows1':=[BP s0]) (v':=(i64 h)) [0] AT (hb 170) (uw h8) rfl (by decide) rfl AA (.pure Bf .nil) rfl AA (.pure Bf .nil) rfl AA (yq tb AA (Ao (h6 _ (AD λA1 h9=>Al AA ?_))))));refine Az h0 ?_ ?_<;>intro A2 h0
     ·refine Al AA ?_;cases h0;exact Ap (xr (BH (L:=[(6,i64 (-1))]) (st':=[BP s0]) [0] (.p .nil) ⟨.rfl,pw⟩))
     ·refine AH (h9 _ (AD λA3 c6=>?_));refine Iw (by kernel_rfl) ?_;refine bs h0 λg S h0=>bs h0 λb z h0=>bs h0 λb4 c7 h0=>AX.two (BP s0) (BP g) λzN A35' a f=>?_;have p:A35' 0 (bm 11 2047) ⟨194,AL [(6,i64 b4)],[BP g]⟩:=(f _ _ _).2 (by
       refine GP AA (by kernel_rfl) ⟨⟨_,AA⟩,c6 _ ?_⟩;obtain rfl:=Sh.Bt h0;exact Ap (Exists.intro _ (And.intro (Dh [(6,i64 b4)] (.same AA)) (And.intro AA AA))))
      have c:A35' 2 (bm 11 511) ⟨194,AL [(62,I1 p0),(66,ow 0 0 g),(70,BJ b.op b.num b.kids)],[BP g]⟩:=(f _ _ _).2 (by
       refine xa [9] ⟨?_,pw⟩
       ·refine xo 9 ?_;refine Vp (rows0:=[BP g]) (rows1:=[BP g]) (st':=[BP g]) (v':=(i64 b4)) [0] AT (hb 170) (uw c7) rfl (by decide) rfl AA (.pure Bf .nil) rfl AA (.pure Bf .nil) .nil AA AA ?_;refine AB ⟨AA,?_⟩;refine LP tb 10 AA AA ?_;exact xt f p)
      have P:A35' 5 (bm 11 63) ⟨194,AL [(62,I1 p0),(66,ow 0 0 g),(67,.ptr 1 0 0 2)],[BP g,O8 p2.op p2.num p2.kids]⟩:=(f _ _ _).2 (by
       refine qX tb 6 AA AA (aX 7 (Cz b.op b.num b.kids) rfl (CI Bq AA AA z (Aj _) rfl) (LP tb 8 AA AA ?_));exact xw f c (by exact BH [0] (.p .nil) (.same AA)))
      have q:zN 0 (bm 11 2047) ⟨194,AL [(6,i64 b4)],[BP s0]⟩:=(a _ _ _).2 (by
       refine GP AA (by kernel_rfl) (c6 _ ?_);obtain rfl:=Sh.Bt h0;exact Ap (Exists.intro _ (And.intro (Dh [(6,i64 b4)] (.same AA)) (And.intro AA AA))))
      have d:zN 2 (bm 11 511) ⟨194,AL [(62,I1 p0),(66,ow 1 0 g),(70,BJ b.op b.num b.kids)],[BP s0,BP g]⟩:=(a _ _ _).2 (by
       refine xa [9] ⟨?_,pw⟩
       ·refine xo 9 (Vp (rows0:=[BP g]) (rows1:=[BP g]) (st':=[BP s0,BP g]) (v':=(i64 b4)) [1] AT (hb 170) (uw c7) rfl (by decide) rfl AA (.pure Bf .nil) rfl AA (.pure Bf .nil) .nil AA AA (AB ⟨AA,LP tb 10 AA AA ?_⟩));exact xw a q (by exact BH [0] (.p .nil) (.same AA)))
      have Q:zN 5 (bm 11 63) ⟨194,AL [(62,I1 p0),(66,ow 1 0 g),(67,.ptr 2 0 0 2)],[BP s0,BP g,O8 p2.op p2.num p2.kids]⟩:=(a _ _ _).2 (by
       refine qX tb 6 AA AA (aX 7 (Cz b.op b.num b.kids) rfl (CI Bq AA AA z (Aj _) rfl) (LP tb 8 AA AA ?_));exact xw a d (by exact BH [0,1] (.p (.p .nil)) (.same AA)))
      have C:A35' 3 (bm 11 255) ⟨194,AL [(62,I1 p0),(66,ow 0 0 g),(69,Cz b.op b.num b.kids)],[BP g]⟩:=(f _ _ _).2 (by
       exact qX tb 8 AA AA (xt f c))
      have D:zN 3 (bm 11 255) ⟨194,AL [(62,I1 p0),(66,ow 1 0 g),(69,Cz b.op b.num b.kids)],[BP s0,BP g]⟩:=(a _ _ _).2 (by
       exact qX tb 8 AA AA (xt a d))
      have k:zN 3 (bm 11 495) ⟨194,AL [(62,I1 p0),(63,ow 0 0 s0),(65,ow 1 0 [h]),(70,BJ b.op b.num b.kids)],[BP s0,Kv h]⟩:=(a _ _ _).2 (by
       refine xa [4] ⟨?_,pw⟩
       ·refine L7 (l:=s0) (l2:=[h]) (l':=g) rfl AA BE (JN Bf (λ_ hq=>nomatch hq)) rfl AA AA (E8 AA AA) rfl (λ_=>AA) (λ_=>Bf) S ?_ ?_
        ·exact xw f c (by exact BH [0] (.p .nil) (.same AA))
        ·exact xw a d (by exact BH [0,2] (.p (.p .nil)) (.same AA)))
      have o:zN 4 (bm 11 239) ⟨194,AL [(62,I1 p0),(63,ow 0 0 s0),(65,ow 1 0 [h]),(69,Cz b.op b.num b.kids)],[BP s0,Kv h]⟩:=(a _ _ _).2 (by
       refine xa [4,8] ⟨?_,?_,pw⟩
       ·refine L7 (l:=s0) (l2:=[h]) (l':=g) rfl AA BE (JN Bf (λ_ hq=>nomatch hq)) rfl AA AA (E8 AA AA) rfl (λ_=>AA) (λ_=>Bf) S ?_ ?_
        ·exact xw f C (by exact BH [0] (.p .nil) (.same AA))
        ·exact xw a D (by exact BH [0,2] (.p (.p .nil)) (.same AA))
       ·exact xq tb a k)
      have G:zN 6 (bm 11 47) ⟨194,AL [(62,I1 p0),(63,ow 0 0 s0),(65,ow 1 0 [h]),(67,.ptr 2 0 0 2)],[BP s0,Kv h,O8 p2.op p2.num p2.kids]⟩:=(a _ _ _).2 (by
       refine xa [4,6] ⟨?_,?_,pw⟩
       ·refine L7 (l:=s0) (l2:=[h]) (l':=g) rfl AA BE (JN Bf (JN (Di AA) (λ_ hq=>nomatch hq))) rfl AA AA (E8 AA AA) rfl (λ_=>AA) (λ_=>Bf) S ?_ ?_
        ·exact xw f P (by exact BH [0,2] (.p (.w .nil)) (.same AA))
        ·exact xw a Q (by exact BH [0,3,2] (.p (.p (.w .nil))) (.same AA))
       ·refine xo 6 (AR AA (AB ⟨AA,aX 7 (Cz b.op b.num b.kids) rfl (CI Bq AA AA z (Aj _) rfl) ?_⟩));exact xw a o (by exact BH [0,1] (.p (.p .nil)) (.same AA)))
      have t:zN 4 (bm 11 487) ⟨194,AL [(62,I1 p0),(63,ow 0 0 s0),(64,i64 h),(70,BJ b.op b.num b.kids)],[BP s0]⟩:=(a _ _ _).2 (by
       refine xa [3] ⟨?_,pw⟩
       ·refine xo 3 ?_;refine CF 1 [h] eI BE AA ?_;exact xd a k)
      have A:zN 5 (bm 11 231) ⟨194,AL [(62,I1 p0),(63,ow 0 0 s0),(64,i64 h),(69,Cz b.op b.num b.kids)],[BP s0]⟩:=(a _ _ _).2 (by
       refine xa [3,8] ⟨?_,?_,pw⟩
       ·refine xo 3 ?_;refine CF 1 [h] eI BE AA ?_;exact xd a o
       ·exact xq tb a t)
      have b6:zN 7 (bm 11 39) ⟨194,AL [(62,I1 p0),(63,ow 0 0 s0),(64,i64 h),(67,.ptr 1 0 0 2)],[BP s0,O8 p2.op p2.num p2.kids]⟩:=(a _ _ _).2 (by
       refine xa [3,6] ⟨?_,?_,pw⟩
       ·refine xo 3 ?_;refine CF 2 [h] eI BE AA ?_;exact P5 a G (by exact BH [0,2,1] (.p (.p (.w .nil))) (.same AA))
       ·refine xo 6 (AR AA (AB ⟨AA,aX 7 (Cz b.op b.num b.kids) rfl (CI Bq AA AA z (Aj _) rfl) ?_⟩));exact xw a A (by exact BH [0] (.p .nil) (.same AA)))
      have V:A35' 6 (bm 11 62) ⟨194,AL [(3,DW),(66,ow 0 0 g),(67,.ptr 2 0 0 2)],[BP g,IM p0,O8 p2.op p2.num p2.kids]⟩:=(f _ _ _).2 (by
       refine qX tb 0 AA AA (qX tb 6 AA AA (aX 7 (Cz b.op b.num b.kids) rfl (CI Bq AA AA z (Aj _) rfl) (LP tb 8 AA AA ?_)));exact xw f c (by exact BH [0] (.p .nil) (.same AA)))
      have W:zN 6 (bm 11 62) ⟨194,AL [(3,DW),(66,ow 2 0 g),(67,.ptr 3 0 0 2)],[BP s0,IM p0,BP g,O8 p2.op p2.num p2.kids]⟩:=(a _ _ _).2 (by
       refine qX tb 0 AA AA (qX tb 6 AA AA (aX 7 (Cz b.op b.num b.kids) rfl (CI Bq AA AA z (Aj _) rfl) (LP tb 8 AA AA ?_)));exact xw a d (by exact BH [0,2] (.p (.p .nil)) (.same AA)))
      have H:A35' 4 (bm 11 254) ⟨194,AL [(3,DW),(66,ow 0 0 g),(69,Cz b.op b.num b.kids)],[BP g,IM p0]⟩:=(f _ _ _).2 (by
       refine qX tb 0 AA AA (LP tb 8 AA AA ?_);exact xw f c (by exact BH [0] (.p .nil) (.same AA)))
      have I:zN 4 (bm 11 254) ⟨194,AL [(3,DW),(66,ow 2 0 g),(69,Cz b.op b.num b.kids)],[BP s0,IM p0,BP g]⟩:=(a _ _ _).2 (by
       refine qX tb 0 AA AA (LP tb 8 AA AA ?_);exact xw a d (by exact BH [0,2] (.p (.p .nil)) (.same AA)))
      have E:A35' 3 (bm 11 510) ⟨194,AL [(3,DW),(66,ow 0 0 g),(70,BJ b.op b.num b.kids)],[BP g,IM p0]⟩:=(f _ _ _).2 (by
       refine LP tb 0 AA AA ?_;exact xw f c (by exact BH [0] (.p .nil) (.same AA)))
      have F:zN 3 (bm 11 510) ⟨194,AL [(3,DW),(66,ow 2 0 g),(70,BJ b.op b.num b.kids)],[BP s0,IM p0,BP g]⟩:=(a _ _ _).2 (by
       refine LP tb 0 AA AA ?_;exact xw a d (by exact BH [0,2] (.p (.p .nil)) (.same AA)))
      have x:zN 4 (bm 11 494) ⟨194,AL [(3,DW),(63,ow 0 0 s0),(65,ow 2 0 [h]),(70,BJ b.op b.num b.kids)],[BP s0,IM p0,Kv h]⟩:=(a _ _ _).2 (by
       refine xa [0,4] ⟨?_,?_,pw⟩
       ·refine xo 0 ?_;exact AR AA (P5 a k (by exact BH [0,2] (.p (.p .nil)) (.same AA)))
       ·refine L7 (l:=s0) (l2:=[h]) (l':=g) rfl AA BE (JN (Di AA) (JN Bf (λ_ hq=>nomatch hq))) rfl AA AA (E8 AA AA) rfl (λ_=>AA) (λ_=>Bf) S ?_ ?_
        ·exact xw f E (by exact BH [0,1] (.p (.w .nil)) (.same AA))
        ·exact xw a F (by exact BH [0,1,3] (.p (.w (.p .nil))) (.same AA)))
      have B:zN 5 (bm 11 238) ⟨194,AL [(3,DW),(63,ow 0 0 s0),(65,ow 2 0 [h]),(69,Cz b.op b.num b.kids)],[BP s0,IM p0,Kv h]⟩:=(a _ _ _).2 (by
       refine xa [0,4,8] ⟨?_,?_,?_,pw⟩
       ·refine xo 0 ?_;exact AR AA (P5 a o (by exact BH [0,2] (.p (.p .nil)) (.same AA)))
       ·refine L7 (l:=s0) (l2:=[h]) (l':=g) rfl AA BE (JN (Di AA) (JN Bf (λ_ hq=>nomatch hq))) rfl AA AA (E8 AA AA) rfl (λ_=>AA) (λ_=>Bf) S ?_ ?_
        ·exact xw f H (by exact BH [0,1] (.p (.w .nil)) (.same AA))
        ·exact xw a I (by exact BH [0,1,3] (.p (.w (.p .nil))) (.same AA))
       ·exact xq tb a x)
      have b7:zN 7 (bm 11 46) ⟨194,AL [(3,DW),(63,ow 0 0 s0),(65,ow 2 0 [h]),(67,.ptr 3 0 0 2)],[BP s0,IM p0,Kv h,O8 p2.op p2.num p2.kids]⟩:=(a _ _ _).2 (by
       refine xa [0,4,6] ⟨?_,?_,?_,pw⟩
       ·refine xo 0 ?_;exact AR AA (P5 a G (by exact BH [0,2,3] (.p (.p (.w .nil))) (.same AA)))
       ·refine L7 (l:=s0) (l2:=[h]) (l':=g) rfl AA BE (JN (Di AA) (JN Bf (JN (Di AA) (λ_ hq=>nomatch hq)))) rfl AA AA (E8 AA AA) rfl (λ_=>AA) (λ_=>Bf) S ?_ ?_
        ·exact xw f V (by exact BH [0,1,3] (.p (.w (.w .nil))) (.same AA))
        ·exact xw a W (by exact BH [0,1,4,3] (.p (.w (.p (.w .nil)))) (.same AA))
       ·refine xo 6 (AR AA (AB ⟨AA,aX 7 (Cz b.op b.num b.kids) rfl (CI Bq AA AA z (Aj _) rfl) ?_⟩));exact xw a B (by exact BH [0,1,2] (.p (.w (.p .nil))) (.same AA)))
      have Z:zN 5 (bm 11 486) ⟨194,AL [(3,DW),(63,ow 0 0 s0),(64,i64 h),(70,BJ b.op b.num b.kids)],[BP s0,IM p0]⟩:=(a _ _ _).2 (by
       refine xa [0,3] ⟨?_,?_,pw⟩
       ·refine xo 0 ?_;exact AR AA (P5 a t (by exact BH [0] (.p .nil) (.same AA)))
       ·refine xo 3 ?_;refine CF 2 [h] eI BE AA ?_;exact xd a x)
      have b2:zN 6 (bm 11 230) ⟨194,AL [(3,DW),(63,ow 0 0 s0),(64,i64 h),(69,Cz b.op b.num b.kids)],[BP s0,IM p0]⟩:=(a _ _ _).2 (by
       refine xa [0,3,8] ⟨?_,?_,?_,pw⟩
       ·refine xo 0 ?_;exact AR AA (P5 a A (by exact BH [0] (.p .nil) (.same AA)))
       ·refine xo 3 ?_;refine CF 2 [h] eI BE AA ?_;exact xd a B
       ·exact xq tb a Z)
      have b9:zN 8 (bm 11 38) ⟨194,AL [(3,DW),(63,ow 0 0 s0),(64,i64 h),(67,.ptr 2 0 0 2)],[BP s0,IM p0,O8 p2.op p2.num p2.kids]⟩:=(a _ _ _).2 (by
       refine xa [0,3,6] ⟨?_,?_,?_,pw⟩
       ·refine xo 0 ?_;exact AR AA (P5 a b6 (by exact BH [0,2] (.p (.w .nil)) (.same AA)))
       ·refine xo 3 ?_;refine CF 3 [h] eI BE AA ?_;exact P5 a b7 (by exact BH [0,1,3,2] (.p (.w (.p (.w .nil)))) (.same AA))
       ·refine xo 6 (AR AA (AB ⟨AA,aX 7 (Cz b.op b.num b.kids) rfl (CI Bq AA AA z (Aj _) rfl) ?_⟩));exact xw a b2 (by exact BH [0,1] (.p (.w .nil)) (.same AA)))
      exact (a _ _ _).2 (qX tb 1 AA AA (qX tb 2 AA AA (qX tb 5 AA AA (xt a b9))))
   refine AE AA (Ae 2 AA (Cc AA (Ae 2 AA ?_)));rcases Sh.Aa e with ⟨X,e⟩|⟨X,e⟩
   ·exact zs X AA (zs X AA (zs X AA (zt X AA (AB (h5 true (BU e) _ Au)))))
   ·exact Am X AA (Am X AA (Am X AA (zf X AA (AB (h5 (!decide (p2.num=0)) (BU e) _ Au)))))
  ·refine Al AA ?_;refine Az h0 ?_ ?_<;>intro A4 h0
   ·refine AD λA5 k0=>AD λt6 k1=>bs h0 λk2 e h0=>?_;have d2:∀d3,k2=d3->∀s,Wk 1 s ⟨194,AL [(1,ow 0 0 s0),(3,DW),(5,Ca),(92,.bool d3)],[BP s0,IM p0,O8 p2.op p2.num p2.kids]⟩->t6 s:=by
     intro d3 hq s hw;subst k2;refine k1 _ (AF hw ?_);refine Az h0 ?_ ?_<;>intro A6 h0
     ·refine Al AA ?_;obtain rfl:=Sh.Bt h0;exact Ap (xr (BH (L:=[(6,i64 (-1))]) (st':=[BP s0]) [0] (.p .nil) ⟨.rfl,pw⟩))
     ·refine AH (k0 _ (AD λA7 k3=>Bu 7 (by kernel_rfl) (by kernel_rfl) (by rfl) ?_));iterate 4 refine yq tb rfl ?_
      refine bs h0 λA8 k4 h0=>fM (i:=1) (j:=Sh.len p2.kids) AT Bq AA AA AA D9 k4 (bs h0 λA9 k5 h0=>ml (enc:=(eS eI)) (u:=[]) AT Lv AA AA AA k5 Bf (bs h0 λk6 k7 h0=>Xp (v':=(i64 k6)) AT (hb 231) (KK uw k7) rfl (.val AA (.own AA AA (λ_=>AA) (.val AA (.val AA .nil)))) rfl AA (Ao (AR AA (Ad k3 ?_)))));obtain rfl:=Sh.Bt h0;exact Ap (xr (BH (L:=[(6,i64 k6)]) (st':=[BP s0]) [0] (.p .nil) ⟨.rfl,pw⟩))
    refine CZ (by kernel_rfl) (by kernel_rfl) (by rfl) ?_;iterate 2 refine yq tb rfl ?_
    refine yl tb AA AA ?_;iterate 2 refine yq tb rfl ?_
    rcases Sh.Aa e with ⟨b3,e⟩|⟨b3,e⟩
    ·refine ys b3 AA ?_;iterate 2 refine ys b3 rfl ?_
     refine yt b3 AA (yq tb AA ?_);iterate 8 refine ys rfl rfl ?_
     exact yt AA AA (Ao (d2 true (BU e) _ Au))
    ·refine yg tb b3 AA ?_;iterate 2 refine yg tb b3 rfl ?_
     refine yf b3 AA (yq tb AA ?_);rcases Sh.Aa e with ⟨J,e⟩|⟨J,e⟩
     ·refine ys J AA ?_;iterate 7 refine ys J rfl ?_
      exact yt J AA (Ao (d2 true (BU e) _ Au))
     ·refine yg tb J AA ?_;iterate 3 refine yg tb J rfl ?_
      exact bs e λd4 k8 e=>I7 (v:=(Cz d4.op d4.num d4.kids)) (GF AA AA J) rfl (CI Bq AA AA k8 (Aj _) rfl) (yg tb J AA (bs e λk9 l0 e=>XZ (rowsP:=[BP s0]) (rows0:=[BP s0]) (rows1:=[BP s0]) (rows1':=[BP s0]) (v':=(i64 k9)) [0] (GF AA AA J) (hb 170) (uw l0) rfl (by decide) rfl AA (.pure Bf .nil) rfl AA (.pure Bf .nil) rfl AA (yg tb J AA (yf J AA (Ao (d2 (!decide (k9=0)) (BU e) _ Au))))))
   ·refine Al AA ?_;refine Az h0 ?_ ?_<;>intro B0 h0
    ·refine Ai λB1 l1=>Ae 4 AA (bs h0 λy l3 h0=>La (ow 3 0 y) (N2 l3) ⟨(Bj λ_=>AA),pw⟩ (AR AA (Ad l1 (AD λB2 l4=>AD λt7 l5=>bs h0 λl6 e h0=>?_))));have d5:∀d6,l6=d6->∀s,Wk 1 s ⟨194,AL [(1,ow 0 0 s0),(3,DW),(5,Ca),(8,ow 3 0 y),(130,.bool d6)],[BP s0,IM p0,O8 p2.op p2.num p2.kids,BP y]⟩->t7 s:=by
      intro d6 hq s hw;subst l6;refine l5 _ (AF hw ?_);refine Az h0 ?_ ?_<;>intro B3 h0
      ·refine Al AA ?_;cases h0;exact Ap (xr (BH (L:=[(6,i64 (-1))]) (st':=[BP s0]) [0] (.p .nil) ⟨.rfl,pw⟩))
      ·refine AH (l4 _ (Ai λB4 l7=>AR AA (zz (Cb y) (C9 FY AA AA AA) rfl (bs h0 λt9 l8 h0=>XP (m:=4) (enc:=(eS eI)) (u:=[]) AT Lv AA AA AA l8 AA AA (AR AA (Ad l7 (AD λv0 l9=>Ai λB5 m0=>AR AA (zz (Cb y) (C9 FY AA AA AA) rfl (AR AA (Ad m0 (bs h0 λd7 e h0=>?_)))))))))));have v1:∀c4,d7=c4->∀s,Wk 1 s ⟨194,AL [(1,ow 0 0 s0),(3,DW),(5,Ca),(9,ow 3 0 c4)],[BP s0,IM p0,O8 p2.op p2.num p2.kids,ro 0 45 1 (eS eI) c4]⟩->v0 s:=by
        intro c4 hq s hw;subst d7;try dsimp only at h0
        refine l9 _ (AF hw (AD λB6 m1=>Bu 7 (by kernel_rfl) (by kernel_rfl) (by rfl) ?_));iterate 4 refine yq tb rfl ?_
        refine bs h0 λB7 m2 h0=>fM (i:=1) (j:=Sh.len p2.kids) AT Bq AA AA AA D9 m2 (yq tb AA (bs h0 λm3 m4 h0=>Xp (v':=(i64 m3)) AT (hb 231) (KK uw m4) rfl (.val AA (.own AA AA (λ_=>AA) (.val AA (.own AA AA Cv .nil)))) rfl AA (Ao (AR AA (Ad m1 ?_)))));obtain rfl:=Sh.Bt h0;exact Ap (xr (BH (L:=[(6,i64 m3)]) (st':=[BP s0]) [0] (.p .nil) ⟨.rfl,pw⟩))
       refine AJ (KB (CU N p0 y) (λb0 b8=>⟨194,AL [(1,ow 0 0 s0),(3,.ptr 1 0 0 0),(5,.ptr 2 0 0 0),(9,ow 4 0 b8),(134,ow 3 0 y),(135,i64 (Sh.len y)),(136,i64 b0)],[ro 0 3 1 eI s0,⟨0,65,2,[Dl p0]⟩,O8 p2.op p2.num p2.kids,ro 0 3 1 eI y,ro 0 45 1 (eS eI) b8]⟩) N 0 t9 e Au ?_);intro n b0 b8 e;rw[CU]at e;refine Al AA (AD λB8 m5=>?_);refine Az e ?_ ?_<;>intro B9 e
       ·refine AH (m5 _ (AD λC0 m6=>AJ (Ai λC1 m7=>AR AA (bs e λv2 c8 e=>zz (.ptr 3 0 (Int.toNat b0) 0) (HC BE AA c8) rfl (zz (i64 v2) (CL HP AA AA (CM c8) rfl) rfl (Ae 2 AA (Ad m7 (AE AA (Ae 5 AA (bs e λd8 m8 e=>HX (hb 105) (MZ m8) rfl (bs e λC2 c9 e=>zz (jS b0) (HC Lv AA c9) rfl (Ll (u':=d8) AT Mi AA AA c9 AA AA AA uC rfl AA (Ad m6 (AE AA (Ae 2 AA ?_)))))))))))))));exact AB (xi (Sh.w (b0+1),Sh.put b8 b0 d8) e (Dh [(1,.own 0 0 (List.length s0)),(3,.ptr 1 0 0 0),(5,.ptr 2 0 0 0),(9,.own 4 0 (List.length (Sh.put b8 b0 d8))),(134,.own 3 0 (List.length y)),(135,i64 (Sh.len y)),(136,i64 (Sh.w (b0+1)))] ⟨.rfl,.rfl,.rfl,(.len (by simp only[Sh.H0])),.rfl,.rfl,.rfl,pw⟩))
       ·exact As (v1 b8 (BU e) _ (BH [0,1,2,4] (.p (.w (.w (.p .nil)))) (.same AA)))
     refine CZ (by kernel_rfl) (by kernel_rfl) (by rfl) (yq tb AA (yz (Cb y) (C9 FY AA AA AA) rfl ?_));iterate 2 refine yq tb rfl ?_
     rcases Sh.Aa e with ⟨K,e⟩|⟨K,e⟩
     ·refine ys K AA ?_;iterate 6 refine ys K rfl ?_
      refine yt K AA (yq tb AA ?_);iterate 10 refine ys rfl rfl ?_
      exact yt AA AA (Ao (d5 true (BU e) _ Au))
     ·refine yg tb K AA (yg tb K AA (I7 (v:=(Cb p2.kids)) (GF AA AA K) rfl (By Zv AA) (yg tb K AA (I7 (v:=(Cb y)) (GF AA AA K) rfl (C9 FY AA AA AA) ?_))));iterate 2 refine yg tb K rfl ?_
      refine yf K AA (yq tb AA ?_);rcases Sh.Aa e with ⟨M,e⟩|⟨M,e⟩
      ·refine ys M AA ?_;iterate 9 refine ys M rfl ?_
       exact yt M AA (Ao (d5 true (BU e) _ Au))
      ·refine yg tb M AA ?_;iterate 3 refine yg tb M rfl ?_
       refine bs e λd9 m9 e=>I7 (v:=(Cz d9.op d9.num d9.kids)) (GF AA AA M) rfl (CI Bq AA AA m9 (Aj _) rfl) (yg tb M AA (bs e λq0 q1 e=>XZ (rowsP:=[BP s0]) (rows0:=[BP s0]) (rows1:=[BP s0]) (rows1':=[BP s0]) (v':=(i64 q0)) [0] (GF AA AA M) (hb 170) (uw q1) rfl (by decide) rfl AA (.pure Bf .nil) rfl AA (.pure Bf .nil) rfl AA ?_));iterate 3 refine yg tb M rfl ?_
       exact yf M AA (Ao (d5 (!decide (q0=p2.num)) (BU e) _ Au))
    ·refine AH (t2 _ (Ai λC3 q2=>Ae 2 AA (Cc AA (bs h0 λv3 q3 h0=>XP (m:=3) (enc:=eI) (u:=0) AT BE AA AA AA q3 AA AA (AR AA (Ad q2 (AD λv4 q4=>Ai λC4 q5=>Ae 2 AA (Cc AA (AR AA (Ad q5 ?_))))))))));obtain⟨g0,e,h0⟩:=Sh.BZ h0;have v5:∀(c0:(List Int)),g0=Sum.inr c0->∀s,Wk 1 s ⟨194,AL [(3,DW),(5,Ca),(12,ow 3 0 c0)],[BP s0,IM p0,O8 p2.op p2.num p2.kids,BP c0]⟩->v4 s:=by
      intro c0 hq s hw;subst g0;refine q4 _ (AF hw (Ai λC5 q6=>Ae 6 AA (D8 [(182,.agg (Dl p0)),(184,i64 p2.op),(186,i64 p2.num),(187,ls eI c0)] [ro 0 3 1 eI s0,⟨0,65,2,[Dl p0]⟩,O8 p2.op p2.num p2.kids,⟨1,3,1,[]⟩] 3 AA ⟨.rfl,.rfl,.rfl,.Bg AA,pw⟩ Cv AA (bs h0 λc1 q7 h0=>Dj (.Dv [i64 c1.1,.bool c1.2]) (hb 189) (JF q7) rfl (Ae 5 AA (Ad q6 (AD λC6 q8=>Al AA ?_)))))));refine Az h0 ?_ ?_<;>intro q9 h0
      ·have C7:c1.2=false:=by simpa using q9
       refine Al AA ?_;cases h0;exact Ap (xr (BH (L:=[(6,i64 (-1))]) (st':=[BP s0]) [0] (.p .nil) ⟨.rfl,pw⟩))
      ·have v6:c1.2=true:=by simpa using q9
       refine AH (q8 _ (Al AA ?_));cases h0;exact Ap (xr (BH (L:=[(6,i64 c1.1)]) (st':=[BP s0]) [0] (.p .nil) ⟨.rfl,pw⟩))
     refine AJ (KB (CV s0 p0 p2 uZ) (λR Y=>⟨194,AL [(1,ow 0 0 s0),(3,.ptr 1 0 0 0),(5,.ptr 2 0 0 0),(12,ow 3 0 Y),(161,ls BI p2.kids),(162,i64 (Sh.len p2.kids)),(163,i64 R)],[ro 0 3 1 eI s0,⟨0,65,2,[Dl p0]⟩,O8 p2.op p2.num p2.kids,ro 0 3 1 eI Y]⟩) N 0 v3 e Au ?_);intro n R Y e;rw[CV]at e;refine Al AA (AD λv7 g1=>?_);refine Az e ?_ ?_<;>intro v8 e
     ·refine AH (g1 _ (AD λv9 g2=>AJ (Ai λw0 g3=>AR AA (bs e λT g4 e=>zz (Cz T.op T.num T.kids) (CI Bq AA AA g4 (Aj _) rfl) rfl (AR AA (Cn 4 GG AA (AR AA (Bp BY AA (Ad g3 (Ai λw1 g5=>Ae 5 AA (bs e λb1 g6 e=>Vp (rows0:=[BP s0]) (rows1:=[BP s0]) (st':=[BP s0,IM p0,O8 p2.op p2.num p2.kids,BP Y,O8 T.op T.num T.kids]) (v':=(i64 b1)) [0] AT (hb 170) (uw g6) rfl (by decide) rfl AA (.pure Bf .nil) rfl AA (.pure Bf .nil) .nil AA AA (bs e λw2 c2 e=>zz (.ptr 3 0 (Int.toNat R) 0) (HC BE AA c2) rfl (Ll (u':=b1) AT HP AA AA c2 AA AA AA uC rfl AA (Ad g5 (Ai λw3 g7=>Ae 2 AA (bs e λt0 c3 e=>?_))))))))))))))));refine zz (.ptr 3 0 (Int.toNat R) 0) (gn BE AA AA AA (by simp only[Sh.H0]) c3) rfl ?_;refine zz (i64 t0) (CL HP AA AA (CM c3) rfl) rfl (AR AA (Ad g7 ?_));refine Az e ?_ ?_<;>intro w4 e
      ·refine Al AA ?_;cases e;cases h0;exact Ap (xr (BH (L:=[(6,i64 (-1))]) (st':=[BP s0]) [0] (.p .nil) ⟨.rfl,pw⟩))
      ·refine AH (g2 _ (AE AA (Ae 2 AA ?_)));exact AB (xi (Sh.w (R+1),Sh.put Y R b1) e (by refine Wk.trans (BH (L:=[(1,.own 0 0 (List.length s0)),(3,.ptr 1 0 0 0),(5,.ptr 2 0 0 0),(12,.own 3 0 (List.length Y)),(161,.sl (List.map BI p2.kids)),(162,i64 (Sh.len p2.kids)),(163,i64 (Sh.w (R+1)))]) (st':=[⟨0,3,1,List.map eI s0⟩,⟨0,65,2,[Dl p0]⟩,⟨0,53,3,[[i64 p2.op,i64 p2.num,.sl (List.map BI p2.kids)]]⟩,⟨0,3,1,List.map eI (Sh.put Y R b1)⟩]) [0,1,2,3] (.p (.w (.w (.p .nil)))) ⟨.rfl,.rfl,.rfl,.rfl,.rfl,.rfl,.rfl,pw⟩) ?_;exact Dh [(1,.own 0 0 (List.length s0)),(3,.ptr 1 0 0 0),(5,.ptr 2 0 0 0),(12,.own 3 0 (List.length (Sh.put Y R b1))),(161,.sl (List.map BI p2.kids)),(162,i64 (Sh.len p2.kids)),(163,i64 (Sh.w (R+1)))] ⟨.rfl,.rfl,.rfl,(.len (by simp only[Sh.H0])),.rfl,.rfl,.rfl,pw⟩))
     ·exact As (v5 Y (BU e) _ Au)
theorem Nq {N:Nat}:∀(n:Nat),∀{s0:(List Int)} {p0:Ah} {p2:AG} {r:Int},Bo N n s0 p0 p2=some r->Bn 170 [I1 p0,ow 0 0 s0,BJ p2.op p2.num p2.kids] [BP s0] (i64 r) [BP s0]:=by
 intro n
 induction n with
 | zero=>intro s0 p0 p2 r a;cases a
 | succ n ih=>
  intro s0 p0 p2 r a;rw[Bo]at a;exact N3 (λh=>ih h) a
theorem Ow {N:Nat}:∀{s0:(List Int)} {p0:Ah} {p2:AG} {r:Int},JP N s0 p0 p2=some r->Bn 170 [I1 p0,ow 0 0 s0,BJ p2.op p2.num p2.kids] [BP s0] (i64 r) [BP s0]:=by
 intro s0 p0 p2 r a;exact Nq N a
theorem Wl {N:Nat}{p0:AP}{p1:(List Int)}{p2:AG}{r:Int}(h0:OH N p0 p1 p2=some r):Bn 101 (YS p0.decls p0.funcs p1 p2.op p2.num p2.kids) [] (i64 r) []:=by
 unfold OH at h0;refine Cx Tryz.func101 AA (Ai λJ x=>Et 0 AA (Et 1 AA (AR AA (Ad x (AD λK y=>AD λF z=>bs h0 λE g h0=>?_)))));have A:∀{B},JJ E B ⟨28,AL (R4 p1 [(21,.bool B)]),[⟨0,40,2,[[Cd p0.decls,ls Bd p0.funcs]]⟩,O8 p2.op p2.num p2.kids]⟩ F:=by
  rintro _ ⟨⟩ s G;refine z _ (AF G ?_);refine Az h0 ?_ ?_<;>intro M h0
  ·refine Al AA ?_;cases h0;exact rd [(6,i64 (-1))]
  ·refine AH (y _ (AD λO C=>Iw (by kernel_rfl) (bs h0 λo p h0=>bs h0 λh l h0=>bs h0 λn q h0=>NB λA12 a=>?_)));have e:A12 0 (bm 7 127) ⟨28,AL [(6,i64 n)],[]⟩:=(a _ _ _).2 (by
    refine GP AA (by kernel_rfl) (C _ ?_);obtain rfl:=Sh.Bt h0;exact Ap (Exists.intro _ (And.intro (ET (L:=[(6,i64 n)]) (.same AA)) (And.intro AA AA))))
   have b:A12 2 (bm 7 31) ⟨28,AL [(23,I1 o),(25,ow 0 0 h),(26,BJ p2.op p2.num p2.kids)],[BP h]⟩:=(a _ _ _).2 (by
    refine xa [5] ⟨?_,pw⟩
    ·refine xo 5 (Vp (rows0:=[BP h]) (rows1:=[BP h]) (st':=[BP h]) (v':=(i64 n)) [0] AT (hb 170) (Ow q) rfl (by decide) rfl AA (.pure Bf .nil) rfl AA (.pure Bf .nil) .nil AA AA (AB ⟨AA,LP tb 6 AA AA ?_⟩));exact xw a e (by exact IF [] AA AA .nil (.same AA)))
   have d:A12 3 (bm 7 23) ⟨28,AL [(23,I1 o),(24,ls eI p1),(26,BJ p2.op p2.num p2.kids)],[]⟩:=(a _ _ _).2 (by
    refine xa [3] ⟨?_,pw⟩
    ·refine xo 3 ?_;exact HZ (v':=(ow 0 0 h)) AT (hb 56) (Bc l) rfl AA ⟨(Bj λ_=>AA),pw⟩ AA AA (xd a b))
   have i:A12 4 (bm 7 7) ⟨28,AL [(5,Aq),(23,I1 o),(24,ls eI p1)],[O8 p2.op p2.num p2.kids]⟩:=(a _ _ _).2 (by
    refine xa [3,4] ⟨?_,?_,pw⟩
    ·refine xo 3 (HZ (v':=(ow 1 0 h)) AT (hb 56) (Bc l) rfl AA ⟨(Bj λ_=>AA),pw⟩ AA AA (AB ⟨AA,LP tb 4 AA AA ?_⟩));exact xw a b (by exact IF [1] AA AA (.p .nil) (.same AA))
    ·refine xo 4 ?_;exact AR AA (P5 a d (by exact IF [] AA AA .nil (.same AA))))
   have j:A12 4 (bm 7 21) ⟨28,AL [(22,Jn p0.decls p0.funcs),(24,ls eI p1),(26,BJ p2.op p2.num p2.kids)],[]⟩:=(a _ _ _).2 (by
    refine xa [1] ⟨?_,pw⟩
    ·refine xo 1 ?_;exact Dj (I1 o) (hb 169) (RN p) rfl (xd a d))
   have k:A12 5 (bm 7 5) ⟨28,AL [(5,Aq),(22,Jn p0.decls p0.funcs),(24,ls eI p1)],[O8 p2.op p2.num p2.kids]⟩:=(a _ _ _).2 (by
    refine xa [1,4] ⟨?_,?_,pw⟩
    ·refine xo 1 ?_;exact Dj (I1 o) (hb 169) (RN p) rfl (xd a i)
    ·refine xo 4 ?_;exact AR AA (P5 a j (by exact IF [] AA AA .nil (.same AA))))
   refine (a _ _ _).2 (qX tb 0 AA AA (LP tb 2 AA AA ?_));exact xw a k (by exact IF [1] AA AA (.w .nil) (.same AA))
 refine AE AA (AR AA (bs g λH t g=>HX (hb 100) (O2 t) rfl (Ae 2 AA ?_)));rcases Sh.Aa g with ⟨f,g⟩|⟨f,g⟩
 ·refine zs f AA (zs f AA (zs f AA (zt f AA (AR AA ?_))));iterate 5 refine zs rfl rfl ?_
  exact zt AA AA (AB (A g Au))
 ·refine Am f AA (bs g λI u g=>zd f (hb 168) (U6 u) rfl AA AA AA (Am f AA (zf f AA (AR AA ?_))));rcases Sh.Aa g with ⟨c,g⟩|⟨c,g⟩
  ·refine zs c AA ?_;iterate 4 refine zs c rfl ?_
   exact zt c AA (AB (A g Au))
  ·exact Am c AA (Am c AA (Am c AA (bs g λD w g=>zd c (hb 138) (Ma w) rfl AA AA AA (Am c AA (zf c AA (AB (A g Au)))))))
theorem RQ {N:Nat}{p0:AP}{r:Bool}(h0:H7 N p0=some r):Bn 53 [Jn p0.decls p0.funcs] [] (.bool r) []:=by
 unfold H7 at h0;refine Cx Tryz.func53 AA (Ai λM p=>Et 0 AA (AR AA (Ad p (AD λO q=>Ai λP t=>AR AA (bs h0 λz u h0=>HX (hb 100) (O2 u) rfl (AR AA (Ad t ?_)))))));refine Az h0 ?_ ?_<;>intro A h0
 ·have Q:z=false:=by simpa using A
  refine Al AA ?_;cases h0;exact rd [(2,.bool false)]
 ·have R:z=true:=by simpa using A
  refine AH (q _ (AD λC x=>Ai λD e=>Ae 2 AA (Cc AA (AR AA (Ad e ?_)))));obtain⟨b,a,h0⟩:=Sh.BZ h0;have y:JJ b (.inr ()) ⟨25,AL [],[]⟩ C:=by
   rintro⟨⟩ s E;refine x _ (AF E (Al AA ?_));cases h0;exact rt [(2,.bool true)]
  refine AJ (Le (Eu N p0) (λc=>⟨25,AL [(1,.ptr 0 0 0 0),(9,ls Bd p0.funcs),(10,i64 (Sh.len p0.funcs)),(11,i64 c)],[⟨0,40,2,[[ls Ak p0.decls,ls Bd p0.funcs]]⟩]⟩) N 0 a Au ?_);intro n c a;rw[Eu]at a;refine Al AA (AD λF f=>?_);refine Az a ?_ ?_<;>intro G a
  ·refine AH (f _ (AD λH g=>AJ (Ai λI h=>bs a λi j a=>Gz Ee j AA (AR AA (Cn 1 PZ AA (Bp Mf AA (Ad h (AD λJ k=>CZ (by kernel_rfl) (by kernel_rfl) (by rfl) ?_))))))));iterate 5 refine yq tb rfl ?_
   refine bs a λd l a=>Fa (Wl l) ?_;iterate 3 refine yq tb rfl ?_
   refine Ao (k _ ?_);refine Az a ?_ ?_<;>intro o a
   ·have K:decide (d=i.result)=false:=by simpa using o
    refine Al AA ?_;cases a;cases h0;exact rd [(2,.bool false)]
   ·have L:decide (d=i.result)=true:=by simpa using o
    exact AH (g _ (AE AA (Ae 2 AA (AB (xi (Sh.w (c+1)) a (BH [0] (.w .nil) (.same AA)))))))
  ·exact As (y a (Bi _ AA))
theorem NR {N:Nat}{ue:(List AI)->Int->(List Step)->AG->(List Int)->Option (Int×Int×(List Step))}(vB :∀{uT:(List AI)} {uV:Int} {s1:(List Step)} {p1:AG} {p2:(List Int)} {r:Int×Int×(List Step)},ue uT uV s1 p1 p2=some r->Bn 55 [Aq,BJ p1.op p1.num p1.kids,ls eI p2] (Pq uT uV s1) (i64 r.1) (Lz uT r.2.1 r.2.2)){uT:(List AI)}{uV:Int}{s1:(List Step)}{p1:AG}{p2:(List Int)}{p3:Int}{r:Block}(h0:Io N ue uT uV s1 p1 p2 p3=some r):Bn 106 [Aq,BJ p1.op p1.num p1.kids,ls eI p2,i64 p3] (Pq uT uV s1) (I0 r) (Pq uT uV s1):=by
 unfold Io at h0;refine BS.wk (r0:=(I0 r)) (st0:=[S0 uT uV s1,Ck s1,⟨0,48,2,[jd r]⟩]) (Cx Tryz.func106 AA (Ai λZ H=>Et 2 AA (BD (Wk.Bg (L:=(Ef p2 [(3,i64 p3),(5,Cz p1.op p1.num p1.kids)])) (st':=[S0 uT uV s1,Ck s1,Gx]) (id:=2) rfl uI (Di AA) (.same AA) rfl) (Cn 3 Rj AA (Ad H (AD λK2 I=>JX (by kernel_rfl) (NY (f':=13) (listed':=(bm 13 0)) rfl (by kernel_rfl) (hZ 0 Aq AA (CH (D7 AA)) (hZ 1 Aq AA (CH (G6 AA AA)) (hZ 2 Aq AA (CH (Kr aH AA AA uQ rfl)) (hZ 4 Aq AA (CH (D7 AA)) (hZ 5 Aq AA (CH (G6 AA AA)) (hZ 6 (.ptr 0 0 0 1) rfl (CH (Kr mM AA AA (show 0+1<=3 by decide) rfl)) (hZ 8 (i64 p3) rfl (CH (D7 AA)) (NU (L9 λA3 b=>?_)))))))))))))))) (Fy (L:=[(0,I0 r)]) (st':=(Pq uT uV s1)) [0,1] AA (by decide) rfl AA (.raw AA (.pure (AM Ab) pw)) (.same AA));have g:A3 0 (bm 13 8191) ⟨47,AL (Ef p2 (bA p3 p1.op p1.num p1.kids [(9,G1)])),[S0 uT uV s1,Ck s1,Vs,⟨0,92,3,[dk uT uV p3]⟩]⟩:=(b _ _ _).2 (by
  refine Kf AA (by kernel_rfl) (I _ (Ai λK4 J=>AR AA (bs h0 λP K h0=>La (ow 4 0 P) (Bc K) ⟨(Bj λ_=>AA),pw⟩ (AR AA (Ad J (AD λR M=>Al AA (bs h0 λt q h0=>?_)))))));have O:∀p,t=p->∀s,Wk 2 s ⟨47,AL [(5,Cz p1.op p1.num p1.kids),(8,Ca),(9,G1),(10,ow 4 0 p)],[S0 uT uV s1,Ck s1,Vs,⟨0,92,3,[dk uT uV p3]⟩,BP p]⟩->R s:=by
   intro p hq s S;subst t;refine M _ (AF S (Ai λT z=>Ae 2 AA (BD (Jf (id:=3) (st':=[S0 uT uV s1,Ck s1,Vs,nS uT uV p3,BP p,Y7]) (j:=2) rfl AA 80 (size':=5) (by decide) rfl AA AA AA) (D8 [(8,Ca),(9,G1),(40,BJ p1.op p1.num p1.kids),(41,ls eI p)] [S0 uT uV s1,Ck s1,Vs,nS uT uV p3,⟨1,3,1,[]⟩,Y7] 4 AA ⟨.rfl,.rfl,.rfl,.Bg AA,pw⟩ Cv AA (bs h0 λc A h0=>?_)))));refine DX (rowsP:=[nS uT uV p3,Y7]) (rows0:=[⟨0,92,3,[[Cd uT,i64 (Sh.w (uV+p3)),ni]]⟩,Y7]) (rows1:=[PA uT c.2.1 c.2.2,Ct]) (rows2:=[Ck c.2.2]) (rows1':=[iu uT c.2.1 c.2.2,Ct]) (rows2':=[Ck c.2.2]) (st':=[S0 uT uV s1,Ck s1,Vs,iu uT c.2.1 c.2.2,⟨1,3,1,[]⟩,Ct,Ck c.2.2]) (v':=(i64 c.1)) [3,5] AT (hb 55) (vB A) rfl (by decide) rfl AA (.raw AA AA (.pure (AM Ab) .nil)) rfl AA (.raw AA AA (.pure nN .nil)) (.pure (AM Ab) .nil) rfl AA ?_;refine AR AA (Ad z (Ai λV B=>Ae 3 AA (zz (.agg [ow 6 0 c.2.2,i64 c.1]) (DA jz kF Rj AA AA) rfl (BD (Wk.Bg (L:=[(8,Ca),(46,.agg (gx c.2.2 c.1))]) (st':=[S0 uT uV s1,Ck s1,Vs,iu uT c.2.1 c.2.2,⟨1,3,1,[]⟩,Ct,Ct]) (id:=6) rfl uA (AM Ab) ⟨.rfl,.agg ⟨.Gs AA,.rfl,pw⟩,pw⟩ AA) (Bp WR AA (Ad B ?_))))));cases h0;exact Ap ⟨_,(BH (L:=[(8,Ca)]) (st':=[S0 uT uV s1,Ck s1,⟨0,48,2,[gx c.2.2 c.1]⟩]) [0,1,2] (.w (.pure (AM Ab) (.w .nil))) ⟨.rfl,pw⟩).trans (Dh [(8,Ca)] ⟨.rfl,pw⟩),Gw (.tmp 8) (gx c.2.2 c.1) WR AA _ ⟨AA,AA⟩⟩
  refine AJ (KB (EV uV p3) (λu C=>⟨47,AL [(0,.ptr 0 0 0 0),(5,.CT [i64 p1.op,i64 p1.num,ls BI p1.kids] 0),(8,.ptr 2 0 0 0),(9,.ptr 3 0 0 0),(10,ow 4 0 C),(26,i64 p3),(27,i64 u)],[⟨0,92,3,[[ls Ak uT,i64 uV,ow 1 0 s1]]⟩,ro 0 80 5 C8 s1,Vs,⟨0,92,3,[[ls Ak uT,i64 (Sh.w (uV+p3)),.zc]]⟩,ro 0 3 1 eI C]⟩) N 0 P q Au ?_);intro n u C q;rw[EV]at q;refine Al AA (AD λW D=>?_);refine Az q ?_ ?_<;>intro X q
  ·refine AH (D _ (AD λY E=>AJ (Al AA (AE AA (Ae 7 AA (CF 5 [Sh.w (uV+u)] eI BE AA (bs q λy G q=>Lb [Sh.w (uV+u)] BE AA (E8 AA AA) G (AR AA (Ad E (AE AA (Ae 2 AA ?_)))))))))));exact AB (xi (Sh.w (u+1),y) q (by refine Wk.trans (CS (L:=[(0,Aq),(5,Cz p1.op p1.num p1.kids),(8,Ca),(9,G1),(10,ow 4 0 y),(26,i64 p3),(27,Kp u)]) (st':=[S0 uT uV s1,Ck s1,Vs,⟨0,92,3,[dk uT uV p3]⟩,BP y,ro 0 3 1 eI [Sh.w (uV+u)]]) (.raw AA AA AA (.pure AA (AM Ab) (.raw AA AA AA (.raw AA AA AA (.pure AA Bf (.pure AA Bf .nil)))))) (.same AA)) ?_;exact BH [0,1,2,3,4] (.w (.pure (AM Ab) (.w (.w (.p .nil))))) (.same AA)))
  ·exact As (O C (BU q) _ (Dh [(5,Cz p1.op p1.num p1.kids),(8,Ca),(9,G1),(10,ow 4 0 C)] (.same AA))))
 have d:A3 1 (bm 13 4095) ⟨47,AL (Ef p2 (bA p3 p1.op p1.num p1.kids [(9,G1),(23,.agg (dk uT uV p3))])),mC uT uV s1⟩:=(b _ _ _).2 (by
  refine ya [12] ⟨?_,pw⟩
  ·refine yo 12 ?_;exact Bp mm AA (yd b g))
 have h:A3 2 (bm 13 2047) ⟨47,AL (Ef p2 (bA p3 p1.op p1.num p1.kids [(23,.agg (dk uT uV p3))])),[S0 uT uV s1,Ck s1,Vs]⟩:=(b _ _ _).2 (by
  refine ya [11] ⟨?_,pw⟩
  ·refine yo 11 ?_;exact Cn 3 WU AA (yd b d))
 have a:A3 2 (bm 13 3071) ⟨47,AL (Ef p2 (bA p3 p1.op p1.num p1.kids [(9,G1),(16,Cd uT),(22,i64 (Sh.w (uV+p3)))])),mC uT uV s1⟩:=(b _ _ _).2 (by
  refine ya [10] ⟨?_,pw⟩
  ·refine yo 10 ?_;exact zz (.agg (dk uT uV p3)) (DA kS lC WU AA AA) rfl (yd b d))
 have e:A3 3 (bm 13 1023) ⟨47,AL (Ef p2 (bA p3 p1.op p1.num p1.kids [(16,Cd uT),(22,i64 (Sh.w (uV+p3)))])),[S0 uT uV s1,Ck s1,Vs]⟩:=(b _ _ _).2 (by
  refine ya [10,11] ⟨?_,?_,pw⟩
  ·refine yo 10 ?_;exact zz (.agg (dk uT uV p3)) (DA kS lC WU AA AA) rfl (yd b h)
  ·refine yo 11 ?_;exact Cn 3 WU AA (yd b a))
 have f:A3 3 (bm 13 2559) ⟨47,AL (Ef p2 (bA p3 p1.op p1.num p1.kids [(9,G1),(16,Cd uT),(20,i64 uV),(21,i64 p3)])),mC uT uV s1⟩:=(b _ _ _).2 (by
  refine ya [9] ⟨?_,pw⟩
  ·exact iJ tb b a)
 have i:A3 4 (bm 13 511) ⟨47,AL (Ef p2 (bA p3 p1.op p1.num p1.kids [(16,Cd uT),(20,i64 uV),(21,i64 p3)])),[S0 uT uV s1,Ck s1,Vs]⟩:=(b _ _ _).2 (by
  refine ya [9,11] ⟨?_,?_,pw⟩
  ·exact iJ tb b e
  ·refine yo 11 ?_;exact Cn 3 WU AA (yd b f))
 have k:A3 4 (bm 13 2551) ⟨47,AL (Ef p2 (bA p3 p1.op p1.num p1.kids [(9,G1),(15,Aq),(20,i64 uV),(21,i64 p3)])),mC uT uV s1⟩:=(b _ _ _).2 (by
  refine ya [3,9] ⟨?_,?_,pw⟩
  ·exact iJ tb b f
  ·refine yo 9 ?_;refine AR AA (AB ⟨AA,?_⟩);refine qY tb 3 AA AA ?_;exact cF b a)
 have o:A3 5 (bm 13 503) ⟨47,AL (Ef p2 (bA p3 p1.op p1.num p1.kids [(15,Aq),(20,i64 uV),(21,i64 p3)])),[S0 uT uV s1,Ck s1,Vs]⟩:=(b _ _ _).2 (by
  refine ya [3,9,11] ⟨?_,?_,?_,pw⟩
  ·exact iJ tb b i
  ·refine yo 9 ?_;refine AR AA (AB ⟨AA,?_⟩);refine qY tb 3 AA AA ?_;exact cF b e
  ·refine yo 11 ?_;exact Cn 3 WU AA (yd b k))
 refine (b _ _ _).2 (qY tb 7 AA AA ?_);exact yw b o (by exact BH [0,1,3] (.w (.pure (AM Ab) (.w .nil))) (.same AA))
theorem Nn {uT:(List AI)}{uV:Int}{s1:(List Step)}{p1:Step}{r:Int×Int×(List Step)}(h0:HV uT uV s1 p1=some r):Bn 107 [Aq,.agg (Tj p1)] (Pq uT uV s1) (i64 r.1) (Lz uT r.2.1 r.2.2):=by
 unfold HV at h0;refine Cx Tryz.func107 AA (AF (Wk.move (id:=1) (p:=0) (j:=2) (st':=(Lz uT uV s1)) rfl AA (by decide) rfl AA) (Ai λo h=>Et 3 AA (BD (Wk.Bg (L:=[(0,Aq),(3,.CT (Tj p1) 0)]) (st':=(IZ uT uV s1 [Ct])) (id:=3) rfl uF (Di AA) (.same AA) rfl) (AR AA (Ad h (AD λq i=>JX (by kernel_rfl) (bs h0 λf k h0=>NY (f':=11) (listed':=(bm 11 0)) rfl (by kernel_rfl) (hZ 0 Aq AA (CH (D7 AA)) (hZ 1 Aq AA (CH (D7 AA)) (hZ 2 Aq AA (CH (G6 AA AA)) (hZ 3 (.ptr 0 0 0 2) rfl (CH (Kr lp AA AA tz rfl)) (hZ 5 (.agg (Tj p1)) rfl (MB Zy AA tx rfl) (NU (L9 λA4 c=>?_))))))))))))));have a:A4 0 (bm 11 2047) ⟨27,AL [(0,Aq)],Lz uT uV f⟩:=(c _ _ _).2 (by
  refine Kf AA (by kernel_rfl) (i _ (Ai λs n=>Ae 7 AA (Bp HP AA (Ad n (Al AA ?_)))));cases h0;exact Ap ⟨_,Dh [(4,i64 (Sh.w ((Sh.w (uV+1))-1)))] (.same AA),And.intro AA AA⟩)
 have b:A4 1 (bm 11 1023) ⟨27,AL [(0,Aq),(12,ow 2 1 f),(14,.ptr 0 0 0 2)],[PA uT uV s1,Ct,ro 1 80 5 C8 f]⟩:=(c _ _ _).2 (by
  refine ya [10] ⟨?_,pw⟩
  ·refine yo 10 ?_;exact Bp YV AA (Wg c a (by exact CS (L:=[(0,Aq)]) (st':=(Lz uT uV f)) (.raw AA AA AA (.pure AA nN (.pure AA (AM Ab) .nil))) (.same AA))))
 have d:A4 4 (bm 11 127) ⟨27,AL [(0,Aq),(5,Aq),(9,ow 2 0 s1),(11,ow 3 0 [p1])],IZ uT uV s1 [ro 0 80 5 C8 [p1]]⟩:=(c _ _ _).2 (by
  refine ya [7] ⟨?_,pw⟩
  ·refine yo 7 (Fx (l2:=[p1]) AT MC AA AA AA AA (E8 AA AA Kl) Lw k AA (AB ⟨AA,hY 8 Aq AA (G6 AA AA) (qY tb 9 AA AA ?_)⟩));exact yw c b (by exact G2 (L:=[(0,Aq),(12,ow 2 1 f),(14,.ptr 0 0 0 2)]) (st':=[PA uT uV s1,Ct,ro 1 80 5 C8 f]) (st1:=[PA uT uV s1,Ct,ro 1 80 5 C8 f]) [0,1,2] (.w (.pure nN (.pure (AM Ab) .nil))) (.same AA)))
 have e:A4 5 (bm 11 63) ⟨27,AL [(0,Aq),(5,Aq),(9,ow 2 0 s1),(10,.agg (Tj p1))],Lz uT uV s1⟩:=(c _ _ _).2 (by
  refine ya [6] ⟨?_,pw⟩
  ·refine yo 6 ?_;refine MN (m:=3) (l:=[p1]) (enc:=C8) AT MC (by decide) rfl AA (by simp only[List.map,Gn];rfl) rfl AA AA ?_;exact yd c d)
 refine (c _ _ _).2 (qY tb 4 AA AA ?_);exact yw c e (by exact G2 (L:=[(0,Aq),(5,Aq),(9,ow 2 0 s1),(10,.agg (Tj p1))]) (st':=(Lz uT uV s1)) (st1:=(Lz uT uV s1)) [0,1,2] (.w (.pure nN (.pure (AM Ab) .nil))) (.same AA))
theorem Pv {N:Nat}{ue:(List AI)->Int->(List Step)->AG->(List Int)->Option (Int×Int×(List Step))}(vB :∀{uT:(List AI)} {uV:Int} {s1:(List Step)} {p1:AG} {p2:(List Int)} {r:Int×Int×(List Step)},ue uT uV s1 p1 p2=some r->Bn 55 [Aq,BJ p1.op p1.num p1.kids,ls eI p2] (Pq uT uV s1) (i64 r.1) (Lz uT r.2.1 r.2.2)){uT:(List AI)}{uV:Int}{s1:(List Step)}{p1:AG}{p2:(List Int)}{r:Int×Int×(List Step)}(h0:II N ue uT uV s1 p1 p2=some r):Bn 55 [Aq,BJ p1.op p1.num p1.kids,ls eI p2] (Pq uT uV s1) (i64 r.1) (Lz uT r.2.1 r.2.2):=by
 unfold II at h0;refine Cx Tryz.func55 AA (AF (Wk.move (id:=1) (p:=0) (j:=2) (st':=(Lz uT uV s1)) rfl AA (by decide) rfl AA) (Ai λK1 q9=>Et 3 AA (BD (Wk.Bg (L:=(Ef p2 [(4,Cz p1.op p1.num p1.kids)])) (st':=(IZ uT uV s1 [Gx])) (id:=3) rfl uF (Di AA) (.same AA) rfl) (AR AA (Ad q9 (AD λK2 t0=>Al AA (AJ (Al AA ?_))))))));refine Az h0 ?_ ?_<;>intro b5 h0
 ·refine Ai λK6 t1=>Ae 3 AA (bs h0 λc7 t2 h0=>Gz BE t2 AA (Ae 2 AA (Ad t1 ?_)));cases h0;exact Ap (xr (G2 (L:=[(6,i64 c7)]) (st':=(Lz uT uV s1)) (st1:=(Lz uT uV s1)) [0,1,2] (.w (.pure nN (.pure (AM Ab) .nil))) (.same AA)))
 ·refine Al AA ?_;refine Az h0 ?_ ?_<;>intro b9 h0
  ·refine Ai λv2 k5=>Ae 3 AA (bs h0 λk1 k6 h0=>zz (Cz k1.op k1.num k1.kids) (CI Bq AA AA k6 (Aj _) rfl) rfl (Ae 2 AA (bs h0 λb k7 h0=>?_)));refine DX (rowsP:=(XK uT uV s1)) (rows0:=(Pq uT uV s1)) (rows1:=[PA uT b.2.1 b.2.2,Ct]) (rows2:=[Ck b.2.2]) (rows1':=[Tp uT b.2.1 b.2.2,Ct]) (rows2':=[Ck b.2.2]) (st':=[Tp uT b.2.1 b.2.2,Ct,Ct,Gx,Ck b.2.2]) (v':=(i64 b.1)) [0,2] AT (hb 55) (vB k7) rfl (by decide) rfl AA (.raw AA AA (.pure (AM Ab) .nil)) rfl AA (.raw AA AA (.pure nN .nil)) (.pure (AM Ab) .nil) rfl AA ?_;refine AR AA (Ad k5 (AD λv3 k8=>Iw (by kernel_rfl) (bs h0 λc d5 h0=>bs h0 λu d1 h0=>bs h0 λO h3 h0=>bs h0 λJ k9 h0=>NB λA18 d=>?_)));have X:A18 0 (bm 12 4095) ⟨129,AL [(6,i64 J.1)],Lz uT J.2.1 J.2.2⟩:=(d _ _ _).2 (by
    refine GP AA (by kernel_rfl) (k8 _ ?_);cases h0;exact Ap ⟨_,Dh [(6,i64 J.1)] (.same AA),And.intro AA AA⟩)
   have z:A18 2 (bm 12 1023) ⟨129,AL (ek c.op c.num c.kids O []),Y9 uT b.2.1 b.2.2 O⟩:=(d _ _ _).2 (by
    refine xa [10] ⟨?_,pw⟩
    ·refine xo 10 (D8 [(34,Aq),(38,BJ c.op c.num c.kids),(43,ls eI O)] (IZ uT b.2.1 b.2.2 [⟨1,3,1,[]⟩]) 3 AA ⟨.rfl,.rfl,.Bg AA,pw⟩ Cv AA ?_);refine DX (rowsP:=(XK uT b.2.1 b.2.2)) (rows0:=(Pq uT b.2.1 b.2.2)) (rows1:=[PA uT J.2.1 J.2.2,Ct]) (rows2:=[Ck J.2.2]) (rows1':=[Tp uT J.2.1 J.2.2,Ct]) (rows2':=[Ck J.2.2]) (st':=[Tp uT J.2.1 J.2.2,Ct,Ct,⟨1,3,1,[]⟩,Ck J.2.2]) (v':=(i64 J.1)) [0,2] AT (hb 55) (vB k9) rfl (by decide) rfl AA (.raw AA AA (.pure (AM Ab) .nil)) rfl AA (.raw AA AA (.pure nN .nil)) (.pure (AM Ab) .nil) rfl AA ?_;refine AB ⟨AA,LP tb 11 AA AA ?_⟩;exact xw d X (by exact G2 (L:=[(6,i64 J.1)]) (st':=(Lz uT J.2.1 J.2.2)) (st1:=[Tp uT J.2.1 J.2.2,Ct,Ck J.2.2]) [0,1,4] (.w (.pure nN (.pure (AM Ab) .nil))) (.same AA)))
   have B:A18 3 (bm 12 511) ⟨129,AL [(34,Aq),(38,BJ c.op c.num c.kids),(40,ow 3 0 u),(42,ow 4 0 [b.1])],Wq uT b.2.1 b.2.2 u b.1⟩:=(d _ _ _).2 (by
    refine xa [9] ⟨?_,pw⟩
    ·refine xo 9 ?_;refine Lb [b.1] BE AA (E8 AA AA) h3 (AB ⟨AA,?_⟩);exact Ie (by refine Wk.trans (CS (L:=(ek c.op c.num c.kids O [])) (st':=(Wq uT b.2.1 b.2.2 O b.1)) (.raw AA AA AA (.pure AA nN (.pure AA (AM Ab) (.pure AA Bf (.pure AA Bf .nil))))) (.same AA)) ?_;exact G2 (L:=(ek c.op c.num c.kids O [])) (st':=(Y9 uT b.2.1 b.2.2 O)) (st1:=(Y9 uT b.2.1 b.2.2 O)) [0,1,2,3] (.w (.pure nN (.pure (AM Ab) (.p .nil)))) (.same AA)) (Ks (by kernel_rfl) ((d _ _ _).1 z)) rfl)
   have U:A18 4 (bm 12 255) ⟨129,AL [(34,Aq),(38,BJ c.op c.num c.kids),(40,ow 3 0 u),(41,i64 b.1)],Y9 uT b.2.1 b.2.2 u⟩:=(d _ _ _).2 (by
    refine xa [8] ⟨?_,pw⟩
    ·refine xo 8 ?_;refine CF 4 [b.1] eI BE AA ?_;exact xd d B)
   have V:A18 4 (bm 12 447) ⟨129,AL [(34,Aq),(38,BJ c.op c.num c.kids),(39,ls eI p2),(42,ow 3 0 [b.1])],lA uT b.2.1 b.2.2 b.1⟩:=(d _ _ _).2 (by
    refine xa [6] ⟨?_,pw⟩
    ·refine xo 6 ?_;exact La (ow 4 0 u) (Bc d1) ⟨(Bj λ_=>AA),pw⟩ (P5 d B (by exact G2 (L:=[(34,Aq),(38,BJ c.op c.num c.kids),(40,ow 3 0 u),(42,ow 4 0 [b.1])]) (st':=(Wq uT b.2.1 b.2.2 u b.1)) (st1:=(Wq uT b.2.1 b.2.2 u b.1)) [0,1,2,4,3] (.w (.pure nN (.pure (AM Ab) (.p (.p .nil))))) (.same AA))))
   have d2:A18 5 (bm 12 191) ⟨129,AL [(34,Aq),(38,BJ c.op c.num c.kids),(39,ls eI p2),(41,i64 b.1)],Lz uT b.2.1 b.2.2⟩:=(d _ _ _).2 (by
    refine xa [6,8] ⟨?_,?_,pw⟩
    ·refine xo 6 ?_;exact La (ow 3 0 u) (Bc d1) ⟨(Bj λ_=>AA),pw⟩ (xd d U)
    ·refine xo 8 ?_;refine CF 3 [b.1] eI BE AA ?_;exact xd d V)
   have I:A18 4 (bm 12 495) ⟨129,AL [(34,Aq),(37,Cz c.op c.num c.kids),(40,ow 3 0 u),(42,ow 4 0 [b.1])],Wq uT b.2.1 b.2.2 u b.1⟩:=(d _ _ _).2 (by
    refine xa [4,9] ⟨?_,?_,pw⟩
    ·exact xq tb d B
    ·refine xo 9 ?_;refine Lb [b.1] BE AA (E8 AA AA) h3 (AB ⟨AA,?_⟩);refine LP tb 4 AA AA ?_;exact Ie (by refine Wk.trans (CS (L:=(ek c.op c.num c.kids O [])) (st':=(Wq uT b.2.1 b.2.2 O b.1)) (.raw AA AA AA (.pure AA nN (.pure AA (AM Ab) (.pure AA Bf (.pure AA Bf .nil))))) (.same AA)) ?_;exact G2 (L:=(ek c.op c.num c.kids O [])) (st':=(Y9 uT b.2.1 b.2.2 O)) (st1:=(Y9 uT b.2.1 b.2.2 O)) [0,1,2,3] (.w (.pure nN (.pure (AM Ab) (.p .nil)))) (.same AA)) (Ks (by kernel_rfl) ((d _ _ _).1 z)) rfl)
   have Y:A18 5 (bm 12 239) ⟨129,AL [(34,Aq),(37,Cz c.op c.num c.kids),(40,ow 3 0 u),(41,i64 b.1)],Y9 uT b.2.1 b.2.2 u⟩:=(d _ _ _).2 (by
    refine xa [4,8] ⟨?_,?_,pw⟩
    ·exact xq tb d U
    ·refine xo 8 ?_;refine CF 4 [b.1] eI BE AA ?_;exact xd d I)
   have Z:A18 5 (bm 12 431) ⟨129,AL [(34,Aq),(37,Cz c.op c.num c.kids),(39,ls eI p2),(42,ow 3 0 [b.1])],lA uT b.2.1 b.2.2 b.1⟩:=(d _ _ _).2 (by
    refine xa [4,6] ⟨?_,?_,pw⟩
    ·exact xq tb d V
    ·refine xo 6 ?_;exact La (ow 4 0 u) (Bc d1) ⟨(Bj λ_=>AA),pw⟩ (P5 d I (by exact G2 (L:=[(34,Aq),(37,Cz c.op c.num c.kids),(40,ow 3 0 u),(42,ow 4 0 [b.1])]) (st':=(Wq uT b.2.1 b.2.2 u b.1)) (st1:=(Wq uT b.2.1 b.2.2 u b.1)) [0,1,2,4,3] (.w (.pure nN (.pure (AM Ab) (.p (.p .nil))))) (.same AA))))
   have d6:A18 6 (bm 12 175) ⟨129,AL [(34,Aq),(37,Cz c.op c.num c.kids),(39,ls eI p2),(41,i64 b.1)],Lz uT b.2.1 b.2.2⟩:=(d _ _ _).2 (by
    refine xa [4,6,8] ⟨?_,?_,?_,pw⟩
    ·exact xq tb d d2
    ·refine xo 6 ?_;exact La (ow 3 0 u) (Bc d1) ⟨(Bj λ_=>AA),pw⟩ (xd d Y)
    ·refine xo 8 ?_;refine CF 3 [b.1] eI BE AA ?_;exact xd d Z)
   have b8:A18 6 (bm 12 483) ⟨129,AL [(34,Aq),(35,.CT (Hx p1.op p1.num p1.kids) 2),(40,ow 3 0 u),(42,ow 4 0 [b.1])],Wq uT b.2.1 b.2.2 u b.1⟩:=(d _ _ _).2 (by
    refine xa [2,9] ⟨?_,?_,pw⟩
    ·refine xo 2 ?_;refine AR AA (AB ⟨AA,?_⟩);refine aX 3 (Cz c.op c.num c.kids) rfl (CI Bq AA AA d5 (Aj _) rfl) ?_;exact xt d I
    ·refine xo 9 ?_;refine Lb [b.1] BE AA (E8 AA AA) h3 (AB ⟨AA,?_⟩);refine LP tb 2 AA AA ?_;refine aX 3 (Cz c.op c.num c.kids) rfl (CI Bq AA AA d5 (Aj _) rfl) ?_;refine LP tb 4 AA AA ?_;exact Ie (by refine Wk.trans (CS (L:=(ek c.op c.num c.kids O [])) (st':=(Wq uT b.2.1 b.2.2 O b.1)) (.raw AA AA AA (.pure AA nN (.pure AA (AM Ab) (.pure AA Bf (.pure AA Bf .nil))))) (.same AA)) ?_;exact G2 (L:=(ek c.op c.num c.kids O [])) (st':=(Y9 uT b.2.1 b.2.2 O)) (st1:=(Y9 uT b.2.1 b.2.2 O)) [0,1,2,3] (.w (.pure nN (.pure (AM Ab) (.p .nil)))) (.same AA)) (Ks (by kernel_rfl) ((d _ _ _).1 z)) rfl)
   have g2:A18 7 (bm 12 227) ⟨129,AL [(34,Aq),(35,.CT (Hx p1.op p1.num p1.kids) 2),(40,ow 3 0 u),(41,i64 b.1)],Y9 uT b.2.1 b.2.2 u⟩:=(d _ _ _).2 (by
    refine xa [2,8] ⟨?_,?_,pw⟩
    ·refine xo 2 ?_;refine AR AA (AB ⟨AA,?_⟩);refine aX 3 (Cz c.op c.num c.kids) rfl (CI Bq AA AA d5 (Aj _) rfl) ?_;exact xt d Y
    ·refine xo 8 ?_;refine CF 4 [b.1] eI BE AA ?_;exact xd d b8)
   have g3:A18 7 (bm 12 419) ⟨129,AL [(34,Aq),(35,.CT (Hx p1.op p1.num p1.kids) 2),(39,ls eI p2),(42,ow 3 0 [b.1])],lA uT b.2.1 b.2.2 b.1⟩:=(d _ _ _).2 (by
    refine xa [2,6] ⟨?_,?_,pw⟩
    ·refine xo 2 ?_;refine AR AA (AB ⟨AA,?_⟩);refine aX 3 (Cz c.op c.num c.kids) rfl (CI Bq AA AA d5 (Aj _) rfl) ?_;exact xt d Z
    ·refine xo 6 ?_;exact La (ow 4 0 u) (Bc d1) ⟨(Bj λ_=>AA),pw⟩ (P5 d b8 (by exact G2 (L:=[(34,Aq),(35,.CT (Hx p1.op p1.num p1.kids) 2),(40,ow 3 0 u),(42,ow 4 0 [b.1])]) (st':=(Wq uT b.2.1 b.2.2 u b.1)) (st1:=(Wq uT b.2.1 b.2.2 u b.1)) [0,1,2,4,3] (.w (.pure nN (.pure (AM Ab) (.p (.p .nil))))) (.same AA))))
   have g7:A18 8 (bm 12 163) ⟨129,AL [(34,Aq),(35,.CT (Hx p1.op p1.num p1.kids) 2),(39,ls eI p2),(41,i64 b.1)],Lz uT b.2.1 b.2.2⟩:=(d _ _ _).2 (by
    refine xa [2,6,8] ⟨?_,?_,?_,pw⟩
    ·refine xo 2 ?_;refine AR AA (AB ⟨AA,?_⟩);refine aX 3 (Cz c.op c.num c.kids) rfl (CI Bq AA AA d5 (Aj _) rfl) ?_;exact xt d d6
    ·refine xo 6 ?_;exact La (ow 3 0 u) (Bc d1) ⟨(Bj λ_=>AA),pw⟩ (xd d g2)
    ·refine xo 8 ?_;refine CF 3 [b.1] eI BE AA ?_;exact xd d g3)
   refine (d _ _ _).2 (qX tb 0 AA AA (qX tb 1 AA AA (qX tb 5 AA AA (LP tb 7 AA AA ?_))));exact xw d g7 (by exact G2 (L:=[(34,Aq),(35,.CT (Hx p1.op p1.num p1.kids) 2),(39,ls eI p2),(41,i64 b.1)]) (st':=(Lz uT b.2.1 b.2.2)) (st1:=[Tp uT b.2.1 b.2.2,Ct,Ck b.2.2]) [0,1,4] (.w (.pure nN (.pure (AM Ab) .nil))) (.same AA))
  ·refine AD λt3 l0=>bs h0 λl1 M h0=>?_;have l3:∀k2,l1=k2->∀s,Wk 2 s ⟨129,AL (Ef p2 [(4,Cz p1.op p1.num p1.kids),(45,.bool k2)]),Lz uT uV s1⟩->t3 s:=by
    intro k2 hq s hw;subst l1;refine l0 _ (AF hw ?_);refine Az h0 ?_ ?_<;>intro v4 h0
    ·refine AD λv5 l4=>?_;refine JX (by kernel_rfl) ?_;refine bs h0 λd3 l5 h0=>bs h0 λa h7 h0=>?_;refine NY (f':=15) (listed':=(bm 15 0)) rfl (by kernel_rfl) ?_;refine hZ 0 (Cz p1.op p1.num p1.kids) rfl (CH (NL gN AA AA)) ?_;refine hZ 1 (i64 p1.op) rfl (OW HP AA AA) ?_;refine hZ 2 (au p1.op p1.num p1.kids) rfl (CH (NL Wu AA AA)) ?_;refine hZ 3 (i64 p1.num) rfl (OW HP AA AA) ?_;refine hZ 4 Aq AA (CH (D7 AA)) ?_;refine hZ 5 (.CT (Hx p1.op p1.num p1.kids) 2) rfl (CH (NL aA AA AA)) ?_;refine hZ 6 (JU p1.kids) rfl (OW lN AA AA) ?_;refine hZ 9 (ls eI p2) rfl (CH (D7 AA)) ?_;refine NU (L9 λA26 q=>?_);have Q:A26 0 (bm 15 32767) ⟨129,AL (Ef p2 (VL p1.op p1.num p1.kids [])),IZ uT a.2.1 a.2.2 [⟨0,80,5,[[i64 p1.op,i64 p1.num,i64 0,ow 4 0 [a.1],.zc]]⟩,Kv a.1]⟩:=(q _ _ _).2 (by
      refine Kf AA (by kernel_rfl) ?_;refine l4 _ (AD λt4 h4=>?_);refine JX (by kernel_rfl) ?_;refine bs h0 λf l6 h0=>?_;refine NY (f':=8) (listed':=(bm 8 0)) rfl (by kernel_rfl) ?_;refine hZ 0 Aq AA (CH (D7 AA)) ?_;refine hZ 1 Aq AA (CH (G6 AA AA)) ?_;refine hZ 2 Aq AA (CH (Kr aH AA AA uQ rfl)) ?_;refine hZ 4 (au p1.op p1.num p1.kids) rfl (CH (NL Wu AA AA)) ?_;refine hZ 5 (i64 p1.num) rfl (OW HP AA AA) ?_;refine NU (L9 λA29 d7=>?_);have c8:A29 0 (bm 8 255) ⟨129,AL (Ef p2 (VL p1.op p1.num p1.kids [(9,ow 5 0 f)])),IZ uT a.2.1 a.2.2 [⟨0,80,5,[[i64 p1.op,i64 p1.num,i64 0,ow 4 0 [a.1],.zc]]⟩,Kv a.1,BP f]⟩:=(d7 _ _ _).2 (by
       refine Kf AA (by kernel_rfl) (h4 _ (AD λt5 l7=>Ai λv6 l8=>Ae 2 AA (bs h0 λk l9 h0=>Sd (i:=1) (j:=Sh.len p1.kids) AT Bq AA AA AA D9 l9 (Cc AA (AR AA (Ad l8 (bs h0 λk3 M h0=>?_)))))));have t6:∀K,k3=K->∀s,Wk 2 s ⟨129,AL [(0,Aq),(8,G1)],IZ uT a.2.1 a.2.2 [⟨0,80,5,[[i64 p1.op,i64 p1.num,i64 0,ow 4 0 [a.1],ow 5 0 K]]⟩,Kv a.1,Qg K]⟩->t5 s:=by
        intro K hq s hw;subst k3;refine l7 _ (AF hw (Ai λv7 m0=>Ae 2 AA (D8 [(101,Aq),(102,.agg [i64 p1.op,i64 p1.num,i64 0,ls eI [a.1],ow 5 0 K])] (IZ uT a.2.1 a.2.2 [⟨0,80,5,[[i64 p1.op,i64 p1.num,i64 0,ow 4 0 [a.1],ow 5 0 K]]⟩,⟨1,3,1,[]⟩,Qg K]) 4 AA ⟨.rfl,.agg ⟨.rfl,.rfl,.rfl,.Gs AA,.rfl,pw⟩,pw⟩ Cv AA (D8 [(101,Aq),(102,.agg [i64 p1.op,i64 p1.num,i64 0,ls eI [a.1],ls EZ K])] (IZ uT a.2.1 a.2.2 [⟨0,80,5,[[i64 p1.op,i64 p1.num,i64 0,ow 4 0 [a.1],ow 5 0 K]]⟩,⟨1,3,1,[]⟩,eN]) 5 AA ⟨.rfl,.agg ⟨.rfl,.rfl,.rfl,.rfl,.Gs AA,pw⟩,pw⟩ Cv AA (bs h0 λR m1 h0=>?_)))));refine DX (rowsP:=(XK uT a.2.1 a.2.2)) (rows0:=(Pq uT a.2.1 a.2.2)) (rows1:=[PA uT R.2.1 R.2.2,Ct]) (rows2:=[Ck R.2.2]) (rows1':=[iu uT R.2.1 R.2.2,Ct]) (rows2':=[Ck R.2.2]) (st':=[iu uT R.2.1 R.2.2,Ct,Ct,⟨0,80,5,[[i64 p1.op,i64 p1.num,i64 0,ow 4 0 [a.1],ow 5 0 K]]⟩,⟨1,3,1,[]⟩,eN,Ck R.2.2]) (v':=(i64 R.1)) [0,2] AT (hb 107) (Nn m1) rfl (by decide) rfl AA (.raw AA AA (.pure (AM Ab) .nil)) rfl AA (.raw AA AA (.pure nN .nil)) (.pure (AM Ab) .nil) rfl AA ?_;refine AR AA (Ad m0 ?_);cases h0;exact Ap (xr (G2 (L:=[(6,i64 R.1)]) (st':=(Lz uT R.2.1 R.2.2)) (st1:=[iu uT R.2.1 R.2.2,Ct,Ck R.2.2]) [0,1,6] (.w (.pure nN (.pure (AM Ab) .nil))) (.same AA)))
       refine AJ (KB (D4 N k uT p1 p2 a f ue) (λC g=>⟨129,AL [(0,.ptr 0 0 0 0),(2,ls eI p2),(4,.CT [i64 p1.op,i64 p1.num,ls BI p1.kids] 0),(8,.ptr 3 0 0 0),(9,ow 5 0 f),(70,ls BI k),(71,i64 (Sh.len k)),(72,i64 C)],[⟨0,92,3,[[ls Ak uT,i64 a.2.1,ow 2 0 a.2.2]]⟩,⟨1,80,5,[]⟩,ro 0 80 5 C8 a.2.2,⟨0,80,5,[[i64 p1.op,i64 p1.num,i64 0,ow 4 0 [a.1],ow 6 0 g]]⟩,ro 0 3 1 eI [a.1],ro 0 3 1 eI f,ro 0 48 2 EZ g]⟩) N 0 [] M (by refine Wk.trans (Jf (id:=3) (st':=[⟨0,92,3,[[ls Ak uT,i64 a.2.1,ow 2 0 a.2.2]]⟩,⟨1,80,5,[]⟩,ro 0 80 5 C8 a.2.2,⟨0,80,5,[[i64 p1.op,i64 p1.num,i64 0,ow 4 0 [a.1],.own 6 0 (List.length ([]:List Block))]]⟩,ro 0 3 1 eI [a.1],ro 0 3 1 eI f,ro 0 48 2 EZ ([]:List Block)]) (j:=4) rfl AA 48 (size':=2) (by decide) rfl AA AA AA) ?_;exact Ip AA) ?_);intro n C g M;rw[D4]at M;refine Al AA (AD λv8 m2=>?_);refine Az M ?_ ?_<;>intro v9 M
       ·refine AH (m2 _ (AD λw0 m3=>AJ (Ai λt7 h5=>AR AA (bs M λo m4 M=>zz (Cz o.op o.num o.kids) (CI Bq AA AA m4 (Aj _) rfl) rfl (AR AA (Cn 7 GG AA (AR AA (Bp BY AA (BD (Wk.Bg (L:=(Ef p2 (VL p1.op p1.num p1.kids ((9,ow 5 0 f)::(10,i64 C)::(11,Cz o.op o.num o.kids)::fH k C [])))) (st':=(IZ uT a.2.1 a.2.2 [⟨0,80,5,[[i64 p1.op,i64 p1.num,i64 0,ow 4 0 [a.1],ow 6 0 g]]⟩,Kv a.1,BP f,Qg g,Gx])) (id:=7) rfl uO (Di AA) (.same AA) rfl) ?_)))))))));refine Ad h5 (Al AA (AD λt8 m5=>bs M λm6 h2 M=>?_));have m7:∀y,m6=y->∀s,Wk 2 s ⟨129,AL (Ef p2 (VL p1.op p1.num p1.kids ((9,ow 5 0 f)::(11,Cz o.op o.num o.kids)::(12,i64 y)::fH k C []))),IZ uT a.2.1 a.2.2 [⟨0,80,5,[[i64 p1.op,i64 p1.num,i64 0,ow 4 0 [a.1],ow 6 0 g]]⟩,Kv a.1,BP f,Qg g]⟩->t8 s:=by
         intro y hq s hw;subst m6;refine m5 _ (AF hw (JX (by kernel_rfl) (bs M λg4 h8 M=>bs M λb0 m8 M=>NY (f':=11) (listed':=(bm 11 0)) rfl (by kernel_rfl) (hZ 0 (.ptr 3 0 0 4) rfl (CH (Kr lj AA AA (show 0+4<=5 by decide) rfl)) (hZ 2 Aq AA (CH (D7 AA)) (hZ 3 (BJ o.op o.num o.kids) rfl (MB BY AA tr rfl) (hZ 4 (ls eI p2) rfl (CH (D7 AA)) (hZ 5 (i64 y) rfl (CH (D7 AA)) (NU (L9 λA51 E=>?_))))))))));have b3:A51 0 (bm 11 2047) ⟨129,AL (Ef p2 (aQ p1.op p1.num p1.kids f k C [])),IZ uT a.2.1 a.2.2 (⟨0,80,5,[[i64 p1.op,i64 p1.num,i64 0,ow 4 0 [a.1],ow 5 0 b0]]⟩::UH a.1 b0 f [])⟩:=(E _ _ _).2 (by
          refine Kf AA (by kernel_rfl) (m3 _ (AE AA (Ae 2 AA ?_)));exact AB (xi (Sh.w (C+1),b0) M (by exact G2 (L:=(Ef p2 (VL p1.op p1.num p1.kids [(9,ow 5 0 f),(70,JU k),(71,Cb k),(72,Kp C)]))) (st':=(IZ uT a.2.1 a.2.2 [⟨0,80,5,[[i64 p1.op,i64 p1.num,i64 0,ow 4 0 [a.1],ow 6 0 b0]]⟩,Kv a.1,BP f,Qg b0])) (st1:=(IZ uT a.2.1 a.2.2 [⟨0,80,5,[[i64 p1.op,i64 p1.num,i64 0,ow 4 0 [a.1],ow 5 0 b0]]⟩,Kv a.1,BP f,Qg b0])) [0,1,2,3,4,6,5] (.w (.pure nN (.pure (AM Ab) (.w (.p (.p (.p .nil))))))) (.same AA))))
         have c1:A51 1 (bm 11 1023) ⟨129,AL (Ef p2 (aQ p1.op p1.num p1.kids f k C [(98,ow 5 1 b0),(99,.ptr 3 0 0 4)])),IZ uT a.2.1 a.2.2 [⟨0,80,5,[[i64 p1.op,i64 p1.num,i64 0,ow 4 0 [a.1],ow 5 0 g]]⟩,Kv a.1,ro 1 48 2 EZ b0,BP f]⟩:=(E _ _ _).2 (by
          refine ya [10] ⟨?_,pw⟩
          ·refine yo 10 ?_;exact Bp ov AA (Wg E b3 (by exact CS (L:=(Ef p2 (aQ p1.op p1.num p1.kids f k C []))) (st':=(IZ uT a.2.1 a.2.2 (⟨0,80,5,[[i64 p1.op,i64 p1.num,i64 0,ow 4 0 [a.1],ow 5 0 b0]]⟩::UH a.1 b0 f []))) (.raw AA AA AA (.pure AA nN (.pure AA (AM Ab) (.raw AA AA AA (.pure AA Bf (.pure AA Bf (.pure AA Bf .nil))))))) (.same AA))))
         have c9:A51 3 (bm 11 255) ⟨129,AL (Ef p2 (aQ p1.op p1.num p1.kids f k C [(91,ow 5 0 g),(97,ow 7 0 [g4])])),IZ uT a.2.1 a.2.2 (⟨0,80,5,[[i64 p1.op,i64 p1.num,i64 0,ow 4 0 [a.1],ow 5 0 g]]⟩::UH a.1 g f [ro 0 48 2 EZ [g4]])⟩:=(E _ _ _).2 (by
          refine ya [8] ⟨?_,pw⟩
          ·refine yo 8 ?_;refine Lb [g4] Rv AA (E8 AA AA) m8 (AB ⟨AA,?_⟩);refine qY tb 9 AA AA ?_;exact yw E c1 (by exact G2 (L:=(Ef p2 (aQ p1.op p1.num p1.kids f k C [(98,ow 5 1 b0),(99,.ptr 3 0 0 4)]))) (st':=(IZ uT a.2.1 a.2.2 [⟨0,80,5,[[i64 p1.op,i64 p1.num,i64 0,ow 4 0 [a.1],ow 5 0 g]]⟩,Kv a.1,ro 1 48 2 EZ b0,BP f])) (st1:=(IZ uT a.2.1 a.2.2 [⟨0,80,5,[[i64 p1.op,i64 p1.num,i64 0,ow 4 0 [a.1],ow 5 0 g]]⟩,Kv a.1,ro 1 48 2 EZ b0,BP f])) [0,1,2,3,4,5,6] (.w (.pure nN (.pure (AM Ab) (.w (.p (.p (.p .nil))))))) (.same AA)))
         have b1:A51 4 (bm 11 127) ⟨129,AL (Ef p2 (aQ p1.op p1.num p1.kids f k C [(91,ow 5 0 g),(96,I0 g4)])),IZ uT a.2.1 a.2.2 (⟨0,80,5,[[i64 p1.op,i64 p1.num,i64 0,ow 4 0 [a.1],ow 5 0 g]]⟩::UH a.1 g f [])⟩:=(E _ _ _).2 (by
          refine ya [7] ⟨?_,pw⟩
          ·refine yo 7 ?_;refine CF 7 [g4] EZ Rv AA ?_;exact yd E c9)
         have d8:A51 5 (bm 11 63) ⟨129,AL (Ef p2 (aQ p1.op p1.num p1.kids f k C [(91,ow 5 0 g),(92,Aq),(93,BJ o.op o.num o.kids),(94,ls eI p2),(95,i64 y)])),IZ uT a.2.1 a.2.2 (⟨0,80,5,[[i64 p1.op,i64 p1.num,i64 0,ow 4 0 [a.1],ow 5 0 g]]⟩::UH a.1 g f [])⟩:=(E _ _ _).2 (by
          refine ya [6] ⟨?_,pw⟩
          ·refine yo 6 ?_;refine DX (rowsP:=(XK uT a.2.1 a.2.2)) (rows0:=(Pq uT a.2.1 a.2.2)) (rows1:=(Pq uT a.2.1 a.2.2)) (rows2:=[]) (rows1':=(XK uT a.2.1 a.2.2)) (rows2':=[]) (st':=(IZ uT a.2.1 a.2.2 (⟨0,80,5,[[i64 p1.op,i64 p1.num,i64 0,ow 4 0 [a.1],ow 5 0 g]]⟩::UH a.1 g f []))) (v':=(I0 g4)) [0,2] AT (hb 106) (NR vB h8) rfl (by decide) rfl AA (.raw AA AA (.pure (AM Ab) .nil)) rfl AA (.raw AA AA (.pure (AM Ab) .nil)) .nil AA AA ?_;exact yd E b1)
         have g5:A51 6 (bm 11 61) ⟨129,AL (Ef p2 (aQ p1.op p1.num p1.kids f k C [(90,.ptr 3 0 0 4),(92,Aq),(93,BJ o.op o.num o.kids),(94,ls eI p2),(95,i64 y)])),IZ uT a.2.1 a.2.2 (⟨0,80,5,[[i64 p1.op,i64 p1.num,i64 0,ow 4 0 [a.1],ow 5 0 g]]⟩::UH a.1 g f [])⟩:=(E _ _ _).2 (by
          refine ya [1,6] ⟨?_,?_,pw⟩
          ·exact iJ tb E d8
          ·refine yo 6 ?_;refine DX (rowsP:=(XK uT a.2.1 a.2.2)) (rows0:=(Pq uT a.2.1 a.2.2)) (rows1:=(Pq uT a.2.1 a.2.2)) (rows2:=[]) (rows1':=(XK uT a.2.1 a.2.2)) (rows2':=[]) (st':=(IZ uT a.2.1 a.2.2 (⟨0,80,5,[[i64 p1.op,i64 p1.num,i64 0,ow 4 0 [a.1],ow 5 0 g]]⟩::UH a.1 g f []))) (v':=(I0 g4)) [0,2] AT (hb 106) (NR vB h8) rfl (by decide) rfl AA (.raw AA AA (.pure (AM Ab) .nil)) rfl AA (.raw AA AA (.pure (AM Ab) .nil)) .nil AA AA ?_;refine AB ⟨AA,?_⟩;refine qY tb 1 AA AA ?_;exact cF E b1)
         refine (E _ _ _).2 ?_;exact yw E g5 (by exact G2 (L:=(Ef p2 (aQ p1.op p1.num p1.kids f k C [(90,.ptr 3 0 0 4),(92,Aq),(93,BJ o.op o.num o.kids),(94,ls eI p2),(95,i64 y)]))) (st':=(IZ uT a.2.1 a.2.2 (⟨0,80,5,[[i64 p1.op,i64 p1.num,i64 0,ow 4 0 [a.1],ow 5 0 g]]⟩::UH a.1 g f []))) (st1:=(IZ uT a.2.1 a.2.2 (⟨0,80,5,[[i64 p1.op,i64 p1.num,i64 0,ow 4 0 [a.1],ow 6 0 g]]⟩::UH a.1 g f []))) [0,1,2,3,4,6,5] (.w (.pure nN (.pure (AM Ab) (.w (.p (.p (.p .nil))))))) (.same AA))
        refine Al AA ?_;refine Az h2 ?_ ?_<;>intro w1 h2
        ·refine JX (by kernel_rfl) ?_;refine bs h2 λm9 h9 h2=>bs h2 λh6 q0 h2=>?_;refine NY (f':=11) (listed':=(bm 11 0)) rfl (by kernel_rfl) ?_;refine hZ 0 Aq AA (CH (D7 AA)) ?_;refine hZ 1 Aq AA (CH (G6 AA AA)) ?_;refine hZ 2 Aq AA (CH (Kr aH AA AA uQ rfl)) ?_;refine hZ 4 (ow 5 0 f) rfl (CH (D7 AA)) ?_;refine hZ 5 (i64 C) rfl (CH (D7 AA)) ?_;refine NU (L9 λA56 d9=>?_);have b4:A56 0 (bm 11 2047) ⟨129,AL (Ef p2 (VL p1.op p1.num p1.kids ((9,ow 6 0 f)::(11,Cz o.op o.num o.kids)::(12,Cb h6)::fH k C []))),IZ uT a.2.1 a.2.2 (⟨0,80,5,[[i64 p1.op,i64 p1.num,i64 0,ow 4 0 [a.1],ow 5 0 g]]⟩::UH a.1 g f [])⟩:=(d9 _ _ _).2 (by
          refine Kf AA (by kernel_rfl) ?_;exact m7 (Sh.len h6) (BU h2) _ (by exact G2 (L:=(Ef p2 (VL p1.op p1.num p1.kids ((9,ow 5 0 f)::(11,Cz o.op o.num o.kids)::(12,Cb h6)::fH k C [])))) (st':=(IZ uT a.2.1 a.2.2 [⟨0,80,5,[[i64 p1.op,i64 p1.num,i64 0,ow 4 0 [a.1],ow 6 0 g]]⟩,Kv a.1,BP f,Qg g])) (st1:=(IZ uT a.2.1 a.2.2 [⟨0,80,5,[[i64 p1.op,i64 p1.num,i64 0,ow 4 0 [a.1],ow 5 0 g]]⟩,Kv a.1,BP f,Qg g])) [0,1,2,3,4,6,5] (.w (.pure nN (.pure (AM Ab) (.w (.p (.p (.p .nil))))))) (.same AA)))
         have d0:A56 3 (bm 11 255) ⟨129,AL (Ef p2 (VL p1.op p1.num p1.kids ((9,ow 6 0 f)::(11,Cz o.op o.num o.kids)::fH k C [(83,Cd uT),(87,i64 m9)]))),IZ uT a.2.1 a.2.2 (⟨0,80,5,[[i64 p1.op,i64 p1.num,i64 0,ow 4 0 [a.1],ow 5 0 g]]⟩::UH a.1 g f [])⟩:=(d9 _ _ _).2 (by
          refine ya [8] ⟨?_,pw⟩
          ·refine yo 8 ?_;refine HX (hb 105) (MZ q0) rfl (AB ⟨AA,?_⟩);refine aY 9 (Cb h6) rfl (By FY AA) ?_;refine qY tb 10 AA AA ?_;exact cF d9 b4)
         refine (d9 _ _ _).2 (qY tb 3 AA AA (aY 6 (.ptr 5 0 (Int.toNat C) 0) rfl (HC BE AA h9) (Xf 7 AA AA (by kernel_rfl) (Tg HP AA AA (CM h9) rfl) ?_)));exact yw d9 d0 (by exact G2 (L:=(Ef p2 (VL p1.op p1.num p1.kids ((9,ow 6 0 f)::(11,Cz o.op o.num o.kids)::fH k C [(83,Cd uT),(87,i64 m9)])))) (st':=(IZ uT a.2.1 a.2.2 (⟨0,80,5,[[i64 p1.op,i64 p1.num,i64 0,ow 4 0 [a.1],ow 5 0 g]]⟩::UH a.1 g f []))) (st1:=(IZ uT a.2.1 a.2.2 (⟨0,80,5,[[i64 p1.op,i64 p1.num,i64 0,ow 4 0 [a.1],ow 6 0 g]]⟩::UH a.1 g f []))) [0,1,2,3,4,6,5] (.w (.pure nN (.pure (AM Ab) (.w (.p (.p (.p .nil))))))) (.same AA))
        ·exact AH (m7 0 (BU h2) _ (by refine Wk.trans (G2 (L:=(Ef p2 (VL p1.op p1.num p1.kids ((9,ow 5 0 f)::(11,Cz o.op o.num o.kids)::(12,i64 0)::fH k C [])))) (st':=(IZ uT a.2.1 a.2.2 [⟨0,80,5,[[i64 p1.op,i64 p1.num,i64 0,ow 4 0 [a.1],ow 6 0 g]]⟩,Kv a.1,BP f,Qg g])) (st1:=(IZ uT a.2.1 a.2.2 [⟨0,80,5,[[i64 p1.op,i64 p1.num,i64 0,ow 4 0 [a.1],ow 6 0 g]]⟩,Kv a.1,BP f,Qg g])) [0,1,2,3,4,5,6] (.w (.pure nN (.pure (AM Ab) (.w (.p (.p (.p .nil))))))) (.same AA)) ?_;exact Ip AA))
       ·exact As (t6 g (BU M) _ (by exact G2 (L:=[(0,Aq),(8,G1)]) (st':=(IZ uT a.2.1 a.2.2 [⟨0,80,5,[[i64 p1.op,i64 p1.num,i64 0,ow 4 0 [a.1],ow 5 0 g]]⟩,Kv a.1,Qg g])) (st1:=(IZ uT a.2.1 a.2.2 [⟨0,80,5,[[i64 p1.op,i64 p1.num,i64 0,ow 4 0 [a.1],ow 6 0 g]]⟩,Kv a.1,Qg g])) [0,1,2,3,4,6] (.w (.pure nN (.pure (AM Ab) (.w (.p (.p .nil)))))) (.same AA))))
      have g0:A29 2 (bm 8 63) ⟨129,AL (Ef p2 (VL p1.op p1.num p1.kids [(64,Cd uT),(66,i64 p1.num)])),IZ uT a.2.1 a.2.2 [⟨0,80,5,[[i64 p1.op,i64 p1.num,i64 0,ow 4 0 [a.1],.zc]]⟩,Kv a.1]⟩:=(d7 _ _ _).2 (by
       refine ya [6] ⟨?_,pw⟩
       ·refine yo 6 ?_;refine La (ow 5 0 f) (N2 l6) ⟨(Bj λ_=>AA),pw⟩ (AB ⟨AA,?_⟩);refine qY tb 7 AA AA ?_;exact cF d7 c8)
      exact (d7 _ _ _).2 (qY tb 3 AA AA (cF d7 g0)))
     have A:A26 1 (bm 15 16383) ⟨129,AL (Ef p2 (VL p1.op p1.num p1.kids [(60,.agg [i64 p1.op,i64 p1.num,i64 0,ow 4 0 [a.1],.zc])])),iS uT a.2.1 a.2.2 a.1⟩:=(q _ _ _).2 (by
      refine ya [14] ⟨?_,pw⟩
      ·refine yo 14 ?_;exact Bp Zy AA (yd q Q))
     have W:A26 2 (bm 15 8191) ⟨129,AL (Ef p2 [(4,Cz p1.op p1.num p1.kids),(60,.agg [i64 p1.op,i64 p1.num,i64 0,ow 3 0 [a.1],.zc])]),lA uT a.2.1 a.2.2 a.1⟩:=(q _ _ _).2 (by
      refine ya [13] ⟨?_,pw⟩
      ·refine yo 13 ?_;exact Cn 4 P8 AA (Wg q A (by exact G2 (L:=(Ef p2 (VL p1.op p1.num p1.kids [(60,.agg [i64 p1.op,i64 p1.num,i64 0,ow 4 0 [a.1],.zc])]))) (st':=(iS uT a.2.1 a.2.2 a.1)) (st1:=(iS uT a.2.1 a.2.2 a.1)) [0,1,2,4,3] (.w (.pure nN (.pure (AM Ab) (.w (.p .nil))))) (.same AA))))
     have D:A26 2 (bm 15 12287) ⟨129,AL (Ef p2 (lD p1.op p1.num p1.kids [(59,ow 4 0 [a.1])])),iS uT a.2.1 a.2.2 a.1⟩:=(q _ _ _).2 (by
      refine ya [12] ⟨?_,pw⟩
      ·refine yo 12 ?_;exact zz (.agg [i64 p1.op,i64 p1.num,i64 0,ow 4 0 [a.1],.zc]) (DA bu dQ P8 AA AA) rfl (yd q A))
     have b2:A26 3 (bm 15 4095) ⟨129,AL (Ef p2 (mP p1.op p1.num p1.kids [(59,ow 3 0 [a.1])])),lA uT a.2.1 a.2.2 a.1⟩:=(q _ _ _).2 (by
      refine ya [12,13] ⟨?_,?_,pw⟩
      ·refine yo 12 ?_;exact zz (.agg [i64 p1.op,i64 p1.num,i64 0,ow 3 0 [a.1],.zc]) (DA bu dQ P8 AA AA) rfl (yd q W)
      ·refine yo 13 ?_;exact Cn 4 P8 AA (Wg q D (by exact G2 (L:=(Ef p2 (lD p1.op p1.num p1.kids [(59,ow 4 0 [a.1])]))) (st':=(iS uT a.2.1 a.2.2 a.1)) (st1:=(iS uT a.2.1 a.2.2 a.1)) [0,1,2,4,3] (.w (.pure nN (.pure (AM Ab) (.w (.p .nil))))) (.same AA))))
     have G:A26 3 (bm 15 10239) ⟨129,AL (Ef p2 (lD p1.op p1.num p1.kids [(58,i64 a.1)])),IZ uT a.2.1 a.2.2 [iT]⟩:=(q _ _ _).2 (by
      refine ya [11] ⟨?_,pw⟩
      ·refine yo 11 ?_;refine CF 4 [a.1] eI BE AA ?_;exact yd q D)
     have b6:A26 4 (bm 15 2047) ⟨129,AL (Ef p2 (mP p1.op p1.num p1.kids [(58,i64 a.1)])),Lz uT a.2.1 a.2.2⟩:=(q _ _ _).2 (by
      refine ya [11,13] ⟨?_,?_,pw⟩
      ·refine yo 11 ?_;refine CF 3 [a.1] eI BE AA ?_;exact yd q b2
      ·refine yo 13 ?_;exact Cn 3 P8 AA (yd q G))
     have b7:A26 4 (bm 15 9215) ⟨129,AL (Ef p2 (lD p1.op p1.num p1.kids [(52,Aq),(56,BJ d3.op d3.num d3.kids),(57,ls eI p2)])),IZ uT uV s1 [iT]⟩:=(q _ _ _).2 (by
      refine ya [10] ⟨?_,pw⟩
      ·refine yo 10 ?_;refine DX (rowsP:=(XK uT uV s1)) (rows0:=(Pq uT uV s1)) (rows1:=[PA uT a.2.1 a.2.2,Ct]) (rows2:=[Ck a.2.2]) (rows1':=[Tp uT a.2.1 a.2.2,Ct]) (rows2':=[Ck a.2.2]) (st':=[Tp uT a.2.1 a.2.2,Ct,Ct,iT,Ck a.2.2]) (v':=(i64 a.1)) [0,2] AT (hb 55) (vB h7) rfl (by decide) rfl AA (.raw AA AA (.pure (AM Ab) .nil)) rfl AA (.raw AA AA (.pure nN .nil)) (.pure (AM Ab) .nil) rfl AA ?_;exact Wg q G (by exact G2 (L:=(Ef p2 (lD p1.op p1.num p1.kids [(58,i64 a.1)]))) (st':=(IZ uT a.2.1 a.2.2 [iT])) (st1:=[Tp uT a.2.1 a.2.2,Ct,Ck a.2.2,iT]) [0,1,4,3] (.w (.pure nN (.pure (AM Ab) (.w .nil)))) (.same AA)))
     have c2:A26 5 (bm 15 1023) ⟨129,AL (Ef p2 (mP p1.op p1.num p1.kids [(52,Aq),(56,BJ d3.op d3.num d3.kids),(57,ls eI p2)])),Lz uT uV s1⟩:=(q _ _ _).2 (by
      refine ya [10,13] ⟨?_,?_,pw⟩
      ·refine yo 10 ?_;refine DX (rowsP:=(XK uT uV s1)) (rows0:=(Pq uT uV s1)) (rows1:=[PA uT a.2.1 a.2.2,Ct]) (rows2:=[Ck a.2.2]) (rows1':=[⟨0,92,3,[[Cd uT,i64 a.2.1,ow 3 0 a.2.2]]⟩,Ct]) (rows2':=[Ck a.2.2]) (st':=[⟨0,92,3,[[Cd uT,i64 a.2.1,ow 3 0 a.2.2]]⟩,Ct,Ct,Ck a.2.2]) (v':=(i64 a.1)) [0,2] AT (hb 55) (vB h7) rfl (by decide) rfl AA (.raw AA AA (.pure (AM Ab) .nil)) rfl AA (.raw AA AA (.pure nN .nil)) (.pure (AM Ab) .nil) rfl AA ?_;exact Wg q b6 (by exact G2 (L:=(Ef p2 (mP p1.op p1.num p1.kids [(58,i64 a.1)]))) (st':=(Lz uT a.2.1 a.2.2)) (st1:=[⟨0,92,3,[[Cd uT,i64 a.2.1,ow 3 0 a.2.2]]⟩,Ct,Ck a.2.2]) [0,1,3] (.w (.pure nN (.pure (AM Ab) .nil))) (.same AA))
      ·refine yo 13 ?_;exact Cn 3 P8 AA (yd q b7))
     exact (q _ _ _).2 (aY 7 (Cz d3.op d3.num d3.kids) rfl (CI Bq AA AA l5 (Aj _) rfl) (qY tb 8 AA AA (cF q c2)))
    ·refine AH (t0 _ (Ai λt4 h4=>Ae 4 AA (zz (.agg [i64 p1.op,i64 p1.num,i64 0,.zc,.zc]) (DA bu dQ P8 AA AA) rfl (Cn 3 P8 AA (Bp Zy AA (Ad h4 (AD λt9 q1=>Ai λw2 q2=>Ae 2 AA (Cc AA (AR AA (Ad q2 (bs h0 λk4 M h0=>?_)))))))))));have v0:∀g8 K g1,k4=(g8,K,g1)->∀s,Wk 2 s ⟨129,AL [(0,Aq),(13,Ca)],[Tp uT g8 K,Ct,ig p1.op p1.num g1,BP g1,Ck K]⟩->t9 s:=by
      rintro g8 K g1 rfl s hw;refine q1 _ (AF hw (Ai λw3 q3=>Ae 2 AA (D8 [(126,Aq),(127,.agg [i64 p1.op,i64 p1.num,i64 0,ls eI g1,.zc])] [Tp uT g8 K,Ct,ig p1.op p1.num g1,⟨1,3,1,[]⟩,Ck K] 3 AA ⟨.rfl,.agg ⟨.rfl,.rfl,.rfl,.Gs AA,.rfl,pw⟩,pw⟩ Cv AA (BD (Dh [(126,Aq),(127,.agg [i64 p1.op,i64 p1.num,i64 0,ls eI g1,.sl (List.map EZ [])])] ⟨.rfl,.agg ⟨.rfl,.rfl,.rfl,.rfl,.zc,pw⟩,pw⟩) (bs h0 λS q4 h0=>?_)))));refine DX (rowsP:=[Tp uT g8 K,Ck K]) (rows0:=(Pq uT g8 K)) (rows1:=[PA uT S.2.1 S.2.2,Ct]) (rows2:=[Ck S.2.2]) (rows1':=[ak uT S.2.1 S.2.2,Ct]) (rows2':=[Ck S.2.2]) (st':=[ak uT S.2.1 S.2.2,Ct,ig p1.op p1.num g1,⟨1,3,1,[]⟩,Ct,Ck S.2.2]) (v':=(i64 S.1)) [0,4] AT (hb 107) (Nn q4) rfl (by decide) rfl AA (.raw AA AA (.pure (AM Ab) .nil)) rfl AA (.raw AA AA (.pure nN .nil)) (.pure (AM Ab) .nil) rfl AA ?_;refine AR AA (Ad q3 ?_);cases h0;exact Ap (xr (G2 (L:=[(6,i64 S.1)]) (st':=(Lz uT S.2.1 S.2.2)) (st1:=[ak uT S.2.1 S.2.2,Ct,Ck S.2.2]) [0,1,5] (.w (.pure nN (.pure (AM Ab) .nil))) (.same AA)))
     refine AJ (Ix (σ:=Int×Int×(List Step)×(List Int)) (λn v=>DV uT p1 p2 ue n v.1 v.2.1 v.2.2.1 v.2.2.2=some k4) (λ(T,c3,k,t)=>⟨129,AL [(0,.ptr 0 0 0 0),(2,ls eI p2),(13,.ptr 2 0 0 0),(110,ls BI p1.kids),(111,i64 (Sh.len p1.kids)),(112,i64 T)],[⟨0,92,3,[[ls Ak uT,i64 c3,ow 4 0 k]]⟩,⟨1,80,5,[]⟩,⟨0,80,5,[[i64 p1.op,i64 p1.num,i64 0,ow 3 0 t,.zc]]⟩,ro 0 3 1 eI t,ro 0 80 5 C8 k]⟩) N (0,uV,s1,[]) M (by refine Wk.trans (Jf (id:=3) (st':=[⟨0,92,3,[[ls Ak uT,i64 uV,ow 2 0 s1]]⟩,⟨1,80,5,[]⟩,ro 0 80 5 C8 s1,⟨0,80,5,[[i64 p1.op,i64 p1.num,i64 0,.own 4 0 (List.length ([]:List Int)),.zc]]⟩,ro 0 3 1 eI ([]:List Int)]) (j:=3) rfl AA 3 (size':=1) (by decide) rfl AA AA AA) ?_;refine Wk.trans (G2 (L:=[(0,.ptr 0 0 0 0),(2,ls eI p2),(13,.ptr 2 0 0 0),(110,ls BI p1.kids),(111,i64 (Sh.len p1.kids)),(112,i64 0)]) (st':=[⟨0,92,3,[[ls Ak uT,i64 uV,ow 4 0 s1]]⟩,⟨1,80,5,[]⟩,⟨0,80,5,[[i64 p1.op,i64 p1.num,i64 0,.own 3 0 (List.length ([]:List Int)),.zc]]⟩,ro 0 3 1 eI ([]:List Int),ro 0 80 5 C8 s1]) (st1:=[⟨0,92,3,[[ls Ak uT,i64 uV,ow 2 0 s1]]⟩,⟨1,80,5,[]⟩,⟨0,80,5,[[i64 p1.op,i64 p1.num,i64 0,.own 4 0 (List.length ([]:List Int)),.zc]]⟩,ro 0 3 1 eI ([]:List Int),ro 0 80 5 C8 s1]) [0,1,3,4,2] (.w (.pure nN (.w (.p (.pure (AM Ab) .nil))))) (.same AA)) ?_;exact Ip AA) (λ_ hv=>by rw[DV]at hv;cases hv) ?_);rintro n ⟨T,c3,k,t⟩ M;rw[DV]at M;refine Al AA (AD λw4 q5=>?_);refine Az M ?_ ?_<;>intro w5 M
     ·refine AH (q5 _ (AD λt7 h5=>AJ (Ai λw6 q6=>bs M λP q7 M=>zz (Cz P.op P.num P.kids) (CI Bq AA AA q7 (Aj _) rfl) rfl (AR AA (Cn 5 GG AA (Bp BY AA (BD (Wk.Bg (L:=(Ef p2 [(13,Ca),(15,Cz P.op P.num P.kids),(110,JU p1.kids),(111,Cb p1.kids),(112,i64 T)])) (st':=[Tp uT c3 k,Ct,ig p1.op p1.num t,BP t,Ck k,Gx]) (id:=5) rfl uG (Di AA) (.same AA) rfl) (Ad q6 (JX (by kernel_rfl) (bs M λe k0 M=>bs M λc4 q8 M=>NY (f':=10) (listed':=(bm 10 0)) rfl (by kernel_rfl) (hZ 0 (.ptr 2 0 0 3) rfl (CH (Kr lv AA AA (show 0+3<=5 by decide) rfl)) (hZ 2 Aq AA (CH (D7 AA)) (hZ 3 (BJ P.op P.num P.kids) rfl (MB BY AA tr rfl) (hZ 4 (ls eI p2) rfl (CH (D7 AA)) (NU (L9 λA48 H=>?_))))))))))))))));have c5:A48 0 (bm 10 1023) ⟨129,AL (Ef p2 (YK p1.kids T [])),bt uT e.2.1 e.2.2 p1.op p1.num c4⟩:=(H _ _ _).2 (by
       refine Kf AA (by kernel_rfl) (h5 _ (AE AA (Ae 2 AA ?_)));exact AB (xi (Sh.w (T+1),e.2.1,e.2.2,c4) M (by exact G2 (L:=(Ef p2 [(13,Ca),(110,JU p1.kids),(111,Cb p1.kids),(112,Kp T)])) (st':=[Tp uT e.2.1 e.2.2,Ct,ig p1.op p1.num c4,BP c4,Ck e.2.2]) (st1:=[PA uT e.2.1 e.2.2,Ct,ZB p1.op p1.num c4,BP c4,Ck e.2.2]) [0,1,3,4,2] (.w (.pure nN (.w (.p (.pure (AM Ab) .nil))))) (.same AA))))
      have c6:A48 1 (bm 10 511) ⟨129,AL (Ef p2 (YK p1.kids T [(123,ow 4 1 c4),(124,.ptr 3 0 0 3)])),IZ uT e.2.1 e.2.2 [ZB p1.op p1.num t,ro 1 3 1 eI c4]⟩:=(H _ _ _).2 (by
       refine ya [9] ⟨?_,pw⟩
       ·refine yo 9 ?_;exact Bp Mi AA (Wg H c5 (by exact CS (L:=(Ef p2 (YK p1.kids T []))) (st':=(bt uT e.2.1 e.2.2 p1.op p1.num c4)) (.raw AA AA AA (.pure AA nN (.pure AA (AM Ab) (.raw AA AA AA (.pure AA Bf .nil))))) (.same AA))))
      have d4:A48 3 (bm 10 127) ⟨129,AL (Ef p2 (YK p1.kids T [(117,ow 4 0 t),(122,ow 5 0 [e.1])])),IZ uT e.2.1 e.2.2 [ZB p1.op p1.num t,BP t,Kv e.1]⟩:=(H _ _ _).2 (by
       refine ya [7] ⟨?_,pw⟩
       ·refine yo 7 ?_;refine Lb [e.1] BE AA (E8 AA AA) q8 (AB ⟨AA,?_⟩);refine qY tb 8 AA AA ?_;exact yw H c6 (by exact G2 (L:=(Ef p2 (YK p1.kids T [(123,ow 4 1 c4),(124,.ptr 3 0 0 3)]))) (st':=(IZ uT e.2.1 e.2.2 [ZB p1.op p1.num t,ro 1 3 1 eI c4])) (st1:=(IZ uT e.2.1 e.2.2 [ZB p1.op p1.num t,ro 1 3 1 eI c4])) [0,1,2,3,4] (.w (.pure nN (.pure (AM Ab) (.w (.p .nil))))) (.same AA)))
      have c0:A48 4 (bm 10 63) ⟨129,AL (Ef p2 (YK p1.kids T [(117,ow 4 0 t),(121,i64 e.1)])),bt uT e.2.1 e.2.2 p1.op p1.num t⟩:=(H _ _ _).2 (by
       refine ya [6] ⟨?_,pw⟩
       ·refine yo 6 ?_;refine CF 5 [e.1] eI BE AA ?_;exact yd H d4)
      have g6:A48 5 (bm 10 31) ⟨129,AL (Ef p2 (YK p1.kids T [(117,ow 4 0 t),(118,Aq),(119,BJ P.op P.num P.kids),(120,ls eI p2)])),bt uT c3 k p1.op p1.num t⟩:=(H _ _ _).2 (by
       refine ya [5] ⟨?_,pw⟩
       ·refine yo 5 ?_;refine DX (rowsP:=(XK uT c3 k)) (rows0:=(Pq uT c3 k)) (rows1:=[PA uT e.2.1 e.2.2,Ct]) (rows2:=[Ck e.2.2]) (rows1':=[ak uT e.2.1 e.2.2,Ct]) (rows2':=[Ck e.2.2]) (st':=[ak uT e.2.1 e.2.2,Ct,Ct,ZB p1.op p1.num t,BP t,Ck e.2.2]) (v':=(i64 e.1)) [0,2] AT (hb 55) (vB k0) rfl (by decide) rfl AA (.raw AA AA (.pure (AM Ab) .nil)) rfl AA (.raw AA AA (.pure nN .nil)) (.pure (AM Ab) .nil) rfl AA ?_;exact Wg H c0 (by exact G2 (L:=(Ef p2 (YK p1.kids T [(117,ow 4 0 t),(121,i64 e.1)]))) (st':=(bt uT e.2.1 e.2.2 p1.op p1.num t)) (st1:=[ak uT e.2.1 e.2.2,Ct,Ck e.2.2,ZB p1.op p1.num t,BP t]) [0,1,5,3,4] (.w (.pure nN (.pure (AM Ab) (.w (.p .nil))))) (.same AA)))
      have g9:A48 6 (bm 10 29) ⟨129,AL (Ef p2 (YK p1.kids T [(116,.ptr 3 0 0 3),(118,Aq),(119,BJ P.op P.num P.kids),(120,ls eI p2)])),bt uT c3 k p1.op p1.num t⟩:=(H _ _ _).2 (by
       refine ya [1,5] ⟨?_,?_,pw⟩
       ·exact iJ tb H g6
       ·refine yo 5 ?_;refine DX (rowsP:=(XK uT c3 k)) (rows0:=(Pq uT c3 k)) (rows1:=[PA uT e.2.1 e.2.2,Ct]) (rows2:=[Ck e.2.2]) (rows1':=[ak uT e.2.1 e.2.2,Ct]) (rows2':=[Ck e.2.2]) (st':=[ak uT e.2.1 e.2.2,Ct,Ct,ZB p1.op p1.num t,BP t,Ck e.2.2]) (v':=(i64 e.1)) [0,2] AT (hb 55) (vB k0) rfl (by decide) rfl AA (.raw AA AA (.pure (AM Ab) .nil)) rfl AA (.raw AA AA (.pure nN .nil)) (.pure (AM Ab) .nil) rfl AA ?_;refine AB ⟨AA,qY tb 1 AA AA ?_⟩;exact yw H c0 (by exact G2 (L:=(Ef p2 (YK p1.kids T [(117,ow 4 0 t),(121,i64 e.1)]))) (st':=(bt uT e.2.1 e.2.2 p1.op p1.num t)) (st1:=[ak uT e.2.1 e.2.2,Ct,Ck e.2.2,ZB p1.op p1.num t,BP t]) [0,1,5,3,4] (.w (.pure nN (.pure (AM Ab) (.w (.p .nil))))) (.same AA)))
      refine (H _ _ _).2 ?_;exact yw H g9 (by exact G2 (L:=(Ef p2 (YK p1.kids T [(116,.ptr 3 0 0 3),(118,Aq),(119,BJ P.op P.num P.kids),(120,ls eI p2)]))) (st':=(bt uT c3 k p1.op p1.num t)) (st1:=[Tp uT c3 k,Ct,Ck k,ig p1.op p1.num t,BP t]) [0,1,4,2,3] (.w (.pure nN (.pure (AM Ab) (.w (.p .nil))))) (.same AA))
     ·exact As (v0 c3 k t (BU M) _ Au)
   refine Al AA ?_;refine Az M ?_ ?_<;>intro v1 M
   ·exact AH (l3 true (BU M) _ (by refine Wk.trans (G2 (L:=(Ef p2 [(4,Cz p1.op p1.num p1.kids),(45,.bool (decide (p1.op=7)))])) (st':=(Lz uT uV s1)) (st1:=(Lz uT uV s1)) [0,1,2] (.w (.pure nN (.pure (AM Ab) .nil))) (.same AA)) ?_;exact Dh (Ef p2 [(4,Cz p1.op p1.num p1.kids),(45,.bool true)]) ⟨.rfl,.rfl,.rfl,.of (rC AV.bool v1),pw⟩))
   ·refine AE AA (Ae 2 AA ?_);exact AB (l3 (decide (p1.op=8)) (BU M) _ (by refine Wk.trans (G2 (L:=(Ef p2 [(4,Cz p1.op p1.num p1.kids),(45,.bool (decide (p1.op=8)))])) (st':=(Lz uT uV s1)) (st1:=(Lz uT uV s1)) [0,1,2] (.w (.pure nN (.pure (AM Ab) .nil))) (.same AA)) ?_;exact Ip AA))
theorem Po {N:Nat}:∀(n:Nat),∀{uT:(List AI)} {uV:Int} {s1:(List Step)} {p1:AG} {p2:(List Int)} {r:Int×Int×(List Step)},EB N n uT uV s1 p1 p2=some r->Bn 55 [Aq,BJ p1.op p1.num p1.kids,ls eI p2] (Pq uT uV s1) (i64 r.1) (Lz uT r.2.1 r.2.2):=by
 intro n
 induction n with
 | zero=>intro uT uV s1 p1 p2 r a;cases a
 | succ n ih=>
  intro uT uV s1 p1 p2 r a;rw[EB]at a;exact Pv (λh=>ih h) a
theorem RE {N:Nat}:∀{uT:(List AI)} {uV:Int} {s1:(List Step)} {p1:AG} {p2:(List Int)} {r:Int×Int×(List Step)},LK N uT uV s1 p1 p2=some r->Bn 55 [Aq,BJ p1.op p1.num p1.kids,ls eI p2] (Pq uT uV s1) (i64 r.1) (Lz uT r.2.1 r.2.2):=by
 intro uT uV s1 p1 p2 r a;exact Po N a
end Go.Proofs.YtccficmcdkcpnaaGreat
