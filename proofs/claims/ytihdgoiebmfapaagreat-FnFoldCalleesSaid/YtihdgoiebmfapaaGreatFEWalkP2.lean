import Derived.Test.YtihdgoiebmfapaaGreatFEWalkP1
set_option linter.all false
namespace Go.Proofs.YtihdgoiebmfapaaGreat
open Go Go.Abs RC
attribute [local irreducible] Go.Abs.D7
set_option maxRecDepth 100000
set_option maxHeartbeats 4000000
theorem jA:Im Tryz.prog 95=true:=by kernel_rfl
theorem kY:Im Tryz.prog 99=true:=by kernel_rfl
theorem iz:J7 Tryz.prog 95=some [(0,1),(1,1),(2,1)]:=by kernel_rfl
theorem kO:J7 Tryz.prog 99=some [(0,1),(1,1)]:=by kernel_rfl
theorem Nq:Ds Tryz.prog 119=some ⟨32,1,24,[.sl []]⟩:=by kernel_rfl
theorem RB:Ds Tryz.prog 93=some ⟨95,3,56,[.sl [],.sl [],.int .i64 0]⟩:=by kernel_rfl
theorem VB:Hk Tryz.prog 37 2=some 2:=by kernel_rfl
theorem lO:Program.underlying Tryz.prog 3=some (.int .i64):=by kernel_rfl
theorem SK:DW Tryz.prog 23=true:=by kernel_rfl
theorem fr:DW Tryz.prog 93=true:=by kernel_rfl
theorem kt:Dr Tryz.prog 93=some (false,1):=by kernel_rfl
theorem kV:Dr Tryz.prog 95=some (true,3):=by kernel_rfl
theorem fQ:Dr Tryz.prog 99=some (true,2):=by kernel_rfl
theorem lC:ID Tryz.prog 3=some [.int .i64 0]:=by kernel_rfl
theorem fv:ID Tryz.prog 95=some [.zc,.zc,.int .i64 0]:=by kernel_rfl
theorem fJ:ID Tryz.prog 99=some [.zc,.zc]:=by kernel_rfl
theorem SH {qV:(List Int)}{qZ:Int}{r:(List AN)×Int}(h0:JH qV qZ=some r):Ab Tryz.prog 86 [BI] [DY qV qZ] (λv st=>v=(ow 1 0 r.1)/\st=[DY qV r.2,Il r.1]):=by
 unfold JH at h0;refine ai Tryz.func86 AA AA AA AA (zr tb AA AA (sr AA λK2 b4=>zq tb AA (bs h0 λa b5 h0=>GH (rowsP:=[DY qV qZ]) (rows0:=[DY qV qZ]) (rows1:=[DY qV a.2]) (rows2:=[Il a.1]) (rows1':=[DY qV a.2]) (rows2':=[Il a.1]) (st':=[DY qV a.2,Il a.1]) (v':=(ow 1 0 a.1)) [0] AI (hb 87) (MV b5) rfl (by decide) rfl AA (.raw AA AA .nil) rfl AA (.raw AA AA .nil) (.pure (AD λ_=>AA) .nil) rfl AA (zq tb AA (dn b4 AA (sr AA λK4 b6=>zm tb 2 AA (zz (HB a.1) (Cv SK AA AA AA) rfl (bs h0 λc b7 h0=>CN (rows0:=[DY qV a.2]) (rows1:=[DY qV c.2]) (st':=[DY qV c.2,Il a.1]) (v':=(i64 c.1)) [0] AI (hb 83) (Ay b7) rfl (by decide) rfl AA (.raw AA AA .nil) rfl AA (.raw AA AA .nil) .nil AA AA (zq tb AA (dn b6 AA (AG λK6 b8=>bs h0 λo9 b h0=>?_)))))))))));have G:∀(f7:Int) (J:(List AN)),o9=(f7,J)->∀s,Wk 1 s ⟨89,Aa [(3,ow 1 0 J)],[DY qV f7,Il J]⟩->K6 s:=by
  intro f7 J hq s hw;subst o9;refine b8 _ (AK hw (zr tb AA AA ?_));obtain rfl:=Sh.AB h0;exact rt [(2,ow 1 0 J)]
 refine sr AA λb9 K=>zq tb AA (bs b λe M b=>CN (rows0:=[DY qV c.2]) (rows1:=[DY qV e.2]) (st':=[DY qV e.2,Il a.1]) (v':=(i64 e.1)) [0] AI (hb 83) (Ay M) rfl (by decide) rfl AA (.raw AA AA .nil) rfl AA (.raw AA AA .nil) .nil AA AA (dn K AA (AT (zr tb AA AA ?_))));refine ci b AA ?_ ?_<;>clear b<;>intro c0 b
 ·refine AH AA (zm tb 3 AA (BF (m:=2) (l:=[(-1:Int),5,0,2]) (enc:=eI) AI BM (by decide) rfl AA AA AA AA AA (AR (Wk.BL (L:=[(0,BI),(3,ow 1 0 a.1),(15,ow 1 0 a.1),(16,i64 c.1),(17,BI),(18,ls eI [(-1:Int),5,0,2])]) (st':=(Yk qV e.2 a.1 [])) (id:=2) rfl pt (AD λ_=>AA) ⟨.rfl,.rfl,.rfl,.rfl,.rfl,.BL AA,lU⟩ AA) (bs b λf N b=>CN (rows0:=[DY qV e.2]) (rows1:=[DY qV f.2]) (st':=(Yk qV f.2 a.1 [])) (v':=(i64 f.1)) [0] AI (hb 70) (CG N) rfl (by decide) rfl AA (.raw AA AA .nil) rfl AA (.raw AA AA .nil) .nil AA AA (zq tb AA (BF (m:=3) (l:=[(0:Int),1,5]) (enc:=eI) AI BM (by decide) rfl AA AA AA AA AA (AR (Wk.BL (L:=[(3,ow 1 0 a.1),(15,ow 1 0 a.1),(16,i64 c.1),(19,i64 f.1),(20,BI),(21,ls eI [(0:Int),1,5])]) (st':=((DY qV f.2)::(Il a.1)::Ck [])) (id:=3) rfl qG (AD λ_=>AA) ⟨.rfl,.rfl,.rfl,.rfl,.rfl,.BL AA,lU⟩ AA) (bs b λg O b=>CN (rows0:=[DY qV f.2]) (rows1:=[DY qV g.2]) (st':=((DY qV g.2)::(Il a.1)::Ck [])) (v':=(i64 g.1)) [0] AI (hb 70) (CG O) rfl (by decide) rfl AA (.raw AA AA .nil) rfl AA (.raw AA AA .nil) .nil AA AA (zz (.agg [i64 f.1,i64 g.1,.zc]) (DC Lz L0 Gw AA AA) rfl (bs b λc1 C b=>zz (Li c.1) (CB DI AA AA AA AA C) rfl (AR (Af (L:=[(3,ow 1 0 a.1),(23,.agg [i64 f.1,i64 g.1,Uf]),(24,Li c.1)]) ⟨.rfl,.agg ⟨.rfl,.rfl,.zc,lU⟩,.rfl,lU⟩) (J8 (u':=(AN.mk f.1 g.1 [])) AI Jn AA AA C AA AA AA pj rfl AA ?_))))))))))));exact AF (G g.2 (Sh.put a.1 c.1 (AN.mk f.1 g.1 [])) (Sh.AB b).symm _ (by refine Wk.trans (AS (L:=[(3,.own 1 0 (List.length a.1))]) (st':=[⟨0,72,2,[[.sl (List.map E8 qV),i64 g.2]]⟩,⟨0,80,3,List.map Ak (Sh.put a.1 c.1 (AN.mk f.1 g.1 []))⟩]) [0,1] AA (by decide) rfl AA (.raw AA AA (.pure (AD λ_=>AA) .nil)) ⟨.rfl,lU⟩) ?_;exact Af (L:=[(3,.own 1 0 (List.length (Sh.put a.1 c.1 (AN.mk f.1 g.1 []))))]) ⟨(.len (by simp only[Sh.GX])),lU⟩))
 ·refine zr tb AA AA ?_;refine ci b AA ?_ ?_<;>clear b<;>intro c2 b
  ·refine AH AA (zm tb 3 AA (BF (m:=2) (l:=[(-1:Int),0,4,5]) (enc:=eI) AI BM (by decide) rfl AA AA AA AA AA (AR (Wk.BL (L:=(iB a.1 c.1 [(29,BI),(30,ls eI [(-1:Int),0,4,5])])) (st':=(Yk qV e.2 a.1 [])) (id:=2) rfl pt (AD λ_=>AA) ⟨.rfl,.rfl,.rfl,.rfl,.BL AA,lU⟩ AA) (bs b λh P b=>CN (rows0:=[DY qV e.2]) (rows1:=[DY qV h.2]) (st':=(Yk qV h.2 a.1 [])) (v':=(i64 h.1)) [0] AI (hb 70) (CG P) rfl (by decide) rfl AA (.raw AA AA .nil) rfl AA (.raw AA AA .nil) .nil AA AA (BF (m:=3) (l:=[h.1]) (enc:=eI) AI BM (by decide) rfl AA AA AA AA AA (AR (Wk.BL (L:=(iB a.1 c.1 [(32,ls eI [h.1])])) (st':=((DY qV h.2)::(Il a.1)::Ck [])) (id:=3) rfl qG (AD λ_=>AA) ⟨.rfl,.rfl,.rfl,.BL AA,lU⟩ AA) (bs b λk Q b=>zc (v':=(Jh k)) (hb 117) (Dy Q) rfl AA AA (BF (m:=4) (l:=[(0:Int),0,0,0]) (enc:=eI) AI BM (by decide) rfl AA AA AA AA AA (AR (Wk.BL (L:=(iB a.1 c.1 [(33,Jh k),(34,ls eI [(0:Int),0,0,0])])) (st':=((DY qV h.2)::(Il a.1)::Ck [⟨1,3,1,[]⟩])) (id:=4) rfl px (AD λ_=>AA) ⟨.rfl,.rfl,.rfl,.rfl,.BL AA,lU⟩ AA) (bs b λo R b=>zc (v':=(Jh o)) (hb 117) (Dy R) rfl AA AA (BF (m:=5) (l:=([]:List Int)) (enc:=eI) AI BM (by decide) rfl AA AA AA AA AA (AR (Wk.BL (L:=(iB a.1 c.1 [(33,Jh k),(35,Jh o),(36,RW)])) (st':=((DY qV h.2)::(Il a.1)::Ck (Ck []))) (id:=5) rfl qH (AD λ_=>AA) ⟨.rfl,.rfl,.rfl,.rfl,.rfl,.BL AA,lU⟩ AA) (bs b λp S b=>zc (v':=(Jh p)) (hb 117) (Dy S) rfl AA AA (BF (m:=6) (l:=[k,o,p]) (enc:=CD) AI I7 (by decide) rfl AA AA AA AA AA (zz (.agg [i64 0,i64 0,ow 6 0 [k,o,p]]) (DC Lz L0 Gw AA AA) rfl (bs b λc3 D b=>zz (Li c.1) (CB DI AA AA AA AA D) rfl (AR (Wk.BL (L:=[(3,ow 1 0 a.1),(39,.agg [i64 0,i64 0,ls CD [k,o,p]]),(40,Li c.1)]) (st':=((DY qV h.2)::(Il a.1)::Ck (Ck [L6]))) (id:=6) rfl qK (AD λ_=>AA) ⟨.rfl,.agg ⟨.rfl,.rfl,.HT AA,lU⟩,.rfl,lU⟩ AA) (J8 (u':=(AN.mk 0 0 [k,o,p])) AI Jn AA AA D AA AA AA pj rfl AA ?_))))))))))))))))));exact AF (G h.2 (Sh.put a.1 c.1 (AN.mk 0 0 [k,o,p])) (Sh.AB b).symm _ (by refine Wk.trans (AS (L:=[(3,.own 1 0 (List.length a.1))]) (st':=[⟨0,72,2,[[.sl (List.map E8 qV),i64 h.2]]⟩,⟨0,80,3,List.map Ak (Sh.put a.1 c.1 (AN.mk 0 0 [k,o,p]))⟩]) [0,1] AA (by decide) rfl AA (.raw AA AA (.pure (AD λ_=>AA) .nil)) ⟨.rfl,lU⟩) ?_;exact Af (L:=[(3,.own 1 0 (List.length (Sh.put a.1 c.1 (AN.mk 0 0 [k,o,p]))))]) ⟨(.len (by simp only[Sh.GX])),lU⟩))
  ·refine zr tb AA AA ?_;refine ci b AA ?_ ?_<;>clear b<;>intro c4 b
   ·refine AH AA (zm tb 4 AA (BF (m:=2) (l:=[Sh.w (c.1+1)]) (enc:=eI) AI BM (by decide) rfl AA AA AA AA AA (AR (Wk.BL (L:=[(3,ow 1 0 a.1),(43,ow 1 0 a.1),(44,i64 c.1),(47,ls eI [Sh.w (c.1+1)])]) (st':=(Yk qV e.2 a.1 [])) (id:=2) rfl pt (AD λ_=>AA) ⟨.rfl,.rfl,.rfl,.BL AA,lU⟩ AA) (bs b λq T b=>zc (v':=(Jh q)) (hb 117) (Dy T) rfl AA AA (BF (m:=3) (l:=[q]) (enc:=CD) AI I7 (by decide) rfl AA AA AA AA AA (zz (.agg [i64 0,i64 0,ow 3 0 [q]]) (DC Lz L0 Gw AA AA) rfl (bs b λc5 E b=>zz (Li c.1) (CB DI AA AA AA AA E) rfl (AR (Wk.BL (L:=[(3,ow 1 0 a.1),(50,.agg [i64 0,i64 0,ls CD [q]]),(51,Li c.1)]) (st':=(Yk qV e.2 a.1 [L6])) (id:=3) rfl qG (AD λ_=>AA) ⟨.rfl,.agg ⟨.rfl,.rfl,.HT AA,lU⟩,.rfl,lU⟩ AA) (J8 (u':=(AN.mk 0 0 [q])) AI Jn AA AA E AA AA AA pj rfl AA ?_)))))))));exact AF (G e.2 (Sh.put a.1 c.1 (AN.mk 0 0 [q])) (Sh.AB b).symm _ (by refine Wk.trans (AS (L:=[(3,.own 1 0 (List.length a.1))]) (st':=[⟨0,72,2,[[.sl (List.map E8 qV),i64 e.2]]⟩,⟨0,80,3,List.map Ak (Sh.put a.1 c.1 (AN.mk 0 0 [q]))⟩]) [0,1] AA (by decide) rfl AA (.raw AA AA (.pure (AD λ_=>AA) .nil)) ⟨.rfl,lU⟩) ?_;exact Af (L:=[(3,.own 1 0 (List.length (Sh.put a.1 c.1 (AN.mk 0 0 [q]))))]) ⟨(.len (by simp only[Sh.GX])),lU⟩))
   ·refine zr tb AA AA ?_;refine ci b AA ?_ ?_<;>clear b<;>intro c6 b
    ·refine AH AA (zm tb 2 AA (BF (m:=2) (l:=[(0:Int),2,1]) (enc:=eI) AI BM (by decide) rfl AA AA AA AA AA (AR (Wk.BL (L:=[(54,ow 1 0 a.1),(55,BI),(56,ls eI [(0:Int),2,1])]) (st':=(Yk qV e.2 a.1 [])) (id:=2) rfl pt (AD λ_=>AA) ⟨.rfl,.rfl,.BL AA,lU⟩ AA) (bs b λn U b=>CN (rows0:=[DY qV e.2]) (rows1:=[DY qV n.2]) (st':=(Yk qV n.2 a.1 [])) (v':=(i64 n.1)) [0] AI (hb 70) (CG U) rfl (by decide) rfl AA (.raw AA AA .nil) rfl AA (.raw AA AA .nil) .nil AA AA (zz (.agg [i64 2,i64 n.1,.zc]) (DC Lz L0 Gw AA AA) rfl (AR (Af (L:=[(54,ow 1 0 a.1),(58,.agg [i64 2,i64 n.1,Uf])]) ⟨.rfl,.agg ⟨.rfl,.rfl,.zc,lU⟩,lU⟩) (BF (m:=3) (l:=([AN.mk 2 n.1 []])) (enc:=Ak) AI DI (by decide) rfl AA AA AA AA AA (bs b λH V b=>Cz (l2:=([AN.mk 2 n.1 []])) AI DI AA AA AA AA (HI AA AA) (λ_=>AA) V AA (zq tb AA ?_)))))))));exact AF (G n.2 H (Sh.AB b).symm _ (by refine Wk.trans (Dp (L:=[(3,ow 1 0 H)]) (st':=[DY qV n.2,Il H,⟨0,3,1,[]⟩,ro 0 80 3 Ak ([AN.mk 2 n.1 []])]) (.raw AA AA AA (.pure AA (AD λ_=>AA) (.pure AA (by intro x hx;cases hx) (.pure AA (AD λ_=>AA) .nil)))) (.same AA)) ?_;exact AS [0,1] AA (by decide) rfl AA (.raw AA AA (.pure (AD λ_=>AA) .nil)) (.same AA)))
    ·refine zr tb AA AA ?_;refine ci b AA ?_ ?_<;>clear b<;>intro c7 b
     ·refine AH AA (zm tb 3 AA (bs b λd W b=>CN (rows0:=[DY qV e.2]) (rows1:=[DY qV d.2]) (st':=[DY qV d.2,Il a.1]) (v':=(i64 d.1)) [0] AI (hb 83) (Ay W) rfl (by decide) rfl AA (.raw AA AA .nil) rfl AA (.raw AA AA .nil) .nil AA AA (BF (m:=2) (l:=([]:List Int)) (enc:=eI) AI BM (by decide) rfl AA AA AA AA AA (AR (Wk.BL (L:=((0,BI)::gb a.1 c.1 d.1 [(67,RW)])) (st':=(Yk qV d.2 a.1 [])) (id:=2) rfl pt (AD λ_=>AA) ⟨.rfl,.rfl,.rfl,.rfl,.rfl,.BL AA,lU⟩ AA) (bs b λt X b=>zc (v':=(Jh t)) (hb 117) (Dy X) rfl AA AA (BF (m:=3) (l:=[(2:Int)]) (enc:=eI) AI BM (by decide) rfl AA AA AA AA AA (AR (Wk.BL (L:=((0,BI)::gb a.1 c.1 d.1 [(68,Jh t),(69,ls eI [(2:Int)])])) (st':=((DY qV d.2)::(Il a.1)::Ck [])) (id:=3) rfl qG (AD λ_=>AA) ⟨.rfl,.rfl,.rfl,.rfl,.rfl,.rfl,.BL AA,lU⟩ AA) (bs b λy Y b=>zc (v':=(Jh y)) (hb 117) (Dy Y) rfl AA AA (BF (m:=4) (l:=([]:List Int)) (enc:=eI) AI BM (by decide) rfl AA AA AA AA AA (AR (Wk.BL (L:=((0,BI)::gb a.1 c.1 d.1 [(68,Jh t),(70,Jh y),(71,RW)])) (st':=((DY qV d.2)::(Il a.1)::Ck [⟨1,3,1,[]⟩])) (id:=4) rfl px (AD λ_=>AA) ⟨.rfl,.rfl,.rfl,.rfl,.rfl,.rfl,.rfl,.BL AA,lU⟩ AA) (bs b λz Z b=>zc (v':=(Jh z)) (hb 117) (Dy Z) rfl AA AA (BF (m:=5) (l:=([]:List Int)) (enc:=eI) AI BM (by decide) rfl AA AA AA AA AA (AR (Wk.BL (L:=((0,BI)::gb a.1 c.1 d.1 [(68,Jh t),(70,Jh y),(72,Jh z),(73,RW)])) (st':=((DY qV d.2)::(Il a.1)::Ck (Ck []))) (id:=5) rfl qH (AD λ_=>AA) ⟨.rfl,.rfl,.rfl,.rfl,.rfl,.rfl,.rfl,.rfl,.BL AA,lU⟩ AA) (bs b λA b0 b=>zc (v':=(Jh A)) (hb 117) (Dy b0) rfl AA AA (BF (m:=6) (l:=[t,y,z,A]) (enc:=CD) AI I7 (by decide) rfl AA AA AA AA AA (zq tb AA (bs b λu b1 b=>CN (rows0:=[DY qV d.2]) (rows1:=[DY qV u.2]) (st':=((DY qV u.2)::(Il a.1)::Ck (Ck [ro 0 82 1 CD [t,y,z,A]]))) (v':=(i64 u.1)) [0] AI (hb 83) (Ay b1) rfl (by decide) rfl AA (.raw AA AA .nil) rfl AA (.raw AA AA .nil) .nil AA AA (AR (Wk.BL (L:=(gb a.1 c.1 d.1 [(75,ls CD [t,y,z,A]),(77,i64 u.1)])) (st':=((DY qV u.2)::(Il a.1)::Ck (Ck [L6]))) (id:=6) rfl qK (AD λ_=>AA) ⟨.rfl,.rfl,.rfl,.rfl,.BL AA,.rfl,lU⟩ AA) (bs b λB b2 b=>SU (i:=u.1) (j:=Sh.len [t,y,z,A]) AI I7 AA AA AA (λ_=>AA) b2 (zz (.agg [i64 d.1,i64 0,ls CD B]) (DC Lz L0 Gw AA AA) rfl (bs b λc8 F b=>zz (Li c.1) (CB DI AA AA AA AA F) rfl (J8 (u':=(AN.mk d.1 0 B)) AI Jn AA AA F AA AA AA pj rfl AA ?_))))))))))))))))))))));exact AF (G u.2 (Sh.put a.1 c.1 (AN.mk d.1 0 B)) (Sh.AB b).symm _ (by refine Wk.trans (AS (L:=[(3,.own 1 0 (List.length a.1))]) (st':=[⟨0,72,2,[[.sl (List.map E8 qV),i64 u.2]]⟩,⟨0,80,3,List.map Ak (Sh.put a.1 c.1 (AN.mk d.1 0 B))⟩]) [0,1] AA (by decide) rfl AA (.raw AA AA (.pure (AD λ_=>AA) .nil)) ⟨.rfl,lU⟩) ?_;exact Af (L:=[(3,.own 1 0 (List.length (Sh.put a.1 c.1 (AN.mk d.1 0 B))))]) ⟨(.len (by simp only[Sh.GX])),lU⟩))
     ·refine zr tb AA AA ?_;refine ci b AA ?_ ?_<;>clear b<;>intro c9 b
      ·refine AH AA (zq tb AA (zz (.agg [i64 0,i64 0,.zc]) (DC Lz L0 Gw AA AA) rfl (zz (.agg [i64 3,i64 0,.zc]) (DC Lz L0 Gw AA AA) rfl (AR (Af (L:=[(83,ow 1 0 a.1),(84,.agg [i64 0,i64 0,Uf]),(85,.agg [i64 3,i64 0,.zc])]) ⟨.rfl,.agg ⟨.rfl,.rfl,.zc,lU⟩,.rfl,lU⟩) (AR (Af (L:=[(83,ow 1 0 a.1),(84,.agg [i64 0,i64 0,Uf]),(85,.agg [i64 3,i64 0,Uf])]) ⟨.rfl,.rfl,.agg ⟨.rfl,.rfl,.zc,lU⟩,lU⟩) (BF (m:=2) (l:=([AN.mk 0 0 [],AN.mk 3 0 []])) (enc:=Ak) AI DI (by decide) rfl AA AA AA AA AA (bs b λI b3 b=>Cz (l2:=([AN.mk 0 0 [],AN.mk 3 0 []])) AI DI AA AA AA AA (HI AA AA) (λ_=>AA) b3 AA (zq tb AA ?_))))))));exact AF (G e.2 I (Sh.AB b).symm _ (by refine Wk.trans (Dp (L:=[(3,ow 1 0 I)]) (st':=[DY qV e.2,Il I,ro 0 80 3 Ak ([AN.mk 0 0 [],AN.mk 3 0 []])]) (.raw AA AA AA (.pure AA (AD λ_=>AA) (.pure AA (AD λ_=>AA) .nil))) (.same AA)) ?_;exact AS [0,1] AA (by decide) rfl AA (.raw AA AA (.pure (AD λ_=>AA) .nil)) (.same AA)))
      ·exact AL (G e.2 a.1 (Sh.AB b).symm _ (AJ AA))
theorem PM {N:Nat}{qV:(List Int)}{qZ:Int}{s1:(List Ac)}{qX:(List AN)}{r:AP×Int}(h0:G7 N qV qZ s1 qX=some r):Ab Tryz.prog 53 [BI,HY qX s1] [DY qV qZ,Ml s1] (λv st=>v=(.agg [Cu r.1.decls,ow 1 1 r.1.funcs])/\st=[DY qV r.2,ro 1 37 5 BO r.1.funcs]):=by
 unfold G7 at h0;refine Ab.wk (r0:=(.agg [Cu r.1.decls,ow 1 1 r.1.funcs])) (st0:=(gR qV r.2 r.1.funcs r.1.decls [])) (ai Tryz.func53 AA AA AA AA (sr AA λX F=>Bd (m:=2) AI AA AA AA AA AA (Av (m:=3) AI JV AA AA (dn F AA (sr AA λY G=>zm tb 3 AA (zz (HB s1) (Cv Rz AA AA AA) rfl (bs h0 λc H h0=>CN (rows0:=[DY qV qZ]) (rows1:=[DY qV c.2]) (st':=((DY qV c.2)::Jm s1 qX [Lr])) (v':=(i64 c.1)) [0] AI (hb 83) (Ay H) rfl (by decide) rfl AA (.raw AA AA .nil) rfl AA (.raw AA AA .nil) .nil AA AA (zq tb AA (dn G AA (sr AA λZ I=>zm tb 3 AA (bs h0 λa j h0=>zz (Li c.1) (CB Ct AA AA AA AA j) rfl (zz (F5 a) (As LV AA AA (CW j) pq rfl) rfl (Av (m:=4) AI L4 AA AA (Am AI LV AA AA AA AA AA AA pq rfl (AR (Wk.BL (L:=(gu c.1 a [])) (st':=((DY qV c.2)::Jm s1 qX (Ze []))) (id:=4) rfl py (ET AA) (.same AA) rfl) (dn I AA (AG λO J=>bs h0 λq e h0=>?_))))))))))))))))) (Dg (L:=[(0,.agg [Cu r.1.decls,ow 1 1 r.1.funcs])]) (st':=[DY qV r.2,ro 1 37 5 BO r.1.funcs]) [0,1] AA (by decide) rfl AA (.raw AA (.pure (AD λ_=>AA) lU)) (.same AA));have n:∀(E:Int) (o:(List Ac)) (p:(List AN)),q=(E,o,p)->∀s,Wk 2 s ⟨80,Aa [(3,CY),(4,Hd)],gR qV E o p [Lr]⟩->O s:=by
  intro E o p hq s P;subst q;refine J _ (AK P (sr AA λQ t=>zq tb AA (Am AI EM AA AA AA AA AA AA pk rfl (dn t AA ?_))));obtain rfl:=Sh.AB h0;exact Ao (Exists.intro _ (And.intro ((AS (L:=[(4,CY)]) (st':=(gR qV E o p [])) [0,1,3] AA (by decide) rfl AA (.raw AA AA (.pure (AD λ_=>AA) (.raw AA AA .nil))) ⟨.rfl,lU⟩).trans (Af (L:=[(4,CY)]) ⟨.rfl,lU⟩)) (As (x:=.tmp 4) (off:=0) (cs:=[Cu p,ow 1 1 o]) (vs:=[Cu p,ow 1 1 o]) EM AA AA AA pk rfl _ ⟨AA,AA⟩)))
 refine sr AA λR u=>zq tb AA (bs e λf w e=>CN (rows0:=[DY qV c.2]) (rows1:=[DY qV f.2]) (st':=((DY qV f.2)::Jm s1 qX (Ze []))) (v':=(i64 f.1)) [0] AI (hb 83) (Ay w) rfl (by decide) rfl AA (.raw AA AA .nil) rfl AA (.raw AA AA .nil) .nil AA AA (dn u AA (AT (zr tb AA AA ?_))));refine ci e AA ?_ ?_<;>clear e<;>intro S e
 ·refine AK (Dp (L:=(gu c.1 a [])) (st':=((DY qV f.2)::Jm s1 qX [Lr,⟨0,37,5,[]⟩])) (.raw AA AA AA (.pure AA (AD λ_=>AA) (.raw AA AA AA (.raw AA AA AA (.pure AA (by intro x k;cases k) .nil))))) (.same AA)) ?_;refine Bi (Jm s1 qX [Lr,⟨0,37,5,[]⟩]) 13 (by kernel_rfl) (by kernel_rfl) (by kernel_rfl) (by rfl) (BN (.ptr 2 0 0 1) AI AA (λ_ _=>E2 KX AA AA pw rfl) (BN (ow 1 0 s1) AI AA (λ_ _=>CA PF AA AA AA AA) (BN (i64 c.1) AI AA (λ_ _=>BT AA) (BN (.Bn (Pf a) 0) AI AA (λ_ _=>IV SI AA AA) (BN (ls eI a.params) AI AA (λ_ _=>Hv Jo AA AA) (BN (.Bn (Pf a) 1) AI AA (λ_ _=>IV QQ AA AA) (BN (i64 a.result) AI AA (λ_ _=>Hv HV AA AA) (BN BI AI AA (λ_ _=>BT AA) (BN (.Bn (Pf a) 2) AI AA (λ_ _=>IV VB AA AA) (BN (Ys a) AI AA (λ_ _=>Hh BE AA pz rfl) (bs e λb y e=>Gm (rows0:=[DY qV f.2]) (rows1:=[DY qV b.2]) (v':=(DP b.1.op b.1.num b.1.kids)) (y0:=(DY qV b.2)) [0] AI (hb 84) (XO y) rfl (by decide) rfl AA (.raw AA AA .nil) rfl AA (λ_=>(.raw AA AA .nil)) (λ_=>AA) rfl (BN (.agg [ls eI a.params,i64 a.result,i64 b.1.op,i64 b.1.num,Gc b.1.kids]) AI AA (λ_ _=>DC UY UK L4 AA AA) (BN (Li c.1) AI AA (λ_ _=>CB Ct AA AA AA AA j) (E1 AA (J8 (u':=(Ac.mk a.params a.result b.1)) AI LV AA AA j AA AA AA pq rfl AA ?_)))))))))))))));exact AF (n b.2 (Sh.put s1 c.1 (Ac.mk a.params a.result b.1)) qX (Sh.AB e).symm _ (by refine Wk.trans (Fc (st:=[⟨0,72,2,[[.sl (List.map E8 qV),i64 b.2]]⟩,⟨0,37,5,List.map BO (Sh.put s1 c.1 (Ac.mk a.params a.result b.1))⟩,⟨0,26,2,[[.sl (List.map Ak qX),.own 1 0 (List.length s1)]]⟩,Lr,⟨0,37,5,[]⟩]) (st':=[⟨0,72,2,[[.sl (List.map E8 qV),i64 b.2]]⟩,⟨0,37,5,List.map BO (Sh.put s1 c.1 (Ac.mk a.params a.result b.1))⟩,⟨0,26,2,[[.sl (List.map Ak qX),.own 1 0 (List.length (Sh.put s1 c.1 (Ac.mk a.params a.result b.1)))]]⟩,Lr,⟨0,37,5,[]⟩]) (by simp only[Sh.GX])) ?_;refine Wk.trans (Ma (L:=[(3,.ptr 2 0 0 0),(4,.ptr 3 0 0 0)]) (st':=[⟨0,72,2,[[.sl (List.map E8 qV),i64 b.2]]⟩,⟨1,37,5,List.map BO (Sh.put s1 c.1 (Ac.mk a.params a.result b.1))⟩,⟨0,26,2,[[.sl (List.map Ak qX),.own 1 1 (List.length (Sh.put s1 c.1 (Ac.mk a.params a.result b.1)))]]⟩,Lr,⟨0,37,5,[]⟩]) (st1:=[⟨0,72,2,[[.sl (List.map E8 qV),i64 b.2]]⟩,⟨0,37,5,List.map BO (Sh.put s1 c.1 (Ac.mk a.params a.result b.1))⟩,⟨0,26,2,[[.sl (List.map Ak qX),.own 1 1 (List.length (Sh.put s1 c.1 (Ac.mk a.params a.result b.1)))]]⟩,Lr,⟨0,37,5,[]⟩]) 1 AA (.raw AA AA (.pure (AD λ_=>AA) (.raw AA AA (.raw AA AA (.pure (by intro x k;cases k) .nil))))) rfl (.same AA)) ?_;exact AS [0,1,2,3] AA (by decide) rfl AA (.raw AA AA (.pure (AD λ_=>AA) (.raw AA AA (.raw AA AA .nil)))) (.same AA)))
 ·refine zr tb AA AA ?_;refine ci e AA ?_ ?_<;>clear e<;>intro T e
  ·refine AK (Dp (L:=(gu c.1 a [])) (st':=((DY qV f.2)::Jm s1 qX [Lr,⟨0,37,5,[]⟩])) (.raw AA AA AA (.pure AA (AD λ_=>AA) (.raw AA AA AA (.raw AA AA AA (.pure AA (by intro x k;cases k) .nil))))) (.same AA)) ?_;refine Bi (Jm s1 qX [Lr,⟨0,37,5,[]⟩]) 16 (by kernel_rfl) (by kernel_rfl) (by kernel_rfl) (by rfl) (BN (.ptr 2 0 0 1) AI AA (λ_ _=>E2 KX AA AA pw rfl) (BN (ow 1 0 s1) AI AA (λ_ _=>CA PF AA AA AA AA) (BN (i64 c.1) AI AA (λ_ _=>BT AA) (BN (.Bn (Pf a) 0) AI AA (λ_ _=>IV SI AA AA) (BN (ls eI a.params) AI AA (λ_ _=>Hv Jo AA AA) (BN BI AI AA (λ_ _=>BT AA) (FX AI (λK zz=>GA (l:=[(0:Int),1,9,-1]) (enc:=eI) AI BM (by decide) rfl AA AA AA AA (AD λ_=>AA) (Aw AA)) (bs e λi z e=>Gm (rows0:=[DY qV f.2]) (rows1:=[DY qV i.2]) (v':=(i64 i.1)) (y0:=(DY qV i.2)) [0] AI (hb 70) (CG z) rfl (by decide) rfl AA (.raw AA AA .nil) rfl AA (λ_=>(.raw AA AA .nil)) (λ_=>AA) rfl (FX AI (λK zz=>GA (l:=[i.1]) (enc:=eI) AI BM (by decide) rfl AA AA AA AA (AD λ_=>AA) (Aw AA)) (bs e λh A e=>?_))))))))));refine FX AI (λK zz=>BV (v:=(ls eI h)) AI (hb 85) (Ab.wk (FV A) (by refine Wk.trans (Wk.BL (L:=[(0,ls eI h)]) (st':=Rk) (id:=0) rfl pn (AD λ_=>AA) ⟨.BL AA,lU⟩ AA) ?_;exact AS [] AA (by decide) rfl AA .nil (.same AA))) rfl AA AA (Aw AA)) ?_;refine BN (.Bn (Pf a) 1) AI AA (λ_ _=>IV QQ AA AA) (BN (i64 a.result) AI AA (λ_ _=>Hv HV AA AA) (BN (.Bn (Pf a) 2) AI AA (λ_ _=>IV VB AA AA) (BN (Ys a) AI AA (λ_ _=>Hh BE AA pz rfl) (BN (.agg [ls eI h,i64 a.result,i64 a.body.op,i64 a.body.num,ls Ar a.body.kids]) AI AA (λ_ _=>DC UY UK L4 AA AA) (BN (Li c.1) AI AA (λ_ _=>CB Ct AA AA AA AA j) (E1 AA (J8 (u':=(Ac.mk h a.result a.body)) AI LV AA AA j AA AA AA pq rfl AA ?_)))))));exact AF (n i.2 (Sh.put s1 c.1 (Ac.mk h a.result a.body)) qX (Sh.AB e).symm _ (by refine Wk.trans (Fc (st:=[⟨0,72,2,[[.sl (List.map E8 qV),i64 i.2]]⟩,⟨0,37,5,List.map BO (Sh.put s1 c.1 (Ac.mk h a.result a.body))⟩,⟨0,26,2,[[.sl (List.map Ak qX),.own 1 0 (List.length s1)]]⟩,Lr,⟨0,37,5,[]⟩]) (st':=[⟨0,72,2,[[.sl (List.map E8 qV),i64 i.2]]⟩,⟨0,37,5,List.map BO (Sh.put s1 c.1 (Ac.mk h a.result a.body))⟩,⟨0,26,2,[[.sl (List.map Ak qX),.own 1 0 (List.length (Sh.put s1 c.1 (Ac.mk h a.result a.body)))]]⟩,Lr,⟨0,37,5,[]⟩]) (by simp only[Sh.GX])) ?_;refine Wk.trans (Ma (L:=[(3,.ptr 2 0 0 0),(4,.ptr 3 0 0 0)]) (st':=[⟨0,72,2,[[.sl (List.map E8 qV),i64 i.2]]⟩,⟨1,37,5,List.map BO (Sh.put s1 c.1 (Ac.mk h a.result a.body))⟩,⟨0,26,2,[[.sl (List.map Ak qX),.own 1 1 (List.length (Sh.put s1 c.1 (Ac.mk h a.result a.body)))]]⟩,Lr,⟨0,37,5,[]⟩]) (st1:=[⟨0,72,2,[[.sl (List.map E8 qV),i64 i.2]]⟩,⟨0,37,5,List.map BO (Sh.put s1 c.1 (Ac.mk h a.result a.body))⟩,⟨0,26,2,[[.sl (List.map Ak qX),.own 1 1 (List.length (Sh.put s1 c.1 (Ac.mk h a.result a.body)))]]⟩,Lr,⟨0,37,5,[]⟩]) 1 AA (.raw AA AA (.pure (AD λ_=>AA) (.raw AA AA (.raw AA AA (.pure (by intro x k;cases k) .nil))))) rfl (.same AA)) ?_;exact AS [0,1,2,3] AA (by decide) rfl AA (.raw AA AA (.pure (AD λ_=>AA) (.raw AA AA (.raw AA AA .nil)))) (.same AA)))
  ·refine zr tb AA AA ?_;refine ci e AA ?_ ?_<;>clear e<;>intro U e
   ·refine AK (Dp (L:=(gu c.1 a [])) (st':=((DY qV f.2)::Jm s1 qX [Lr,⟨0,37,5,[]⟩])) (.raw AA AA AA (.pure AA (AD λ_=>AA) (.raw AA AA AA (.raw AA AA AA (.pure AA (by intro x k;cases k) .nil))))) (.same AA)) ?_;refine Bi (Jm s1 qX [Lr,⟨0,37,5,[]⟩]) 12 (by kernel_rfl) (by kernel_rfl) (by kernel_rfl) (by rfl) (BN (.ptr 2 0 0 1) AI AA (λ_ _=>E2 KX AA AA pw rfl) (BN (ow 1 0 s1) AI AA (λ_ _=>CA PF AA AA AA AA) (BN (i64 c.1) AI AA (λ_ _=>BT AA) (BN (.Bn (Pf a) 0) AI AA (λ_ _=>IV SI AA AA) (BN (ls eI a.params) AI AA (λ_ _=>Hv Jo AA AA) (BN BI AI AA (λ_ _=>BT AA) (FX AI (λK zz=>GA (l:=[(0:Int),1,3,5,-1]) (enc:=eI) AI BM (by decide) rfl AA AA AA AA (AD λ_=>AA) (Aw AA)) (bs e λd B e=>Gm (rows0:=[DY qV f.2]) (rows1:=[DY qV d.2]) (v':=(i64 d.1)) (y0:=(DY qV d.2)) [0] AI (hb 70) (CG B) rfl (by decide) rfl AA (.raw AA AA .nil) rfl AA (λ_=>(.raw AA AA .nil)) (λ_=>AA) rfl (BN (.Bn (Pf a) 2) AI AA (λ_ _=>IV VB AA AA) (BN (Ys a) AI AA (λ_ _=>Hh BE AA pz rfl) (BN (.agg [ls eI a.params,i64 d.1,i64 a.body.op,i64 a.body.num,ls Ar a.body.kids]) AI AA (λ_ _=>DC UY UK L4 AA AA) (BN (Li c.1) AI AA (λ_ _=>CB Ct AA AA AA AA j) (E1 AA (J8 (u':=(Ac.mk a.params d.1 a.body)) AI LV AA AA j AA AA AA pq rfl AA ?_))))))))))))));exact AF (n d.2 (Sh.put s1 c.1 (Ac.mk a.params d.1 a.body)) qX (Sh.AB e).symm _ (by refine Wk.trans (Fc (st:=[⟨0,72,2,[[.sl (List.map E8 qV),i64 d.2]]⟩,⟨0,37,5,List.map BO (Sh.put s1 c.1 (Ac.mk a.params d.1 a.body))⟩,⟨0,26,2,[[.sl (List.map Ak qX),.own 1 0 (List.length s1)]]⟩,Lr,⟨0,37,5,[]⟩]) (st':=[⟨0,72,2,[[.sl (List.map E8 qV),i64 d.2]]⟩,⟨0,37,5,List.map BO (Sh.put s1 c.1 (Ac.mk a.params d.1 a.body))⟩,⟨0,26,2,[[.sl (List.map Ak qX),.own 1 0 (List.length (Sh.put s1 c.1 (Ac.mk a.params d.1 a.body)))]]⟩,Lr,⟨0,37,5,[]⟩]) (by simp only[Sh.GX])) ?_;refine Wk.trans (Ma (L:=[(3,.ptr 2 0 0 0),(4,.ptr 3 0 0 0)]) (st':=[⟨0,72,2,[[.sl (List.map E8 qV),i64 d.2]]⟩,⟨1,37,5,List.map BO (Sh.put s1 c.1 (Ac.mk a.params d.1 a.body))⟩,⟨0,26,2,[[.sl (List.map Ak qX),.own 1 1 (List.length (Sh.put s1 c.1 (Ac.mk a.params d.1 a.body)))]]⟩,Lr,⟨0,37,5,[]⟩]) (st1:=[⟨0,72,2,[[.sl (List.map E8 qV),i64 d.2]]⟩,⟨0,37,5,List.map BO (Sh.put s1 c.1 (Ac.mk a.params d.1 a.body))⟩,⟨0,26,2,[[.sl (List.map Ak qX),.own 1 1 (List.length (Sh.put s1 c.1 (Ac.mk a.params d.1 a.body)))]]⟩,Lr,⟨0,37,5,[]⟩]) 1 AA (.raw AA AA (.pure (AD λ_=>AA) (.raw AA AA (.raw AA AA (.pure (by intro x k;cases k) .nil))))) rfl (.same AA)) ?_;exact AS [0,1,2,3] AA (by decide) rfl AA (.raw AA AA (.pure (AD λ_=>AA) (.raw AA AA (.raw AA AA .nil)))) (.same AA)))
   ·refine zr tb AA AA ?_;refine ci e AA ?_ ?_<;>clear e<;>intro V e
    ·refine AH AA (zq tb AA (bs e λg C e=>GH (rowsP:=[DY qV f.2]) (rows0:=[DY qV f.2]) (rows1:=[DY qV g.2]) (rows2:=[Il g.1]) (rows1':=[DY qV g.2]) (rows2':=[Il g.1]) (st':=((DY qV g.2)::Jm s1 qX (Ze [Il g.1]))) (v':=(ow 5 0 g.1)) [0] AI (hb 86) (SH C) rfl (by decide) rfl AA (.raw AA AA .nil) rfl AA (.raw AA AA .nil) (.pure (AD λ_=>AA) .nil) rfl AA (zq tb AA (AR (Wk.BL (L:=[(3,CY),(4,Hd),(69,Cu g.1),(70,CY)]) (st':=((DY qV g.2)::Jm s1 qX (Ze [Ng]))) (id:=5) rfl qB (AD λ_=>AA) ⟨.rfl,.rfl,.BL AA,.rfl,lU⟩ AA) (Am AI aO AA AA AA AA AA AA pw rfl ?_)))));exact AF (n g.2 s1 g.1 (Sh.AB e).symm _ (by refine Wk.trans (Ma (L:=[(3,CY),(4,Hd)]) (st':=(gR qV g.2 s1 g.1 (Ze [Ng]))) (st1:=((DY qV g.2)::(Ml s1)::⟨0,26,2,[[Cu g.1,ow 1 1 s1]]⟩::Ze [Ng])) 1 AA (.raw AA AA (.pure (AD λ_=>AA) (.raw AA AA (.raw AA AA (.pure (by intro x k;cases k) (.pure (by intro x k;cases k) .nil)))))) rfl (.same AA)) ?_;exact AS [0,1,2,3] AA (by decide) rfl AA (.raw AA AA (.pure (AD λ_=>AA) (.raw AA AA (.raw AA AA .nil)))) (.same AA)))
    ·refine zr tb AA AA ?_;refine ci e AA ?_ ?_<;>clear e<;>intro W e
     ·exact AH AA (zm tb 3 AA (BF (m:=5) (l:=[a]) (enc:=BO) AI Ct (by decide) rfl AA AA AA AA AA (bs e λM D e=>Cz (l2:=[a]) AI Ct AA AA AA AA (HI AA AA) (λ_=>AA) D AA (zq tb AA (Am AI PF AA AA AA AA AA AA qF rfl (AF (n f.2 M qX (Sh.AB e).symm _ (AS [0,1,2,3] AA (by decide) rfl AA (.raw AA AA (.pure (AD λ_=>AA) (.raw AA AA (.raw AA AA .nil)))) (.same AA)))))))))
     ·exact AL (n f.2 s1 qX (Sh.AB e).symm _ (by refine Wk.trans (Ma (L:=[(3,CY),(4,Hd)]) (st':=(gR qV f.2 s1 qX (Ze []))) (st1:=((DY qV f.2)::(Ml s1)::⟨0,26,2,[[Cu qX,ow 1 1 s1]]⟩::Ze [])) 1 AA (.raw AA AA (.pure (AD λ_=>AA) (.raw AA AA (.raw AA AA (.pure (by intro x k;cases k) .nil))))) rfl (.same AA)) ?_;exact AS [0,1,2,3] AA (by decide) rfl AA (.raw AA AA (.pure (AD λ_=>AA) (.raw AA AA (.raw AA AA .nil)))) (.same AA)))
theorem Qn {N:Nat}{qV:(List Int)}{qZ:Int}{r:AP×Int}(h0:H5 N qV qZ=some r):Ab Tryz.prog 25 [BI] [DY qV qZ] (λv st=>v=(HY r.1.decls r.1.funcs)/\st=[DY qV r.2,Ml r.1.funcs]):=by
 unfold H5 at h0;refine Ab.wk (r0:=(HY r.1.decls r.1.funcs)) (st0:=((DY qV r.2)::Jm r.1.funcs r.1.decls [])) (ai Tryz.func25 AA AA AA AA (sr AA λg c=>Av (m:=1) AI JV AA AA (dn c AA (sr AA λh d=>zm tb 2 AA (bs h0 λb e h0=>GH (rowsP:=[DY qV qZ]) (rows0:=[DY qV qZ]) (rows1:=[DY qV b.2]) (rows2:=[Ml b.1.funcs]) (rows1':=[DY qV b.2]) (rows2':=[Ml b.1.funcs]) (st':=[DY qV b.2,Lr,Ml b.1.funcs]) (v':=(.agg [Cu b.1.decls,ow 2 0 b.1.funcs])) [0] AI (hb 54) (Ph e) rfl (by decide) rfl AA (.raw AA AA .nil) rfl AA (.raw AA AA .nil) (.pure (AD λ_=>AA) .nil) rfl AA (bs h0 λa f h0=>CN (rows0:=[DY qV b.2,Ml b.1.funcs]) (rows1:=[DY qV a.2,ro 1 37 5 BO a.1.funcs]) (st':=[DY qV a.2,Lr,ro 1 37 5 BO a.1.funcs]) (v':=(.agg [Cu a.1.decls,ow 2 1 a.1.funcs])) [0,2] AI (hb 53) (PM f) rfl (by decide) rfl AA (.raw AA AA (.pure (AD λ_=>AA) .nil)) rfl AA (.raw AA AA (.pure (AD λ_=>AA) .nil)) .nil AA AA (Am AI EM AA AA AA AA AA AA pk rfl (dn d AA ?_)))))))) (Dg (L:=[(0,HY r.1.decls r.1.funcs)]) (st':=[DY qV r.2,Ml r.1.funcs]) [0,1] AA (by decide) rfl AA (.raw AA (.pure (AD λ_=>AA) lU)) (.same AA));obtain rfl:=Sh.AB h0;exact Ao (Exists.intro _ (And.intro (((Dp (L:=[(2,CT)]) (st':=[DY qV a.2,⟨0,26,2,[[Cu a.1.decls,ow 2 0 a.1.funcs]]⟩,Ml a.1.funcs]) (.raw AA AA AA (.raw AA AA AA (.pure AA (AD λ_=>AA) .nil))) (.same AA)).trans (Bq (L:=[(2,CY)]) (st':=((DY qV a.2)::Jm a.1.funcs a.1.decls [])) (st1:=((DY qV a.2)::fR a.1.funcs a.1.decls [])) [0,2,1] AA (.raw AA AA .nil) (by decide) rfl AA (.raw AA AA (.pure (AD λ_=>AA) (.raw AA AA .nil))) (.same AA))).trans (Af (L:=[(2,CY)]) (.same AA))) (As (x:=.tmp 2) (off:=0) (cs:=[Cu a.1.decls,ow 1 0 a.1.funcs]) (vs:=[Cu a.1.decls,ow 1 0 a.1.funcs]) EM AA AA AA pk rfl _ ⟨AA,AA⟩)))
theorem Sx {N:Nat}{p0:(List Int)}{r:AP}(h0:JY N p0=some r):Ab Tryz.prog 13 [ls E8 p0] [] (λv st=>v=(Hs r)/\st=[]):=by
 unfold JY at h0;refine Ci AA (ai Tryz.func13 AA AA AA AA (sr AA λg c=>Av (m:=0) AI JV AA AA (dn c AA (sr AA λh d=>zq tb AA (bs h0 λb e h0=>CH (v':=CT) AI (hb 26) (Rl e) rfl AA ⟨(ET AA).any,lU⟩ AA AA (bs h0 λa f h0=>GH (rowsP:=[DY b.1 b.2]) (rows0:=[DY b.1 b.2]) (rows1:=[DY b.1 a.2]) (rows2:=[Ml a.1.funcs]) (rows1':=[DY b.1 a.2]) (rows2':=[Ml a.1.funcs]) (st':=[Lr,DY b.1 a.2,Ml a.1.funcs]) (v':=(.agg [Cu a.1.decls,ow 2 0 a.1.funcs])) [1] AI (hb 25) (Qn f) rfl (by decide) rfl AA (.raw AA AA .nil) rfl AA (.raw AA AA .nil) (.pure (AD λ_=>AA) .nil) rfl AA (AR (Wk.BL (L:=[(2,BI),(5,.agg (Pp a.1.decls a.1.funcs))]) (st':=[Lr,DY b.1 a.2,⟨1,37,5,[]⟩]) (id:=2) rfl qC (AD λ_=>AA) ⟨.rfl,.agg ⟨.rfl,.HT AA,lU⟩,lU⟩ AA) (Am AI EM AA AA AA AA AA AA pk rfl (dn d AA ?_)))))))));obtain rfl:=Sh.AB h0;exact Ao (Exists.intro _ (And.intro (Wk.refl _ _) (As (x:=.tmp 2) (off:=0) (cs:=(Pp a.1.decls a.1.funcs)) (vs:=(Pp a.1.decls a.1.funcs)) EM AA AA AA pk rfl _ AA)))
theorem J9 {p0:(List AN)}{p1:Int}{r:Bool}(h0:HU p0 p1=some r):Ab Tryz.prog 111 [Cu p0,i64 p1] [] (λv st=>v=(.bool r)/\st=[]):=by
 unfold HU at h0;refine ai Tryz.func111 AA AA AA AA (zr tb AA AA (AG λg d=>bs h0 λe b h0=>?_));have f:∀(c:Bool),e=c->∀s,Wk 0 s ⟨13,Aa [(4,.bool c)],[]⟩->g s:=by
  intro c i s h;subst e;refine d _ (AK h ?_);obtain rfl:=Sh.AB h0;exact rt [(4,.bool c)]
 refine AH AA (zm tb 3 AA ?_);rcases Sh.Aj b with ⟨a,b⟩|⟨a,b⟩
 ·exact zg tb a AA (zg tb a AA (Ba (v:=(HB p0)) (CS AA AA a) rfl (Cd SK AA) (zg tb a AA (zt a AA (zq tb AA (AF (f (decide (p1<=(Sh.len p0))) (Sh.AB b).symm _ (AJ AA))))))))
 ·refine zs a AA ?_;iterate 3 refine zs a rfl ?_
  exact zf a AA (zq tb AA (AF (f false (Sh.AB b).symm _ (AJ AA))))
theorem Kn {N:Nat}{p0:(List AN)}{p1:(List Int)}{r:Bool}(h0:HE N p0 p1=some r):Ab Tryz.prog 79 [Cu p0,ls eI p1] [] (λv st=>v=(.bool r)/\st=[]):=by
 unfold HE at h0;refine ai Tryz.func79 AA AA AA AA (zr tb AA AA (AG λp i=>sr AA λC j=>zq tb AA (zl tb AA AA (zq tb AA (dn j AA ?_)))));obtain⟨k,a,h0⟩:=Sh.Bg h0;have q:∀(_:Unit),k=Sum.inr ()->∀s,Wk 0 s ⟨18,Aa [],[]⟩->p s:=by
  intro _ D s t;subst k;refine i _ (AK t (zr tb AA AA ?_));obtain rfl:=Sh.AB h0;exact rt [(4,.bool true)]
 refine AT (Ax (σ:=Int) (λn v=>FA p0 p1 n v=some k) (λl=>⟨18,Aa [(0,ls Ak p0),(7,ls eI p1),(8,i64 (Sh.len p1)),(9,i64 l)],[]⟩) N 0 a (AJ AA) (λ_ o=>by rw[FA]at o;cases o) ?_);rintro n l a;rw[FA]at a;refine zr tb AA AA (AG λE m=>?_);refine ci a AA ?_ ?_<;>clear a<;>intro F a
 ·refine AL (m _ (AG λu b=>AT (sr AA λx c=>bs a λy d a=>zx BM d AA AA AA (zm tb 2 AA (dn c AA (sr AA λz e=>zm tb 2 AA (bs a λf g a=>zc (hb 111) (J9 g) rfl AA AA (zq tb AA (dn e AA ?_)))))))));refine ci a AA ?_ ?_<;>clear a<;>intro h a
  ·have A:f=false:=by simpa using h
   refine zr tb AA AA ?_;obtain rfl:=Sh.AB a;obtain rfl:=Sh.AB h0;exact rt [(4,.bool false)]
  ·have B:f=true:=by simpa using h
   exact AL (b _ (AH AA (zm tb 2 AA (AF (xi (Sh.w (l+1)) a (AJ AA))))))
 ·exact Az (q () (Sh.AB a).symm _ (AJ AA))
theorem Qk {N:Nat}{p0:(List AN)}{r:Bool}(h0:H0 N p0=some r):Ab Tryz.prog 110 [Cu p0] [] (λv st=>v=(.bool r)/\st=[]):=by
 unfold H0 at h0;refine ai Tryz.func110 AA AA AA AA (zr tb AA AA (AG λK2 c3=>sr AA λK3 c4=>zq tb AA (zl tb AA AA (zq tb AA (dn c4 AA ?_)))));refine ci h0 AA ?_ ?_<;>clear h0<;>intro b4 h0
 ·refine zr tb AA AA ?_;obtain rfl:=Sh.AB h0;exact rt [(2,.bool false)]
 ·refine AL (c3 _ (AG λK6 c5=>sr AA λK7 c6=>zq tb AA (zl tb AA AA (zq tb AA (dn c6 AA ?_)))));obtain⟨o9,d,h0⟩:=Sh.Bg h0;have M9:∀(_:Unit),o9=Sum.inr ()->∀s,Wk 0 s ⟨106,Aa [],[]⟩->K6 s:=by
   intro _ I s x;subst o9;refine c5 _ (AK x (zr tb AA AA ?_));obtain rfl:=Sh.AB h0;exact rt [(2,.bool true)]
  refine AT (Ax (σ:=Int) (λn v=>EU N p0 n v=some o9) (λp=>⟨106,Aa [(0,ls Ak p0),(12,ls Ak p0),(13,i64 (Sh.len p0)),(14,i64 p)],[]⟩) N 0 d (AJ AA) (λ_ C=>by rw[EU]at C;cases C) ?_);rintro n p d;rw[EU]at d;refine zr tb AA AA (AG λd6 J=>?_);refine ci d AA ?_ ?_<;>clear d<;>intro d7 d
  ·refine AL (J _ (AG λc7 K=>AT (sr AA λd8 L=>zq tb AA (bs d λb M d=>zx DI M AA AA AA (zq tb AA (Av (m:=0) AI Gw AA AA (zq tb AA (Am AI Jn AA AA AA AA AA AA pj rfl (dn L AA (AG λd9 O=>AG λc8 P=>bs d λQ a d=>?_))))))))));have u:∀(D:Bool),Q=D->∀s,Wk 0 s ⟨106,Aa ((0,Cu p0)::(3,i64 p)::(4,BI)::(12,Cu p0)::Qs p0 p [(52,.bool D)]),[V0 b]⟩->c8 s:=by
    intro D I s x;subst Q;refine P _ (AK x ?_);refine ci d AA ?_ ?_<;>clear d<;>intro g0 d
    ·refine zr tb AA AA ?_;obtain rfl:=Sh.AB d;obtain rfl:=Sh.AB h0;exact rd [(2,.bool false)]
    ·refine AL (O _ (AG λc9 R=>sr AA λg1 S=>zm tb 2 AA (zl tb AA AA (zq tb AA (dn S AA ?_)))));obtain⟨E,a,d⟩:=Sh.Bg d;have d1:∀(_:Unit),E=Sum.inr ()->∀s,Wk 0 s ⟨106,Aa ((0,Cu p0)::(3,i64 p)::(4,BI)::(12,Cu p0)::Qs p0 p []),[V0 b]⟩->c9 s:=by
      intro _ I s x;subst E;refine R _ (AK x (sr AA λg2 T=>zm tb 2 AA (bs d λy U d=>SU (i:=0) (j:=p) AI DI AA AA AA (λ_=>AA) U (zl tb AA AA (zq tb AA (dn T AA ?_))))));obtain⟨F,a,d⟩:=Sh.Bg d;have d2:∀(_:Unit),F=Sum.inr ()->∀s,Wk 0 s ⟨106,Aa ((0,Cu p0)::(12,Cu p0)::Qs p0 p []),[]⟩->c7 s:=by
       intro _ I s x;subst F;exact K _ (AK x (AH AA (zm tb 2 AA (AF (xi (Sh.w (p+1)) d (AJ AA))))))
      refine AT (Ax (σ:=Int) (λn v=>Dx b y n v=some F) (λz=>⟨106,Aa [(0,ls Ak p0),(4,.ptr 0 0 0 0),(12,ls Ak p0),(13,i64 (Sh.len p0)),(14,i64 p),(74,ls Ak y),(75,i64 (Sh.len y)),(76,i64 z)],[⟨0,80,3,[Ak b]⟩]⟩) N 0 a (AJ AA) (λ_ C=>by rw[Dx]at C;cases C) ?_);rintro n z a;rw[Dx]at a;refine zr tb AA AA (AG λg3 V=>?_);refine ci a AA ?_ ?_<;>clear a<;>intro g4 a
      ·refine AL (V _ (AG λg5 W=>AT (sr AA λg6 X=>bs a λY Z a=>zx DI Z AA AA AA (zq tb AA (Av (m:=1) AI Gw AA AA (Am AI Jn AA AA AA AA AA AA pj rfl (dn X AA (AG λd3 b0=>bs a λb1 f a=>?_))))))));have A:∀(G:Bool),b1=G->∀s,Wk 0 s ⟨106,Aa ((0,Cu p0)::(4,BI)::(12,Cu p0)::Qs p0 p [(74,Cu y),(75,HB y),(76,i64 z),(103,.bool G)]),[V0 b]⟩->d3 s:=by
        intro G I s x;subst b1;refine b0 _ (AK x ?_);refine ci a AA ?_ ?_<;>clear a<;>intro g7 a
        ·refine zr tb AA AA ?_;obtain rfl:=Sh.AB a;obtain rfl:=Sh.AB d;obtain rfl:=Sh.AB h0;exact rd [(2,.bool false)]
        ·exact AL (W _ (AH AA (zm tb 2 AA (AF (xi (Sh.w (z+1)) a (AJ AA))))))
       refine AH AA (zm tb 2 AA (zl tb AA AA (zm tb 2 AA ?_)));rcases Sh.Aj f with ⟨k,f⟩|⟨k,f⟩
       ·refine zg tb k AA (zg tb k AA (Ba (v:=(i64 (Sh.len Y.cons))) (CS AA AA k) rfl (Cd QB AA) (zg tb k AA (zt k AA (zq tb AA ?_)))));rcases Sh.Aj f with ⟨q,f⟩|⟨q,f⟩
        ·refine zg tb q AA ?_;iterate 4 refine zg tb q rfl ?_
         refine zt q AA (zq tb AA ?_);rcases Sh.Aj f with ⟨t,f⟩|⟨t,f⟩
         ·refine zg tb t AA ?_;iterate 4 refine zg tb t rfl ?_
          exact zt t AA (AF (A (decide (Y.to=b.to)) (Sh.AB f).symm _ (AS [0] AA (by decide) rfl AA (.raw AA AA .nil) (.same AA))))
         ·refine zs t AA ?_;iterate 4 refine zs t rfl ?_
          exact zf t AA (AF (A false (Sh.AB f).symm _ (AS [0] AA (by decide) rfl AA (.raw AA AA .nil) (.same AA))))
        ·refine zs q AA ?_;iterate 4 refine zs q rfl ?_
         refine zf q AA (zq tb AA ?_);iterate 5 refine zs rfl rfl ?_
         exact zf AA AA (AF (A false (Sh.AB f).symm _ (AS [0] AA (by decide) rfl AA (.raw AA AA .nil) (.same AA))))
       ·refine zs k AA ?_;iterate 3 refine zs k rfl ?_
        refine zf k AA (zq tb AA ?_);iterate 5 refine zs rfl rfl ?_
        refine zf AA AA (zq tb AA ?_);iterate 5 refine zs rfl rfl ?_
        exact zf AA AA (AF (A false (Sh.AB f).symm _ (AS [0] AA (by decide) rfl AA (.raw AA AA .nil) (.same AA))))
      ·exact Az (d2 () (Sh.AB a).symm _ (Bt _ AA))
     refine AT (Ax (σ:=Int) (λn v=>Dw N b p0 n v=some E) (λB=>⟨106,Aa [(0,ls Ak p0),(3,i64 p),(4,.ptr 0 0 0 0),(12,ls Ak p0),(13,i64 (Sh.len p0)),(14,i64 p),(54,ls CD b.cons),(55,i64 (Sh.len b.cons)),(56,i64 B)],[⟨0,80,3,[Ak b]⟩]⟩) N 0 a (AJ AA) (λ_ C=>by rw[Dw]at C;cases C) ?_);rintro n B a;rw[Dw]at a;refine zr tb AA AA (AG λg8 b2=>?_);refine ci a AA ?_ ?_<;>clear a<;>intro g9 a
     ·refine AL (b2 _ (AG λh4 b3=>AT (sr AA λh5 b5=>bs a λh6 b6 a=>zx I7 b6 AA AA AA (zq tb AA (Av (m:=1) AI Q1 AA AA (Am AI PH AA AA AA AA AA AA po rfl (dn b5 AA (AG λd4 b7=>bs a λb8 f a=>?_))))))));have b9:∀(H:Bool),b8=H->∀s,Wk 0 s ⟨106,Aa ((0,Cu p0)::(3,i64 p)::(4,BI)::(12,Cu p0)::Qs p0 p [(54,ls CD b.cons),(55,i64 (Sh.len b.cons)),(56,i64 B),(70,.bool H)]),[V0 b]⟩->d4 s:=by
       intro H I s x;subst b8;refine b7 _ (AK x ?_);refine ci a AA ?_ ?_<;>clear a<;>intro h7 a
       ·refine zr tb AA AA ?_;obtain rfl:=Sh.AB a;obtain rfl:=Sh.AB d;obtain rfl:=Sh.AB h0;exact rd [(2,.bool false)]
       ·exact AL (b3 _ (AH AA (zm tb 2 AA (AF (xi (Sh.w (B+1)) a (AJ AA))))))
      refine AH AA (zm tb 2 AA (zl tb AA AA (zm tb 2 AA ?_)));rcases Sh.Aj f with ⟨g,f⟩|⟨g,f⟩
      ·refine zs g AA ?_;iterate 4 refine zs g rfl ?_
       exact zt g AA (AF (b9 true (Sh.AB f).symm _ (AS [0] AA (by decide) rfl AA (.raw AA AA .nil) (.same AA))))
      ·exact zg tb g AA (zg tb g AA (zg tb g AA (bs f λd5 c0 f=>zd g (hb 79) (Kn c0) rfl AA AA AA (zg tb g AA (zf g AA (AF (b9 (!d5) (Sh.AB f).symm _ (AS [0] AA (by decide) rfl AA (.raw AA AA .nil) (.same AA)))))))))
     ·exact Az (d1 () (Sh.AB a).symm _ (AJ AA))
   refine AH AA (zm tb 3 AA (bs a λh8 c1 a=>zc (hb 111) (J9 c1) rfl AA AA (zm tb 2 AA ?_)));rcases Sh.Aj a with ⟨h,a⟩|⟨h,a⟩
   ·refine zs h AA ?_;iterate 4 refine zs h rfl ?_
    refine zt h AA (zq tb AA ?_);iterate 4 refine zs rfl rfl ?_
    refine zt AA AA (zq tb AA ?_);iterate 5 refine zs rfl rfl ?_
    iterate 8 refine zn rfl ?_
    exact zs AA AA (zt AA AA (AF (u true (Sh.AB a).symm _ (AJ AA))))
   ·refine zg tb h AA (zg tb h AA (zg tb h AA (bs a λh9 c2 a=>zd h (hb 111) (J9 c2) rfl AA AA AA (zg tb h AA (zf h AA (zq tb AA ?_))))));rcases Sh.Aj a with ⟨l,a⟩|⟨l,a⟩
    ·refine zs l AA ?_;iterate 3 refine zs l rfl ?_
     refine zt l AA (zq tb AA ?_);iterate 5 refine zs rfl rfl ?_
     iterate 8 refine zn rfl ?_
     exact zs AA AA (zt AA AA (AF (u true (Sh.AB a).symm _ (AJ AA))))
    ·refine zg tb l AA (zg tb l AA (Ba (v:=(i64 (Sh.len b.cons))) (CS AA AA l) rfl (Cd QB AA) (zg tb l AA (zf l AA (zq tb AA ?_)))));rcases Sh.Aj a with ⟨c,a⟩|⟨c,a⟩
     ·refine zs c AA ?_;iterate 4 refine zs c rfl ?_
      iterate 8 refine zn rfl ?_
      exact zs c AA (zt c AA (AF (u true (Sh.AB a).symm _ (AJ AA))))
     ·refine zg tb c AA (zg tb c AA (Ba (v:=(i64 (Sh.len b.cons))) (CS AA AA c) rfl (Cd QB AA) (zg tb c AA (zg tb c AA ?_))));rcases Sh.Aj a with ⟨e,a⟩|⟨e,a⟩
      ·refine zg tb e AA ?_;iterate 3 refine zg tb e rfl ?_
       rcases Sh.Aj a with ⟨o,a⟩|⟨o,a⟩
       ·exact zs o AA (zs o AA (zs o AA (Ba (v:=(.bool true)) (CS AA AA e) rfl (KY AA o AA) (Ba (v:=(.bool true)) (CS AA AA c) rfl (KY AA e AA) (zf c AA (AF (u true (Sh.AB a).symm _ (AJ AA))))))))
       ·exact zg tb o AA (zg tb o AA (zg tb o AA (Ba (v:=(.bool (!decide (b.to=0)))) (CS AA AA e) rfl (LO AA o AA) (Ba (v:=(.bool (!decide (b.to=0)))) (CS AA AA c) rfl (KY AA e AA) (zf c AA (AF (u (!decide (b.to=0)) (Sh.AB a).symm _ (AJ AA))))))))
      ·refine zs e AA ?_;iterate 3 refine zs e rfl ?_
       iterate 3 refine zn rfl ?_
       exact zs e AA (Ba (v:=(.bool false)) (CS AA AA c) rfl (LO AA e AA) (zf c AA (AF (u false (Sh.AB a).symm _ (AJ AA)))))
  ·exact Az (M9 () (Sh.AB d).symm _ (AJ AA))
theorem Rt {N:Nat}{p0:(List AN)}{p1:(List Bv)}{r:Bool}(h0:Ij N p0 p1=some r):Ab Tryz.prog 78 [Cu p0,ls CF p1] [] (λv st=>v=(.bool r)/\st=[]):=by
 unfold Ij at h0;refine ai Tryz.func78 AA AA AA AA (zr tb AA AA (AG λK2 b3=>AG λK3 b4=>bs h0 λo5 a h0=>?_));have G:∀(t4:Bool),o5=t4->∀s,Wk 0 s ⟨102,Aa [(0,Cu p0),(1,ls CF p1),(36,.bool t4)],[]⟩->K3 s:=by
  intro t4 hq s u;subst o5;refine b4 _ (AK u ?_);refine ci h0 AA ?_ ?_<;>clear h0<;>intro b6 h0
  ·refine zr tb AA AA ?_;obtain rfl:=Sh.AB h0;exact rt [(4,.bool false)]
  ·refine AL (b3 _ (AG λK8 b5=>sr AA λK9 b7=>zq tb AA (zl tb AA AA (zq tb AA (dn b7 AA ?_)))));obtain⟨A,a,h0⟩:=Sh.Bg h0;have b8:∀(_:Unit),A=Sum.inr ()->∀s,Wk 0 s ⟨102,Aa [],[]⟩->K8 s:=by
    intro _ hq s u;subst A;refine b5 _ (AK u (zr tb AA AA ?_));obtain rfl:=Sh.AB h0;exact rt [(4,.bool true)]
   refine AT (Ax (σ:=Int) (λn v=>ED N p0 p1 n v=some A) (λq=>⟨102,Aa [(0,ls Ak p0),(37,ls CF p1),(38,i64 (Sh.len p1)),(39,i64 q)],[]⟩) N 0 a (AJ AA) (λ_ H=>by rw[ED]at H;cases H) ?_);rintro n q a;rw[ED]at a;refine zr tb AA AA (AG λc5 I=>?_);refine ci a AA ?_ ?_<;>clear a<;>intro c6 a
   ·refine AL (I _ (AG λb9 J=>AT (sr AA λc7 K=>bs a λc L a=>zx RB L AA AA AA (zq tb AA (Av (m:=0) AI fv AA AA (Am AI kV AA AA AA AA AA AA pj rfl (dn K AA (AG λc8 M=>AG λc0 O=>bs a λP b a=>?_))))))));have B:∀(C:Bool),P=C->∀s,Wk 0 s ⟨102,Aa [(0,Cu p0),(6,BI),(37,ls CF p1),(38,HB p1),(39,i64 q),(60,.bool C)],[⟨0,95,3,[[ls eI c.params,ls eI c.F7,i64 c.result]]⟩]⟩->c0 s:=by
     intro C hq s u;subst P;refine O _ (AK u ?_);refine ci a AA ?_ ?_<;>clear a<;>intro c9 a
     ·refine zr tb AA AA ?_;obtain rfl:=Sh.AB a;obtain rfl:=Sh.AB h0;exact rd [(4,.bool false)]
     ·refine AL (M _ (sr AA λd1 Q=>zm tb 2 AA (zl tb AA AA (zq tb AA (dn Q AA ?_)))));obtain⟨D,b,a⟩:=Sh.Bg a;have c1:∀(_:Unit),D=Sum.inr ()->∀s,Wk 0 s ⟨102,Aa [(0,Cu p0),(37,ls CF p1),(38,HB p1),(39,i64 q)],[]⟩->b9 s:=by
       intro _ hq s u;subst D;exact J _ (AK u (AH AA (zm tb 2 AA (AF (xi (Sh.w (q+1)) a (AJ AA))))))
      refine AT (Ax (σ:=Int) (λn v=>EF c n v=some D) (λx=>⟨102,Aa [(0,ls Ak p0),(6,.ptr 0 0 0 0),(37,ls CF p1),(38,i64 (Sh.len p1)),(39,i64 q),(62,ls eI c.F7),(63,i64 (Sh.len c.F7)),(64,i64 x)],[⟨0,95,3,[[ls eI c.params,ls eI c.F7,i64 c.result]]⟩]⟩) N 0 b (AJ AA) (λ_ H=>by rw[EF]at H;cases H) ?_);rintro n x b;rw[EF]at b;refine zr tb AA AA (AG λd2 R=>?_);refine ci b AA ?_ ?_<;>clear b<;>intro d3 b
      ·refine AL (R _ (AG λd4 S=>AT (sr AA λd5 T=>zq tb AA (bs b λU V b=>zx BM V AA AA AA (zm tb 3 AA (dn T AA (AG λc2 W=>bs b λX g b=>?_)))))));have t:∀(E:Bool),X=E->∀s,Wk 0 s ⟨102,Aa [(0,Cu p0),(6,BI),(37,ls CF p1),(38,HB p1),(39,i64 q),(62,ls eI c.F7),(63,i64 (Sh.len c.F7)),(64,i64 x),(99,.bool E)],[⟨0,95,3,[[ls eI c.params,ls eI c.F7,i64 c.result]]⟩]⟩->c2 s:=by
        intro E hq s u;subst X;refine W _ (AK u ?_);refine ci b AA ?_ ?_<;>clear b<;>intro d6 b
        ·refine zr tb AA AA ?_;obtain rfl:=Sh.AB b;obtain rfl:=Sh.AB a;obtain rfl:=Sh.AB h0;exact rd [(4,.bool false)]
        ·exact AL (S _ (AH AA (zm tb 2 AA (AF (xi (Sh.w (x+1)) b (AJ AA))))))
       refine AH AA (zm tb 3 AA ?_);rcases Sh.Aj g with ⟨h,g⟩|⟨h,g⟩
       ·refine zs h AA ?_;iterate 4 refine zs h rfl ?_
        refine zt h AA (zq tb AA ?_);iterate 6 refine zs rfl rfl ?_
        refine zt AA AA (zq tb AA ?_);iterate 3 refine zs rfl rfl ?_
        iterate 8 refine zn rfl ?_
        exact zs AA AA (zt AA AA (AF (t true (Sh.AB g).symm _ (AJ AA))))
       ·refine zg tb h AA (zg tb h AA (zg tb h AA (Ba (v:=(i64 (Sh.len c.params))) (CS AA AA h) rfl (Cd Fz AA) (zg tb h AA (zf h AA (zq tb AA ?_))))));rcases Sh.Aj g with ⟨e,g⟩|⟨e,g⟩
        ·refine zs e AA ?_;iterate 5 refine zs e rfl ?_
         refine zt e AA (zq tb AA ?_);iterate 3 refine zs rfl rfl ?_
         iterate 8 refine zn rfl ?_
         exact zs AA AA (zt AA AA (AF (t true (Sh.AB g).symm _ (AJ AA))))
        ·refine zg tb e AA (zg tb e AA (zg tb e AA (bs g λc3 Y g=>Ba (v:=(.Bn (eI c3) 0)) (CS AA AA e) rfl (Ch BM AA AA Y AA) (zg tb e AA (zg tb e AA (zf e AA (zq tb AA ?_)))))));rcases Sh.Aj g with ⟨d,g⟩|⟨d,g⟩
         ·refine zs d AA (zs d AA (zs d AA ?_));iterate 8 refine zn rfl ?_
          exact zs d AA (zt d AA (AF (t true (Sh.AB g).symm _ (AJ AA))))
         ·refine zg tb d AA (zg tb d AA (zg tb d AA ?_));rcases Sh.Aj g with ⟨i,g⟩|⟨i,g⟩
          ·refine zg tb i AA ?_;iterate 4 refine zg tb i rfl ?_
           exact bs g λF Z g=>Ba (v:=(.Bn (eI F) 0)) (CS AA AA i) rfl (Ch BM AA AA Z AA) (zg tb i AA (zg tb i AA (Ba (v:=(.bool (decide (U<=F)))) (CS AA AA d) rfl (KY AA i AA) (zf d AA (AF (t (decide (U<=F)) (Sh.AB g).symm _ (AJ AA)))))))
          ·refine zs i AA ?_;iterate 7 refine zs i rfl ?_
           exact Ba (v:=(.bool false)) (CS AA AA d) rfl (LO AA i AA) (zf d AA (AF (t false (Sh.AB g).symm _ (AJ AA))))
      ·exact Az (c1 () (Sh.AB b).symm _ (Bt _ AA))
    refine AH AA (zm tb 2 AA (zl tb AA AA (zm tb 2 AA ?_)));rcases Sh.Aj b with ⟨j,b⟩|⟨j,b⟩
    ·refine zs j AA ?_;iterate 4 refine zs j rfl ?_
     refine zt j AA (zq tb AA ?_);iterate 5 refine zs rfl rfl ?_
     exact zt AA AA (AF (B true (Sh.AB b).symm _ (AJ AA)))
    ·refine zg tb j AA (zg tb j AA (zg tb j AA (bs b λd7 b0 b=>zd j (hb 79) (Kn b0) rfl AA AA AA (zg tb j AA (zf j AA (zq tb AA ?_))))));rcases Sh.Aj b with ⟨k,b⟩|⟨k,b⟩
     ·refine zs k AA ?_;iterate 4 refine zs k rfl ?_
      exact zt k AA (AF (B true (Sh.AB b).symm _ (AJ AA)))
     ·exact zg tb k AA (zg tb k AA (zg tb k AA (bs b λc4 b1 b=>zd k (hb 111) (J9 b1) rfl AA AA AA (zg tb k AA (zf k AA (AF (B (!c4) (Sh.AB b).symm _ (AJ AA))))))))
   ·exact Az (b8 () (Sh.AB a).symm _ (AJ AA))
 refine AH AA (zq tb AA (bs a λd8 b2 a=>zc (hb 110) (Qk b2) rfl AA AA (zm tb 2 AA ?_)));rcases Sh.Aj a with ⟨l,a⟩|⟨l,a⟩
 ·refine zs l AA (zs l AA (zs l AA (zt l AA (zq tb AA ?_))));iterate 3 refine zs rfl rfl ?_
  refine zt AA AA (zq tb AA ?_);iterate 6 refine zs rfl rfl ?_
  refine zt AA AA (zq tb AA ?_);iterate 5 refine zs rfl rfl ?_
  exact zt AA AA (AF (G true (Sh.AB a).symm _ (AJ AA)))
 ·refine zg tb l AA (Ba (v:=(HB p1)) (CS AA AA l) rfl (Cd fr AA) (zg tb l AA (zf l AA (zq tb AA ?_))));rcases Sh.Aj a with ⟨o,a⟩|⟨o,a⟩
  ·refine zs o AA (zs o AA (zs o AA (zt o AA (zq tb AA ?_))));iterate 6 refine zs rfl rfl ?_
   refine zt AA AA (zq tb AA ?_);iterate 5 refine zs rfl rfl ?_
   exact zt AA AA (AF (G true (Sh.AB a).symm _ (AJ AA)))
  ·refine zg tb o AA (Ba (v:=(HB p1)) (CS AA AA o) rfl (Cd fr AA) (zg tb o AA (zf o AA (zq tb AA ?_))));rcases Sh.Aj a with ⟨f,a⟩|⟨f,a⟩
   ·refine zs f AA ?_;iterate 5 refine zs f rfl ?_
    refine zt f AA (zq tb AA ?_);iterate 5 refine zs rfl rfl ?_
    exact zt AA AA (AF (G true (Sh.AB a).symm _ (AJ AA)))
   ·refine zg tb f AA (bs a λy z a=>Ba (v:=(.Bn (CF y) 0)) (CS AA AA f) rfl (Ch RB AA AA z AA) (zg tb f AA (zg tb f AA (Ba (v:=(i64 (Sh.len y.params))) (CS AA AA f) rfl (Cd Fz AA) (zg tb f AA (zf f AA (zq tb AA ?_)))))));rcases Sh.Aj a with ⟨p,a⟩|⟨p,a⟩
    ·refine zs p AA ?_;iterate 4 refine zs p rfl ?_
     exact zt p AA (AF (G true (Sh.AB a).symm _ (AJ AA)))
    ·refine zg tb p AA (Ba (v:=(.Bn (CF y) 0)) (CS AA AA p) rfl (Ch RB AA AA z AA) ?_);iterate 3 refine zg tb p rfl ?_
     exact zf p AA (AF (G (!decide (y.result=0)) (Sh.AB a).symm _ (AJ AA)))
theorem Mk {N:Nat}{p0:AP}{r:Bool}(h0:HL N p0=some r):Ab Tryz.prog 47 [Hs p0] [] (λv st=>v=(.bool r)/\st=[]):=by
 unfold HL at h0;refine ai Tryz.func47 AA AA AA AA (sr AA λO u=>Bd (m:=0) AI AA AA AA AA AA (zq tb AA (dn u AA (sr AA λP x=>dO (c:=4) (m:=1) (st':=[eD p0.decls p0.funcs,ro 0 95 3 CF ([]:List Bv)]) RB AA AA AA AA AA (zq tb AA (dn x AA (AG λQ y=>sr AA λR z=>zm tb 2 AA (zl tb AA AA (zq tb AA (dn z AA ?_))))))))));refine ci h0 AA ?_ ?_<;>clear h0<;>intro S h0
 ·refine zr tb AA AA ?_;obtain rfl:=Sh.AB h0;exact rd [(2,.bool false)]
 ·refine AL (y _ (AG λF A=>sr AA λT B=>zm tb 2 AA (zl tb AA AA (zq tb AA (dn B AA (bs h0 λf b h0=>?_))))));have C:∀(d:(List Bv)),f=d->∀s,Wk 0 s ⟨31,Aa [(1,BI),(3,ow 1 0 d)],[eD p0.decls p0.funcs,ro 0 95 3 CF d]⟩->F s:=by
   intro d U s G;subst f;refine A _ (AK G (sr AA λH h=>zm tb 3 AA (AR (Wk.BL (L:=[(28,ls Ak p0.decls),(29,ls CF d)]) (st':=[eD p0.decls p0.funcs,⟨1,95,3,[]⟩]) (id:=1) rfl qD (AD λ_=>AA) ⟨.rfl,.BL AA,lU⟩ AA) (bs h0 λD i h0=>zc (hb 78) (Rt i) rfl AA AA (zq tb AA (dn h AA ?_))))));obtain rfl:=Sh.AB h0;exact rd [(2,.bool D)]
  refine AT (Ax (σ:=Int×(List Bv)) (λn v=>Dn p0 n v.1 v.2=some f) (λ(j,e)=>⟨31,Aa [(1,.ptr 0 0 0 0),(3,ow 1 0 e),(12,ls BO p0.funcs),(13,i64 (Sh.len p0.funcs)),(14,i64 j)],[eD p0.decls p0.funcs,ro 0 95 3 CF e]⟩) N (0,[]) b (AJ AA) (λ_ E=>by rw[Dn]at E;cases E) ?_);rintro n ⟨j,e⟩ b;rw[Dn]at b;refine zr tb AA AA (AG λI k=>?_);refine ci b AA ?_ ?_<;>clear b<;>intro J b
  ·refine AL (k _ (AG λK o=>AT (sr AA λM p=>bs b λa q b=>zx Ct q AA AA AA (zq tb AA (Av (m:=2) AI L4 AA AA (Am AI LV AA AA AA AA AA AA pq rfl (dn p AA (AH AA (zm tb 5 AA (zz (.agg [ls eI a.params,.zc,i64 a.result]) (DC jA iz fv AA AA) rfl (AR (Af (L:=[(1,BI),(12,ah p0),(13,i64 (Sh.len p0.funcs)),(14,i64 j),(18,ow 1 0 e),(23,.agg [ls eI a.params,RW,i64 a.result])]) ⟨.rfl,.rfl,.rfl,.rfl,.rfl,.agg ⟨.rfl,.zc,.rfl,lU⟩,lU⟩) (BF (m:=3) (l:=([Bv.mk a.params [] a.result])) (enc:=CF) AI RB (by decide) rfl AA AA AA AA AA (bs b λg t b=>Cz (l2:=([Bv.mk a.params [] a.result])) AI RB AA AA AA AA (HI AA AA) (λ_=>AA) t AA (zq tb AA (dn o AA (AH AA (zm tb 2 AA ?_)))))))))))))))));exact AF (xi (Sh.w (j+1),g) b (by refine Wk.trans (EN (L:=[(1,BI),(3,ow 1 0 g),(12,ah p0),(13,i64 (Sh.len p0.funcs)),(14,KW j)]) (st':=[eD p0.decls p0.funcs,ro 0 95 3 CF g,⟨0,37,5,[Pf a]⟩,ro 0 95 3 CF ([Bv.mk a.params [] a.result])]) (.raw AA AA (.pure (AD λ_=>AA) (.raw AA AA (.pure (AD λ_=>AA) .nil)))) (.same AA)) ?_;exact AS [0,1] AA (by decide) rfl AA (.raw AA AA (.pure (AD λ_=>AA) .nil)) (.same AA)))
  ·exact Az (C e (Sh.AB b).symm _ (AJ AA))
theorem PN {N:Nat}{qo:Int->AE->Option (Bool×Int)}(sH :∀{qV:Int} {p0:AE} {r:Bool×Int},qo qV p0=some r->Ab Tryz.prog 34 [Bc p0,BI] [Qh qV] (λv st=>v=(.bool r.1)/\st=[Qh r.2])){qV:Int}{p0:AE}{r:Bool×Int}(h0:IW N qo qV p0=some r):Ab Tryz.prog 34 [Bc p0,BI] [Qh qV] (λv st=>v=(.bool r.1)/\st=[Qh r.2]):=by
 unfold IW at h0;refine ai Tryz.func34 AA AA AA AA (sr AA λK p=>Bd (m:=1) AI AA AA AA AA AA (zq tb AA (dn p AA (AG λM q=>sr AA λO t=>zm tb 5 AA (Am AI HV AA AA AA AA AA AA po rfl (dn t AA (zr tb AA AA ?_)))))));refine ci h0 AA ?_ ?_<;>clear h0<;>intro P h0
 ·refine zr tb AA AA ?_;obtain rfl:=Sh.AB h0;exact Ao (xr (AS (L:=[(4,.bool false)]) (st':=[⟨0,3,1,[[KW qV]]⟩]) [0] AA (by decide) rfl AA (.raw AA AA .nil) ⟨.rfl,lU⟩))
 ·refine AL (q _ (AG λB u=>sr AA λQ x=>zm tb 2 AA (zl tb AA AA (zq tb AA (dn x AA ?_)))));obtain⟨e,a,h0⟩:=Sh.Bg h0;have y:∀(f:Int),e=Sum.inr f->∀s,Wk 1 s ⟨28,Aa [],[Qh f]⟩->B s:=by
   intro f R s C;subst e;refine u _ (AK C (zr tb AA AA ?_));obtain rfl:=Sh.AB h0;exact rt [(4,.bool true)]
  refine AT (Ax (σ:=Int×Int) (λn v=>DT p0 qo n v.1 v.2=some e) (λ(z,c)=>⟨28,Aa [(1,.ptr 0 0 0 0),(17,ls Ar p0.kids),(18,i64 (Sh.len p0.kids)),(19,i64 z)],[Qh c]⟩) N (0,Sh.w (qV+1)) a (AS [0] AA (by decide) rfl AA (.raw AA AA .nil) (.same AA)) (λ_ A=>by rw[DT]at A;cases A) ?_);rintro n ⟨z,c⟩ a;rw[DT]at a;refine zr tb AA AA (AG λD g=>?_);refine ci a AA ?_ ?_<;>clear a<;>intro E a
  ·refine AL (g _ (AG λF h=>AT (sr AA λG i=>bs a λd j a=>zz (Dc d) (By BU AA AA j (Ai _) rfl) rfl (zq tb AA (Av (m:=1) AI DE AA AA (Am AI BE AA AA AA AA AA AA pj rfl (dn i AA (sr AA λH k=>zm tb 2 AA (bs a λb l a=>CN (rows0:=[Qh c]) (rows1:=[Qh b.2]) (st':=[Qh b.2,jN d.op d.num d.kids]) (v':=(.bool b.1)) [0] AI (hb 34) (sH l) rfl (by decide) rfl AA (.raw AA AA .nil) rfl AA (.raw AA AA .nil) .nil AA AA (zq tb AA (dn k AA ?_)))))))))));refine ci a AA ?_ ?_<;>clear a<;>intro o a
   ·have I:b.1=false:=by simpa using o
    refine zr tb AA AA ?_;obtain rfl:=Sh.AB a;obtain rfl:=Sh.AB h0;exact Ao (xr (AS (L:=[(4,.bool false)]) (st':=[Qh b.2]) [0] AA (by decide) rfl AA (.raw AA AA .nil) ⟨.rfl,lU⟩))
   ·have J:b.1=true:=by simpa using o
    exact AL (h _ (AH AA (zm tb 2 AA (AF (xi (Sh.w (z+1),b.2) a (AS [0] AA (by decide) rfl AA (.raw AA AA .nil) (.same AA)))))))
  ·exact Az (y c (Sh.AB a).symm _ (AJ AA))
theorem PR {N:Nat}:∀(n:Nat),∀{qV:Int} {p0:AE} {r:Bool×Int},Ev N n qV p0=some r->Ab Tryz.prog 34 [Bc p0,BI] [Qh qV] (λv st=>v=(.bool r.1)/\st=[Qh r.2]):=by
 intro n
 induction n with
 | zero=>intro qV p0 r a;cases a
 | succ n ih=>
  intro qV p0 r a;rw[Ev]at a;exact PN (λh=>ih h) a
theorem QY {N:Nat}:∀{qV:Int} {p0:AE} {r:Bool×Int},LK N qV p0=some r->Ab Tryz.prog 34 [Bc p0,BI] [Qh qV] (λv st=>v=(.bool r.1)/\st=[Qh r.2]):=by
 intro qV p0 r a;exact PR N a
theorem OE {N:Nat}{p0:AE}{r:Int}(h0:Is N p0=some r):Ab Tryz.prog 12 [Bc p0] [] (λv st=>v=(i64 r)/\st=[]):=by
 unfold Is at h0;refine ai Tryz.func12 AA AA AA AA (sr AA λh b=>Bd (m:=0) AI AA AA AA AA AA (zq tb AA (dn b AA (sr AA λi c=>Av (m:=1) AI lC AA AA (Am AI HV AA AA AA AA AA AA po rfl (dn c AA (AG λj d=>sr AA λk e=>zq tb AA (bs h0 λa f h0=>CN (rows0:=[⟨0,3,1,[[i64 0]]⟩]) (rows1:=[Qh a.2]) (st':=[jN p0.op p0.num p0.kids,Qh a.2]) (v':=(.bool a.1)) [1] AI (hb 34) (QY f) rfl (by decide) rfl AA (.raw AA AA .nil) rfl AA (.raw AA AA .nil) .nil AA AA (zq tb AA (dn e AA ?_))))))))));refine ci h0 AA ?_ ?_<;>clear h0<;>intro g h0
 ·have l:a.1=false:=by simpa using g
  refine zr tb AA AA ?_;obtain rfl:=Sh.AB h0;exact rd [(2,i64 (-1))]
 ·have n:a.1=true:=by simpa using g
  refine AL (d _ (zr tb AA AA ?_));obtain rfl:=Sh.AB h0;exact rd [(2,i64 a.2)]
theorem PC {N:Nat}{p0:AP}{r:BQ}(h0:KZ N p0=some r):Ab Tryz.prog 80 [Hs p0] [] (λv st=>v=(KC r)/\st=[]):=by
 unfold KZ at h0;refine Ci AA (ai Tryz.func80 AA AA AA AA (sr AA λI p=>Bd (m:=0) AI AA AA AA AA AA (Av (m:=1) AI fJ AA AA (dn p AA (sr AA λJ q=>zm tb 2 AA (zz (.agg [ls Ak p0.decls,.zc]) (DC kY kO fJ AA AA) rfl (Av (m:=2) AI fJ AA AA (Am AI fQ AA AA AA AA AA AA pk rfl (dn q AA (AG λB t=>sr AA λK u=>zm tb 2 AA (zl tb AA AA (zq tb AA (dn u AA (bs h0 λy b h0=>?_))))))))))))));have C:∀(c:(List Bv)),y=c->∀s,Wk 0 s ⟨28,Aa [(2,BI),(3,CT)],[bn,⟨0,99,2,[[ls Ak p0.decls,ow 2 0 c]]⟩,ro 0 95 3 CF c]⟩->B s:=by
  intro c M s D;subst y;refine t _ (AK D (sr AA λO z=>zq tb AA (AR (Wk.BL (L:=[(2,BI),(27,.agg [ls Ak p0.decls,ls CF c])]) (st':=[bn,⟨0,99,2,[[ls Ak p0.decls,ow 2 0 c]]⟩,⟨1,95,3,[]⟩]) (id:=2) rfl qC (AD λ_=>AA) ⟨.rfl,.agg ⟨.rfl,.HT AA,lU⟩,lU⟩ AA) (Am AI fQ AA AA AA AA AA AA pk rfl (dn z AA ?_)))));obtain rfl:=Sh.AB h0;exact Ao (Exists.intro _ (And.intro (Wk.refl _ _) (As (x:=.tmp 2) (off:=0) (cs:=[ls Ak p0.decls,ls CF c]) (vs:=[ls Ak p0.decls,ls CF c]) fQ AA AA AA pk rfl _ AA)))
 refine AT (Ax (σ:=Int×(List Bv)) (λn v=>FW p0 n v.1 v.2=some y) (λ(e,f)=>⟨28,Aa [(2,.ptr 0 0 0 0),(3,.ptr 1 0 0 0),(10,ls BO p0.funcs),(11,i64 (Sh.len p0.funcs)),(12,i64 e)],[bn,⟨0,99,2,[[ls Ak p0.decls,ow 2 0 f]]⟩,ro 0 95 3 CF f]⟩) N (0,[]) b (by refine Wk.trans (Jj (id:=2) (st':=[eD p0.decls p0.funcs,bn,⟨0,99,2,[[ls Ak p0.decls,.own 3 0 (List.length ([]:List Bv))]]⟩,ro 0 95 3 CF ([]:List Bv)]) (j:=1) rfl AA 95 (size':=3) (by decide) rfl AA AA AA) ?_;exact Bq (L:=[(2,.ptr 0 0 0 0),(3,.ptr 1 0 0 0),(10,ls BO p0.funcs),(11,i64 (Sh.len p0.funcs)),(12,i64 0)]) (st':=[bn,⟨0,99,2,[[ls Ak p0.decls,.own 2 0 (List.length ([]:List Bv))]]⟩,ro 0 95 3 CF ([]:List Bv)]) (st1:=[bn,⟨0,99,2,[[ls Ak p0.decls,.own 3 0 (List.length ([]:List Bv))]]⟩,ro 0 95 3 CF ([]:List Bv)]) [1,2,3] AA .nil (by decide) rfl AA (.raw AA AA (.raw AA AA (.pure (AD λ_=>AA) .nil))) (.same AA)) (λ_ A=>by rw[FW]at A;cases A) ?_);rintro n ⟨e,f⟩ b;rw[FW]at b;refine zr tb AA AA (AG λE g=>?_);refine ci b AA ?_ ?_<;>clear b<;>intro F b
 ·refine AL (g _ (AG λG h=>AT (sr AA λH i=>bs b λa k b=>zx Ct k AA AA AA (zq tb AA (Av (m:=3) AI L4 AA AA (Am AI LV AA AA AA AA AA AA pq rfl (dn i AA (AH AA (zm tb 6 AA (zz (.agg [ls eI a.params,.zc,i64 a.result]) (DC jA iz fv AA AA) rfl (AR (Af (L:=[(2,BI),(3,CT),(10,ah p0),(11,i64 (Sh.len p0.funcs)),(12,i64 e),(17,ow 2 0 f),(22,.agg [ls eI a.params,RW,i64 a.result])]) ⟨.rfl,.rfl,.rfl,.rfl,.rfl,.rfl,.agg ⟨.rfl,.zc,.rfl,lU⟩,lU⟩) (BF (m:=4) (l:=([Bv.mk a.params [] a.result])) (enc:=CF) AI RB (by decide) rfl AA AA AA AA AA (bs b λd o b=>Cz (l2:=([Bv.mk a.params [] a.result])) AI RB AA AA AA AA (HI AA AA) (λ_=>AA) o AA (zq tb AA (Am AI kt AA AA AA AA AA AA qF rfl (dn h AA (AH AA (zm tb 2 AA ?_))))))))))))))))));exact AF (xi (Sh.w (e+1),d) b (by refine Wk.trans (EN (L:=[(2,BI),(3,CT),(10,ah p0),(11,i64 (Sh.len p0.funcs)),(12,KW e)]) (st':=[bn,⟨0,99,2,[[ls Ak p0.decls,ow 2 0 d]]⟩,ro 0 95 3 CF d,⟨0,37,5,[Pf a]⟩,ro 0 95 3 CF ([Bv.mk a.params [] a.result])]) (.raw AA AA (.raw AA AA (.pure (AD λ_=>AA) (.raw AA AA (.pure (AD λ_=>AA) .nil))))) (.same AA)) ?_;exact AS [0,1,2] AA (by decide) rfl AA (.raw AA AA (.raw AA AA (.pure (AD λ_=>AA) .nil))) (.same AA)))
 ·exact Az (C f (Sh.AB b).symm _ (AJ AA))
theorem Cq {p0:(List Int)}{r:(List Int)}(h0:CQ p0=some r):Ab Tryz.prog 82 [ls eI p0] [] (λv st=>v=(ow 0 0 r)/\st=[Bm r]):=by
 unfold CQ at h0;refine ai Tryz.func82 AA AA AA AA (zr tb AA AA (AG λh c=>sr AA λi a=>zq tb AA ?_));refine U5 AI Fz AA (λg=>?_) ?_
 ·subst g;replace h0:some []=some r:=by rw[<- h0];first|rfl|simp[Sh.app]
  refine dn a AA (GY (b:=true) rfl (λ_=>zr tb AA AA ?_) (λq=>nomatch (show true=false from (AA:true=true).symm.trans q)));obtain rfl:=Sh.AB h0;exact Ao (Exists.intro _ (And.intro (((Hb (t:=2) rfl 3 (size:=1) (by decide)).trans (Af (L:=[(2,Z4)]) (.same AA))).trans (Af (L:=[(2,Z4)]) (.same AA))) (And.intro AA AA)))
 ·refine dn a AA (GY (b:=false) rfl (λq=>nomatch (show false=true from (AA:false=false).symm.trans q)) (λ_=>AL (c _ (sr AA λj d=>BF (m:=0) (l:=([]:List Int)) (enc:=eI) AI BM (by decide) rfl AA AA AA AA AA (zq tb AA (bs h0 λf e h0=>Cz (l2:=p0) AI BM AA AA AA AA L5 (λ_=>AA) e AA (zq tb AA (dn d AA ?_))))))));obtain rfl:=Sh.AB h0;exact Ao (xr (EN (L:=[(2,ow 0 0 f)]) (st':=[Bm f]) (.pure (AD λ_=>AA) .nil) (.same AA)))
theorem N7 {p1:Int}{r:(List Int)}(h0:Gb p1=some r):Ab Tryz.prog 137 [.zc,i64 p1] [] (λv st=>v=(ow 0 0 r)/\st=[Bm r]):=by
 unfold Gb at h0;refine ai Tryz.func137 AA AA AA AA (zr tb AA AA (AG λp f=>zr tb AA AA ?_));refine ci h0 AA ?_ ?_<;>clear h0<;>intro q h0
 ·refine AH AA ?_;cases h0
 ·refine AL (f _ (AG λn g=>bs h0 λk a h0=>?_));have l:∀(c:(List Int)),k=c->∀s,Wk 0 s ⟨27,Aa [(0,ow 0 0 c)],[Bm c]⟩->n s:=by
   intro c w s o;subst k;refine g _ (AK o (zr tb AA AA ?_));obtain rfl:=Sh.AB h0;exact rt [(4,ow 0 0 c)]
  refine sr AA λx h=>zm tb 2 AA (Zc Fz AA (zq tb AA (zz (i64 0) (aH Fz AA) rfl (zm tb 3 AA (dn h AA (zr tb AA AA ?_))))));refine ci a AA ?_ ?_<;>clear a<;>intro i a
  ·exact AH AA (zm tb 2 AA (Zc Fz AA (iD BM AA AA (zq tb AA (bs a λj d a=>gG (u:=0) (enc:=eI) (m:=0) (st':=[Bm j]) BM lO AA AA i AA d AA AA (zq tb AA (zz (i64 0) (aH Fz AA) rfl (bs a λb e a=>cc AI BM AA AA AA AA e AA (zq tb AA (AF (l b (Sh.AB a).symm _ (EN (L:=[(0,ow 0 0 b)]) (st':=[Bm b]) (.pure (AD λ_=>AA) .nil) (.same AA)))))))))))))
  ·exact AL (l [] (Sh.AB a).symm _ ((Hb (t:=0) rfl 3 (size:=1) (by decide)).trans (Af (L:=[(0,Z4)]) (.same AA))))
theorem F9 {N:Nat}{p0:(List (List Int))}{r:(List Int)}(h0:Fs N p0=some r):Ab Tryz.prog 130 [ls (eS eI) p0] [] (λv st=>v=(ow 0 0 r)/\st=[Bm r]):=by
 unfold Fs at h0;refine ai Tryz.func130 AA AA AA AA ?_;iterate 2 refine zr tb rfl rfl ?_
 refine AG λO C=>sr AA λK4 D=>zq tb AA (zl tb AA AA (zq tb AA (dn D AA (bs h0 λE a h0=>?_))));have P:∀(c:Int),E=c->∀s,Wk 0 s ⟨36,Aa [(0,ls (eS eI) p0),(3,i64 c)],[]⟩->O s:=by
  intro c Q s F;subst E;refine C _ (AK F (sr AA λK9 G=>zq tb AA (bs h0 λi j h0=>CH (v':=(ow 0 0 i)) AI (hb 137) (N7 j) rfl AA ⟨(CL λ_=>AA),lU⟩ AA AA (zq tb AA (dn G AA (AG λH k=>sr AA λR l=>zq tb AA (zl tb AA AA (zq tb AA (dn l AA (bs h0 λg a h0=>?_))))))))));have I:∀(d:(List Int)),g=d->∀s,Wk 0 s ⟨36,Aa [(6,ow 0 0 d)],[Bm d]⟩->H s:=by
   intro d Q s F;subst g;refine k _ (AK F (zr tb AA AA ?_));obtain rfl:=Sh.AB h0;exact rt [(2,ow 0 0 d)]
  refine AT (Ax (σ:=Int×(List Int)) (λn v=>Cg p0 n v.1 v.2=some g) (λ(e,f)=>⟨36,Aa [(6,ow 0 0 f),(25,ls (eS eI) p0),(26,i64 (Sh.len p0)),(27,i64 e)],[ro 0 3 1 eI f]⟩) N (0,i) a (AJ AA) (λ_ m=>by rw[Cg]at m;cases m) ?_);rintro n ⟨e,f⟩ a;rw[Cg]at a;refine zr tb AA AA (AG λS o=>?_);refine ci a AA ?_ ?_<;>clear a<;>intro T a
  ·exact AL (o _ (AG λU p=>AT (sr AA λV q=>bs a λJ t a=>zx Nq t AA AA AA (zm tb 2 AA (dn q AA (AH AA (zm tb 2 AA (bs a λh u a=>Cz (l2:=J) AI BM AA AA AA AA L5 (λ_=>AA) u AA (zq tb AA (dn p AA (AH AA (zm tb 2 AA (AF (xi (Sh.w (e+1),h) a (EN (L:=[(6,ow 0 0 h),(25,ls (eS eI) p0),(26,HB p0),(27,KW e)]) (st':=[Bm h]) (.pure (AD λ_=>AA) .nil) (.same AA))))))))))))))))
  ·exact Az (I f (Sh.AB a).symm _ (AJ AA))
 refine AT (Ax (σ:=Int×Int) (λn v=>Cf p0 n v.1 v.2=some E) (λ(b,K)=>⟨36,Aa [(0,ls (eS eI) p0),(3,i64 b),(9,ls (eS eI) p0),(10,i64 (Sh.len p0)),(11,i64 K)],[]⟩) N (0,0) a (AJ AA) (λ_ m=>by rw[Cf]at m;cases m) ?_);rintro n ⟨b,K⟩ a;rw[Cf]at a;refine zr tb AA AA (AG λW x=>?_);refine ci a AA ?_ ?_<;>clear a<;>intro X a
 ·refine AL (x _ (AG λY y=>AT (sr AA λZ z=>bs a λM A a=>zx Nq A AA AA AA (zm tb 2 AA (dn z AA (sr AA λb0 B=>zm tb 2 AA (zl tb AA AA (zm tb 2 AA (dn B AA (zr tb AA AA ?_))))))))));refine ci a AA ?_ ?_<;>clear a<;>intro b1 a
  ·refine AH AA ?_;cases a
  ·exact AL (y _ (AH AA (zm tb 2 AA (AF (xi (Sh.w (b+(Sh.len M)),Sh.w (K+1)) a (AJ AA))))))
 ·exact Az (P b (Sh.AB a).symm _ (AJ AA))
theorem I1 {N:Nat}{qa:(List Int)->BQ->AE->Option (Int)}(qe :∀{s0:(List Int)} {p0:BQ} {p2:AE} {r:Int},qa s0 p0 p2=some r->Ab Tryz.prog 81 [KC p0,ow 0 0 s0,Bc p2] [Bm s0] (λv st=>v=(i64 r)/\st=[Bm s0])){p0:BQ}{p1:(List Int)}{p2:(List AE)}{p3:(List (List Int))}{r:Int}(h0:ES N qa p0 p1 p2 p3=some r):Ab Tryz.prog 112 [KC p0,ls eI p1,Gc p2,ls (eS eI) p3] [] (λv st=>v=(i64 r)/\st=[]):=by
 unfold ES at h0;refine ai Tryz.func112 AA AA AA AA (sr AA λK1 Q=>Bd (m:=0) AI AA AA AA AA AA (zq tb AA (dn Q AA (zr tb AA AA (AG λX R=>sr AA λK4 S=>zq tb AA (zl tb AA AA (zq tb AA (dn S AA ?_))))))));obtain⟨T,o,h0⟩:=Sh.Bg h0;have Y:∀(sJ:Int),T=Sum.inr sJ->∀s,Wk 0 s ⟨44,Aa [(9,i64 sJ)],[]⟩->X s:=by
  intro sJ hq s U;subst T;refine R _ (AK U (zr tb AA AA ?_));obtain rfl:=Sh.AB h0;exact rt [(8,i64 sJ)]
 refine AT (Ax (σ:=Int×Int) (λn v=>Bl N p0 p1 p2 p3 qa n v.1 v.2=some T) (λ(rA,e)=>⟨44,Aa [(1,ls eI p1),(3,ls (eS eI) p3),(4,.ptr 0 0 0 0),(9,i64 rA),(13,ls Ar p2),(14,i64 (Sh.len p2)),(15,i64 e)],[⟨0,99,2,[GK p0]⟩]⟩) N (-1,0) o (AJ AA) (λ_ W=>by rw[Bl]at W;cases W) ?_);rintro n ⟨rA,e⟩ o;rw[Bl]at o;refine zr tb AA AA (AG λZ E=>?_);refine ci o AA ?_ ?_<;>clear o<;>intro b0 o
 ·refine AL (E _ (AG λb1 F=>AT (sr AA λb2 G=>zq tb AA (bs o λf H o=>zz (Dc f) (By BU AA AA H (Ai _) rfl) rfl (zq tb AA (Av (m:=1) AI DE AA AA (zq tb AA (Am AI BE AA AA AA AA AA AA pj rfl (dn G AA (AG λb3 I=>IQ (by kernel_rfl) (bs o λc J o=>bs o λp A o=>bs o λy K o=>KO λxl a=>?_)))))))))));have j:xl 0 (bm 11 2047) ⟨44,Aa (Ql p1 p3 ((9,i64 rA)::(10,i64 e)::(12,i64 y)::Qo p2 e [])),[Ly p0]⟩:=(a _ _ _).2 (by
   refine Hr AA (by kernel_rfl) (I _ (AG λb4 M=>AG λV O=>bs o λP B o=>?_));have C:∀(D:Bool),P=D->∀s,Wk 0 s ⟨44,Aa (Ql p1 p3 ((12,i64 y)::Qo p2 e [(40,.bool D)])),[Ly p0]⟩->V s:=by
    intro D hq s U;subst P;refine O _ (AK U ?_);refine ci o AA ?_ ?_<;>clear o<;>intro b5 o
    ·refine zr tb AA AA ?_;obtain rfl:=Sh.AB o;obtain rfl:=Sh.AB h0;exact rd [(8,i64 (-1))]
    ·exact AL (M _ (AH AA (zm tb 2 AA (dn F AA (AH AA (zm tb 2 AA (AF (xi (y,Sh.w (e+1)) o (AJ AA)))))))))
   refine AH AA (zm tb 3 AA ?_);rcases Sh.Aj B with ⟨k,B⟩|⟨k,B⟩
   ·refine zs k AA (zs k AA (zs k AA ?_));iterate 3 refine zn rfl ?_
    exact zs k AA (zt k AA (AF (C true (Sh.AB B).symm _ (AJ AA))))
   ·refine zg tb k AA (zg tb k AA (zg tb k AA ?_));rcases Sh.Aj B with ⟨q,B⟩|⟨q,B⟩
    ·exact zg tb q AA (zg tb q AA (zg tb q AA (Ba (v:=(.bool (!decide (y=rA)))) (CS AA AA k) rfl (KY AA q AA) (zf k AA (AF (C (!decide (y=rA)) (Sh.AB B).symm _ (AJ AA)))))))
    ·exact zs q AA (zs q AA (zs q AA (Ba (v:=(.bool false)) (CS AA AA k) rfl (LO AA q AA) (zf k AA (AF (C false (Sh.AB B).symm _ (Af (L:=(Ql p1 p3 ((12,i64 y)::Qo p2 e [(40,.bool false)]))) (.same AA)))))))))
  have b:xl 2 (bm 11 511) ⟨44,Aa (Ql p1 p3 ((9,i64 rA)::(10,i64 e)::Qo p2 e [(20,KC p0),(27,ow 1 0 p),(28,Bc f)])),[Ly p0,Bm p]⟩:=(a _ _ _).2 (by
   refine xa [9] ⟨?_,lU⟩
   ·refine xo 9 (CN (rows0:=[Bm p]) (rows1:=[Bm p]) (st':=[Ly p0,Bm p]) (v':=(i64 y)) [1] AI (hb 81) (qe K) rfl (by decide) rfl AA (.pure (AD λ_=>AA) .nil) rfl AA (.pure (AD λ_=>AA) .nil) .nil AA AA (AF ⟨AA,(BX tb 10 AA (by kernel_rfl) rfl ?_)⟩));exact xw a j (by exact AS [0] AA (by decide) rfl AA (.raw AA AA .nil) (.same AA)))
  have d:xl 3 (bm 11 383) ⟨44,Aa (Ql p1 p3 ((9,i64 rA)::(10,i64 e)::Qo p2 e [(20,KC p0),(26,ow 1 0 [p1,c]),(28,Bc f)])),[Ly p0,ro 0 32 1 (eS eI) [p1,c]]⟩:=(a _ _ _).2 (by
   refine xa [7] ⟨?_,lU⟩
   ·refine xo 7 ?_;exact AR (Wk.BL (L:=(Ql p1 p3 ((9,i64 rA)::(10,i64 e)::Qo p2 e [(20,KC p0),(26,ls (eS eI) [p1,c]),(28,Bc f)]))) (st':=[Ly p0,⟨1,32,1,[]⟩]) (id:=1) rfl qD (AD λ_=>AA) ⟨.rfl,.rfl,.rfl,.rfl,.rfl,.rfl,.rfl,.rfl,.rfl,.BL AA,.rfl,lU⟩ AA) (CH (v':=(ow 2 0 p)) AI (hb 130) (F9 A) rfl AA ⟨(CL λ_=>AA),lU⟩ AA AA (OI a b (by exact AS [0,2] AA (by decide) rfl AA (.raw AA AA (.pure (AD λ_=>AA) .nil)) (.same AA)))))
  have g:xl 4 (bm 11 127) ⟨44,Aa (Ql p1 p3 ((9,i64 rA)::(10,i64 e)::(11,CT)::Qo p2 e [(20,KC p0),(26,ow 2 0 [p1,c])])),dM p0 f [ro 0 32 1 (eS eI) [p1,c]]⟩:=(a _ _ _).2 (by
   refine xa [7,8] ⟨?_,?_,lU⟩
   ·refine xo 7 (AR (Wk.BL (L:=(Ql p1 p3 ((9,i64 rA)::(10,i64 e)::(11,CT)::Qo p2 e [(20,KC p0),(26,ls (eS eI) [p1,c])]))) (st':=(dM p0 f [⟨1,32,1,[]⟩])) (id:=2) rfl qC (AD λ_=>AA) ⟨.rfl,.rfl,.rfl,.rfl,.rfl,.rfl,.rfl,.rfl,.rfl,.rfl,.BL AA,lU⟩ AA) (CH (v':=(ow 3 0 p)) AI (hb 130) (F9 A) rfl AA ⟨(CL λ_=>AA),lU⟩ AA AA (AF ⟨AA,(BX tb 8 AA (by kernel_rfl) rfl ?_)⟩)));exact xw a b (by exact AS [0,3] AA (by decide) rfl AA (.raw AA AA (.pure (AD λ_=>AA) .nil)) (.same AA))
   ·refine xo 8 ?_;exact zq tb AA (OI a d (by exact AS [0,2] AA (by decide) rfl AA (.raw AA AA (.pure (AD λ_=>AA) .nil)) (.same AA))))
  have h:xl 4 (bm 11 319) ⟨44,Aa (Ql p1 p3 ((9,i64 rA)::(10,i64 e)::Qo p2 e [(20,KC p0),(21,ls eI p1),(25,ls eI c),(28,Bc f)])),[Ly p0]⟩:=(a _ _ _).2 (by
   refine xa [6] ⟨?_,lU⟩
   ·refine xo 6 ?_;refine BF (m:=1) (l:=[p1,c]) (enc:=(eS eI)) AI Nq (by decide) rfl AA AA AA AA AA ?_;exact xd a d)
  have t:xl 5 (bm 11 63) ⟨44,Aa (Ql p1 p3 ((9,i64 rA)::(10,i64 e)::(11,CT)::Qo p2 e [(20,KC p0),(21,ls eI p1),(25,ls eI c)])),dM p0 f []⟩:=(a _ _ _).2 (by
   refine xa [6,8] ⟨?_,?_,lU⟩
   ·refine xo 6 ?_;refine BF (m:=2) (l:=[p1,c]) (enc:=(eS eI)) AI Nq (by decide) rfl AA AA AA AA AA ?_;exact xd a g
   ·refine xo 8 ?_;exact zq tb AA (OI a h (by exact AS [0] AA (by decide) rfl AA (.raw AA AA .nil) (.same AA))))
  have i:xl 4 (bm 11 382) ⟨44,Aa (Ql p1 p3 ((9,i64 rA)::(10,i64 e)::Qo p2 e [(26,ow 1 0 [p1,c]),(28,Bc f)])),[Ly p0,ro 0 32 1 (eS eI) [p1,c]]⟩:=(a _ _ _).2 (by
   refine xa [0,7] ⟨?_,?_,lU⟩
   ·exact xq tb a d
   ·refine xo 7 (AR (Wk.BL (L:=(Ql p1 p3 ((9,i64 rA)::(10,i64 e)::Qo p2 e [(26,ls (eS eI) [p1,c]),(28,Bc f)]))) (st':=[Ly p0,⟨1,32,1,[]⟩]) (id:=1) rfl qD (AD λ_=>AA) ⟨.rfl,.rfl,.rfl,.rfl,.rfl,.rfl,.rfl,.rfl,.BL AA,.rfl,lU⟩ AA) (CH (v':=(ow 2 0 p)) AI (hb 130) (F9 A) rfl AA ⟨(CL λ_=>AA),lU⟩ AA AA (AF ⟨AA,(BX tb 0 AA (by kernel_rfl) rfl ?_)⟩)));exact xw a b (by exact AS [0,2] AA (by decide) rfl AA (.raw AA AA (.pure (AD λ_=>AA) .nil)) (.same AA)))
  have u:xl 5 (bm 11 126) ⟨44,Aa (Ql p1 p3 ((9,i64 rA)::(10,i64 e)::(11,CT)::Qo p2 e [(26,ow 2 0 [p1,c])])),dM p0 f [ro 0 32 1 (eS eI) [p1,c]]⟩:=(a _ _ _).2 (by
   refine xa [0,7,8] ⟨?_,?_,?_,lU⟩
   ·exact xq tb a g
   ·refine xo 7 (AR (Wk.BL (L:=(Ql p1 p3 ((9,i64 rA)::(10,i64 e)::(11,CT)::Qo p2 e [(26,ls (eS eI) [p1,c])]))) (st':=(dM p0 f [⟨1,32,1,[]⟩])) (id:=2) rfl qC (AD λ_=>AA) ⟨.rfl,.rfl,.rfl,.rfl,.rfl,.rfl,.rfl,.rfl,.rfl,.BL AA,lU⟩ AA) (CH (v':=(ow 3 0 p)) AI (hb 130) (F9 A) rfl AA ⟨(CL λ_=>AA),lU⟩ AA AA (AF ⟨AA,(BX tb 0 AA (by kernel_rfl) rfl (BX tb 8 AA (by kernel_rfl) rfl ?_))⟩)));exact xw a b (by exact AS [0,3] AA (by decide) rfl AA (.raw AA AA (.pure (AD λ_=>AA) .nil)) (.same AA))
   ·refine xo 8 ?_;exact zq tb AA (OI a i (by exact AS [0,2] AA (by decide) rfl AA (.raw AA AA (.pure (AD λ_=>AA) .nil)) (.same AA))))
  have x:xl 5 (bm 11 318) ⟨44,Aa (Ql p1 p3 ((9,i64 rA)::(10,i64 e)::Qo p2 e [(21,ls eI p1),(25,ls eI c),(28,Bc f)])),[Ly p0]⟩:=(a _ _ _).2 (by
   refine xa [0,6] ⟨?_,?_,lU⟩
   ·exact xq tb a h
   ·refine xo 6 ?_;refine BF (m:=1) (l:=[p1,c]) (enc:=(eS eI)) AI Nq (by decide) rfl AA AA AA AA AA ?_;exact xd a i)
  have z:xl 6 (bm 11 62) ⟨44,Aa (Ql p1 p3 ((9,i64 rA)::(10,i64 e)::(11,CT)::Qo p2 e [(21,ls eI p1),(25,ls eI c)])),dM p0 f []⟩:=(a _ _ _).2 (by
   refine xa [0,6,8] ⟨?_,?_,?_,lU⟩
   ·exact xq tb a t
   ·refine xo 6 ?_;refine BF (m:=2) (l:=[p1,c]) (enc:=(eS eI)) AI Nq (by decide) rfl AA AA AA AA AA ?_;exact xd a u
   ·refine xo 8 ?_;exact zq tb AA (OI a x (by exact AS [0] AA (by decide) rfl AA (.raw AA AA .nil) (.same AA))))
  exact (a _ _ _).2 (BX tb 1 AA (by kernel_rfl) rfl (BX tb 2 AA (by kernel_rfl) rfl (BX tb 3 AA (by kernel_rfl) rfl (II 4 (v:=(.Bn ((eS eI) c) 0)) rfl (by kernel_rfl) (by kernel_rfl) (Ch Nq AA AA J AA) (BX tb 5 AA (by kernel_rfl) rfl (xt a z))))))
 ·exact Az (Y rA (Sh.AB o).symm _ (Bt _ AA))
theorem Sv {N:Nat}{p0:(List AN)}{r:Int}(h0:JP N p0=some r):Ab Tryz.prog 103 [Cu p0] [] (λv st=>v=(i64 r)/\st=[]):=by
 unfold JP at h0;refine ai Tryz.func103 AA AA AA AA ?_;iterate 2 refine zr tb rfl rfl ?_
 refine AG λl f=>sr AA λy g=>zq tb AA (zl tb AA AA (zq tb AA (dn g AA (bs h0 λh a h0=>?_))));have o:∀(n7:Int),h=n7->∀s,Wk 0 s ⟨19,Aa [(3,i64 n7)],[]⟩->l s:=by
  intro n7 z s p;subst h;refine f _ (AK p (zr tb AA AA ?_));obtain rfl:=Sh.AB h0;exact rt [(2,i64 n7)]
 refine AT (Ax (σ:=Int×Int) (λn v=>Ec p0 n v.1 v.2=some h) (λ(n5,i)=>⟨19,Aa [(3,i64 n5),(6,ls Ak p0),(7,i64 (Sh.len p0)),(8,i64 i)],[]⟩) N (0,0) a (AJ AA) (λ_ k=>by rw[Ec]at k;cases k) ?_);rintro n ⟨n5,i⟩ a;rw[Ec]at a;refine zr tb AA AA (AG λq b=>?_);refine ci a AA ?_ ?_<;>clear a<;>intro t a
 ·exact AL (b _ (AG λu c=>AT (sr AA λx d=>bs a λj e a=>zx DI e AA AA AA (zq tb AA (Av (m:=0) AI Gw AA AA (Am AI Jn AA AA AA AA AA AA pj rfl (dn d AA (AH AA (zm tb 3 AA (zl tb AA AA (zm tb 2 AA (dn c AA (AH AA (zm tb 2 AA (AF (xi (Sh.w (n5+(Sh.len j.cons)),Sh.w (i+1)) a (Bt _ AA)))))))))))))))))
 ·exact Az (o n5 (Sh.AB a).symm _ (AJ AA))
theorem Lp {N:Nat}{p0:(List AN)}{p1:Int}{r:(List Int)}(h0:Ha N p0 p1=some r):Ab Tryz.prog 66 [Cu p0,i64 p1] [] (λv st=>v=(ow 0 0 r)/\st=[Bm r]):=by
 unfold Ha at h0;refine ai Tryz.func66 AA AA AA AA (zr tb AA AA (AG λT A=>AG λM B=>bs h0 λI b h0=>?_));have J:∀(C:Bool),I=C->∀s,Wk 0 s ⟨39,Aa [(0,Cu p0),(1,i64 p1),(15,.bool C)],[]⟩->M s:=by
  intro C O s D;subst I;refine B _ (AK D ?_);refine ci h0 AA ?_ ?_<;>clear h0<;>intro U h0
  ·refine zr tb AA AA ?_;obtain rfl:=Sh.AB h0;exact Ao (Exists.intro _ (And.intro (((Hb (t:=4) rfl 3 (size:=1) (by decide)).trans (Af (L:=[(4,Z4)]) (.same AA))).trans (Af (L:=[(4,Z4)]) (.same AA))) (And.intro AA AA)))
  ·refine AL (A _ (sr AA λV E=>zm tb 3 AA (bs h0 λW F h0=>SU (i:=0) (j:=Sh.w (p1-1)) AI DI AA AA AA (λ_=>AA) F (bs h0 λc o h0=>zc (hb 103) (Sv o) rfl AA AA (zq tb AA (dn E AA (zr tb AA AA (AG λG p=>sr AA λP q=>zm tb 3 AA (bs h0 λf u h0=>zx DI u AA AA AA (zm tb 2 AA (zl tb AA AA (zq tb AA (dn q AA (bs h0 λh b h0=>?_))))))))))))));have H:∀(e:(List Int)),h=e->∀s,Wk 0 s ⟨39,Aa [(6,ow 0 0 e)],[Bm e]⟩->G s:=by
    intro e O s D;subst h;refine p _ (AK D (zr tb AA AA ?_));obtain rfl:=Sh.AB h0;exact rt [(4,ow 0 0 e)]
   refine AT (Ax (σ:=Int×(List Int)) (λn v=>FY f c n v.1 v.2=some h) (λ(d,g)=>⟨39,Aa [(5,i64 c),(6,ow 0 0 g),(27,i64 (Sh.len f.cons)),(28,i64 d)],[ro 0 3 1 eI g]⟩) N (0,[]) b ((Hb (t:=6) rfl 3 (size:=1) (by decide)).trans (Af (L:=[(5,i64 c),(6,.own 0 0 (List.length ([]:List Int))),(27,i64 (Sh.len f.cons)),(28,i64 0)]) (.same AA))) (λ_ K=>by rw[FY]at K;cases K) ?_);rintro n ⟨d,g⟩ b;rw[FY]at b;refine zr tb AA AA (AG λQ x=>?_);refine ci b AA ?_ ?_<;>clear b<;>intro R b
   ·refine AL (x _ (AG λS y=>AT (zr tb AA AA (AH AA (zm tb 4 AA (BF (m:=1) (l:=[Sh.w (c+d)]) (enc:=eI) AI BM (by decide) rfl AA AA AA AA AA (bs b λk z b=>Cz (l2:=[Sh.w (c+d)]) AI BM AA AA AA AA (HI AA AA) (λ_=>AA) z AA (zq tb AA (dn y AA (AH AA (zm tb 2 AA ?_)))))))))));exact AF (xi (Sh.w (d+1),k) b (by refine Wk.trans (EN (L:=[(5,i64 c),(6,ow 0 0 k),(27,i64 (Sh.len f.cons)),(28,KW d)]) (st':=[Bm k,ro 0 3 1 eI [Sh.w (c+d)]]) (.pure (AD λ_=>AA) (.pure (AD λ_=>AA) .nil)) (.same AA)) ?_;exact AS [0] AA (by decide) rfl AA (.pure (AD λ_=>AA) .nil) (.same AA)))
   ·exact Az (H g (Sh.AB b).symm _ (AJ AA))
 refine AH AA (zm tb 3 AA ?_);rcases Sh.Aj b with ⟨a,b⟩|⟨a,b⟩
 ·refine zs a AA ?_;iterate 3 refine zs a rfl ?_
  exact zt a AA (AF (J true (Sh.AB b).symm _ (AJ AA)))
 ·exact zg tb a AA (zg tb a AA (Ba (v:=(HB p0)) (CS AA AA a) rfl (Cd SK AA) (zg tb a AA (zf a AA (AF (J (decide ((Sh.len p0)<p1)) (Sh.AB b).symm _ (AJ AA)))))))
theorem Pm {N:Nat}{p0:(List AN)}{p1:Int}{r:Int×De}(h0:IP N p0 p1=some r):Ab Tryz.prog 126 [Cu p0,i64 p1] [] (λv st=>v=(.Dd [i64 r.1,Jh r.2])/\st=[]):=by
 unfold IP at h0;refine Ci AA (ai Tryz.func126 AA AA AA AA (sr AA λS y=>zq tb AA (Av (m:=0) AI Q1 AA AA (dn y AA (AG λH z=>sr AA λT A=>zq tb AA (zl tb AA AA (zq tb AA (dn A AA ?_))))))));obtain⟨B,b,h0⟩:=Sh.Bg h0;have I:∀(_:Unit),B=Sum.inr ()->∀s,Wk 0 s ⟨38,Aa [(5,BI)],[⟨0,82,1,[[.zc]]⟩]⟩->H s:=by
  intro _ J s C;subst B;refine z _ (AK C (sr AA λU D=>zz (.agg [.zc]) (DC fY fh Q1 AA AA) rfl (zq tb AA (Am AI PH AA AA AA AA AA AA po rfl (dn D AA ?_)))));obtain rfl:=Sh.AB h0;exact Ao (Exists.intro _ (And.intro ((Gq (id:=0) (cs:=[.zc]) (cs':=[RW]) (st':=[⟨0,82,1,[[RW]]⟩]) rfl ⟨le.zc,lU⟩ AA AA).trans (Af (L:=[(4,i64 (-1)),(5,BI)]) (.same AA))) (As (x:=.tmp 5) (off:=0) (cs:=[RW]) (vs:=[RW]) PH AA AA AA po rfl _ AA)))
 refine AT (Ax (σ:=Int×Int) (λn v=>FO p0 n v.1 v.2=some B) (λ(g,d)=>⟨38,Aa [(1,i64 g),(5,.ptr 0 0 0 0),(8,ls Ak p0),(9,i64 (Sh.len p0)),(10,i64 d)],[⟨0,82,1,[[.zc]]⟩]⟩) N (p1,0) b (AJ AA) (λ_ G=>by rw[FO]at G;cases G) ?_);rintro n ⟨g,d⟩ b;rw[FO]at b;refine zr tb AA AA (AG λV E=>?_);refine ci b AA ?_ ?_<;>clear b<;>intro K b
 ·refine AL (E _ (AG λM h=>AT (sr AA λO i=>zq tb AA (bs b λc j b=>zx DI j AA AA AA (zq tb AA (Av (m:=1) AI Gw AA AA (zq tb AA (Am AI Jn AA AA AA AA AA AA pj rfl (dn i AA (AG λP k=>AG λF l=>bs b λo p b=>?_))))))))));have q:∀(e:Bool),o=e->∀s,Wk 0 s ⟨38,Aa [(1,i64 g),(5,BI),(6,i64 d),(7,CT),(8,Cu p0),(9,HB p0),(10,i64 d),(23,.bool e)],[⟨0,82,1,[[.zc]]⟩,V0 c]⟩->F s:=by
   intro e J s C;subst o;refine l _ (AK C ?_);refine ci b AA ?_ ?_<;>clear b<;>intro Q b
   ·refine AG λR t=>Br 8 (by kernel_rfl) (by kernel_rfl) (by rfl) ?_;iterate 5 refine yq tb rfl ?_
    refine bs b λf u b=>yx I7 u AA AA AA ?_;iterate 2 refine yq tb rfl ?_
    refine Aw (Am AI PH AA AA AA AA AA AA po rfl (dn t AA ?_));obtain rfl:=Sh.AB b;obtain rfl:=Sh.AB h0;exact Ao (Exists.intro _ (And.intro ((AS (L:=[(4,KW d),(5,BI)]) (st':=[⟨0,82,1,[CD f]⟩]) [0] AA (by decide) rfl AA (.raw AA AA .nil) ⟨.rfl,.rfl,lU⟩).trans (Af (L:=[(4,KW d),(5,BI)]) ⟨.rfl,.rfl,lU⟩)) (As (x:=.tmp 5) (off:=0) (cs:=(CD f)) (vs:=(CD f)) PH AA AA AA po rfl _ AA)))
   ·exact AL (k _ (AH AA (zm tb 3 AA (zl tb AA AA (zm tb 2 AA (dn h AA (AH AA (zm tb 2 AA (AF (xi (Sh.w (g-(Sh.len c.cons)),Sh.w (d+1)) b (AS [0] AA (by decide) rfl AA (.raw AA AA .nil) (.same AA))))))))))))
  refine AH AA (zm tb 3 AA ?_);rcases Sh.Aj p with ⟨a,p⟩|⟨a,p⟩
  ·exact zg tb a AA (zg tb a AA (zg tb a AA (Ba (v:=(i64 (Sh.len c.cons))) (CS AA AA a) rfl (Cd QB AA) (zg tb a AA (zt a AA (AF (q (decide (g<(Sh.len c.cons))) (Sh.AB p).symm _ (AJ AA))))))))
  ·refine zs a AA ?_;iterate 4 refine zs a rfl ?_
   exact zf a AA (AF (q false (Sh.AB p).symm _ (AJ AA)))
 ·exact Az (I () (Sh.AB b).symm _ (AJ AA))
theorem Na {N:Nat}{p0:(List AN)}{p1:Int}{r:(List Int)}(h0:EO N p0 p1=some r):Ab Tryz.prog 92 [Cu p0,i64 p1] [] (λv st=>v=(ls eI r)/\st=[]):=by
 unfold EO at h0;refine ai Tryz.func92 AA AA AA AA (zr tb AA AA (sr AA λd a=>zm tb 2 AA (bs h0 λb c h0=>zc (v':=(.Dd [i64 b.1,Jh b.2])) (hb 126) (Pm c) rfl AA AA (zm tb 3 AA (Av (m:=0) AI Q1 AA AA (zq tb AA (Am AI PH AA AA AA AA AA AA po rfl (dn a AA (zr tb AA AA ?_)))))))));obtain rfl:=Sh.AB h0;exact rd [(4,ls eI b.2.fields)]
theorem OM {p0:(List AN)}{p1:Int}{r:AN×Bool}(h0:J1 p0 p1=some r):Ab Tryz.prog 131 [Cu p0,i64 p1] [] (λv st=>v=(Xa r.1 r.2)/\st=[]):=by
 unfold J1 at h0;refine Ci AA (ai Tryz.func131 AA AA AA AA (sr AA λu f=>Av (m:=0) AI Gw AA AA (zq tb AA (dn f AA (AG λw g=>AG λq h=>bs h0 λo c h0=>?_)))));have i:∀(j:Bool),o=j->∀s,Wk 0 s ⟨30,Aa [(0,Cu p0),(1,i64 p1),(4,BI),(23,.bool j)],[dS]⟩->q s:=by
  intro j y s t;subst o;refine h _ (AK t ?_);refine ci h0 AA ?_ ?_<;>clear h0<;>intro z h0
  ·refine sr AA λA k=>zz (.agg [i64 0,i64 0,.zc]) (DC Lz L0 Gw AA AA) rfl (Am AI Jn AA AA AA AA AA AA pj rfl (zq tb AA (dn k AA ?_)));obtain rfl:=Sh.AB h0;exact Ao (Exists.intro _ (And.intro ((Gq (id:=0) (cs:=[i64 0,i64 0,.zc]) (cs':=[i64 0,i64 0,Uf]) (st':=[⟨0,80,3,[[i64 0,i64 0,Uf]]⟩]) rfl ⟨le.rfl,le.rfl,le.zc,lU⟩ AA AA).trans (Af (L:=[(4,BI),(5,.bool false)]) (.same AA))) (As (x:=.tmp 4) (off:=0) (cs:=[i64 0,i64 0,Uf]) (vs:=[i64 0,i64 0,Uf]) Jn AA AA AA pj rfl _ AA)))
  ·refine AL (g _ (sr AA λB l=>zm tb 3 AA (bs h0 λp n h0=>zx DI n AA AA AA (zq tb AA (Am AI Jn AA AA AA AA AA AA pj rfl (zq tb AA (dn l AA ?_)))))));obtain rfl:=Sh.AB h0;exact Ao (Exists.intro _ (And.intro (Af (L:=[(4,BI),(5,.bool true)]) (.same AA)) (As (x:=.tmp 4) (off:=0) (cs:=(Ak p)) (vs:=(Ak p)) Jn AA AA AA pj rfl _ AA)))
 refine AH AA (zm tb 3 AA ?_);rcases Sh.Aj c with ⟨b,c⟩|⟨b,c⟩
 ·refine zs b AA ?_;iterate 3 refine zs b rfl ?_
  refine zt b AA (zq tb AA ?_);iterate 8 refine zs rfl rfl ?_
  exact zt AA AA (AF (i true (Sh.AB c).symm _ (AJ AA)))
 ·refine zg tb b AA (zg tb b AA (Ba (v:=(HB p0)) (CS AA AA b) rfl (Cd SK AA) (zg tb b AA (zf b AA (zq tb AA ?_)))));rcases Sh.Aj c with ⟨a,c⟩|⟨a,c⟩
  ·refine zs a AA ?_;iterate 7 refine zs a rfl ?_
   exact zt a AA (AF (i true (Sh.AB c).symm _ (AJ AA)))
  ·exact zg tb a AA (zg tb a AA (zg tb a AA (bs c λd e c=>Ba (v:=(.Bn (Ak d) 0)) (CS AA AA a) rfl (Ch DI AA AA e AA) (zg tb a AA (zg tb a AA (Ba (v:=(i64 (Sh.len d.cons))) (CS AA AA a) rfl (Cd QB AA) (zg tb a AA (zf a AA (AF (i (decide (0<(Sh.len d.cons))) (Sh.AB c).symm _ (AJ AA)))))))))))
theorem GU {N:Nat}{p0:(List Int)}{p1:(List Int)}{r:Bool}(h0:DS N p0 p1=some r):Ab Tryz.prog 132 [ls eI p0,ls eI p1] [] (λv st=>v=(.bool r)/\st=[]):=by
 unfold DS at h0;refine ai Tryz.func132 AA AA AA AA (zr tb AA AA (AG λF l=>sr AA λG m=>zq tb AA (zl tb AA AA (zq tb AA (zl tb AA AA (zq tb AA (dn m AA ?_)))))));refine ci h0 AA ?_ ?_<;>clear h0<;>intro t h0
 ·have H:decide ((Sh.len p0)=(Sh.len p1))=false:=by simpa using t
  refine zr tb AA AA ?_;obtain rfl:=Sh.AB h0;exact rt [(4,.bool false)]
 ·have I:decide ((Sh.len p0)=(Sh.len p1))=true:=by simpa using t
  refine AL (l _ (AG λx o=>sr AA λJ p=>zq tb AA (zl tb AA AA (zq tb AA (dn p AA ?_)))));obtain⟨b,a,h0⟩:=Sh.Bg h0;have q:∀(_:Unit),b=Sum.inr ()->∀s,Wk 0 s ⟨26,Aa [],[]⟩->x s:=by
   intro _ K s y;subst b;refine o _ (AK y (zr tb AA AA ?_));obtain rfl:=Sh.AB h0;exact rt [(4,.bool true)]
  refine AT (Ax (σ:=Int) (λn v=>DD p0 p1 n v=some b) (λc=>⟨26,Aa [(0,ls eI p0),(1,ls eI p1),(12,i64 (Sh.len p0)),(13,i64 c)],[]⟩) N 0 a (AJ AA) (λ_ u=>by rw[DD]at u;cases u) ?_);rintro n c a;rw[DD]at a;refine zr tb AA AA (AG λz d=>?_);refine ci a AA ?_ ?_<;>clear a<;>intro A a
  ·refine AL (d _ (AG λB e=>AT (zr tb AA AA (AG λC f=>Ce (by kernel_rfl) (by kernel_rfl) (by rfl) ?_))));iterate 2 refine yq tb rfl ?_
   refine bs a λg h a=>yx BM h AA AA AA ?_;iterate 3 refine yq tb rfl ?_
   refine bs a λi j a=>yx BM j AA AA AA ?_;iterate 2 refine yq tb rfl ?_
   refine Aw (f _ ?_);refine ci a AA ?_ ?_<;>clear a<;>intro k a
   ·have D:decide (g=i)=false:=by simpa using k
    refine zr tb AA AA ?_;obtain rfl:=Sh.AB a;obtain rfl:=Sh.AB h0;exact rt [(4,.bool false)]
   ·have E:decide (g=i)=true:=by simpa using k
    exact AL (e _ (AH AA (zm tb 2 AA (AF (xi (Sh.w (c+1)) a (AJ AA))))))
  ·exact Az (q () (Sh.AB a).symm _ (AJ AA))
theorem Td {N:Nat}{p0:(List AN)}{p1 p2 r:Int}(h0:Jx N p0 p1 p2=some r):Ab Tryz.prog 133 [Cu p0,i64 p1,i64 p2] [] (λv st=>v=(i64 r)/\st=[]):=by
 unfold Jx at h0;refine ai Tryz.func133 AA AA AA AA (zr tb AA AA (AG λA o=>sr AA λG p=>zq tb AA (zl tb AA AA (zq tb AA (dn p AA ?_)))));obtain⟨q,a,h0⟩:=Sh.Bg h0;have B:∀(_:Unit),q=Sum.inr ()->∀s,Wk 0 s ⟨35,Aa [],[]⟩->A s:=by
  intro _ C s t;subst q;refine o _ (AK t (zr tb AA AA ?_));obtain rfl:=Sh.AB h0;exact rt [(6,i64 (-1))]
 refine AT (Ax (σ:=Int) (λn v=>E4 p0 p1 p2 n v=some q) (λg=>⟨35,Aa [(1,i64 p1),(2,i64 p2),(9,ls Ak p0),(10,i64 (Sh.len p0)),(11,i64 g)],[]⟩) N 0 a (AJ AA) (λ_ z=>by rw[E4]at z;cases z) ?_);rintro n g a;rw[E4]at a;refine zr tb AA AA (AG λH u=>?_);refine ci a AA ?_ ?_<;>clear a<;>intro I a
 ·refine AL (u _ (AG λD h=>AT (sr AA λE i=>zq tb AA (bs a λx j a=>zx DI j AA AA AA (zq tb AA (Av (m:=0) AI Gw AA AA (zq tb AA (Am AI Jn AA AA AA AA AA AA pj rfl (dn i AA (AG λy k=>bs a λl d a=>?_))))))))));have e:∀(f:Bool),l=f->∀s,Wk 0 s ⟨35,Aa [(1,i64 p1),(2,i64 p2),(7,i64 g),(9,Cu p0),(10,HB p0),(11,i64 g),(31,.bool f)],[]⟩->y s:=by
   intro f C s t;subst l;refine k _ (AK t ?_);refine ci a AA ?_ ?_<;>clear a<;>intro F a
   ·refine zr tb AA AA ?_;obtain rfl:=Sh.AB a;obtain rfl:=Sh.AB h0;exact rt [(6,KW g)]
   ·exact AL (h _ (AH AA (zm tb 2 AA (AF (xi (Sh.w (g+1)) a (AJ AA))))))
  refine AH AA (zm tb 2 AA (zl tb AA AA (zm tb 2 AA ?_)));rcases Sh.Aj d with ⟨b,d⟩|⟨b,d⟩
  ·refine zg tb b AA ?_;iterate 3 refine zg tb b rfl ?_
   refine zt b AA (zq tb AA ?_);rcases Sh.Aj d with ⟨c,d⟩|⟨c,d⟩
   ·refine zg tb c AA ?_;iterate 3 refine zg tb c rfl ?_
    exact zt c AA (AF (e (decide (x.to=p2)) (Sh.AB d).symm _ (Bt _ AA)))
   ·refine zs c AA ?_;iterate 3 refine zs c rfl ?_
    exact zf c AA (AF (e false (Sh.AB d).symm _ (Bt _ AA)))
  ·refine zs b AA ?_;iterate 3 refine zs b rfl ?_
   refine zf b AA (zq tb AA ?_);iterate 4 refine zs rfl rfl ?_
   exact zf AA AA (AF (e false (Sh.AB d).symm _ (Bt _ AA)))
 ·exact Az (B () (Sh.AB a).symm _ (AJ AA))
theorem Ky {N:Nat}{p0:BQ}{p1 p2:Int}{p3:(List Int)}{r:Int×Bool}(h0:BK N p0 p1 p2 p3=some r):Ab Tryz.prog 113 [.agg (GK p0),i64 p1,i64 p2,ls eI p3] [] (λv st=>v=(.Dd [i64 r.1,.bool r.2])/\st=[]):=by
 unfold BK at h0;refine ai Tryz.func113 AA AA AA AA (sr AA λK1 h5=>Bd (m:=0) AI AA AA AA AA AA (zm tb 2 AA (dn h5 AA (zr tb AA AA (AG λK3 h6=>?_)))));obtain⟨o5,b,h0⟩:=Sh.Bg h0;have M5:∀(Y:(List Int)),o5=Sum.inr Y->∀s,Wk 0 s ⟨149,Aa (N5 p2 p3 [(10,ow 0 0 Y),(11,i64 0)]),[Bm Y]⟩->K3 s:=by
  intro Y hq s A;subst o5;refine h6 _ (AK A (AG λK6 h7=>bs h0 λo8 b h0=>?_));have M8:∀(t7:Bool),o8=t7->∀s,Wk 0 s ⟨149,Aa [(8,i64 0),(9,.bool t7)],[]⟩->K6 s:=by
   intro t7 hq s A;subst o8;refine h7 _ (AK A ?_);obtain rfl:=Sh.AB h0;exact rt [(8,i64 0),(9,.bool t7)]
  refine AH AA (zm tb 4 AA ?_);rcases Sh.Aj b with ⟨G,b⟩|⟨G,b⟩
  ·exact zg tb G AA (zg tb G AA (AR (Wk.BL (L:=[(141,i64 0),(144,.bool (decide (p2=0))),(145,ls eI p3),(146,ls eI Y)]) (st':=Rk) (id:=0) rfl pn (AD λ_=>AA) ⟨.rfl,.rfl,.rfl,.BL AA,lU⟩ AA) (bs b λh8 Z b=>zd G (hb 132) (GU Z) rfl AA AA AA (zt G AA (zm tb 2 AA (AF (M8 h8 (Sh.AB b).symm _ (Bt _ AA))))))))
  ·exact zs G AA (zs G AA (zs G AA (zf G AA (zm tb 2 AA (AF (M8 false (Sh.AB b).symm _ (Bt _ AA)))))))
 refine zr tb AA AA (AT (zr tb AA AA ?_));refine ci b AA ?_ ?_<;>clear b<;>intro l5 b
 ·refine AG λh9 b0=>bs b λb1 c b=>?_;have R:∀(H:Bool),b1=H->∀s,Wk 0 s ⟨149,Aa [(8,i64 0),(9,.bool H)],[]⟩->h9 s:=by
   intro H hq s A;subst b1;refine b0 _ (AK A ?_);obtain rfl:=Sh.AB b;obtain rfl:=Sh.AB h0;exact rt [(8,i64 0),(9,.bool H)]
  refine AH AA (zm tb 3 AA ?_);rcases Sh.Aj c with ⟨D,c⟩|⟨D,c⟩
  ·refine zg tb D AA (zg tb D AA (zt D AA (zq tb AA ?_)));rcases Sh.Aj c with ⟨x,c⟩|⟨x,c⟩
   ·exact zg tb x AA (Ba (v:=(HB p3)) (CS AA AA x) rfl (Cd Fz AA) (zg tb x AA (zt x AA (zm tb 2 AA (AF (R (decide ((Sh.len p3)=0)) (Sh.AB c).symm _ (Bt _ AA)))))))
   ·exact zs x AA (zs x AA (zs x AA (zf x AA (zm tb 2 AA (AF (R false (Sh.AB c).symm _ (Bt _ AA)))))))
  ·refine zs D AA (zs D AA (zf D AA (zq tb AA ?_)));iterate 3 refine zs rfl rfl ?_
   exact zf AA AA (zm tb 2 AA (AF (R false (Sh.AB c).symm _ (Bt _ AA))))
 ·refine AG λk0 b2=>bs b λb3 c b=>?_;have I:∀(S:Bool),b3=S->∀s,Wk 0 s ⟨149,Aa ((1,i64 p1)::N5 p2 p3 [(4,BI),(11,i64 0),(18,i64 p1),(32,.bool S)]),[Ly p0]⟩->k0 s:=by
   intro S hq s A;subst b3;refine b2 _ (AK A ?_);refine ci b AA ?_ ?_<;>clear b<;>intro l6 b
   ·exact AH AA (BF (m:=1) (l:=[(0:Int),0]) (enc:=eI) AI BM (by decide) rfl AA AA AA AA AA (zq tb AA (AF (M5 [(0:Int),0] (Sh.AB b).symm _ (AS [1] AA (by decide) rfl AA (.pure (AD λ_=>AA) .nil) (.same AA))))))
   ·refine zr tb AA AA ?_;refine ci b AA ?_ ?_<;>clear b<;>intro l7 b
    ·refine AH AA ?_;refine BF (m:=1) (l:=[(0:Int)]) (enc:=eI) AI BM (by decide) rfl AA AA AA AA AA ?_;refine zq tb AA ?_;exact AF (M5 [(0:Int)] (Sh.AB b).symm _ (AS [1] AA (by decide) rfl AA (.pure (AD λ_=>AA) .nil) (.same AA)))
    ·refine zr tb AA AA ?_;refine ci b AA ?_ ?_<;>clear b<;>intro l8 b
     ·refine AG λl9 b4=>sr AA λm0 b5=>zq tb AA (zl tb AA AA (zq tb AA (dn b5 AA ?_)));refine ci b AA ?_ ?_<;>clear b<;>intro b6 b
      ·have m1:decide ((Sh.len p3)=2)=false:=by simpa using b6
       refine zr tb AA AA ?_;obtain rfl:=Sh.AB b;obtain rfl:=Sh.AB h0;exact rd [(8,i64 (-1)),(9,.bool false)]
      ·have m2:decide ((Sh.len p3)=2)=true:=by simpa using b6
       refine AL (b4 _ (AG λm3 b7=>IQ (by kernel_rfl) (bs b λT b8 b=>bs b λd P b=>KO λwe a=>?_)));have f:we 0 (bm 12 4095) ⟨149,Aa (N5 p2 p3 [(12,BI),(13,.bool d.2)]),[V0 d.1]⟩:=(a _ _ _).2 (by
        refine Hr AA (by kernel_rfl) (b7 _ (AG λk1 c0=>bs b λc1 c b=>?_));have U:∀(J:Bool),c1=J->∀s,Wk 0 s ⟨149,Aa [(8,i64 d.1.to),(9,.bool J)],[]⟩->k1 s:=by
         intro J hq s A;subst c1;refine c0 _ (AK A ?_);obtain rfl:=Sh.AB b;obtain rfl:=Sh.AB h0;exact rt [(8,i64 d.1.to),(9,.bool J)]
        refine Ce (by kernel_rfl) (by kernel_rfl) (by rfl) ?_;iterate 4 refine yq tb rfl ?_
        rcases Sh.Aj c with ⟨B,c⟩|⟨B,c⟩
        ·refine yg tb B AA (bs c λk2 c2 c=>IN (v:=(.Bn (eI k2) 0)) (CS AA AA B) rfl (Ch BM AA AA c2 AA) ?_);iterate 4 refine yg tb B rfl ?_
         refine yt B AA (yq tb AA ?_);rcases Sh.Aj c with ⟨E,c⟩|⟨E,c⟩
         ·refine yg tb E AA (yg tb E AA (yt E AA ?_));iterate 2 refine yq tb rfl ?_
          exact Aw (U (decide (p2=0)) (Sh.AB c).symm _ (Bt _ AA))
         ·refine ys E AA (ys E AA (yf E AA ?_));iterate 2 refine yq tb rfl ?_
          exact Aw (U false (Sh.AB c).symm _ (Bt _ AA))
        ·refine ys B AA ?_;iterate 5 refine ys B rfl ?_
         refine yf B AA (yq tb AA ?_);iterate 2 refine ys rfl rfl ?_
         refine yf AA AA ?_;iterate 2 refine yq tb rfl ?_
         exact Aw (U false (Sh.AB c).symm _ (by exact AS [] AA (by decide) rfl AA .nil (.same AA))))
       have e:we 2 (bm 12 1023) ⟨149,Aa (N5 p2 p3 [(12,BI),(53,.agg (Ak d.1)),(54,.bool d.2)]),[dS]⟩:=(a _ _ _).2 (by
        refine xa [10] ⟨?_,lU⟩
        ·refine xo 10 ?_;refine Am AI Jn AA AA AA AA AA AA pj rfl (AF ⟨AA,?_⟩);refine BX tb 11 AA (by kernel_rfl) rfl ?_;exact xt a f)
       have g:we 3 (bm 12 511) ⟨149,Aa (N5 p2 p3 [(53,.agg (Ak d.1)),(54,.bool d.2)]),[]⟩:=(a _ _ _).2 (by
        refine xa [9] ⟨?_,lU⟩
        ·refine xo 9 ?_;exact Av (m:=0) AI Gw AA AA (xd a e))
       have o:we 2 (bm 12 1791) ⟨149,Aa (N5 p2 p3 [(12,BI),(46,Xa d.1 d.2)]),[V0 d.1]⟩:=(a _ _ _).2 (by
        refine xa [8] ⟨?_,lU⟩
        ·refine xo 8 ?_;refine zq tb AA (AF ⟨AA,?_⟩);refine BX tb 11 AA (by kernel_rfl) rfl ?_;exact xt a f)
       have h:we 3 (bm 12 767) ⟨149,Aa (N5 p2 p3 [(12,BI),(46,Xa d.1 d.2),(53,.agg (Ak d.1))]),[dS]⟩:=(a _ _ _).2 (by
        refine xa [8,10] ⟨?_,?_,lU⟩
        ·exact xq tb a e
        ·refine xo 10 ?_;exact Am AI Jn AA AA AA AA AA AA pj rfl (xd a o))
       have p:we 4 (bm 12 255) ⟨149,Aa (N5 p2 p3 [(46,Xa d.1 d.2),(53,.agg (Ak d.1))]),[]⟩:=(a _ _ _).2 (by
        refine xa [8,9] ⟨?_,?_,lU⟩
        ·exact xq tb a g
        ·refine xo 9 ?_;exact Av (m:=0) AI Gw AA AA (xd a h))
       have k:we 3 (bm 12 895) ⟨149,Aa (N5 p2 p3 [(12,BI),(46,Xa d.1 d.2),(54,.bool d.2)]),[dS]⟩:=(a _ _ _).2 (by
        refine xa [7] ⟨?_,lU⟩
        ·exact xq tb a e)
       have q:we 4 (bm 12 383) ⟨149,Aa (N5 p2 p3 [(46,Xa d.1 d.2),(54,.bool d.2)]),[]⟩:=(a _ _ _).2 (by
        refine xa [7,9] ⟨?_,?_,lU⟩
        ·exact xq tb a g
        ·refine xo 9 ?_;exact Av (m:=0) AI Gw AA AA (xd a k))
       have n:we 4 (bm 12 639) ⟨149,Aa (N5 p2 p3 [(12,BI),(46,Xa d.1 d.2)]),[dS]⟩:=(a _ _ _).2 (by
        refine xa [7,8] ⟨?_,?_,lU⟩
        ·exact xq tb a h
        ·exact xq tb a k)
       have y:we 5 (bm 12 127) ⟨149,Aa (N5 p2 p3 [(46,Xa d.1 d.2)]),[]⟩:=(a _ _ _).2 (by
        refine xa [7,8,9] ⟨?_,?_,?_,lU⟩
        ·exact xq tb a p
        ·exact xq tb a q
        ·refine xo 9 ?_;exact Av (m:=0) AI Gw AA AA (xd a n))
       have C:we 6 (bm 12 543) ⟨149,Aa (N5 p2 p3 [(12,BI),(48,ls Ak p0.decls),(51,i64 T)]),[dS]⟩:=(a _ _ _).2 (by
        refine xa [5] ⟨?_,lU⟩
        ·refine xo 5 ?_;refine zc (v':=(Xa d.1 d.2)) (hb 131) (OM P) rfl AA AA (AF ⟨AA,?_⟩);refine BX tb 6 AA (by kernel_rfl) rfl ?_;exact xt a n)
       have F:we 7 (bm 12 31) ⟨149,Aa (N5 p2 p3 [(48,ls Ak p0.decls),(51,i64 T)]),[]⟩:=(a _ _ _).2 (by
        refine xa [5,9] ⟨?_,?_,lU⟩
        ·refine xo 5 ?_;refine zc (v':=(Xa d.1 d.2)) (hb 131) (OM P) rfl AA AA (AF ⟨AA,?_⟩);refine BX tb 6 AA (by kernel_rfl) rfl ?_;exact xt a y
        ·refine xo 9 ?_;exact Av (m:=0) AI Gw AA AA (xd a C))
       refine (a _ _ _).2 (BX tb 0 AA (by kernel_rfl) rfl (BX tb 1 AA (by kernel_rfl) rfl (BX tb 2 AA (by kernel_rfl) rfl (II 3 (v:=(.Bn (eI T) 0)) rfl (by kernel_rfl) (by kernel_rfl) (Ch BM AA AA b8 AA) (BX tb 4 AA (by kernel_rfl) rfl ?_)))));exact xw a F (by exact AS [] AA (by decide) rfl AA .nil (.same AA))
     ·refine zr tb AA AA ?_;refine ci b AA ?_ ?_<;>clear b<;>intro m4 b
      ·refine sr AA λm5 c3=>zm tb 3 AA (bs b λK c4 b=>zc (v':=(.Dd [i64 K.1,Jh K.2])) (hb 126) (Pm c4) rfl AA AA (zm tb 3 AA (Av (m:=1) AI Q1 AA AA (zq tb AA (Am AI PH AA AA AA AA AA AA po rfl (dn c3 AA (AG λk3 c5=>bs b λc6 c b=>?_)))))));have c7:∀(M:Bool),c6=M->∀s,Wk 0 s ⟨149,Aa [(8,i64 K.1),(9,.bool M)],[]⟩->k3 s:=by
        intro M hq s A;subst c6;refine c5 _ (AK A ?_);obtain rfl:=Sh.AB b;obtain rfl:=Sh.AB h0;exact rt [(8,i64 K.1),(9,.bool M)]
       refine AH AA (zm tb 4 AA ?_);rcases Sh.Aj c with ⟨z,c⟩|⟨z,c⟩
       ·exact zg tb z AA (zg tb z AA (zg tb z AA (bs c λk4 c8 c=>zd z (hb 132) (GU c8) rfl AA AA AA (zt z AA (zm tb 2 AA (AF (c7 k4 (Sh.AB c).symm _ (Bt _ AA))))))))
       ·refine zs z AA ?_;iterate 3 refine zs z rfl ?_
        exact zf z AA (zm tb 2 AA (AF (c7 false (Sh.AB c).symm _ (Bt _ AA))))
      ·refine AG λk5 c9=>bs b λd1 c b=>?_;have d2:∀(V:Bool),d1=V->∀s,Wk 0 s ⟨149,Aa ((1,i64 p1)::N5 p2 p3 [(4,BI),(88,.bool V)]),[Ly p0]⟩->k5 s:=by
        intro V hq s A;subst d1;refine c9 _ (AK A ?_);refine ci b AA ?_ ?_<;>clear b<;>intro m6 b
        ·refine AG λm7 d3=>AG λk6 d4=>bs b λd5 c b=>?_;have d6:∀(W:Bool),d5=W->∀s,Wk 0 s ⟨149,Aa ((1,i64 p1)::N5 p2 p3 [(4,BI),(99,.bool W)]),[Ly p0]⟩->k6 s:=by
          intro W hq s A;subst d5;refine d4 _ (AK A ?_);refine ci b AA ?_ ?_<;>clear b<;>intro m8 b
          ·refine zr tb AA AA ?_;obtain rfl:=Sh.AB b;obtain rfl:=Sh.AB h0;exact rd [(8,i64 (-1)),(9,.bool false)]
          ·refine AL (d3 _ (AG λm9 d7=>Ce (by kernel_rfl) (by kernel_rfl) (by rfl) ?_));iterate 3 refine yq tb rfl ?_
           refine bs b λd8 Q b=>yx RB Q AA AA AA ?_;iterate 5 refine yq tb rfl ?_
           refine yx RB Q AA AA AA ?_;iterate 4 refine yq tb rfl ?_
           refine Aw (d7 _ (AG λq0 d9=>zr tb AA AA ?_));refine ci b AA ?_ ?_<;>clear b<;>intro q1 b
           ·refine sr AA λq2 g0=>zm tb 3 AA (bs b λk7 g1 b=>zc (hb 132) (GU g1) rfl AA AA (zm tb 2 AA (dn g0 AA ?_)));obtain rfl:=Sh.AB b;obtain rfl:=Sh.AB h0;exact rd [(8,i64 d8.result),(9,.bool k7)]
           ·refine AL (d9 _ (sr AA λq3 g2=>zq tb AA (zl tb AA AA (zm tb 2 AA (dn g2 AA (AG λq4 g3=>zr tb AA AA ?_))))));refine ci b AA ?_ ?_<;>clear b<;>intro q5 b
            ·refine zr tb AA AA ?_;obtain rfl:=Sh.AB b;obtain rfl:=Sh.AB h0;exact rd [(8,i64 (-1)),(9,.bool false)]
            ·refine AL (g3 _ (AG λq6 g4=>Ce (by kernel_rfl) (by kernel_rfl) (by rfl) ?_));iterate 4 refine yq tb rfl ?_
             refine bs b λq7 g5 b=>yx BM g5 AA AA AA ?_;iterate 2 refine yq tb rfl ?_
             refine bs b λX g6 b=>BV (v:=(i64 X)) AI (hb 133) (Td g6) rfl AA AA (yq tb AA (Aw (g4 _ (AG λk8 g7=>bs b λg8 c b=>?_))));have g9:∀(O:Bool),g8=O->∀s,Wk 0 s ⟨149,Aa [(8,i64 X),(9,.bool O)],[]⟩->k8 s:=by
              intro O hq s A;subst g8;refine g7 _ (AK A ?_);obtain rfl:=Sh.AB b;obtain rfl:=Sh.AB h0;exact rt [(8,i64 X),(9,.bool O)]
             refine AH AA (zm tb 4 AA ?_);rcases Sh.Aj c with ⟨t,c⟩|⟨t,c⟩
             ·exact zg tb t AA (zg tb t AA (zg tb t AA (bs c λq8 h3 c=>SU (i:=0) (j:=Sh.w ((Sh.len d8.params)-1)) (CS AA AA t) BM AA AA AA (λ_=>AA) h3 (bs c λk9 h4 c=>zd t (hb 132) (GU h4) rfl AA AA AA (zt t AA (zm tb 2 AA (AF (g9 k9 (Sh.AB c).symm _ (Bt _ AA)))))))))
             ·refine zs t AA ?_;iterate 4 refine zs t rfl ?_
              exact zf t AA (zm tb 2 AA (AF (g9 false (Sh.AB c).symm _ (Bt _ AA))))
         refine AH AA (zm tb 3 AA ?_);rcases Sh.Aj c with ⟨u,c⟩|⟨u,c⟩
         ·refine zs u AA ?_;iterate 4 refine zs u rfl ?_
          exact zt u AA (AF (d6 true (Sh.AB c).symm _ (AJ AA)))
         ·exact zg tb u AA (zg tb u AA (zg tb u AA (Ba (v:=(i64 (Sh.len p0.funcs))) (CS AA AA u) rfl (Cd fr AA) (zg tb u AA (zf u AA (AF (d6 (decide ((Sh.len p0.funcs)<=p2)) (Sh.AB c).symm _ (AJ AA))))))))
        ·refine zr tb AA AA ?_;obtain rfl:=Sh.AB b;obtain rfl:=Sh.AB h0;exact rd [(8,i64 (-1)),(9,.bool false)]
       refine zr tb AA AA ?_;refine ci c AA ?_ ?_<;>clear c<;>intro l0 c
       ·exact AL (d2 true (Sh.AB c).symm _ (Af (L:=((1,i64 p1)::N5 p2 p3 [(4,BI),(88,.bool true)])) ⟨.rfl,.rfl,.rfl,.rfl,.of (mc AV.bool l0),lU⟩))
       ·exact AH AA (zm tb 2 AA (AF (d2 (decide (p1=10)) (Sh.AB c).symm _ (AJ AA))))
  refine zr tb AA AA ?_;refine ci c AA ?_ ?_<;>clear c<;>intro l1 c
  ·exact AL (I true (Sh.AB c).symm _ (Af (L:=((1,i64 p1)::N5 p2 p3 [(4,BI),(11,i64 0),(18,i64 p1),(32,.bool true)])) ⟨.rfl,.rfl,.rfl,.rfl,.rfl,.rfl,.of (mc AV.bool l1),lU⟩))
  ·refine zr tb AA AA ?_;refine ci c AA ?_ ?_<;>clear c<;>intro l2 c
   ·exact AL (I true (Sh.AB c).symm _ (Af (L:=((1,i64 p1)::N5 p2 p3 [(4,BI),(11,i64 0),(18,i64 p1),(32,.bool true)])) ⟨.rfl,.rfl,.rfl,.rfl,.rfl,.rfl,.of (mc AV.bool l2),lU⟩))
   ·refine zr tb AA AA ?_;refine ci c AA ?_ ?_<;>clear c<;>intro l3 c
    ·exact AL (I true (Sh.AB c).symm _ (Af (L:=((1,i64 p1)::N5 p2 p3 [(4,BI),(11,i64 0),(18,i64 p1),(32,.bool true)])) ⟨.rfl,.rfl,.rfl,.rfl,.rfl,.rfl,.of (mc AV.bool l3),lU⟩))
    ·exact AH AA (zm tb 2 AA (AF (I (decide (p1=4)) (Sh.AB c).symm _ (AJ AA))))
end Go.Proofs.YtihdgoiebmfapaaGreat
