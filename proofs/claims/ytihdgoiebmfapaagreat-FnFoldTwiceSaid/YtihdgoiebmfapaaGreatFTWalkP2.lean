import Derived.Test.YtihdgoiebmfapaaGreatFTWalkP1
set_option linter.all false
namespace Go.Proofs.YtihdgoiebmfapaaGreat
open Go Go.Abs RC
attribute [local irreducible] Go.Abs.D6
set_option maxRecDepth 100000
set_option maxHeartbeats 4000000
theorem fv:IW Tryz.prog 95=true:=by kernel_rfl
theorem iX:IW Tryz.prog 99=true:=by kernel_rfl
theorem fw:Js Tryz.prog 95=some [(0,1),(1,1),(2,1)]:=by kernel_rfl
theorem ic:Js Tryz.prog 99=some [(0,1),(1,1)]:=by kernel_rfl
theorem NK:D2 Tryz.prog 119=some ⟨32,1,24,[.sl []]⟩:=by kernel_rfl
theorem Qc:D2 Tryz.prog 93=some ⟨95,3,56,[.sl [],.sl [],.int .i64 0]⟩:=by kernel_rfl
theorem UP:Hd Tryz.prog 37 2=some 2:=by kernel_rfl
theorem jJ:Program.underlying Tryz.prog 3=some (.int .i64):=by kernel_rfl
theorem Rk:DT Tryz.prog 23=true:=by kernel_rfl
theorem dW:DT Tryz.prog 93=true:=by kernel_rfl
theorem iW:D7 Tryz.prog 93=some (false,1):=by kernel_rfl
theorem iR:D7 Tryz.prog 95=some (true,3):=by kernel_rfl
theorem dN:D7 Tryz.prog 99=some (true,2):=by kernel_rfl
theorem jN:ID Tryz.prog 3=some [.int .i64 0]:=by kernel_rfl
theorem eQ:ID Tryz.prog 95=some [.zc,.zc,.int .i64 0]:=by kernel_rfl
theorem cr:ID Tryz.prog 99=some [.zc,.zc]:=by kernel_rfl
theorem Rs {oR:(List Int)}{oV:Int}{r:(List AM)×Int}(h0:I3 oR oV=some r):Ab Tryz.prog 86 [BJ] [DW oR oV] (λv st=>v=(ow 1 0 r.1)/\st=[DW oR r.2,IP r.1]):=by
 unfold I3 at h0;refine ai Tryz.func86 AA AA AA AA (zr tb AA AA (sr AA λK2 b4=>zq tb AA (bs h0 λa b5 h0=>F6 (rowsP:=[DW oR oV]) (rows0:=[DW oR oV]) (rows1:=[DW oR a.2]) (rows2:=[IP a.1]) (rows1':=[DW oR a.2]) (rows2':=[IP a.1]) (st':=[DW oR a.2,IP a.1]) (v':=(ow 1 0 a.1)) [0] AI (hb 87) (MB b5) rfl (by decide) rfl AA (.raw AA AA .nil) rfl AA (.raw AA AA .nil) (.pure (AD λ_=>AA) .nil) rfl AA (zq tb AA (dn b4 AA (sr AA λK4 b6=>zm tb 2 AA (zz (G8 a.1) (Cr Rk AA AA AA) rfl (bs h0 λc b7 h0=>CL (rows0:=[DW oR a.2]) (rows1:=[DW oR c.2]) (st':=[DW oR c.2,IP a.1]) (v':=(i64 c.1)) [0] AI (hb 83) (Ay b7) rfl (by decide) rfl AA (.raw AA AA .nil) rfl AA (.raw AA AA .nil) .nil AA AA (zq tb AA (dn b6 AA (AG λK6 b8=>bs h0 λo9 b h0=>?_)))))))))));have G:∀(f7:Int) (J:(List AM)),o9=(f7,J)->∀s,Wk 1 s ⟨89,Aa [(3,ow 1 0 J)],[DW oR f7,IP J]⟩->K6 s:=by
  intro f7 J hq s hw;subst o9;try dsimp only at h0
  refine b8 _ (AK hw (zr tb AA AA ?_));obtain rfl:=Sh.AB h0;exact rt [(2,ow 1 0 J)]
 refine sr AA λb9 K=>zq tb AA (bs b λe M b=>CL (rows0:=[DW oR c.2]) (rows1:=[DW oR e.2]) (st':=[DW oR e.2,IP a.1]) (v':=(i64 e.1)) [0] AI (hb 83) (Ay M) rfl (by decide) rfl AA (.raw AA AA .nil) rfl AA (.raw AA AA .nil) .nil AA AA (dn K AA (AU (zr tb AA AA ?_))));refine ci b AA ?_ ?_<;>clear b<;>intro c0 b
 ·refine AH AA (zm tb 3 AA (BF (m:=2) (l:=[(-1:Int),5,0,2]) (enc:=eI) AI BQ (by decide) rfl AA AA AA AA AA (AR (Wk.BL (L:=[(0,BJ),(3,ow 1 0 a.1),(15,ow 1 0 a.1),(16,i64 c.1),(17,BJ),(18,ls eI [(-1:Int),5,0,2])]) (st':=(YI oR e.2 a.1 [])) (id:=2) rfl nr (AD λ_=>AA) ⟨.rfl,.rfl,.rfl,.rfl,.rfl,.BL AA,jf⟩ AA) (bs b λf N b=>CL (rows0:=[DW oR e.2]) (rows1:=[DW oR f.2]) (st':=(YI oR f.2 a.1 [])) (v':=(i64 f.1)) [0] AI (hb 70) (CE N) rfl (by decide) rfl AA (.raw AA AA .nil) rfl AA (.raw AA AA .nil) .nil AA AA (zq tb AA (BF (m:=3) (l:=[(0:Int),1,5]) (enc:=eI) AI BQ (by decide) rfl AA AA AA AA AA (AR (Wk.BL (L:=[(3,ow 1 0 a.1),(15,ow 1 0 a.1),(16,i64 c.1),(19,i64 f.1),(20,BJ),(21,ls eI [(0:Int),1,5])]) (st':=((DW oR f.2)::(IP a.1)::Ci [])) (id:=3) rfl oC (AD λ_=>AA) ⟨.rfl,.rfl,.rfl,.rfl,.rfl,.BL AA,jf⟩ AA) (bs b λg O b=>CL (rows0:=[DW oR f.2]) (rows1:=[DW oR g.2]) (st':=((DW oR g.2)::(IP a.1)::Ci [])) (v':=(i64 g.1)) [0] AI (hb 70) (CE O) rfl (by decide) rfl AA (.raw AA AA .nil) rfl AA (.raw AA AA .nil) .nil AA AA (zz (.agg [i64 f.1,i64 g.1,.zc]) (C8 Lj Lf Gm AA AA) rfl (bs b λc1 C b=>zz (LR c.1) (Bz DH AA AA AA AA C) rfl (AR (Ag (L:=[(3,ow 1 0 a.1),(23,.agg [i64 f.1,i64 g.1,UF]),(24,LR c.1)]) ⟨.rfl,.agg ⟨.rfl,.rfl,.zc,jf⟩,.rfl,jf⟩) (KI (u':=(AM.mk f.1 g.1 [])) AI JY AA AA C AA AA AA nj rfl AA ?_))))))))))));exact AF (G g.2 (Sh.put a.1 c.1 (AM.mk f.1 g.1 [])) (Sh.AB b).symm _ (by refine Wk.trans (AT (L:=[(3,.own 1 0 (List.length a.1))]) (st':=[⟨0,72,2,[[.sl (List.map E4 oR),i64 g.2]]⟩,⟨0,80,3,List.map Aj (Sh.put a.1 c.1 (AM.mk f.1 g.1 []))⟩]) [0,1] AA (by decide) rfl AA (.raw AA AA (.pure (AD λ_=>AA) .nil)) ⟨.rfl,jf⟩) ?_;exact Ag (L:=[(3,.own 1 0 (List.length (Sh.put a.1 c.1 (AM.mk f.1 g.1 []))))]) ⟨(.len (by simp only[Sh.Ga])),jf⟩))
 ·refine zr tb AA AA ?_;refine ci b AA ?_ ?_<;>clear b<;>intro c2 b
  ·refine AH AA (zm tb 3 AA (BF (m:=2) (l:=[(-1:Int),0,4,5]) (enc:=eI) AI BQ (by decide) rfl AA AA AA AA AA (AR (Wk.BL (L:=(fL a.1 c.1 [(29,BJ),(30,ls eI [(-1:Int),0,4,5])])) (st':=(YI oR e.2 a.1 [])) (id:=2) rfl nr (AD λ_=>AA) ⟨.rfl,.rfl,.rfl,.rfl,.BL AA,jf⟩ AA) (bs b λh P b=>CL (rows0:=[DW oR e.2]) (rows1:=[DW oR h.2]) (st':=(YI oR h.2 a.1 [])) (v':=(i64 h.1)) [0] AI (hb 70) (CE P) rfl (by decide) rfl AA (.raw AA AA .nil) rfl AA (.raw AA AA .nil) .nil AA AA (BF (m:=3) (l:=[h.1]) (enc:=eI) AI BQ (by decide) rfl AA AA AA AA AA (AR (Wk.BL (L:=(fL a.1 c.1 [(32,ls eI [h.1])])) (st':=((DW oR h.2)::(IP a.1)::Ci [])) (id:=3) rfl oC (AD λ_=>AA) ⟨.rfl,.rfl,.rfl,.BL AA,jf⟩ AA) (bs b λk Q b=>zc (v':=(JN k)) (hb 117) (Dx Q) rfl AA AA (BF (m:=4) (l:=[(0:Int),0,0,0]) (enc:=eI) AI BQ (by decide) rfl AA AA AA AA AA (AR (Wk.BL (L:=(fL a.1 c.1 [(33,JN k),(34,ls eI [(0:Int),0,0,0])])) (st':=((DW oR h.2)::(IP a.1)::Ci [⟨1,3,1,[]⟩])) (id:=4) rfl nt (AD λ_=>AA) ⟨.rfl,.rfl,.rfl,.rfl,.BL AA,jf⟩ AA) (bs b λo R b=>zc (v':=(JN o)) (hb 117) (Dx R) rfl AA AA (BF (m:=5) (l:=([]:List Int)) (enc:=eI) AI BQ (by decide) rfl AA AA AA AA AA (AR (Wk.BL (L:=(fL a.1 c.1 [(33,JN k),(35,JN o),(36,Q6)])) (st':=((DW oR h.2)::(IP a.1)::Ci (Ci []))) (id:=5) rfl oD (AD λ_=>AA) ⟨.rfl,.rfl,.rfl,.rfl,.rfl,.BL AA,jf⟩ AA) (bs b λp S b=>zc (v':=(JN p)) (hb 117) (Dx S) rfl AA AA (BF (m:=6) (l:=[k,o,p]) (enc:=CC) AI Iw (by decide) rfl AA AA AA AA AA (zz (.agg [i64 0,i64 0,ow 6 0 [k,o,p]]) (C8 Lj Lf Gm AA AA) rfl (bs b λc3 D b=>zz (LR c.1) (Bz DH AA AA AA AA D) rfl (AR (Wk.BL (L:=[(3,ow 1 0 a.1),(39,.agg [i64 0,i64 0,ls CC [k,o,p]]),(40,LR c.1)]) (st':=((DW oR h.2)::(IP a.1)::Ci (Ci [Lq]))) (id:=6) rfl oH (AD λ_=>AA) ⟨.rfl,.agg ⟨.rfl,.rfl,.HR AA,jf⟩,.rfl,jf⟩ AA) (KI (u':=(AM.mk 0 0 [k,o,p])) AI JY AA AA D AA AA AA nj rfl AA ?_))))))))))))))))));exact AF (G h.2 (Sh.put a.1 c.1 (AM.mk 0 0 [k,o,p])) (Sh.AB b).symm _ (by refine Wk.trans (AT (L:=[(3,.own 1 0 (List.length a.1))]) (st':=[⟨0,72,2,[[.sl (List.map E4 oR),i64 h.2]]⟩,⟨0,80,3,List.map Aj (Sh.put a.1 c.1 (AM.mk 0 0 [k,o,p]))⟩]) [0,1] AA (by decide) rfl AA (.raw AA AA (.pure (AD λ_=>AA) .nil)) ⟨.rfl,jf⟩) ?_;exact Ag (L:=[(3,.own 1 0 (List.length (Sh.put a.1 c.1 (AM.mk 0 0 [k,o,p]))))]) ⟨(.len (by simp only[Sh.Ga])),jf⟩))
  ·refine zr tb AA AA ?_;refine ci b AA ?_ ?_<;>clear b<;>intro c4 b
   ·refine AH AA (zm tb 4 AA (BF (m:=2) (l:=[Sh.w (c.1+1)]) (enc:=eI) AI BQ (by decide) rfl AA AA AA AA AA (AR (Wk.BL (L:=[(3,ow 1 0 a.1),(43,ow 1 0 a.1),(44,i64 c.1),(47,ls eI [Sh.w (c.1+1)])]) (st':=(YI oR e.2 a.1 [])) (id:=2) rfl nr (AD λ_=>AA) ⟨.rfl,.rfl,.rfl,.BL AA,jf⟩ AA) (bs b λq T b=>zc (v':=(JN q)) (hb 117) (Dx T) rfl AA AA (BF (m:=3) (l:=[q]) (enc:=CC) AI Iw (by decide) rfl AA AA AA AA AA (zz (.agg [i64 0,i64 0,ow 3 0 [q]]) (C8 Lj Lf Gm AA AA) rfl (bs b λc5 E b=>zz (LR c.1) (Bz DH AA AA AA AA E) rfl (AR (Wk.BL (L:=[(3,ow 1 0 a.1),(50,.agg [i64 0,i64 0,ls CC [q]]),(51,LR c.1)]) (st':=(YI oR e.2 a.1 [Lq])) (id:=3) rfl oC (AD λ_=>AA) ⟨.rfl,.agg ⟨.rfl,.rfl,.HR AA,jf⟩,.rfl,jf⟩ AA) (KI (u':=(AM.mk 0 0 [q])) AI JY AA AA E AA AA AA nj rfl AA ?_)))))))));exact AF (G e.2 (Sh.put a.1 c.1 (AM.mk 0 0 [q])) (Sh.AB b).symm _ (by refine Wk.trans (AT (L:=[(3,.own 1 0 (List.length a.1))]) (st':=[⟨0,72,2,[[.sl (List.map E4 oR),i64 e.2]]⟩,⟨0,80,3,List.map Aj (Sh.put a.1 c.1 (AM.mk 0 0 [q]))⟩]) [0,1] AA (by decide) rfl AA (.raw AA AA (.pure (AD λ_=>AA) .nil)) ⟨.rfl,jf⟩) ?_;exact Ag (L:=[(3,.own 1 0 (List.length (Sh.put a.1 c.1 (AM.mk 0 0 [q]))))]) ⟨(.len (by simp only[Sh.Ga])),jf⟩))
   ·refine zr tb AA AA ?_;refine ci b AA ?_ ?_<;>clear b<;>intro c6 b
    ·refine AH AA (zm tb 2 AA (BF (m:=2) (l:=[(0:Int),2,1]) (enc:=eI) AI BQ (by decide) rfl AA AA AA AA AA (AR (Wk.BL (L:=[(54,ow 1 0 a.1),(55,BJ),(56,ls eI [(0:Int),2,1])]) (st':=(YI oR e.2 a.1 [])) (id:=2) rfl nr (AD λ_=>AA) ⟨.rfl,.rfl,.BL AA,jf⟩ AA) (bs b λn U b=>CL (rows0:=[DW oR e.2]) (rows1:=[DW oR n.2]) (st':=(YI oR n.2 a.1 [])) (v':=(i64 n.1)) [0] AI (hb 70) (CE U) rfl (by decide) rfl AA (.raw AA AA .nil) rfl AA (.raw AA AA .nil) .nil AA AA (zz (.agg [i64 2,i64 n.1,.zc]) (C8 Lj Lf Gm AA AA) rfl (AR (Ag (L:=[(54,ow 1 0 a.1),(58,.agg [i64 2,i64 n.1,UF])]) ⟨.rfl,.agg ⟨.rfl,.rfl,.zc,jf⟩,jf⟩) (BF (m:=3) (l:=([AM.mk 2 n.1 []])) (enc:=Aj) AI DH (by decide) rfl AA AA AA AA AA (bs b λH V b=>C9 (l2:=([AM.mk 2 n.1 []])) AI DH AA AA AA AA (HO AA AA) (λ_=>AA) V AA (zq tb AA ?_)))))))));exact AF (G n.2 H (Sh.AB b).symm _ (by refine Wk.trans (Dm (L:=[(3,ow 1 0 H)]) (st':=[DW oR n.2,IP H,⟨0,3,1,[]⟩,ro 0 80 3 Aj ([AM.mk 2 n.1 []])]) (.raw AA AA AA (.pure AA (AD λ_=>AA) (.pure AA (by intro x hx;cases hx) (.pure AA (AD λ_=>AA) .nil)))) (.same AA)) ?_;exact AT [0,1] AA (by decide) rfl AA (.raw AA AA (.pure (AD λ_=>AA) .nil)) (.same AA)))
    ·refine zr tb AA AA ?_;refine ci b AA ?_ ?_<;>clear b<;>intro c7 b
     ·refine AH AA (zm tb 3 AA (bs b λd W b=>CL (rows0:=[DW oR e.2]) (rows1:=[DW oR d.2]) (st':=[DW oR d.2,IP a.1]) (v':=(i64 d.1)) [0] AI (hb 83) (Ay W) rfl (by decide) rfl AA (.raw AA AA .nil) rfl AA (.raw AA AA .nil) .nil AA AA (BF (m:=2) (l:=([]:List Int)) (enc:=eI) AI BQ (by decide) rfl AA AA AA AA AA (AR (Wk.BL (L:=((0,BJ)::eU a.1 c.1 d.1 [(67,Q6)])) (st':=(YI oR d.2 a.1 [])) (id:=2) rfl nr (AD λ_=>AA) ⟨.rfl,.rfl,.rfl,.rfl,.rfl,.BL AA,jf⟩ AA) (bs b λt X b=>zc (v':=(JN t)) (hb 117) (Dx X) rfl AA AA (BF (m:=3) (l:=[(2:Int)]) (enc:=eI) AI BQ (by decide) rfl AA AA AA AA AA (AR (Wk.BL (L:=((0,BJ)::eU a.1 c.1 d.1 [(68,JN t),(69,ls eI [(2:Int)])])) (st':=((DW oR d.2)::(IP a.1)::Ci [])) (id:=3) rfl oC (AD λ_=>AA) ⟨.rfl,.rfl,.rfl,.rfl,.rfl,.rfl,.BL AA,jf⟩ AA) (bs b λy Y b=>zc (v':=(JN y)) (hb 117) (Dx Y) rfl AA AA (BF (m:=4) (l:=([]:List Int)) (enc:=eI) AI BQ (by decide) rfl AA AA AA AA AA (AR (Wk.BL (L:=((0,BJ)::eU a.1 c.1 d.1 [(68,JN t),(70,JN y),(71,Q6)])) (st':=((DW oR d.2)::(IP a.1)::Ci [⟨1,3,1,[]⟩])) (id:=4) rfl nt (AD λ_=>AA) ⟨.rfl,.rfl,.rfl,.rfl,.rfl,.rfl,.rfl,.BL AA,jf⟩ AA) (bs b λz Z b=>zc (v':=(JN z)) (hb 117) (Dx Z) rfl AA AA (BF (m:=5) (l:=([]:List Int)) (enc:=eI) AI BQ (by decide) rfl AA AA AA AA AA (AR (Wk.BL (L:=((0,BJ)::eU a.1 c.1 d.1 [(68,JN t),(70,JN y),(72,JN z),(73,Q6)])) (st':=((DW oR d.2)::(IP a.1)::Ci (Ci []))) (id:=5) rfl oD (AD λ_=>AA) ⟨.rfl,.rfl,.rfl,.rfl,.rfl,.rfl,.rfl,.rfl,.BL AA,jf⟩ AA) (bs b λA b0 b=>zc (v':=(JN A)) (hb 117) (Dx b0) rfl AA AA (BF (m:=6) (l:=[t,y,z,A]) (enc:=CC) AI Iw (by decide) rfl AA AA AA AA AA (zq tb AA (bs b λu b1 b=>CL (rows0:=[DW oR d.2]) (rows1:=[DW oR u.2]) (st':=((DW oR u.2)::(IP a.1)::Ci (Ci [ro 0 82 1 CC [t,y,z,A]]))) (v':=(i64 u.1)) [0] AI (hb 83) (Ay b1) rfl (by decide) rfl AA (.raw AA AA .nil) rfl AA (.raw AA AA .nil) .nil AA AA (AR (Wk.BL (L:=(eU a.1 c.1 d.1 [(75,ls CC [t,y,z,A]),(77,i64 u.1)])) (st':=((DW oR u.2)::(IP a.1)::Ci (Ci [Lq]))) (id:=6) rfl oH (AD λ_=>AA) ⟨.rfl,.rfl,.rfl,.rfl,.BL AA,.rfl,jf⟩ AA) (bs b λB b2 b=>RR (i:=u.1) (j:=Sh.len [t,y,z,A]) AI Iw AA AA AA (λ_=>AA) b2 (zz (.agg [i64 d.1,i64 0,ls CC B]) (C8 Lj Lf Gm AA AA) rfl (bs b λc8 F b=>zz (LR c.1) (Bz DH AA AA AA AA F) rfl (KI (u':=(AM.mk d.1 0 B)) AI JY AA AA F AA AA AA nj rfl AA ?_))))))))))))))))))))));exact AF (G u.2 (Sh.put a.1 c.1 (AM.mk d.1 0 B)) (Sh.AB b).symm _ (by refine Wk.trans (AT (L:=[(3,.own 1 0 (List.length a.1))]) (st':=[⟨0,72,2,[[.sl (List.map E4 oR),i64 u.2]]⟩,⟨0,80,3,List.map Aj (Sh.put a.1 c.1 (AM.mk d.1 0 B))⟩]) [0,1] AA (by decide) rfl AA (.raw AA AA (.pure (AD λ_=>AA) .nil)) ⟨.rfl,jf⟩) ?_;exact Ag (L:=[(3,.own 1 0 (List.length (Sh.put a.1 c.1 (AM.mk d.1 0 B))))]) ⟨(.len (by simp only[Sh.Ga])),jf⟩))
     ·refine zr tb AA AA ?_;refine ci b AA ?_ ?_<;>clear b<;>intro c9 b
      ·refine AH AA (zq tb AA (zz (.agg [i64 0,i64 0,.zc]) (C8 Lj Lf Gm AA AA) rfl (zz (.agg [i64 3,i64 0,.zc]) (C8 Lj Lf Gm AA AA) rfl (AR (Ag (L:=[(83,ow 1 0 a.1),(84,.agg [i64 0,i64 0,UF]),(85,.agg [i64 3,i64 0,.zc])]) ⟨.rfl,.agg ⟨.rfl,.rfl,.zc,jf⟩,.rfl,jf⟩) (AR (Ag (L:=[(83,ow 1 0 a.1),(84,.agg [i64 0,i64 0,UF]),(85,.agg [i64 3,i64 0,UF])]) ⟨.rfl,.rfl,.agg ⟨.rfl,.rfl,.zc,jf⟩,jf⟩) (BF (m:=2) (l:=([AM.mk 0 0 [],AM.mk 3 0 []])) (enc:=Aj) AI DH (by decide) rfl AA AA AA AA AA (bs b λI b3 b=>C9 (l2:=([AM.mk 0 0 [],AM.mk 3 0 []])) AI DH AA AA AA AA (HO AA AA) (λ_=>AA) b3 AA (zq tb AA ?_))))))));exact AF (G e.2 I (Sh.AB b).symm _ (by refine Wk.trans (Dm (L:=[(3,ow 1 0 I)]) (st':=[DW oR e.2,IP I,ro 0 80 3 Aj ([AM.mk 0 0 [],AM.mk 3 0 []])]) (.raw AA AA AA (.pure AA (AD λ_=>AA) (.pure AA (AD λ_=>AA) .nil))) (.same AA)) ?_;exact AT [0,1] AA (by decide) rfl AA (.raw AA AA (.pure (AD λ_=>AA) .nil)) (.same AA)))
      ·exact AL (G e.2 a.1 (Sh.AB b).symm _ (AJ AA))
theorem Ok {N:Nat}{oR:(List Int)}{oV:Int}{s1:(List Ac)}{oT:(List AM)}{r:AP×Int}(h0:G2 N oR oV s1 oT=some r):Ab Tryz.prog 53 [BJ,HM oT s1] [DW oR oV,Mb s1] (λv st=>v=(.agg [Ct r.1.decls,ow 1 1 r.1.funcs])/\st=[DW oR r.2,ro 1 37 5 BS r.1.funcs]):=by
 unfold G2 at h0;refine Ab.wk (r0:=(.agg [Ct r.1.decls,ow 1 1 r.1.funcs])) (st0:=(ee oR r.2 r.1.funcs r.1.decls [])) (ai Tryz.func53 AA AA AA AA (sr AA λX F=>Bf (m:=2) AI AA AA AA AA AA (Av (m:=3) AI Ix AA AA (dn F AA (sr AA λY G=>zm tb 3 AA (zz (G8 s1) (Cr Tp AA AA AA) rfl (bs h0 λc H h0=>CL (rows0:=[DW oR oV]) (rows1:=[DW oR c.2]) (st':=((DW oR c.2)::JW s1 oT [Ld])) (v':=(i64 c.1)) [0] AI (hb 83) (Ay H) rfl (by decide) rfl AA (.raw AA AA .nil) rfl AA (.raw AA AA .nil) .nil AA AA (zq tb AA (dn G AA (sr AA λZ I=>zm tb 3 AA (bs h0 λa j h0=>zz (LR c.1) (Bz Cu AA AA AA AA j) rfl (zz (Ft a) (Ar LA AA AA (CU j) nm rfl) rfl (Av (m:=4) AI Lg AA AA (Am AI LA AA AA AA AA AA AA nm rfl (AR (Wk.BL (L:=(fu c.1 a [])) (st':=((DW oR c.2)::JW s1 oT (Yv []))) (id:=4) rfl nv (EO AA) (.same AA) rfl) (dn I AA (AG λO J=>bs h0 λq e h0=>?_))))))))))))))))) (De (L:=[(0,.agg [Ct r.1.decls,ow 1 1 r.1.funcs])]) (st':=[DW oR r.2,ro 1 37 5 BS r.1.funcs]) [0,1] AA (by decide) rfl AA (.raw AA (.pure (AD λ_=>AA) jf)) (.same AA));have n:∀(E:Int) (o:(List Ac)) (p:(List AM)),q=(E,o,p)->∀s,Wk 2 s ⟨80,Aa [(3,CY),(4,HN)],ee oR E o p [Ld]⟩->O s:=by
  intro E o p hq s P;subst q;try dsimp only at h0
  refine J _ (AK P (sr AA λQ t=>zq tb AA (Am AI D8 AA AA AA AA AA AA nk rfl (dn t AA ?_))));obtain rfl:=Sh.AB h0;exact Aq (Exists.intro _ (And.intro ((AT (L:=[(4,CY)]) (st':=(ee oR E o p [])) [0,1,3] AA (by decide) rfl AA (.raw AA AA (.pure (AD λ_=>AA) (.raw AA AA .nil))) ⟨.rfl,jf⟩).trans (Ag (L:=[(4,CY)]) ⟨.rfl,jf⟩)) (Ar (x:=.tmp 4) (off:=0) (cs:=[Ct p,ow 1 1 o]) (vs:=[Ct p,ow 1 1 o]) D8 AA AA AA nk rfl _ ⟨AA,AA⟩)))
 refine sr AA λR u=>zq tb AA (bs e λf w e=>CL (rows0:=[DW oR c.2]) (rows1:=[DW oR f.2]) (st':=((DW oR f.2)::JW s1 oT (Yv []))) (v':=(i64 f.1)) [0] AI (hb 83) (Ay w) rfl (by decide) rfl AA (.raw AA AA .nil) rfl AA (.raw AA AA .nil) .nil AA AA (dn u AA (AU (zr tb AA AA ?_))));refine ci e AA ?_ ?_<;>clear e<;>intro S e
 ·refine AK (Dm (L:=(fu c.1 a [])) (st':=((DW oR f.2)::JW s1 oT [Ld,⟨0,37,5,[]⟩])) (.raw AA AA AA (.pure AA (AD λ_=>AA) (.raw AA AA AA (.raw AA AA AA (.pure AA (by intro x k;cases k) .nil))))) (.same AA)) ?_;refine Bd (JW s1 oT [Ld,⟨0,37,5,[]⟩]) 13 (by kernel_rfl) (by kernel_rfl) (by kernel_rfl) (by rfl) (BM (.ptr 2 0 0 1) AI AA (λ_ _=>E1 KP AA AA ns rfl) (BM (ow 1 0 s1) AI AA (λ_ _=>Bx Oc AA AA AA AA) (BM (i64 c.1) AI AA (λ_ _=>BT AA) (BM (.Bh (PF a) 0) AI AA (λ_ _=>IC RN AA AA) (BM (ls eI a.params) AI AA (λ_ _=>Hf JZ AA AA) (BM (.Bh (PF a) 1) AI AA (λ_ _=>IC Px AA AA) (BM (i64 a.result) AI AA (λ_ _=>Hf HV AA AA) (BM BJ AI AA (λ_ _=>BT AA) (BM (.Bh (PF a) 2) AI AA (λ_ _=>IC UP AA AA) (BM (YH a) AI AA (λ_ _=>HH BE AA nw rfl) (bs e λb y e=>Gd (rows0:=[DW oR f.2]) (rows1:=[DW oR b.2]) (v':=(DR b.1.op b.1.num b.1.kids)) (y0:=(DW oR b.2)) [0] AI (hb 84) (WN y) rfl (by decide) rfl AA (.raw AA AA .nil) rfl AA (λ_=>(.raw AA AA .nil)) (λ_=>AA) rfl (BM (.agg [ls eI a.params,i64 a.result,i64 b.1.op,i64 b.1.num,GV b.1.kids]) AI AA (λ_ _=>C8 Tb Tc Lg AA AA) (BM (LR c.1) AI AA (λ_ _=>Bz Cu AA AA AA AA j) (Ez AA (KI (u':=(Ac.mk a.params a.result b.1)) AI LA AA AA j AA AA AA nm rfl AA ?_)))))))))))))));exact AF (n b.2 (Sh.put s1 c.1 (Ac.mk a.params a.result b.1)) oT (Sh.AB e).symm _ (by refine Wk.trans (Fo (st:=[⟨0,72,2,[[.sl (List.map E4 oR),i64 b.2]]⟩,⟨0,37,5,List.map BS (Sh.put s1 c.1 (Ac.mk a.params a.result b.1))⟩,⟨0,26,2,[[.sl (List.map Aj oT),.own 1 0 (List.length s1)]]⟩,Ld,⟨0,37,5,[]⟩]) (st':=[⟨0,72,2,[[.sl (List.map E4 oR),i64 b.2]]⟩,⟨0,37,5,List.map BS (Sh.put s1 c.1 (Ac.mk a.params a.result b.1))⟩,⟨0,26,2,[[.sl (List.map Aj oT),.own 1 0 (List.length (Sh.put s1 c.1 (Ac.mk a.params a.result b.1)))]]⟩,Ld,⟨0,37,5,[]⟩]) (by simp only[Sh.Ga])) ?_;refine Wk.trans (MJ (L:=[(3,.ptr 2 0 0 0),(4,.ptr 3 0 0 0)]) (st':=[⟨0,72,2,[[.sl (List.map E4 oR),i64 b.2]]⟩,⟨1,37,5,List.map BS (Sh.put s1 c.1 (Ac.mk a.params a.result b.1))⟩,⟨0,26,2,[[.sl (List.map Aj oT),.own 1 1 (List.length (Sh.put s1 c.1 (Ac.mk a.params a.result b.1)))]]⟩,Ld,⟨0,37,5,[]⟩]) (st1:=[⟨0,72,2,[[.sl (List.map E4 oR),i64 b.2]]⟩,⟨0,37,5,List.map BS (Sh.put s1 c.1 (Ac.mk a.params a.result b.1))⟩,⟨0,26,2,[[.sl (List.map Aj oT),.own 1 1 (List.length (Sh.put s1 c.1 (Ac.mk a.params a.result b.1)))]]⟩,Ld,⟨0,37,5,[]⟩]) 1 AA (.raw AA AA (.pure (AD λ_=>AA) (.raw AA AA (.raw AA AA (.pure (by intro x k;cases k) .nil))))) rfl (.same AA)) ?_;exact AT [0,1,2,3] AA (by decide) rfl AA (.raw AA AA (.pure (AD λ_=>AA) (.raw AA AA (.raw AA AA .nil)))) (.same AA)))
 ·refine zr tb AA AA ?_;refine ci e AA ?_ ?_<;>clear e<;>intro T e
  ·refine AK (Dm (L:=(fu c.1 a [])) (st':=((DW oR f.2)::JW s1 oT [Ld,⟨0,37,5,[]⟩])) (.raw AA AA AA (.pure AA (AD λ_=>AA) (.raw AA AA AA (.raw AA AA AA (.pure AA (by intro x k;cases k) .nil))))) (.same AA)) ?_;refine Bd (JW s1 oT [Ld,⟨0,37,5,[]⟩]) 16 (by kernel_rfl) (by kernel_rfl) (by kernel_rfl) (by rfl) (BM (.ptr 2 0 0 1) AI AA (λ_ _=>E1 KP AA AA ns rfl) (BM (ow 1 0 s1) AI AA (λ_ _=>Bx Oc AA AA AA AA) (BM (i64 c.1) AI AA (λ_ _=>BT AA) (BM (.Bh (PF a) 0) AI AA (λ_ _=>IC RN AA AA) (BM (ls eI a.params) AI AA (λ_ _=>Hf JZ AA AA) (BM BJ AI AA (λ_ _=>BT AA) (FO AI (λK zz=>F3 (l:=[(0:Int),1,9,-1]) (enc:=eI) AI BQ (by decide) rfl AA AA AA AA (AD λ_=>AA) (Aw AA)) (bs e λi z e=>Gd (rows0:=[DW oR f.2]) (rows1:=[DW oR i.2]) (v':=(i64 i.1)) (y0:=(DW oR i.2)) [0] AI (hb 70) (CE z) rfl (by decide) rfl AA (.raw AA AA .nil) rfl AA (λ_=>(.raw AA AA .nil)) (λ_=>AA) rfl (FO AI (λK zz=>F3 (l:=[i.1]) (enc:=eI) AI BQ (by decide) rfl AA AA AA AA (AD λ_=>AA) (Aw AA)) (bs e λh A e=>?_))))))))));refine FO AI (λK zz=>BW (v:=(ls eI h)) AI (hb 85) (Ab.wk (FV A) (by refine Wk.trans (Wk.BL (L:=[(0,ls eI h)]) (st':=S9) (id:=0) rfl np (AD λ_=>AA) ⟨.BL AA,jf⟩ AA) ?_;exact AT [] AA (by decide) rfl AA .nil (.same AA))) rfl AA AA (Aw AA)) ?_;refine BM (.Bh (PF a) 1) AI AA (λ_ _=>IC Px AA AA) (BM (i64 a.result) AI AA (λ_ _=>Hf HV AA AA) (BM (.Bh (PF a) 2) AI AA (λ_ _=>IC UP AA AA) (BM (YH a) AI AA (λ_ _=>HH BE AA nw rfl) (BM (.agg [ls eI h,i64 a.result,i64 a.body.op,i64 a.body.num,ls Au a.body.kids]) AI AA (λ_ _=>C8 Tb Tc Lg AA AA) (BM (LR c.1) AI AA (λ_ _=>Bz Cu AA AA AA AA j) (Ez AA (KI (u':=(Ac.mk h a.result a.body)) AI LA AA AA j AA AA AA nm rfl AA ?_)))))));exact AF (n i.2 (Sh.put s1 c.1 (Ac.mk h a.result a.body)) oT (Sh.AB e).symm _ (by refine Wk.trans (Fo (st:=[⟨0,72,2,[[.sl (List.map E4 oR),i64 i.2]]⟩,⟨0,37,5,List.map BS (Sh.put s1 c.1 (Ac.mk h a.result a.body))⟩,⟨0,26,2,[[.sl (List.map Aj oT),.own 1 0 (List.length s1)]]⟩,Ld,⟨0,37,5,[]⟩]) (st':=[⟨0,72,2,[[.sl (List.map E4 oR),i64 i.2]]⟩,⟨0,37,5,List.map BS (Sh.put s1 c.1 (Ac.mk h a.result a.body))⟩,⟨0,26,2,[[.sl (List.map Aj oT),.own 1 0 (List.length (Sh.put s1 c.1 (Ac.mk h a.result a.body)))]]⟩,Ld,⟨0,37,5,[]⟩]) (by simp only[Sh.Ga])) ?_;refine Wk.trans (MJ (L:=[(3,.ptr 2 0 0 0),(4,.ptr 3 0 0 0)]) (st':=[⟨0,72,2,[[.sl (List.map E4 oR),i64 i.2]]⟩,⟨1,37,5,List.map BS (Sh.put s1 c.1 (Ac.mk h a.result a.body))⟩,⟨0,26,2,[[.sl (List.map Aj oT),.own 1 1 (List.length (Sh.put s1 c.1 (Ac.mk h a.result a.body)))]]⟩,Ld,⟨0,37,5,[]⟩]) (st1:=[⟨0,72,2,[[.sl (List.map E4 oR),i64 i.2]]⟩,⟨0,37,5,List.map BS (Sh.put s1 c.1 (Ac.mk h a.result a.body))⟩,⟨0,26,2,[[.sl (List.map Aj oT),.own 1 1 (List.length (Sh.put s1 c.1 (Ac.mk h a.result a.body)))]]⟩,Ld,⟨0,37,5,[]⟩]) 1 AA (.raw AA AA (.pure (AD λ_=>AA) (.raw AA AA (.raw AA AA (.pure (by intro x k;cases k) .nil))))) rfl (.same AA)) ?_;exact AT [0,1,2,3] AA (by decide) rfl AA (.raw AA AA (.pure (AD λ_=>AA) (.raw AA AA (.raw AA AA .nil)))) (.same AA)))
  ·refine zr tb AA AA ?_;refine ci e AA ?_ ?_<;>clear e<;>intro U e
   ·refine AK (Dm (L:=(fu c.1 a [])) (st':=((DW oR f.2)::JW s1 oT [Ld,⟨0,37,5,[]⟩])) (.raw AA AA AA (.pure AA (AD λ_=>AA) (.raw AA AA AA (.raw AA AA AA (.pure AA (by intro x k;cases k) .nil))))) (.same AA)) ?_;refine Bd (JW s1 oT [Ld,⟨0,37,5,[]⟩]) 12 (by kernel_rfl) (by kernel_rfl) (by kernel_rfl) (by rfl) (BM (.ptr 2 0 0 1) AI AA (λ_ _=>E1 KP AA AA ns rfl) (BM (ow 1 0 s1) AI AA (λ_ _=>Bx Oc AA AA AA AA) (BM (i64 c.1) AI AA (λ_ _=>BT AA) (BM (.Bh (PF a) 0) AI AA (λ_ _=>IC RN AA AA) (BM (ls eI a.params) AI AA (λ_ _=>Hf JZ AA AA) (BM BJ AI AA (λ_ _=>BT AA) (FO AI (λK zz=>F3 (l:=[(0:Int),1,3,5,-1]) (enc:=eI) AI BQ (by decide) rfl AA AA AA AA (AD λ_=>AA) (Aw AA)) (bs e λd B e=>Gd (rows0:=[DW oR f.2]) (rows1:=[DW oR d.2]) (v':=(i64 d.1)) (y0:=(DW oR d.2)) [0] AI (hb 70) (CE B) rfl (by decide) rfl AA (.raw AA AA .nil) rfl AA (λ_=>(.raw AA AA .nil)) (λ_=>AA) rfl (BM (.Bh (PF a) 2) AI AA (λ_ _=>IC UP AA AA) (BM (YH a) AI AA (λ_ _=>HH BE AA nw rfl) (BM (.agg [ls eI a.params,i64 d.1,i64 a.body.op,i64 a.body.num,ls Au a.body.kids]) AI AA (λ_ _=>C8 Tb Tc Lg AA AA) (BM (LR c.1) AI AA (λ_ _=>Bz Cu AA AA AA AA j) (Ez AA (KI (u':=(Ac.mk a.params d.1 a.body)) AI LA AA AA j AA AA AA nm rfl AA ?_))))))))))))));exact AF (n d.2 (Sh.put s1 c.1 (Ac.mk a.params d.1 a.body)) oT (Sh.AB e).symm _ (by refine Wk.trans (Fo (st:=[⟨0,72,2,[[.sl (List.map E4 oR),i64 d.2]]⟩,⟨0,37,5,List.map BS (Sh.put s1 c.1 (Ac.mk a.params d.1 a.body))⟩,⟨0,26,2,[[.sl (List.map Aj oT),.own 1 0 (List.length s1)]]⟩,Ld,⟨0,37,5,[]⟩]) (st':=[⟨0,72,2,[[.sl (List.map E4 oR),i64 d.2]]⟩,⟨0,37,5,List.map BS (Sh.put s1 c.1 (Ac.mk a.params d.1 a.body))⟩,⟨0,26,2,[[.sl (List.map Aj oT),.own 1 0 (List.length (Sh.put s1 c.1 (Ac.mk a.params d.1 a.body)))]]⟩,Ld,⟨0,37,5,[]⟩]) (by simp only[Sh.Ga])) ?_;refine Wk.trans (MJ (L:=[(3,.ptr 2 0 0 0),(4,.ptr 3 0 0 0)]) (st':=[⟨0,72,2,[[.sl (List.map E4 oR),i64 d.2]]⟩,⟨1,37,5,List.map BS (Sh.put s1 c.1 (Ac.mk a.params d.1 a.body))⟩,⟨0,26,2,[[.sl (List.map Aj oT),.own 1 1 (List.length (Sh.put s1 c.1 (Ac.mk a.params d.1 a.body)))]]⟩,Ld,⟨0,37,5,[]⟩]) (st1:=[⟨0,72,2,[[.sl (List.map E4 oR),i64 d.2]]⟩,⟨0,37,5,List.map BS (Sh.put s1 c.1 (Ac.mk a.params d.1 a.body))⟩,⟨0,26,2,[[.sl (List.map Aj oT),.own 1 1 (List.length (Sh.put s1 c.1 (Ac.mk a.params d.1 a.body)))]]⟩,Ld,⟨0,37,5,[]⟩]) 1 AA (.raw AA AA (.pure (AD λ_=>AA) (.raw AA AA (.raw AA AA (.pure (by intro x k;cases k) .nil))))) rfl (.same AA)) ?_;exact AT [0,1,2,3] AA (by decide) rfl AA (.raw AA AA (.pure (AD λ_=>AA) (.raw AA AA (.raw AA AA .nil)))) (.same AA)))
   ·refine zr tb AA AA ?_;refine ci e AA ?_ ?_<;>clear e<;>intro V e
    ·refine AH AA (zq tb AA (bs e λg C e=>F6 (rowsP:=[DW oR f.2]) (rows0:=[DW oR f.2]) (rows1:=[DW oR g.2]) (rows2:=[IP g.1]) (rows1':=[DW oR g.2]) (rows2':=[IP g.1]) (st':=((DW oR g.2)::JW s1 oT (Yv [IP g.1]))) (v':=(ow 5 0 g.1)) [0] AI (hb 86) (Rs C) rfl (by decide) rfl AA (.raw AA AA .nil) rfl AA (.raw AA AA .nil) (.pure (AD λ_=>AA) .nil) rfl AA (zq tb AA (AR (Wk.BL (L:=[(3,CY),(4,HN),(69,Ct g.1),(70,CY)]) (st':=((DW oR g.2)::JW s1 oT (Yv [NO]))) (id:=5) rfl ny (AD λ_=>AA) ⟨.rfl,.rfl,.BL AA,.rfl,jf⟩ AA) (Am AI YX AA AA AA AA AA AA ns rfl ?_)))));exact AF (n g.2 s1 g.1 (Sh.AB e).symm _ (by refine Wk.trans (MJ (L:=[(3,CY),(4,HN)]) (st':=(ee oR g.2 s1 g.1 (Yv [NO]))) (st1:=((DW oR g.2)::(Mb s1)::⟨0,26,2,[[Ct g.1,ow 1 1 s1]]⟩::Yv [NO])) 1 AA (.raw AA AA (.pure (AD λ_=>AA) (.raw AA AA (.raw AA AA (.pure (by intro x k;cases k) (.pure (by intro x k;cases k) .nil)))))) rfl (.same AA)) ?_;exact AT [0,1,2,3] AA (by decide) rfl AA (.raw AA AA (.pure (AD λ_=>AA) (.raw AA AA (.raw AA AA .nil)))) (.same AA)))
    ·refine zr tb AA AA ?_;refine ci e AA ?_ ?_<;>clear e<;>intro W e
     ·exact AH AA (zm tb 3 AA (BF (m:=5) (l:=[a]) (enc:=BS) AI Cu (by decide) rfl AA AA AA AA AA (bs e λM D e=>C9 (l2:=[a]) AI Cu AA AA AA AA (HO AA AA) (λ_=>AA) D AA (zq tb AA (Am AI Oc AA AA AA AA AA AA oB rfl (AF (n f.2 M oT (Sh.AB e).symm _ (AT [0,1,2,3] AA (by decide) rfl AA (.raw AA AA (.pure (AD λ_=>AA) (.raw AA AA (.raw AA AA .nil)))) (.same AA)))))))))
     ·exact AL (n f.2 s1 oT (Sh.AB e).symm _ (by refine Wk.trans (MJ (L:=[(3,CY),(4,HN)]) (st':=(ee oR f.2 s1 oT (Yv []))) (st1:=((DW oR f.2)::(Mb s1)::⟨0,26,2,[[Ct oT,ow 1 1 s1]]⟩::Yv [])) 1 AA (.raw AA AA (.pure (AD λ_=>AA) (.raw AA AA (.raw AA AA (.pure (by intro x k;cases k) .nil))))) rfl (.same AA)) ?_;exact AT [0,1,2,3] AA (by decide) rfl AA (.raw AA AA (.pure (AD λ_=>AA) (.raw AA AA (.raw AA AA .nil)))) (.same AA)))
theorem P9 {N:Nat}{oR:(List Int)}{oV:Int}{r:AP×Int}(h0:Ht N oR oV=some r):Ab Tryz.prog 25 [BJ] [DW oR oV] (λv st=>v=(HM r.1.decls r.1.funcs)/\st=[DW oR r.2,Mb r.1.funcs]):=by
 unfold Ht at h0;refine Ab.wk (r0:=(HM r.1.decls r.1.funcs)) (st0:=((DW oR r.2)::JW r.1.funcs r.1.decls [])) (ai Tryz.func25 AA AA AA AA (sr AA λg c=>Av (m:=1) AI Ix AA AA (dn c AA (sr AA λh d=>zm tb 2 AA (bs h0 λb e h0=>F6 (rowsP:=[DW oR oV]) (rows0:=[DW oR oV]) (rows1:=[DW oR b.2]) (rows2:=[Mb b.1.funcs]) (rows1':=[DW oR b.2]) (rows2':=[Mb b.1.funcs]) (st':=[DW oR b.2,Ld,Mb b.1.funcs]) (v':=(.agg [Ct b.1.decls,ow 2 0 b.1.funcs])) [0] AI (hb 54) (PT e) rfl (by decide) rfl AA (.raw AA AA .nil) rfl AA (.raw AA AA .nil) (.pure (AD λ_=>AA) .nil) rfl AA (bs h0 λa f h0=>CL (rows0:=[DW oR b.2,Mb b.1.funcs]) (rows1:=[DW oR a.2,ro 1 37 5 BS a.1.funcs]) (st':=[DW oR a.2,Ld,ro 1 37 5 BS a.1.funcs]) (v':=(.agg [Ct a.1.decls,ow 2 1 a.1.funcs])) [0,2] AI (hb 53) (Ok f) rfl (by decide) rfl AA (.raw AA AA (.pure (AD λ_=>AA) .nil)) rfl AA (.raw AA AA (.pure (AD λ_=>AA) .nil)) .nil AA AA (Am AI D8 AA AA AA AA AA AA nk rfl (dn d AA ?_)))))))) (De (L:=[(0,HM r.1.decls r.1.funcs)]) (st':=[DW oR r.2,Mb r.1.funcs]) [0,1] AA (by decide) rfl AA (.raw AA (.pure (AD λ_=>AA) jf)) (.same AA));obtain rfl:=Sh.AB h0;exact Aq (Exists.intro _ (And.intro (((Dm (L:=[(2,CS)]) (st':=[DW oR a.2,⟨0,26,2,[[Ct a.1.decls,ow 2 0 a.1.funcs]]⟩,Mb a.1.funcs]) (.raw AA AA AA (.raw AA AA AA (.pure AA (AD λ_=>AA) .nil))) (.same AA)).trans (Bj (L:=[(2,CY)]) (st':=((DW oR a.2)::JW a.1.funcs a.1.decls [])) (st1:=((DW oR a.2)::dt a.1.funcs a.1.decls [])) [0,2,1] AA (.raw AA AA .nil) (by decide) rfl AA (.raw AA AA (.pure (AD λ_=>AA) (.raw AA AA .nil))) (.same AA))).trans (Ag (L:=[(2,CY)]) (.same AA))) (Ar (x:=.tmp 2) (off:=0) (cs:=[Ct a.1.decls,ow 1 0 a.1.funcs]) (vs:=[Ct a.1.decls,ow 1 0 a.1.funcs]) D8 AA AA AA nk rfl _ ⟨AA,AA⟩)))
theorem SC {N:Nat}{p0:(List Int)}{r:AP}(h0:JG N p0=some r):Ab Tryz.prog 13 [ls E4 p0] [] (λv st=>v=(H7 r)/\st=[]):=by
 unfold JG at h0;refine Cj AA (ai Tryz.func13 AA AA AA AA (sr AA λg c=>Av (m:=0) AI Ix AA AA (dn c AA (sr AA λh d=>zq tb AA (bs h0 λb e h0=>CM (v':=CS) AI (hb 26) (Q2 e) rfl AA ⟨(EO AA).any,jf⟩ AA AA (bs h0 λa f h0=>F6 (rowsP:=[DW b.1 b.2]) (rows0:=[DW b.1 b.2]) (rows1:=[DW b.1 a.2]) (rows2:=[Mb a.1.funcs]) (rows1':=[DW b.1 a.2]) (rows2':=[Mb a.1.funcs]) (st':=[Ld,DW b.1 a.2,Mb a.1.funcs]) (v':=(.agg [Ct a.1.decls,ow 2 0 a.1.funcs])) [1] AI (hb 25) (P9 f) rfl (by decide) rfl AA (.raw AA AA .nil) rfl AA (.raw AA AA .nil) (.pure (AD λ_=>AA) .nil) rfl AA (AR (Wk.BL (L:=[(2,BJ),(5,.agg (Ou a.1.decls a.1.funcs))]) (st':=[Ld,DW b.1 a.2,⟨1,37,5,[]⟩]) (id:=2) rfl nz (AD λ_=>AA) ⟨.rfl,.agg ⟨.rfl,.HR AA,jf⟩,jf⟩ AA) (Am AI D8 AA AA AA AA AA AA nk rfl (dn d AA ?_)))))))));obtain rfl:=Sh.AB h0;exact Aq (Exists.intro _ (And.intro (Wk.refl _ _) (Ar (x:=.tmp 2) (off:=0) (cs:=(Ou a.1.decls a.1.funcs)) (vs:=(Ou a.1.decls a.1.funcs)) D8 AA AA AA nk rfl _ AA)))
theorem Jp {p0:(List AM)}{p1:Int}{r:Bool}(h0:HS p0 p1=some r):Ab Tryz.prog 111 [Ct p0,i64 p1] [] (λv st=>v=(.bool r)/\st=[]):=by
 unfold HS at h0;refine ai Tryz.func111 AA AA AA AA (zr tb AA AA (AG λg d=>bs h0 λe b h0=>?_));have f:∀(c:Bool),e=c->∀s,Wk 0 s ⟨13,Aa [(4,.bool c)],[]⟩->g s:=by
  intro c i s h;subst e;try dsimp only at h0
  refine d _ (AK h ?_);obtain rfl:=Sh.AB h0;exact rt [(4,.bool c)]
 refine AH AA (zm tb 3 AA ?_);rcases Sh.Ak b with ⟨a,b⟩|⟨a,b⟩
 ·exact zg tb a AA (zg tb a AA (Ba (v:=(G8 p0)) (CW AA AA a) rfl (Ch Rk AA) (zg tb a AA (zt a AA (zq tb AA (AF (f (decide (p1<=(Sh.len p0))) (Sh.AB b).symm _ (AJ AA))))))))
 ·refine zs a AA ?_;iterate 3 refine zs a rfl ?_
  exact zf a AA (zq tb AA (AF (f false (Sh.AB b).symm _ (AJ AA))))
theorem KL {N:Nat}{p0:(List AM)}{p1:(List Int)}{r:Bool}(h0:G1 N p0 p1=some r):Ab Tryz.prog 79 [Ct p0,ls eI p1] [] (λv st=>v=(.bool r)/\st=[]):=by
 unfold G1 at h0;refine ai Tryz.func79 AA AA AA AA (zr tb AA AA (AG λp i=>sr AA λC j=>zq tb AA (zl tb AA AA (zq tb AA (dn j AA ?_)))));obtain⟨k,a,h0⟩:=Sh.Bi h0;have q:∀(_:Unit),k=Sum.inr ()->∀s,Wk 0 s ⟨18,Aa [],[]⟩->p s:=by
  intro _ D s t;subst k;try dsimp only at h0
  refine i _ (AK t (zr tb AA AA ?_));obtain rfl:=Sh.AB h0;exact rt [(4,.bool true)]
 refine AU (Ax (σ:=Int) (λn v=>E8 p0 p1 n v=some k) (λl=>⟨18,Aa [(0,ls Aj p0),(7,ls eI p1),(8,i64 (Sh.len p1)),(9,i64 l)],[]⟩) N 0 a (AJ AA) (λ_ o=>by rw[E8]at o;cases o) ?_);rintro n l a;try dsimp only at a⊢
 rw[E8]at a;refine zr tb AA AA (AG λE m=>?_);refine ci a AA ?_ ?_<;>clear a<;>intro F a
 ·refine AL (m _ (AG λu b=>AU (sr AA λx c=>bs a λy d a=>zx BQ d AA AA AA (zm tb 2 AA (dn c AA (sr AA λz e=>zm tb 2 AA (bs a λf g a=>zc (hb 111) (Jp g) rfl AA AA (zq tb AA (dn e AA ?_)))))))));refine ci a AA ?_ ?_<;>clear a<;>intro h a
  ·have A:f=false:=by simpa using h
   refine zr tb AA AA ?_;obtain rfl:=Sh.AB a;try dsimp only[id]at h0
   obtain rfl:=Sh.AB h0;exact rt [(4,.bool false)]
  ·have B:f=true:=by simpa using h
   exact AL (b _ (AH AA (zm tb 2 AA (AF (xi (Sh.w (l+1)) a (AJ AA))))))
 ·exact BD (q () (Sh.AB a).symm _ (AJ AA))
theorem QG {N:Nat}{p0:(List AM)}{r:Bool}(h0:Hj N p0=some r):Ab Tryz.prog 110 [Ct p0] [] (λv st=>v=(.bool r)/\st=[]):=by
 unfold Hj at h0;refine ai Tryz.func110 AA AA AA AA (zr tb AA AA (AG λK2 c3=>sr AA λK3 c4=>zq tb AA (zl tb AA AA (zq tb AA (dn c4 AA ?_)))));refine ci h0 AA ?_ ?_<;>clear h0<;>intro b4 h0
 ·refine zr tb AA AA ?_;obtain rfl:=Sh.AB h0;exact rt [(2,.bool false)]
 ·refine AL (c3 _ (AG λK6 c5=>sr AA λK7 c6=>zq tb AA (zl tb AA AA (zq tb AA (dn c6 AA ?_)))));obtain⟨o9,d,h0⟩:=Sh.Bi h0;have M9:∀(_:Unit),o9=Sum.inr ()->∀s,Wk 0 s ⟨106,Aa [],[]⟩->K6 s:=by
   intro _ I s x;subst o9;try dsimp only at h0
   refine c5 _ (AK x (zr tb AA AA ?_));obtain rfl:=Sh.AB h0;exact rt [(2,.bool true)]
  refine AU (Ax (σ:=Int) (λn v=>ET N p0 n v=some o9) (λp=>⟨106,Aa [(0,ls Aj p0),(12,ls Aj p0),(13,i64 (Sh.len p0)),(14,i64 p)],[]⟩) N 0 d (AJ AA) (λ_ C=>by rw[ET]at C;cases C) ?_);rintro n p d;try dsimp only at d⊢
  rw[ET]at d;refine zr tb AA AA (AG λd6 J=>?_);refine ci d AA ?_ ?_<;>clear d<;>intro d7 d
  ·refine AL (J _ (AG λc7 K=>AU (sr AA λd8 L=>zq tb AA (bs d λb M d=>zx DH M AA AA AA (zq tb AA (Av (m:=0) AI Gm AA AA (zq tb AA (Am AI JY AA AA AA AA AA AA nj rfl (dn L AA (AG λd9 O=>AG λc8 P=>bs d λQ a d=>?_))))))))));have u:∀(D:Bool),Q=D->∀s,Wk 0 s ⟨106,Aa ((0,Ct p0)::(3,i64 p)::(4,BJ)::(12,Ct p0)::QQ p0 p [(52,.bool D)]),[Vd b]⟩->c8 s:=by
    intro D I s x;subst Q;try dsimp only at d
    refine P _ (AK x ?_);refine ci d AA ?_ ?_<;>clear d<;>intro g0 d
    ·refine zr tb AA AA ?_;obtain rfl:=Sh.AB d;try dsimp only[id]at h0
     obtain rfl:=Sh.AB h0;exact rd [(2,.bool false)]
    ·refine AL (O _ (AG λc9 R=>sr AA λg1 S=>zm tb 2 AA (zl tb AA AA (zq tb AA (dn S AA ?_)))));obtain⟨E,a,d⟩:=Sh.Bi d;have d1:∀(_:Unit),E=Sum.inr ()->∀s,Wk 0 s ⟨106,Aa ((0,Ct p0)::(3,i64 p)::(4,BJ)::(12,Ct p0)::QQ p0 p []),[Vd b]⟩->c9 s:=by
      intro _ I s x;subst E;try dsimp only at d
      refine R _ (AK x (sr AA λg2 T=>zm tb 2 AA (bs d λy U d=>RR (i:=0) (j:=p) AI DH AA AA AA (λ_=>AA) U (zl tb AA AA (zq tb AA (dn T AA ?_))))));obtain⟨F,a,d⟩:=Sh.Bi d;have d2:∀(_:Unit),F=Sum.inr ()->∀s,Wk 0 s ⟨106,Aa ((0,Ct p0)::(12,Ct p0)::QQ p0 p []),[]⟩->c7 s:=by
       intro _ I s x;subst F;try dsimp only at d
       exact K _ (AK x (AH AA (zm tb 2 AA (AF (xi (Sh.w (p+1)) d (AJ AA))))))
      refine AU (Ax (σ:=Int) (λn v=>Dt b y n v=some F) (λz=>⟨106,Aa [(0,ls Aj p0),(4,.ptr 0 0 0 0),(12,ls Aj p0),(13,i64 (Sh.len p0)),(14,i64 p),(74,ls Aj y),(75,i64 (Sh.len y)),(76,i64 z)],[⟨0,80,3,[Aj b]⟩]⟩) N 0 a (AJ AA) (λ_ C=>by rw[Dt]at C;cases C) ?_);rintro n z a;try dsimp only at a⊢
      rw[Dt]at a;refine zr tb AA AA (AG λg3 V=>?_);refine ci a AA ?_ ?_<;>clear a<;>intro g4 a
      ·refine AL (V _ (AG λg5 W=>AU (sr AA λg6 X=>bs a λY Z a=>zx DH Z AA AA AA (zq tb AA (Av (m:=1) AI Gm AA AA (Am AI JY AA AA AA AA AA AA nj rfl (dn X AA (AG λd3 b0=>bs a λb1 f a=>?_))))))));have A:∀(G:Bool),b1=G->∀s,Wk 0 s ⟨106,Aa ((0,Ct p0)::(4,BJ)::(12,Ct p0)::QQ p0 p [(74,Ct y),(75,G8 y),(76,i64 z),(103,.bool G)]),[Vd b]⟩->d3 s:=by
        intro G I s x;subst b1;try dsimp only at a
        refine b0 _ (AK x ?_);refine ci a AA ?_ ?_<;>clear a<;>intro g7 a
        ·refine zr tb AA AA ?_;obtain rfl:=Sh.AB a;try dsimp only[id]at d
         obtain rfl:=Sh.AB d;try dsimp only[id]at h0
         obtain rfl:=Sh.AB h0;exact rd [(2,.bool false)]
        ·exact AL (W _ (AH AA (zm tb 2 AA (AF (xi (Sh.w (z+1)) a (AJ AA))))))
       refine AH AA (zm tb 2 AA (zl tb AA AA (zm tb 2 AA ?_)));rcases Sh.Ak f with ⟨k,f⟩|⟨k,f⟩
       ·refine zg tb k AA (zg tb k AA (Ba (v:=(i64 (Sh.len Y.cons))) (CW AA AA k) rfl (Ch Pa AA) (zg tb k AA (zt k AA (zq tb AA ?_)))));rcases Sh.Ak f with ⟨q,f⟩|⟨q,f⟩
        ·refine zg tb q AA ?_;iterate 4 refine zg tb q rfl ?_
         refine zt q AA (zq tb AA ?_);rcases Sh.Ak f with ⟨t,f⟩|⟨t,f⟩
         ·refine zg tb t AA ?_;iterate 4 refine zg tb t rfl ?_
          exact zt t AA (AF (A (decide (Y.to=b.to)) (Sh.AB f).symm _ (AT [0] AA (by decide) rfl AA (.raw AA AA .nil) (.same AA))))
         ·refine zs t AA ?_;iterate 4 refine zs t rfl ?_
          exact zf t AA (AF (A false (Sh.AB f).symm _ (AT [0] AA (by decide) rfl AA (.raw AA AA .nil) (.same AA))))
        ·refine zs q AA ?_;iterate 4 refine zs q rfl ?_
         refine zf q AA (zq tb AA ?_);iterate 5 refine zs rfl rfl ?_
         exact zf AA AA (AF (A false (Sh.AB f).symm _ (AT [0] AA (by decide) rfl AA (.raw AA AA .nil) (.same AA))))
       ·refine zs k AA ?_;iterate 3 refine zs k rfl ?_
        refine zf k AA (zq tb AA ?_);iterate 5 refine zs rfl rfl ?_
        refine zf AA AA (zq tb AA ?_);iterate 5 refine zs rfl rfl ?_
        exact zf AA AA (AF (A false (Sh.AB f).symm _ (AT [0] AA (by decide) rfl AA (.raw AA AA .nil) (.same AA))))
      ·exact BD (d2 () (Sh.AB a).symm _ (Bn _ AA))
     refine AU (Ax (σ:=Int) (λn v=>Dq N b p0 n v=some E) (λB=>⟨106,Aa [(0,ls Aj p0),(3,i64 p),(4,.ptr 0 0 0 0),(12,ls Aj p0),(13,i64 (Sh.len p0)),(14,i64 p),(54,ls CC b.cons),(55,i64 (Sh.len b.cons)),(56,i64 B)],[⟨0,80,3,[Aj b]⟩]⟩) N 0 a (AJ AA) (λ_ C=>by rw[Dq]at C;cases C) ?_);rintro n B a;try dsimp only at a⊢
     rw[Dq]at a;refine zr tb AA AA (AG λg8 b2=>?_);refine ci a AA ?_ ?_<;>clear a<;>intro g9 a
     ·refine AL (b2 _ (AG λh4 b3=>AU (sr AA λh5 b5=>bs a λh6 b6 a=>zx Iw b6 AA AA AA (zq tb AA (Av (m:=1) AI QV AA AA (Am AI OZ AA AA AA AA AA AA nq rfl (dn b5 AA (AG λd4 b7=>bs a λb8 f a=>?_))))))));have b9:∀(H:Bool),b8=H->∀s,Wk 0 s ⟨106,Aa ((0,Ct p0)::(3,i64 p)::(4,BJ)::(12,Ct p0)::QQ p0 p [(54,ls CC b.cons),(55,i64 (Sh.len b.cons)),(56,i64 B),(70,.bool H)]),[Vd b]⟩->d4 s:=by
       intro H I s x;subst b8;try dsimp only at a
       refine b7 _ (AK x ?_);refine ci a AA ?_ ?_<;>clear a<;>intro h7 a
       ·refine zr tb AA AA ?_;obtain rfl:=Sh.AB a;try dsimp only[id]at d
        obtain rfl:=Sh.AB d;try dsimp only[id]at h0
        obtain rfl:=Sh.AB h0;exact rd [(2,.bool false)]
       ·exact AL (b3 _ (AH AA (zm tb 2 AA (AF (xi (Sh.w (B+1)) a (AJ AA))))))
      refine AH AA (zm tb 2 AA (zl tb AA AA (zm tb 2 AA ?_)));rcases Sh.Ak f with ⟨g,f⟩|⟨g,f⟩
      ·refine zs g AA ?_;iterate 4 refine zs g rfl ?_
       exact zt g AA (AF (b9 true (Sh.AB f).symm _ (AT [0] AA (by decide) rfl AA (.raw AA AA .nil) (.same AA))))
      ·exact zg tb g AA (zg tb g AA (zg tb g AA (bs f λd5 c0 f=>zd g (hb 79) (KL c0) rfl AA AA AA (zg tb g AA (zf g AA (AF (b9 (!d5) (Sh.AB f).symm _ (AT [0] AA (by decide) rfl AA (.raw AA AA .nil) (.same AA)))))))))
     ·exact BD (d1 () (Sh.AB a).symm _ (AJ AA))
   refine AH AA (zm tb 3 AA (bs a λh8 c1 a=>zc (hb 111) (Jp c1) rfl AA AA (zm tb 2 AA ?_)));rcases Sh.Ak a with ⟨h,a⟩|⟨h,a⟩
   ·refine zs h AA ?_;iterate 4 refine zs h rfl ?_
    refine zt h AA (zq tb AA ?_);iterate 4 refine zs rfl rfl ?_
    refine zt AA AA (zq tb AA ?_);iterate 5 refine zs rfl rfl ?_
    iterate 8 refine zn rfl ?_
    exact zs AA AA (zt AA AA (AF (u true (Sh.AB a).symm _ (AJ AA))))
   ·refine zg tb h AA (zg tb h AA (zg tb h AA (bs a λh9 c2 a=>zd h (hb 111) (Jp c2) rfl AA AA AA (zg tb h AA (zf h AA (zq tb AA ?_))))));rcases Sh.Ak a with ⟨l,a⟩|⟨l,a⟩
    ·refine zs l AA ?_;iterate 3 refine zs l rfl ?_
     refine zt l AA (zq tb AA ?_);iterate 5 refine zs rfl rfl ?_
     iterate 8 refine zn rfl ?_
     exact zs AA AA (zt AA AA (AF (u true (Sh.AB a).symm _ (AJ AA))))
    ·refine zg tb l AA (zg tb l AA (Ba (v:=(i64 (Sh.len b.cons))) (CW AA AA l) rfl (Ch Pa AA) (zg tb l AA (zf l AA (zq tb AA ?_)))));rcases Sh.Ak a with ⟨c,a⟩|⟨c,a⟩
     ·refine zs c AA ?_;iterate 4 refine zs c rfl ?_
      iterate 8 refine zn rfl ?_
      exact zs c AA (zt c AA (AF (u true (Sh.AB a).symm _ (AJ AA))))
     ·refine zg tb c AA (zg tb c AA (Ba (v:=(i64 (Sh.len b.cons))) (CW AA AA c) rfl (Ch Pa AA) (zg tb c AA (zg tb c AA ?_))));rcases Sh.Ak a with ⟨e,a⟩|⟨e,a⟩
      ·refine zg tb e AA ?_;iterate 3 refine zg tb e rfl ?_
       rcases Sh.Ak a with ⟨o,a⟩|⟨o,a⟩
       ·exact zs o AA (zs o AA (zs o AA (Ba (v:=(.bool true)) (CW AA AA e) rfl (KV AA o AA) (Ba (v:=(.bool true)) (CW AA AA c) rfl (KV AA e AA) (zf c AA (AF (u true (Sh.AB a).symm _ (AJ AA))))))))
       ·exact zg tb o AA (zg tb o AA (zg tb o AA (Ba (v:=(.bool (!decide (b.to=0)))) (CW AA AA e) rfl (Kx AA o AA) (Ba (v:=(.bool (!decide (b.to=0)))) (CW AA AA c) rfl (KV AA e AA) (zf c AA (AF (u (!decide (b.to=0)) (Sh.AB a).symm _ (AJ AA))))))))
      ·refine zs e AA ?_;iterate 3 refine zs e rfl ?_
       iterate 3 refine zn rfl ?_
       exact zs e AA (Ba (v:=(.bool false)) (CW AA AA c) rfl (Kx AA e AA) (zf c AA (AF (u false (Sh.AB a).symm _ (AJ AA)))))
  ·exact BD (M9 () (Sh.AB d).symm _ (AJ AA))
theorem Qy {N:Nat}{p0:(List AM)}{p1:(List Bt)}{r:Bool}(h0:IT N p0 p1=some r):Ab Tryz.prog 78 [Ct p0,ls CD p1] [] (λv st=>v=(.bool r)/\st=[]):=by
 unfold IT at h0;refine ai Tryz.func78 AA AA AA AA (zr tb AA AA (AG λK2 b3=>AG λK3 b4=>bs h0 λo5 a h0=>?_));have G:∀(t4:Bool),o5=t4->∀s,Wk 0 s ⟨102,Aa [(0,Ct p0),(1,ls CD p1),(36,.bool t4)],[]⟩->K3 s:=by
  intro t4 hq s u;subst o5;try dsimp only at h0
  refine b4 _ (AK u ?_);refine ci h0 AA ?_ ?_<;>clear h0<;>intro b6 h0
  ·refine zr tb AA AA ?_;obtain rfl:=Sh.AB h0;exact rt [(4,.bool false)]
  ·refine AL (b3 _ (AG λK8 b5=>sr AA λK9 b7=>zq tb AA (zl tb AA AA (zq tb AA (dn b7 AA ?_)))));obtain⟨A,a,h0⟩:=Sh.Bi h0;have b8:∀(_:Unit),A=Sum.inr ()->∀s,Wk 0 s ⟨102,Aa [],[]⟩->K8 s:=by
    intro _ hq s u;subst A;try dsimp only at h0
    refine b5 _ (AK u (zr tb AA AA ?_));obtain rfl:=Sh.AB h0;exact rt [(4,.bool true)]
   refine AU (Ax (σ:=Int) (λn v=>EF N p0 p1 n v=some A) (λq=>⟨102,Aa [(0,ls Aj p0),(37,ls CD p1),(38,i64 (Sh.len p1)),(39,i64 q)],[]⟩) N 0 a (AJ AA) (λ_ H=>by rw[EF]at H;cases H) ?_);rintro n q a;try dsimp only at a⊢
   rw[EF]at a;refine zr tb AA AA (AG λc5 I=>?_);refine ci a AA ?_ ?_<;>clear a<;>intro c6 a
   ·refine AL (I _ (AG λb9 J=>AU (sr AA λc7 K=>bs a λc L a=>zx Qc L AA AA AA (zq tb AA (Av (m:=0) AI eQ AA AA (Am AI iR AA AA AA AA AA AA nj rfl (dn K AA (AG λc8 M=>AG λc0 O=>bs a λP b a=>?_))))))));have B:∀(C:Bool),P=C->∀s,Wk 0 s ⟨102,Aa [(0,Ct p0),(6,BJ),(37,ls CD p1),(38,G8 p1),(39,i64 q),(60,.bool C)],[⟨0,95,3,[[ls eI c.params,ls eI c.Fv,i64 c.result]]⟩]⟩->c0 s:=by
     intro C hq s u;subst P;try dsimp only at a
     refine O _ (AK u ?_);refine ci a AA ?_ ?_<;>clear a<;>intro c9 a
     ·refine zr tb AA AA ?_;obtain rfl:=Sh.AB a;try dsimp only[id]at h0
      obtain rfl:=Sh.AB h0;exact rd [(4,.bool false)]
     ·refine AL (M _ (sr AA λd1 Q=>zm tb 2 AA (zl tb AA AA (zq tb AA (dn Q AA ?_)))));obtain⟨D,b,a⟩:=Sh.Bi a;have c1:∀(_:Unit),D=Sum.inr ()->∀s,Wk 0 s ⟨102,Aa [(0,Ct p0),(37,ls CD p1),(38,G8 p1),(39,i64 q)],[]⟩->b9 s:=by
       intro _ hq s u;subst D;try dsimp only at a
       exact J _ (AK u (AH AA (zm tb 2 AA (AF (xi (Sh.w (q+1)) a (AJ AA))))))
      refine AU (Ax (σ:=Int) (λn v=>EA c n v=some D) (λx=>⟨102,Aa [(0,ls Aj p0),(6,.ptr 0 0 0 0),(37,ls CD p1),(38,i64 (Sh.len p1)),(39,i64 q),(62,ls eI c.Fv),(63,i64 (Sh.len c.Fv)),(64,i64 x)],[⟨0,95,3,[[ls eI c.params,ls eI c.Fv,i64 c.result]]⟩]⟩) N 0 b (AJ AA) (λ_ H=>by rw[EA]at H;cases H) ?_);rintro n x b;try dsimp only at b⊢
      rw[EA]at b;refine zr tb AA AA (AG λd2 R=>?_);refine ci b AA ?_ ?_<;>clear b<;>intro d3 b
      ·refine AL (R _ (AG λd4 S=>AU (sr AA λd5 T=>zq tb AA (bs b λU V b=>zx BQ V AA AA AA (zm tb 3 AA (dn T AA (AG λc2 W=>bs b λX g b=>?_)))))));have t:∀(E:Bool),X=E->∀s,Wk 0 s ⟨102,Aa [(0,Ct p0),(6,BJ),(37,ls CD p1),(38,G8 p1),(39,i64 q),(62,ls eI c.Fv),(63,i64 (Sh.len c.Fv)),(64,i64 x),(99,.bool E)],[⟨0,95,3,[[ls eI c.params,ls eI c.Fv,i64 c.result]]⟩]⟩->c2 s:=by
        intro E hq s u;subst X;try dsimp only at b
        refine W _ (AK u ?_);refine ci b AA ?_ ?_<;>clear b<;>intro d6 b
        ·refine zr tb AA AA ?_;obtain rfl:=Sh.AB b;try dsimp only[id]at a
         obtain rfl:=Sh.AB a;try dsimp only[id]at h0
         obtain rfl:=Sh.AB h0;exact rd [(4,.bool false)]
        ·exact AL (S _ (AH AA (zm tb 2 AA (AF (xi (Sh.w (x+1)) b (AJ AA))))))
       refine AH AA (zm tb 3 AA ?_);rcases Sh.Ak g with ⟨h,g⟩|⟨h,g⟩
       ·refine zs h AA ?_;iterate 4 refine zs h rfl ?_
        refine zt h AA (zq tb AA ?_);iterate 6 refine zs rfl rfl ?_
        refine zt AA AA (zq tb AA ?_);iterate 3 refine zs rfl rfl ?_
        iterate 8 refine zn rfl ?_
        exact zs AA AA (zt AA AA (AF (t true (Sh.AB g).symm _ (AJ AA))))
       ·refine zg tb h AA (zg tb h AA (zg tb h AA (Ba (v:=(i64 (Sh.len c.params))) (CW AA AA h) rfl (Ch Fp AA) (zg tb h AA (zf h AA (zq tb AA ?_))))));rcases Sh.Ak g with ⟨e,g⟩|⟨e,g⟩
        ·refine zs e AA ?_;iterate 5 refine zs e rfl ?_
         refine zt e AA (zq tb AA ?_);iterate 3 refine zs rfl rfl ?_
         iterate 8 refine zn rfl ?_
         exact zs AA AA (zt AA AA (AF (t true (Sh.AB g).symm _ (AJ AA))))
        ·refine zg tb e AA (zg tb e AA (zg tb e AA (bs g λc3 Y g=>Ba (v:=(.Bh (eI c3) 0)) (CW AA AA e) rfl (Cg BQ AA AA Y AA) (zg tb e AA (zg tb e AA (zf e AA (zq tb AA ?_)))))));rcases Sh.Ak g with ⟨d,g⟩|⟨d,g⟩
         ·refine zs d AA (zs d AA (zs d AA ?_));iterate 8 refine zn rfl ?_
          exact zs d AA (zt d AA (AF (t true (Sh.AB g).symm _ (AJ AA))))
         ·refine zg tb d AA (zg tb d AA (zg tb d AA ?_));rcases Sh.Ak g with ⟨i,g⟩|⟨i,g⟩
          ·refine zg tb i AA ?_;iterate 4 refine zg tb i rfl ?_
           exact bs g λF Z g=>Ba (v:=(.Bh (eI F) 0)) (CW AA AA i) rfl (Cg BQ AA AA Z AA) (zg tb i AA (zg tb i AA (Ba (v:=(.bool (decide (U<=F)))) (CW AA AA d) rfl (KV AA i AA) (zf d AA (AF (t (decide (U<=F)) (Sh.AB g).symm _ (AJ AA)))))))
          ·refine zs i AA ?_;iterate 7 refine zs i rfl ?_
           exact Ba (v:=(.bool false)) (CW AA AA d) rfl (Kx AA i AA) (zf d AA (AF (t false (Sh.AB g).symm _ (AJ AA))))
      ·exact BD (c1 () (Sh.AB b).symm _ (Bn _ AA))
    refine AH AA (zm tb 2 AA (zl tb AA AA (zm tb 2 AA ?_)));rcases Sh.Ak b with ⟨j,b⟩|⟨j,b⟩
    ·refine zs j AA ?_;iterate 4 refine zs j rfl ?_
     refine zt j AA (zq tb AA ?_);iterate 5 refine zs rfl rfl ?_
     exact zt AA AA (AF (B true (Sh.AB b).symm _ (AJ AA)))
    ·refine zg tb j AA (zg tb j AA (zg tb j AA (bs b λd7 b0 b=>zd j (hb 79) (KL b0) rfl AA AA AA (zg tb j AA (zf j AA (zq tb AA ?_))))));rcases Sh.Ak b with ⟨k,b⟩|⟨k,b⟩
     ·refine zs k AA ?_;iterate 4 refine zs k rfl ?_
      exact zt k AA (AF (B true (Sh.AB b).symm _ (AJ AA)))
     ·exact zg tb k AA (zg tb k AA (zg tb k AA (bs b λc4 b1 b=>zd k (hb 111) (Jp b1) rfl AA AA AA (zg tb k AA (zf k AA (AF (B (!c4) (Sh.AB b).symm _ (AJ AA))))))))
   ·exact BD (b8 () (Sh.AB a).symm _ (AJ AA))
 refine AH AA (zq tb AA (bs a λd8 b2 a=>zc (hb 110) (QG b2) rfl AA AA (zm tb 2 AA ?_)));rcases Sh.Ak a with ⟨l,a⟩|⟨l,a⟩
 ·refine zs l AA (zs l AA (zs l AA (zt l AA (zq tb AA ?_))));iterate 3 refine zs rfl rfl ?_
  refine zt AA AA (zq tb AA ?_);iterate 6 refine zs rfl rfl ?_
  refine zt AA AA (zq tb AA ?_);iterate 5 refine zs rfl rfl ?_
  exact zt AA AA (AF (G true (Sh.AB a).symm _ (AJ AA)))
 ·refine zg tb l AA (Ba (v:=(G8 p1)) (CW AA AA l) rfl (Ch dW AA) (zg tb l AA (zf l AA (zq tb AA ?_))));rcases Sh.Ak a with ⟨o,a⟩|⟨o,a⟩
  ·refine zs o AA (zs o AA (zs o AA (zt o AA (zq tb AA ?_))));iterate 6 refine zs rfl rfl ?_
   refine zt AA AA (zq tb AA ?_);iterate 5 refine zs rfl rfl ?_
   exact zt AA AA (AF (G true (Sh.AB a).symm _ (AJ AA)))
  ·refine zg tb o AA (Ba (v:=(G8 p1)) (CW AA AA o) rfl (Ch dW AA) (zg tb o AA (zf o AA (zq tb AA ?_))));rcases Sh.Ak a with ⟨f,a⟩|⟨f,a⟩
   ·refine zs f AA ?_;iterate 5 refine zs f rfl ?_
    refine zt f AA (zq tb AA ?_);iterate 5 refine zs rfl rfl ?_
    exact zt AA AA (AF (G true (Sh.AB a).symm _ (AJ AA)))
   ·refine zg tb f AA (bs a λy z a=>Ba (v:=(.Bh (CD y) 0)) (CW AA AA f) rfl (Cg Qc AA AA z AA) (zg tb f AA (zg tb f AA (Ba (v:=(i64 (Sh.len y.params))) (CW AA AA f) rfl (Ch Fp AA) (zg tb f AA (zf f AA (zq tb AA ?_)))))));rcases Sh.Ak a with ⟨p,a⟩|⟨p,a⟩
    ·refine zs p AA ?_;iterate 4 refine zs p rfl ?_
     exact zt p AA (AF (G true (Sh.AB a).symm _ (AJ AA)))
    ·refine zg tb p AA (Ba (v:=(.Bh (CD y) 0)) (CW AA AA p) rfl (Cg Qc AA AA z AA) ?_);iterate 3 refine zg tb p rfl ?_
     exact zf p AA (AF (G (!decide (y.result=0)) (Sh.AB a).symm _ (AJ AA)))
theorem MG {N:Nat}{p0:AP}{r:Bool}(h0:HB N p0=some r):Ab Tryz.prog 47 [H7 p0] [] (λv st=>v=(.bool r)/\st=[]):=by
 unfold HB at h0;refine ai Tryz.func47 AA AA AA AA (sr AA λO u=>Bf (m:=0) AI AA AA AA AA AA (zq tb AA (dn u AA (sr AA λP x=>bz (c:=4) (m:=1) (st':=[cO p0.decls p0.funcs,ro 0 95 3 CD ([]:List Bt)]) Qc AA AA AA AA AA (zq tb AA (dn x AA (AG λQ y=>sr AA λR z=>zm tb 2 AA (zl tb AA AA (zq tb AA (dn z AA ?_))))))))));refine ci h0 AA ?_ ?_<;>clear h0<;>intro S h0
 ·refine zr tb AA AA ?_;obtain rfl:=Sh.AB h0;exact rd [(2,.bool false)]
 ·refine AL (y _ (AG λF A=>sr AA λT B=>zm tb 2 AA (zl tb AA AA (zq tb AA (dn B AA (bs h0 λf b h0=>?_))))));have C:∀(d:(List Bt)),f=d->∀s,Wk 0 s ⟨31,Aa [(1,BJ),(3,ow 1 0 d)],[cO p0.decls p0.funcs,ro 0 95 3 CD d]⟩->F s:=by
   intro d U s G;subst f;try dsimp only at h0
   refine A _ (AK G (sr AA λH h=>zm tb 3 AA (AR (Wk.BL (L:=[(28,ls Aj p0.decls),(29,ls CD d)]) (st':=[cO p0.decls p0.funcs,⟨1,95,3,[]⟩]) (id:=1) rfl oE (AD λ_=>AA) ⟨.rfl,.BL AA,jf⟩ AA) (bs h0 λD i h0=>zc (hb 78) (Qy i) rfl AA AA (zq tb AA (dn h AA ?_))))));obtain rfl:=Sh.AB h0;exact rd [(2,.bool D)]
  refine AU (Ax (σ:=Int×(List Bt)) (λn v=>Dk p0 n v.1 v.2=some f) (λ(j,e)=>⟨31,Aa [(1,.ptr 0 0 0 0),(3,ow 1 0 e),(12,ls BS p0.funcs),(13,i64 (Sh.len p0.funcs)),(14,i64 j)],[cO p0.decls p0.funcs,ro 0 95 3 CD e]⟩) N (0,[]) b (AJ AA) (λ_ E=>by rw[Dk]at E;cases E) ?_);rintro n ⟨j,e⟩ b;try dsimp only at b⊢
  rw[Dk]at b;refine zr tb AA AA (AG λI k=>?_);refine ci b AA ?_ ?_<;>clear b<;>intro J b
  ·refine AL (k _ (AG λK o=>AU (sr AA λM p=>bs b λa q b=>zx Cu q AA AA AA (zq tb AA (Av (m:=2) AI Lg AA AA (Am AI LA AA AA AA AA AA AA nm rfl (dn p AA (AH AA (zm tb 5 AA (zz (.agg [ls eI a.params,.zc,i64 a.result]) (C8 fv fw eQ AA AA) rfl (AR (Ag (L:=[(1,BJ),(12,Zf p0),(13,i64 (Sh.len p0.funcs)),(14,i64 j),(18,ow 1 0 e),(23,.agg [ls eI a.params,Q6,i64 a.result])]) ⟨.rfl,.rfl,.rfl,.rfl,.rfl,.agg ⟨.rfl,.zc,.rfl,jf⟩,jf⟩) (BF (m:=3) (l:=([Bt.mk a.params [] a.result])) (enc:=CD) AI Qc (by decide) rfl AA AA AA AA AA (bs b λg t b=>C9 (l2:=([Bt.mk a.params [] a.result])) AI Qc AA AA AA AA (HO AA AA) (λ_=>AA) t AA (zq tb AA (dn o AA (AH AA (zm tb 2 AA ?_)))))))))))))))));exact AF (xi (Sh.w (j+1),g) b (by refine Wk.trans (EX (L:=[(1,BJ),(3,ow 1 0 g),(12,Zf p0),(13,i64 (Sh.len p0.funcs)),(14,KA j)]) (st':=[cO p0.decls p0.funcs,ro 0 95 3 CD g,⟨0,37,5,[PF a]⟩,ro 0 95 3 CD ([Bt.mk a.params [] a.result])]) (.raw AA AA (.pure (AD λ_=>AA) (.raw AA AA (.pure (AD λ_=>AA) .nil)))) (.same AA)) ?_;exact AT [0,1] AA (by decide) rfl AA (.raw AA AA (.pure (AD λ_=>AA) .nil)) (.same AA)))
  ·exact BD (C e (Sh.AB b).symm _ (AJ AA))
theorem Oq {N:Nat}{ov:Int->AE->Option (Bool×Int)}(qR :∀{oR:Int} {p0:AE} {r:Bool×Int},ov oR p0=some r->Ab Tryz.prog 34 [Bc p0,BJ] [QD oR] (λv st=>v=(.bool r.1)/\st=[QD r.2])){oR:Int}{p0:AE}{r:Bool×Int}(h0:IB N ov oR p0=some r):Ab Tryz.prog 34 [Bc p0,BJ] [QD oR] (λv st=>v=(.bool r.1)/\st=[QD r.2]):=by
 unfold IB at h0;refine ai Tryz.func34 AA AA AA AA (sr AA λK p=>Bf (m:=1) AI AA AA AA AA AA (zq tb AA (dn p AA (AG λM q=>sr AA λO t=>zm tb 5 AA (Am AI HV AA AA AA AA AA AA nq rfl (dn t AA (zr tb AA AA ?_)))))));refine ci h0 AA ?_ ?_<;>clear h0<;>intro P h0
 ·refine zr tb AA AA ?_;obtain rfl:=Sh.AB h0;exact Aq (xr (AT (L:=[(4,.bool false)]) (st':=[⟨0,3,1,[[KA oR]]⟩]) [0] AA (by decide) rfl AA (.raw AA AA .nil) ⟨.rfl,jf⟩))
 ·refine AL (q _ (AG λB u=>sr AA λQ x=>zm tb 2 AA (zl tb AA AA (zq tb AA (dn x AA ?_)))));obtain⟨e,a,h0⟩:=Sh.Bi h0;have y:∀(f:Int),e=Sum.inr f->∀s,Wk 1 s ⟨28,Aa [],[QD f]⟩->B s:=by
   intro f R s C;subst e;try dsimp only at h0
   refine u _ (AK C (zr tb AA AA ?_));obtain rfl:=Sh.AB h0;exact rt [(4,.bool true)]
  refine AU (Ax (σ:=Int×Int) (λn v=>DM p0 ov n v.1 v.2=some e) (λ(z,c)=>⟨28,Aa [(1,.ptr 0 0 0 0),(17,ls Au p0.kids),(18,i64 (Sh.len p0.kids)),(19,i64 z)],[QD c]⟩) N (0,Sh.w (oR+1)) a (AT [0] AA (by decide) rfl AA (.raw AA AA .nil) (.same AA)) (λ_ A=>by rw[DM]at A;cases A) ?_);rintro n ⟨z,c⟩ a;try dsimp only at a⊢
  rw[DM]at a;refine zr tb AA AA (AG λD g=>?_);refine ci a AA ?_ ?_<;>clear a<;>intro E a
  ·refine AL (g _ (AG λF h=>AU (sr AA λG i=>bs a λd j a=>zz (Da d) (By BU AA AA j (Ai _) rfl) rfl (zq tb AA (Av (m:=1) AI DF AA AA (Am AI BE AA AA AA AA AA AA nj rfl (dn i AA (sr AA λH k=>zm tb 2 AA (bs a λb l a=>CL (rows0:=[QD c]) (rows1:=[QD b.2]) (st':=[QD b.2,iJ d.op d.num d.kids]) (v':=(.bool b.1)) [0] AI (hb 34) (qR l) rfl (by decide) rfl AA (.raw AA AA .nil) rfl AA (.raw AA AA .nil) .nil AA AA (zq tb AA (dn k AA ?_)))))))))));refine ci a AA ?_ ?_<;>clear a<;>intro o a
   ·have I:b.1=false:=by simpa using o
    refine zr tb AA AA ?_;obtain rfl:=Sh.AB a;try dsimp only[id]at h0
    obtain rfl:=Sh.AB h0;exact Aq (xr (AT (L:=[(4,.bool false)]) (st':=[QD b.2]) [0] AA (by decide) rfl AA (.raw AA AA .nil) ⟨.rfl,jf⟩))
   ·have J:b.1=true:=by simpa using o
    exact AL (h _ (AH AA (zm tb 2 AA (AF (xi (Sh.w (z+1),b.2) a (AT [0] AA (by decide) rfl AA (.raw AA AA .nil) (.same AA)))))))
  ·exact BD (y c (Sh.AB a).symm _ (AJ AA))
theorem Ol {N:Nat}:∀(n:Nat),∀{oR:Int} {p0:AE} {r:Bool×Int},Et N n oR p0=some r->Ab Tryz.prog 34 [Bc p0,BJ] [QD oR] (λv st=>v=(.bool r.1)/\st=[QD r.2]):=by
 intro n
 induction n with
 | zero=>intro oR p0 r a;cases a
 | succ n ih=>
  intro oR p0 r a;rw[Et]at a;exact Oq (λh=>ih h) a
theorem P5 {N:Nat}:∀{oR:Int} {p0:AE} {r:Bool×Int},Kn N oR p0=some r->Ab Tryz.prog 34 [Bc p0,BJ] [QD oR] (λv st=>v=(.bool r.1)/\st=[QD r.2]):=by
 intro oR p0 r a;exact Ol N a
theorem Nd {N:Nat}{p0:AE}{r:Int}(h0:Ib N p0=some r):Ab Tryz.prog 12 [Bc p0] [] (λv st=>v=(i64 r)/\st=[]):=by
 unfold Ib at h0;refine ai Tryz.func12 AA AA AA AA (sr AA λh b=>Bf (m:=0) AI AA AA AA AA AA (zq tb AA (dn b AA (sr AA λi c=>Av (m:=1) AI jN AA AA (Am AI HV AA AA AA AA AA AA nq rfl (dn c AA (AG λj d=>sr AA λk e=>zq tb AA (bs h0 λa f h0=>CL (rows0:=[⟨0,3,1,[[i64 0]]⟩]) (rows1:=[QD a.2]) (st':=[iJ p0.op p0.num p0.kids,QD a.2]) (v':=(.bool a.1)) [1] AI (hb 34) (P5 f) rfl (by decide) rfl AA (.raw AA AA .nil) rfl AA (.raw AA AA .nil) .nil AA AA (zq tb AA (dn e AA ?_))))))))));refine ci h0 AA ?_ ?_<;>clear h0<;>intro g h0
 ·have l:a.1=false:=by simpa using g
  refine zr tb AA AA ?_;obtain rfl:=Sh.AB h0;exact rd [(2,i64 (-1))]
 ·have n:a.1=true:=by simpa using g
  refine AL (d _ (zr tb AA AA ?_));obtain rfl:=Sh.AB h0;exact rd [(2,i64 a.2)]
theorem Od {N:Nat}{p0:AP}{r:BO}(h0:KX N p0=some r):Ab Tryz.prog 80 [H7 p0] [] (λv st=>v=(Jy r)/\st=[]):=by
 unfold KX at h0;refine Cj AA (ai Tryz.func80 AA AA AA AA (sr AA λI p=>Bf (m:=0) AI AA AA AA AA AA (Av (m:=1) AI cr AA AA (dn p AA (sr AA λJ q=>zm tb 2 AA (zz (.agg [ls Aj p0.decls,.zc]) (C8 iX ic cr AA AA) rfl (Av (m:=2) AI cr AA AA (Am AI dN AA AA AA AA AA AA nk rfl (dn q AA (AG λB t=>sr AA λK u=>zm tb 2 AA (zl tb AA AA (zq tb AA (dn u AA (bs h0 λy b h0=>?_))))))))))))));have C:∀(c:(List Bt)),y=c->∀s,Wk 0 s ⟨28,Aa [(2,BJ),(3,CS)],[aP,⟨0,99,2,[[ls Aj p0.decls,ow 2 0 c]]⟩,ro 0 95 3 CD c]⟩->B s:=by
  intro c M s D;subst y;try dsimp only at h0
  refine t _ (AK D (sr AA λO z=>zq tb AA (AR (Wk.BL (L:=[(2,BJ),(27,.agg [ls Aj p0.decls,ls CD c])]) (st':=[aP,⟨0,99,2,[[ls Aj p0.decls,ow 2 0 c]]⟩,⟨1,95,3,[]⟩]) (id:=2) rfl nz (AD λ_=>AA) ⟨.rfl,.agg ⟨.rfl,.HR AA,jf⟩,jf⟩ AA) (Am AI dN AA AA AA AA AA AA nk rfl (dn z AA ?_)))));obtain rfl:=Sh.AB h0;exact Aq (Exists.intro _ (And.intro (Wk.refl _ _) (Ar (x:=.tmp 2) (off:=0) (cs:=[ls Aj p0.decls,ls CD c]) (vs:=[ls Aj p0.decls,ls CD c]) dN AA AA AA nk rfl _ AA)))
 refine AU (Ax (σ:=Int×(List Bt)) (λn v=>FQ p0 n v.1 v.2=some y) (λ(e,f)=>⟨28,Aa [(2,.ptr 0 0 0 0),(3,.ptr 1 0 0 0),(10,ls BS p0.funcs),(11,i64 (Sh.len p0.funcs)),(12,i64 e)],[aP,⟨0,99,2,[[ls Aj p0.decls,ow 2 0 f]]⟩,ro 0 95 3 CD f]⟩) N (0,[]) b (by refine Wk.trans (JR (id:=2) (st':=[cO p0.decls p0.funcs,aP,⟨0,99,2,[[ls Aj p0.decls,.own 3 0 (List.length ([]:List Bt))]]⟩,ro 0 95 3 CD ([]:List Bt)]) (j:=1) rfl AA 95 (size':=3) (by decide) rfl AA AA AA) ?_;exact Bj (L:=[(2,.ptr 0 0 0 0),(3,.ptr 1 0 0 0),(10,ls BS p0.funcs),(11,i64 (Sh.len p0.funcs)),(12,i64 0)]) (st':=[aP,⟨0,99,2,[[ls Aj p0.decls,.own 2 0 (List.length ([]:List Bt))]]⟩,ro 0 95 3 CD ([]:List Bt)]) (st1:=[aP,⟨0,99,2,[[ls Aj p0.decls,.own 3 0 (List.length ([]:List Bt))]]⟩,ro 0 95 3 CD ([]:List Bt)]) [1,2,3] AA .nil (by decide) rfl AA (.raw AA AA (.raw AA AA (.pure (AD λ_=>AA) .nil))) (.same AA)) (λ_ A=>by rw[FQ]at A;cases A) ?_);rintro n ⟨e,f⟩ b;try dsimp only at b⊢
 rw[FQ]at b;refine zr tb AA AA (AG λE g=>?_);refine ci b AA ?_ ?_<;>clear b<;>intro F b
 ·refine AL (g _ (AG λG h=>AU (sr AA λH i=>bs b λa k b=>zx Cu k AA AA AA (zq tb AA (Av (m:=3) AI Lg AA AA (Am AI LA AA AA AA AA AA AA nm rfl (dn i AA (AH AA (zm tb 6 AA (zz (.agg [ls eI a.params,.zc,i64 a.result]) (C8 fv fw eQ AA AA) rfl (AR (Ag (L:=[(2,BJ),(3,CS),(10,Zf p0),(11,i64 (Sh.len p0.funcs)),(12,i64 e),(17,ow 2 0 f),(22,.agg [ls eI a.params,Q6,i64 a.result])]) ⟨.rfl,.rfl,.rfl,.rfl,.rfl,.rfl,.agg ⟨.rfl,.zc,.rfl,jf⟩,jf⟩) (BF (m:=4) (l:=([Bt.mk a.params [] a.result])) (enc:=CD) AI Qc (by decide) rfl AA AA AA AA AA (bs b λd o b=>C9 (l2:=([Bt.mk a.params [] a.result])) AI Qc AA AA AA AA (HO AA AA) (λ_=>AA) o AA (zq tb AA (Am AI iW AA AA AA AA AA AA oB rfl (dn h AA (AH AA (zm tb 2 AA ?_))))))))))))))))));exact AF (xi (Sh.w (e+1),d) b (by refine Wk.trans (EX (L:=[(2,BJ),(3,CS),(10,Zf p0),(11,i64 (Sh.len p0.funcs)),(12,KA e)]) (st':=[aP,⟨0,99,2,[[ls Aj p0.decls,ow 2 0 d]]⟩,ro 0 95 3 CD d,⟨0,37,5,[PF a]⟩,ro 0 95 3 CD ([Bt.mk a.params [] a.result])]) (.raw AA AA (.raw AA AA (.pure (AD λ_=>AA) (.raw AA AA (.pure (AD λ_=>AA) .nil))))) (.same AA)) ?_;exact AT [0,1,2] AA (by decide) rfl AA (.raw AA AA (.raw AA AA (.pure (AD λ_=>AA) .nil))) (.same AA)))
 ·exact BD (C f (Sh.AB b).symm _ (AJ AA))
theorem Co {p0:(List Int)}{r:(List Int)}(h0:CP p0=some r):Ab Tryz.prog 82 [ls eI p0] [] (λv st=>v=(ow 0 0 r)/\st=[Bl r]):=by
 unfold CP at h0;refine ai Tryz.func82 AA AA AA AA (zr tb AA AA (AG λh c=>sr AA λi a=>zq tb AA ?_));refine UM AI Fp AA (λg=>?_) ?_
 ·subst g;replace h0:some []=some r:=by rw[<- h0];first|rfl|simp[Sh.app]
  refine dn a AA (GN (b:=true) rfl (λ_=>zr tb AA AA ?_) (λq=>nomatch (show true=false from (AA:true=true).symm.trans q)));obtain rfl:=Sh.AB h0;exact Aq (Exists.intro _ (And.intro (((JD (t:=2) rfl 3 (size:=1) (by decide)).trans (Ag (L:=[(2,cQ)]) (.same AA))).trans (Ag (L:=[(2,cQ)]) (.same AA))) (And.intro AA AA)))
 ·refine dn a AA (GN (b:=false) rfl (λq=>nomatch (show false=true from (AA:false=false).symm.trans q)) (λ_=>AL (c _ (sr AA λj d=>BF (m:=0) (l:=([]:List Int)) (enc:=eI) AI BQ (by decide) rfl AA AA AA AA AA (zq tb AA (bs h0 λf e h0=>C9 (l2:=p0) AI BQ AA AA AA AA Lh (λ_=>AA) e AA (zq tb AA (dn d AA ?_))))))));obtain rfl:=Sh.AB h0;exact Aq (xr (EX (L:=[(2,ow 0 0 f)]) (st':=[Bl f]) (.pure (AD λ_=>AA) .nil) (.same AA)))
theorem Nx {p1:Int}{r:(List Int)}(h0:GM p1=some r):Ab Tryz.prog 137 [.zc,i64 p1] [] (λv st=>v=(ow 0 0 r)/\st=[Bl r]):=by
 unfold GM at h0;refine ai Tryz.func137 AA AA AA AA (zr tb AA AA (AG λp f=>zr tb AA AA ?_));refine ci h0 AA ?_ ?_<;>clear h0<;>intro q h0
 ·refine AH AA ?_;cases h0
 ·refine AL (f _ (AG λn g=>bs h0 λk a h0=>?_));have l:∀(c:(List Int)),k=c->∀s,Wk 0 s ⟨27,Aa [(0,ow 0 0 c)],[Bl c]⟩->n s:=by
   intro c w s o;subst k;try dsimp only at h0
   refine g _ (AK o (zr tb AA AA ?_));obtain rfl:=Sh.AB h0;exact rt [(4,ow 0 0 c)]
  refine sr AA λx h=>zm tb 2 AA (YS Fp AA (zq tb AA (zz (i64 0) (ZB Fp AA) rfl (zm tb 3 AA (dn h AA (zr tb AA AA ?_))))));refine ci a AA ?_ ?_<;>clear a<;>intro i a
  ·exact AH AA (zm tb 2 AA (YS Fp AA (fp BQ AA AA (zq tb AA (bs a λj d a=>db (u:=0) (enc:=eI) (m:=0) (st':=[Bl j]) BQ jJ AA AA i AA d AA AA (zq tb AA (zz (i64 0) (ZB Fp AA) rfl (bs a λb e a=>bM AI BQ AA AA AA AA e AA (zq tb AA (AF (l b (Sh.AB a).symm _ (EX (L:=[(0,ow 0 0 b)]) (st':=[Bl b]) (.pure (AD λ_=>AA) .nil) (.same AA)))))))))))))
  ·exact AL (l [] (Sh.AB a).symm _ ((JD (t:=0) rfl 3 (size:=1) (by decide)).trans (Ag (L:=[(0,cQ)]) (.same AA))))
theorem Fx {N:Nat}{p0:(List (List Int))}{r:(List Int)}(h0:Fi N p0=some r):Ab Tryz.prog 130 [ls (eS eI) p0] [] (λv st=>v=(ow 0 0 r)/\st=[Bl r]):=by
 unfold Fi at h0;refine ai Tryz.func130 AA AA AA AA ?_;iterate 2 refine zr tb rfl rfl ?_
 refine AG λO C=>sr AA λK4 D=>zq tb AA (zl tb AA AA (zq tb AA (dn D AA (bs h0 λE a h0=>?_))));have P:∀(c:Int),E=c->∀s,Wk 0 s ⟨36,Aa [(0,ls (eS eI) p0),(3,i64 c)],[]⟩->O s:=by
  intro c Q s F;subst E;try dsimp only at h0
  refine C _ (AK F (sr AA λK9 G=>zq tb AA (bs h0 λi j h0=>CM (v':=(ow 0 0 i)) AI (hb 137) (Nx j) rfl AA ⟨(CQ λ_=>AA),jf⟩ AA AA (zq tb AA (dn G AA (AG λH k=>sr AA λR l=>zq tb AA (zl tb AA AA (zq tb AA (dn l AA (bs h0 λg a h0=>?_))))))))));have I:∀(d:(List Int)),g=d->∀s,Wk 0 s ⟨36,Aa [(6,ow 0 0 d)],[Bl d]⟩->H s:=by
   intro d Q s F;subst g;try dsimp only at h0
   refine k _ (AK F (zr tb AA AA ?_));obtain rfl:=Sh.AB h0;exact rt [(2,ow 0 0 d)]
  refine AU (Ax (σ:=Int×(List Int)) (λn v=>Ce p0 n v.1 v.2=some g) (λ(e,f)=>⟨36,Aa [(6,ow 0 0 f),(25,ls (eS eI) p0),(26,i64 (Sh.len p0)),(27,i64 e)],[ro 0 3 1 eI f]⟩) N (0,i) a (AJ AA) (λ_ m=>by rw[Ce]at m;cases m) ?_);rintro n ⟨e,f⟩ a;try dsimp only at a⊢
  rw[Ce]at a;refine zr tb AA AA (AG λS o=>?_);refine ci a AA ?_ ?_<;>clear a<;>intro T a
  ·exact AL (o _ (AG λU p=>AU (sr AA λV q=>bs a λJ t a=>zx NK t AA AA AA (zm tb 2 AA (dn q AA (AH AA (zm tb 2 AA (bs a λh u a=>C9 (l2:=J) AI BQ AA AA AA AA Lh (λ_=>AA) u AA (zq tb AA (dn p AA (AH AA (zm tb 2 AA (AF (xi (Sh.w (e+1),h) a (EX (L:=[(6,ow 0 0 h),(25,ls (eS eI) p0),(26,G8 p0),(27,KA e)]) (st':=[Bl h]) (.pure (AD λ_=>AA) .nil) (.same AA))))))))))))))))
  ·exact BD (I f (Sh.AB a).symm _ (AJ AA))
 refine AU (Ax (σ:=Int×Int) (λn v=>Cf p0 n v.1 v.2=some E) (λ(b,K)=>⟨36,Aa [(0,ls (eS eI) p0),(3,i64 b),(9,ls (eS eI) p0),(10,i64 (Sh.len p0)),(11,i64 K)],[]⟩) N (0,0) a (AJ AA) (λ_ m=>by rw[Cf]at m;cases m) ?_);rintro n ⟨b,K⟩ a;try dsimp only at a⊢
 rw[Cf]at a;refine zr tb AA AA (AG λW x=>?_);refine ci a AA ?_ ?_<;>clear a<;>intro X a
 ·refine AL (x _ (AG λY y=>AU (sr AA λZ z=>bs a λM A a=>zx NK A AA AA AA (zm tb 2 AA (dn z AA (sr AA λb0 B=>zm tb 2 AA (zl tb AA AA (zm tb 2 AA (dn B AA (zr tb AA AA ?_))))))))));refine ci a AA ?_ ?_<;>clear a<;>intro b1 a
  ·refine AH AA ?_;cases a
  ·exact AL (y _ (AH AA (zm tb 2 AA (AF (xi (Sh.w (b+(Sh.len M)),Sh.w (K+1)) a (AJ AA))))))
 ·exact BD (P b (Sh.AB a).symm _ (AJ AA))
theorem Io {N:Nat}{oW:(List Int)->BO->AE->Option (Int)}(oa :∀{s0:(List Int)} {p0:BO} {p2:AE} {r:Int},oW s0 p0 p2=some r->Ab Tryz.prog 81 [Jy p0,ow 0 0 s0,Bc p2] [Bl s0] (λv st=>v=(i64 r)/\st=[Bl s0])){p0:BO}{p1:(List Int)}{p2:(List AE)}{p3:(List (List Int))}{r:Int}(h0:EN N oW p0 p1 p2 p3=some r):Ab Tryz.prog 112 [Jy p0,ls eI p1,GV p2,ls (eS eI) p3] [] (λv st=>v=(i64 r)/\st=[]):=by
 unfold EN at h0;refine ai Tryz.func112 AA AA AA AA (sr AA λK1 Q=>Bf (m:=0) AI AA AA AA AA AA (zq tb AA (dn Q AA (zr tb AA AA (AG λX R=>sr AA λK4 S=>zq tb AA (zl tb AA AA (zq tb AA (dn S AA ?_))))))));obtain⟨T,o,h0⟩:=Sh.Bi h0;have Y:∀(qT:Int),T=Sum.inr qT->∀s,Wk 0 s ⟨44,Aa [(9,i64 qT)],[]⟩->X s:=by
  intro qT hq s U;subst T;try dsimp only at h0
  refine R _ (AK U (zr tb AA AA ?_));obtain rfl:=Sh.AB h0;exact rt [(8,i64 qT)]
 refine AU (Ax (σ:=Int×Int) (λn v=>Bg N p0 p1 p2 p3 oW n v.1 v.2=some T) (λ(pJ,e)=>⟨44,Aa [(1,ls eI p1),(3,ls (eS eI) p3),(4,.ptr 0 0 0 0),(9,i64 pJ),(13,ls Au p2),(14,i64 (Sh.len p2)),(15,i64 e)],[⟨0,99,2,[GB p0]⟩]⟩) N (-1,0) o (AJ AA) (λ_ W=>by rw[Bg]at W;cases W) ?_);rintro n ⟨pJ,e⟩ o;try dsimp only at o⊢
 rw[Bg]at o;refine zr tb AA AA (AG λZ E=>?_);refine ci o AA ?_ ?_<;>clear o<;>intro b0 o
 ·refine AL (E _ (AG λb1 F=>AU (sr AA λb2 G=>zq tb AA (bs o λf H o=>zz (Da f) (By BU AA AA H (Ai _) rfl) rfl (zq tb AA (Av (m:=1) AI DF AA AA (zq tb AA (Am AI BE AA AA AA AA AA AA nj rfl (dn G AA (AG λb3 I=>H9 (by kernel_rfl) (bs o λc J o=>bs o λp A o=>bs o λy K o=>J7 λvn a=>?_)))))))))));have j:vn 0 (bm 11 2047) ⟨44,Aa (QH p1 p3 ((9,i64 pJ)::(10,i64 e)::(12,i64 y)::QA p2 e [])),[LW p0]⟩:=(a _ _ _).2 (by
   refine Hc AA (by kernel_rfl) (I _ (AG λb4 M=>AG λV O=>bs o λP B o=>?_));have C:∀(D:Bool),P=D->∀s,Wk 0 s ⟨44,Aa (QH p1 p3 ((12,i64 y)::QA p2 e [(40,.bool D)])),[LW p0]⟩->V s:=by
    intro D hq s U;subst P;try dsimp only at o
    refine O _ (AK U ?_);refine ci o AA ?_ ?_<;>clear o<;>intro b5 o
    ·refine zr tb AA AA ?_;obtain rfl:=Sh.AB o;try dsimp only[id]at h0
     obtain rfl:=Sh.AB h0;exact rd [(8,i64 (-1))]
    ·exact AL (M _ (AH AA (zm tb 2 AA (dn F AA (AH AA (zm tb 2 AA (AF (xi (y,Sh.w (e+1)) o (AJ AA)))))))))
   refine AH AA (zm tb 3 AA ?_);rcases Sh.Ak B with ⟨k,B⟩|⟨k,B⟩
   ·refine zs k AA (zs k AA (zs k AA ?_));iterate 3 refine zn rfl ?_
    exact zs k AA (zt k AA (AF (C true (Sh.AB B).symm _ (AJ AA))))
   ·refine zg tb k AA (zg tb k AA (zg tb k AA ?_));rcases Sh.Ak B with ⟨q,B⟩|⟨q,B⟩
    ·exact zg tb q AA (zg tb q AA (zg tb q AA (Ba (v:=(.bool (!decide (y=pJ)))) (CW AA AA k) rfl (KV AA q AA) (zf k AA (AF (C (!decide (y=pJ)) (Sh.AB B).symm _ (AJ AA)))))))
    ·exact zs q AA (zs q AA (zs q AA (Ba (v:=(.bool false)) (CW AA AA k) rfl (Kx AA q AA) (zf k AA (AF (C false (Sh.AB B).symm _ (Ag (L:=(QH p1 p3 ((12,i64 y)::QA p2 e [(40,.bool false)]))) (.same AA)))))))))
  have b:vn 2 (bm 11 511) ⟨44,Aa (QH p1 p3 ((9,i64 pJ)::(10,i64 e)::QA p2 e [(20,Jy p0),(27,ow 1 0 p),(28,Bc f)])),[LW p0,Bl p]⟩:=(a _ _ _).2 (by
   refine xa [9] ⟨?_,jf⟩
   ·refine xo 9 (CL (rows0:=[Bl p]) (rows1:=[Bl p]) (st':=[LW p0,Bl p]) (v':=(i64 y)) [1] AI (hb 81) (oa K) rfl (by decide) rfl AA (.pure (AD λ_=>AA) .nil) rfl AA (.pure (AD λ_=>AA) .nil) .nil AA AA (AF ⟨AA,(BX tb 10 AA (by kernel_rfl) rfl ?_)⟩));exact xw a j (by exact AT [0] AA (by decide) rfl AA (.raw AA AA .nil) (.same AA)))
  have d:vn 3 (bm 11 383) ⟨44,Aa (QH p1 p3 ((9,i64 pJ)::(10,i64 e)::QA p2 e [(20,Jy p0),(26,ow 1 0 [p1,c]),(28,Bc f)])),[LW p0,ro 0 32 1 (eS eI) [p1,c]]⟩:=(a _ _ _).2 (by
   refine xa [7] ⟨?_,jf⟩
   ·refine xo 7 ?_;exact AR (Wk.BL (L:=(QH p1 p3 ((9,i64 pJ)::(10,i64 e)::QA p2 e [(20,Jy p0),(26,ls (eS eI) [p1,c]),(28,Bc f)]))) (st':=[LW p0,⟨1,32,1,[]⟩]) (id:=1) rfl oE (AD λ_=>AA) ⟨.rfl,.rfl,.rfl,.rfl,.rfl,.rfl,.rfl,.rfl,.rfl,.BL AA,.rfl,jf⟩ AA) (CM (v':=(ow 2 0 p)) AI (hb 130) (Fx A) rfl AA ⟨(CQ λ_=>AA),jf⟩ AA AA (NU a b (by exact AT [0,2] AA (by decide) rfl AA (.raw AA AA (.pure (AD λ_=>AA) .nil)) (.same AA)))))
  have g:vn 4 (bm 11 127) ⟨44,Aa (QH p1 p3 ((9,i64 pJ)::(10,i64 e)::(11,CS)::QA p2 e [(20,Jy p0),(26,ow 2 0 [p1,c])])),cI p0 f [ro 0 32 1 (eS eI) [p1,c]]⟩:=(a _ _ _).2 (by
   refine xa [7,8] ⟨?_,?_,jf⟩
   ·refine xo 7 (AR (Wk.BL (L:=(QH p1 p3 ((9,i64 pJ)::(10,i64 e)::(11,CS)::QA p2 e [(20,Jy p0),(26,ls (eS eI) [p1,c])]))) (st':=(cI p0 f [⟨1,32,1,[]⟩])) (id:=2) rfl nz (AD λ_=>AA) ⟨.rfl,.rfl,.rfl,.rfl,.rfl,.rfl,.rfl,.rfl,.rfl,.rfl,.BL AA,jf⟩ AA) (CM (v':=(ow 3 0 p)) AI (hb 130) (Fx A) rfl AA ⟨(CQ λ_=>AA),jf⟩ AA AA (AF ⟨AA,(BX tb 8 AA (by kernel_rfl) rfl ?_)⟩)));exact xw a b (by exact AT [0,3] AA (by decide) rfl AA (.raw AA AA (.pure (AD λ_=>AA) .nil)) (.same AA))
   ·refine xo 8 ?_;exact zq tb AA (NU a d (by exact AT [0,2] AA (by decide) rfl AA (.raw AA AA (.pure (AD λ_=>AA) .nil)) (.same AA))))
  have h:vn 4 (bm 11 319) ⟨44,Aa (QH p1 p3 ((9,i64 pJ)::(10,i64 e)::QA p2 e [(20,Jy p0),(21,ls eI p1),(25,ls eI c),(28,Bc f)])),[LW p0]⟩:=(a _ _ _).2 (by
   refine xa [6] ⟨?_,jf⟩
   ·refine xo 6 ?_;refine BF (m:=1) (l:=[p1,c]) (enc:=(eS eI)) AI NK (by decide) rfl AA AA AA AA AA ?_;exact xd a d)
  have t:vn 5 (bm 11 63) ⟨44,Aa (QH p1 p3 ((9,i64 pJ)::(10,i64 e)::(11,CS)::QA p2 e [(20,Jy p0),(21,ls eI p1),(25,ls eI c)])),cI p0 f []⟩:=(a _ _ _).2 (by
   refine xa [6,8] ⟨?_,?_,jf⟩
   ·refine xo 6 ?_;refine BF (m:=2) (l:=[p1,c]) (enc:=(eS eI)) AI NK (by decide) rfl AA AA AA AA AA ?_;exact xd a g
   ·refine xo 8 ?_;exact zq tb AA (NU a h (by exact AT [0] AA (by decide) rfl AA (.raw AA AA .nil) (.same AA))))
  have i:vn 4 (bm 11 382) ⟨44,Aa (QH p1 p3 ((9,i64 pJ)::(10,i64 e)::QA p2 e [(26,ow 1 0 [p1,c]),(28,Bc f)])),[LW p0,ro 0 32 1 (eS eI) [p1,c]]⟩:=(a _ _ _).2 (by
   refine xa [0,7] ⟨?_,?_,jf⟩
   ·exact xq tb a d
   ·refine xo 7 (AR (Wk.BL (L:=(QH p1 p3 ((9,i64 pJ)::(10,i64 e)::QA p2 e [(26,ls (eS eI) [p1,c]),(28,Bc f)]))) (st':=[LW p0,⟨1,32,1,[]⟩]) (id:=1) rfl oE (AD λ_=>AA) ⟨.rfl,.rfl,.rfl,.rfl,.rfl,.rfl,.rfl,.rfl,.BL AA,.rfl,jf⟩ AA) (CM (v':=(ow 2 0 p)) AI (hb 130) (Fx A) rfl AA ⟨(CQ λ_=>AA),jf⟩ AA AA (AF ⟨AA,(BX tb 0 AA (by kernel_rfl) rfl ?_)⟩)));exact xw a b (by exact AT [0,2] AA (by decide) rfl AA (.raw AA AA (.pure (AD λ_=>AA) .nil)) (.same AA)))
  have u:vn 5 (bm 11 126) ⟨44,Aa (QH p1 p3 ((9,i64 pJ)::(10,i64 e)::(11,CS)::QA p2 e [(26,ow 2 0 [p1,c])])),cI p0 f [ro 0 32 1 (eS eI) [p1,c]]⟩:=(a _ _ _).2 (by
   refine xa [0,7,8] ⟨?_,?_,?_,jf⟩
   ·exact xq tb a g
   ·refine xo 7 (AR (Wk.BL (L:=(QH p1 p3 ((9,i64 pJ)::(10,i64 e)::(11,CS)::QA p2 e [(26,ls (eS eI) [p1,c])]))) (st':=(cI p0 f [⟨1,32,1,[]⟩])) (id:=2) rfl nz (AD λ_=>AA) ⟨.rfl,.rfl,.rfl,.rfl,.rfl,.rfl,.rfl,.rfl,.rfl,.BL AA,jf⟩ AA) (CM (v':=(ow 3 0 p)) AI (hb 130) (Fx A) rfl AA ⟨(CQ λ_=>AA),jf⟩ AA AA (AF ⟨AA,(BX tb 0 AA (by kernel_rfl) rfl (BX tb 8 AA (by kernel_rfl) rfl ?_))⟩)));exact xw a b (by exact AT [0,3] AA (by decide) rfl AA (.raw AA AA (.pure (AD λ_=>AA) .nil)) (.same AA))
   ·refine xo 8 ?_;exact zq tb AA (NU a i (by exact AT [0,2] AA (by decide) rfl AA (.raw AA AA (.pure (AD λ_=>AA) .nil)) (.same AA))))
  have x:vn 5 (bm 11 318) ⟨44,Aa (QH p1 p3 ((9,i64 pJ)::(10,i64 e)::QA p2 e [(21,ls eI p1),(25,ls eI c),(28,Bc f)])),[LW p0]⟩:=(a _ _ _).2 (by
   refine xa [0,6] ⟨?_,?_,jf⟩
   ·exact xq tb a h
   ·refine xo 6 ?_;refine BF (m:=1) (l:=[p1,c]) (enc:=(eS eI)) AI NK (by decide) rfl AA AA AA AA AA ?_;exact xd a i)
  have z:vn 6 (bm 11 62) ⟨44,Aa (QH p1 p3 ((9,i64 pJ)::(10,i64 e)::(11,CS)::QA p2 e [(21,ls eI p1),(25,ls eI c)])),cI p0 f []⟩:=(a _ _ _).2 (by
   refine xa [0,6,8] ⟨?_,?_,?_,jf⟩
   ·exact xq tb a t
   ·refine xo 6 ?_;refine BF (m:=2) (l:=[p1,c]) (enc:=(eS eI)) AI NK (by decide) rfl AA AA AA AA AA ?_;exact xd a u
   ·refine xo 8 ?_;exact zq tb AA (NU a x (by exact AT [0] AA (by decide) rfl AA (.raw AA AA .nil) (.same AA))))
  exact (a _ _ _).2 (BX tb 1 AA (by kernel_rfl) rfl (BX tb 2 AA (by kernel_rfl) rfl (BX tb 3 AA (by kernel_rfl) rfl (Hl 4 (v:=(.Bh ((eS eI) c) 0)) rfl (by kernel_rfl) (by kernel_rfl) (Cg NK AA AA J AA) (BX tb 5 AA (by kernel_rfl) rfl (xt a z))))))
 ·exact BD (Y pJ (Sh.AB o).symm _ (Bn _ AA))
theorem RX {N:Nat}{p0:(List AM)}{r:Int}(h0:JE N p0=some r):Ab Tryz.prog 103 [Ct p0] [] (λv st=>v=(i64 r)/\st=[]):=by
 unfold JE at h0;refine ai Tryz.func103 AA AA AA AA ?_;iterate 2 refine zr tb rfl rfl ?_
 refine AG λl f=>sr AA λy g=>zq tb AA (zl tb AA AA (zq tb AA (dn g AA (bs h0 λh a h0=>?_))));have o:∀(n7:Int),h=n7->∀s,Wk 0 s ⟨19,Aa [(3,i64 n7)],[]⟩->l s:=by
  intro n7 z s p;subst h;try dsimp only at h0
  refine f _ (AK p (zr tb AA AA ?_));obtain rfl:=Sh.AB h0;exact rt [(2,i64 n7)]
 refine AU (Ax (σ:=Int×Int) (λn v=>Eg p0 n v.1 v.2=some h) (λ(n5,i)=>⟨19,Aa [(3,i64 n5),(6,ls Aj p0),(7,i64 (Sh.len p0)),(8,i64 i)],[]⟩) N (0,0) a (AJ AA) (λ_ k=>by rw[Eg]at k;cases k) ?_);rintro n ⟨n5,i⟩ a;try dsimp only at a⊢
 rw[Eg]at a;refine zr tb AA AA (AG λq b=>?_);refine ci a AA ?_ ?_<;>clear a<;>intro t a
 ·exact AL (b _ (AG λu c=>AU (sr AA λx d=>bs a λj e a=>zx DH e AA AA AA (zq tb AA (Av (m:=0) AI Gm AA AA (Am AI JY AA AA AA AA AA AA nj rfl (dn d AA (AH AA (zm tb 3 AA (zl tb AA AA (zm tb 2 AA (dn c AA (AH AA (zm tb 2 AA (AF (xi (Sh.w (n5+(Sh.len j.cons)),Sh.w (i+1)) a (Bn _ AA)))))))))))))))))
 ·exact BD (o n5 (Sh.AB a).symm _ (AJ AA))
theorem LU {N:Nat}{p0:(List AM)}{p1:Int}{r:(List Int)}(h0:HP N p0 p1=some r):Ab Tryz.prog 66 [Ct p0,i64 p1] [] (λv st=>v=(ow 0 0 r)/\st=[Bl r]):=by
 unfold HP at h0;refine ai Tryz.func66 AA AA AA AA (zr tb AA AA (AG λT A=>AG λM B=>bs h0 λI b h0=>?_));have J:∀(C:Bool),I=C->∀s,Wk 0 s ⟨39,Aa [(0,Ct p0),(1,i64 p1),(15,.bool C)],[]⟩->M s:=by
  intro C O s D;subst I;try dsimp only at h0
  refine B _ (AK D ?_);refine ci h0 AA ?_ ?_<;>clear h0<;>intro U h0
  ·refine zr tb AA AA ?_;obtain rfl:=Sh.AB h0;exact Aq (Exists.intro _ (And.intro (((JD (t:=4) rfl 3 (size:=1) (by decide)).trans (Ag (L:=[(4,cQ)]) (.same AA))).trans (Ag (L:=[(4,cQ)]) (.same AA))) (And.intro AA AA)))
  ·refine AL (A _ (sr AA λV E=>zm tb 3 AA (bs h0 λW F h0=>RR (i:=0) (j:=Sh.w (p1-1)) AI DH AA AA AA (λ_=>AA) F (bs h0 λc o h0=>zc (hb 103) (RX o) rfl AA AA (zq tb AA (dn E AA (zr tb AA AA (AG λG p=>sr AA λP q=>zm tb 3 AA (bs h0 λf u h0=>zx DH u AA AA AA (zm tb 2 AA (zl tb AA AA (zq tb AA (dn q AA (bs h0 λh b h0=>?_))))))))))))));have H:∀(e:(List Int)),h=e->∀s,Wk 0 s ⟨39,Aa [(6,ow 0 0 e)],[Bl e]⟩->G s:=by
    intro e O s D;subst h;try dsimp only at h0
    refine p _ (AK D (zr tb AA AA ?_));obtain rfl:=Sh.AB h0;exact rt [(4,ow 0 0 e)]
   refine AU (Ax (σ:=Int×(List Int)) (λn v=>FT f c n v.1 v.2=some h) (λ(d,g)=>⟨39,Aa [(5,i64 c),(6,ow 0 0 g),(27,i64 (Sh.len f.cons)),(28,i64 d)],[ro 0 3 1 eI g]⟩) N (0,[]) b ((JD (t:=6) rfl 3 (size:=1) (by decide)).trans (Ag (L:=[(5,i64 c),(6,.own 0 0 (List.length ([]:List Int))),(27,i64 (Sh.len f.cons)),(28,i64 0)]) (.same AA))) (λ_ K=>by rw[FT]at K;cases K) ?_);rintro n ⟨d,g⟩ b;try dsimp only at b⊢
   rw[FT]at b;refine zr tb AA AA (AG λQ x=>?_);refine ci b AA ?_ ?_<;>clear b<;>intro R b
   ·refine AL (x _ (AG λS y=>AU (zr tb AA AA (AH AA (zm tb 4 AA (BF (m:=1) (l:=[Sh.w (c+d)]) (enc:=eI) AI BQ (by decide) rfl AA AA AA AA AA (bs b λk z b=>C9 (l2:=[Sh.w (c+d)]) AI BQ AA AA AA AA (HO AA AA) (λ_=>AA) z AA (zq tb AA (dn y AA (AH AA (zm tb 2 AA ?_)))))))))));exact AF (xi (Sh.w (d+1),k) b (by refine Wk.trans (EX (L:=[(5,i64 c),(6,ow 0 0 k),(27,i64 (Sh.len f.cons)),(28,KA d)]) (st':=[Bl k,ro 0 3 1 eI [Sh.w (c+d)]]) (.pure (AD λ_=>AA) (.pure (AD λ_=>AA) .nil)) (.same AA)) ?_;exact AT [0] AA (by decide) rfl AA (.pure (AD λ_=>AA) .nil) (.same AA)))
   ·exact BD (H g (Sh.AB b).symm _ (AJ AA))
 refine AH AA (zm tb 3 AA ?_);rcases Sh.Ak b with ⟨a,b⟩|⟨a,b⟩
 ·refine zs a AA ?_;iterate 3 refine zs a rfl ?_
  exact zt a AA (AF (J true (Sh.AB b).symm _ (AJ AA)))
 ·exact zg tb a AA (zg tb a AA (Ba (v:=(G8 p0)) (CW AA AA a) rfl (Ch Rk AA) (zg tb a AA (zf a AA (AF (J (decide ((Sh.len p0)<p1)) (Sh.AB b).symm _ (AJ AA)))))))
theorem Pe {N:Nat}{p0:(List AM)}{p1:Int}{r:Int×Db}(h0:IA N p0 p1=some r):Ab Tryz.prog 126 [Ct p0,i64 p1] [] (λv st=>v=(.Dp [i64 r.1,JN r.2])/\st=[]):=by
 unfold IA at h0;refine Cj AA (ai Tryz.func126 AA AA AA AA (sr AA λS y=>zq tb AA (Av (m:=0) AI QV AA AA (dn y AA (AG λH z=>sr AA λT A=>zq tb AA (zl tb AA AA (zq tb AA (dn A AA ?_))))))));obtain⟨B,b,h0⟩:=Sh.Bi h0;have I:∀(_:Unit),B=Sum.inr ()->∀s,Wk 0 s ⟨38,Aa [(5,BJ)],[⟨0,82,1,[[.zc]]⟩]⟩->H s:=by
  intro _ J s C;subst B;try dsimp only at h0
  refine z _ (AK C (sr AA λU D=>zz (.agg [.zc]) (C8 eX dH QV AA AA) rfl (zq tb AA (Am AI OZ AA AA AA AA AA AA nq rfl (dn D AA ?_)))));obtain rfl:=Sh.AB h0;exact Aq (Exists.intro _ (And.intro ((Gg (id:=0) (cs:=[.zc]) (cs':=[Q6]) (st':=[⟨0,82,1,[[Q6]]⟩]) rfl ⟨le.zc,jf⟩ AA AA).trans (Ag (L:=[(4,i64 (-1)),(5,BJ)]) (.same AA))) (Ar (x:=.tmp 5) (off:=0) (cs:=[Q6]) (vs:=[Q6]) OZ AA AA AA nq rfl _ AA)))
 refine AU (Ax (σ:=Int×Int) (λn v=>FG p0 n v.1 v.2=some B) (λ(g,d)=>⟨38,Aa [(1,i64 g),(5,.ptr 0 0 0 0),(8,ls Aj p0),(9,i64 (Sh.len p0)),(10,i64 d)],[⟨0,82,1,[[.zc]]⟩]⟩) N (p1,0) b (AJ AA) (λ_ G=>by rw[FG]at G;cases G) ?_);rintro n ⟨g,d⟩ b;try dsimp only at b⊢
 rw[FG]at b;refine zr tb AA AA (AG λV E=>?_);refine ci b AA ?_ ?_<;>clear b<;>intro K b
 ·refine AL (E _ (AG λM h=>AU (sr AA λO i=>zq tb AA (bs b λc j b=>zx DH j AA AA AA (zq tb AA (Av (m:=1) AI Gm AA AA (zq tb AA (Am AI JY AA AA AA AA AA AA nj rfl (dn i AA (AG λP k=>AG λF l=>bs b λo p b=>?_))))))))));have q:∀(e:Bool),o=e->∀s,Wk 0 s ⟨38,Aa [(1,i64 g),(5,BJ),(6,i64 d),(7,CS),(8,Ct p0),(9,G8 p0),(10,i64 d),(23,.bool e)],[⟨0,82,1,[[.zc]]⟩,Vd c]⟩->F s:=by
   intro e J s C;subst o;try dsimp only at b
   refine l _ (AK C ?_);refine ci b AA ?_ ?_<;>clear b<;>intro Q b
   ·refine AG λR t=>Bv 8 (by kernel_rfl) (by kernel_rfl) (by rfl) ?_;iterate 5 refine yq tb rfl ?_
    refine bs b λf u b=>yx Iw u AA AA AA ?_;iterate 2 refine yq tb rfl ?_
    refine Aw (Am AI OZ AA AA AA AA AA AA nq rfl (dn t AA ?_));obtain rfl:=Sh.AB b;try dsimp only[id]at h0
    obtain rfl:=Sh.AB h0;exact Aq (Exists.intro _ (And.intro ((AT (L:=[(4,KA d),(5,BJ)]) (st':=[⟨0,82,1,[CC f]⟩]) [0] AA (by decide) rfl AA (.raw AA AA .nil) ⟨.rfl,.rfl,jf⟩).trans (Ag (L:=[(4,KA d),(5,BJ)]) ⟨.rfl,.rfl,jf⟩)) (Ar (x:=.tmp 5) (off:=0) (cs:=(CC f)) (vs:=(CC f)) OZ AA AA AA nq rfl _ AA)))
   ·exact AL (k _ (AH AA (zm tb 3 AA (zl tb AA AA (zm tb 2 AA (dn h AA (AH AA (zm tb 2 AA (AF (xi (Sh.w (g-(Sh.len c.cons)),Sh.w (d+1)) b (AT [0] AA (by decide) rfl AA (.raw AA AA .nil) (.same AA))))))))))))
  refine AH AA (zm tb 3 AA ?_);rcases Sh.Ak p with ⟨a,p⟩|⟨a,p⟩
  ·exact zg tb a AA (zg tb a AA (zg tb a AA (Ba (v:=(i64 (Sh.len c.cons))) (CW AA AA a) rfl (Ch Pa AA) (zg tb a AA (zt a AA (AF (q (decide (g<(Sh.len c.cons))) (Sh.AB p).symm _ (AJ AA))))))))
  ·refine zs a AA ?_;iterate 4 refine zs a rfl ?_
   exact zf a AA (AF (q false (Sh.AB p).symm _ (AJ AA)))
 ·exact BD (I () (Sh.AB b).symm _ (AJ AA))
theorem Mn {N:Nat}{p0:(List AM)}{p1:Int}{r:(List Int)}(h0:EJ N p0 p1=some r):Ab Tryz.prog 92 [Ct p0,i64 p1] [] (λv st=>v=(ls eI r)/\st=[]):=by
 unfold EJ at h0;refine ai Tryz.func92 AA AA AA AA (zr tb AA AA (sr AA λd a=>zm tb 2 AA (bs h0 λb c h0=>zc (v':=(.Dp [i64 b.1,JN b.2])) (hb 126) (Pe c) rfl AA AA (zm tb 3 AA (Av (m:=0) AI QV AA AA (zq tb AA (Am AI OZ AA AA AA AA AA AA nq rfl (dn a AA (zr tb AA AA ?_)))))))));obtain rfl:=Sh.AB h0;exact rd [(4,ls eI b.2.fields)]
theorem Nw {p0:(List AM)}{p1:Int}{r:AM×Bool}(h0:Jh p0 p1=some r):Ab Tryz.prog 131 [Ct p0,i64 p1] [] (λv st=>v=(WD r.1 r.2)/\st=[]):=by
 unfold Jh at h0;refine Cj AA (ai Tryz.func131 AA AA AA AA (sr AA λu f=>Av (m:=0) AI Gm AA AA (zq tb AA (dn f AA (AG λw g=>AG λq h=>bs h0 λo c h0=>?_)))));have i:∀(j:Bool),o=j->∀s,Wk 0 s ⟨30,Aa [(0,Ct p0),(1,i64 p1),(4,BJ),(23,.bool j)],[cB]⟩->q s:=by
  intro j y s t;subst o;try dsimp only at h0
  refine h _ (AK t ?_);refine ci h0 AA ?_ ?_<;>clear h0<;>intro z h0
  ·refine sr AA λA k=>zz (.agg [i64 0,i64 0,.zc]) (C8 Lj Lf Gm AA AA) rfl (Am AI JY AA AA AA AA AA AA nj rfl (zq tb AA (dn k AA ?_)));obtain rfl:=Sh.AB h0;exact Aq (Exists.intro _ (And.intro ((Gg (id:=0) (cs:=[i64 0,i64 0,.zc]) (cs':=[i64 0,i64 0,UF]) (st':=[⟨0,80,3,[[i64 0,i64 0,UF]]⟩]) rfl ⟨le.rfl,le.rfl,le.zc,jf⟩ AA AA).trans (Ag (L:=[(4,BJ),(5,.bool false)]) (.same AA))) (Ar (x:=.tmp 4) (off:=0) (cs:=[i64 0,i64 0,UF]) (vs:=[i64 0,i64 0,UF]) JY AA AA AA nj rfl _ AA)))
  ·refine AL (g _ (sr AA λB l=>zm tb 3 AA (bs h0 λp n h0=>zx DH n AA AA AA (zq tb AA (Am AI JY AA AA AA AA AA AA nj rfl (zq tb AA (dn l AA ?_)))))));obtain rfl:=Sh.AB h0;exact Aq (Exists.intro _ (And.intro (Ag (L:=[(4,BJ),(5,.bool true)]) (.same AA)) (Ar (x:=.tmp 4) (off:=0) (cs:=(Aj p)) (vs:=(Aj p)) JY AA AA AA nj rfl _ AA)))
 refine AH AA (zm tb 3 AA ?_);rcases Sh.Ak c with ⟨b,c⟩|⟨b,c⟩
 ·refine zs b AA ?_;iterate 3 refine zs b rfl ?_
  refine zt b AA (zq tb AA ?_);iterate 8 refine zs rfl rfl ?_
  exact zt AA AA (AF (i true (Sh.AB c).symm _ (AJ AA)))
 ·refine zg tb b AA (zg tb b AA (Ba (v:=(G8 p0)) (CW AA AA b) rfl (Ch Rk AA) (zg tb b AA (zf b AA (zq tb AA ?_)))));rcases Sh.Ak c with ⟨a,c⟩|⟨a,c⟩
  ·refine zs a AA ?_;iterate 7 refine zs a rfl ?_
   exact zt a AA (AF (i true (Sh.AB c).symm _ (AJ AA)))
  ·exact zg tb a AA (zg tb a AA (zg tb a AA (bs c λd e c=>Ba (v:=(.Bh (Aj d) 0)) (CW AA AA a) rfl (Cg DH AA AA e AA) (zg tb a AA (zg tb a AA (Ba (v:=(i64 (Sh.len d.cons))) (CW AA AA a) rfl (Ch Pa AA) (zg tb a AA (zf a AA (AF (i (decide (0<(Sh.len d.cons))) (Sh.AB c).symm _ (AJ AA)))))))))))
theorem GI {N:Nat}{p0:(List Int)}{p1:(List Int)}{r:Bool}(h0:DP N p0 p1=some r):Ab Tryz.prog 132 [ls eI p0,ls eI p1] [] (λv st=>v=(.bool r)/\st=[]):=by
 unfold DP at h0;refine ai Tryz.func132 AA AA AA AA (zr tb AA AA (AG λF l=>sr AA λG m=>zq tb AA (zl tb AA AA (zq tb AA (zl tb AA AA (zq tb AA (dn m AA ?_)))))));refine ci h0 AA ?_ ?_<;>clear h0<;>intro t h0
 ·have H:decide ((Sh.len p0)=(Sh.len p1))=false:=by simpa using t
  refine zr tb AA AA ?_;obtain rfl:=Sh.AB h0;exact rt [(4,.bool false)]
 ·have I:decide ((Sh.len p0)=(Sh.len p1))=true:=by simpa using t
  refine AL (l _ (AG λx o=>sr AA λJ p=>zq tb AA (zl tb AA AA (zq tb AA (dn p AA ?_)))));obtain⟨b,a,h0⟩:=Sh.Bi h0;have q:∀(_:Unit),b=Sum.inr ()->∀s,Wk 0 s ⟨26,Aa [],[]⟩->x s:=by
   intro _ K s y;subst b;try dsimp only at h0
   refine o _ (AK y (zr tb AA AA ?_));obtain rfl:=Sh.AB h0;exact rt [(4,.bool true)]
  refine AU (Ax (σ:=Int) (λn v=>DA p0 p1 n v=some b) (λc=>⟨26,Aa [(0,ls eI p0),(1,ls eI p1),(12,i64 (Sh.len p0)),(13,i64 c)],[]⟩) N 0 a (AJ AA) (λ_ u=>by rw[DA]at u;cases u) ?_);rintro n c a;try dsimp only at a⊢
  rw[DA]at a;refine zr tb AA AA (AG λz d=>?_);refine ci a AA ?_ ?_<;>clear a<;>intro A a
  ·refine AL (d _ (AG λB e=>AU (zr tb AA AA (AG λC f=>Cd (by kernel_rfl) (by kernel_rfl) (by rfl) ?_))));iterate 2 refine yq tb rfl ?_
   refine bs a λg h a=>yx BQ h AA AA AA ?_;iterate 3 refine yq tb rfl ?_
   refine bs a λi j a=>yx BQ j AA AA AA ?_;iterate 2 refine yq tb rfl ?_
   refine Aw (f _ ?_);refine ci a AA ?_ ?_<;>clear a<;>intro k a
   ·have D:decide (g=i)=false:=by simpa using k
    refine zr tb AA AA ?_;obtain rfl:=Sh.AB a;try dsimp only[id]at h0
    obtain rfl:=Sh.AB h0;exact rt [(4,.bool false)]
   ·have E:decide (g=i)=true:=by simpa using k
    exact AL (e _ (AH AA (zm tb 2 AA (AF (xi (Sh.w (c+1)) a (AJ AA))))))
  ·exact BD (q () (Sh.AB a).symm _ (AJ AA))
theorem Sl {N:Nat}{p0:(List AM)}{p1 p2 r:Int}(h0:Ji N p0 p1 p2=some r):Ab Tryz.prog 133 [Ct p0,i64 p1,i64 p2] [] (λv st=>v=(i64 r)/\st=[]):=by
 unfold Ji at h0;refine ai Tryz.func133 AA AA AA AA (zr tb AA AA (AG λA o=>sr AA λG p=>zq tb AA (zl tb AA AA (zq tb AA (dn p AA ?_)))));obtain⟨q,a,h0⟩:=Sh.Bi h0;have B:∀(_:Unit),q=Sum.inr ()->∀s,Wk 0 s ⟨35,Aa [],[]⟩->A s:=by
  intro _ C s t;subst q;try dsimp only at h0
  refine o _ (AK t (zr tb AA AA ?_));obtain rfl:=Sh.AB h0;exact rt [(6,i64 (-1))]
 refine AU (Ax (σ:=Int) (λn v=>Ex p0 p1 p2 n v=some q) (λg=>⟨35,Aa [(1,i64 p1),(2,i64 p2),(9,ls Aj p0),(10,i64 (Sh.len p0)),(11,i64 g)],[]⟩) N 0 a (AJ AA) (λ_ z=>by rw[Ex]at z;cases z) ?_);rintro n g a;try dsimp only at a⊢
 rw[Ex]at a;refine zr tb AA AA (AG λH u=>?_);refine ci a AA ?_ ?_<;>clear a<;>intro I a
 ·refine AL (u _ (AG λD h=>AU (sr AA λE i=>zq tb AA (bs a λx j a=>zx DH j AA AA AA (zq tb AA (Av (m:=0) AI Gm AA AA (zq tb AA (Am AI JY AA AA AA AA AA AA nj rfl (dn i AA (AG λy k=>bs a λl d a=>?_))))))))));have e:∀(f:Bool),l=f->∀s,Wk 0 s ⟨35,Aa [(1,i64 p1),(2,i64 p2),(7,i64 g),(9,Ct p0),(10,G8 p0),(11,i64 g),(31,.bool f)],[]⟩->y s:=by
   intro f C s t;subst l;try dsimp only at a
   refine k _ (AK t ?_);refine ci a AA ?_ ?_<;>clear a<;>intro F a
   ·refine zr tb AA AA ?_;obtain rfl:=Sh.AB a;try dsimp only[id]at h0
    obtain rfl:=Sh.AB h0;exact rt [(6,KA g)]
   ·exact AL (h _ (AH AA (zm tb 2 AA (AF (xi (Sh.w (g+1)) a (AJ AA))))))
  refine AH AA (zm tb 2 AA (zl tb AA AA (zm tb 2 AA ?_)));rcases Sh.Ak d with ⟨b,d⟩|⟨b,d⟩
  ·refine zg tb b AA ?_;iterate 3 refine zg tb b rfl ?_
   refine zt b AA (zq tb AA ?_);rcases Sh.Ak d with ⟨c,d⟩|⟨c,d⟩
   ·refine zg tb c AA ?_;iterate 3 refine zg tb c rfl ?_
    exact zt c AA (AF (e (decide (x.to=p2)) (Sh.AB d).symm _ (Bn _ AA)))
   ·refine zs c AA ?_;iterate 3 refine zs c rfl ?_
    exact zf c AA (AF (e false (Sh.AB d).symm _ (Bn _ AA)))
  ·refine zs b AA ?_;iterate 3 refine zs b rfl ?_
   refine zf b AA (zq tb AA ?_);iterate 4 refine zs rfl rfl ?_
   exact zf AA AA (AF (e false (Sh.AB d).symm _ (Bn _ AA)))
 ·exact BD (B () (Sh.AB a).symm _ (AJ AA))
theorem Km {N:Nat}{p0:BO}{p1 p2:Int}{p3:(List Int)}{r:Int×Bool}(h0:BI N p0 p1 p2 p3=some r):Ab Tryz.prog 113 [.agg (GB p0),i64 p1,i64 p2,ls eI p3] [] (λv st=>v=(.Dp [i64 r.1,.bool r.2])/\st=[]):=by
 unfold BI at h0;refine ai Tryz.func113 AA AA AA AA (sr AA λK1 h5=>Bf (m:=0) AI AA AA AA AA AA (zm tb 2 AA (dn h5 AA (zr tb AA AA (AG λK3 h6=>?_)))));obtain⟨o5,b,h0⟩:=Sh.Bi h0;have M5:∀(Y:(List Int)),o5=Sum.inr Y->∀s,Wk 0 s ⟨149,Aa (Nm p2 p3 [(10,ow 0 0 Y),(11,i64 0)]),[Bl Y]⟩->K3 s:=by
  intro Y hq s A;subst o5;try dsimp only at h0
  refine h6 _ (AK A (AG λK6 h7=>bs h0 λo8 b h0=>?_));have M8:∀(t7:Bool),o8=t7->∀s,Wk 0 s ⟨149,Aa [(8,i64 0),(9,.bool t7)],[]⟩->K6 s:=by
   intro t7 hq s A;subst o8;try dsimp only at h0
   refine h7 _ (AK A ?_);obtain rfl:=Sh.AB h0;exact rt [(8,i64 0),(9,.bool t7)]
  refine AH AA (zm tb 4 AA ?_);rcases Sh.Ak b with ⟨G,b⟩|⟨G,b⟩
  ·exact zg tb G AA (zg tb G AA (AR (Wk.BL (L:=[(141,i64 0),(144,.bool (decide (p2=0))),(145,ls eI p3),(146,ls eI Y)]) (st':=S9) (id:=0) rfl np (AD λ_=>AA) ⟨.rfl,.rfl,.rfl,.BL AA,jf⟩ AA) (bs b λh8 Z b=>zd G (hb 132) (GI Z) rfl AA AA AA (zt G AA (zm tb 2 AA (AF (M8 h8 (Sh.AB b).symm _ (Bn _ AA))))))))
  ·exact zs G AA (zs G AA (zs G AA (zf G AA (zm tb 2 AA (AF (M8 false (Sh.AB b).symm _ (Bn _ AA)))))))
 refine zr tb AA AA (AU (zr tb AA AA ?_));refine ci b AA ?_ ?_<;>clear b<;>intro l5 b
 ·refine AG λh9 b0=>bs b λb1 c b=>?_;have R:∀(H:Bool),b1=H->∀s,Wk 0 s ⟨149,Aa [(8,i64 0),(9,.bool H)],[]⟩->h9 s:=by
   intro H hq s A;subst b1;try dsimp only at b
   refine b0 _ (AK A ?_);obtain rfl:=Sh.AB b;try dsimp only[id]at h0
   obtain rfl:=Sh.AB h0;exact rt [(8,i64 0),(9,.bool H)]
  refine AH AA (zm tb 3 AA ?_);rcases Sh.Ak c with ⟨D,c⟩|⟨D,c⟩
  ·refine zg tb D AA (zg tb D AA (zt D AA (zq tb AA ?_)));rcases Sh.Ak c with ⟨x,c⟩|⟨x,c⟩
   ·exact zg tb x AA (Ba (v:=(G8 p3)) (CW AA AA x) rfl (Ch Fp AA) (zg tb x AA (zt x AA (zm tb 2 AA (AF (R (decide ((Sh.len p3)=0)) (Sh.AB c).symm _ (Bn _ AA)))))))
   ·exact zs x AA (zs x AA (zs x AA (zf x AA (zm tb 2 AA (AF (R false (Sh.AB c).symm _ (Bn _ AA)))))))
  ·refine zs D AA (zs D AA (zf D AA (zq tb AA ?_)));iterate 3 refine zs rfl rfl ?_
   exact zf AA AA (zm tb 2 AA (AF (R false (Sh.AB c).symm _ (Bn _ AA))))
 ·refine AG λk0 b2=>bs b λb3 c b=>?_;have I:∀(S:Bool),b3=S->∀s,Wk 0 s ⟨149,Aa ((1,i64 p1)::Nm p2 p3 [(4,BJ),(11,i64 0),(18,i64 p1),(32,.bool S)]),[LW p0]⟩->k0 s:=by
   intro S hq s A;subst b3;try dsimp only at b
   refine b2 _ (AK A ?_);refine ci b AA ?_ ?_<;>clear b<;>intro l6 b
   ·exact AH AA (BF (m:=1) (l:=[(0:Int),0]) (enc:=eI) AI BQ (by decide) rfl AA AA AA AA AA (zq tb AA (AF (M5 [(0:Int),0] (Sh.AB b).symm _ (AT [1] AA (by decide) rfl AA (.pure (AD λ_=>AA) .nil) (.same AA))))))
   ·refine zr tb AA AA ?_;refine ci b AA ?_ ?_<;>clear b<;>intro l7 b
    ·refine AH AA ?_;refine BF (m:=1) (l:=[(0:Int)]) (enc:=eI) AI BQ (by decide) rfl AA AA AA AA AA ?_;refine zq tb AA ?_;exact AF (M5 [(0:Int)] (Sh.AB b).symm _ (AT [1] AA (by decide) rfl AA (.pure (AD λ_=>AA) .nil) (.same AA)))
    ·refine zr tb AA AA ?_;refine ci b AA ?_ ?_<;>clear b<;>intro l8 b
     ·refine AG λl9 b4=>sr AA λm0 b5=>zq tb AA (zl tb AA AA (zq tb AA (dn b5 AA ?_)));refine ci b AA ?_ ?_<;>clear b<;>intro b6 b
      ·have m1:decide ((Sh.len p3)=2)=false:=by simpa using b6
       refine zr tb AA AA ?_;obtain rfl:=Sh.AB b;try dsimp only[id]at h0
       obtain rfl:=Sh.AB h0;exact rd [(8,i64 (-1)),(9,.bool false)]
      ·have m2:decide ((Sh.len p3)=2)=true:=by simpa using b6
       refine AL (b4 _ (AG λm3 b7=>H9 (by kernel_rfl) (bs b λT b8 b=>bs b λd P b=>J7 λue a=>?_)));have f:ue 0 (bm 12 4095) ⟨149,Aa (Nm p2 p3 [(12,BJ),(13,.bool d.2)]),[Vd d.1]⟩:=(a _ _ _).2 (by
        refine Hc AA (by kernel_rfl) (b7 _ (AG λk1 c0=>bs b λc1 c b=>?_));have U:∀(J:Bool),c1=J->∀s,Wk 0 s ⟨149,Aa [(8,i64 d.1.to),(9,.bool J)],[]⟩->k1 s:=by
         intro J hq s A;subst c1;try dsimp only at b
         refine c0 _ (AK A ?_);obtain rfl:=Sh.AB b;try dsimp only[id]at h0
         obtain rfl:=Sh.AB h0;exact rt [(8,i64 d.1.to),(9,.bool J)]
        refine Cd (by kernel_rfl) (by kernel_rfl) (by rfl) ?_;iterate 4 refine yq tb rfl ?_
        rcases Sh.Ak c with ⟨B,c⟩|⟨B,c⟩
        ·refine yg tb B AA (bs c λk2 c2 c=>H5 (v:=(.Bh (eI k2) 0)) (CW AA AA B) rfl (Cg BQ AA AA c2 AA) ?_);iterate 4 refine yg tb B rfl ?_
         refine yt B AA (yq tb AA ?_);rcases Sh.Ak c with ⟨E,c⟩|⟨E,c⟩
         ·refine yg tb E AA (yg tb E AA (yt E AA ?_));iterate 2 refine yq tb rfl ?_
          exact Aw (U (decide (p2=0)) (Sh.AB c).symm _ (Bn _ AA))
         ·refine ys E AA (ys E AA (yf E AA ?_));iterate 2 refine yq tb rfl ?_
          exact Aw (U false (Sh.AB c).symm _ (Bn _ AA))
        ·refine ys B AA ?_;iterate 5 refine ys B rfl ?_
         refine yf B AA (yq tb AA ?_);iterate 2 refine ys rfl rfl ?_
         refine yf AA AA ?_;iterate 2 refine yq tb rfl ?_
         exact Aw (U false (Sh.AB c).symm _ (by exact AT [] AA (by decide) rfl AA .nil (.same AA))))
       have e:ue 2 (bm 12 1023) ⟨149,Aa (Nm p2 p3 [(12,BJ),(53,.agg (Aj d.1)),(54,.bool d.2)]),[cB]⟩:=(a _ _ _).2 (by
        refine xa [10] ⟨?_,jf⟩
        ·refine xo 10 ?_;refine Am AI JY AA AA AA AA AA AA nj rfl (AF ⟨AA,?_⟩);refine BX tb 11 AA (by kernel_rfl) rfl ?_;exact xt a f)
       have g:ue 3 (bm 12 511) ⟨149,Aa (Nm p2 p3 [(53,.agg (Aj d.1)),(54,.bool d.2)]),[]⟩:=(a _ _ _).2 (by
        refine xa [9] ⟨?_,jf⟩
        ·refine xo 9 ?_;exact Av (m:=0) AI Gm AA AA (xd a e))
       have o:ue 2 (bm 12 1791) ⟨149,Aa (Nm p2 p3 [(12,BJ),(46,WD d.1 d.2)]),[Vd d.1]⟩:=(a _ _ _).2 (by
        refine xa [8] ⟨?_,jf⟩
        ·refine xo 8 ?_;refine zq tb AA (AF ⟨AA,?_⟩);refine BX tb 11 AA (by kernel_rfl) rfl ?_;exact xt a f)
       have h:ue 3 (bm 12 767) ⟨149,Aa (Nm p2 p3 [(12,BJ),(46,WD d.1 d.2),(53,.agg (Aj d.1))]),[cB]⟩:=(a _ _ _).2 (by
        refine xa [8,10] ⟨?_,?_,jf⟩
        ·exact xq tb a e
        ·refine xo 10 ?_;exact Am AI JY AA AA AA AA AA AA nj rfl (xd a o))
       have p:ue 4 (bm 12 255) ⟨149,Aa (Nm p2 p3 [(46,WD d.1 d.2),(53,.agg (Aj d.1))]),[]⟩:=(a _ _ _).2 (by
        refine xa [8,9] ⟨?_,?_,jf⟩
        ·exact xq tb a g
        ·refine xo 9 ?_;exact Av (m:=0) AI Gm AA AA (xd a h))
       have k:ue 3 (bm 12 895) ⟨149,Aa (Nm p2 p3 [(12,BJ),(46,WD d.1 d.2),(54,.bool d.2)]),[cB]⟩:=(a _ _ _).2 (by
        refine xa [7] ⟨?_,jf⟩
        ·exact xq tb a e)
       have q:ue 4 (bm 12 383) ⟨149,Aa (Nm p2 p3 [(46,WD d.1 d.2),(54,.bool d.2)]),[]⟩:=(a _ _ _).2 (by
        refine xa [7,9] ⟨?_,?_,jf⟩
        ·exact xq tb a g
        ·refine xo 9 ?_;exact Av (m:=0) AI Gm AA AA (xd a k))
       have n:ue 4 (bm 12 639) ⟨149,Aa (Nm p2 p3 [(12,BJ),(46,WD d.1 d.2)]),[cB]⟩:=(a _ _ _).2 (by
        refine xa [7,8] ⟨?_,?_,jf⟩
        ·exact xq tb a h
        ·exact xq tb a k)
       have y:ue 5 (bm 12 127) ⟨149,Aa (Nm p2 p3 [(46,WD d.1 d.2)]),[]⟩:=(a _ _ _).2 (by
        refine xa [7,8,9] ⟨?_,?_,?_,jf⟩
        ·exact xq tb a p
        ·exact xq tb a q
        ·refine xo 9 ?_;exact Av (m:=0) AI Gm AA AA (xd a n))
       have C:ue 6 (bm 12 543) ⟨149,Aa (Nm p2 p3 [(12,BJ),(48,ls Aj p0.decls),(51,i64 T)]),[cB]⟩:=(a _ _ _).2 (by
        refine xa [5] ⟨?_,jf⟩
        ·refine xo 5 ?_;refine zc (v':=(WD d.1 d.2)) (hb 131) (Nw P) rfl AA AA (AF ⟨AA,?_⟩);refine BX tb 6 AA (by kernel_rfl) rfl ?_;exact xt a n)
       have F:ue 7 (bm 12 31) ⟨149,Aa (Nm p2 p3 [(48,ls Aj p0.decls),(51,i64 T)]),[]⟩:=(a _ _ _).2 (by
        refine xa [5,9] ⟨?_,?_,jf⟩
        ·refine xo 5 ?_;refine zc (v':=(WD d.1 d.2)) (hb 131) (Nw P) rfl AA AA (AF ⟨AA,?_⟩);refine BX tb 6 AA (by kernel_rfl) rfl ?_;exact xt a y
        ·refine xo 9 ?_;exact Av (m:=0) AI Gm AA AA (xd a C))
       refine (a _ _ _).2 (BX tb 0 AA (by kernel_rfl) rfl (BX tb 1 AA (by kernel_rfl) rfl (BX tb 2 AA (by kernel_rfl) rfl (Hl 3 (v:=(.Bh (eI T) 0)) rfl (by kernel_rfl) (by kernel_rfl) (Cg BQ AA AA b8 AA) (BX tb 4 AA (by kernel_rfl) rfl ?_)))));exact xw a F (by exact AT [] AA (by decide) rfl AA .nil (.same AA))
     ·refine zr tb AA AA ?_;refine ci b AA ?_ ?_<;>clear b<;>intro m4 b
      ·refine sr AA λm5 c3=>zm tb 3 AA (bs b λK c4 b=>zc (v':=(.Dp [i64 K.1,JN K.2])) (hb 126) (Pe c4) rfl AA AA (zm tb 3 AA (Av (m:=1) AI QV AA AA (zq tb AA (Am AI OZ AA AA AA AA AA AA nq rfl (dn c3 AA (AG λk3 c5=>bs b λc6 c b=>?_)))))));have c7:∀(M:Bool),c6=M->∀s,Wk 0 s ⟨149,Aa [(8,i64 K.1),(9,.bool M)],[]⟩->k3 s:=by
        intro M hq s A;subst c6;try dsimp only at b
        refine c5 _ (AK A ?_);obtain rfl:=Sh.AB b;try dsimp only[id]at h0
        obtain rfl:=Sh.AB h0;exact rt [(8,i64 K.1),(9,.bool M)]
       refine AH AA (zm tb 4 AA ?_);rcases Sh.Ak c with ⟨z,c⟩|⟨z,c⟩
       ·exact zg tb z AA (zg tb z AA (zg tb z AA (bs c λk4 c8 c=>zd z (hb 132) (GI c8) rfl AA AA AA (zt z AA (zm tb 2 AA (AF (c7 k4 (Sh.AB c).symm _ (Bn _ AA))))))))
       ·refine zs z AA ?_;iterate 3 refine zs z rfl ?_
        exact zf z AA (zm tb 2 AA (AF (c7 false (Sh.AB c).symm _ (Bn _ AA))))
      ·refine AG λk5 c9=>bs b λd1 c b=>?_;have d2:∀(V:Bool),d1=V->∀s,Wk 0 s ⟨149,Aa ((1,i64 p1)::Nm p2 p3 [(4,BJ),(88,.bool V)]),[LW p0]⟩->k5 s:=by
        intro V hq s A;subst d1;try dsimp only at b
        refine c9 _ (AK A ?_);refine ci b AA ?_ ?_<;>clear b<;>intro m6 b
        ·refine AG λm7 d3=>AG λk6 d4=>bs b λd5 c b=>?_;have d6:∀(W:Bool),d5=W->∀s,Wk 0 s ⟨149,Aa ((1,i64 p1)::Nm p2 p3 [(4,BJ),(99,.bool W)]),[LW p0]⟩->k6 s:=by
          intro W hq s A;subst d5;try dsimp only at b
          refine d4 _ (AK A ?_);refine ci b AA ?_ ?_<;>clear b<;>intro m8 b
          ·refine zr tb AA AA ?_;obtain rfl:=Sh.AB b;try dsimp only[id]at h0
           obtain rfl:=Sh.AB h0;exact rd [(8,i64 (-1)),(9,.bool false)]
          ·refine AL (d3 _ (AG λm9 d7=>Cd (by kernel_rfl) (by kernel_rfl) (by rfl) ?_));iterate 3 refine yq tb rfl ?_
           refine bs b λd8 Q b=>yx Qc Q AA AA AA ?_;iterate 5 refine yq tb rfl ?_
           refine yx Qc Q AA AA AA ?_;iterate 4 refine yq tb rfl ?_
           refine Aw (d7 _ (AG λq0 d9=>zr tb AA AA ?_));refine ci b AA ?_ ?_<;>clear b<;>intro q1 b
           ·refine sr AA λq2 g0=>zm tb 3 AA (bs b λk7 g1 b=>zc (hb 132) (GI g1) rfl AA AA (zm tb 2 AA (dn g0 AA ?_)));obtain rfl:=Sh.AB b;try dsimp only[id]at h0
            obtain rfl:=Sh.AB h0;exact rd [(8,i64 d8.result),(9,.bool k7)]
           ·refine AL (d9 _ (sr AA λq3 g2=>zq tb AA (zl tb AA AA (zm tb 2 AA (dn g2 AA (AG λq4 g3=>zr tb AA AA ?_))))));refine ci b AA ?_ ?_<;>clear b<;>intro q5 b
            ·refine zr tb AA AA ?_;obtain rfl:=Sh.AB b;try dsimp only[id]at h0
             obtain rfl:=Sh.AB h0;exact rd [(8,i64 (-1)),(9,.bool false)]
            ·refine AL (g3 _ (AG λq6 g4=>Cd (by kernel_rfl) (by kernel_rfl) (by rfl) ?_));iterate 4 refine yq tb rfl ?_
             refine bs b λq7 g5 b=>yx BQ g5 AA AA AA ?_;iterate 2 refine yq tb rfl ?_
             refine bs b λX g6 b=>BW (v:=(i64 X)) AI (hb 133) (Sl g6) rfl AA AA (yq tb AA (Aw (g4 _ (AG λk8 g7=>bs b λg8 c b=>?_))));have g9:∀(O:Bool),g8=O->∀s,Wk 0 s ⟨149,Aa [(8,i64 X),(9,.bool O)],[]⟩->k8 s:=by
              intro O hq s A;subst g8;try dsimp only at b
              refine g7 _ (AK A ?_);obtain rfl:=Sh.AB b;try dsimp only[id]at h0
              obtain rfl:=Sh.AB h0;exact rt [(8,i64 X),(9,.bool O)]
             refine AH AA (zm tb 4 AA ?_);rcases Sh.Ak c with ⟨t,c⟩|⟨t,c⟩
             ·exact zg tb t AA (zg tb t AA (zg tb t AA (bs c λq8 h3 c=>RR (i:=0) (j:=Sh.w ((Sh.len d8.params)-1)) (CW AA AA t) BQ AA AA AA (λ_=>AA) h3 (bs c λk9 h4 c=>zd t (hb 132) (GI h4) rfl AA AA AA (zt t AA (zm tb 2 AA (AF (g9 k9 (Sh.AB c).symm _ (Bn _ AA)))))))))
             ·refine zs t AA ?_;iterate 4 refine zs t rfl ?_
              exact zf t AA (zm tb 2 AA (AF (g9 false (Sh.AB c).symm _ (Bn _ AA))))
         refine AH AA (zm tb 3 AA ?_);rcases Sh.Ak c with ⟨u,c⟩|⟨u,c⟩
         ·refine zs u AA ?_;iterate 4 refine zs u rfl ?_
          exact zt u AA (AF (d6 true (Sh.AB c).symm _ (AJ AA)))
         ·exact zg tb u AA (zg tb u AA (zg tb u AA (Ba (v:=(i64 (Sh.len p0.funcs))) (CW AA AA u) rfl (Ch dW AA) (zg tb u AA (zf u AA (AF (d6 (decide ((Sh.len p0.funcs)<=p2)) (Sh.AB c).symm _ (AJ AA))))))))
        ·refine zr tb AA AA ?_;obtain rfl:=Sh.AB b;try dsimp only[id]at h0
         obtain rfl:=Sh.AB h0;exact rd [(8,i64 (-1)),(9,.bool false)]
       refine zr tb AA AA ?_;refine ci c AA ?_ ?_<;>clear c<;>intro l0 c
       ·exact AL (d2 true (Sh.AB c).symm _ (Ag (L:=((1,i64 p1)::Nm p2 p3 [(4,BJ),(88,.bool true)])) ⟨.rfl,.rfl,.rfl,.rfl,.of (kf AV.bool l0),jf⟩))
       ·exact AH AA (zm tb 2 AA (AF (d2 (decide (p1=10)) (Sh.AB c).symm _ (AJ AA))))
  refine zr tb AA AA ?_;refine ci c AA ?_ ?_<;>clear c<;>intro l1 c
  ·exact AL (I true (Sh.AB c).symm _ (Ag (L:=((1,i64 p1)::Nm p2 p3 [(4,BJ),(11,i64 0),(18,i64 p1),(32,.bool true)])) ⟨.rfl,.rfl,.rfl,.rfl,.rfl,.rfl,.of (kf AV.bool l1),jf⟩))
  ·refine zr tb AA AA ?_;refine ci c AA ?_ ?_<;>clear c<;>intro l2 c
   ·exact AL (I true (Sh.AB c).symm _ (Ag (L:=((1,i64 p1)::Nm p2 p3 [(4,BJ),(11,i64 0),(18,i64 p1),(32,.bool true)])) ⟨.rfl,.rfl,.rfl,.rfl,.rfl,.rfl,.of (kf AV.bool l2),jf⟩))
   ·refine zr tb AA AA ?_;refine ci c AA ?_ ?_<;>clear c<;>intro l3 c
    ·exact AL (I true (Sh.AB c).symm _ (Ag (L:=((1,i64 p1)::Nm p2 p3 [(4,BJ),(11,i64 0),(18,i64 p1),(32,.bool true)])) ⟨.rfl,.rfl,.rfl,.rfl,.rfl,.rfl,.of (kf AV.bool l3),jf⟩))
    ·exact AH AA (zm tb 2 AA (AF (I (decide (p1=4)) (Sh.AB c).symm _ (AJ AA))))
end Go.Proofs.YtihdgoiebmfapaaGreat
