import Derived.Test.YtihdgoiebmfapaaGreatKTWalkP1
set_option linter.all false
namespace Go.Proofs.YtihdgoiebmfapaaGreat
open Go Go.Abs RC
attribute [local irreducible] Go.Abs.Dy
set_option maxRecDepth 100000
set_option maxHeartbeats 4000000
theorem cw:Ie Tryz.prog 95=true:=by kernel_rfl
theorem eX:Ie Tryz.prog 99=true:=by kernel_rfl
theorem cx:Jt Tryz.prog 95=some [(0,1),(1,1),(2,1)]:=by kernel_rfl
theorem ez:Jt Tryz.prog 99=some [(0,1),(1,1)]:=by kernel_rfl
theorem Md:Dt Tryz.prog 119=some ⟨32,1,24,[.sl []]⟩:=by kernel_rfl
theorem P8:Dt Tryz.prog 93=some ⟨95,3,56,[.sl [],.sl [],.int .i64 0]⟩:=by kernel_rfl
theorem TU:HM Tryz.prog 37 2=some 2:=by kernel_rfl
theorem fM:Program.underlying Tryz.prog 3=some (.int .i64):=by kernel_rfl
theorem RJ:DI Tryz.prog 23=true:=by kernel_rfl
theorem aW:DI Tryz.prog 93=true:=by kernel_rfl
theorem ec:EN Tryz.prog 93=some (false,1):=by kernel_rfl
theorem fE:EN Tryz.prog 95=some (true,3):=by kernel_rfl
theorem bP:EN Tryz.prog 99=some (true,2):=by kernel_rfl
theorem fO:IL Tryz.prog 3=some [.int .i64 0]:=by kernel_rfl
theorem bO:IL Tryz.prog 95=some [.zc,.zc,.int .i64 0]:=by kernel_rfl
theorem aY:IL Tryz.prog 99=some [.zc,.zc]:=by kernel_rfl
theorem RD {lJ:(List Int)}{lO:Int}{r:(List AN)×Int}(h0:Is lJ lO=some r):Ac Tryz.prog 86 [BI] [DK lJ lO] (λv st=>v=(ow 1 0 r.1)/\st=[DK lJ r.2,IC r.1]):=by
 unfold Is at h0;refine ai Tryz.func86 AA AA AA AA (zr tb AA AA (sr AA λK2 b4=>zq tb AA (bs h0 λa b5 h0=>?_)));refine Gy (rowsP:=[DK lJ lO]) (rows0:=[DK lJ lO]) (rows1:=[DK lJ a.2]) (rows2:=[IC a.1]) (rows1':=[DK lJ a.2]) (rows2':=[IC a.1]) (st':=[DK lJ a.2,IC a.1]) (v':=(ow 1 0 a.1)) [0] AH (hb 87) (Lp b5) rfl (by decide) rfl AA (.raw AA AA .nil) rfl AA (.raw AA AA .nil) (.pure (AB λ_=>AA) .nil) rfl AA ?_;refine zq tb AA (dn b4 AA (sr AA λK4 b6=>zm tb 2 AA (zz (Gx a.1) (Cq RJ AA AA AA) rfl (bs h0 λc b7 h0=>?_))));refine CF (rows0:=[DK lJ a.2]) (rows1:=[DK lJ c.2]) (st':=[DK lJ c.2,IC a.1]) (v':=(i64 c.1)) [0] AH (hb 83) (Aw b7) rfl (by decide) rfl AA (.raw AA AA .nil) rfl AA (.raw AA AA .nil) .nil AA AA ?_;refine zq tb AA (dn b6 AA (AE λK6 b8=>bs h0 λo9 b h0=>?_));have G:∀(f7:Int) (J:(List AN)),o9=(f7,J)->∀s,Wk 1 s ⟨89,Aa [(3,ow 1 0 J)],[DK lJ f7,IC J]⟩->K6 s:=by
  intro f7 J hq s hw;subst o9;refine b8 _ (AJ hw (zr tb AA AA ?_));obtain rfl:=Sh.AD h0;exact rt [(2,ow 1 0 J)]
 refine sr AA λb9 K=>zq tb AA (bs b λe M b=>?_);refine CF (rows0:=[DK lJ c.2]) (rows1:=[DK lJ e.2]) (st':=[DK lJ e.2,IC a.1]) (v':=(i64 e.1)) [0] AH (hb 83) (Aw M) rfl (by decide) rfl AA (.raw AA AA .nil) rfl AA (.raw AA AA .nil) .nil AA AA ?_;refine dn K AA (AU (zr tb AA AA ?_));refine ci b AA ?_ ?_<;>clear b<;>intro c0 b
 ·refine AI AA (zm tb 3 AA ?_);refine BD (m:=2) (l:=[(-1:Int),5,0,2]) (enc:=eI) AH BM (by decide) rfl AA AA AA AA AA ?_;refine AR (Wk.BJ (L:=[(0,BI),(3,ow 1 0 a.1),(15,ow 1 0 a.1),(16,i64 c.1),(17,BI),(18,ls eI [(-1:Int),5,0,2])]) (st':=(Wa lJ e.2 a.1 [])) (id:=2) rfl kY (AB λ_=>AA) ⟨.rfl,.rfl,.rfl,.rfl,.rfl,.BJ AA,fa⟩ AA) (bs b λf N b=>?_);refine CF (rows0:=[DK lJ e.2]) (rows1:=[DK lJ f.2]) (st':=(Wa lJ f.2 a.1 [])) (v':=(i64 f.1)) [0] AH (hb 70) (Bx N) rfl (by decide) rfl AA (.raw AA AA .nil) rfl AA (.raw AA AA .nil) .nil AA AA ?_;refine zq tb AA ?_;refine BD (m:=3) (l:=[(0:Int),1,5]) (enc:=eI) AH BM (by decide) rfl AA AA AA AA AA ?_;refine AR (Wk.BJ (L:=[(3,ow 1 0 a.1),(15,ow 1 0 a.1),(16,i64 c.1),(19,i64 f.1),(20,BI),(21,ls eI [(0:Int),1,5])]) (st':=((DK lJ f.2)::(IC a.1)::Cg [])) (id:=3) rfl kt (AB λ_=>AA) ⟨.rfl,.rfl,.rfl,.rfl,.rfl,.BJ AA,fa⟩ AA) (bs b λg O b=>?_);refine CF (rows0:=[DK lJ f.2]) (rows1:=[DK lJ g.2]) (st':=((DK lJ g.2)::(IC a.1)::Cg [])) (v':=(i64 g.1)) [0] AH (hb 70) (Bx O) rfl (by decide) rfl AA (.raw AA AA .nil) rfl AA (.raw AA AA .nil) .nil AA AA ?_;refine zz (.agg [i64 f.1,i64 g.1,.zc]) (DL LI LH Gf AA AA) rfl (bs b λc1 C b=>zz (Kl c.1) (CC C8 AA AA AA AA C) rfl (AR (Ag (L:=[(3,ow 1 0 a.1),(23,.agg [i64 f.1,i64 g.1,Su]),(24,Kl c.1)]) ⟨.rfl,.agg ⟨.rfl,.rfl,.zc,fa⟩,.rfl,fa⟩) (J5 (u':=(AN.mk f.1 g.1 [])) AH JF AA AA C AA AA AA kS rfl AA ?_)));exact AF (G g.2 (Sh.put a.1 c.1 (AN.mk f.1 g.1 [])) (Sh.AD b).symm _ (by refine Wk.trans (AT (L:=[(3,.own 1 0 (List.length a.1))]) (st':=[⟨0,72,2,[[.sl (List.map Ey lJ),i64 g.2]]⟩,⟨0,80,3,List.map Ai (Sh.put a.1 c.1 (AN.mk f.1 g.1 []))⟩]) [0,1] AA (by decide) rfl AA (.raw AA AA (.pure (AB λ_=>AA) .nil)) ⟨.rfl,fa⟩) ?_;exact Ag (L:=[(3,.own 1 0 (List.length (Sh.put a.1 c.1 (AN.mk f.1 g.1 []))))]) ⟨(.len (by simp only[Sh.GP])),fa⟩))
 ·refine zr tb AA AA ?_;refine ci b AA ?_ ?_<;>clear b<;>intro c2 b
  ·refine AI AA (zm tb 3 AA ?_);refine BD (m:=2) (l:=[(-1:Int),0,4,5]) (enc:=eI) AH BM (by decide) rfl AA AA AA AA AA ?_;refine AR (Wk.BJ (L:=(cb a.1 c.1 [(29,BI),(30,ls eI [(-1:Int),0,4,5])])) (st':=(Wa lJ e.2 a.1 [])) (id:=2) rfl kY (AB λ_=>AA) ⟨.rfl,.rfl,.rfl,.rfl,.BJ AA,fa⟩ AA) (bs b λh P b=>?_);refine CF (rows0:=[DK lJ e.2]) (rows1:=[DK lJ h.2]) (st':=(Wa lJ h.2 a.1 [])) (v':=(i64 h.1)) [0] AH (hb 70) (Bx P) rfl (by decide) rfl AA (.raw AA AA .nil) rfl AA (.raw AA AA .nil) .nil AA AA ?_;refine BD (m:=3) (l:=[h.1]) (enc:=eI) AH BM (by decide) rfl AA AA AA AA AA ?_;refine AR (Wk.BJ (L:=(cb a.1 c.1 [(32,ls eI [h.1])])) (st':=((DK lJ h.2)::(IC a.1)::Cg [])) (id:=3) rfl kt (AB λ_=>AA) ⟨.rfl,.rfl,.rfl,.BJ AA,fa⟩ AA) (bs b λk Q b=>zc (v':=(I6 k)) (hb 117) (Dl Q) rfl AA AA ?_);refine BD (m:=4) (l:=[(0:Int),0,0,0]) (enc:=eI) AH BM (by decide) rfl AA AA AA AA AA ?_;refine AR (Wk.BJ (L:=(cb a.1 c.1 [(33,I6 k),(34,ls eI [(0:Int),0,0,0])])) (st':=((DK lJ h.2)::(IC a.1)::Cg [⟨1,3,1,[]⟩])) (id:=4) rfl kp (AB λ_=>AA) ⟨.rfl,.rfl,.rfl,.rfl,.BJ AA,fa⟩ AA) (bs b λo R b=>zc (v':=(I6 o)) (hb 117) (Dl R) rfl AA AA ?_);refine BD (m:=5) (l:=([]:List Int)) (enc:=eI) AH BM (by decide) rfl AA AA AA AA AA ?_;refine AR (Wk.BJ (L:=(cb a.1 c.1 [(33,I6 k),(35,I6 o),(36,QI)])) (st':=((DK lJ h.2)::(IC a.1)::Cg (Cg []))) (id:=5) rfl kx (AB λ_=>AA) ⟨.rfl,.rfl,.rfl,.rfl,.rfl,.BJ AA,fa⟩ AA) (bs b λp S b=>zc (v':=(I6 p)) (hb 117) (Dl S) rfl AA AA ?_);refine BD (m:=6) (l:=[k,o,p]) (enc:=Bv) AH IV (by decide) rfl AA AA AA AA AA ?_;refine zz (.agg [i64 0,i64 0,ow 6 0 [k,o,p]]) (DL LI LH Gf AA AA) rfl (bs b λc3 D b=>zz (Kl c.1) (CC C8 AA AA AA AA D) rfl (AR (Wk.BJ (L:=[(3,ow 1 0 a.1),(39,.agg [i64 0,i64 0,ls Bv [k,o,p]]),(40,Kl c.1)]) (st':=((DK lJ h.2)::(IC a.1)::Cg (Cg [LV]))) (id:=6) rfl kz (AB λ_=>AA) ⟨.rfl,.agg ⟨.rfl,.rfl,.G5 AA,fa⟩,.rfl,fa⟩ AA) (J5 (u':=(AN.mk 0 0 [k,o,p])) AH JF AA AA D AA AA AA kS rfl AA ?_)));exact AF (G h.2 (Sh.put a.1 c.1 (AN.mk 0 0 [k,o,p])) (Sh.AD b).symm _ (by refine Wk.trans (AT (L:=[(3,.own 1 0 (List.length a.1))]) (st':=[⟨0,72,2,[[.sl (List.map Ey lJ),i64 h.2]]⟩,⟨0,80,3,List.map Ai (Sh.put a.1 c.1 (AN.mk 0 0 [k,o,p]))⟩]) [0,1] AA (by decide) rfl AA (.raw AA AA (.pure (AB λ_=>AA) .nil)) ⟨.rfl,fa⟩) ?_;exact Ag (L:=[(3,.own 1 0 (List.length (Sh.put a.1 c.1 (AN.mk 0 0 [k,o,p]))))]) ⟨(.len (by simp only[Sh.GP])),fa⟩))
  ·refine zr tb AA AA ?_;refine ci b AA ?_ ?_<;>clear b<;>intro c4 b
   ·refine AI AA (zm tb 4 AA ?_);refine BD (m:=2) (l:=[Sh.w (c.1+1)]) (enc:=eI) AH BM (by decide) rfl AA AA AA AA AA ?_;refine AR (Wk.BJ (L:=[(3,ow 1 0 a.1),(43,ow 1 0 a.1),(44,i64 c.1),(47,ls eI [Sh.w (c.1+1)])]) (st':=(Wa lJ e.2 a.1 [])) (id:=2) rfl kY (AB λ_=>AA) ⟨.rfl,.rfl,.rfl,.BJ AA,fa⟩ AA) (bs b λq T b=>zc (v':=(I6 q)) (hb 117) (Dl T) rfl AA AA ?_);refine BD (m:=3) (l:=[q]) (enc:=Bv) AH IV (by decide) rfl AA AA AA AA AA ?_;refine zz (.agg [i64 0,i64 0,ow 3 0 [q]]) (DL LI LH Gf AA AA) rfl (bs b λc5 E b=>zz (Kl c.1) (CC C8 AA AA AA AA E) rfl (AR (Wk.BJ (L:=[(3,ow 1 0 a.1),(50,.agg [i64 0,i64 0,ls Bv [q]]),(51,Kl c.1)]) (st':=(Wa lJ e.2 a.1 [LV])) (id:=3) rfl kt (AB λ_=>AA) ⟨.rfl,.agg ⟨.rfl,.rfl,.G5 AA,fa⟩,.rfl,fa⟩ AA) (J5 (u':=(AN.mk 0 0 [q])) AH JF AA AA E AA AA AA kS rfl AA ?_)));exact AF (G e.2 (Sh.put a.1 c.1 (AN.mk 0 0 [q])) (Sh.AD b).symm _ (by refine Wk.trans (AT (L:=[(3,.own 1 0 (List.length a.1))]) (st':=[⟨0,72,2,[[.sl (List.map Ey lJ),i64 e.2]]⟩,⟨0,80,3,List.map Ai (Sh.put a.1 c.1 (AN.mk 0 0 [q]))⟩]) [0,1] AA (by decide) rfl AA (.raw AA AA (.pure (AB λ_=>AA) .nil)) ⟨.rfl,fa⟩) ?_;exact Ag (L:=[(3,.own 1 0 (List.length (Sh.put a.1 c.1 (AN.mk 0 0 [q]))))]) ⟨(.len (by simp only[Sh.GP])),fa⟩))
   ·refine zr tb AA AA ?_;refine ci b AA ?_ ?_<;>clear b<;>intro c6 b
    ·refine AI AA (zm tb 2 AA ?_);refine BD (m:=2) (l:=[(0:Int),2,1]) (enc:=eI) AH BM (by decide) rfl AA AA AA AA AA ?_;refine AR (Wk.BJ (L:=[(54,ow 1 0 a.1),(55,BI),(56,ls eI [(0:Int),2,1])]) (st':=(Wa lJ e.2 a.1 [])) (id:=2) rfl kY (AB λ_=>AA) ⟨.rfl,.rfl,.BJ AA,fa⟩ AA) (bs b λn U b=>?_);refine CF (rows0:=[DK lJ e.2]) (rows1:=[DK lJ n.2]) (st':=(Wa lJ n.2 a.1 [])) (v':=(i64 n.1)) [0] AH (hb 70) (Bx U) rfl (by decide) rfl AA (.raw AA AA .nil) rfl AA (.raw AA AA .nil) .nil AA AA ?_;refine zz (.agg [i64 2,i64 n.1,.zc]) (DL LI LH Gf AA AA) rfl (AR (Ag (L:=[(54,ow 1 0 a.1),(58,.agg [i64 2,i64 n.1,Su])]) ⟨.rfl,.agg ⟨.rfl,.rfl,.zc,fa⟩,fa⟩) ?_);refine BD (m:=3) (l:=([AN.mk 2 n.1 []])) (enc:=Ai) AH C8 (by decide) rfl AA AA AA AA AA ?_;refine bs b λH V b=>Cv (l2:=([AN.mk 2 n.1 []])) AH C8 AA AA AA AA (Gr AA AA) (λ_=>AA) V AA (zq tb AA ?_);exact AF (G n.2 H (Sh.AD b).symm _ (by refine Wk.trans (DB (L:=[(3,ow 1 0 H)]) (st':=[DK lJ n.2,IC H,⟨0,3,1,[]⟩,ro 0 80 3 Ai ([AN.mk 2 n.1 []])]) (.raw AA AA AA (.pure AA (AB λ_=>AA) (.pure AA (by intro x hx;cases hx) (.pure AA (AB λ_=>AA) .nil)))) (.same AA)) ?_;exact AT [0,1] AA (by decide) rfl AA (.raw AA AA (.pure (AB λ_=>AA) .nil)) (.same AA)))
    ·refine zr tb AA AA ?_;refine ci b AA ?_ ?_<;>clear b<;>intro c7 b
     ·refine AI AA (zm tb 3 AA (bs b λd W b=>?_));refine CF (rows0:=[DK lJ e.2]) (rows1:=[DK lJ d.2]) (st':=[DK lJ d.2,IC a.1]) (v':=(i64 d.1)) [0] AH (hb 83) (Aw W) rfl (by decide) rfl AA (.raw AA AA .nil) rfl AA (.raw AA AA .nil) .nil AA AA ?_;refine BD (m:=2) (l:=([]:List Int)) (enc:=eI) AH BM (by decide) rfl AA AA AA AA AA ?_;refine AR (Wk.BJ (L:=((0,BI)::ay a.1 c.1 d.1 [(67,QI)])) (st':=(Wa lJ d.2 a.1 [])) (id:=2) rfl kY (AB λ_=>AA) ⟨.rfl,.rfl,.rfl,.rfl,.rfl,.BJ AA,fa⟩ AA) (bs b λt X b=>zc (v':=(I6 t)) (hb 117) (Dl X) rfl AA AA ?_);refine BD (m:=3) (l:=[(2:Int)]) (enc:=eI) AH BM (by decide) rfl AA AA AA AA AA ?_;refine AR (Wk.BJ (L:=((0,BI)::ay a.1 c.1 d.1 [(68,I6 t),(69,ls eI [(2:Int)])])) (st':=((DK lJ d.2)::(IC a.1)::Cg [])) (id:=3) rfl kt (AB λ_=>AA) ⟨.rfl,.rfl,.rfl,.rfl,.rfl,.rfl,.BJ AA,fa⟩ AA) (bs b λy Y b=>zc (v':=(I6 y)) (hb 117) (Dl Y) rfl AA AA ?_);refine BD (m:=4) (l:=([]:List Int)) (enc:=eI) AH BM (by decide) rfl AA AA AA AA AA ?_;refine AR (Wk.BJ (L:=((0,BI)::ay a.1 c.1 d.1 [(68,I6 t),(70,I6 y),(71,QI)])) (st':=((DK lJ d.2)::(IC a.1)::Cg [⟨1,3,1,[]⟩])) (id:=4) rfl kp (AB λ_=>AA) ⟨.rfl,.rfl,.rfl,.rfl,.rfl,.rfl,.rfl,.BJ AA,fa⟩ AA) (bs b λz Z b=>zc (v':=(I6 z)) (hb 117) (Dl Z) rfl AA AA ?_);refine BD (m:=5) (l:=([]:List Int)) (enc:=eI) AH BM (by decide) rfl AA AA AA AA AA ?_;refine AR (Wk.BJ (L:=((0,BI)::ay a.1 c.1 d.1 [(68,I6 t),(70,I6 y),(72,I6 z),(73,QI)])) (st':=((DK lJ d.2)::(IC a.1)::Cg (Cg []))) (id:=5) rfl kx (AB λ_=>AA) ⟨.rfl,.rfl,.rfl,.rfl,.rfl,.rfl,.rfl,.rfl,.BJ AA,fa⟩ AA) (bs b λA b0 b=>zc (v':=(I6 A)) (hb 117) (Dl b0) rfl AA AA ?_);refine BD (m:=6) (l:=[t,y,z,A]) (enc:=Bv) AH IV (by decide) rfl AA AA AA AA AA ?_;refine zq tb AA (bs b λu b1 b=>?_);refine CF (rows0:=[DK lJ d.2]) (rows1:=[DK lJ u.2]) (st':=((DK lJ u.2)::(IC a.1)::Cg (Cg [ro 0 82 1 Bv [t,y,z,A]]))) (v':=(i64 u.1)) [0] AH (hb 83) (Aw b1) rfl (by decide) rfl AA (.raw AA AA .nil) rfl AA (.raw AA AA .nil) .nil AA AA ?_;refine AR (Wk.BJ (L:=(ay a.1 c.1 d.1 [(75,ls Bv [t,y,z,A]),(77,i64 u.1)])) (st':=((DK lJ u.2)::(IC a.1)::Cg (Cg [LV]))) (id:=6) rfl kz (AB λ_=>AA) ⟨.rfl,.rfl,.rfl,.rfl,.BJ AA,.rfl,fa⟩ AA) (bs b λB b2 b=>Qx (i:=u.1) (j:=Sh.len [t,y,z,A]) AH IV AA AA AA (λ_=>AA) b2 (zz (.agg [i64 d.1,i64 0,ls Bv B]) (DL LI LH Gf AA AA) rfl (bs b λc8 F b=>zz (Kl c.1) (CC C8 AA AA AA AA F) rfl (J5 (u':=(AN.mk d.1 0 B)) AH JF AA AA F AA AA AA kS rfl AA ?_))));exact AF (G u.2 (Sh.put a.1 c.1 (AN.mk d.1 0 B)) (Sh.AD b).symm _ (by refine Wk.trans (AT (L:=[(3,.own 1 0 (List.length a.1))]) (st':=[⟨0,72,2,[[.sl (List.map Ey lJ),i64 u.2]]⟩,⟨0,80,3,List.map Ai (Sh.put a.1 c.1 (AN.mk d.1 0 B))⟩]) [0,1] AA (by decide) rfl AA (.raw AA AA (.pure (AB λ_=>AA) .nil)) ⟨.rfl,fa⟩) ?_;exact Ag (L:=[(3,.own 1 0 (List.length (Sh.put a.1 c.1 (AN.mk d.1 0 B))))]) ⟨(.len (by simp only[Sh.GP])),fa⟩))
     ·refine zr tb AA AA ?_;refine ci b AA ?_ ?_<;>clear b<;>intro c9 b
      ·refine AI AA (zq tb AA (zz (.agg [i64 0,i64 0,.zc]) (DL LI LH Gf AA AA) rfl (zz (.agg [i64 3,i64 0,.zc]) (DL LI LH Gf AA AA) rfl (AR (Ag (L:=[(83,ow 1 0 a.1),(84,.agg [i64 0,i64 0,Su]),(85,.agg [i64 3,i64 0,.zc])]) ⟨.rfl,.agg ⟨.rfl,.rfl,.zc,fa⟩,.rfl,fa⟩) (AR (Ag (L:=[(83,ow 1 0 a.1),(84,.agg [i64 0,i64 0,Su]),(85,.agg [i64 3,i64 0,Su])]) ⟨.rfl,.rfl,.agg ⟨.rfl,.rfl,.zc,fa⟩,fa⟩) ?_)))));refine BD (m:=2) (l:=([AN.mk 0 0 [],AN.mk 3 0 []])) (enc:=Ai) AH C8 (by decide) rfl AA AA AA AA AA ?_;refine bs b λI b3 b=>Cv (l2:=([AN.mk 0 0 [],AN.mk 3 0 []])) AH C8 AA AA AA AA (Gr AA AA) (λ_=>AA) b3 AA (zq tb AA ?_);exact AF (G e.2 I (Sh.AD b).symm _ (by refine Wk.trans (DB (L:=[(3,ow 1 0 I)]) (st':=[DK lJ e.2,IC I,ro 0 80 3 Ai ([AN.mk 0 0 [],AN.mk 3 0 []])]) (.raw AA AA AA (.pure AA (AB λ_=>AA) (.pure AA (AB λ_=>AA) .nil))) (.same AA)) ?_;exact AT [0,1] AA (by decide) rfl AA (.raw AA AA (.pure (AB λ_=>AA) .nil)) (.same AA)))
      ·exact AL (G e.2 a.1 (Sh.AD b).symm _ (AK AA))
theorem OG {N:Nat}{lJ:(List Int)}{lO:Int}{s1:(List Ad)}{lL:(List AN)}{r:AP×Int}(h0:Gs N lJ lO s1 lL=some r):Ac Tryz.prog 53 [BI,HG lL s1] [DK lJ lO,L7 s1] (λv st=>v=(.agg [Cw r.1.decls,ow 1 1 r.1.funcs])/\st=[DK lJ r.2,ro 1 37 5 BO r.1.funcs]):=by
 unfold Gs at h0;refine Ac.wk (r0:=(.agg [Cw r.1.decls,ow 1 1 r.1.funcs])) (st0:=(bI lJ r.2 r.1.funcs r.1.decls [])) ?_ (Du (L:=[(0,.agg [Cw r.1.decls,ow 1 1 r.1.funcs])]) (st':=[DK lJ r.2,ro 1 37 5 BO r.1.funcs]) [0,1] AA (by decide) rfl AA (.raw AA (.pure (AB λ_=>AA) fa)) (.same AA));refine ai Tryz.func53 AA AA AA AA (sr AA λX F=>Bt (m:=2) AH AA AA AA AA AA (Au (m:=3) AH IM AA AA (dn F AA (sr AA λY G=>zm tb 3 AA (zz (Gx s1) (Cq SN AA AA AA) rfl (bs h0 λc H h0=>?_))))));refine CF (rows0:=[DK lJ lO]) (rows1:=[DK lJ c.2]) (st':=((DK lJ c.2)::I8 s1 lL [LC])) (v':=(i64 c.1)) [0] AH (hb 83) (Aw H) rfl (by decide) rfl AA (.raw AA AA .nil) rfl AA (.raw AA AA .nil) .nil AA AA ?_;refine zq tb AA (dn G AA (sr AA λZ I=>zm tb 3 AA (bs h0 λa j h0=>zz (Kl c.1) (CC Cn AA AA AA AA j) rfl (zz (Fm a) (Ar Kn AA AA (CS j) kV rfl) rfl (Au (m:=4) AH LG AA AA (Ao AH Kn AA AA AA AA AA AA kV rfl (AR (Wk.BJ (L:=(bw c.1 a [])) (st':=((DK lJ c.2)::I8 s1 lL (Xl []))) (id:=4) rfl ke (ED AA) (.same AA) rfl) (dn I AA (AE λO J=>?_)))))))));refine bs h0 λq e h0=>?_;have n:∀(E:Int) (o:(List Ad)) (p:(List AN)),q=(E,o,p)->∀s,Wk 2 s ⟨80,Aa [(3,CK),(4,Iw)],bI lJ E o p [LC]⟩->O s:=by
  intro E o p hq s P;subst q;refine J _ (AJ P (sr AA λQ t=>zq tb AA (Ao AH D2 AA AA AA AA AA AA kU rfl (dn t AA ?_))));obtain rfl:=Sh.AD h0;exact Ap (Exists.intro _ (And.intro ((AT (L:=[(4,CK)]) (st':=(bI lJ E o p [])) [0,1,3] AA (by decide) rfl AA (.raw AA AA (.pure (AB λ_=>AA) (.raw AA AA .nil))) ⟨.rfl,fa⟩).trans (Ag (L:=[(4,CK)]) ⟨.rfl,fa⟩)) (Ar (x:=.tmp 4) (off:=0) (cs:=[Cw p,ow 1 1 o]) (vs:=[Cw p,ow 1 1 o]) D2 AA AA AA kU rfl _ ⟨AA,AA⟩)))
 refine sr AA λR u=>zq tb AA (bs e λf w e=>?_);refine CF (rows0:=[DK lJ c.2]) (rows1:=[DK lJ f.2]) (st':=((DK lJ f.2)::I8 s1 lL (Xl []))) (v':=(i64 f.1)) [0] AH (hb 83) (Aw w) rfl (by decide) rfl AA (.raw AA AA .nil) rfl AA (.raw AA AA .nil) .nil AA AA ?_;refine dn u AA (AU (zr tb AA AA ?_));refine ci e AA ?_ ?_<;>clear e<;>intro S e
 ·refine AJ (DB (L:=(bw c.1 a [])) (st':=((DK lJ f.2)::I8 s1 lL [LC,⟨0,37,5,[]⟩])) (.raw AA AA AA (.pure AA (AB λ_=>AA) (.raw AA AA AA (.raw AA AA AA (.pure AA (by intro x k;cases k) .nil))))) (.same AA)) ?_;refine Ba (I8 s1 lL [LC,⟨0,37,5,[]⟩]) 13 (by kernel_rfl) (by kernel_rfl) (by kernel_rfl) (by rfl) ?_;refine BH (.ptr 2 0 0 1) AH AA (λ_ _=>Es J0 AA AA kZ rfl) (BH (ow 1 0 s1) AH AA (λ_ _=>Bp OC AA AA AA AA) (BH (i64 c.1) AH AA (λ_ _=>BN AA) (BH (.Bc (O0 a) 0) AH AA (λ_ _=>Hy RK AA AA) (BH (ls eI a.params) AH AA (λ_ _=>HT JD AA AA) (BH (.Bc (O0 a) 1) AH AA (λ_ _=>Hy PN AA AA) (BH (i64 a.result) AH AA (λ_ _=>HT Gp AA AA) (BH BI AH AA (λ_ _=>BN AA) (BH (.Bc (O0 a) 2) AH AA (λ_ _=>Hy TU AA AA) (BH (V4 a) AH AA (λ_ _=>HH BG AA kg rfl) (bs e λb y e=>?_))))))))));refine GR (rows0:=[DK lJ f.2]) (rows1:=[DK lJ b.2]) (v':=(DD b.1.op b.1.num b.1.kids)) (y0:=(DK lJ b.2)) [0] AH (hb 84) (VJ y) rfl (by decide) rfl AA (.raw AA AA .nil) rfl AA (λ_=>(.raw AA AA .nil)) (λ_=>AA) rfl ?_;refine BH (.agg [ls eI a.params,i64 a.result,i64 b.1.op,i64 b.1.num,Gc b.1.kids]) AH AA (λ_ _=>DL SZ Sa LG AA AA) (BH (Kl c.1) AH AA (λ_ _=>CC Cn AA AA AA AA j) (Ev AA (J5 (u':=(Ad.mk a.params a.result b.1)) AH Kn AA AA j AA AA AA kV rfl AA ?_)));exact AF (n b.2 (Sh.put s1 c.1 (Ad.mk a.params a.result b.1)) lL (Sh.AD e).symm _ (by refine Wk.trans (Fj (st:=[⟨0,72,2,[[.sl (List.map Ey lJ),i64 b.2]]⟩,⟨0,37,5,List.map BO (Sh.put s1 c.1 (Ad.mk a.params a.result b.1))⟩,⟨0,26,2,[[.sl (List.map Ai lL),.own 1 0 (List.length s1)]]⟩,LC,⟨0,37,5,[]⟩]) (st':=[⟨0,72,2,[[.sl (List.map Ey lJ),i64 b.2]]⟩,⟨0,37,5,List.map BO (Sh.put s1 c.1 (Ad.mk a.params a.result b.1))⟩,⟨0,26,2,[[.sl (List.map Ai lL),.own 1 0 (List.length (Sh.put s1 c.1 (Ad.mk a.params a.result b.1)))]]⟩,LC,⟨0,37,5,[]⟩]) (by simp only[Sh.GP])) ?_;refine Wk.trans (Ls (L:=[(3,.ptr 2 0 0 0),(4,.ptr 3 0 0 0)]) (st':=[⟨0,72,2,[[.sl (List.map Ey lJ),i64 b.2]]⟩,⟨1,37,5,List.map BO (Sh.put s1 c.1 (Ad.mk a.params a.result b.1))⟩,⟨0,26,2,[[.sl (List.map Ai lL),.own 1 1 (List.length (Sh.put s1 c.1 (Ad.mk a.params a.result b.1)))]]⟩,LC,⟨0,37,5,[]⟩]) (st1:=[⟨0,72,2,[[.sl (List.map Ey lJ),i64 b.2]]⟩,⟨0,37,5,List.map BO (Sh.put s1 c.1 (Ad.mk a.params a.result b.1))⟩,⟨0,26,2,[[.sl (List.map Ai lL),.own 1 1 (List.length (Sh.put s1 c.1 (Ad.mk a.params a.result b.1)))]]⟩,LC,⟨0,37,5,[]⟩]) 1 AA (.raw AA AA (.pure (AB λ_=>AA) (.raw AA AA (.raw AA AA (.pure (by intro x k;cases k) .nil))))) rfl (.same AA)) ?_;exact AT [0,1,2,3] AA (by decide) rfl AA (.raw AA AA (.pure (AB λ_=>AA) (.raw AA AA (.raw AA AA .nil)))) (.same AA)))
 ·refine zr tb AA AA ?_;refine ci e AA ?_ ?_<;>clear e<;>intro T e
  ·refine AJ (DB (L:=(bw c.1 a [])) (st':=((DK lJ f.2)::I8 s1 lL [LC,⟨0,37,5,[]⟩])) (.raw AA AA AA (.pure AA (AB λ_=>AA) (.raw AA AA AA (.raw AA AA AA (.pure AA (by intro x k;cases k) .nil))))) (.same AA)) ?_;refine Ba (I8 s1 lL [LC,⟨0,37,5,[]⟩]) 16 (by kernel_rfl) (by kernel_rfl) (by kernel_rfl) (by rfl) ?_;refine BH (.ptr 2 0 0 1) AH AA (λ_ _=>Es J0 AA AA kZ rfl) (BH (ow 1 0 s1) AH AA (λ_ _=>Bp OC AA AA AA AA) (BH (i64 c.1) AH AA (λ_ _=>BN AA) (BH (.Bc (O0 a) 0) AH AA (λ_ _=>Hy RK AA AA) (BH (ls eI a.params) AH AA (λ_ _=>HT JD AA AA) (BH BI AH AA (λ_ _=>BN AA) ?_)))));refine FH AH (λK zz=>GI (l:=[(0:Int),1,9,-1]) (enc:=eI) AH BM (by decide) rfl AA AA AA AA (AB λ_=>AA) (As AA)) ?_;refine bs e λi z e=>?_;refine GR (rows0:=[DK lJ f.2]) (rows1:=[DK lJ i.2]) (v':=(i64 i.1)) (y0:=(DK lJ i.2)) [0] AH (hb 70) (Bx z) rfl (by decide) rfl AA (.raw AA AA .nil) rfl AA (λ_=>(.raw AA AA .nil)) (λ_=>AA) rfl ?_;refine FH AH (λK zz=>GI (l:=[i.1]) (enc:=eI) AH BM (by decide) rfl AA AA AA AA (AB λ_=>AA) (As AA)) ?_;refine bs e λh A e=>?_;refine FH AH (λK zz=>BX (v:=(ls eI h)) AH (hb 85) (Ac.wk (FN A) (by refine Wk.trans (Wk.BJ (L:=[(0,ls eI h)]) (st':=[⟨1,3,1,[]⟩]) (id:=0) rfl kX (AB λ_=>AA) ⟨.BJ AA,fa⟩ AA) ?_;exact AT [] AA (by decide) rfl AA .nil (.same AA))) rfl AA AA (As AA)) ?_;refine BH (.Bc (O0 a) 1) AH AA (λ_ _=>Hy PN AA AA) (BH (i64 a.result) AH AA (λ_ _=>HT Gp AA AA) (BH (.Bc (O0 a) 2) AH AA (λ_ _=>Hy TU AA AA) (BH (V4 a) AH AA (λ_ _=>HH BG AA kg rfl) (BH (.agg [ls eI h,i64 a.result,i64 a.body.op,i64 a.body.num,ls Az a.body.kids]) AH AA (λ_ _=>DL SZ Sa LG AA AA) (BH (Kl c.1) AH AA (λ_ _=>CC Cn AA AA AA AA j) (Ev AA (J5 (u':=(Ad.mk h a.result a.body)) AH Kn AA AA j AA AA AA kV rfl AA ?_)))))));exact AF (n i.2 (Sh.put s1 c.1 (Ad.mk h a.result a.body)) lL (Sh.AD e).symm _ (by refine Wk.trans (Fj (st:=[⟨0,72,2,[[.sl (List.map Ey lJ),i64 i.2]]⟩,⟨0,37,5,List.map BO (Sh.put s1 c.1 (Ad.mk h a.result a.body))⟩,⟨0,26,2,[[.sl (List.map Ai lL),.own 1 0 (List.length s1)]]⟩,LC,⟨0,37,5,[]⟩]) (st':=[⟨0,72,2,[[.sl (List.map Ey lJ),i64 i.2]]⟩,⟨0,37,5,List.map BO (Sh.put s1 c.1 (Ad.mk h a.result a.body))⟩,⟨0,26,2,[[.sl (List.map Ai lL),.own 1 0 (List.length (Sh.put s1 c.1 (Ad.mk h a.result a.body)))]]⟩,LC,⟨0,37,5,[]⟩]) (by simp only[Sh.GP])) ?_;refine Wk.trans (Ls (L:=[(3,.ptr 2 0 0 0),(4,.ptr 3 0 0 0)]) (st':=[⟨0,72,2,[[.sl (List.map Ey lJ),i64 i.2]]⟩,⟨1,37,5,List.map BO (Sh.put s1 c.1 (Ad.mk h a.result a.body))⟩,⟨0,26,2,[[.sl (List.map Ai lL),.own 1 1 (List.length (Sh.put s1 c.1 (Ad.mk h a.result a.body)))]]⟩,LC,⟨0,37,5,[]⟩]) (st1:=[⟨0,72,2,[[.sl (List.map Ey lJ),i64 i.2]]⟩,⟨0,37,5,List.map BO (Sh.put s1 c.1 (Ad.mk h a.result a.body))⟩,⟨0,26,2,[[.sl (List.map Ai lL),.own 1 1 (List.length (Sh.put s1 c.1 (Ad.mk h a.result a.body)))]]⟩,LC,⟨0,37,5,[]⟩]) 1 AA (.raw AA AA (.pure (AB λ_=>AA) (.raw AA AA (.raw AA AA (.pure (by intro x k;cases k) .nil))))) rfl (.same AA)) ?_;exact AT [0,1,2,3] AA (by decide) rfl AA (.raw AA AA (.pure (AB λ_=>AA) (.raw AA AA (.raw AA AA .nil)))) (.same AA)))
  ·refine zr tb AA AA ?_;refine ci e AA ?_ ?_<;>clear e<;>intro U e
   ·refine AJ (DB (L:=(bw c.1 a [])) (st':=((DK lJ f.2)::I8 s1 lL [LC,⟨0,37,5,[]⟩])) (.raw AA AA AA (.pure AA (AB λ_=>AA) (.raw AA AA AA (.raw AA AA AA (.pure AA (by intro x k;cases k) .nil))))) (.same AA)) ?_;refine Ba (I8 s1 lL [LC,⟨0,37,5,[]⟩]) 12 (by kernel_rfl) (by kernel_rfl) (by kernel_rfl) (by rfl) ?_;refine BH (.ptr 2 0 0 1) AH AA (λ_ _=>Es J0 AA AA kZ rfl) (BH (ow 1 0 s1) AH AA (λ_ _=>Bp OC AA AA AA AA) (BH (i64 c.1) AH AA (λ_ _=>BN AA) (BH (.Bc (O0 a) 0) AH AA (λ_ _=>Hy RK AA AA) (BH (ls eI a.params) AH AA (λ_ _=>HT JD AA AA) (BH BI AH AA (λ_ _=>BN AA) ?_)))));refine FH AH (λK zz=>GI (l:=[(0:Int),1,3,5,-1]) (enc:=eI) AH BM (by decide) rfl AA AA AA AA (AB λ_=>AA) (As AA)) ?_;refine bs e λd B e=>?_;refine GR (rows0:=[DK lJ f.2]) (rows1:=[DK lJ d.2]) (v':=(i64 d.1)) (y0:=(DK lJ d.2)) [0] AH (hb 70) (Bx B) rfl (by decide) rfl AA (.raw AA AA .nil) rfl AA (λ_=>(.raw AA AA .nil)) (λ_=>AA) rfl ?_;refine BH (.Bc (O0 a) 2) AH AA (λ_ _=>Hy TU AA AA) (BH (V4 a) AH AA (λ_ _=>HH BG AA kg rfl) (BH (.agg [ls eI a.params,i64 d.1,i64 a.body.op,i64 a.body.num,ls Az a.body.kids]) AH AA (λ_ _=>DL SZ Sa LG AA AA) (BH (Kl c.1) AH AA (λ_ _=>CC Cn AA AA AA AA j) (Ev AA (J5 (u':=(Ad.mk a.params d.1 a.body)) AH Kn AA AA j AA AA AA kV rfl AA ?_)))));exact AF (n d.2 (Sh.put s1 c.1 (Ad.mk a.params d.1 a.body)) lL (Sh.AD e).symm _ (by refine Wk.trans (Fj (st:=[⟨0,72,2,[[.sl (List.map Ey lJ),i64 d.2]]⟩,⟨0,37,5,List.map BO (Sh.put s1 c.1 (Ad.mk a.params d.1 a.body))⟩,⟨0,26,2,[[.sl (List.map Ai lL),.own 1 0 (List.length s1)]]⟩,LC,⟨0,37,5,[]⟩]) (st':=[⟨0,72,2,[[.sl (List.map Ey lJ),i64 d.2]]⟩,⟨0,37,5,List.map BO (Sh.put s1 c.1 (Ad.mk a.params d.1 a.body))⟩,⟨0,26,2,[[.sl (List.map Ai lL),.own 1 0 (List.length (Sh.put s1 c.1 (Ad.mk a.params d.1 a.body)))]]⟩,LC,⟨0,37,5,[]⟩]) (by simp only[Sh.GP])) ?_;refine Wk.trans (Ls (L:=[(3,.ptr 2 0 0 0),(4,.ptr 3 0 0 0)]) (st':=[⟨0,72,2,[[.sl (List.map Ey lJ),i64 d.2]]⟩,⟨1,37,5,List.map BO (Sh.put s1 c.1 (Ad.mk a.params d.1 a.body))⟩,⟨0,26,2,[[.sl (List.map Ai lL),.own 1 1 (List.length (Sh.put s1 c.1 (Ad.mk a.params d.1 a.body)))]]⟩,LC,⟨0,37,5,[]⟩]) (st1:=[⟨0,72,2,[[.sl (List.map Ey lJ),i64 d.2]]⟩,⟨0,37,5,List.map BO (Sh.put s1 c.1 (Ad.mk a.params d.1 a.body))⟩,⟨0,26,2,[[.sl (List.map Ai lL),.own 1 1 (List.length (Sh.put s1 c.1 (Ad.mk a.params d.1 a.body)))]]⟩,LC,⟨0,37,5,[]⟩]) 1 AA (.raw AA AA (.pure (AB λ_=>AA) (.raw AA AA (.raw AA AA (.pure (by intro x k;cases k) .nil))))) rfl (.same AA)) ?_;exact AT [0,1,2,3] AA (by decide) rfl AA (.raw AA AA (.pure (AB λ_=>AA) (.raw AA AA (.raw AA AA .nil)))) (.same AA)))
   ·refine zr tb AA AA ?_;refine ci e AA ?_ ?_<;>clear e<;>intro V e
    ·refine AI AA (zq tb AA (bs e λg C e=>?_));refine Gy (rowsP:=[DK lJ f.2]) (rows0:=[DK lJ f.2]) (rows1:=[DK lJ g.2]) (rows2:=[IC g.1]) (rows1':=[DK lJ g.2]) (rows2':=[IC g.1]) (st':=((DK lJ g.2)::I8 s1 lL (Xl [IC g.1]))) (v':=(ow 5 0 g.1)) [0] AH (hb 86) (RD C) rfl (by decide) rfl AA (.raw AA AA .nil) rfl AA (.raw AA AA .nil) (.pure (AB λ_=>AA) .nil) rfl AA ?_;refine zq tb AA (AR (Wk.BJ (L:=[(3,CK),(4,Iw),(69,Cw g.1),(70,CK)]) (st':=((DK lJ g.2)::I8 s1 lL (Xl [Mj]))) (id:=5) rfl kq (AB λ_=>AA) ⟨.rfl,.rfl,.BJ AA,.rfl,fa⟩ AA) (Ao AH Wx AA AA AA AA AA AA kZ rfl ?_));exact AF (n g.2 s1 g.1 (Sh.AD e).symm _ (by refine Wk.trans (Ls (L:=[(3,CK),(4,Iw)]) (st':=(bI lJ g.2 s1 g.1 (Xl [Mj]))) (st1:=((DK lJ g.2)::(L7 s1)::⟨0,26,2,[[Cw g.1,ow 1 1 s1]]⟩::Xl [Mj])) 1 AA (.raw AA AA (.pure (AB λ_=>AA) (.raw AA AA (.raw AA AA (.pure (by intro x k;cases k) (.pure (by intro x k;cases k) .nil)))))) rfl (.same AA)) ?_;exact AT [0,1,2,3] AA (by decide) rfl AA (.raw AA AA (.pure (AB λ_=>AA) (.raw AA AA (.raw AA AA .nil)))) (.same AA)))
    ·refine zr tb AA AA ?_;refine ci e AA ?_ ?_<;>clear e<;>intro W e
     ·refine AI AA (zm tb 3 AA ?_);refine BD (m:=5) (l:=[a]) (enc:=BO) AH Cn (by decide) rfl AA AA AA AA AA ?_;refine bs e λM D e=>Cv (l2:=[a]) AH Cn AA AA AA AA (Gr AA AA) (λ_=>AA) D AA (zq tb AA (Ao AH OC AA AA AA AA AA AA kr rfl ?_));exact AF (n f.2 M lL (Sh.AD e).symm _ (AT [0,1,2,3] AA (by decide) rfl AA (.raw AA AA (.pure (AB λ_=>AA) (.raw AA AA (.raw AA AA .nil)))) (.same AA)))
     ·exact AL (n f.2 s1 lL (Sh.AD e).symm _ (by refine Wk.trans (Ls (L:=[(3,CK),(4,Iw)]) (st':=(bI lJ f.2 s1 lL (Xl []))) (st1:=((DK lJ f.2)::(L7 s1)::⟨0,26,2,[[Cw lL,ow 1 1 s1]]⟩::Xl [])) 1 AA (.raw AA AA (.pure (AB λ_=>AA) (.raw AA AA (.raw AA AA (.pure (by intro x k;cases k) .nil))))) rfl (.same AA)) ?_;exact AT [0,1,2,3] AA (by decide) rfl AA (.raw AA AA (.pure (AB λ_=>AA) (.raw AA AA (.raw AA AA .nil)))) (.same AA)))
theorem Pu {N:Nat}{lJ:(List Int)}{lO:Int}{r:AP×Int}(h0:HU N lJ lO=some r):Ac Tryz.prog 25 [BI] [DK lJ lO] (λv st=>v=(HG r.1.decls r.1.funcs)/\st=[DK lJ r.2,L7 r.1.funcs]):=by
 unfold HU at h0;refine Ac.wk (r0:=(HG r.1.decls r.1.funcs)) (st0:=((DK lJ r.2)::I8 r.1.funcs r.1.decls [])) ?_ (Du (L:=[(0,HG r.1.decls r.1.funcs)]) (st':=[DK lJ r.2,L7 r.1.funcs]) [0,1] AA (by decide) rfl AA (.raw AA (.pure (AB λ_=>AA) fa)) (.same AA));refine ai Tryz.func25 AA AA AA AA (sr AA λg c=>Au (m:=1) AH IM AA AA (dn c AA (sr AA λh d=>zm tb 2 AA (bs h0 λb e h0=>?_))));refine Gy (rowsP:=[DK lJ lO]) (rows0:=[DK lJ lO]) (rows1:=[DK lJ b.2]) (rows2:=[L7 b.1.funcs]) (rows1':=[DK lJ b.2]) (rows2':=[L7 b.1.funcs]) (st':=[DK lJ b.2,LC,L7 b.1.funcs]) (v':=(.agg [Cw b.1.decls,ow 2 0 b.1.funcs])) [0] AH (hb 54) (OY e) rfl (by decide) rfl AA (.raw AA AA .nil) rfl AA (.raw AA AA .nil) (.pure (AB λ_=>AA) .nil) rfl AA ?_;refine bs h0 λa f h0=>?_;refine CF (rows0:=[DK lJ b.2,L7 b.1.funcs]) (rows1:=[DK lJ a.2,ro 1 37 5 BO a.1.funcs]) (st':=[DK lJ a.2,LC,ro 1 37 5 BO a.1.funcs]) (v':=(.agg [Cw a.1.decls,ow 2 1 a.1.funcs])) [0,2] AH (hb 53) (OG f) rfl (by decide) rfl AA (.raw AA AA (.pure (AB λ_=>AA) .nil)) rfl AA (.raw AA AA (.pure (AB λ_=>AA) .nil)) .nil AA AA ?_;refine Ao AH D2 AA AA AA AA AA AA kU rfl (dn d AA ?_);obtain rfl:=Sh.AD h0;exact Ap (Exists.intro _ (And.intro (((DB (L:=[(2,CV)]) (st':=[DK lJ a.2,⟨0,26,2,[[Cw a.1.decls,ow 2 0 a.1.funcs]]⟩,L7 a.1.funcs]) (.raw AA AA AA (.raw AA AA AA (.pure AA (AB λ_=>AA) .nil))) (.same AA)).trans (CR (L:=[(2,CK)]) (st':=((DK lJ a.2)::I8 a.1.funcs a.1.decls [])) (st1:=((DK lJ a.2)::bf a.1.funcs a.1.decls [])) [0,2,1] AA (.raw AA AA .nil) (by decide) rfl AA (.raw AA AA (.pure (AB λ_=>AA) (.raw AA AA .nil))) (.same AA))).trans (Ag (L:=[(2,CK)]) (.same AA))) (Ar (x:=.tmp 2) (off:=0) (cs:=[Cw a.1.decls,ow 1 0 a.1.funcs]) (vs:=[Cw a.1.decls,ow 1 0 a.1.funcs]) D2 AA AA AA kU rfl _ ⟨AA,AA⟩)))
theorem Ml {N:Nat}{p0:(List Int)}{r:AP}(h0:GA N p0=some r):Ac Tryz.prog 8 [ls Ey p0] [] (λv st=>v=(JL r)/\st=[]):=by
 unfold GA at h0;refine DA AA (ai Tryz.func8 AA AA AA AA (sr AA λg c=>Au (m:=0) AH IM AA AA (dn c AA (sr AA λh d=>zq tb AA (bs h0 λb e h0=>CD (v':=CV) AH (hb 26) (QF e) rfl AA ⟨(ED AA).any,fa⟩ AA AA (bs h0 λa f h0=>?_))))));refine Gy (rowsP:=[DK b.1 b.2]) (rows0:=[DK b.1 b.2]) (rows1:=[DK b.1 a.2]) (rows2:=[L7 a.1.funcs]) (rows1':=[DK b.1 a.2]) (rows2':=[L7 a.1.funcs]) (st':=[LC,DK b.1 a.2,L7 a.1.funcs]) (v':=(.agg [Cw a.1.decls,ow 2 0 a.1.funcs])) [1] AH (hb 25) (Pu f) rfl (by decide) rfl AA (.raw AA AA .nil) rfl AA (.raw AA AA .nil) (.pure (AB λ_=>AA) .nil) rfl AA ?_;refine AR (Wk.BJ (L:=[(2,BI),(5,.agg (OS a.1.decls a.1.funcs))]) (st':=[LC,DK b.1 a.2,⟨1,37,5,[]⟩]) (id:=2) rfl ko (AB λ_=>AA) ⟨.rfl,.agg ⟨.rfl,.G5 AA,fa⟩,fa⟩ AA) (Ao AH D2 AA AA AA AA AA AA kU rfl (dn d AA ?_));obtain rfl:=Sh.AD h0;exact Ap (Exists.intro _ (And.intro (Wk.refl _ _) (Ar (x:=.tmp 2) (off:=0) (cs:=(OS a.1.decls a.1.funcs)) (vs:=(OS a.1.decls a.1.funcs)) D2 AA AA AA kU rfl _ AA)))
theorem JW {p0:(List AN)}{p1:Int}{r:Bool}(h0:G8 p0 p1=some r):Ac Tryz.prog 111 [Cw p0,i64 p1] [] (λv st=>v=(.bool r)/\st=[]):=by
 unfold G8 at h0;refine ai Tryz.func111 AA AA AA AA (zr tb AA AA (AE λg d=>bs h0 λe b h0=>?_));have f:∀(c:Bool),e=c->∀s,Wk 0 s ⟨13,Aa [(4,.bool c)],[]⟩->g s:=by
  intro c i s h;subst e;refine d _ (AJ h ?_);obtain rfl:=Sh.AD h0;exact rt [(4,.bool c)]
 refine AI AA (zm tb 3 AA ?_);rcases Sh.Aj b with ⟨a,b⟩|⟨a,b⟩
 ·exact zg tb a AA (zg tb a AA (BV (v:=(Gx p0)) (CM AA AA a) rfl (Ch RJ AA) (zg tb a AA (zt a AA (zq tb AA (AF (f (decide (p1<=(Sh.len p0))) (Sh.AD b).symm _ (AK AA))))))))
 ·refine zs a AA ?_;iterate 3 refine zs a rfl ?_
  exact zf a AA (zq tb AA (AF (f false (Sh.AD b).symm _ (AK AA))))
theorem J8 {N:Nat}{p0:(List AN)}{p1:(List Int)}{r:Bool}(h0:Gq N p0 p1=some r):Ac Tryz.prog 79 [Cw p0,ls eI p1] [] (λv st=>v=(.bool r)/\st=[]):=by
 unfold Gq at h0;refine ai Tryz.func79 AA AA AA AA (zr tb AA AA (AE λp i=>sr AA λC j=>zq tb AA (zl tb AA AA (zq tb AA (dn j AA ?_)))));obtain⟨k,a,h0⟩:=Sh.Bl h0;have q:∀(_:Unit),k=Sum.inr ()->∀s,Wk 0 s ⟨18,Aa [],[]⟩->p s:=by
  intro _ D s t;subst k;refine i _ (AJ t (zr tb AA AA ?_));obtain rfl:=Sh.AD h0;exact rt [(4,.bool true)]
 refine AU (Av (σ:=Int) (λn v=>E0 p0 p1 n v=some k) (λl=>⟨18,Aa [(0,ls Ai p0),(7,ls eI p1),(8,i64 (Sh.len p1)),(9,i64 l)],[]⟩) N 0 a (AK AA) (λ_ o=>by rw[E0]at o;cases o) ?_);rintro n l a;rw[E0]at a;refine zr tb AA AA (AE λE m=>?_);refine ci a AA ?_ ?_<;>clear a<;>intro F a
 ·refine AL (m _ (AE λu b=>AU (sr AA λx c=>bs a λy d a=>zx BM d AA AA AA (zm tb 2 AA (dn c AA (sr AA λz e=>zm tb 2 AA (bs a λf g a=>zc (hb 111) (JW g) rfl AA AA ?_)))))));refine zq tb AA (dn e AA ?_);refine ci a AA ?_ ?_<;>clear a<;>intro h a
  ·have A:f=false:=by simpa using h
   refine zr tb AA AA ?_;obtain rfl:=Sh.AD a;obtain rfl:=Sh.AD h0;exact rt [(4,.bool false)]
  ·have B:f=true:=by simpa using h
   exact AL (b _ (AI AA (zm tb 2 AA (AF (xi (Sh.w (l+1)) a (AK AA))))))
 ·exact BB (q () (Sh.AD a).symm _ (AK AA))
theorem Po {N:Nat}{p0:(List AN)}{r:Bool}(h0:Hn N p0=some r):Ac Tryz.prog 110 [Cw p0] [] (λv st=>v=(.bool r)/\st=[]):=by
 unfold Hn at h0;refine ai Tryz.func110 AA AA AA AA (zr tb AA AA (AE λK2 c3=>sr AA λK3 c4=>zq tb AA (zl tb AA AA (zq tb AA (dn c4 AA ?_)))));refine ci h0 AA ?_ ?_<;>clear h0<;>intro b4 h0
 ·refine zr tb AA AA ?_;obtain rfl:=Sh.AD h0;exact rt [(2,.bool false)]
 ·refine AL (c3 _ (AE λK6 c5=>sr AA λK7 c6=>zq tb AA (zl tb AA AA (zq tb AA (dn c6 AA ?_)))));obtain⟨o9,d,h0⟩:=Sh.Bl h0;have M9:∀(_:Unit),o9=Sum.inr ()->∀s,Wk 0 s ⟨106,Aa [],[]⟩->K6 s:=by
   intro _ I s x;subst o9;refine c5 _ (AJ x (zr tb AA AA ?_));obtain rfl:=Sh.AD h0;exact rt [(2,.bool true)]
  refine AU (Av (σ:=Int) (λn v=>EJ N p0 n v=some o9) (λp=>⟨106,Aa [(0,ls Ai p0),(12,ls Ai p0),(13,i64 (Sh.len p0)),(14,i64 p)],[]⟩) N 0 d (AK AA) (λ_ C=>by rw[EJ]at C;cases C) ?_);rintro n p d;rw[EJ]at d;refine zr tb AA AA (AE λd6 J=>?_);refine ci d AA ?_ ?_<;>clear d<;>intro d7 d
  ·refine AL (J _ (AE λc7 K=>AU (sr AA λd8 L=>zq tb AA (bs d λb M d=>zx C8 M AA AA AA (zq tb AA (Au (m:=0) AH Gf AA AA (zq tb AA (Ao AH JF AA AA AA AA AA AA kS rfl (dn L AA ?_)))))))));refine AE λd9 O=>AE λc8 P=>bs d λQ a d=>?_;have u:∀(D:Bool),Q=D->∀s,Wk 0 s ⟨106,Aa ((0,Cw p0)::(3,i64 p)::(4,BI)::(12,Cw p0)::Pm p0 p [(52,.bool D)]),[Tu b]⟩->c8 s:=by
    intro D I s x;subst Q;refine P _ (AJ x ?_);refine ci d AA ?_ ?_<;>clear d<;>intro g0 d
    ·refine zr tb AA AA ?_;obtain rfl:=Sh.AD d;obtain rfl:=Sh.AD h0;exact rd [(2,.bool false)]
    ·refine AL (O _ (AE λc9 R=>sr AA λg1 S=>zm tb 2 AA (zl tb AA AA (zq tb AA (dn S AA ?_)))));obtain⟨E,a,d⟩:=Sh.Bl d;have d1:∀(_:Unit),E=Sum.inr ()->∀s,Wk 0 s ⟨106,Aa ((0,Cw p0)::(3,i64 p)::(4,BI)::(12,Cw p0)::Pm p0 p []),[Tu b]⟩->c9 s:=by
      intro _ I s x;subst E;refine R _ (AJ x (sr AA λg2 T=>zm tb 2 AA (bs d λy U d=>Qx (i:=0) (j:=p) AH C8 AA AA AA (λ_=>AA) U (zl tb AA AA (zq tb AA (dn T AA ?_))))));obtain⟨F,a,d⟩:=Sh.Bl d;have d2:∀(_:Unit),F=Sum.inr ()->∀s,Wk 0 s ⟨106,Aa ((0,Cw p0)::(12,Cw p0)::Pm p0 p []),[]⟩->c7 s:=by
       intro _ I s x;subst F;exact K _ (AJ x (AI AA (zm tb 2 AA (AF (xi (Sh.w (p+1)) d (AK AA))))))
      refine AU (Av (σ:=Int) (λn v=>Dh b y n v=some F) (λz=>⟨106,Aa [(0,ls Ai p0),(4,.ptr 0 0 0 0),(12,ls Ai p0),(13,i64 (Sh.len p0)),(14,i64 p),(74,ls Ai y),(75,i64 (Sh.len y)),(76,i64 z)],[⟨0,80,3,[Ai b]⟩]⟩) N 0 a (AK AA) (λ_ C=>by rw[Dh]at C;cases C) ?_);rintro n z a;rw[Dh]at a;refine zr tb AA AA (AE λg3 V=>?_);refine ci a AA ?_ ?_<;>clear a<;>intro g4 a
      ·refine AL (V _ (AE λg5 W=>AU (sr AA λg6 X=>bs a λY Z a=>zx C8 Z AA AA AA (zq tb AA (Au (m:=1) AH Gf AA AA (Ao AH JF AA AA AA AA AA AA kS rfl (dn X AA (AE λd3 b0=>bs a λb1 f a=>?_))))))));have A:∀(G:Bool),b1=G->∀s,Wk 0 s ⟨106,Aa ((0,Cw p0)::(4,BI)::(12,Cw p0)::Pm p0 p [(74,Cw y),(75,Gx y),(76,i64 z),(103,.bool G)]),[Tu b]⟩->d3 s:=by
        intro G I s x;subst b1;refine b0 _ (AJ x ?_);refine ci a AA ?_ ?_<;>clear a<;>intro g7 a
        ·refine zr tb AA AA ?_;obtain rfl:=Sh.AD a;obtain rfl:=Sh.AD d;obtain rfl:=Sh.AD h0;exact rd [(2,.bool false)]
        ·exact AL (W _ (AI AA (zm tb 2 AA (AF (xi (Sh.w (z+1)) a (AK AA))))))
       refine AI AA (zm tb 2 AA (zl tb AA AA (zm tb 2 AA ?_)));rcases Sh.Aj f with ⟨k,f⟩|⟨k,f⟩
       ·refine zg tb k AA (zg tb k AA (BV (v:=(i64 (Sh.len Y.cons))) (CM AA AA k) rfl (Ch Oi AA) (zg tb k AA (zt k AA (zq tb AA ?_)))));rcases Sh.Aj f with ⟨q,f⟩|⟨q,f⟩
        ·refine zg tb q AA ?_;iterate 4 refine zg tb q rfl ?_
         refine zt q AA (zq tb AA ?_);rcases Sh.Aj f with ⟨t,f⟩|⟨t,f⟩
         ·refine zg tb t AA ?_;iterate 4 refine zg tb t rfl ?_
          refine zt t AA ?_;exact AF (A (decide (Y.to=b.to)) (Sh.AD f).symm _ (AT [0] AA (by decide) rfl AA (.raw AA AA .nil) (.same AA)))
         ·refine zs t AA ?_;iterate 4 refine zs t rfl ?_
          refine zf t AA ?_;exact AF (A false (Sh.AD f).symm _ (AT [0] AA (by decide) rfl AA (.raw AA AA .nil) (.same AA)))
        ·refine zs q AA ?_;iterate 4 refine zs q rfl ?_
         refine zf q AA (zq tb AA ?_);iterate 5 refine zs rfl rfl ?_
         refine zf AA AA ?_;exact AF (A false (Sh.AD f).symm _ (AT [0] AA (by decide) rfl AA (.raw AA AA .nil) (.same AA)))
       ·refine zs k AA ?_;iterate 3 refine zs k rfl ?_
        refine zf k AA (zq tb AA ?_);iterate 5 refine zs rfl rfl ?_
        refine zf AA AA (zq tb AA ?_);iterate 5 refine zs rfl rfl ?_
        refine zf AA AA ?_;exact AF (A false (Sh.AD f).symm _ (AT [0] AA (by decide) rfl AA (.raw AA AA .nil) (.same AA)))
      ·exact BB (d2 () (Sh.AD a).symm _ (Bj _ AA))
     refine AU (Av (σ:=Int) (λn v=>Dk N b p0 n v=some E) (λB=>⟨106,Aa [(0,ls Ai p0),(3,i64 p),(4,.ptr 0 0 0 0),(12,ls Ai p0),(13,i64 (Sh.len p0)),(14,i64 p),(54,ls Bv b.cons),(55,i64 (Sh.len b.cons)),(56,i64 B)],[⟨0,80,3,[Ai b]⟩]⟩) N 0 a (AK AA) (λ_ C=>by rw[Dk]at C;cases C) ?_);rintro n B a;rw[Dk]at a;refine zr tb AA AA (AE λg8 b2=>?_);refine ci a AA ?_ ?_<;>clear a<;>intro g9 a
     ·refine AL (b2 _ (AE λh4 b3=>AU (sr AA λh5 b5=>bs a λh6 b6 a=>zx IV b6 AA AA AA (zq tb AA (Au (m:=1) AH Pz AA AA (Ao AH N8 AA AA AA AA AA AA kW rfl (dn b5 AA (AE λd4 b7=>bs a λb8 f a=>?_))))))));have b9:∀(H:Bool),b8=H->∀s,Wk 0 s ⟨106,Aa ((0,Cw p0)::(3,i64 p)::(4,BI)::(12,Cw p0)::Pm p0 p [(54,ls Bv b.cons),(55,i64 (Sh.len b.cons)),(56,i64 B),(70,.bool H)]),[Tu b]⟩->d4 s:=by
       intro H I s x;subst b8;refine b7 _ (AJ x ?_);refine ci a AA ?_ ?_<;>clear a<;>intro h7 a
       ·refine zr tb AA AA ?_;obtain rfl:=Sh.AD a;obtain rfl:=Sh.AD d;obtain rfl:=Sh.AD h0;exact rd [(2,.bool false)]
       ·exact AL (b3 _ (AI AA (zm tb 2 AA (AF (xi (Sh.w (B+1)) a (AK AA))))))
      refine AI AA (zm tb 2 AA (zl tb AA AA (zm tb 2 AA ?_)));rcases Sh.Aj f with ⟨g,f⟩|⟨g,f⟩
      ·refine zs g AA ?_;iterate 4 refine zs g rfl ?_
       refine zt g AA ?_;exact AF (b9 true (Sh.AD f).symm _ (AT [0] AA (by decide) rfl AA (.raw AA AA .nil) (.same AA)))
      ·refine zg tb g AA (zg tb g AA (zg tb g AA (bs f λd5 c0 f=>zd g (hb 79) (J8 c0) rfl AA AA AA (zg tb g AA (zf g AA ?_)))));exact AF (b9 (!d5) (Sh.AD f).symm _ (AT [0] AA (by decide) rfl AA (.raw AA AA .nil) (.same AA)))
     ·exact BB (d1 () (Sh.AD a).symm _ (AK AA))
   refine AI AA (zm tb 3 AA (bs a λh8 c1 a=>zc (hb 111) (JW c1) rfl AA AA (zm tb 2 AA ?_)));rcases Sh.Aj a with ⟨h,a⟩|⟨h,a⟩
   ·refine zs h AA ?_;iterate 4 refine zs h rfl ?_
    refine zt h AA (zq tb AA ?_);iterate 4 refine zs rfl rfl ?_
    refine zt AA AA (zq tb AA ?_);iterate 5 refine zs rfl rfl ?_
    iterate 8 refine zn rfl ?_
    exact zs AA AA (zt AA AA (AF (u true (Sh.AD a).symm _ (AK AA))))
   ·refine zg tb h AA (zg tb h AA (zg tb h AA (bs a λh9 c2 a=>zd h (hb 111) (JW c2) rfl AA AA AA (zg tb h AA (zf h AA (zq tb AA ?_))))));rcases Sh.Aj a with ⟨l,a⟩|⟨l,a⟩
    ·refine zs l AA ?_;iterate 3 refine zs l rfl ?_
     refine zt l AA (zq tb AA ?_);iterate 5 refine zs rfl rfl ?_
     iterate 8 refine zn rfl ?_
     exact zs AA AA (zt AA AA (AF (u true (Sh.AD a).symm _ (AK AA))))
    ·refine zg tb l AA (zg tb l AA (BV (v:=(i64 (Sh.len b.cons))) (CM AA AA l) rfl (Ch Oi AA) (zg tb l AA (zf l AA (zq tb AA ?_)))));rcases Sh.Aj a with ⟨c,a⟩|⟨c,a⟩
     ·refine zs c AA ?_;iterate 4 refine zs c rfl ?_
      iterate 8 refine zn rfl ?_
      exact zs c AA (zt c AA (AF (u true (Sh.AD a).symm _ (AK AA))))
     ·refine zg tb c AA (zg tb c AA (BV (v:=(i64 (Sh.len b.cons))) (CM AA AA c) rfl (Ch Oi AA) (zg tb c AA (zg tb c AA ?_))));rcases Sh.Aj a with ⟨e,a⟩|⟨e,a⟩
      ·refine zg tb e AA ?_;iterate 3 refine zg tb e rfl ?_
       rcases Sh.Aj a with ⟨o,a⟩|⟨o,a⟩
       ·exact zs o AA (zs o AA (zs o AA (BV (v:=(.bool true)) (CM AA AA e) rfl (J3 AA o AA) (BV (v:=(.bool true)) (CM AA AA c) rfl (J3 AA e AA) (zf c AA (AF (u true (Sh.AD a).symm _ (AK AA))))))))
       ·exact zg tb o AA (zg tb o AA (zg tb o AA (BV (v:=(.bool (!decide (b.to=0)))) (CM AA AA e) rfl (Ka AA o AA) (BV (v:=(.bool (!decide (b.to=0)))) (CM AA AA c) rfl (J3 AA e AA) (zf c AA (AF (u (!decide (b.to=0)) (Sh.AD a).symm _ (AK AA))))))))
      ·refine zs e AA ?_;iterate 3 refine zs e rfl ?_
       iterate 3 refine zn rfl ?_
       exact zs e AA (BV (v:=(.bool false)) (CM AA AA c) rfl (Ka AA e AA) (zf c AA (AF (u false (Sh.AD a).symm _ (AK AA)))))
  ·exact BB (M9 () (Sh.AD d).symm _ (AK AA))
theorem Qb {N:Nat}{p0:(List AN)}{p1:(List Bo)}{r:Bool}(h0:H9 N p0 p1=some r):Ac Tryz.prog 78 [Cw p0,ls Bw p1] [] (λv st=>v=(.bool r)/\st=[]):=by
 unfold H9 at h0;refine ai Tryz.func78 AA AA AA AA (zr tb AA AA (AE λK2 b3=>AE λK3 b4=>bs h0 λo5 a h0=>?_));have G:∀(t4:Bool),o5=t4->∀s,Wk 0 s ⟨102,Aa [(0,Cw p0),(1,ls Bw p1),(36,.bool t4)],[]⟩->K3 s:=by
  intro t4 hq s u;subst o5;refine b4 _ (AJ u ?_);refine ci h0 AA ?_ ?_<;>clear h0<;>intro b6 h0
  ·refine zr tb AA AA ?_;obtain rfl:=Sh.AD h0;exact rt [(4,.bool false)]
  ·refine AL (b3 _ (AE λK8 b5=>sr AA λK9 b7=>zq tb AA (zl tb AA AA (zq tb AA (dn b7 AA ?_)))));obtain⟨A,a,h0⟩:=Sh.Bl h0;have b8:∀(_:Unit),A=Sum.inr ()->∀s,Wk 0 s ⟨102,Aa [],[]⟩->K8 s:=by
    intro _ hq s u;subst A;refine b5 _ (AJ u (zr tb AA AA ?_));obtain rfl:=Sh.AD h0;exact rt [(4,.bool true)]
   refine AU (Av (σ:=Int) (λn v=>D3 N p0 p1 n v=some A) (λq=>⟨102,Aa [(0,ls Ai p0),(37,ls Bw p1),(38,i64 (Sh.len p1)),(39,i64 q)],[]⟩) N 0 a (AK AA) (λ_ H=>by rw[D3]at H;cases H) ?_);rintro n q a;rw[D3]at a;refine zr tb AA AA (AE λc5 I=>?_);refine ci a AA ?_ ?_<;>clear a<;>intro c6 a
   ·refine AL (I _ (AE λb9 J=>AU (sr AA λc7 K=>bs a λc L a=>zx P8 L AA AA AA (zq tb AA (Au (m:=0) AH bO AA AA (Ao AH fE AA AA AA AA AA AA kS rfl (dn K AA (AE λc8 M=>AE λc0 O=>?_))))))));refine bs a λP b a=>?_;have B:∀(C:Bool),P=C->∀s,Wk 0 s ⟨102,Aa [(0,Cw p0),(6,BI),(37,ls Bw p1),(38,Gx p1),(39,i64 q),(60,.bool C)],[⟨0,95,3,[[ls eI c.params,ls eI c.Fp,i64 c.result]]⟩]⟩->c0 s:=by
     intro C hq s u;subst P;refine O _ (AJ u ?_);refine ci a AA ?_ ?_<;>clear a<;>intro c9 a
     ·refine zr tb AA AA ?_;obtain rfl:=Sh.AD a;obtain rfl:=Sh.AD h0;exact rd [(4,.bool false)]
     ·refine AL (M _ (sr AA λd1 Q=>zm tb 2 AA (zl tb AA AA (zq tb AA (dn Q AA ?_)))));obtain⟨D,b,a⟩:=Sh.Bl a;have c1:∀(_:Unit),D=Sum.inr ()->∀s,Wk 0 s ⟨102,Aa [(0,Cw p0),(37,ls Bw p1),(38,Gx p1),(39,i64 q)],[]⟩->b9 s:=by
       intro _ hq s u;subst D;exact J _ (AJ u (AI AA (zm tb 2 AA (AF (xi (Sh.w (q+1)) a (AK AA))))))
      refine AU (Av (σ:=Int) (λn v=>D6 c n v=some D) (λx=>⟨102,Aa [(0,ls Ai p0),(6,.ptr 0 0 0 0),(37,ls Bw p1),(38,i64 (Sh.len p1)),(39,i64 q),(62,ls eI c.Fp),(63,i64 (Sh.len c.Fp)),(64,i64 x)],[⟨0,95,3,[[ls eI c.params,ls eI c.Fp,i64 c.result]]⟩]⟩) N 0 b (AK AA) (λ_ H=>by rw[D6]at H;cases H) ?_);rintro n x b;rw[D6]at b;refine zr tb AA AA (AE λd2 R=>?_);refine ci b AA ?_ ?_<;>clear b<;>intro d3 b
      ·refine AL (R _ (AE λd4 S=>AU (sr AA λd5 T=>zq tb AA (bs b λU V b=>zx BM V AA AA AA (zm tb 3 AA (dn T AA (AE λc2 W=>bs b λX g b=>?_)))))));have t:∀(E:Bool),X=E->∀s,Wk 0 s ⟨102,Aa [(0,Cw p0),(6,BI),(37,ls Bw p1),(38,Gx p1),(39,i64 q),(62,ls eI c.Fp),(63,i64 (Sh.len c.Fp)),(64,i64 x),(99,.bool E)],[⟨0,95,3,[[ls eI c.params,ls eI c.Fp,i64 c.result]]⟩]⟩->c2 s:=by
        intro E hq s u;subst X;refine W _ (AJ u ?_);refine ci b AA ?_ ?_<;>clear b<;>intro d6 b
        ·refine zr tb AA AA ?_;obtain rfl:=Sh.AD b;obtain rfl:=Sh.AD a;obtain rfl:=Sh.AD h0;exact rd [(4,.bool false)]
        ·exact AL (S _ (AI AA (zm tb 2 AA (AF (xi (Sh.w (x+1)) b (AK AA))))))
       refine AI AA (zm tb 3 AA ?_);rcases Sh.Aj g with ⟨h,g⟩|⟨h,g⟩
       ·refine zs h AA ?_;iterate 4 refine zs h rfl ?_
        refine zt h AA (zq tb AA ?_);iterate 6 refine zs rfl rfl ?_
        refine zt AA AA (zq tb AA ?_);iterate 3 refine zs rfl rfl ?_
        iterate 8 refine zn rfl ?_
        exact zs AA AA (zt AA AA (AF (t true (Sh.AD g).symm _ (AK AA))))
       ·refine zg tb h AA (zg tb h AA (zg tb h AA (BV (v:=(i64 (Sh.len c.params))) (CM AA AA h) rfl (Ch Fe AA) (zg tb h AA (zf h AA (zq tb AA ?_))))));rcases Sh.Aj g with ⟨e,g⟩|⟨e,g⟩
        ·refine zs e AA ?_;iterate 5 refine zs e rfl ?_
         refine zt e AA (zq tb AA ?_);iterate 3 refine zs rfl rfl ?_
         iterate 8 refine zn rfl ?_
         exact zs AA AA (zt AA AA (AF (t true (Sh.AD g).symm _ (AK AA))))
        ·refine zg tb e AA (zg tb e AA (zg tb e AA (bs g λc3 Y g=>BV (v:=(.Bc (eI c3) 0)) (CM AA AA e) rfl (CZ BM AA AA Y AA) (zg tb e AA (zg tb e AA (zf e AA (zq tb AA ?_)))))));rcases Sh.Aj g with ⟨d,g⟩|⟨d,g⟩
         ·refine zs d AA (zs d AA (zs d AA ?_));iterate 8 refine zn rfl ?_
          exact zs d AA (zt d AA (AF (t true (Sh.AD g).symm _ (AK AA))))
         ·refine zg tb d AA (zg tb d AA (zg tb d AA ?_));rcases Sh.Aj g with ⟨i,g⟩|⟨i,g⟩
          ·refine zg tb i AA ?_;iterate 4 refine zg tb i rfl ?_
           exact bs g λF Z g=>BV (v:=(.Bc (eI F) 0)) (CM AA AA i) rfl (CZ BM AA AA Z AA) (zg tb i AA (zg tb i AA (BV (v:=(.bool (decide (U<=F)))) (CM AA AA d) rfl (J3 AA i AA) (zf d AA (AF (t (decide (U<=F)) (Sh.AD g).symm _ (AK AA)))))))
          ·refine zs i AA ?_;iterate 7 refine zs i rfl ?_
           exact BV (v:=(.bool false)) (CM AA AA d) rfl (Ka AA i AA) (zf d AA (AF (t false (Sh.AD g).symm _ (AK AA))))
      ·exact BB (c1 () (Sh.AD b).symm _ (Bj _ AA))
    refine AI AA (zm tb 2 AA (zl tb AA AA (zm tb 2 AA ?_)));rcases Sh.Aj b with ⟨j,b⟩|⟨j,b⟩
    ·refine zs j AA ?_;iterate 4 refine zs j rfl ?_
     refine zt j AA (zq tb AA ?_);iterate 5 refine zs rfl rfl ?_
     exact zt AA AA (AF (B true (Sh.AD b).symm _ (AK AA)))
    ·refine zg tb j AA (zg tb j AA (zg tb j AA (bs b λd7 b0 b=>zd j (hb 79) (J8 b0) rfl AA AA AA (zg tb j AA (zf j AA (zq tb AA ?_))))));rcases Sh.Aj b with ⟨k,b⟩|⟨k,b⟩
     ·refine zs k AA ?_;iterate 4 refine zs k rfl ?_
      exact zt k AA (AF (B true (Sh.AD b).symm _ (AK AA)))
     ·exact zg tb k AA (zg tb k AA (zg tb k AA (bs b λc4 b1 b=>zd k (hb 111) (JW b1) rfl AA AA AA (zg tb k AA (zf k AA (AF (B (!c4) (Sh.AD b).symm _ (AK AA))))))))
   ·exact BB (b8 () (Sh.AD a).symm _ (AK AA))
 refine AI AA (zq tb AA (bs a λd8 b2 a=>zc (hb 110) (Po b2) rfl AA AA (zm tb 2 AA ?_)));rcases Sh.Aj a with ⟨l,a⟩|⟨l,a⟩
 ·refine zs l AA (zs l AA (zs l AA (zt l AA (zq tb AA ?_))));iterate 3 refine zs rfl rfl ?_
  refine zt AA AA (zq tb AA ?_);iterate 6 refine zs rfl rfl ?_
  refine zt AA AA (zq tb AA ?_);iterate 5 refine zs rfl rfl ?_
  exact zt AA AA (AF (G true (Sh.AD a).symm _ (AK AA)))
 ·refine zg tb l AA (BV (v:=(Gx p1)) (CM AA AA l) rfl (Ch aW AA) (zg tb l AA (zf l AA (zq tb AA ?_))));rcases Sh.Aj a with ⟨o,a⟩|⟨o,a⟩
  ·refine zs o AA (zs o AA (zs o AA (zt o AA (zq tb AA ?_))));iterate 6 refine zs rfl rfl ?_
   refine zt AA AA (zq tb AA ?_);iterate 5 refine zs rfl rfl ?_
   exact zt AA AA (AF (G true (Sh.AD a).symm _ (AK AA)))
  ·refine zg tb o AA (BV (v:=(Gx p1)) (CM AA AA o) rfl (Ch aW AA) (zg tb o AA (zf o AA (zq tb AA ?_))));rcases Sh.Aj a with ⟨f,a⟩|⟨f,a⟩
   ·refine zs f AA ?_;iterate 5 refine zs f rfl ?_
    refine zt f AA (zq tb AA ?_);iterate 5 refine zs rfl rfl ?_
    exact zt AA AA (AF (G true (Sh.AD a).symm _ (AK AA)))
   ·refine zg tb f AA (bs a λy z a=>BV (v:=(.Bc (Bw y) 0)) (CM AA AA f) rfl (CZ P8 AA AA z AA) (zg tb f AA (zg tb f AA (BV (v:=(i64 (Sh.len y.params))) (CM AA AA f) rfl (Ch Fe AA) (zg tb f AA (zf f AA (zq tb AA ?_)))))));rcases Sh.Aj a with ⟨p,a⟩|⟨p,a⟩
    ·refine zs p AA ?_;iterate 4 refine zs p rfl ?_
     exact zt p AA (AF (G true (Sh.AD a).symm _ (AK AA)))
    ·refine zg tb p AA (BV (v:=(.Bc (Bw y) 0)) (CM AA AA p) rfl (CZ P8 AA AA z AA) ?_);iterate 3 refine zg tb p rfl ?_
     exact zf p AA (AF (G (!decide (y.result=0)) (Sh.AD a).symm _ (AK AA)))
theorem Lg {N:Nat}{p0:AP}{r:Bool}(h0:G0 N p0=some r):Ac Tryz.prog 47 [JL p0] [] (λv st=>v=(.bool r)/\st=[]):=by
 unfold G0 at h0;refine ai Tryz.func47 AA AA AA AA (sr AA λO u=>Bt (m:=0) AH AA AA AA AA AA (zq tb AA (dn u AA (sr AA λP x=>Z1 (c:=4) (m:=1) (st':=[Zu p0.decls p0.funcs,ro 0 95 3 Bw ([]:List Bo)]) P8 AA AA AA AA AA (zq tb AA (dn x AA (AE λQ y=>sr AA λR z=>zm tb 2 AA ?_)))))));refine zl tb AA AA (zq tb AA (dn z AA ?_));refine ci h0 AA ?_ ?_<;>clear h0<;>intro S h0
 ·refine zr tb AA AA ?_;obtain rfl:=Sh.AD h0;exact rd [(2,.bool false)]
 ·refine AL (y _ (AE λF A=>sr AA λT B=>zm tb 2 AA (zl tb AA AA (zq tb AA (dn B AA (bs h0 λf b h0=>?_))))));have C:∀(d:(List Bo)),f=d->∀s,Wk 0 s ⟨31,Aa [(1,BI),(3,ow 1 0 d)],[Zu p0.decls p0.funcs,ro 0 95 3 Bw d]⟩->F s:=by
   intro d U s G;subst f;refine A _ (AJ G (sr AA λH h=>zm tb 3 AA (AR (Wk.BJ (L:=[(28,ls Ai p0.decls),(29,ls Bw d)]) (st':=[Zu p0.decls p0.funcs,⟨1,95,3,[]⟩]) (id:=1) rfl ku (AB λ_=>AA) ⟨.rfl,.BJ AA,fa⟩ AA) (bs h0 λD i h0=>zc (hb 78) (Qb i) rfl AA AA (zq tb AA (dn h AA ?_))))));obtain rfl:=Sh.AD h0;exact rd [(2,.bool D)]
  refine AU (Av (σ:=Int×(List Bo)) (λn v=>DZ p0 n v.1 v.2=some f) (λ(j,e)=>⟨31,Aa [(1,.ptr 0 0 0 0),(3,ow 1 0 e),(12,ls BO p0.funcs),(13,i64 (Sh.len p0.funcs)),(14,i64 j)],[Zu p0.decls p0.funcs,ro 0 95 3 Bw e]⟩) N (0,[]) b (AK AA) (λ_ E=>by rw[DZ]at E;cases E) ?_);rintro n ⟨j,e⟩ b;rw[DZ]at b;refine zr tb AA AA (AE λI k=>?_);refine ci b AA ?_ ?_<;>clear b<;>intro J b
  ·refine AL (k _ (AE λK o=>AU (sr AA λM p=>bs b λa q b=>zx Cn q AA AA AA (zq tb AA (Au (m:=2) AH LG AA AA (Ao AH Kn AA AA AA AA AA AA kV rfl (dn p AA (AI AA (zm tb 5 AA ?_)))))))));refine zz (.agg [ls eI a.params,.zc,i64 a.result]) (DL cw cx bO AA AA) rfl (AR (Ag (L:=[(1,BI),(12,X1 p0),(13,i64 (Sh.len p0.funcs)),(14,i64 j),(18,ow 1 0 e),(23,.agg [ls eI a.params,QI,i64 a.result])]) ⟨.rfl,.rfl,.rfl,.rfl,.rfl,.agg ⟨.rfl,.zc,.rfl,fa⟩,fa⟩) ?_);refine BD (m:=3) (l:=([Bo.mk a.params [] a.result])) (enc:=Bw) AH P8 (by decide) rfl AA AA AA AA AA ?_;refine bs b λg t b=>Cv (l2:=([Bo.mk a.params [] a.result])) AH P8 AA AA AA AA (Gr AA AA) (λ_=>AA) t AA (zq tb AA (dn o AA (AI AA (zm tb 2 AA ?_))));exact AF (xi (Sh.w (j+1),g) b (by refine Wk.trans (ER (L:=[(1,BI),(3,ow 1 0 g),(12,X1 p0),(13,i64 (Sh.len p0.funcs)),(14,KC j)]) (st':=[Zu p0.decls p0.funcs,ro 0 95 3 Bw g,⟨0,37,5,[O0 a]⟩,ro 0 95 3 Bw ([Bo.mk a.params [] a.result])]) (.raw AA AA (.pure (AB λ_=>AA) (.raw AA AA (.pure (AB λ_=>AA) .nil)))) (.same AA)) ?_;exact AT [0,1] AA (by decide) rfl AA (.raw AA AA (.pure (AB λ_=>AA) .nil)) (.same AA)))
  ·exact BB (C e (Sh.AD b).symm _ (AK AA))
theorem OH {N:Nat}{la:Int->AG->Option (Bool×Int)}(my :∀{lJ:Int} {p0:AG} {r:Bool×Int},la lJ p0=some r->Ac Tryz.prog 34 [Bh p0,BI] [PZ lJ] (λv st=>v=(.bool r.1)/\st=[PZ r.2])){lJ:Int}{p0:AG}{r:Bool×Int}(h0:Hw N la lJ p0=some r):Ac Tryz.prog 34 [Bh p0,BI] [PZ lJ] (λv st=>v=(.bool r.1)/\st=[PZ r.2]):=by
 unfold Hw at h0;refine ai Tryz.func34 AA AA AA AA (sr AA λK p=>Bt (m:=1) AH AA AA AA AA AA (zq tb AA (dn p AA (AE λM q=>sr AA λO t=>zm tb 5 AA (Ao AH Gp AA AA AA AA AA AA kW rfl (dn t AA (zr tb AA AA ?_)))))));refine ci h0 AA ?_ ?_<;>clear h0<;>intro P h0
 ·refine zr tb AA AA ?_;obtain rfl:=Sh.AD h0;exact Ap (xr (AT (L:=[(4,.bool false)]) (st':=[⟨0,3,1,[[KC lJ]]⟩]) [0] AA (by decide) rfl AA (.raw AA AA .nil) ⟨.rfl,fa⟩))
 ·refine AL (q _ (AE λB u=>sr AA λQ x=>zm tb 2 AA (zl tb AA AA (zq tb AA (dn x AA ?_)))));obtain⟨e,a,h0⟩:=Sh.Bl h0;have y:∀(f:Int),e=Sum.inr f->∀s,Wk 1 s ⟨28,Aa [],[PZ f]⟩->B s:=by
   intro f R s C;subst e;refine u _ (AJ C (zr tb AA AA ?_));obtain rfl:=Sh.AD h0;exact rt [(4,.bool true)]
  refine AU (Av (σ:=Int×Int) (λn v=>DF p0 la n v.1 v.2=some e) (λ(z,c)=>⟨28,Aa [(1,.ptr 0 0 0 0),(17,ls Az p0.kids),(18,i64 (Sh.len p0.kids)),(19,i64 z)],[PZ c]⟩) N (0,Sh.w (lJ+1)) a (AT [0] AA (by decide) rfl AA (.raw AA AA .nil) (.same AA)) (λ_ A=>by rw[DF]at A;cases A) ?_);rintro n ⟨z,c⟩ a;rw[DF]at a;refine zr tb AA AA (AE λD g=>?_);refine ci a AA ?_ ?_<;>clear a<;>intro E a
  ·refine AL (g _ (AE λF h=>AU (sr AA λG i=>bs a λd j a=>zz (EE d) (Co BT AA AA j (Al _) rfl) rfl (zq tb AA (Au (m:=1) AH EB AA AA (Ao AH BG AA AA AA AA AA AA kS rfl (dn i AA (sr AA λH k=>zm tb 2 AA ?_))))))));refine bs a λb l a=>?_;refine CF (rows0:=[PZ c]) (rows1:=[PZ b.2]) (st':=[PZ b.2,dI d.op d.num d.kids]) (v':=(.bool b.1)) [0] AH (hb 34) (my l) rfl (by decide) rfl AA (.raw AA AA .nil) rfl AA (.raw AA AA .nil) .nil AA AA ?_;refine zq tb AA (dn k AA ?_);refine ci a AA ?_ ?_<;>clear a<;>intro o a
   ·have I:b.1=false:=by simpa using o
    refine zr tb AA AA ?_;obtain rfl:=Sh.AD a;obtain rfl:=Sh.AD h0;exact Ap (xr (AT (L:=[(4,.bool false)]) (st':=[PZ b.2]) [0] AA (by decide) rfl AA (.raw AA AA .nil) ⟨.rfl,fa⟩))
   ·have J:b.1=true:=by simpa using o
    refine AL (h _ (AI AA (zm tb 2 AA ?_)));exact AF (xi (Sh.w (z+1),b.2) a (AT [0] AA (by decide) rfl AA (.raw AA AA .nil) (.same AA)))
  ·exact BB (y c (Sh.AD a).symm _ (AK AA))
theorem ON {N:Nat}:∀(n:Nat),∀{lJ:Int} {p0:AG} {r:Bool×Int},Ek N n lJ p0=some r->Ac Tryz.prog 34 [Bh p0,BI] [PZ lJ] (λv st=>v=(.bool r.1)/\st=[PZ r.2]):=by
 intro n
 induction n with
 | zero=>intro lJ p0 r a;cases a
 | succ n ih=>
  intro lJ p0 r a;rw[Ek]at a;exact OH (λh=>ih h) a
theorem Pn {N:Nat}:∀{lJ:Int} {p0:AG} {r:Bool×Int},KJ N lJ p0=some r->Ac Tryz.prog 34 [Bh p0,BI] [PZ lJ] (λv st=>v=(.bool r.1)/\st=[PZ r.2]):=by
 intro lJ p0 r a;exact ON N a
theorem I3 {N:Nat}{p0:AG}{r:Int}(h0:Gg N p0=some r):Ac Tryz.prog 12 [Bh p0] [] (λv st=>v=(i64 r)/\st=[]):=by
 unfold Gg at h0;refine ai Tryz.func12 AA AA AA AA (sr AA λh b=>Bt (m:=0) AH AA AA AA AA AA (zq tb AA (dn b AA (sr AA λi c=>Au (m:=1) AH fO AA AA (Ao AH Gp AA AA AA AA AA AA kW rfl (dn c AA (AE λj d=>sr AA λk e=>zq tb AA ?_)))))));refine bs h0 λa f h0=>?_;refine CF (rows0:=[⟨0,3,1,[[i64 0]]⟩]) (rows1:=[PZ a.2]) (st':=[dI p0.op p0.num p0.kids,PZ a.2]) (v':=(.bool a.1)) [1] AH (hb 34) (Pn f) rfl (by decide) rfl AA (.raw AA AA .nil) rfl AA (.raw AA AA .nil) .nil AA AA ?_;refine zq tb AA (dn e AA ?_);refine ci h0 AA ?_ ?_<;>clear h0<;>intro g h0
 ·have l:a.1=false:=by simpa using g
  refine zr tb AA AA ?_;obtain rfl:=Sh.AD h0;exact rd [(2,i64 (-1))]
 ·have n:a.1=true:=by simpa using g
  refine AL (d _ (zr tb AA AA ?_));obtain rfl:=Sh.AD h0;exact rd [(2,i64 a.2)]
theorem N6 {N:Nat}{p0:AP}{r:BL}(h0:Jq N p0=some r):Ac Tryz.prog 80 [JL p0] [] (λv st=>v=(Jc r)/\st=[]):=by
 unfold Jq at h0;refine DA AA (ai Tryz.func80 AA AA AA AA (sr AA λI p=>Bt (m:=0) AH AA AA AA AA AA (Au (m:=1) AH aY AA AA (dn p AA (sr AA λJ q=>zm tb 2 AA (zz (.agg [ls Ai p0.decls,.zc]) (DL eX ez aY AA AA) rfl (Au (m:=2) AH aY AA AA (Ao AH bP AA AA AA AA AA AA kU rfl (dn q AA ?_)))))))));refine AE λB t=>sr AA λK u=>zm tb 2 AA (zl tb AA AA (zq tb AA (dn u AA (bs h0 λy b h0=>?_))));have C:∀(c:(List Bo)),y=c->∀s,Wk 0 s ⟨28,Aa [(2,BI),(3,CV)],[Yc,⟨0,99,2,[[ls Ai p0.decls,ow 2 0 c]]⟩,ro 0 95 3 Bw c]⟩->B s:=by
  intro c M s D;subst y;refine t _ (AJ D (sr AA λO z=>zq tb AA (AR (Wk.BJ (L:=[(2,BI),(27,.agg [ls Ai p0.decls,ls Bw c])]) (st':=[Yc,⟨0,99,2,[[ls Ai p0.decls,ow 2 0 c]]⟩,⟨1,95,3,[]⟩]) (id:=2) rfl ko (AB λ_=>AA) ⟨.rfl,.agg ⟨.rfl,.G5 AA,fa⟩,fa⟩ AA) (Ao AH bP AA AA AA AA AA AA kU rfl (dn z AA ?_)))));obtain rfl:=Sh.AD h0;exact Ap (Exists.intro _ (And.intro (Wk.refl _ _) (Ar (x:=.tmp 2) (off:=0) (cs:=[ls Ai p0.decls,ls Bw c]) (vs:=[ls Ai p0.decls,ls Bw c]) bP AA AA AA kU rfl _ AA)))
 refine AU (Av (σ:=Int×(List Bo)) (λn v=>FO p0 n v.1 v.2=some y) (λ(e,f)=>⟨28,Aa [(2,.ptr 0 0 0 0),(3,.ptr 1 0 0 0),(10,ls BO p0.funcs),(11,i64 (Sh.len p0.funcs)),(12,i64 e)],[Yc,⟨0,99,2,[[ls Ai p0.decls,ow 2 0 f]]⟩,ro 0 95 3 Bw f]⟩) N (0,[]) b (by refine Wk.trans (J9 (id:=2) (st':=[Zu p0.decls p0.funcs,Yc,⟨0,99,2,[[ls Ai p0.decls,.own 3 0 (List.length ([]:List Bo))]]⟩,ro 0 95 3 Bw ([]:List Bo)]) (j:=1) rfl AA 95 (size':=3) (by decide) rfl AA AA AA) ?_;exact CR (L:=[(2,.ptr 0 0 0 0),(3,.ptr 1 0 0 0),(10,ls BO p0.funcs),(11,i64 (Sh.len p0.funcs)),(12,i64 0)]) (st':=[Yc,⟨0,99,2,[[ls Ai p0.decls,.own 2 0 (List.length ([]:List Bo))]]⟩,ro 0 95 3 Bw ([]:List Bo)]) (st1:=[Yc,⟨0,99,2,[[ls Ai p0.decls,.own 3 0 (List.length ([]:List Bo))]]⟩,ro 0 95 3 Bw ([]:List Bo)]) [1,2,3] AA .nil (by decide) rfl AA (.raw AA AA (.raw AA AA (.pure (AB λ_=>AA) .nil))) (.same AA)) (λ_ A=>by rw[FO]at A;cases A) ?_);rintro n ⟨e,f⟩ b;rw[FO]at b;refine zr tb AA AA (AE λE g=>?_);refine ci b AA ?_ ?_<;>clear b<;>intro F b
 ·refine AL (g _ (AE λG h=>AU (sr AA λH i=>bs b λa k b=>zx Cn k AA AA AA (zq tb AA (Au (m:=3) AH LG AA AA (Ao AH Kn AA AA AA AA AA AA kV rfl (dn i AA (AI AA (zm tb 6 AA ?_)))))))));refine zz (.agg [ls eI a.params,.zc,i64 a.result]) (DL cw cx bO AA AA) rfl (AR (Ag (L:=[(2,BI),(3,CV),(10,X1 p0),(11,i64 (Sh.len p0.funcs)),(12,i64 e),(17,ow 2 0 f),(22,.agg [ls eI a.params,QI,i64 a.result])]) ⟨.rfl,.rfl,.rfl,.rfl,.rfl,.rfl,.agg ⟨.rfl,.zc,.rfl,fa⟩,fa⟩) ?_);refine BD (m:=4) (l:=([Bo.mk a.params [] a.result])) (enc:=Bw) AH P8 (by decide) rfl AA AA AA AA AA ?_;refine bs b λd o b=>Cv (l2:=([Bo.mk a.params [] a.result])) AH P8 AA AA AA AA (Gr AA AA) (λ_=>AA) o AA (zq tb AA (Ao AH ec AA AA AA AA AA AA kr rfl (dn h AA (AI AA (zm tb 2 AA ?_)))));exact AF (xi (Sh.w (e+1),d) b (by refine Wk.trans (ER (L:=[(2,BI),(3,CV),(10,X1 p0),(11,i64 (Sh.len p0.funcs)),(12,KC e)]) (st':=[Yc,⟨0,99,2,[[ls Ai p0.decls,ow 2 0 d]]⟩,ro 0 95 3 Bw d,⟨0,37,5,[O0 a]⟩,ro 0 95 3 Bw ([Bo.mk a.params [] a.result])]) (.raw AA AA (.raw AA AA (.pure (AB λ_=>AA) (.raw AA AA (.pure (AB λ_=>AA) .nil))))) (.same AA)) ?_;exact AT [0,1,2] AA (by decide) rfl AA (.raw AA AA (.raw AA AA (.pure (AB λ_=>AA) .nil))) (.same AA)))
 ·exact BB (C f (Sh.AD b).symm _ (AK AA))
theorem Cj {p0:(List Int)}{r:(List Int)}(h0:CI p0=some r):Ac Tryz.prog 82 [ls eI p0] [] (λv st=>v=(ow 0 0 r)/\st=[Bi r]):=by
 unfold CI at h0;refine ai Tryz.func82 AA AA AA AA (zr tb AA AA (AE λh c=>sr AA λi a=>zq tb AA ?_));refine TR AH Fe AA (λg=>?_) ?_
 ·subst g;replace h0:some []=some r:=by rw[<- h0];first|rfl|simp[Sh.app]
  refine dn a AA (GC (b:=true) rfl (λ_=>zr tb AA AA ?_) (λq=>nomatch (show true=false from (AA:true=true).symm.trans q)));obtain rfl:=Sh.AD h0;exact Ap (Exists.intro _ (And.intro (((Ig (t:=2) rfl 3 (size:=1) (by decide)).trans (Ag (L:=[(2,Zr)]) (.same AA))).trans (Ag (L:=[(2,Zr)]) (.same AA))) (And.intro AA AA)))
 ·refine dn a AA (GC (b:=false) rfl (λq=>nomatch (show false=true from (AA:false=false).symm.trans q)) (λ_=>AL (c _ (sr AA λj d=>?_))));refine BD (m:=0) (l:=([]:List Int)) (enc:=eI) AH BM (by decide) rfl AA AA AA AA AA ?_;refine zq tb AA (bs h0 λf e h0=>Cv (l2:=p0) AH BM AA AA AA AA MJ (λ_=>AA) e AA (zq tb AA (dn d AA ?_)));obtain rfl:=Sh.AD h0;exact Ap (xr (ER (L:=[(2,ow 0 0 f)]) (st':=[Bi f]) (.pure (AB λ_=>AA) .nil) (.same AA)))
theorem ND {p1:Int}{r:(List Int)}(h0:F8 p1=some r):Ac Tryz.prog 137 [.zc,i64 p1] [] (λv st=>v=(ow 0 0 r)/\st=[Bi r]):=by
 unfold F8 at h0;refine ai Tryz.func137 AA AA AA AA (zr tb AA AA (AE λp f=>zr tb AA AA ?_));refine ci h0 AA ?_ ?_<;>clear h0<;>intro q h0
 ·refine AI AA ?_;cases h0
 ·refine AL (f _ (AE λn g=>bs h0 λk a h0=>?_));have l:∀(c:(List Int)),k=c->∀s,Wk 0 s ⟨27,Aa [(0,ow 0 0 c)],[Bi c]⟩->n s:=by
   intro c w s o;subst k;refine g _ (AJ o (zr tb AA AA ?_));obtain rfl:=Sh.AD h0;exact rt [(4,ow 0 0 c)]
  refine sr AA λx h=>zm tb 2 AA (Xi Fe AA (zq tb AA (zz (i64 0) (XS Fe AA) rfl (zm tb 3 AA (dn h AA (zr tb AA AA ?_))))));refine ci a AA ?_ ?_<;>clear a<;>intro i a
  ·refine AI AA (zm tb 2 AA (Xi Fe AA (cG BM AA AA (zq tb AA (bs a λj d a=>bE (u:=0) (enc:=eI) (m:=0) (st':=[Bi j]) BM fM AA AA i AA d AA AA (zq tb AA (zz (i64 0) (XS Fe AA) rfl (bs a λb e a=>ZN AH BM AA AA AA AA e AA (zq tb AA ?_)))))))));exact AF (l b (Sh.AD a).symm _ (ER (L:=[(0,ow 0 0 b)]) (st':=[Bi b]) (.pure (AB λ_=>AA) .nil) (.same AA)))
  ·exact AL (l [] (Sh.AD a).symm _ ((Ig (t:=0) rfl 3 (size:=1) (by decide)).trans (Ag (L:=[(0,Zr)]) (.same AA))))
theorem Fq {N:Nat}{p0:(List (List Int))}{r:(List Int)}(h0:Ff N p0=some r):Ac Tryz.prog 130 [ls (eS eI) p0] [] (λv st=>v=(ow 0 0 r)/\st=[Bi r]):=by
 unfold Ff at h0;refine ai Tryz.func130 AA AA AA AA ?_;iterate 2 refine zr tb rfl rfl ?_
 refine AE λO C=>sr AA λK4 D=>zq tb AA (zl tb AA AA (zq tb AA (dn D AA (bs h0 λE a h0=>?_))));have P:∀(c:Int),E=c->∀s,Wk 0 s ⟨36,Aa [(0,ls (eS eI) p0),(3,i64 c)],[]⟩->O s:=by
  intro c Q s F;subst E;refine C _ (AJ F (sr AA λK9 G=>zq tb AA (bs h0 λi j h0=>CD (v':=(ow 0 0 i)) AH (hb 137) (ND j) rfl AA ⟨(By λ_=>AA),fa⟩ AA AA (zq tb AA (dn G AA (AE λH k=>sr AA λR l=>zq tb AA (zl tb AA AA (zq tb AA ?_))))))));refine dn l AA (bs h0 λg a h0=>?_);have I:∀(d:(List Int)),g=d->∀s,Wk 0 s ⟨36,Aa [(6,ow 0 0 d)],[Bi d]⟩->H s:=by
   intro d Q s F;subst g;refine k _ (AJ F (zr tb AA AA ?_));obtain rfl:=Sh.AD h0;exact rt [(2,ow 0 0 d)]
  refine AU (Av (σ:=Int×(List Int)) (λn v=>Cd p0 n v.1 v.2=some g) (λ(e,f)=>⟨36,Aa [(6,ow 0 0 f),(25,ls (eS eI) p0),(26,i64 (Sh.len p0)),(27,i64 e)],[ro 0 3 1 eI f]⟩) N (0,i) a (AK AA) (λ_ m=>by rw[Cd]at m;cases m) ?_);rintro n ⟨e,f⟩ a;rw[Cd]at a;refine zr tb AA AA (AE λS o=>?_);refine ci a AA ?_ ?_<;>clear a<;>intro T a
  ·refine AL (o _ (AE λU p=>AU (sr AA λV q=>bs a λJ t a=>zx Md t AA AA AA (zm tb 2 AA (dn q AA (AI AA (zm tb 2 AA (bs a λh u a=>Cv (l2:=J) AH BM AA AA AA AA MJ (λ_=>AA) u AA ?_))))))));exact zq tb AA (dn p AA (AI AA (zm tb 2 AA (AF (xi (Sh.w (e+1),h) a (ER (L:=[(6,ow 0 0 h),(25,ls (eS eI) p0),(26,Gx p0),(27,KC e)]) (st':=[Bi h]) (.pure (AB λ_=>AA) .nil) (.same AA)))))))
  ·exact BB (I f (Sh.AD a).symm _ (AK AA))
 refine AU (Av (σ:=Int×Int) (λn v=>Ce p0 n v.1 v.2=some E) (λ(b,K)=>⟨36,Aa [(0,ls (eS eI) p0),(3,i64 b),(9,ls (eS eI) p0),(10,i64 (Sh.len p0)),(11,i64 K)],[]⟩) N (0,0) a (AK AA) (λ_ m=>by rw[Ce]at m;cases m) ?_);rintro n ⟨b,K⟩ a;rw[Ce]at a;refine zr tb AA AA (AE λW x=>?_);refine ci a AA ?_ ?_<;>clear a<;>intro X a
 ·refine AL (x _ (AE λY y=>AU (sr AA λZ z=>bs a λM A a=>zx Md A AA AA AA (zm tb 2 AA (dn z AA (sr AA λb0 B=>zm tb 2 AA (zl tb AA AA (zm tb 2 AA ?_))))))));refine dn B AA (zr tb AA AA ?_);refine ci a AA ?_ ?_<;>clear a<;>intro b1 a
  ·refine AI AA ?_;cases a
  ·exact AL (y _ (AI AA (zm tb 2 AA (AF (xi (Sh.w (b+(Sh.len M)),Sh.w (K+1)) a (AK AA))))))
 ·exact BB (P b (Sh.AD a).symm _ (AK AA))
theorem IN {N:Nat}{lN:(List Int)->BL->AG->Option (Int)}(lS :∀{s0:(List Int)} {p0:BL} {p2:AG} {r:Int},lN s0 p0 p2=some r->Ac Tryz.prog 81 [Jc p0,ow 0 0 s0,Bh p2] [Bi s0] (λv st=>v=(i64 r)/\st=[Bi s0])){p0:BL}{p1:(List Int)}{p2:(List AG)}{p3:(List (List Int))}{r:Int}(h0:EF N lN p0 p1 p2 p3=some r):Ac Tryz.prog 112 [Jc p0,ls eI p1,Gc p2,ls (eS eI) p3] [] (λv st=>v=(i64 r)/\st=[]):=by
 unfold EF at h0;refine ai Tryz.func112 AA AA AA AA (sr AA λK1 Q=>Bt (m:=0) AH AA AA AA AA AA (zq tb AA (dn Q AA (zr tb AA AA (AE λX R=>sr AA λK4 S=>zq tb AA (zl tb AA AA (zq tb AA (dn S AA ?_))))))));obtain⟨T,o,h0⟩:=Sh.Bl h0;have Y:∀(nA:Int),T=Sum.inr nA->∀s,Wk 0 s ⟨44,Aa [(9,i64 nA)],[]⟩->X s:=by
  intro nA hq s U;subst T;refine R _ (AJ U (zr tb AA AA ?_));obtain rfl:=Sh.AD h0;exact rt [(8,i64 nA)]
 refine AU (Av (σ:=Int×Int) (λn v=>Be N p0 p1 p2 p3 lN n v.1 v.2=some T) (λ(ll,e)=>⟨44,Aa [(1,ls eI p1),(3,ls (eS eI) p3),(4,.ptr 0 0 0 0),(9,i64 ll),(13,ls Az p2),(14,i64 (Sh.len p2)),(15,i64 e)],[⟨0,99,2,[F4 p0]⟩]⟩) N (-1,0) o (AK AA) (λ_ W=>by rw[Be]at W;cases W) ?_);rintro n ⟨ll,e⟩ o;rw[Be]at o;refine zr tb AA AA (AE λZ E=>?_);refine ci o AA ?_ ?_<;>clear o<;>intro b0 o
 ·refine AL (E _ (AE λb1 F=>AU (sr AA λb2 G=>zq tb AA (bs o λf H o=>zz (EE f) (Co BT AA AA H (Al _) rfl) rfl (zq tb AA (Au (m:=1) AH EB AA AA (zq tb AA (Ao AH BG AA AA AA AA AA AA kS rfl (dn G AA ?_)))))))));refine AE λb3 I=>?_;refine HE (by kernel_rfl) ?_;refine bs o λc J o=>bs o λp A o=>bs o λy K o=>Jh λri a=>?_;have j:ri 0 (bm 11 2047) ⟨44,Aa (Pc p1 p3 ((9,i64 ll)::(10,i64 e)::(12,i64 y)::Pp p2 e [])),[LF p0]⟩:=(a _ _ _).2 (by
   refine HI AA (by kernel_rfl) ?_;refine I _ (AE λb4 M=>AE λV O=>bs o λP B o=>?_);have C:∀(D:Bool),P=D->∀s,Wk 0 s ⟨44,Aa (Pc p1 p3 ((12,i64 y)::Pp p2 e [(40,.bool D)])),[LF p0]⟩->V s:=by
    intro D hq s U;subst P;refine O _ (AJ U ?_);refine ci o AA ?_ ?_<;>clear o<;>intro b5 o
    ·refine zr tb AA AA ?_;obtain rfl:=Sh.AD o;obtain rfl:=Sh.AD h0;exact rd [(8,i64 (-1))]
    ·exact AL (M _ (AI AA (zm tb 2 AA (dn F AA (AI AA (zm tb 2 AA (AF (xi (y,Sh.w (e+1)) o (AK AA)))))))))
   refine AI AA (zm tb 3 AA ?_);rcases Sh.Aj B with ⟨k,B⟩|⟨k,B⟩
   ·refine zs k AA (zs k AA (zs k AA ?_));iterate 3 refine zn rfl ?_
    exact zs k AA (zt k AA (AF (C true (Sh.AD B).symm _ (AK AA))))
   ·refine zg tb k AA (zg tb k AA (zg tb k AA ?_));rcases Sh.Aj B with ⟨q,B⟩|⟨q,B⟩
    ·exact zg tb q AA (zg tb q AA (zg tb q AA (BV (v:=(.bool (!decide (y=ll)))) (CM AA AA k) rfl (J3 AA q AA) (zf k AA (AF (C (!decide (y=ll)) (Sh.AD B).symm _ (AK AA)))))))
    ·exact zs q AA (zs q AA (zs q AA (BV (v:=(.bool false)) (CM AA AA k) rfl (Ka AA q AA) (zf k AA (AF (C false (Sh.AD B).symm _ (Ag (L:=(Pc p1 p3 ((12,i64 y)::Pp p2 e [(40,.bool false)]))) (.same AA)))))))))
  have b:ri 2 (bm 11 511) ⟨44,Aa (Pc p1 p3 ((9,i64 ll)::(10,i64 e)::Pp p2 e [(20,Jc p0),(27,ow 1 0 p),(28,Bh f)])),[LF p0,Bi p]⟩:=(a _ _ _).2 (by
   refine xa [9] ⟨?_,fa⟩
   ·refine xo 9 ?_;refine CF (rows0:=[Bi p]) (rows1:=[Bi p]) (st':=[LF p0,Bi p]) (v':=(i64 y)) [1] AH (hb 81) (lS K) rfl (by decide) rfl AA (.pure (AB λ_=>AA) .nil) rfl AA (.pure (AB λ_=>AA) .nil) .nil AA AA ?_;refine AF ⟨AA,?_⟩;refine BQ tb 10 AA (by kernel_rfl) rfl ?_;exact xw a j (by exact AT [0] AA (by decide) rfl AA (.raw AA AA .nil) (.same AA)))
  have d:ri 3 (bm 11 383) ⟨44,Aa (Pc p1 p3 ((9,i64 ll)::(10,i64 e)::Pp p2 e [(20,Jc p0),(26,ow 1 0 [p1,c]),(28,Bh f)])),[LF p0,ro 0 32 1 (eS eI) [p1,c]]⟩:=(a _ _ _).2 (by
   refine xa [7] ⟨?_,fa⟩
   ·refine xo 7 ?_;exact AR (Wk.BJ (L:=(Pc p1 p3 ((9,i64 ll)::(10,i64 e)::Pp p2 e [(20,Jc p0),(26,ls (eS eI) [p1,c]),(28,Bh f)]))) (st':=[LF p0,⟨1,32,1,[]⟩]) (id:=1) rfl ku (AB λ_=>AA) ⟨.rfl,.rfl,.rfl,.rfl,.rfl,.rfl,.rfl,.rfl,.rfl,.BJ AA,.rfl,fa⟩ AA) (CD (v':=(ow 2 0 p)) AH (hb 130) (Fq A) rfl AA ⟨(By λ_=>AA),fa⟩ AA AA (MZ a b (by exact AT [0,2] AA (by decide) rfl AA (.raw AA AA (.pure (AB λ_=>AA) .nil)) (.same AA)))))
  have g:ri 4 (bm 11 127) ⟨44,Aa (Pc p1 p3 ((9,i64 ll)::(10,i64 e)::(11,CV)::Pp p2 e [(20,Jc p0),(26,ow 2 0 [p1,c])])),aC p0 f [ro 0 32 1 (eS eI) [p1,c]]⟩:=(a _ _ _).2 (by
   refine xa [7,8] ⟨?_,?_,fa⟩
   ·refine xo 7 ?_;refine AR (Wk.BJ (L:=(Pc p1 p3 ((9,i64 ll)::(10,i64 e)::(11,CV)::Pp p2 e [(20,Jc p0),(26,ls (eS eI) [p1,c])]))) (st':=(aC p0 f [⟨1,32,1,[]⟩])) (id:=2) rfl ko (AB λ_=>AA) ⟨.rfl,.rfl,.rfl,.rfl,.rfl,.rfl,.rfl,.rfl,.rfl,.rfl,.BJ AA,fa⟩ AA) (CD (v':=(ow 3 0 p)) AH (hb 130) (Fq A) rfl AA ⟨(By λ_=>AA),fa⟩ AA AA (AF ⟨AA,?_⟩));refine BQ tb 8 AA (by kernel_rfl) rfl ?_;exact xw a b (by exact AT [0,3] AA (by decide) rfl AA (.raw AA AA (.pure (AB λ_=>AA) .nil)) (.same AA))
   ·refine xo 8 ?_;exact zq tb AA (MZ a d (by exact AT [0,2] AA (by decide) rfl AA (.raw AA AA (.pure (AB λ_=>AA) .nil)) (.same AA))))
  have h:ri 4 (bm 11 319) ⟨44,Aa (Pc p1 p3 ((9,i64 ll)::(10,i64 e)::Pp p2 e [(20,Jc p0),(21,ls eI p1),(25,ls eI c),(28,Bh f)])),[LF p0]⟩:=(a _ _ _).2 (by
   refine xa [6] ⟨?_,fa⟩
   ·refine xo 6 ?_;refine BD (m:=1) (l:=[p1,c]) (enc:=(eS eI)) AH Md (by decide) rfl AA AA AA AA AA ?_;exact xd a d)
  have t:ri 5 (bm 11 63) ⟨44,Aa (Pc p1 p3 ((9,i64 ll)::(10,i64 e)::(11,CV)::Pp p2 e [(20,Jc p0),(21,ls eI p1),(25,ls eI c)])),aC p0 f []⟩:=(a _ _ _).2 (by
   refine xa [6,8] ⟨?_,?_,fa⟩
   ·refine xo 6 ?_;refine BD (m:=2) (l:=[p1,c]) (enc:=(eS eI)) AH Md (by decide) rfl AA AA AA AA AA ?_;exact xd a g
   ·refine xo 8 ?_;exact zq tb AA (MZ a h (by exact AT [0] AA (by decide) rfl AA (.raw AA AA .nil) (.same AA))))
  have i:ri 4 (bm 11 382) ⟨44,Aa (Pc p1 p3 ((9,i64 ll)::(10,i64 e)::Pp p2 e [(26,ow 1 0 [p1,c]),(28,Bh f)])),[LF p0,ro 0 32 1 (eS eI) [p1,c]]⟩:=(a _ _ _).2 (by
   refine xa [0,7] ⟨?_,?_,fa⟩
   ·exact xq tb a d
   ·refine xo 7 ?_;refine AR (Wk.BJ (L:=(Pc p1 p3 ((9,i64 ll)::(10,i64 e)::Pp p2 e [(26,ls (eS eI) [p1,c]),(28,Bh f)]))) (st':=[LF p0,⟨1,32,1,[]⟩]) (id:=1) rfl ku (AB λ_=>AA) ⟨.rfl,.rfl,.rfl,.rfl,.rfl,.rfl,.rfl,.rfl,.BJ AA,.rfl,fa⟩ AA) (CD (v':=(ow 2 0 p)) AH (hb 130) (Fq A) rfl AA ⟨(By λ_=>AA),fa⟩ AA AA (AF ⟨AA,?_⟩));refine BQ tb 0 AA (by kernel_rfl) rfl ?_;exact xw a b (by exact AT [0,2] AA (by decide) rfl AA (.raw AA AA (.pure (AB λ_=>AA) .nil)) (.same AA)))
  have u:ri 5 (bm 11 126) ⟨44,Aa (Pc p1 p3 ((9,i64 ll)::(10,i64 e)::(11,CV)::Pp p2 e [(26,ow 2 0 [p1,c])])),aC p0 f [ro 0 32 1 (eS eI) [p1,c]]⟩:=(a _ _ _).2 (by
   refine xa [0,7,8] ⟨?_,?_,?_,fa⟩
   ·exact xq tb a g
   ·refine xo 7 ?_;refine AR (Wk.BJ (L:=(Pc p1 p3 ((9,i64 ll)::(10,i64 e)::(11,CV)::Pp p2 e [(26,ls (eS eI) [p1,c])]))) (st':=(aC p0 f [⟨1,32,1,[]⟩])) (id:=2) rfl ko (AB λ_=>AA) ⟨.rfl,.rfl,.rfl,.rfl,.rfl,.rfl,.rfl,.rfl,.rfl,.BJ AA,fa⟩ AA) (CD (v':=(ow 3 0 p)) AH (hb 130) (Fq A) rfl AA ⟨(By λ_=>AA),fa⟩ AA AA (AF ⟨AA,?_⟩));refine BQ tb 0 AA (by kernel_rfl) rfl ?_;refine BQ tb 8 AA (by kernel_rfl) rfl ?_;exact xw a b (by exact AT [0,3] AA (by decide) rfl AA (.raw AA AA (.pure (AB λ_=>AA) .nil)) (.same AA))
   ·refine xo 8 ?_;exact zq tb AA (MZ a i (by exact AT [0,2] AA (by decide) rfl AA (.raw AA AA (.pure (AB λ_=>AA) .nil)) (.same AA))))
  have x:ri 5 (bm 11 318) ⟨44,Aa (Pc p1 p3 ((9,i64 ll)::(10,i64 e)::Pp p2 e [(21,ls eI p1),(25,ls eI c),(28,Bh f)])),[LF p0]⟩:=(a _ _ _).2 (by
   refine xa [0,6] ⟨?_,?_,fa⟩
   ·exact xq tb a h
   ·refine xo 6 ?_;refine BD (m:=1) (l:=[p1,c]) (enc:=(eS eI)) AH Md (by decide) rfl AA AA AA AA AA ?_;exact xd a i)
  have z:ri 6 (bm 11 62) ⟨44,Aa (Pc p1 p3 ((9,i64 ll)::(10,i64 e)::(11,CV)::Pp p2 e [(21,ls eI p1),(25,ls eI c)])),aC p0 f []⟩:=(a _ _ _).2 (by
   refine xa [0,6,8] ⟨?_,?_,?_,fa⟩
   ·exact xq tb a t
   ·refine xo 6 ?_;refine BD (m:=2) (l:=[p1,c]) (enc:=(eS eI)) AH Md (by decide) rfl AA AA AA AA AA ?_;exact xd a u
   ·refine xo 8 ?_;exact zq tb AA (MZ a x (by exact AT [0] AA (by decide) rfl AA (.raw AA AA .nil) (.same AA))))
  refine (a _ _ _).2 ?_;refine BQ tb 1 AA (by kernel_rfl) rfl ?_;refine BQ tb 2 AA (by kernel_rfl) rfl ?_;refine BQ tb 3 AA (by kernel_rfl) rfl ?_;refine Gm 4 (v:=(.Bc ((eS eI) c) 0)) rfl (by kernel_rfl) (by kernel_rfl) (CZ Md AA AA J AA) ?_;refine BQ tb 5 AA (by kernel_rfl) rfl ?_;exact xt a z
 ·exact BB (Y ll (Sh.AD o).symm _ (Bj _ AA))
theorem RM {N:Nat}{p0:(List AN)}{r:Int}(h0:Iv N p0=some r):Ac Tryz.prog 103 [Cw p0] [] (λv st=>v=(i64 r)/\st=[]):=by
 unfold Iv at h0;refine ai Tryz.func103 AA AA AA AA ?_;iterate 2 refine zr tb rfl rfl ?_
 refine AE λl f=>sr AA λy g=>zq tb AA (zl tb AA AA (zq tb AA (dn g AA (bs h0 λh a h0=>?_))));have o:∀(n7:Int),h=n7->∀s,Wk 0 s ⟨19,Aa [(3,i64 n7)],[]⟩->l s:=by
  intro n7 z s p;subst h;refine f _ (AJ p (zr tb AA AA ?_));obtain rfl:=Sh.AD h0;exact rt [(2,i64 n7)]
 refine AU (Av (σ:=Int×Int) (λn v=>EX p0 n v.1 v.2=some h) (λ(n5,i)=>⟨19,Aa [(3,i64 n5),(6,ls Ai p0),(7,i64 (Sh.len p0)),(8,i64 i)],[]⟩) N (0,0) a (AK AA) (λ_ k=>by rw[EX]at k;cases k) ?_);rintro n ⟨n5,i⟩ a;rw[EX]at a;refine zr tb AA AA (AE λq b=>?_);refine ci a AA ?_ ?_<;>clear a<;>intro t a
 ·refine AL (b _ (AE λu c=>AU (sr AA λx d=>bs a λj e a=>zx C8 e AA AA AA (zq tb AA (Au (m:=0) AH Gf AA AA (Ao AH JF AA AA AA AA AA AA kS rfl (dn d AA (AI AA (zm tb 3 AA ?_)))))))));exact zl tb AA AA (zm tb 2 AA (dn c AA (AI AA (zm tb 2 AA (AF (xi (Sh.w (n5+(Sh.len j.cons)),Sh.w (i+1)) a (Bj _ AA)))))))
 ·exact BB (o n5 (Sh.AD a).symm _ (AK AA))
theorem N9 {N:Nat}{p0:(List AN)}{p1:Int}{r:(List Int)}(h0:GY N p0 p1=some r):Ac Tryz.prog 66 [Cw p0,i64 p1] [] (λv st=>v=(ow 0 0 r)/\st=[Bi r]):=by
 unfold GY at h0;refine ai Tryz.func66 AA AA AA AA (zr tb AA AA (AE λT A=>AE λM B=>bs h0 λI b h0=>?_));have J:∀(C:Bool),I=C->∀s,Wk 0 s ⟨39,Aa [(0,Cw p0),(1,i64 p1),(15,.bool C)],[]⟩->M s:=by
  intro C O s D;subst I;refine B _ (AJ D ?_);refine ci h0 AA ?_ ?_<;>clear h0<;>intro U h0
  ·refine zr tb AA AA ?_;obtain rfl:=Sh.AD h0;exact Ap (Exists.intro _ (And.intro (((Ig (t:=4) rfl 3 (size:=1) (by decide)).trans (Ag (L:=[(4,Zr)]) (.same AA))).trans (Ag (L:=[(4,Zr)]) (.same AA))) (And.intro AA AA)))
  ·refine AL (A _ (sr AA λV E=>zm tb 3 AA (bs h0 λW F h0=>Qx (i:=0) (j:=Sh.w (p1-1)) AH C8 AA AA AA (λ_=>AA) F (bs h0 λc o h0=>zc (hb 103) (RM o) rfl AA AA (zq tb AA (dn E AA (zr tb AA AA (AE λG p=>sr AA λP q=>?_))))))));refine zm tb 3 AA (bs h0 λf u h0=>zx C8 u AA AA AA (zm tb 2 AA (zl tb AA AA (zq tb AA (dn q AA (bs h0 λh b h0=>?_))))));have H:∀(e:(List Int)),h=e->∀s,Wk 0 s ⟨39,Aa [(6,ow 0 0 e)],[Bi e]⟩->G s:=by
    intro e O s D;subst h;refine p _ (AJ D (zr tb AA AA ?_));obtain rfl:=Sh.AD h0;exact rt [(4,ow 0 0 e)]
   refine AU (Av (σ:=Int×(List Int)) (λn v=>FG f c n v.1 v.2=some h) (λ(d,g)=>⟨39,Aa [(5,i64 c),(6,ow 0 0 g),(27,i64 (Sh.len f.cons)),(28,i64 d)],[ro 0 3 1 eI g]⟩) N (0,[]) b ((Ig (t:=6) rfl 3 (size:=1) (by decide)).trans (Ag (L:=[(5,i64 c),(6,.own 0 0 (List.length ([]:List Int))),(27,i64 (Sh.len f.cons)),(28,i64 0)]) (.same AA))) (λ_ K=>by rw[FG]at K;cases K) ?_);rintro n ⟨d,g⟩ b;rw[FG]at b;refine zr tb AA AA (AE λQ x=>?_);refine ci b AA ?_ ?_<;>clear b<;>intro R b
   ·refine AL (x _ (AE λS y=>AU (zr tb AA AA (AI AA (zm tb 4 AA ?_)))));refine BD (m:=1) (l:=[Sh.w (c+d)]) (enc:=eI) AH BM (by decide) rfl AA AA AA AA AA ?_;refine bs b λk z b=>Cv (l2:=[Sh.w (c+d)]) AH BM AA AA AA AA (Gr AA AA) (λ_=>AA) z AA (zq tb AA (dn y AA (AI AA (zm tb 2 AA ?_))));exact AF (xi (Sh.w (d+1),k) b (by refine Wk.trans (ER (L:=[(5,i64 c),(6,ow 0 0 k),(27,i64 (Sh.len f.cons)),(28,KC d)]) (st':=[Bi k,ro 0 3 1 eI [Sh.w (c+d)]]) (.pure (AB λ_=>AA) (.pure (AB λ_=>AA) .nil)) (.same AA)) ?_;exact AT [0] AA (by decide) rfl AA (.pure (AB λ_=>AA) .nil) (.same AA)))
   ·exact BB (H g (Sh.AD b).symm _ (AK AA))
 refine AI AA (zm tb 3 AA ?_);rcases Sh.Aj b with ⟨a,b⟩|⟨a,b⟩
 ·refine zs a AA ?_;iterate 3 refine zs a rfl ?_
  exact zt a AA (AF (J true (Sh.AD b).symm _ (AK AA)))
 ·exact zg tb a AA (zg tb a AA (BV (v:=(Gx p0)) (CM AA AA a) rfl (Ch RJ AA) (zg tb a AA (zf a AA (AF (J (decide ((Sh.len p0)<p1)) (Sh.AD b).symm _ (AK AA)))))))
theorem Oo {N:Nat}{p0:(List AN)}{p1:Int}{r:Int×Dd}(h0:Hu N p0 p1=some r):Ac Tryz.prog 126 [Cw p0,i64 p1] [] (λv st=>v=(.Dm [i64 r.1,I6 r.2])/\st=[]):=by
 unfold Hu at h0;refine DA AA (ai Tryz.func126 AA AA AA AA (sr AA λS y=>zq tb AA (Au (m:=0) AH Pz AA AA (dn y AA (AE λH z=>sr AA λT A=>zq tb AA (zl tb AA AA (zq tb AA (dn A AA ?_))))))));obtain⟨B,b,h0⟩:=Sh.Bl h0;have I:∀(_:Unit),B=Sum.inr ()->∀s,Wk 0 s ⟨38,Aa [(5,BI)],[⟨0,82,1,[[.zc]]⟩]⟩->H s:=by
  intro _ J s C;subst B;refine z _ (AJ C (sr AA λU D=>zz (.agg [.zc]) (DL aw bd Pz AA AA) rfl (zq tb AA (Ao AH N8 AA AA AA AA AA AA kW rfl (dn D AA ?_)))));obtain rfl:=Sh.AD h0;exact Ap (Exists.intro _ (And.intro ((GX (id:=0) (cs:=[.zc]) (cs':=[QI]) (st':=[⟨0,82,1,[[QI]]⟩]) rfl ⟨le.zc,fa⟩ AA AA).trans (Ag (L:=[(4,i64 (-1)),(5,BI)]) (.same AA))) (Ar (x:=.tmp 5) (off:=0) (cs:=[QI]) (vs:=[QI]) N8 AA AA AA kW rfl _ AA)))
 refine AU (Av (σ:=Int×Int) (λn v=>FC p0 n v.1 v.2=some B) (λ(g,d)=>⟨38,Aa [(1,i64 g),(5,.ptr 0 0 0 0),(8,ls Ai p0),(9,i64 (Sh.len p0)),(10,i64 d)],[⟨0,82,1,[[.zc]]⟩]⟩) N (p1,0) b (AK AA) (λ_ G=>by rw[FC]at G;cases G) ?_);rintro n ⟨g,d⟩ b;rw[FC]at b;refine zr tb AA AA (AE λV E=>?_);refine ci b AA ?_ ?_<;>clear b<;>intro K b
 ·refine AL (E _ (AE λM h=>AU (sr AA λO i=>zq tb AA (bs b λc j b=>zx C8 j AA AA AA (zq tb AA (Au (m:=1) AH Gf AA AA (zq tb AA (Ao AH JF AA AA AA AA AA AA kS rfl (dn i AA ?_)))))))));refine AE λP k=>AE λF l=>bs b λo p b=>?_;have q:∀(e:Bool),o=e->∀s,Wk 0 s ⟨38,Aa [(1,i64 g),(5,BI),(6,i64 d),(7,CV),(8,Cw p0),(9,Gx p0),(10,i64 d),(23,.bool e)],[⟨0,82,1,[[.zc]]⟩,Tu c]⟩->F s:=by
   intro e J s C;subst o;refine l _ (AJ C ?_);refine ci b AA ?_ ?_<;>clear b<;>intro Q b
   ·refine AE λR t=>?_;refine Cz 8 (by kernel_rfl) (by kernel_rfl) (by rfl) ?_;iterate 5 refine yq tb rfl ?_
    refine bs b λf u b=>yx IV u AA AA AA ?_;iterate 2 refine yq tb rfl ?_
    refine As (Ao AH N8 AA AA AA AA AA AA kW rfl (dn t AA ?_));obtain rfl:=Sh.AD b;obtain rfl:=Sh.AD h0;exact Ap (Exists.intro _ (And.intro ((AT (L:=[(4,KC d),(5,BI)]) (st':=[⟨0,82,1,[Bv f]⟩]) [0] AA (by decide) rfl AA (.raw AA AA .nil) ⟨.rfl,.rfl,fa⟩).trans (Ag (L:=[(4,KC d),(5,BI)]) ⟨.rfl,.rfl,fa⟩)) (Ar (x:=.tmp 5) (off:=0) (cs:=(Bv f)) (vs:=(Bv f)) N8 AA AA AA kW rfl _ AA)))
   ·refine AL (k _ (AI AA (zm tb 3 AA (zl tb AA AA (zm tb 2 AA (dn h AA (AI AA (zm tb 2 AA ?_))))))));exact AF (xi (Sh.w (g-(Sh.len c.cons)),Sh.w (d+1)) b (AT [0] AA (by decide) rfl AA (.raw AA AA .nil) (.same AA)))
  refine AI AA (zm tb 3 AA ?_);rcases Sh.Aj p with ⟨a,p⟩|⟨a,p⟩
  ·exact zg tb a AA (zg tb a AA (zg tb a AA (BV (v:=(i64 (Sh.len c.cons))) (CM AA AA a) rfl (Ch Oi AA) (zg tb a AA (zt a AA (AF (q (decide (g<(Sh.len c.cons))) (Sh.AD p).symm _ (AK AA))))))))
  ·refine zs a AA ?_;iterate 4 refine zs a rfl ?_
   exact zf a AA (AF (q false (Sh.AD p).symm _ (AK AA)))
 ·exact BB (I () (Sh.AD b).symm _ (AK AA))
theorem MC {N:Nat}{p0:(List AN)}{p1:Int}{r:(List Int)}(h0:Ds N p0 p1=some r):Ac Tryz.prog 92 [Cw p0,i64 p1] [] (λv st=>v=(ls eI r)/\st=[]):=by
 unfold Ds at h0;refine ai Tryz.func92 AA AA AA AA (zr tb AA AA (sr AA λd a=>zm tb 2 AA (bs h0 λb c h0=>zc (v':=(.Dm [i64 b.1,I6 b.2])) (hb 126) (Oo c) rfl AA AA (zm tb 3 AA (Au (m:=0) AH Pz AA AA (zq tb AA (Ao AH N8 AA AA AA AA AA AA kW rfl (dn a AA (zr tb AA AA ?_)))))))));obtain rfl:=Sh.AD h0;exact rd [(4,ls eI b.2.fields)]
theorem My {p0:(List AN)}{p1:Int}{r:AN×Bool}(h0:JM p0 p1=some r):Ac Tryz.prog 131 [Cw p0,i64 p1] [] (λv st=>v=(U5 r.1 r.2)/\st=[]):=by
 unfold JM at h0;refine DA AA (ai Tryz.func131 AA AA AA AA (sr AA λu f=>Au (m:=0) AH Gf AA AA (zq tb AA (dn f AA (AE λw g=>AE λq h=>bs h0 λo c h0=>?_)))));have i:∀(j:Bool),o=j->∀s,Wk 0 s ⟨30,Aa [(0,Cw p0),(1,i64 p1),(4,BI),(23,.bool j)],[aF]⟩->q s:=by
  intro j y s t;subst o;refine h _ (AJ t ?_);refine ci h0 AA ?_ ?_<;>clear h0<;>intro z h0
  ·refine sr AA λA k=>zz (.agg [i64 0,i64 0,.zc]) (DL LI LH Gf AA AA) rfl (Ao AH JF AA AA AA AA AA AA kS rfl (zq tb AA (dn k AA ?_)));obtain rfl:=Sh.AD h0;exact Ap (Exists.intro _ (And.intro ((GX (id:=0) (cs:=[i64 0,i64 0,.zc]) (cs':=[i64 0,i64 0,Su]) (st':=[⟨0,80,3,[[i64 0,i64 0,Su]]⟩]) rfl ⟨le.rfl,le.rfl,le.zc,fa⟩ AA AA).trans (Ag (L:=[(4,BI),(5,.bool false)]) (.same AA))) (Ar (x:=.tmp 4) (off:=0) (cs:=[i64 0,i64 0,Su]) (vs:=[i64 0,i64 0,Su]) JF AA AA AA kS rfl _ AA)))
  ·refine AL (g _ (sr AA λB l=>zm tb 3 AA (bs h0 λp n h0=>zx C8 n AA AA AA (zq tb AA (Ao AH JF AA AA AA AA AA AA kS rfl (zq tb AA (dn l AA ?_)))))));obtain rfl:=Sh.AD h0;exact Ap (Exists.intro _ (And.intro (Ag (L:=[(4,BI),(5,.bool true)]) (.same AA)) (Ar (x:=.tmp 4) (off:=0) (cs:=(Ai p)) (vs:=(Ai p)) JF AA AA AA kS rfl _ AA)))
 refine AI AA (zm tb 3 AA ?_);rcases Sh.Aj c with ⟨b,c⟩|⟨b,c⟩
 ·refine zs b AA ?_;iterate 3 refine zs b rfl ?_
  refine zt b AA (zq tb AA ?_);iterate 8 refine zs rfl rfl ?_
  exact zt AA AA (AF (i true (Sh.AD c).symm _ (AK AA)))
 ·refine zg tb b AA (zg tb b AA (BV (v:=(Gx p0)) (CM AA AA b) rfl (Ch RJ AA) (zg tb b AA (zf b AA (zq tb AA ?_)))));rcases Sh.Aj c with ⟨a,c⟩|⟨a,c⟩
  ·refine zs a AA ?_;iterate 7 refine zs a rfl ?_
   exact zt a AA (AF (i true (Sh.AD c).symm _ (AK AA)))
  ·exact zg tb a AA (zg tb a AA (zg tb a AA (bs c λd e c=>BV (v:=(.Bc (Ai d) 0)) (CM AA AA a) rfl (CZ C8 AA AA e AA) (zg tb a AA (zg tb a AA (BV (v:=(i64 (Sh.len d.cons))) (CM AA AA a) rfl (Ch Oi AA) (zg tb a AA (zf a AA (AF (i (decide (0<(Sh.len d.cons))) (Sh.AD c).symm _ (AK AA)))))))))))
theorem F7 {N:Nat}{p0:(List Int)}{p1:(List Int)}{r:Bool}(h0:DH N p0 p1=some r):Ac Tryz.prog 132 [ls eI p0,ls eI p1] [] (λv st=>v=(.bool r)/\st=[]):=by
 unfold DH at h0;refine ai Tryz.func132 AA AA AA AA (zr tb AA AA (AE λF l=>sr AA λG m=>zq tb AA (zl tb AA AA (zq tb AA (zl tb AA AA (zq tb AA (dn m AA ?_)))))));refine ci h0 AA ?_ ?_<;>clear h0<;>intro t h0
 ·have H:decide ((Sh.len p0)=(Sh.len p1))=false:=by simpa using t
  refine zr tb AA AA ?_;obtain rfl:=Sh.AD h0;exact rt [(4,.bool false)]
 ·have I:decide ((Sh.len p0)=(Sh.len p1))=true:=by simpa using t
  refine AL (l _ (AE λx o=>sr AA λJ p=>zq tb AA (zl tb AA AA (zq tb AA (dn p AA ?_)))));obtain⟨b,a,h0⟩:=Sh.Bl h0;have q:∀(_:Unit),b=Sum.inr ()->∀s,Wk 0 s ⟨26,Aa [],[]⟩->x s:=by
   intro _ K s y;subst b;refine o _ (AJ y (zr tb AA AA ?_));obtain rfl:=Sh.AD h0;exact rt [(4,.bool true)]
  refine AU (Av (σ:=Int) (λn v=>Cx p0 p1 n v=some b) (λc=>⟨26,Aa [(0,ls eI p0),(1,ls eI p1),(12,i64 (Sh.len p0)),(13,i64 c)],[]⟩) N 0 a (AK AA) (λ_ u=>by rw[Cx]at u;cases u) ?_);rintro n c a;rw[Cx]at a;refine zr tb AA AA (AE λz d=>?_);refine ci a AA ?_ ?_<;>clear a<;>intro A a
  ·refine AL (d _ (AE λB e=>AU (zr tb AA AA (AE λC f=>?_))));refine Ca (by kernel_rfl) (by kernel_rfl) (by rfl) ?_;iterate 2 refine yq tb rfl ?_
   refine bs a λg h a=>yx BM h AA AA AA ?_;iterate 3 refine yq tb rfl ?_
   refine bs a λi j a=>yx BM j AA AA AA ?_;iterate 2 refine yq tb rfl ?_
   refine As (f _ ?_);refine ci a AA ?_ ?_<;>clear a<;>intro k a
   ·have D:decide (g=i)=false:=by simpa using k
    refine zr tb AA AA ?_;obtain rfl:=Sh.AD a;obtain rfl:=Sh.AD h0;exact rt [(4,.bool false)]
   ·have E:decide (g=i)=true:=by simpa using k
    exact AL (e _ (AI AA (zm tb 2 AA (AF (xi (Sh.w (c+1)) a (AK AA))))))
  ·exact BB (q () (Sh.AD a).symm _ (AK AA))
theorem Rt {N:Nat}{p0:(List AN)}{p1 p2 r:Int}(h0:JN N p0 p1 p2=some r):Ac Tryz.prog 133 [Cw p0,i64 p1,i64 p2] [] (λv st=>v=(i64 r)/\st=[]):=by
 unfold JN at h0;refine ai Tryz.func133 AA AA AA AA (zr tb AA AA (AE λA o=>sr AA λG p=>zq tb AA (zl tb AA AA (zq tb AA (dn p AA ?_)))));obtain⟨q,a,h0⟩:=Sh.Bl h0;have B:∀(_:Unit),q=Sum.inr ()->∀s,Wk 0 s ⟨35,Aa [],[]⟩->A s:=by
  intro _ C s t;subst q;refine o _ (AJ t (zr tb AA AA ?_));obtain rfl:=Sh.AD h0;exact rt [(6,i64 (-1))]
 refine AU (Av (σ:=Int) (λn v=>Eu p0 p1 p2 n v=some q) (λg=>⟨35,Aa [(1,i64 p1),(2,i64 p2),(9,ls Ai p0),(10,i64 (Sh.len p0)),(11,i64 g)],[]⟩) N 0 a (AK AA) (λ_ z=>by rw[Eu]at z;cases z) ?_);rintro n g a;rw[Eu]at a;refine zr tb AA AA (AE λH u=>?_);refine ci a AA ?_ ?_<;>clear a<;>intro I a
 ·refine AL (u _ (AE λD h=>AU (sr AA λE i=>zq tb AA (bs a λx j a=>zx C8 j AA AA AA (zq tb AA (Au (m:=0) AH Gf AA AA (zq tb AA (Ao AH JF AA AA AA AA AA AA kS rfl (dn i AA ?_)))))))));refine AE λy k=>bs a λl d a=>?_;have e:∀(f:Bool),l=f->∀s,Wk 0 s ⟨35,Aa [(1,i64 p1),(2,i64 p2),(7,i64 g),(9,Cw p0),(10,Gx p0),(11,i64 g),(31,.bool f)],[]⟩->y s:=by
   intro f C s t;subst l;refine k _ (AJ t ?_);refine ci a AA ?_ ?_<;>clear a<;>intro F a
   ·refine zr tb AA AA ?_;obtain rfl:=Sh.AD a;obtain rfl:=Sh.AD h0;exact rt [(6,KC g)]
   ·exact AL (h _ (AI AA (zm tb 2 AA (AF (xi (Sh.w (g+1)) a (AK AA))))))
  refine AI AA (zm tb 2 AA (zl tb AA AA (zm tb 2 AA ?_)));rcases Sh.Aj d with ⟨b,d⟩|⟨b,d⟩
  ·refine zg tb b AA ?_;iterate 3 refine zg tb b rfl ?_
   refine zt b AA (zq tb AA ?_);rcases Sh.Aj d with ⟨c,d⟩|⟨c,d⟩
   ·refine zg tb c AA ?_;iterate 3 refine zg tb c rfl ?_
    exact zt c AA (AF (e (decide (x.to=p2)) (Sh.AD d).symm _ (Bj _ AA)))
   ·refine zs c AA ?_;iterate 3 refine zs c rfl ?_
    exact zf c AA (AF (e false (Sh.AD d).symm _ (Bj _ AA)))
  ·refine zs b AA ?_;iterate 3 refine zs b rfl ?_
   refine zf b AA (zq tb AA ?_);iterate 4 refine zs rfl rfl ?_
   exact zf AA AA (AF (e false (Sh.AD d).symm _ (Bj _ AA)))
 ·exact BB (B () (Sh.AD a).symm _ (AK AA))
theorem KX {N:Nat}{p0:BL}{p1 p2:Int}{p3:(List Int)}{r:Int×Bool}(h0:BE N p0 p1 p2 p3=some r):Ac Tryz.prog 113 [.agg (F4 p0),i64 p1,i64 p2,ls eI p3] [] (λv st=>v=(.Dm [i64 r.1,.bool r.2])/\st=[]):=by
 unfold BE at h0;refine ai Tryz.func113 AA AA AA AA (sr AA λK1 h5=>Bt (m:=0) AH AA AA AA AA AA (zm tb 2 AA (dn h5 AA (zr tb AA AA (AE λK3 h6=>?_)))));obtain⟨o5,b,h0⟩:=Sh.Bl h0;have M5:∀(Y:(List Int)),o5=Sum.inr Y->∀s,Wk 0 s ⟨149,Aa (Mm p2 p3 [(10,ow 0 0 Y),(11,i64 0)]),[Bi Y]⟩->K3 s:=by
  intro Y hq s A;subst o5;refine h6 _ (AJ A (AE λK6 h7=>bs h0 λo8 b h0=>?_));have M8:∀(t7:Bool),o8=t7->∀s,Wk 0 s ⟨149,Aa [(8,i64 0),(9,.bool t7)],[]⟩->K6 s:=by
   intro t7 hq s A;subst o8;refine h7 _ (AJ A ?_);obtain rfl:=Sh.AD h0;exact rt [(8,i64 0),(9,.bool t7)]
  refine AI AA (zm tb 4 AA ?_);rcases Sh.Aj b with ⟨G,b⟩|⟨G,b⟩
  ·exact zg tb G AA (zg tb G AA (AR (Wk.BJ (L:=[(141,i64 0),(144,.bool (decide (p2=0))),(145,ls eI p3),(146,ls eI Y)]) (st':=[⟨1,3,1,[]⟩]) (id:=0) rfl kX (AB λ_=>AA) ⟨.rfl,.rfl,.rfl,.BJ AA,fa⟩ AA) (bs b λh8 Z b=>zd G (hb 132) (F7 Z) rfl AA AA AA (zt G AA (zm tb 2 AA (AF (M8 h8 (Sh.AD b).symm _ (Bj _ AA))))))))
  ·exact zs G AA (zs G AA (zs G AA (zf G AA (zm tb 2 AA (AF (M8 false (Sh.AD b).symm _ (Bj _ AA)))))))
 refine zr tb AA AA (AU (zr tb AA AA ?_));refine ci b AA ?_ ?_<;>clear b<;>intro l5 b
 ·refine AE λh9 b0=>bs b λb1 c b=>?_;have R:∀(H:Bool),b1=H->∀s,Wk 0 s ⟨149,Aa [(8,i64 0),(9,.bool H)],[]⟩->h9 s:=by
   intro H hq s A;subst b1;refine b0 _ (AJ A ?_);obtain rfl:=Sh.AD b;obtain rfl:=Sh.AD h0;exact rt [(8,i64 0),(9,.bool H)]
  refine AI AA (zm tb 3 AA ?_);rcases Sh.Aj c with ⟨D,c⟩|⟨D,c⟩
  ·refine zg tb D AA (zg tb D AA (zt D AA (zq tb AA ?_)));rcases Sh.Aj c with ⟨x,c⟩|⟨x,c⟩
   ·exact zg tb x AA (BV (v:=(Gx p3)) (CM AA AA x) rfl (Ch Fe AA) (zg tb x AA (zt x AA (zm tb 2 AA (AF (R (decide ((Sh.len p3)=0)) (Sh.AD c).symm _ (Bj _ AA)))))))
   ·exact zs x AA (zs x AA (zs x AA (zf x AA (zm tb 2 AA (AF (R false (Sh.AD c).symm _ (Bj _ AA)))))))
  ·refine zs D AA (zs D AA (zf D AA (zq tb AA ?_)));iterate 3 refine zs rfl rfl ?_
   exact zf AA AA (zm tb 2 AA (AF (R false (Sh.AD c).symm _ (Bj _ AA))))
 ·refine AE λk0 b2=>bs b λb3 c b=>?_;have I:∀(S:Bool),b3=S->∀s,Wk 0 s ⟨149,Aa ((1,i64 p1)::Mm p2 p3 [(4,BI),(11,i64 0),(18,i64 p1),(32,.bool S)]),[LF p0]⟩->k0 s:=by
   intro S hq s A;subst b3;refine b2 _ (AJ A ?_);refine ci b AA ?_ ?_<;>clear b<;>intro l6 b
   ·refine AI AA ?_;refine BD (m:=1) (l:=[(0:Int),0]) (enc:=eI) AH BM (by decide) rfl AA AA AA AA AA ?_;refine zq tb AA ?_;exact AF (M5 [(0:Int),0] (Sh.AD b).symm _ (AT [1] AA (by decide) rfl AA (.pure (AB λ_=>AA) .nil) (.same AA)))
   ·refine zr tb AA AA ?_;refine ci b AA ?_ ?_<;>clear b<;>intro l7 b
    ·refine AI AA ?_;refine BD (m:=1) (l:=[(0:Int)]) (enc:=eI) AH BM (by decide) rfl AA AA AA AA AA ?_;refine zq tb AA ?_;exact AF (M5 [(0:Int)] (Sh.AD b).symm _ (AT [1] AA (by decide) rfl AA (.pure (AB λ_=>AA) .nil) (.same AA)))
    ·refine zr tb AA AA ?_;refine ci b AA ?_ ?_<;>clear b<;>intro l8 b
     ·refine AE λl9 b4=>sr AA λm0 b5=>zq tb AA (zl tb AA AA (zq tb AA (dn b5 AA ?_)));refine ci b AA ?_ ?_<;>clear b<;>intro b6 b
      ·have m1:decide ((Sh.len p3)=2)=false:=by simpa using b6
       refine zr tb AA AA ?_;obtain rfl:=Sh.AD b;obtain rfl:=Sh.AD h0;exact rd [(8,i64 (-1)),(9,.bool false)]
      ·have m2:decide ((Sh.len p3)=2)=true:=by simpa using b6
       refine AL (b4 _ (AE λm3 b7=>?_));refine HE (by kernel_rfl) ?_;refine bs b λT b8 b=>bs b λd P b=>Jh λqw a=>?_;have f:qw 0 (bm 12 4095) ⟨149,Aa (Mm p2 p3 [(12,BI),(13,.bool d.2)]),[Tu d.1]⟩:=(a _ _ _).2 (by
        refine HI AA (by kernel_rfl) ?_;refine b7 _ (AE λk1 c0=>bs b λc1 c b=>?_);have U:∀(J:Bool),c1=J->∀s,Wk 0 s ⟨149,Aa [(8,i64 d.1.to),(9,.bool J)],[]⟩->k1 s:=by
         intro J hq s A;subst c1;refine c0 _ (AJ A ?_);obtain rfl:=Sh.AD b;obtain rfl:=Sh.AD h0;exact rt [(8,i64 d.1.to),(9,.bool J)]
        refine Ca (by kernel_rfl) (by kernel_rfl) (by rfl) ?_;iterate 4 refine yq tb rfl ?_
        rcases Sh.Aj c with ⟨B,c⟩|⟨B,c⟩
        ·refine yg tb B AA (bs c λk2 c2 c=>HQ (v:=(.Bc (eI k2) 0)) (CM AA AA B) rfl (CZ BM AA AA c2 AA) ?_);iterate 4 refine yg tb B rfl ?_
         refine yt B AA (yq tb AA ?_);rcases Sh.Aj c with ⟨E,c⟩|⟨E,c⟩
         ·refine yg tb E AA (yg tb E AA (yt E AA ?_));iterate 2 refine yq tb rfl ?_
          exact As (U (decide (p2=0)) (Sh.AD c).symm _ (Bj _ AA))
         ·refine ys E AA (ys E AA (yf E AA ?_));iterate 2 refine yq tb rfl ?_
          exact As (U false (Sh.AD c).symm _ (Bj _ AA))
        ·refine ys B AA ?_;iterate 5 refine ys B rfl ?_
         refine yf B AA (yq tb AA ?_);iterate 2 refine ys rfl rfl ?_
         refine yf AA AA ?_;iterate 2 refine yq tb rfl ?_
         exact As (U false (Sh.AD c).symm _ (by exact AT [] AA (by decide) rfl AA .nil (.same AA))))
       have e:qw 2 (bm 12 1023) ⟨149,Aa (Mm p2 p3 [(12,BI),(53,.agg (Ai d.1)),(54,.bool d.2)]),[aF]⟩:=(a _ _ _).2 (by
        refine xa [10] ⟨?_,fa⟩
        ·refine xo 10 ?_;refine Ao AH JF AA AA AA AA AA AA kS rfl (AF ⟨AA,?_⟩);refine BQ tb 11 AA (by kernel_rfl) rfl ?_;exact xt a f)
       have g:qw 3 (bm 12 511) ⟨149,Aa (Mm p2 p3 [(53,.agg (Ai d.1)),(54,.bool d.2)]),[]⟩:=(a _ _ _).2 (by
        refine xa [9] ⟨?_,fa⟩
        ·refine xo 9 ?_;exact Au (m:=0) AH Gf AA AA (xd a e))
       have o:qw 2 (bm 12 1791) ⟨149,Aa (Mm p2 p3 [(12,BI),(46,U5 d.1 d.2)]),[Tu d.1]⟩:=(a _ _ _).2 (by
        refine xa [8] ⟨?_,fa⟩
        ·refine xo 8 ?_;refine zq tb AA (AF ⟨AA,?_⟩);refine BQ tb 11 AA (by kernel_rfl) rfl ?_;exact xt a f)
       have h:qw 3 (bm 12 767) ⟨149,Aa (Mm p2 p3 [(12,BI),(46,U5 d.1 d.2),(53,.agg (Ai d.1))]),[aF]⟩:=(a _ _ _).2 (by
        refine xa [8,10] ⟨?_,?_,fa⟩
        ·exact xq tb a e
        ·refine xo 10 ?_;exact Ao AH JF AA AA AA AA AA AA kS rfl (xd a o))
       have p:qw 4 (bm 12 255) ⟨149,Aa (Mm p2 p3 [(46,U5 d.1 d.2),(53,.agg (Ai d.1))]),[]⟩:=(a _ _ _).2 (by
        refine xa [8,9] ⟨?_,?_,fa⟩
        ·exact xq tb a g
        ·refine xo 9 ?_;exact Au (m:=0) AH Gf AA AA (xd a h))
       have k:qw 3 (bm 12 895) ⟨149,Aa (Mm p2 p3 [(12,BI),(46,U5 d.1 d.2),(54,.bool d.2)]),[aF]⟩:=(a _ _ _).2 (by
        refine xa [7] ⟨?_,fa⟩
        ·exact xq tb a e)
       have q:qw 4 (bm 12 383) ⟨149,Aa (Mm p2 p3 [(46,U5 d.1 d.2),(54,.bool d.2)]),[]⟩:=(a _ _ _).2 (by
        refine xa [7,9] ⟨?_,?_,fa⟩
        ·exact xq tb a g
        ·refine xo 9 ?_;exact Au (m:=0) AH Gf AA AA (xd a k))
       have n:qw 4 (bm 12 639) ⟨149,Aa (Mm p2 p3 [(12,BI),(46,U5 d.1 d.2)]),[aF]⟩:=(a _ _ _).2 (by
        refine xa [7,8] ⟨?_,?_,fa⟩
        ·exact xq tb a h
        ·exact xq tb a k)
       have y:qw 5 (bm 12 127) ⟨149,Aa (Mm p2 p3 [(46,U5 d.1 d.2)]),[]⟩:=(a _ _ _).2 (by
        refine xa [7,8,9] ⟨?_,?_,?_,fa⟩
        ·exact xq tb a p
        ·exact xq tb a q
        ·refine xo 9 ?_;exact Au (m:=0) AH Gf AA AA (xd a n))
       have C:qw 6 (bm 12 543) ⟨149,Aa (Mm p2 p3 [(12,BI),(48,ls Ai p0.decls),(51,i64 T)]),[aF]⟩:=(a _ _ _).2 (by
        refine xa [5] ⟨?_,fa⟩
        ·refine xo 5 ?_;refine zc (v':=(U5 d.1 d.2)) (hb 131) (My P) rfl AA AA (AF ⟨AA,?_⟩);refine BQ tb 6 AA (by kernel_rfl) rfl ?_;exact xt a n)
       have F:qw 7 (bm 12 31) ⟨149,Aa (Mm p2 p3 [(48,ls Ai p0.decls),(51,i64 T)]),[]⟩:=(a _ _ _).2 (by
        refine xa [5,9] ⟨?_,?_,fa⟩
        ·refine xo 5 ?_;refine zc (v':=(U5 d.1 d.2)) (hb 131) (My P) rfl AA AA (AF ⟨AA,?_⟩);refine BQ tb 6 AA (by kernel_rfl) rfl ?_;exact xt a y
        ·refine xo 9 ?_;exact Au (m:=0) AH Gf AA AA (xd a C))
       refine (a _ _ _).2 ?_;refine BQ tb 0 AA (by kernel_rfl) rfl ?_;refine BQ tb 1 AA (by kernel_rfl) rfl ?_;refine BQ tb 2 AA (by kernel_rfl) rfl ?_;refine Gm 3 (v:=(.Bc (eI T) 0)) rfl (by kernel_rfl) (by kernel_rfl) (CZ BM AA AA b8 AA) ?_;refine BQ tb 4 AA (by kernel_rfl) rfl ?_;exact xw a F (by exact AT [] AA (by decide) rfl AA .nil (.same AA))
     ·refine zr tb AA AA ?_;refine ci b AA ?_ ?_<;>clear b<;>intro m4 b
      ·refine sr AA λm5 c3=>zm tb 3 AA (bs b λK c4 b=>zc (v':=(.Dm [i64 K.1,I6 K.2])) (hb 126) (Oo c4) rfl AA AA (zm tb 3 AA (Au (m:=1) AH Pz AA AA (zq tb AA (Ao AH N8 AA AA AA AA AA AA kW rfl (dn c3 AA (AE λk3 c5=>bs b λc6 c b=>?_)))))));have c7:∀(M:Bool),c6=M->∀s,Wk 0 s ⟨149,Aa [(8,i64 K.1),(9,.bool M)],[]⟩->k3 s:=by
        intro M hq s A;subst c6;refine c5 _ (AJ A ?_);obtain rfl:=Sh.AD b;obtain rfl:=Sh.AD h0;exact rt [(8,i64 K.1),(9,.bool M)]
       refine AI AA (zm tb 4 AA ?_);rcases Sh.Aj c with ⟨z,c⟩|⟨z,c⟩
       ·exact zg tb z AA (zg tb z AA (zg tb z AA (bs c λk4 c8 c=>zd z (hb 132) (F7 c8) rfl AA AA AA (zt z AA (zm tb 2 AA (AF (c7 k4 (Sh.AD c).symm _ (Bj _ AA))))))))
       ·refine zs z AA ?_;iterate 3 refine zs z rfl ?_
        exact zf z AA (zm tb 2 AA (AF (c7 false (Sh.AD c).symm _ (Bj _ AA))))
      ·refine AE λk5 c9=>bs b λd1 c b=>?_;have d2:∀(V:Bool),d1=V->∀s,Wk 0 s ⟨149,Aa ((1,i64 p1)::Mm p2 p3 [(4,BI),(88,.bool V)]),[LF p0]⟩->k5 s:=by
        intro V hq s A;subst d1;refine c9 _ (AJ A ?_);refine ci b AA ?_ ?_<;>clear b<;>intro m6 b
        ·refine AE λm7 d3=>AE λk6 d4=>bs b λd5 c b=>?_;have d6:∀(W:Bool),d5=W->∀s,Wk 0 s ⟨149,Aa ((1,i64 p1)::Mm p2 p3 [(4,BI),(99,.bool W)]),[LF p0]⟩->k6 s:=by
          intro W hq s A;subst d5;refine d4 _ (AJ A ?_);refine ci b AA ?_ ?_<;>clear b<;>intro m8 b
          ·refine zr tb AA AA ?_;obtain rfl:=Sh.AD b;obtain rfl:=Sh.AD h0;exact rd [(8,i64 (-1)),(9,.bool false)]
          ·refine AL (d3 _ (AE λm9 d7=>?_));refine Ca (by kernel_rfl) (by kernel_rfl) (by rfl) ?_;iterate 3 refine yq tb rfl ?_
           refine bs b λd8 Q b=>yx P8 Q AA AA AA ?_;iterate 5 refine yq tb rfl ?_
           refine yx P8 Q AA AA AA ?_;iterate 4 refine yq tb rfl ?_
           refine As (d7 _ (AE λq0 d9=>zr tb AA AA ?_));refine ci b AA ?_ ?_<;>clear b<;>intro q1 b
           ·refine sr AA λq2 g0=>zm tb 3 AA (bs b λk7 g1 b=>zc (hb 132) (F7 g1) rfl AA AA (zm tb 2 AA (dn g0 AA ?_)));obtain rfl:=Sh.AD b;obtain rfl:=Sh.AD h0;exact rd [(8,i64 d8.result),(9,.bool k7)]
           ·refine AL (d9 _ (sr AA λq3 g2=>zq tb AA (zl tb AA AA (zm tb 2 AA (dn g2 AA (AE λq4 g3=>zr tb AA AA ?_))))));refine ci b AA ?_ ?_<;>clear b<;>intro q5 b
            ·refine zr tb AA AA ?_;obtain rfl:=Sh.AD b;obtain rfl:=Sh.AD h0;exact rd [(8,i64 (-1)),(9,.bool false)]
            ·refine AL (g3 _ (AE λq6 g4=>?_));refine Ca (by kernel_rfl) (by kernel_rfl) (by rfl) ?_;iterate 4 refine yq tb rfl ?_
             refine bs b λq7 g5 b=>yx BM g5 AA AA AA ?_;iterate 2 refine yq tb rfl ?_
             refine bs b λX g6 b=>BX (v:=(i64 X)) AH (hb 133) (Rt g6) rfl AA AA (yq tb AA (As (g4 _ (AE λk8 g7=>bs b λg8 c b=>?_))));have g9:∀(O:Bool),g8=O->∀s,Wk 0 s ⟨149,Aa [(8,i64 X),(9,.bool O)],[]⟩->k8 s:=by
              intro O hq s A;subst g8;refine g7 _ (AJ A ?_);obtain rfl:=Sh.AD b;obtain rfl:=Sh.AD h0;exact rt [(8,i64 X),(9,.bool O)]
             refine AI AA (zm tb 4 AA ?_);rcases Sh.Aj c with ⟨t,c⟩|⟨t,c⟩
             ·exact zg tb t AA (zg tb t AA (zg tb t AA (bs c λq8 h3 c=>Qx (i:=0) (j:=Sh.w ((Sh.len d8.params)-1)) (CM AA AA t) BM AA AA AA (λ_=>AA) h3 (bs c λk9 h4 c=>zd t (hb 132) (F7 h4) rfl AA AA AA (zt t AA (zm tb 2 AA (AF (g9 k9 (Sh.AD c).symm _ (Bj _ AA)))))))))
             ·refine zs t AA ?_;iterate 4 refine zs t rfl ?_
              exact zf t AA (zm tb 2 AA (AF (g9 false (Sh.AD c).symm _ (Bj _ AA))))
         refine AI AA (zm tb 3 AA ?_);rcases Sh.Aj c with ⟨u,c⟩|⟨u,c⟩
         ·refine zs u AA ?_;iterate 4 refine zs u rfl ?_
          exact zt u AA (AF (d6 true (Sh.AD c).symm _ (AK AA)))
         ·exact zg tb u AA (zg tb u AA (zg tb u AA (BV (v:=(i64 (Sh.len p0.funcs))) (CM AA AA u) rfl (Ch aW AA) (zg tb u AA (zf u AA (AF (d6 (decide ((Sh.len p0.funcs)<=p2)) (Sh.AD c).symm _ (AK AA))))))))
        ·refine zr tb AA AA ?_;obtain rfl:=Sh.AD b;obtain rfl:=Sh.AD h0;exact rd [(8,i64 (-1)),(9,.bool false)]
       refine zr tb AA AA ?_;refine ci c AA ?_ ?_<;>clear c<;>intro l0 c
       ·exact AL (d2 true (Sh.AD c).symm _ (Ag (L:=((1,i64 p1)::Mm p2 p3 [(4,BI),(88,.bool true)])) ⟨.rfl,.rfl,.rfl,.rfl,.of (iE AV.bool l0),fa⟩))
       ·exact AI AA (zm tb 2 AA (AF (d2 (decide (p1=10)) (Sh.AD c).symm _ (AK AA))))
  refine zr tb AA AA ?_;refine ci c AA ?_ ?_<;>clear c<;>intro l1 c
  ·exact AL (I true (Sh.AD c).symm _ (Ag (L:=((1,i64 p1)::Mm p2 p3 [(4,BI),(11,i64 0),(18,i64 p1),(32,.bool true)])) ⟨.rfl,.rfl,.rfl,.rfl,.rfl,.rfl,.of (iE AV.bool l1),fa⟩))
  ·refine zr tb AA AA ?_;refine ci c AA ?_ ?_<;>clear c<;>intro l2 c
   ·exact AL (I true (Sh.AD c).symm _ (Ag (L:=((1,i64 p1)::Mm p2 p3 [(4,BI),(11,i64 0),(18,i64 p1),(32,.bool true)])) ⟨.rfl,.rfl,.rfl,.rfl,.rfl,.rfl,.of (iE AV.bool l2),fa⟩))
   ·refine zr tb AA AA ?_;refine ci c AA ?_ ?_<;>clear c<;>intro l3 c
    ·exact AL (I true (Sh.AD c).symm _ (Ag (L:=((1,i64 p1)::Mm p2 p3 [(4,BI),(11,i64 0),(18,i64 p1),(32,.bool true)])) ⟨.rfl,.rfl,.rfl,.rfl,.rfl,.rfl,.of (iE AV.bool l3),fa⟩))
    ·exact AI AA (zm tb 2 AA (AF (I (decide (p1=4)) (Sh.AD c).symm _ (AK AA))))
end Go.Proofs.YtihdgoiebmfapaaGreat
