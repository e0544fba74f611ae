import Derived.Test.YtihdgoiebmfapaaGreatNLWalkP1
set_option linter.all false
namespace Go.Proofs.YtihdgoiebmfapaaGreat
open Go Go.Abs RC
attribute [local irreducible] Go.Abs.EN
set_option maxRecDepth 100000
set_option maxHeartbeats 4000000
theorem mG:I5 Tryz.prog 95=true:=by kernel_rfl
theorem oE:I5 Tryz.prog 99=true:=by kernel_rfl
theorem mF:Ke Tryz.prog 95=some [(0,1),(1,1),(2,1)]:=by kernel_rfl
theorem nv:Ke Tryz.prog 99=some [(0,1),(1,1)]:=by kernel_rfl
theorem OI:DB Tryz.prog 119=some ⟨32,1,24,[.sl []]⟩:=by kernel_rfl
theorem SC:DB Tryz.prog 93=some ⟨95,3,56,[.sl [],.sl [],.int .i64 0]⟩:=by kernel_rfl
theorem Wq:IJ Tryz.prog 37 2=some 2:=by kernel_rfl
theorem oY:Program.underlying Tryz.prog 3=some (.int .i64):=by kernel_rfl
theorem TZ:DH Tryz.prog 23=true:=by kernel_rfl
theorem jy:DH Tryz.prog 93=true:=by kernel_rfl
theorem nZ:Dd Tryz.prog 93=some (false,1):=by kernel_rfl
theorem nd:Dd Tryz.prog 95=some (true,3):=by kernel_rfl
theorem jW:Dd Tryz.prog 99=some (true,2):=by kernel_rfl
theorem nr:II Tryz.prog 3=some [.int .i64 0]:=by kernel_rfl
theorem jR:II Tryz.prog 95=some [.zc,.zc,.int .i64 0]:=by kernel_rfl
theorem iu:II Tryz.prog 99=some [.zc,.zc]:=by kernel_rfl
theorem T6 {tm:List Int}{tu:Int}{r:(List AL)×Int}(h0:J0 tm tu=some r):Bd 86 [BG] [FM tm tu] (ow 1 0 r.1) [FM tm r.2,JH r.1]:=by
 unfold J0 at h0;refine ai Tryz.func86 AA AA AA AA (Ap AA (sr AA λK2 b4=>AS AA (bs h0 λa b5 h0=>?_)));refine G8 (rowsP:=[FM tm tu]) (rows0:=[FM tm tu]) (rows1:=[FM tm a.2]) (rows2:=[JH a.1]) (rows1':=[FM tm a.2]) (rows2':=[JH a.1]) (st':=[FM tm a.2,JH a.1]) (v':=ow 1 0 a.1) [0] AN (hb 87) (Ng b5) rfl (by decide) rfl AA (.raw AA AA .nil) rfl AA (.raw AA AA .nil) (.pure Bn .nil) rfl AA ?_;refine AS AA (dn b4 AA (sr AA λK4 b6=>Ac 2 AA (zz (HC a.1) (DD TZ AA AA AA) rfl (bs h0 λc b7 h0=>?_))));refine Hl [FM tm c.2,JH a.1] (i64 c.1) [0] AN (hb 83) (Ay b7) rfl AA ?_;refine AS AA (dn b6 AA (AE λK6 b8=>bs h0 λo9 b h0=>?_));have G:∀f7 J,o9=(f7,J)->∀s,Wk 1 s ⟨89,AP [(3,ow 1 0 J)],[FM tm f7,JH J]⟩->K6 s:=by
  rintro f7 J rfl s hw;refine b8 _ (AG hw (Ap AA ?_));cases h0;exact rt [(2,ow 1 0 J)]
 refine sr AA λb9 K=>AS AA (bs b λe M b=>?_);refine Hl [FM tm e.2,JH a.1] (i64 e.1) [0] AN (hb 83) (Ay M) rfl AA ?_;refine dn K AA (AK (Ap AA ?_));refine ci b AA ?_ ?_<;>intro c0 b
 .refine AF AA (Ac 3 AA ?_);refine CC 2 [(-1:Int),5,0,2] eI BF AA ?_;refine Ea [(0,BG),(3,ow 1 0 a.1),(15,ow 1 0 a.1),(16,i64 c.1),(17,BG),(18,ls eI [(-1:Int),5,0,2])] (bP tm e.2 a.1 []) 2 AA ⟨.rfl,.rfl,.rfl,.rfl,.rfl,.BY AA,pA⟩ (λ_=>AA) rfl (bs b λf N b=>?_);refine Hl (bP tm f.2 a.1 []) (i64 f.1) [0] AN (hb 70) (Bm N) rfl AA ?_;refine AS AA ?_;refine CC 3 [(0:Int),1,5] eI BF AA ?_;refine Ea [(3,ow 1 0 a.1),(15,ow 1 0 a.1),(16,i64 c.1),(19,i64 f.1),(20,BG),(21,ls eI [(0:Int),1,5])] ((FM tm f.2)::(JH a.1)::Ck []) 3 AA ⟨.rfl,.rfl,.rfl,.rfl,.rfl,.BY AA,pA⟩ (λ_=>AA) rfl (bs b λg O b=>?_);refine Hl ((FM tm g.2)::(JH a.1)::Ck []) (i64 g.1) [0] AN (hb 70) (Bm O) rfl AA ?_;refine zz (.agg [i64 f.1,i64 g.1,.zc]) (DM Mk Ml HW AA AA) rfl (bs b λc1 C b=>zz (LB c.1) (CD DK AA AA AA AA C) rfl (Au (Ag (L:=[(3,ow 1 0 a.1),(23,.agg [i64 f.1,i64 g.1,cP]),(24,LB c.1)]) ⟨.rfl,.agg ⟨.rfl,.rfl,.zc,pA⟩,.rfl,pA⟩) (JZ (u':=AL.mk f.1 g.1 []) AN KM AA AA C AA AA AA tL rfl AA ?_)));exact AB (G g.2 (Sh.put a.1 c.1 (AL.mk f.1 g.1 [])) (AT b) _ (by refine Wk.trans (AM (L:=[(3,.own 1 0 (List.length a.1))]) (st':=[⟨0,72,2,[[.sl (List.map FQ tm),i64 g.2]]⟩,⟨0,80,3,List.map Ai (Sh.put a.1 c.1 (AL.mk f.1 g.1 []))⟩]) [0,1] AA AA (.w (.p .nil)) ⟨.rfl,pA⟩) ?_;exact Ag (L:=[(3,.own 1 0 (List.length (Sh.put a.1 c.1 (AL.mk f.1 g.1 []))))]) ⟨(.len (by simp only[Sh.GS])),pA⟩))
 .refine Ap AA ?_;refine ci b AA ?_ ?_<;>intro c2 b
  .refine AF AA (Ac 3 AA ?_);refine CC 2 [(-1:Int),0,4,5] eI BF AA ?_;refine Ea (lp a.1 c.1 [(29,BG),(30,ls eI [(-1:Int),0,4,5])]) (bP tm e.2 a.1 []) 2 AA ⟨.rfl,.rfl,.rfl,.rfl,.BY AA,pA⟩ (λ_=>AA) rfl (bs b λh P b=>?_);refine Hl (bP tm h.2 a.1 []) (i64 h.1) [0] AN (hb 70) (Bm P) rfl AA ?_;refine CC 3 [h.1] eI BF AA ?_;refine Ea (lp a.1 c.1 [(32,ls eI [h.1])]) ((FM tm h.2)::(JH a.1)::Ck []) 3 AA ⟨.rfl,.rfl,.rfl,.BY AA,pA⟩ (λ_=>AA) rfl (bs b λk Q b=>Df (J7 k) (hb 117) (EC Q) rfl ?_);refine CC 4 [(0:Int),0,0,0] eI BF AA ?_;refine Ea (lp a.1 c.1 [(33,J7 k),(34,ls eI [(0:Int),0,0,0])]) ((FM tm h.2)::(JH a.1)::Ck [⟨1,3,1,[]⟩]) 4 AA ⟨.rfl,.rfl,.rfl,.rfl,.BY AA,pA⟩ (λ_=>AA) rfl (bs b λo R b=>Df (J7 o) (hb 117) (EC R) rfl ?_);refine CC 5 ([]:List Int) eI BF AA ?_;refine Ea (lp a.1 c.1 [(33,J7 k),(35,J7 o),(36,Rw)]) ((FM tm h.2)::(JH a.1)::Ck (Ck [])) 5 AA ⟨.rfl,.rfl,.rfl,.rfl,.rfl,.BY AA,pA⟩ (λ_=>AA) rfl (bs b λp S b=>Df (J7 p) (hb 117) (EC S) rfl ?_);refine CC 6 [k,o,p] CM Je AA ?_;refine zz (.agg [i64 0,i64 0,ow 6 0 [k,o,p]]) (DM Mk Ml HW AA AA) rfl (bs b λc3 D b=>zz (LB c.1) (CD DK AA AA AA AA D) rfl (Ea [(3,ow 1 0 a.1),(39,.agg [i64 0,i64 0,ls CM [k,o,p]]),(40,LB c.1)] ((FM tm h.2)::(JH a.1)::Ck (Ck [Mq])) 6 AA ⟨.rfl,.agg ⟨.rfl,.rfl,.H9 AA,pA⟩,.rfl,pA⟩ (λ_=>AA) rfl (JZ (u':=AL.mk 0 0 [k,o,p]) AN KM AA AA D AA AA AA tL rfl AA ?_)));exact AB (G h.2 (Sh.put a.1 c.1 (AL.mk 0 0 [k,o,p])) (AT b) _ (by refine Wk.trans (AM (L:=[(3,.own 1 0 (List.length a.1))]) (st':=[⟨0,72,2,[[.sl (List.map FQ tm),i64 h.2]]⟩,⟨0,80,3,List.map Ai (Sh.put a.1 c.1 (AL.mk 0 0 [k,o,p]))⟩]) [0,1] AA AA (.w (.p .nil)) ⟨.rfl,pA⟩) ?_;exact Ag (L:=[(3,.own 1 0 (List.length (Sh.put a.1 c.1 (AL.mk 0 0 [k,o,p]))))]) ⟨(.len (by simp only[Sh.GS])),pA⟩))
  .refine Ap AA ?_;refine ci b AA ?_ ?_<;>intro c4 b
   .refine AF AA (Ac 4 AA ?_);refine CC 2 [Sh.w (c.1+1)] eI BF AA ?_;refine Ea [(3,ow 1 0 a.1),(43,ow 1 0 a.1),(44,i64 c.1),(47,ls eI [Sh.w (c.1+1)])] (bP tm e.2 a.1 []) 2 AA ⟨.rfl,.rfl,.rfl,.BY AA,pA⟩ (λ_=>AA) rfl (bs b λq T b=>Df (J7 q) (hb 117) (EC T) rfl ?_);refine CC 3 [q] CM Je AA ?_;refine zz (.agg [i64 0,i64 0,ow 3 0 [q]]) (DM Mk Ml HW AA AA) rfl (bs b λc5 E b=>zz (LB c.1) (CD DK AA AA AA AA E) rfl (Ea [(3,ow 1 0 a.1),(50,kU q),(51,LB c.1)] (bP tm e.2 a.1 [Mq]) 3 AA ⟨.rfl,.agg ⟨.rfl,.rfl,.H9 AA,pA⟩,.rfl,pA⟩ (λ_=>AA) rfl (JZ (u':=AL.mk 0 0 [q]) AN KM AA AA E AA AA AA tL rfl AA ?_)));exact AB (G e.2 (Sh.put a.1 c.1 (AL.mk 0 0 [q])) (AT b) _ (by refine Wk.trans (AM (L:=[(3,.own 1 0 (List.length a.1))]) (st':=[⟨0,72,2,[[.sl (List.map FQ tm),i64 e.2]]⟩,⟨0,80,3,List.map Ai (Sh.put a.1 c.1 (AL.mk 0 0 [q]))⟩]) [0,1] AA AA (.w (.p .nil)) ⟨.rfl,pA⟩) ?_;exact Ag (L:=[(3,.own 1 0 (List.length (Sh.put a.1 c.1 (AL.mk 0 0 [q]))))]) ⟨(.len (by simp only[Sh.GS])),pA⟩))
   .refine Ap AA ?_;refine ci b AA ?_ ?_<;>intro c6 b
    .refine AF AA (Ac 2 AA ?_);refine CC 2 [(0:Int),2,1] eI BF AA ?_;refine Ea [(54,ow 1 0 a.1),(55,BG),(56,ls eI [(0:Int),2,1])] (bP tm e.2 a.1 []) 2 AA ⟨.rfl,.rfl,.BY AA,pA⟩ (λ_=>AA) rfl (bs b λn U b=>?_);refine Hl (bP tm n.2 a.1 []) (i64 n.1) [0] AN (hb 70) (Bm U) rfl AA ?_;refine zz (.agg [i64 2,i64 n.1,.zc]) (DM Mk Ml HW AA AA) rfl (Au (Ag (L:=[(54,ow 1 0 a.1),(58,.agg [i64 2,i64 n.1,cP])]) ⟨.rfl,.agg ⟨.rfl,.rfl,.zc,pA⟩,pA⟩) ?_);refine CC 3 ([AL.mk 2 n.1 []]) Ai DK AA ?_;refine bs b λH V b=>Cs (l2:=[AL.mk 2 n.1 []]) AN DK AA AA AA AA (HG AA AA) (λ_=>AA) V AA (AS AA ?_);exact AB (G n.2 H (AT b) _ (by refine Wk.trans (D3 (L:=[(3,ow 1 0 H)]) (st':=[FM tm n.2,JH H,⟨0,3,1,[]⟩,ro 0 80 3 Ai ([AL.mk 2 n.1 []])]) (.raw AA AA AA (.pure AA Bn (.pure AA (by intro x hx;cases hx) (.pure AA Bn .nil)))) (.same AA)) ?_;exact AM [0,1] AA AA (.w (.p .nil)) (.same AA)))
    .refine Ap AA ?_;refine ci b AA ?_ ?_<;>intro c7 b
     .refine AF AA (Ac 3 AA (bs b λd W b=>?_));refine Hl [FM tm d.2,JH a.1] (i64 d.1) [0] AN (hb 83) (Ay W) rfl AA ?_;refine CC 2 ([]:List Int) eI BF AA ?_;refine Ea ((0,BG)::ju a.1 c.1 d.1 [(67,Rw)]) (bP tm d.2 a.1 []) 2 AA ⟨.rfl,.rfl,.rfl,.rfl,.rfl,.BY AA,pA⟩ (λ_=>AA) rfl (bs b λt X b=>Df (J7 t) (hb 117) (EC X) rfl ?_);refine CC 3 [(2:Int)] eI BF AA ?_;refine Ea ((0,BG)::ju a.1 c.1 d.1 [(68,J7 t),(69,ls eI [(2:Int)])]) ((FM tm d.2)::(JH a.1)::Ck []) 3 AA ⟨.rfl,.rfl,.rfl,.rfl,.rfl,.rfl,.BY AA,pA⟩ (λ_=>AA) rfl (bs b λy Y b=>Df (J7 y) (hb 117) (EC Y) rfl ?_);refine CC 4 ([]:List Int) eI BF AA ?_;refine Ea ((0,BG)::ju a.1 c.1 d.1 [(68,J7 t),(70,J7 y),(71,Rw)]) ((FM tm d.2)::(JH a.1)::Ck [⟨1,3,1,[]⟩]) 4 AA ⟨.rfl,.rfl,.rfl,.rfl,.rfl,.rfl,.rfl,.BY AA,pA⟩ (λ_=>AA) rfl (bs b λz Z b=>Df (J7 z) (hb 117) (EC Z) rfl ?_);refine CC 5 ([]:List Int) eI BF AA ?_;refine Ea ((0,BG)::ju a.1 c.1 d.1 [(68,J7 t),(70,J7 y),(72,J7 z),(73,Rw)]) ((FM tm d.2)::(JH a.1)::Ck (Ck [])) 5 AA ⟨.rfl,.rfl,.rfl,.rfl,.rfl,.rfl,.rfl,.rfl,.BY AA,pA⟩ (λ_=>AA) rfl (bs b λA b0 b=>Df (J7 A) (hb 117) (EC b0) rfl ?_);refine CC 6 [t,y,z,A] CM Je AA ?_;refine AS AA (bs b λu b1 b=>?_);refine Hl ((FM tm u.2)::(JH a.1)::Ck (Ck [ro 0 82 1 CM [t,y,z,A]])) (i64 u.1) [0] AN (hb 83) (Ay b1) rfl AA ?_;refine Ea (ju a.1 c.1 d.1 [(75,ls CM [t,y,z,A]),(77,i64 u.1)]) ((FM tm u.2)::(JH a.1)::Ck (Ck [Mq])) 6 AA ⟨.rfl,.rfl,.rfl,.rfl,.BY AA,.rfl,pA⟩ (λ_=>AA) rfl (bs b λB b2 b=>Tl (i:=u.1) (j:=Sh.len [t,y,z,A]) AN Je AA AA AA (λ_=>AA) b2 (zz (.agg [i64 d.1,i64 0,ls CM B]) (DM Mk Ml HW AA AA) rfl (bs b λc8 F b=>zz (LB c.1) (CD DK AA AA AA AA F) rfl (JZ (u':=AL.mk d.1 0 B) AN KM AA AA F AA AA AA tL rfl AA ?_))));exact AB (G u.2 (Sh.put a.1 c.1 (AL.mk d.1 0 B)) (AT b) _ (by refine Wk.trans (AM (L:=[(3,.own 1 0 (List.length a.1))]) (st':=[⟨0,72,2,[[.sl (List.map FQ tm),i64 u.2]]⟩,⟨0,80,3,List.map Ai (Sh.put a.1 c.1 (AL.mk d.1 0 B))⟩]) [0,1] AA AA (.w (.p .nil)) ⟨.rfl,pA⟩) ?_;exact Ag (L:=[(3,.own 1 0 (List.length (Sh.put a.1 c.1 (AL.mk d.1 0 B))))]) ⟨(.len (by simp only[Sh.GS])),pA⟩))
     .refine Ap AA ?_;refine ci b AA ?_ ?_<;>intro c9 b
      .refine AF AA (AS AA (zz (.agg gO) (DM Mk Ml HW AA AA) rfl (zz (.agg [i64 3,i64 0,.zc]) (DM Mk Ml HW AA AA) rfl (Au (Ag (L:=[(83,ow 1 0 a.1),(84,.agg iF),(85,.agg [i64 3,i64 0,.zc])]) ⟨.rfl,.agg ⟨.rfl,.rfl,.zc,pA⟩,.rfl,pA⟩) (Au (Ag (L:=[(83,ow 1 0 a.1),(84,.agg iF),(85,.agg [i64 3,i64 0,cP])]) ⟨.rfl,.rfl,.agg ⟨.rfl,.rfl,.zc,pA⟩,pA⟩) ?_)))));refine CC 2 ([AL.mk 0 0 [],AL.mk 3 0 []]) Ai DK AA ?_;refine bs b λI b3 b=>Cs (l2:=[AL.mk 0 0 [],AL.mk 3 0 []]) AN DK AA AA AA AA (HG AA AA) (λ_=>AA) b3 AA (AS AA ?_);exact AB (G e.2 I (AT b) _ (by refine Wk.trans (D3 (L:=[(3,ow 1 0 I)]) (st':=[FM tm e.2,JH I,ro 0 80 3 Ai ([AL.mk 0 0 [],AL.mk 3 0 []])]) (.raw AA AA AA (.pure AA Bn (.pure AA Bn .nil))) (.same AA)) ?_;exact AM [0,1] AA AA (.w (.p .nil)) (.same AA)))
      .exact AH (G e.2 a.1 (AT b) _ Ao)
theorem QE {N:Nat}{tm:List Int}{tu:Int}{s1:List AU}{tp:List AL}{r:AJ×Int}(h0:He N tm tu s1 tp=some r):Bd 53 [BG,H2 tp s1] [FM tm tu,MK s1] (.agg [D4 r.1.decls,ow 1 1 r.1.funcs]) [FM tm r.2,cr r.1.funcs]:=by
 unfold He at h0;refine BJ.wk (r0:=.agg [D4 r.1.decls,ow 1 1 r.1.funcs]) (st0:=[FM tm r.2,cr r.1.funcs,dV r.1.decls r.1.funcs]) ?_ (D2 (L:=[(0,.agg [D4 r.1.decls,ow 1 1 r.1.funcs])]) (st':=[FM tm r.2,cr r.1.funcs]) [0,1] AA (by decide) rfl AA (.raw AA (.pure Bn pA)) (.same AA));refine ai Tryz.func53 AA AA AA AA (sr AA λX F=>Ef 2 AA (DE 3 JD AA (dn F AA (sr AA λY G=>Ac 3 AA (zz (HC s1) (DD Pv AA AA AA) rfl (bs h0 λc H h0=>?_))))));refine Hl ((FM tm c.2)::KL s1 tp [J8]) (i64 c.1) [0] AN (hb 83) (Ay H) rfl AA ?_;refine AS AA (dn G AA (sr AA λZ I=>Ac 3 AA (bs h0 λa j h0=>zz (LB c.1) (CD Cd AA AA AA AA j) rfl (zz (Ga a) (Cq Lj AA AA (CS j) tS rfl) rfl (DE 4 MM AA (Bw Lj AA (Au (Wk.BY (L:=mD c.1 a []) (st':=((FM tm c.2)::KL s1 tp [J8,VU])) (id:=4) rfl tV (Ei AA) (.same AA) rfl) (dn I AA (AE λO J=>?_)))))))));refine bs h0 λq e h0=>?_;have n:∀E o p,q=(E,o,p)->∀s,Wk 2 s ⟨80,AP [(3,CY),(4,IH)],[FM tm E,cr o,dV p o,J8]⟩->O s:=by
  rintro E o p rfl s P;refine J _ (AG P (sr AA λQ t=>AS AA (Bw D5 AA (dn t AA ?_))));cases h0;exact An ⟨_,(AM (L:=[(4,CY)]) (st':=[FM tm E,cr o,dV p o]) [0,1,3] AA AA (.w (.p (.w .nil))) ⟨.rfl,pA⟩).trans (Ag (L:=[(4,CY)]) ⟨.rfl,pA⟩),FX (.tmp 4) [D4 p,ow 1 1 o] D5 AA _ ⟨AA,AA⟩⟩
 refine sr AA λR u=>AS AA (bs e λf w e=>?_);refine Hl ((FM tm f.2)::KL s1 tp [J8,VU]) (i64 f.1) [0] AN (hb 83) (Ay w) rfl AA ?_;refine dn u AA (AK (Ap AA ?_));refine ci e AA ?_ ?_<;>intro S e
 .refine AG (D3 (L:=mD c.1 a []) (st':=((FM tm f.2)::KL s1 tp [J8,gu])) (.raw AA AA AA (.pure AA Bn (.raw AA AA AA (.raw AA AA AA (.pure AA (by intro x k;cases k) .nil))))) (.same AA)) ?_;refine L0 (KL s1 tp [J8,gu]) 13 ?_;refine BL cK AN AA (λ_ _=>FT Kh AA AA tO rfl) (BL (ow 1 0 s1) AN AA (λ_ _=>CG Pt AA AA AA AA) (BL (i64 c.1) AN AA (λ_ _=>BP AA) (BL (gT a) AN AA (λ_ _=>It Th AA AA) (BL (ls eI a.params) AN AA (λ_ _=>IP LS AA AA) (BL (.C8 (XD a) 1) AN AA (λ_ _=>It RP AA AA) (BL (i64 a.result) AN AA (λ_ _=>IP Hy AA AA) (BL BG AN AA (λ_ _=>BP AA) (BL (.C8 (XD a) 2) AN AA (λ_ _=>It Wq AA AA) (BL (Tw a) AN AA (λ_ _=>IF BI AA tT rfl) (bs e λb y e=>?_))))))))));refine TU (DV b.1.op b.1.num b.1.kids) (FM tm b.2) [0] AN (hb 84) (Yk y) rfl (λ_=>AA) ?_;refine BL (.agg [ls eI a.params,i64 a.result,i64 b.1.op,i64 b.1.num,Hd b.1.kids]) AN AA (λ_ _=>DM V0 Vm MM AA AA) (BL (LB c.1) AN AA (λ_ _=>CD Cd AA AA AA AA j) (FU AA (JZ (u':=AU.mk a.params a.result b.1) AN Lj AA AA j AA AA AA tS rfl AA ?_)));exact AB (n b.2 (Sh.put s1 c.1 (AU.mk a.params a.result b.1)) tp (AT e) _ (by refine Wk.trans (GF (st:=[⟨0,72,2,[[.sl (List.map FQ tm),i64 b.2]]⟩,⟨0,37,5,List.map BT (Sh.put s1 c.1 (AU.mk a.params a.result b.1))⟩,⟨0,26,2,[[.sl (List.map Ai tp),.own 1 0 (List.length s1)]]⟩,J8,⟨0,37,5,[]⟩]) (st':=[⟨0,72,2,[[.sl (List.map FQ tm),i64 b.2]]⟩,⟨0,37,5,List.map BT (Sh.put s1 c.1 (AU.mk a.params a.result b.1))⟩,⟨0,26,2,[[.sl (List.map Ai tp),.own 1 0 (List.length (Sh.put s1 c.1 (AU.mk a.params a.result b.1)))]]⟩,J8,⟨0,37,5,[]⟩]) (by simp only[Sh.GS])) ?_;refine Wk.trans (Nj (L:=[(3,.ptr 2 0 0 0),(4,.ptr 3 0 0 0)]) (st':=[⟨0,72,2,[[.sl (List.map FQ tm),i64 b.2]]⟩,⟨1,37,5,List.map BT (Sh.put s1 c.1 (AU.mk a.params a.result b.1))⟩,⟨0,26,2,[[.sl (List.map Ai tp),.own 1 1 (List.length (Sh.put s1 c.1 (AU.mk a.params a.result b.1)))]]⟩,J8,⟨0,37,5,[]⟩]) (st1:=[⟨0,72,2,[[.sl (List.map FQ tm),i64 b.2]]⟩,⟨0,37,5,List.map BT (Sh.put s1 c.1 (AU.mk a.params a.result b.1))⟩,⟨0,26,2,[[.sl (List.map Ai tp),.own 1 1 (List.length (Sh.put s1 c.1 (AU.mk a.params a.result b.1)))]]⟩,J8,⟨0,37,5,[]⟩]) 1 AA (.raw AA AA (.pure Bn (.raw AA AA (.raw AA AA (.pure (by intro x k;cases k) .nil))))) rfl (.same AA)) ?_;exact AM [0,1,2,3] AA AA (.w (.p (.w (.w .nil)))) (.same AA)))
 .refine Ap AA ?_;refine ci e AA ?_ ?_<;>intro T e
  .refine AG (D3 (L:=mD c.1 a []) (st':=((FM tm f.2)::KL s1 tp [J8,gu])) (.raw AA AA AA (.pure AA Bn (.raw AA AA AA (.raw AA AA AA (.pure AA (by intro x k;cases k) .nil))))) (.same AA)) ?_;refine L0 (KL s1 tp [J8,gu]) 16 ?_;refine BL cK AN AA (λ_ _=>FT Kh AA AA tO rfl) (BL (ow 1 0 s1) AN AA (λ_ _=>CG Pt AA AA AA AA) (BL (i64 c.1) AN AA (λ_ _=>BP AA) (BL (gT a) AN AA (λ_ _=>It Th AA AA) (BL (ls eI a.params) AN AA (λ_ _=>IP LS AA AA) (BL BG AN AA (λ_ _=>BP AA) ?_)))));refine F3 AN (λK zz=>Gu (l:=[(0:Int),1,9,-1]) (enc:=eI) AN BF (by decide) rfl AA AA AA AA Bn (As AA)) ?_;refine bs e λi z e=>?_;refine TU (i64 i.1) (FM tm i.2) [0] AN (hb 70) (Bm z) rfl (λ_=>AA) ?_;refine F3 AN (λK zz=>Gu (l:=[i.1]) (enc:=eI) AN BF (by decide) rfl AA AA AA AA Bn (As AA)) ?_;refine bs e λh A e=>?_;refine F3 AN (λK zz=>BU (v:=ls eI h) AN (hb 85) (BJ.wk (F7 A) (by refine Wk.trans (Wk.BY (L:=[(0,ls eI h)]) (st':=UY) (id:=0) rfl tN Bn ⟨.BY AA,pA⟩ AA) ?_;exact AM [] AA AA .nil (.same AA))) rfl AA AA (As AA)) ?_;refine BL (.C8 (XD a) 1) AN AA (λ_ _=>It RP AA AA) (BL (i64 a.result) AN AA (λ_ _=>IP Hy AA AA) (BL (.C8 (XD a) 2) AN AA (λ_ _=>It Wq AA AA) (BL (Tw a) AN AA (λ_ _=>IF BI AA tT rfl) (BL (.agg [ls eI h,i64 a.result,i64 a.body.op,i64 a.body.num,ls Ar a.body.kids]) AN AA (λ_ _=>DM V0 Vm MM AA AA) (BL (LB c.1) AN AA (λ_ _=>CD Cd AA AA AA AA j) (FU AA (JZ (u':=AU.mk h a.result a.body) AN Lj AA AA j AA AA AA tS rfl AA ?_)))))));exact AB (n i.2 (Sh.put s1 c.1 (AU.mk h a.result a.body)) tp (AT e) _ (by refine Wk.trans (GF (st:=[⟨0,72,2,[[.sl (List.map FQ tm),i64 i.2]]⟩,⟨0,37,5,List.map BT (Sh.put s1 c.1 (AU.mk h a.result a.body))⟩,⟨0,26,2,[[.sl (List.map Ai tp),.own 1 0 (List.length s1)]]⟩,J8,⟨0,37,5,[]⟩]) (st':=[⟨0,72,2,[[.sl (List.map FQ tm),i64 i.2]]⟩,⟨0,37,5,List.map BT (Sh.put s1 c.1 (AU.mk h a.result a.body))⟩,⟨0,26,2,[[.sl (List.map Ai tp),.own 1 0 (List.length (Sh.put s1 c.1 (AU.mk h a.result a.body)))]]⟩,J8,⟨0,37,5,[]⟩]) (by simp only[Sh.GS])) ?_;refine Wk.trans (Nj (L:=[(3,.ptr 2 0 0 0),(4,.ptr 3 0 0 0)]) (st':=[⟨0,72,2,[[.sl (List.map FQ tm),i64 i.2]]⟩,⟨1,37,5,List.map BT (Sh.put s1 c.1 (AU.mk h a.result a.body))⟩,⟨0,26,2,[[.sl (List.map Ai tp),.own 1 1 (List.length (Sh.put s1 c.1 (AU.mk h a.result a.body)))]]⟩,J8,⟨0,37,5,[]⟩]) (st1:=[⟨0,72,2,[[.sl (List.map FQ tm),i64 i.2]]⟩,⟨0,37,5,List.map BT (Sh.put s1 c.1 (AU.mk h a.result a.body))⟩,⟨0,26,2,[[.sl (List.map Ai tp),.own 1 1 (List.length (Sh.put s1 c.1 (AU.mk h a.result a.body)))]]⟩,J8,⟨0,37,5,[]⟩]) 1 AA (.raw AA AA (.pure Bn (.raw AA AA (.raw AA AA (.pure (by intro x k;cases k) .nil))))) rfl (.same AA)) ?_;exact AM [0,1,2,3] AA AA (.w (.p (.w (.w .nil)))) (.same AA)))
  .refine Ap AA ?_;refine ci e AA ?_ ?_<;>intro U e
   .refine AG (D3 (L:=mD c.1 a []) (st':=((FM tm f.2)::KL s1 tp [J8,gu])) (.raw AA AA AA (.pure AA Bn (.raw AA AA AA (.raw AA AA AA (.pure AA (by intro x k;cases k) .nil))))) (.same AA)) ?_;refine L0 (KL s1 tp [J8,gu]) 12 ?_;refine BL cK AN AA (λ_ _=>FT Kh AA AA tO rfl) (BL (ow 1 0 s1) AN AA (λ_ _=>CG Pt AA AA AA AA) (BL (i64 c.1) AN AA (λ_ _=>BP AA) (BL (gT a) AN AA (λ_ _=>It Th AA AA) (BL (ls eI a.params) AN AA (λ_ _=>IP LS AA AA) (BL BG AN AA (λ_ _=>BP AA) ?_)))));refine F3 AN (λK zz=>Gu (l:=[(0:Int),1,3,5,-1]) (enc:=eI) AN BF (by decide) rfl AA AA AA AA Bn (As AA)) ?_;refine bs e λd B e=>?_;refine TU (i64 d.1) (FM tm d.2) [0] AN (hb 70) (Bm B) rfl (λ_=>AA) ?_;refine BL (.C8 (XD a) 2) AN AA (λ_ _=>It Wq AA AA) (BL (Tw a) AN AA (λ_ _=>IF BI AA tT rfl) (BL (.agg [ls eI a.params,i64 d.1,i64 a.body.op,i64 a.body.num,ls Ar a.body.kids]) AN AA (λ_ _=>DM V0 Vm MM AA AA) (BL (LB c.1) AN AA (λ_ _=>CD Cd AA AA AA AA j) (FU AA (JZ (u':=AU.mk a.params d.1 a.body) AN Lj AA AA j AA AA AA tS rfl AA ?_)))));exact AB (n d.2 (Sh.put s1 c.1 (AU.mk a.params d.1 a.body)) tp (AT e) _ (by refine Wk.trans (GF (st:=[⟨0,72,2,[[.sl (List.map FQ tm),i64 d.2]]⟩,⟨0,37,5,List.map BT (Sh.put s1 c.1 (AU.mk a.params d.1 a.body))⟩,⟨0,26,2,[[.sl (List.map Ai tp),.own 1 0 (List.length s1)]]⟩,J8,⟨0,37,5,[]⟩]) (st':=[⟨0,72,2,[[.sl (List.map FQ tm),i64 d.2]]⟩,⟨0,37,5,List.map BT (Sh.put s1 c.1 (AU.mk a.params d.1 a.body))⟩,⟨0,26,2,[[.sl (List.map Ai tp),.own 1 0 (List.length (Sh.put s1 c.1 (AU.mk a.params d.1 a.body)))]]⟩,J8,⟨0,37,5,[]⟩]) (by simp only[Sh.GS])) ?_;refine Wk.trans (Nj (L:=[(3,.ptr 2 0 0 0),(4,.ptr 3 0 0 0)]) (st':=[⟨0,72,2,[[.sl (List.map FQ tm),i64 d.2]]⟩,⟨1,37,5,List.map BT (Sh.put s1 c.1 (AU.mk a.params d.1 a.body))⟩,⟨0,26,2,[[.sl (List.map Ai tp),.own 1 1 (List.length (Sh.put s1 c.1 (AU.mk a.params d.1 a.body)))]]⟩,J8,⟨0,37,5,[]⟩]) (st1:=[⟨0,72,2,[[.sl (List.map FQ tm),i64 d.2]]⟩,⟨0,37,5,List.map BT (Sh.put s1 c.1 (AU.mk a.params d.1 a.body))⟩,⟨0,26,2,[[.sl (List.map Ai tp),.own 1 1 (List.length (Sh.put s1 c.1 (AU.mk a.params d.1 a.body)))]]⟩,J8,⟨0,37,5,[]⟩]) 1 AA (.raw AA AA (.pure Bn (.raw AA AA (.raw AA AA (.pure (by intro x k;cases k) .nil))))) rfl (.same AA)) ?_;exact AM [0,1,2,3] AA AA (.w (.p (.w (.w .nil)))) (.same AA)))
   .refine Ap AA ?_;refine ci e AA ?_ ?_<;>intro V e
    .refine AF AA (AS AA (bs e λg C e=>?_));refine G8 (rowsP:=[FM tm f.2]) (rows0:=[FM tm f.2]) (rows1:=[FM tm g.2]) (rows2:=[JH g.1]) (rows1':=[FM tm g.2]) (rows2':=[JH g.1]) (st':=((FM tm g.2)::KL s1 tp [J8,VU,JH g.1])) (v':=ow 5 0 g.1) [0] AN (hb 86) (T6 C) rfl (by decide) rfl AA (.raw AA AA .nil) rfl AA (.raw AA AA .nil) (.pure Bn .nil) rfl AA ?_;refine AS AA (Ea [(3,CY),(4,IH),(69,D4 g.1),(70,CY)] ((FM tm g.2)::KL s1 tp [J8,VU,OP]) 5 AA ⟨.rfl,.rfl,.BY AA,.rfl,pA⟩ (λ_=>AA) rfl (Bw dJ AA ?_));exact AB (n g.2 s1 g.1 (AT e) _ (by refine Wk.trans (Nj (L:=[(3,CY),(4,IH)]) (st':=[FM tm g.2,cr s1,dV g.1 s1,J8,VU,OP]) (st1:=[FM tm g.2,MK s1,dV g.1 s1,J8,VU,OP]) 1 AA (.raw AA AA (.pure Bn (.raw AA AA (.raw AA AA (.pure (by intro x k;cases k) (.pure (by intro x k;cases k) .nil)))))) rfl (.same AA)) ?_;exact AM [0,1,2,3] AA AA (.w (.p (.w (.w .nil)))) (.same AA)))
    .refine Ap AA ?_;refine ci e AA ?_ ?_<;>intro W e
     .refine AF AA (Ac 3 AA ?_);refine CC 5 [a] BT Cd AA ?_;refine bs e λM D e=>Cs (l2:=[a]) AN Cd AA AA AA AA (HG AA AA) (λ_=>AA) D AA (AS AA (Bw Pt AA ?_));exact AB (n f.2 M tp (AT e) _ (AM [0,1,2,3] AA AA (.w (.p (.w (.w .nil)))) (.same AA)))
     .exact AH (n f.2 s1 tp (AT e) _ (by refine Wk.trans (Nj (L:=[(3,CY),(4,IH)]) (st':=[FM tm f.2,cr s1,dV tp s1,J8,VU]) (st1:=[FM tm f.2,MK s1,dV tp s1,J8,VU]) 1 AA (.raw AA AA (.pure Bn (.raw AA AA (.raw AA AA (.pure (by intro x k;cases k) .nil))))) rfl (.same AA)) ?_;exact AM [0,1,2,3] AA AA (.w (.p (.w (.w .nil)))) (.same AA)))
theorem Ro {N:Nat}{tm:List Int}{tu:Int}{r:AJ×Int}(h0:IT N tm tu=some r):Bd 25 [BG] [FM tm tu] (H2 r.1.decls r.1.funcs) [FM tm r.2,MK r.1.funcs]:=by
 unfold IT at h0;refine BJ.wk (r0:=H2 r.1.decls r.1.funcs) (st0:=((FM tm r.2)::KL r.1.funcs r.1.decls [])) ?_ (D2 (L:=[(0,H2 r.1.decls r.1.funcs)]) (st':=[FM tm r.2,MK r.1.funcs]) [0,1] AA (by decide) rfl AA (.raw AA (.pure Bn pA)) (.same AA));refine ai Tryz.func25 AA AA AA AA (sr AA λg c=>DE 1 JD AA (dn c AA (sr AA λh d=>Ac 2 AA (bs h0 λb e h0=>?_))));refine G8 (rowsP:=[FM tm tu]) (rows0:=[FM tm tu]) (rows1:=[FM tm b.2]) (rows2:=[MK b.1.funcs]) (rows1':=[FM tm b.2]) (rows2':=[MK b.1.funcs]) (st':=[FM tm b.2,J8,MK b.1.funcs]) (v':=.agg [D4 b.1.decls,ow 2 0 b.1.funcs]) [0] AN (hb 54) (Qm e) rfl (by decide) rfl AA (.raw AA AA .nil) rfl AA (.raw AA AA .nil) (.pure Bn .nil) rfl AA ?_;refine bs h0 λa f h0=>?_;refine Ov [FM tm a.2,J8,cr a.1.funcs] (.agg [D4 a.1.decls,ow 2 1 a.1.funcs]) [0,2] AN (hb 53) (QE f) rfl AA (λ_=>AA) (λ_=>AA) ?_;refine Bw D5 AA (dn d AA ?_);cases h0;exact An ⟨_,((D3 (L:=[(2,CJ)]) (st':=[FM tm a.2,gY a.1.decls a.1.funcs,MK a.1.funcs]) (.raw AA AA AA (.raw AA AA AA (.pure AA Bn .nil))) (.same AA)).trans (Eh (L:=[(2,CY)]) (st':=((FM tm a.2)::KL a.1.funcs a.1.decls [])) (st1:=[FM tm a.2,MK a.1.funcs,gY a.1.decls a.1.funcs]) [0,2,1] AA AA (.w (.p (.w .nil))) (.same AA))).trans (Ag (L:=[(2,CY)]) (.same AA)),FX (.tmp 2) [D4 a.1.decls,ow 1 0 a.1.funcs] D5 AA _ ⟨AA,AA⟩⟩
theorem PG {N:Nat}{p0:List Int}{r:AJ×Int}(h0:HK N p0=some r):Bd 41 [ls FQ p0] [] (.DF [.agg (Sc r.1.decls r.1.funcs),i64 r.2]) []:=by
 unfold HK at h0;refine Cj AA (ai Tryz.func41 AA AA AA AA (sr AA λA j=>DE 0 JD AA (AS AA (dn j AA (sr AA λB k=>AS AA (bs h0 λb n h0=>Bo (v':=CJ) AN (hb 26) (Sb n) rfl AA ⟨(Ei AA).any,pA⟩ AA AA (AS AA (dn k AA ?_))))))));refine sr AA λC o=>AS AA (bs h0 λa p h0=>?_);refine G8 (rowsP:=[FM b.1 b.2]) (rows0:=[FM b.1 b.2]) (rows1:=[FM b.1 a.2]) (rows2:=[MK a.1.funcs]) (rows1':=[FM b.1 a.2]) (rows2':=[MK a.1.funcs]) (st':=[J8,FM b.1 a.2,MK a.1.funcs]) (v':=.agg [D4 a.1.decls,ow 2 0 a.1.funcs]) [1] AN (hb 25) (Ro p) rfl (by decide) rfl AA (.raw AA AA .nil) rfl AA (.raw AA AA .nil) (.pure Bn .nil) rfl AA ?_;refine DE 3 JD AA (Ea [(2,BG),(4,CJ),(5,IH),(9,.agg (Sc a.1.decls a.1.funcs))] [J8,FM b.1 a.2,VU,J8] 2 AA ⟨.rfl,.rfl,.rfl,.agg ⟨.rfl,.H9 AA,pA⟩,pA⟩ (λ_=>AA) rfl (Bw D5 AA (dn o AA (AE λy q=>bs h0 λw e h0=>?_))));have t:∀i,w=i->∀s,Wk 0 s ⟨14,AP [(2,BG),(3,i64 i)],[bj a.1.decls a.1.funcs]⟩->y s:=by
  intro i D s z;subst w;refine q _ (AG z ?_);cases h0;exact An ⟨_,Ag (L:=[(2,BG),(3,i64 i)]) (.same AA),FX (.tmp 2) (Sc a.1.decls a.1.funcs) D5 AA _ AA⟩
 refine ID (by kernel_rfl) ?_;refine H8 1 (v:=CJ) rfl AA (by kernel_rfl) (by kernel_rfl) (by kernel_rfl) rfl (IZ AA) ?_;refine xa [0,2] ⟨?_,?_,pA⟩
 .refine xo 0 ?_;refine AS AA (AB ⟨AA,?_⟩);refine xa [2] ⟨?_,pA⟩
  .refine xo 2 ?_;refine CC 4 [(1:Int),2,3,1,3,0,-1,4] eI BF AA ?_;refine AB ⟨AA,?_⟩;refine xa [3] ⟨?_,pA⟩
   .refine xo 3 ?_;refine Ea [(2,BG),(10,.agg (Sc a.1.decls a.1.funcs)),(11,CJ),(12,nD)] (gh b.1 a.2 a.1.decls a.1.funcs) 4 AA ⟨.rfl,.rfl,.rfl,.BY AA,pA⟩ (λ_=>AA) rfl (bs e λf u e=>?_);refine Hl (gh b.1 f.2 a.1.decls a.1.funcs) (i64 f.1) [1] AN (hb 70) (Bm u) rfl AA ?_;refine AB ⟨AA,?_⟩;refine xa [4] ⟨?_,pA⟩
    .refine xo 4 ?_;refine Bw D5 AA (AB ⟨AA,?_⟩);refine H8 5 (v:=i64 f.1) rfl AA (by kernel_rfl) (by kernel_rfl) (by kernel_rfl) rfl (RJ AA) ?_;exact Gr AA (by kernel_rfl) (t f.1 (AT e) _ (by exact AM [0] AA AA (.w .nil) (.same AA)))
 .refine xo 2 ?_;refine CC 4 [(1:Int),2,3,1,3,0,-1,4] eI BF AA ?_;refine AB ⟨AA,?_⟩;refine xa [0,3] ⟨?_,?_,pA⟩
  .refine xo 0 ?_;refine AS AA (AB ⟨AA,?_⟩);refine xa [3] ⟨?_,pA⟩
   .refine xo 3 ?_;refine Ea [(2,BG),(10,.agg (Sc a.1.decls a.1.funcs)),(11,CJ),(12,nD)] (gh b.1 a.2 a.1.decls a.1.funcs) 4 AA ⟨.rfl,.rfl,.rfl,.BY AA,pA⟩ (λ_=>AA) rfl (bs e λc g e=>?_);refine Hl (gh b.1 c.2 a.1.decls a.1.funcs) (i64 c.1) [1] AN (hb 70) (Bm g) rfl AA ?_;refine AB ⟨AA,?_⟩;refine xa [4] ⟨?_,pA⟩
    .refine xo 4 ?_;refine Bw D5 AA (AB ⟨AA,?_⟩);refine H8 5 (v:=i64 c.1) rfl AA (by kernel_rfl) (by kernel_rfl) (by kernel_rfl) rfl (RJ AA) ?_;exact Gr AA (by kernel_rfl) (t c.1 (AT e) _ (by exact AM [0] AA AA (.w .nil) (.same AA)))
  .refine xo 3 ?_;refine Ea [(2,BG),(5,IH),(11,CJ),(12,nD)] (gh b.1 a.2 a.1.decls a.1.funcs) 4 AA ⟨.rfl,.rfl,.rfl,.BY AA,pA⟩ (λ_=>AA) rfl (bs e λd h e=>?_);refine Hl (gh b.1 d.2 a.1.decls a.1.funcs) (i64 d.1) [1] AN (hb 70) (Bm h) rfl AA ?_;refine AB ⟨AA,?_⟩;refine xa [0] ⟨?_,pA⟩
   .refine xo 0 ?_;refine AS AA (AB ⟨AA,?_⟩);refine xa [4] ⟨?_,pA⟩
    .refine xo 4 ?_;refine Bw D5 AA (AB ⟨AA,?_⟩);refine H8 5 (v:=i64 d.1) rfl AA (by kernel_rfl) (by kernel_rfl) (by kernel_rfl) rfl (RJ AA) ?_;exact Gr AA (by kernel_rfl) (t d.1 (AT e) _ (by exact AM [0] AA AA (.w .nil) (.same AA)))
theorem Rs {N:Nat}{p0:List Int}{r:AJ×Int}(h0:IY N p0=some r):Bd 18 [ls FQ p0] [] (.DF [.agg (Sc r.1.decls r.1.funcs),i64 r.2]) []:=by
 unfold IY at h0;refine Cj AA (ai Tryz.func18 AA AA AA AA (sr AA λe b=>DE 0 JD AA (AS AA (dn b AA (sr AA λf c=>AS AA (bs h0 λa d h0=>Df (.DF [.agg (Sc a.1.decls a.1.funcs),i64 a.2]) (hb 41) (PG d) rfl (Ac 2 AA (Bw D5 AA ?_))))))));refine AS AA (dn c AA ?_);cases h0;exact An ⟨_,Ag (L:=[(2,BG),(3,i64 a.2)]) (.same AA),FX (.tmp 2) (Sc a.1.decls a.1.funcs) D5 AA _ AA⟩
theorem Ki {p0:List AL}{p1:Int}{r:Bool}(h0:Hz p0 p1=some r):Bd 111 [D4 p0,i64 p1] [] (.bool r) []:=by
 unfold Hz at h0;refine ai Tryz.func111 AA AA AA AA (Ap AA (AE λg d=>bs h0 λe b h0=>?_));have f:∀c,e=c->∀s,Wk 0 s ⟨13,AP [(4,.bool c)],[]⟩->g s:=by
  intro c i s h;subst e;try dsimp only at h0
  refine d _ (AG h ?_);obtain rfl:=Sh.Bf h0;exact rt [(4,.bool c)]
 refine AF AA (Ac 3 AA ?_);rcases Sh.Ad b with ⟨a,b⟩|⟨a,b⟩
 .exact Aw a AA (Aw a AA (BW (v:=HC p0) (CQ AA AA a) rfl (CU TZ AA) (Aw a AA (zt a AA (AS AA (AB (f (decide (p1<=Sh.len p0)) (AT b) _ Ao)))))))
 .refine zs a AA ?_;iterate 3 refine zs a rfl ?_
  exact zf a AA (AS AA (AB (f false (AT b) _ Ao)))
theorem Ld {N:Nat}{p0:List AL}{p1:List Int}{r:Bool}(h0:Hi N p0 p1=some r):Bd 79 [D4 p0,ls eI p1] [] (.bool r) []:=by
 unfold Hi at h0;refine ai Tryz.func79 AA AA AA AA (Ap AA (AE λp i=>sr AA λC j=>AS AA (CZ AA (AS AA (dn j AA ?_)))));obtain⟨k,a,h0⟩:=Sh.Bi h0;have q:∀(_:Unit),k=Sum.inr ()->∀s,Wk 0 s ⟨18,AP [],[]⟩->p s:=by
  intro _ D s t;subst k;refine i _ (AG t (Ap AA ?_));cases h0;exact rt [(4,.bool true)]
 refine AK (Am (σ:=Int) (λn v=>Ff p0 p1 n v=some k) (λl=>⟨18,AP [(0,ls Ai p0),(7,ls eI p1),(8,i64 (Sh.len p1)),(9,i64 l)],[]⟩) N 0 a Ao (λ_ o=>by rw[Ff]at o;cases o) ?_);rintro n l a;rw[Ff]at a;refine Ap AA (AE λE m=>?_);refine ci a AA ?_ ?_<;>intro F a
 .refine AH (m _ (AE λu b=>AK (sr AA λx c=>bs a λy d a=>zx BF d AA AA AA (Ac 2 AA (dn c AA (sr AA λz e=>Ac 2 AA (bs a λf g a=>Gs (hb 111) (Ki g) rfl ?_)))))));refine AS AA (dn e AA ?_);refine ci a AA ?_ ?_<;>intro h a
  .have A:f=false:=by simpa using h
   refine Ap AA ?_;cases a;cases h0;exact rt [(4,.bool false)]
  .have B:f=true:=by simpa using h
   exact AH (b _ (AF AA (Ac 2 AA (AB (xi (Sh.w (l+1)) a Ao)))))
 .exact Av (q () (AT a) _ Ao)
theorem Rh {N:Nat}{p0:List AL}{r:Bool}(h0:Ie N p0=some r):Bd 110 [D4 p0] [] (.bool r) []:=by
 unfold Ie at h0;refine ai Tryz.func110 AA AA AA AA (Ap AA (AE λK2 c3=>sr AA λK3 c4=>AS AA (CZ AA (AS AA (dn c4 AA ?_)))));refine ci h0 AA ?_ ?_<;>intro b4 h0
 .refine Ap AA ?_;cases h0;exact rt [(2,.bool false)]
 .refine AH (c3 _ (AE λK6 c5=>sr AA λK7 c6=>AS AA (CZ AA (AS AA (dn c6 AA ?_)))));obtain⟨o9,d,h0⟩:=Sh.Bi h0;have M9:∀(_:Unit),o9=Sum.inr ()->∀s,Wk 0 s ⟨106,AP [],[]⟩->K6 s:=by
   intro _ I s x;subst o9;refine c5 _ (AG x (Ap AA ?_));cases h0;exact rt [(2,.bool true)]
  refine AK (Am (σ:=Int) (λn v=>Er N p0 n v=some o9) (λp=>⟨106,AP [(0,ls Ai p0),(12,ls Ai p0),(13,i64 (Sh.len p0)),(14,i64 p)],[]⟩) N 0 d Ao (λ_ C=>by rw[Er]at C;cases C) ?_);rintro n p d;rw[Er]at d;refine Ap AA (AE λd6 J=>?_);refine ci d AA ?_ ?_<;>intro d7 d
  .refine AH (J _ (AE λc7 K=>AK (sr AA λd8 L=>AS AA (bs d λb M d=>zx DK M AA AA AA (AS AA (DE 0 HW AA (AS AA (Bw KM AA (dn L AA ?_)))))))));refine AE λd9 O=>AE λc8 P=>bs d λQ a d=>?_;have u:∀D,Q=D->∀s,Wk 0 s ⟨106,AP ((0,D4 p0)::(3,i64 p)::(4,BG)::(12,D4 p0)::Ui p0 p [(52,.bool D)]),[XW b]⟩->c8 s:=by
    intro D I s x;subst Q;refine P _ (AG x ?_);refine ci d AA ?_ ?_<;>intro g0 d
    .refine Ap AA ?_;cases d;cases h0;exact rd [(2,.bool false)]
    .refine AH (O _ (AE λc9 R=>sr AA λg1 S=>Ac 2 AA (CZ AA (AS AA (dn S AA ?_)))));obtain⟨E,a,d⟩:=Sh.Bi d;have d1:∀(_:Unit),E=Sum.inr ()->∀s,Wk 0 s ⟨106,AP ((0,D4 p0)::(3,i64 p)::(4,BG)::(12,D4 p0)::Ui p0 p []),[XW b]⟩->c9 s:=by
      intro _ I s x;subst E;refine R _ (AG x (sr AA λg2 T=>Ac 2 AA (bs d λy U d=>Tl (i:=0) (j:=p) AN DK AA AA AA (λ_=>AA) U (CZ AA (AS AA (dn T AA ?_))))));obtain⟨F,a,d⟩:=Sh.Bi d;have d2:∀(_:Unit),F=Sum.inr ()->∀s,Wk 0 s ⟨106,AP ((0,D4 p0)::(12,D4 p0)::Ui p0 p []),[]⟩->c7 s:=by
       intro _ I s x;subst F;exact K _ (AG x (AF AA (Ac 2 AA (AB (xi (Sh.w (p+1)) d Ao)))))
      refine AK (Am (σ:=Int) (λn v=>EB b y n v=some F) (λz=>⟨106,AP [(0,ls Ai p0),(4,.ptr 0 0 0 0),(12,ls Ai p0),(13,i64 (Sh.len p0)),(14,i64 p),(74,ls Ai y),(75,i64 (Sh.len y)),(76,i64 z)],[⟨0,80,3,[Ai b]⟩]⟩) N 0 a Ao (λ_ C=>by rw[EB]at C;cases C) ?_);rintro n z a;rw[EB]at a;refine Ap AA (AE λg3 V=>?_);refine ci a AA ?_ ?_<;>intro g4 a
      .refine AH (V _ (AE λg5 W=>AK (sr AA λg6 X=>bs a λY Z a=>zx DK Z AA AA AA (AS AA (DE 1 HW AA (Bw KM AA (dn X AA (AE λd3 b0=>bs a λb1 f a=>?_))))))));have A:∀G,b1=G->∀s,Wk 0 s ⟨106,AP ((0,D4 p0)::(4,BG)::(12,D4 p0)::Ui p0 p [(74,D4 y),(75,HC y),(76,i64 z),(103,.bool G)]),[XW b]⟩->d3 s:=by
        intro G I s x;subst b1;refine b0 _ (AG x ?_);refine ci a AA ?_ ?_<;>intro g7 a
        .refine Ap AA ?_;cases a;cases d;cases h0;exact rd [(2,.bool false)]
        .exact AH (W _ (AF AA (Ac 2 AA (AB (xi (Sh.w (z+1)) a Ao)))))
       refine AF AA (Ac 2 AA (CZ AA (Ac 2 AA ?_)));rcases Sh.Ad f with ⟨k,f⟩|⟨k,f⟩
       .refine Aw k AA (Aw k AA (BW (v:=Yn Y) (CQ AA AA k) rfl (CU Qa AA) (Aw k AA (zt k AA (AS AA ?_)))));rcases Sh.Ad f with ⟨q,f⟩|⟨q,f⟩
        .refine Aw q AA ?_;iterate 4 refine Aw q rfl ?_
         refine zt q AA (AS AA ?_);rcases Sh.Ad f with ⟨t,f⟩|⟨t,f⟩
         .refine Aw t AA ?_;iterate 4 refine Aw t rfl ?_
          refine zt t AA ?_;exact AB (A (decide (Y.to=b.to)) (AT f) _ (AM [0] AA AA (.w .nil) (.same AA)))
         .refine zs t AA ?_;iterate 4 refine zs t rfl ?_
          refine zf t AA ?_;exact AB (A false (AT f) _ (AM [0] AA AA (.w .nil) (.same AA)))
        .refine zs q AA ?_;iterate 4 refine zs q rfl ?_
         refine zf q AA (AS AA ?_);iterate 5 refine zs rfl rfl ?_
         refine zf AA AA ?_;exact AB (A false (AT f) _ (AM [0] AA AA (.w .nil) (.same AA)))
       .refine zs k AA ?_;iterate 3 refine zs k rfl ?_
        refine zf k AA (AS AA ?_);iterate 5 refine zs rfl rfl ?_
        refine zf AA AA (AS AA ?_);iterate 5 refine zs rfl rfl ?_
        refine zf AA AA ?_;exact AB (A false (AT f) _ (AM [0] AA AA (.w .nil) (.same AA)))
      .exact Av (d2 () (AT a) _ (Be _ AA))
     refine AK (Am (σ:=Int) (λn v=>ED N b p0 n v=some E) (λB=>⟨106,AP [(0,ls Ai p0),(3,i64 p),(4,.ptr 0 0 0 0),(12,ls Ai p0),(13,i64 (Sh.len p0)),(14,i64 p),(54,ls CM b.cons),(55,i64 (Sh.len b.cons)),(56,i64 B)],[⟨0,80,3,[Ai b]⟩]⟩) N 0 a Ao (λ_ C=>by rw[ED]at C;cases C) ?_);rintro n B a;rw[ED]at a;refine Ap AA (AE λg8 b2=>?_);refine ci a AA ?_ ?_<;>intro g9 a
     .refine AH (b2 _ (AE λh4 b3=>AK (sr AA λh5 b5=>bs a λh6 b6 a=>zx Je b6 AA AA AA (AS AA (DE 1 R3 AA (Bw P3 AA (dn b5 AA (AE λd4 b7=>bs a λb8 f a=>?_))))))));have b9:∀H,b8=H->∀s,Wk 0 s ⟨106,AP ((0,D4 p0)::(3,i64 p)::(4,BG)::(12,D4 p0)::Ui p0 p [(54,ls CM b.cons),(55,Yn b),(56,i64 B),(70,.bool H)]),[XW b]⟩->d4 s:=by
       intro H I s x;subst b8;refine b7 _ (AG x ?_);refine ci a AA ?_ ?_<;>intro h7 a
       .refine Ap AA ?_;cases a;cases d;cases h0;exact rd [(2,.bool false)]
       .exact AH (b3 _ (AF AA (Ac 2 AA (AB (xi (Sh.w (B+1)) a Ao)))))
      refine AF AA (Ac 2 AA (CZ AA (Ac 2 AA ?_)));rcases Sh.Ad f with ⟨g,f⟩|⟨g,f⟩
      .refine zs g AA ?_;iterate 4 refine zs g rfl ?_
       refine zt g AA ?_;exact AB (b9 true (AT f) _ (AM [0] AA AA (.w .nil) (.same AA)))
      .refine Aw g AA (Aw g AA (Aw g AA (bs f λd5 c0 f=>zd g (hb 79) (Ld c0) rfl AA AA AA (Aw g AA (zf g AA ?_)))));exact AB (b9 (!d5) (AT f) _ (AM [0] AA AA (.w .nil) (.same AA)))
     .exact Av (d1 () (AT a) _ Ao)
   refine AF AA (Ac 3 AA (bs a λh8 c1 a=>Gs (hb 111) (Ki c1) rfl (Ac 2 AA ?_)));rcases Sh.Ad a with ⟨h,a⟩|⟨h,a⟩
   .refine zs h AA ?_;iterate 4 refine zs h rfl ?_
    refine zt h AA (AS AA ?_);iterate 4 refine zs rfl rfl ?_
    refine zt AA AA (AS AA ?_);iterate 5 refine zs rfl rfl ?_
    iterate 8 refine zn rfl ?_
    exact zs AA AA (zt AA AA (AB (u true (AT a) _ Ao)))
   .refine Aw h AA (Aw h AA (Aw h AA (bs a λh9 c2 a=>zd h (hb 111) (Ki c2) rfl AA AA AA (Aw h AA (zf h AA (AS AA ?_))))));rcases Sh.Ad a with ⟨l,a⟩|⟨l,a⟩
    .refine zs l AA ?_;iterate 3 refine zs l rfl ?_
     refine zt l AA (AS AA ?_);iterate 5 refine zs rfl rfl ?_
     iterate 8 refine zn rfl ?_
     exact zs AA AA (zt AA AA (AB (u true (AT a) _ Ao)))
    .refine Aw l AA (Aw l AA (BW (v:=Yn b) (CQ AA AA l) rfl (CU Qa AA) (Aw l AA (zf l AA (AS AA ?_)))));rcases Sh.Ad a with ⟨c,a⟩|⟨c,a⟩
     .refine zs c AA ?_;iterate 4 refine zs c rfl ?_
      iterate 8 refine zn rfl ?_
      exact zs c AA (zt c AA (AB (u true (AT a) _ Ao)))
     .refine Aw c AA (Aw c AA (BW (v:=Yn b) (CQ AA AA c) rfl (CU Qa AA) (Aw c AA (Aw c AA ?_))));rcases Sh.Ad a with ⟨e,a⟩|⟨e,a⟩
      .refine Aw e AA ?_;iterate 3 refine Aw e rfl ?_
       rcases Sh.Ad a with ⟨o,a⟩|⟨o,a⟩
       .exact zs o AA (zs o AA (zs o AA (BW (v:=.bool true) (CQ AA AA e) rfl (LG AA o AA) (BW (v:=.bool true) (CQ AA AA c) rfl (LG AA e AA) (zf c AA (AB (u true (AT a) _ Ao)))))))
       .exact Aw o AA (Aw o AA (Aw o AA (BW (v:=.bool (!decide (b.to=0))) (CQ AA AA e) rfl (L8 AA o AA) (BW (v:=.bool (!decide (b.to=0))) (CQ AA AA c) rfl (LG AA e AA) (zf c AA (AB (u (!decide (b.to=0)) (AT a) _ Ao)))))))
      .refine zs e AA ?_;iterate 3 refine zs e rfl ?_
       iterate 3 refine zn rfl ?_
       exact zs e AA (BW (v:=.bool false) (CQ AA AA c) rfl (L8 AA e AA) (zf c AA (AB (u false (AT a) _ Ao))))
  .exact Av (M9 () (AT d) _ Ao)
theorem So {N:Nat}{p0:List AL}{p1:List By}{r:Bool}(h0:I6 N p0 p1=some r):Bd 78 [D4 p0,cL p1] [] (.bool r) []:=by
 unfold I6 at h0;refine ai Tryz.func78 AA AA AA AA (Ap AA (AE λK2 b3=>AE λK3 b4=>bs h0 λo5 a h0=>?_));have G:∀t4,o5=t4->∀s,Wk 0 s ⟨102,AP [(0,D4 p0),(1,cL p1),(36,.bool t4)],[]⟩->K3 s:=by
  intro t4 hq s u;subst o5;refine b4 _ (AG u ?_);refine ci h0 AA ?_ ?_<;>intro b6 h0
  .refine Ap AA ?_;cases h0;exact rt [(4,.bool false)]
  .refine AH (b3 _ (AE λK8 b5=>sr AA λK9 b7=>AS AA (CZ AA (AS AA (dn b7 AA ?_)))));obtain⟨A,a,h0⟩:=Sh.Bi h0;have b8:∀(_:Unit),A=Sum.inr ()->∀s,Wk 0 s ⟨102,AP [],[]⟩->K8 s:=by
    intro _ hq s u;subst A;refine b5 _ (AG u (Ap AA ?_));cases h0;exact rt [(4,.bool true)]
   refine AK (Am (σ:=Int) (λn v=>EX N p0 p1 n v=some A) (λq=>⟨102,AP [(0,ls Ai p0),(37,ls Cv p1),(38,i64 (Sh.len p1)),(39,i64 q)],[]⟩) N 0 a Ao (λ_ H=>by rw[EX]at H;cases H) ?_);rintro n q a;rw[EX]at a;refine Ap AA (AE λc5 I=>?_);refine ci a AA ?_ ?_<;>intro c6 a
   .refine AH (I _ (AE λb9 J=>AK (sr AA λc7 K=>bs a λc L a=>zx SC L AA AA AA (AS AA (DE 0 jR AA (Bw nd AA (dn K AA (AE λc8 M=>AE λc0 O=>?_))))))));refine bs a λP b a=>?_;have B:∀C,P=C->∀s,Wk 0 s ⟨102,AP [(0,D4 p0),(6,BG),(37,cL p1),(38,HC p1),(39,i64 q),(60,.bool C)],[⟨0,95,3,[[ls eI c.params,ls eI c.Gb,i64 c.result]]⟩]⟩->c0 s:=by
     intro C hq s u;subst P;refine O _ (AG u ?_);refine ci a AA ?_ ?_<;>intro c9 a
     .refine Ap AA ?_;cases a;cases h0;exact rd [(4,.bool false)]
     .refine AH (M _ (sr AA λd1 Q=>Ac 2 AA (CZ AA (AS AA (dn Q AA ?_)))));obtain⟨D,b,a⟩:=Sh.Bi a;have c1:∀(_:Unit),D=Sum.inr ()->∀s,Wk 0 s ⟨102,AP [(0,D4 p0),(37,cL p1),(38,HC p1),(39,i64 q)],[]⟩->b9 s:=by
       intro _ hq s u;subst D;exact J _ (AG u (AF AA (Ac 2 AA (AB (xi (Sh.w (q+1)) a Ao)))))
      refine AK (Am (σ:=Int) (λn v=>EU c n v=some D) (λx=>⟨102,AP [(0,ls Ai p0),(6,.ptr 0 0 0 0),(37,ls Cv p1),(38,i64 (Sh.len p1)),(39,i64 q),(62,ls eI c.Gb),(63,i64 (Sh.len c.Gb)),(64,i64 x)],[⟨0,95,3,[[ls eI c.params,ls eI c.Gb,i64 c.result]]⟩]⟩) N 0 b Ao (λ_ H=>by rw[EU]at H;cases H) ?_);rintro n x b;rw[EU]at b;refine Ap AA (AE λd2 R=>?_);refine ci b AA ?_ ?_<;>intro d3 b
      .refine AH (R _ (AE λd4 S=>AK (sr AA λd5 T=>AS AA (bs b λU V b=>zx BF V AA AA AA (Ac 3 AA (dn T AA (AE λc2 W=>bs b λX g b=>?_)))))));have t:∀E,X=E->∀s,Wk 0 s ⟨102,AP [(0,D4 p0),(6,BG),(37,cL p1),(38,HC p1),(39,i64 q),(62,ls eI c.Gb),(63,i64 (Sh.len c.Gb)),(64,i64 x),(99,.bool E)],[⟨0,95,3,[[ls eI c.params,ls eI c.Gb,i64 c.result]]⟩]⟩->c2 s:=by
        intro E hq s u;subst X;refine W _ (AG u ?_);refine ci b AA ?_ ?_<;>intro d6 b
        .refine Ap AA ?_;cases b;cases a;cases h0;exact rd [(4,.bool false)]
        .exact AH (S _ (AF AA (Ac 2 AA (AB (xi (Sh.w (x+1)) b Ao)))))
       refine AF AA (Ac 3 AA ?_);rcases Sh.Ad g with ⟨h,g⟩|⟨h,g⟩
       .refine zs h AA ?_;iterate 4 refine zs h rfl ?_
        refine zt h AA (AS AA ?_);iterate 6 refine zs rfl rfl ?_
        refine zt AA AA (AS AA ?_);iterate 3 refine zs rfl rfl ?_
        iterate 8 refine zn rfl ?_
        exact zs AA AA (zt AA AA (AB (t true (AT g) _ Ao)))
       .refine Aw h AA (Aw h AA (Aw h AA (BW (v:=i64 (Sh.len c.params)) (CQ AA AA h) rfl (CU Gc AA) (Aw h AA (zf h AA (AS AA ?_))))));rcases Sh.Ad g with ⟨e,g⟩|⟨e,g⟩
        .refine zs e AA ?_;iterate 5 refine zs e rfl ?_
         refine zt e AA (AS AA ?_);iterate 3 refine zs rfl rfl ?_
         iterate 8 refine zn rfl ?_
         exact zs AA AA (zt AA AA (AB (t true (AT g) _ Ao)))
        .refine Aw e AA (Aw e AA (Aw e AA (bs g λc3 Y g=>BW (v:=UB c3) (CQ AA AA e) rfl (CR BF AA AA Y AA) (Aw e AA (Aw e AA (zf e AA (AS AA ?_)))))));rcases Sh.Ad g with ⟨d,g⟩|⟨d,g⟩
         .refine zs d AA (zs d AA (zs d AA ?_));iterate 8 refine zn rfl ?_
          exact zs d AA (zt d AA (AB (t true (AT g) _ Ao)))
         .refine Aw d AA (Aw d AA (Aw d AA ?_));rcases Sh.Ad g with ⟨i,g⟩|⟨i,g⟩
          .refine Aw i AA ?_;iterate 4 refine Aw i rfl ?_
           exact bs g λF Z g=>BW (v:=UB F) (CQ AA AA i) rfl (CR BF AA AA Z AA) (Aw i AA (Aw i AA (BW (v:=.bool (decide (U<=F))) (CQ AA AA d) rfl (LG AA i AA) (zf d AA (AB (t (decide (U<=F)) (AT g) _ Ao))))))
          .refine zs i AA ?_;iterate 7 refine zs i rfl ?_
           exact BW (v:=.bool false) (CQ AA AA d) rfl (L8 AA i AA) (zf d AA (AB (t false (AT g) _ Ao)))
      .exact Av (c1 () (AT b) _ (Be _ AA))
    refine AF AA (Ac 2 AA (CZ AA (Ac 2 AA ?_)));rcases Sh.Ad b with ⟨j,b⟩|⟨j,b⟩
    .refine zs j AA ?_;iterate 4 refine zs j rfl ?_
     refine zt j AA (AS AA ?_);iterate 5 refine zs rfl rfl ?_
     exact zt AA AA (AB (B true (AT b) _ Ao))
    .refine Aw j AA (Aw j AA (Aw j AA (bs b λd7 b0 b=>zd j (hb 79) (Ld b0) rfl AA AA AA (Aw j AA (zf j AA (AS AA ?_))))));rcases Sh.Ad b with ⟨k,b⟩|⟨k,b⟩
     .refine zs k AA ?_;iterate 4 refine zs k rfl ?_
      exact zt k AA (AB (B true (AT b) _ Ao))
     .exact Aw k AA (Aw k AA (Aw k AA (bs b λc4 b1 b=>zd k (hb 111) (Ki b1) rfl AA AA AA (Aw k AA (zf k AA (AB (B (!c4) (AT b) _ Ao)))))))
   .exact Av (b8 () (AT a) _ Ao)
 refine AF AA (AS AA (bs a λd8 b2 a=>Gs (hb 110) (Rh b2) rfl (Ac 2 AA ?_)));rcases Sh.Ad a with ⟨l,a⟩|⟨l,a⟩
 .refine zs l AA (zs l AA (zs l AA (zt l AA (AS AA ?_))));iterate 3 refine zs rfl rfl ?_
  refine zt AA AA (AS AA ?_);iterate 6 refine zs rfl rfl ?_
  refine zt AA AA (AS AA ?_);iterate 5 refine zs rfl rfl ?_
  exact zt AA AA (AB (G true (AT a) _ Ao))
 .refine Aw l AA (BW (v:=HC p1) (CQ AA AA l) rfl (CU jy AA) (Aw l AA (zf l AA (AS AA ?_))));rcases Sh.Ad a with ⟨o,a⟩|⟨o,a⟩
  .refine zs o AA (zs o AA (zs o AA (zt o AA (AS AA ?_))));iterate 6 refine zs rfl rfl ?_
   refine zt AA AA (AS AA ?_);iterate 5 refine zs rfl rfl ?_
   exact zt AA AA (AB (G true (AT a) _ Ao))
  .refine Aw o AA (BW (v:=HC p1) (CQ AA AA o) rfl (CU jy AA) (Aw o AA (zf o AA (AS AA ?_))));rcases Sh.Ad a with ⟨f,a⟩|⟨f,a⟩
   .refine zs f AA ?_;iterate 5 refine zs f rfl ?_
    refine zt f AA (AS AA ?_);iterate 5 refine zs rfl rfl ?_
    exact zt AA AA (AB (G true (AT a) _ Ao))
   .refine Aw f AA (bs a λy z a=>BW (v:=.C8 (Cv y) 0) (CQ AA AA f) rfl (CR SC AA AA z AA) (Aw f AA (Aw f AA (BW (v:=i64 (Sh.len y.params)) (CQ AA AA f) rfl (CU Gc AA) (Aw f AA (zf f AA (AS AA ?_)))))));rcases Sh.Ad a with ⟨p,a⟩|⟨p,a⟩
    .refine zs p AA ?_;iterate 4 refine zs p rfl ?_
     exact zt p AA (AB (G true (AT a) _ Ao))
    .refine Aw p AA (BW (v:=.C8 (Cv y) 0) (CQ AA AA p) rfl (CR SC AA AA z AA) ?_);iterate 3 refine Aw p rfl ?_
     exact zf p AA (AB (G (!decide (y.result=0)) (AT a) _ Ao))
theorem Nc {N:Nat}{p0:AJ}{r:Bool}(h0:Ho N p0=some r):Bd 47 [KT p0] [] (.bool r) []:=by
 unfold Ho at h0;refine ai Tryz.func47 AA AA AA AA (sr AA λO u=>Ef 0 AA (AS AA (dn u AA (sr AA λP x=>gz (c:=4) (m:=1) (st':=[bj p0.decls p0.funcs,ro 0 95 3 Cv ([]:List By)]) SC AA AA AA AA AA (AS AA (dn x AA (AE λQ y=>sr AA λR z=>Ac 2 AA ?_)))))));refine CZ AA (AS AA (dn z AA ?_));refine ci h0 AA ?_ ?_<;>intro S h0
 .refine Ap AA ?_;cases h0;exact rd [(2,.bool false)]
 .refine AH (y _ (AE λF A=>sr AA λT B=>Ac 2 AA (CZ AA (AS AA (dn B AA (bs h0 λf b h0=>?_))))));have C:∀d,f=d->∀s,Wk 0 s ⟨31,AP [(1,BG),(3,ow 1 0 d)],[bj p0.decls p0.funcs,ro 0 95 3 Cv d]⟩->F s:=by
   intro d U s G;subst f;try dsimp only at h0
   refine A _ (AG G (sr AA λH h=>Ac 3 AA (Ea [(28,ls Ai p0.decls),(29,cL d)] [bj p0.decls p0.funcs,⟨1,95,3,[]⟩] 1 AA ⟨.rfl,.BY AA,pA⟩ (λ_=>AA) rfl (bs h0 λD i h0=>Gs (hb 78) (So i) rfl (AS AA (dn h AA ?_))))));obtain rfl:=Sh.Bf h0;exact rd [(2,.bool D)]
  refine AK (Am (σ:=Int×(List By)) (λn v=>D1 p0 n v.1 v.2=some f) (λ(j,e)=>⟨31,AP [(1,.ptr 0 0 0 0),(3,ow 1 0 e),(12,ls BT p0.funcs),(13,i64 (Sh.len p0.funcs)),(14,i64 j)],[bj p0.decls p0.funcs,ro 0 95 3 Cv e]⟩) N (0,[]) b Ao (λ_ E=>by rw[D1]at E;cases E) ?_);rintro n ⟨j,e⟩ b;rw[D1]at b;refine Ap AA (AE λI k=>?_);refine ci b AA ?_ ?_<;>intro J b
  .refine AH (k _ (AE λK o=>AK (sr AA λM p=>bs b λa q b=>zx Cd q AA AA AA (AS AA (DE 2 MM AA (Bw Lj AA (dn p AA (AF AA (Ac 5 AA ?_)))))))));refine zz (.agg [ls eI a.params,.zc,i64 a.result]) (DM mG mF jR AA AA) rfl (Au (Ag (L:=[(1,BG),(12,eL p0),(13,i64 (Sh.len p0.funcs)),(14,i64 j),(18,ow 1 0 e),(23,.agg [ls eI a.params,Rw,i64 a.result])]) ⟨.rfl,.rfl,.rfl,.rfl,.rfl,.agg ⟨.rfl,.zc,.rfl,pA⟩,pA⟩) ?_);refine CC 3 ([By.mk a.params [] a.result]) Cv SC AA ?_;refine bs b λg t b=>Cs (l2:=[By.mk a.params [] a.result]) AN SC AA AA AA AA (HG AA AA) (λ_=>AA) t AA (AS AA (dn o AA (AF AA (Ac 2 AA ?_))));exact AB (xi (Sh.w (j+1),g) b (by refine Wk.trans (Da (L:=[(1,BG),(3,ow 1 0 g),(12,eL p0),(13,i64 (Sh.len p0.funcs)),(14,Kr j)]) (st':=[bj p0.decls p0.funcs,ro 0 95 3 Cv g,⟨0,37,5,[XD a]⟩,ro 0 95 3 Cv ([By.mk a.params [] a.result])]) (.raw AA AA (.pure Bn (.raw AA AA (.pure Bn .nil)))) (.same AA)) ?_;exact AM [0,1] AA AA (.w (.p .nil)) (.same AA)))
  .exact Av (C e (AT b) _ Ao)
theorem QF {N:Nat}{uK:Int->AD->Option (Bool×Int)}(wC :∀{tm:Int} {p0:AD} {r:Bool×Int},uK tm p0=some r->Bd 34 [Bc p0,BG] [VW tm] (.bool r.1) [VW r.2]){tm:Int}{p0:AD}{r:Bool×Int}(h0:Iv N uK tm p0=some r):Bd 34 [Bc p0,BG] [VW tm] (.bool r.1) [VW r.2]:=by
 unfold Iv at h0;refine ai Tryz.func34 AA AA AA AA (sr AA λK p=>Ef 1 AA (AS AA (dn p AA (AE λM q=>sr AA λO t=>Ac 5 AA (Bw Hy AA (dn t AA (Ap AA ?_)))))));refine ci h0 AA ?_ ?_<;>intro P h0
 .refine Ap AA ?_;cases h0;exact An (xr (AM (L:=[(4,.bool false)]) (st':=[⟨0,3,1,[[Kr tm]]⟩]) [0] AA AA (.w .nil) ⟨.rfl,pA⟩))
 .refine AH (q _ (AE λB u=>sr AA λQ x=>Ac 2 AA (CZ AA (AS AA (dn x AA ?_)))));obtain⟨e,a,h0⟩:=Sh.Bi h0;have y:∀(f:Int),e=Sum.inr f->∀s,Wk 1 s ⟨28,AP [],[VW f]⟩->B s:=by
   intro f R s C;subst e;refine u _ (AG C (Ap AA ?_));cases h0;exact rt [(4,.bool true)]
  refine AK (Am (σ:=Int×Int) (λn v=>DU p0 uK n v.1 v.2=some e) (λ(z,c)=>⟨28,AP [(1,.ptr 0 0 0 0),(17,ls Ar p0.kids),(18,i64 (Sh.len p0.kids)),(19,i64 z)],[VW c]⟩) N (0,Sh.w (tm+1)) a (AM [0] AA AA (.w .nil) (.same AA)) (λ_ A=>by rw[DU]at A;cases A) ?_);rintro n ⟨z,c⟩ a;rw[DU]at a;refine Ap AA (AE λD g=>?_);refine ci a AA ?_ ?_<;>intro E a
  .refine AH (g _ (AE λF h=>AK (sr AA λG i=>bs a λd j a=>zz (EP d) (Cc BZ AA AA j (Af _) rfl) rfl (AS AA (DE 1 De AA (Bw BI AA (dn i AA (sr AA λH k=>Ac 2 AA ?_))))))));refine bs a λb l a=>?_;refine Hl [VW b.2,mO d.op d.num d.kids] (.bool b.1) [0] AN (hb 34) (wC l) rfl AA ?_;refine AS AA (dn k AA ?_);refine ci a AA ?_ ?_<;>intro o a
   .have I:b.1=false:=by simpa using o
    refine Ap AA ?_;cases a;cases h0;exact An (xr (AM (L:=[(4,.bool false)]) (st':=[VW b.2]) [0] AA AA (.w .nil) ⟨.rfl,pA⟩))
   .have J:b.1=true:=by simpa using o
    refine AH (h _ (AF AA (Ac 2 AA ?_)));exact AB (xi (Sh.w (z+1),b.2) a (AM [0] AA AA (.w .nil) (.same AA)))
  .exact Av (y c (AT a) _ Ao)
theorem QA {N:Nat}:∀(n:Nat),∀{tm:Int} {p0:AD} {r:Bool×Int},FI N n tm p0=some r->Bd 34 [Bc p0,BG] [VW tm] (.bool r.1) [VW r.2]:=by
 intro n
 induction n with
 |zero=>intro tm p0 r a;cases a
 |succ n ih=>
  intro tm p0 r a;rw[FI]at a;exact QF (λh=>ih h) a
theorem Rc {N:Nat}:∀{tm:Int} {p0:AD} {r:Bool×Int},Lr N tm p0=some r->Bd 34 [Bc p0,BG] [VW tm] (.bool r.1) [VW r.2]:=by
 intro tm p0 r a;exact QA N a
theorem Of {N:Nat}{p0:AD}{r:Int}(h0:JR N p0=some r):Bd 12 [Bc p0] [] (i64 r) []:=by
 unfold JR at h0;refine ai Tryz.func12 AA AA AA AA (sr AA λh b=>Ef 0 AA (AS AA (dn b AA (sr AA λi c=>DE 1 nr AA (Bw Hy AA (dn c AA (AE λj d=>sr AA λk e=>AS AA ?_)))))));refine bs h0 λa f h0=>?_;refine Hl [mO p0.op p0.num p0.kids,VW a.2] (.bool a.1) [1] AN (hb 34) (Rc f) rfl AA ?_;refine AS AA (dn e AA ?_);refine ci h0 AA ?_ ?_<;>intro g h0
 .have l:a.1=false:=by simpa using g
  refine Ap AA ?_;cases h0;exact rd [(2,i64 (-1))]
 .have n:a.1=true:=by simpa using g
  refine AH (d _ (Ap AA ?_));cases h0;exact rd [(2,i64 a.2)]
theorem Pu {N:Nat}{p0:AJ}{r:BO}(h0:Lc N p0=some r):Bd 80 [KT p0] [] (Kp r) []:=by
 unfold Lc at h0;refine Cj AA (ai Tryz.func80 AA AA AA AA (sr AA λI p=>Ef 0 AA (DE 1 iu AA (dn p AA (sr AA λJ q=>Ac 2 AA (zz (.agg [ls Ai p0.decls,.zc]) (DM oE nv iu AA AA) rfl (DE 2 iu AA (Bw jW AA (dn q AA ?_)))))))));refine AE λB t=>sr AA λK u=>Ac 2 AA (CZ AA (AS AA (dn u AA (bs h0 λy b h0=>?_))));have C:∀c,y=c->∀s,Wk 0 s ⟨28,AP [(2,BG),(3,CJ)],[eo,⟨0,99,2,[[ls Ai p0.decls,ow 2 0 c]]⟩,ro 0 95 3 Cv c]⟩->B s:=by
  intro c M s D;subst y;refine t _ (AG D (sr AA λO z=>AS AA (Ea [(2,BG),(27,.agg [ls Ai p0.decls,cL c])] [eo,⟨0,99,2,[[ls Ai p0.decls,ow 2 0 c]]⟩,⟨1,95,3,[]⟩] 2 AA ⟨.rfl,.agg ⟨.rfl,.H9 AA,pA⟩,pA⟩ (λ_=>AA) rfl (Bw jW AA (dn z AA ?_)))));cases h0;exact An ⟨_,Wk.refl _ _,FX (.tmp 2) [ls Ai p0.decls,cL c] jW AA _ AA⟩
 refine AK (Am (σ:=Int×(List By)) (λn v=>Fx p0 n v.1 v.2=some y) (λ(e,f)=>⟨28,AP [(2,.ptr 0 0 0 0),(3,.ptr 1 0 0 0),(10,ls BT p0.funcs),(11,i64 (Sh.len p0.funcs)),(12,i64 e)],[eo,⟨0,99,2,[[ls Ai p0.decls,ow 2 0 f]]⟩,ro 0 95 3 Cv f]⟩) N (0,[]) b (by refine Wk.trans (LH (id:=2) (st':=[bj p0.decls p0.funcs,eo,⟨0,99,2,[[ls Ai p0.decls,.own 3 0 (List.length ([]:List By))]]⟩,ro 0 95 3 Cv ([]:List By)]) (j:=1) rfl AA 95 (size':=3) (by decide) rfl AA AA AA) ?_;exact Eh (L:=[(2,.ptr 0 0 0 0),(3,.ptr 1 0 0 0),(10,ls BT p0.funcs),(11,i64 (Sh.len p0.funcs)),(12,i64 0)]) (st':=[eo,⟨0,99,2,[[ls Ai p0.decls,.own 2 0 (List.length ([]:List By))]]⟩,ro 0 95 3 Cv ([]:List By)]) (st1:=[eo,⟨0,99,2,[[ls Ai p0.decls,.own 3 0 (List.length ([]:List By))]]⟩,ro 0 95 3 Cv ([]:List By)]) [1,2,3] AA AA (.w (.w (.p .nil))) (.same AA)) (λ_ A=>by rw[Fx]at A;cases A) ?_);rintro n ⟨e,f⟩ b;rw[Fx]at b;refine Ap AA (AE λE g=>?_);refine ci b AA ?_ ?_<;>intro F b
 .refine AH (g _ (AE λG h=>AK (sr AA λH i=>bs b λa k b=>zx Cd k AA AA AA (AS AA (DE 3 MM AA (Bw Lj AA (dn i AA (AF AA (Ac 6 AA ?_)))))))));refine zz (.agg [ls eI a.params,.zc,i64 a.result]) (DM mG mF jR AA AA) rfl (Au (Ag (L:=[(2,BG),(3,CJ),(10,eL p0),(11,i64 (Sh.len p0.funcs)),(12,i64 e),(17,ow 2 0 f),(22,.agg [ls eI a.params,Rw,i64 a.result])]) ⟨.rfl,.rfl,.rfl,.rfl,.rfl,.rfl,.agg ⟨.rfl,.zc,.rfl,pA⟩,pA⟩) ?_);refine CC 4 ([By.mk a.params [] a.result]) Cv SC AA ?_;refine bs b λd o b=>Cs (l2:=[By.mk a.params [] a.result]) AN SC AA AA AA AA (HG AA AA) (λ_=>AA) o AA (AS AA (Bw nZ AA (dn h AA (AF AA (Ac 2 AA ?_)))));exact AB (xi (Sh.w (e+1),d) b (by refine Wk.trans (Da (L:=[(2,BG),(3,CJ),(10,eL p0),(11,i64 (Sh.len p0.funcs)),(12,Kr e)]) (st':=[eo,⟨0,99,2,[[ls Ai p0.decls,ow 2 0 d]]⟩,ro 0 95 3 Cv d,⟨0,37,5,[XD a]⟩,ro 0 95 3 Cv ([By.mk a.params [] a.result])]) (.raw AA AA (.raw AA AA (.pure Bn (.raw AA AA (.pure Bn .nil))))) (.same AA)) ?_;exact AM [0,1,2] AA AA (.w (.w (.p .nil))) (.same AA)))
 .exact Av (C f (AT b) _ Ao)
theorem Ct {p0 r:List Int}(h0:CN p0=some r):Bd 82 [ls eI p0] [] (ow 0 0 r) [BX r]:=by
 unfold CN at h0;refine ai Tryz.func82 AA AA AA AA (Ap AA (AE λh c=>sr AA λi a=>AS AA ?_));refine Wl AN Gc AA (λg=>?_) ?_
 .subst g;replace h0:some []=some r:=by rw[<- h0];first|rfl|simp[Sh.app]
  refine dn a AA (G3 (b:=true) rfl (λ_=>Ap AA ?_) (λq=>nomatch (show true=false from (AA:true=true).symm.trans q)));cases h0;exact An (Exists.intro _ (And.intro (((Hb (t:=2) rfl 3 (size:=1) (by decide)).trans (Ag (L:=[(2,Yu)]) (.same AA))).trans (Ag (L:=[(2,Yu)]) (.same AA))) (And.intro AA AA)))
 .refine dn a AA (G3 (b:=false) rfl (λq=>nomatch (show false=true from (AA:false=false).symm.trans q)) (λ_=>AH (c _ (sr AA λj d=>?_))));refine CC 0 ([]:List Int) eI BF AA ?_;refine AS AA (bs h0 λf e h0=>Cs (l2:=p0) AN BF AA AA AA AA Mi (λ_=>AA) e AA (AS AA (dn d AA ?_)));obtain rfl:=Sh.Bf h0;exact An (xr (Da (L:=[(2,ow 0 0 f)]) (st':=[BX f]) (.pure Bn .nil) (.same AA)))
theorem Ob {p1:Int}{r:List Int}(h0:G2 p1=some r):Bd 137 [.zc,i64 p1] [] (ow 0 0 r) [BX r]:=by
 unfold G2 at h0;refine ai Tryz.func137 AA AA AA AA (Ap AA (AE λp f=>Ap AA ?_));refine ci h0 AA ?_ ?_<;>intro q h0
 .refine AF AA ?_;cases h0
 .refine AH (f _ (AE λn g=>bs h0 λk a h0=>?_));have l:∀c,k=c->∀s,Wk 0 s ⟨27,AP [(0,ow 0 0 c)],[BX c]⟩->n s:=by
   intro c w s o;subst k;try dsimp only at h0
   refine g _ (AG o (Ap AA ?_));obtain rfl:=Sh.Bf h0;exact rt [(4,ow 0 0 c)]
  refine sr AA λx h=>Ac 2 AA (dQ Gc AA (AS AA (zz (i64 0) (cR Gc AA) rfl (Ac 3 AA (dn h AA (Ap AA ?_))))));refine ci a AA ?_ ?_<;>intro i a
  .refine AF AA (Ac 2 AA (dQ Gc AA (lP BF AA AA (AS AA (bs a λj d a=>jk (u:=0) (enc:=eI) (m:=0) (st':=[BX j]) BF oY AA AA i AA d AA AA (AS AA (zz (i64 0) (cR Gc AA) rfl (bs a λb e a=>fv AN BF AA AA AA AA e AA (AS AA ?_)))))))));exact AB (l b (AT a) _ (Da (L:=[(0,ow 0 0 b)]) (st':=[BX b]) (.pure Bn .nil) (.same AA)))
  .exact AH (l [] (AT a) _ ((Hb (t:=0) rfl 3 (size:=1) (by decide)).trans (Ag (L:=[(0,Yu)]) (.same AA))))
theorem Gg {N:Nat}{p0:List (List Int)}{r:List Int}(h0:GU N p0=some r):Bd 130 [je p0] [] (ow 0 0 r) [BX r]:=by
 unfold GU at h0;refine ai Tryz.func130 AA AA AA AA ?_;iterate 2 refine Ap rfl ?_
 refine AE λO C=>sr AA λK4 D=>AS AA (CZ AA (AS AA (dn D AA (bs h0 λE a h0=>?_))));have P:∀c,E=c->∀s,Wk 0 s ⟨36,AP [(0,je p0),(3,i64 c)],[]⟩->O s:=by
  intro c Q s F;subst E;refine C _ (AG F (sr AA λK9 G=>AS AA (bs h0 λi j h0=>Bo (v':=ow 0 0 i) AN (hb 137) (Ob j) rfl AA ⟨(Bq λ_=>AA),pA⟩ AA AA (AS AA (dn G AA (AE λH k=>sr AA λR l=>AS AA (CZ AA (AS AA ?_))))))));refine dn l AA (bs h0 λg a h0=>?_);have I:∀d,g=d->∀s,Wk 0 s ⟨36,AP [(6,ow 0 0 d)],[BX d]⟩->H s:=by
   intro d Q s F;subst g;try dsimp only at h0
   refine k _ (AG F (Ap AA ?_));obtain rfl:=Sh.Bf h0;exact rt [(2,ow 0 0 d)]
  refine AK (Am (σ:=Int×(List Int)) (λn v=>Cg p0 n v.1 v.2=some g) (λ(e,f)=>⟨36,AP [(6,ow 0 0 f),(25,ls (eS eI) p0),(26,i64 (Sh.len p0)),(27,i64 e)],[ro 0 3 1 eI f]⟩) N (0,i) a Ao (λ_ m=>by rw[Cg]at m;cases m) ?_);rintro n ⟨e,f⟩ a;rw[Cg]at a;refine Ap AA (AE λS o=>?_);refine ci a AA ?_ ?_<;>intro T a
  .refine AH (o _ (AE λU p=>AK (sr AA λV q=>bs a λJ t a=>zx OI t AA AA AA (Ac 2 AA (dn q AA (AF AA (Ac 2 AA (bs a λh u a=>Cs (l2:=J) AN BF AA AA AA AA Mi (λ_=>AA) u AA ?_))))))));exact AS AA (dn p AA (AF AA (Ac 2 AA (AB (xi (Sh.w (e+1),h) a (Da (L:=[(6,ow 0 0 h),(25,je p0),(26,HC p0),(27,Kr e)]) (st':=[BX h]) (.pure Bn .nil) (.same AA)))))))
  .exact Av (I f (AT a) _ Ao)
 refine AK (Am (σ:=Int×Int) (λn v=>Ch p0 n v.1 v.2=some E) (λ(b,K)=>⟨36,AP [(0,ls (eS eI) p0),(3,i64 b),(9,ls (eS eI) p0),(10,i64 (Sh.len p0)),(11,i64 K)],[]⟩) N (0,0) a Ao (λ_ m=>by rw[Ch]at m;cases m) ?_);rintro n ⟨b,K⟩ a;rw[Ch]at a;refine Ap AA (AE λW x=>?_);refine ci a AA ?_ ?_<;>intro X a
 .refine AH (x _ (AE λY y=>AK (sr AA λZ z=>bs a λM A a=>zx OI A AA AA AA (Ac 2 AA (dn z AA (sr AA λb0 B=>Ac 2 AA (CZ AA (Ac 2 AA ?_))))))));refine dn B AA (Ap AA ?_);refine ci a AA ?_ ?_<;>intro b1 a
  .refine AF AA ?_;cases a
  .exact AH (y _ (AF AA (Ac 2 AA (AB (xi (Sh.w (b+Sh.len M),Sh.w (K+1)) a Ao)))))
 .exact Av (P b (AT a) _ Ao)
theorem Jb {N:Nat}{tr:(List Int)->BO->AD->Option (Int)}(tz :∀{s0:List Int} {p0:BO} {p2:AD} {r:Int},tr s0 p0 p2=some r->Bd 81 [Kp p0,ow 0 0 s0,Bc p2] [BX s0] (i64 r) [BX s0]){p0:BO}{p1:List Int}{p2:List AD}{p3:List (List Int)}{r:Int}(h0:Ej N tr p0 p1 p2 p3=some r):Bd 112 [Kp p0,ls eI p1,Hd p2,je p3] [] (i64 r) []:=by
 unfold Ej at h0;refine ai Tryz.func112 AA AA AA AA (sr AA λK1 Q=>Ef 0 AA (AS AA (dn Q AA (Ap AA (AE λX R=>sr AA λK4 S=>AS AA (CZ AA (AS AA (dn S AA ?_))))))));obtain⟨T,o,h0⟩:=Sh.Bi h0;have Y:∀(wG:Int),T=Sum.inr wG->∀s,Wk 0 s ⟨44,AP [(9,i64 wG)],[]⟩->X s:=by
  intro wG hq s U;subst T;try dsimp only at h0
  refine R _ (AG U (Ap AA ?_));obtain rfl:=Sh.Bf h0;exact rt [(8,i64 wG)]
 refine AK (Am (σ:=Int×Int) (λn v=>Bj N p0 p1 p2 p3 tr n v.1 v.2=some T) (λ(ue,e)=>⟨44,AP [(1,ls eI p1),(3,ls (eS eI) p3),(4,.ptr 0 0 0 0),(9,i64 ue),(13,ls Ar p2),(14,i64 (Sh.len p2)),(15,i64 e)],[⟨0,99,2,[Gy p0]⟩]⟩) N (-1,0) o Ao (λ_ W=>by rw[Bj]at W;cases W) ?_);rintro n ⟨ue,e⟩ o;rw[Bj]at o;refine Ap AA (AE λZ E=>?_);refine ci o AA ?_ ?_<;>intro b0 o
 .refine AH (E _ (AE λb1 F=>AK (sr AA λb2 G=>AS AA (bs o λf H o=>zz (EP f) (Cc BZ AA AA H (Af _) rfl) rfl (AS AA (DE 1 De AA (AS AA (Bw BI AA (dn G AA ?_)))))))));refine AE λb3 I=>?_;refine ID (by kernel_rfl) ?_;refine bs o λc J o=>bs o λp A o=>bs o λy K o=>Kv λA20 a=>?_;have j:A20 0 (bm 11 2047) ⟨44,AP (Ry p1 p3 ((9,i64 ue)::(10,i64 e)::(12,i64 y)::Rg p2 e [])),[MY p0]⟩:=(a _ _ _).2 (by
   refine Gr AA (by kernel_rfl) ?_;refine I _ (AE λb4 M=>AE λV O=>bs o λP B o=>?_);have C:∀D,P=D->∀s,Wk 0 s ⟨44,AP (Ry p1 p3 ((12,i64 y)::Rg p2 e [(40,.bool D)])),[MY p0]⟩->V s:=by
    intro D hq s U;subst P;refine O _ (AG U ?_);refine ci o AA ?_ ?_<;>intro b5 o
    .refine Ap AA ?_;cases o;cases h0;exact rd [(8,i64 (-1))]
    .exact AH (M _ (AF AA (Ac 2 AA (dn F AA (AF AA (Ac 2 AA (AB (xi (y,Sh.w (e+1)) o Ao))))))))
   refine AF AA (Ac 3 AA ?_);rcases Sh.Ad B with ⟨k,B⟩|⟨k,B⟩
   .refine zs k AA (zs k AA (zs k AA ?_));iterate 3 refine zn rfl ?_
    exact zs k AA (zt k AA (AB (C true (AT B) _ Ao)))
   .refine Aw k AA (Aw k AA (Aw k AA ?_));rcases Sh.Ad B with ⟨q,B⟩|⟨q,B⟩
    .exact Aw q AA (Aw q AA (Aw q AA (BW (v:=.bool (!decide (y=ue))) (CQ AA AA k) rfl (LG AA q AA) (zf k AA (AB (C (!decide (y=ue)) (AT B) _ Ao))))))
    .exact zs q AA (zs q AA (zs q AA (BW (v:=.bool false) (CQ AA AA k) rfl (L8 AA q AA) (zf k AA (AB (C false (AT B) _ (Ag (L:=Ry p1 p3 ((12,i64 y)::Rg p2 e [(40,.bool false)])) (.same AA)))))))))
  have b:A20 2 (bm 11 511) ⟨44,AP (Ry p1 p3 ((9,i64 ue)::(10,i64 e)::Rg p2 e [(20,Kp p0),(27,ow 1 0 p),(28,Bc f)])),[MY p0,BX p]⟩:=(a _ _ _).2 (by
   refine xa [9] ⟨?_,pA⟩
   .refine xo 9 ?_;refine QV (rows0:=[BX p]) (rows1:=[BX p]) (st':=[MY p0,BX p]) (v':=i64 y) [1] AN (hb 81) (tz K) rfl (by decide) rfl AA (.pure Bn .nil) rfl AA (.pure Bn .nil) .nil AA AA ?_;refine AB ⟨AA,?_⟩;refine FZ tb 10 AA AA ?_;exact xw a j (by exact AM [0] AA AA (.w .nil) (.same AA)))
  have d:A20 3 (bm 11 383) ⟨44,AP (Ry p1 p3 ((9,i64 ue)::(10,i64 e)::Rg p2 e [(20,Kp p0),(26,ow 1 0 [p1,c]),(28,Bc f)])),[MY p0,ro 0 32 1 (eS eI) [p1,c]]⟩:=(a _ _ _).2 (by
   refine xa [7] ⟨?_,pA⟩
   .refine xo 7 ?_;exact Ea (Ry p1 p3 ((9,i64 ue)::(10,i64 e)::Rg p2 e [(20,Kp p0),(26,ls (eS eI) [p1,c]),(28,Bc f)])) [MY p0,⟨1,32,1,[]⟩] 1 AA ⟨.rfl,.rfl,.rfl,.rfl,.rfl,.rfl,.rfl,.rfl,.rfl,.BY AA,.rfl,pA⟩ (λ_=>AA) rfl (Bo (v':=ow 2 0 p) AN (hb 130) (Gg A) rfl AA ⟨(Bq λ_=>AA),pA⟩ AA AA (QC a b (by exact AM [0,2] AA AA (.w (.p .nil)) (.same AA)))))
  have g:A20 4 (bm 11 127) ⟨44,AP (Ry p1 p3 ((9,i64 ue)::(10,i64 e)::(11,CJ)::Rg p2 e [(20,Kp p0),(26,ow 2 0 [p1,c])])),gR p0 f [ro 0 32 1 (eS eI) [p1,c]]⟩:=(a _ _ _).2 (by
   refine xa [7,8] ⟨?_,?_,pA⟩
   .refine xo 7 ?_;refine Ea (Ry p1 p3 ((9,i64 ue)::(10,i64 e)::(11,CJ)::Rg p2 e [(20,Kp p0),(26,ls (eS eI) [p1,c])])) (gR p0 f [⟨1,32,1,[]⟩]) 2 AA ⟨.rfl,.rfl,.rfl,.rfl,.rfl,.rfl,.rfl,.rfl,.rfl,.rfl,.BY AA,pA⟩ (λ_=>AA) rfl (Bo (v':=ow 3 0 p) AN (hb 130) (Gg A) rfl AA ⟨(Bq λ_=>AA),pA⟩ AA AA (AB ⟨AA,?_⟩));refine FZ tb 8 AA AA ?_;exact xw a b (by exact AM [0,3] AA AA (.w (.p .nil)) (.same AA))
   .refine xo 8 ?_;exact AS AA (QC a d (by exact AM [0,2] AA AA (.w (.p .nil)) (.same AA))))
  have h:A20 4 (bm 11 319) ⟨44,AP (Ry p1 p3 ((9,i64 ue)::(10,i64 e)::Rg p2 e [(20,Kp p0),(21,ls eI p1),(25,ls eI c),(28,Bc f)])),[MY p0]⟩:=(a _ _ _).2 (by
   refine xa [6] ⟨?_,pA⟩
   .refine xo 6 ?_;refine CC 1 [p1,c] (eS eI) OI AA ?_;exact xd a d)
  have t:A20 5 (bm 11 63) ⟨44,AP (Ry p1 p3 ((9,i64 ue)::(10,i64 e)::(11,CJ)::Rg p2 e [(20,Kp p0),(21,ls eI p1),(25,ls eI c)])),gR p0 f []⟩:=(a _ _ _).2 (by
   refine xa [6,8] ⟨?_,?_,pA⟩
   .refine xo 6 ?_;refine CC 2 [p1,c] (eS eI) OI AA ?_;exact xd a g
   .refine xo 8 ?_;exact AS AA (QC a h (by exact AM [0] AA AA (.w .nil) (.same AA))))
  have i:A20 4 (bm 11 382) ⟨44,AP (Ry p1 p3 ((9,i64 ue)::(10,i64 e)::Rg p2 e [(26,ow 1 0 [p1,c]),(28,Bc f)])),[MY p0,ro 0 32 1 (eS eI) [p1,c]]⟩:=(a _ _ _).2 (by
   refine xa [0,7] ⟨?_,?_,pA⟩
   .exact xq tb a d
   .refine xo 7 ?_;refine Ea (Ry p1 p3 ((9,i64 ue)::(10,i64 e)::Rg p2 e [(26,ls (eS eI) [p1,c]),(28,Bc f)])) [MY p0,⟨1,32,1,[]⟩] 1 AA ⟨.rfl,.rfl,.rfl,.rfl,.rfl,.rfl,.rfl,.rfl,.BY AA,.rfl,pA⟩ (λ_=>AA) rfl (Bo (v':=ow 2 0 p) AN (hb 130) (Gg A) rfl AA ⟨(Bq λ_=>AA),pA⟩ AA AA (AB ⟨AA,?_⟩));refine FZ tb 0 AA AA ?_;exact xw a b (by exact AM [0,2] AA AA (.w (.p .nil)) (.same AA)))
  have u:A20 5 (bm 11 126) ⟨44,AP (Ry p1 p3 ((9,i64 ue)::(10,i64 e)::(11,CJ)::Rg p2 e [(26,ow 2 0 [p1,c])])),gR p0 f [ro 0 32 1 (eS eI) [p1,c]]⟩:=(a _ _ _).2 (by
   refine xa [0,7,8] ⟨?_,?_,?_,pA⟩
   .exact xq tb a g
   .refine xo 7 ?_;refine Ea (Ry p1 p3 ((9,i64 ue)::(10,i64 e)::(11,CJ)::Rg p2 e [(26,ls (eS eI) [p1,c])])) (gR p0 f [⟨1,32,1,[]⟩]) 2 AA ⟨.rfl,.rfl,.rfl,.rfl,.rfl,.rfl,.rfl,.rfl,.rfl,.BY AA,pA⟩ (λ_=>AA) rfl (Bo (v':=ow 3 0 p) AN (hb 130) (Gg A) rfl AA ⟨(Bq λ_=>AA),pA⟩ AA AA (AB ⟨AA,?_⟩));refine FZ tb 0 AA AA ?_;refine FZ tb 8 AA AA ?_;exact xw a b (by exact AM [0,3] AA AA (.w (.p .nil)) (.same AA))
   .refine xo 8 ?_;exact AS AA (QC a i (by exact AM [0,2] AA AA (.w (.p .nil)) (.same AA))))
  have x:A20 5 (bm 11 318) ⟨44,AP (Ry p1 p3 ((9,i64 ue)::(10,i64 e)::Rg p2 e [(21,ls eI p1),(25,ls eI c),(28,Bc f)])),[MY p0]⟩:=(a _ _ _).2 (by
   refine xa [0,6] ⟨?_,?_,pA⟩
   .exact xq tb a h
   .refine xo 6 ?_;refine CC 1 [p1,c] (eS eI) OI AA ?_;exact xd a i)
  have z:A20 6 (bm 11 62) ⟨44,AP (Ry p1 p3 ((9,i64 ue)::(10,i64 e)::(11,CJ)::Rg p2 e [(21,ls eI p1),(25,ls eI c)])),gR p0 f []⟩:=(a _ _ _).2 (by
   refine xa [0,6,8] ⟨?_,?_,?_,pA⟩
   .exact xq tb a t
   .refine xo 6 ?_;refine CC 2 [p1,c] (eS eI) OI AA ?_;exact xd a u
   .refine xo 8 ?_;exact AS AA (QC a x (by exact AM [0] AA AA (.w .nil) (.same AA))))
  refine (a _ _ _).2 ?_;refine FZ tb 1 AA AA ?_;refine FZ tb 2 AA AA ?_;refine FZ tb 3 AA AA ?_;refine Ig 4 (v:=.C8 ((eS eI) c) 0) rfl (by kernel_rfl) (by kernel_rfl) (CR OI AA AA J AA) ?_;refine FZ tb 5 AA AA ?_;exact xt a z
 .exact Av (Y ue (AT o) _ (Be _ AA))
theorem UR {N:Nat}{p0:List AL}{r:Int}(h0:Ju N p0=some r):Bd 103 [D4 p0] [] (i64 r) []:=by
 unfold Ju at h0;refine ai Tryz.func103 AA AA AA AA ?_;iterate 2 refine Ap rfl ?_
 refine AE λl f=>sr AA λy g=>AS AA (CZ AA (AS AA (dn g AA (bs h0 λh a h0=>?_))));have o:∀n7,h=n7->∀s,Wk 0 s ⟨19,AP [(3,i64 n7)],[]⟩->l s:=by
  intro n7 z s p;subst h;try dsimp only at h0
  refine f _ (AG p (Ap AA ?_));obtain rfl:=Sh.Bf h0;exact rt [(2,i64 n7)]
 refine AK (Am (σ:=Int×Int) (λn v=>E3 p0 n v.1 v.2=some h) (λ(n5,i)=>⟨19,AP [(3,i64 n5),(6,ls Ai p0),(7,i64 (Sh.len p0)),(8,i64 i)],[]⟩) N (0,0) a Ao (λ_ k=>by rw[E3]at k;cases k) ?_);rintro n ⟨n5,i⟩ a;rw[E3]at a;refine Ap AA (AE λq b=>?_);refine ci a AA ?_ ?_<;>intro t a
 .refine AH (b _ (AE λu c=>AK (sr AA λx d=>bs a λj e a=>zx DK e AA AA AA (AS AA (DE 0 HW AA (Bw KM AA (dn d AA (AF AA (Ac 3 AA ?_)))))))));exact CZ AA (Ac 2 AA (dn c AA (AF AA (Ac 2 AA (AB (xi (Sh.w (n5+Sh.len j.cons),Sh.w (i+1)) a (Be _ AA)))))))
 .exact Av (o n5 (AT a) _ Ao)
theorem Py {N:Nat}{p0:List AL}{p1:Int}{r:List Int}(h0:I0 N p0 p1=some r):Bd 66 [D4 p0,i64 p1] [] (ow 0 0 r) [BX r]:=by
 unfold I0 at h0;refine ai Tryz.func66 AA AA AA AA (Ap AA (AE λT A=>AE λM B=>bs h0 λI b h0=>?_));have J:∀C,I=C->∀s,Wk 0 s ⟨39,AP [(0,D4 p0),(1,i64 p1),(15,.bool C)],[]⟩->M s:=by
  intro C O s D;subst I;refine B _ (AG D ?_);refine ci h0 AA ?_ ?_<;>intro U h0
  .refine Ap AA ?_;cases h0;exact An ⟨_,(((Hb (t:=4) rfl 3 (size:=1) (by decide)).trans (Ag (L:=[(4,Yu)]) (.same AA))).trans (Ag (L:=[(4,Yu)]) (.same AA))),And.intro AA AA⟩
  .refine AH (A _ (sr AA λV E=>Ac 3 AA (bs h0 λW F h0=>Tl (i:=0) (j:=Sh.w (p1-1)) AN DK AA AA AA (λ_=>AA) F (bs h0 λc o h0=>Gs (hb 103) (UR o) rfl (AS AA (dn E AA (Ap AA (AE λG p=>sr AA λP q=>?_))))))));refine Ac 3 AA (bs h0 λf u h0=>zx DK u AA AA AA (Ac 2 AA (CZ AA (AS AA (dn q AA (bs h0 λh b h0=>?_))))));have H:∀e,h=e->∀s,Wk 0 s ⟨39,AP [(6,ow 0 0 e)],[BX e]⟩->G s:=by
    intro e O s D;subst h;try dsimp only at h0
    refine p _ (AG D (Ap AA ?_));obtain rfl:=Sh.Bf h0;exact rt [(4,ow 0 0 e)]
   refine AK (Am (σ:=Int×(List Int)) (λn v=>Fz f c n v.1 v.2=some h) (λ(d,g)=>⟨39,AP [(5,i64 c),(6,ow 0 0 g),(27,i64 (Sh.len f.cons)),(28,i64 d)],[ro 0 3 1 eI g]⟩) N (0,[]) b ((Hb (t:=6) rfl 3 (size:=1) (by decide)).trans (Ag (L:=[(5,i64 c),(6,.own 0 0 (List.length ([]:List Int))),(27,i64 (Sh.len f.cons)),(28,i64 0)]) (.same AA))) (λ_ K=>by rw[Fz]at K;cases K) ?_);rintro n ⟨d,g⟩ b;rw[Fz]at b;refine Ap AA (AE λQ x=>?_);refine ci b AA ?_ ?_<;>intro R b
   .refine AH (x _ (AE λS y=>AK (Ap AA (AF AA (Ac 4 AA ?_)))));refine CC 1 [Sh.w (c+d)] eI BF AA ?_;refine bs b λk z b=>Cs (l2:=[Sh.w (c+d)]) AN BF AA AA AA AA (HG AA AA) (λ_=>AA) z AA (AS AA (dn y AA (AF AA (Ac 2 AA ?_))));exact AB (xi (Sh.w (d+1),k) b (by refine Wk.trans (Da (L:=[(5,i64 c),(6,ow 0 0 k),(27,Yn f),(28,Kr d)]) (st':=[BX k,ro 0 3 1 eI [Sh.w (c+d)]]) (.pure Bn (.pure Bn .nil)) (.same AA)) ?_;exact AM [0] AA AA (.p .nil) (.same AA)))
   .exact Av (H g (AT b) _ Ao)
 refine AF AA (Ac 3 AA ?_);rcases Sh.Ad b with ⟨a,b⟩|⟨a,b⟩
 .refine zs a AA ?_;iterate 3 refine zs a rfl ?_
  exact zt a AA (AB (J true (AT b) _ Ao))
 .exact Aw a AA (Aw a AA (BW (v:=HC p0) (CQ AA AA a) rfl (CU TZ AA) (Aw a AA (zf a AA (AB (J (decide ((Sh.len p0)<p1)) (AT b) _ Ao))))))
theorem Qw {N:Nat}{p0:List AL}{p1:Int}{r:Int×D6}(h0:Ir N p0 p1=some r):Bd 126 [D4 p0,i64 p1] [] (.DF [i64 r.1,J7 r.2]) []:=by
 unfold Ir at h0;refine Cj AA (ai Tryz.func126 AA AA AA AA (sr AA λS y=>AS AA (DE 0 R3 AA (dn y AA (AE λH z=>sr AA λT A=>AS AA (CZ AA (AS AA (dn A AA ?_))))))));obtain⟨B,b,h0⟩:=Sh.Bi h0;have I:∀(_:Unit),B=Sum.inr ()->∀s,Wk 0 s ⟨38,AP [(5,BG)],[⟨0,82,1,[[.zc]]⟩]⟩->H s:=by
  intro _ J s C;subst B;refine z _ (AG C (sr AA λU D=>zz (.agg [.zc]) (DM jf jD R3 AA AA) rfl (AS AA (Bw P3 AA (dn D AA ?_)))));cases h0;exact An ⟨_,(HP (id:=0) (cs:=[.zc]) (cs':=[Rw]) (st':=[⟨0,82,1,[[Rw]]⟩]) rfl ⟨le.zc,pA⟩ AA AA).trans (Ag (L:=[(4,i64 (-1)),(5,BG)]) (.same AA)),FX (.tmp 5) [Rw] P3 AA _ AA⟩
 refine AK (Am (σ:=Int×Int) (λn v=>Fl p0 n v.1 v.2=some B) (λ(g,d)=>⟨38,AP [(1,i64 g),(5,.ptr 0 0 0 0),(8,ls Ai p0),(9,i64 (Sh.len p0)),(10,i64 d)],[⟨0,82,1,[[.zc]]⟩]⟩) N (p1,0) b Ao (λ_ G=>by rw[Fl]at G;cases G) ?_);rintro n ⟨g,d⟩ b;rw[Fl]at b;refine Ap AA (AE λV E=>?_);refine ci b AA ?_ ?_<;>intro K b
 .refine AH (E _ (AE λM h=>AK (sr AA λO i=>AS AA (bs b λc j b=>zx DK j AA AA AA (AS AA (DE 1 HW AA (AS AA (Bw KM AA (dn i AA ?_)))))))));refine AE λP k=>AE λF l=>bs b λo p b=>?_;have q:∀e,o=e->∀s,Wk 0 s ⟨38,AP [(1,i64 g),(5,BG),(6,i64 d),(7,CJ),(8,D4 p0),(9,HC p0),(10,i64 d),(23,.bool e)],[⟨0,82,1,[[.zc]]⟩,XW c]⟩->F s:=by
   intro e J s C;subst o;refine l _ (AG C ?_);refine ci b AA ?_ ?_<;>intro Q b
   .refine AE λR t=>?_;refine CI 8 (by kernel_rfl) (by kernel_rfl) (by rfl) ?_;iterate 5 refine yq tb rfl ?_
    refine bs b λf u b=>yx Je u AA AA AA ?_;iterate 2 refine yq tb rfl ?_
    refine As (Bw P3 AA (dn t AA ?_));cases b;cases h0;exact An ⟨_,(AM (L:=[(4,Kr d),(5,BG)]) (st':=[⟨0,82,1,[CM f]⟩]) [0] AA AA (.w .nil) ⟨.rfl,.rfl,pA⟩).trans (Ag (L:=[(4,Kr d),(5,BG)]) ⟨.rfl,.rfl,pA⟩),FX (.tmp 5) (CM f) P3 AA _ AA⟩
   .refine AH (k _ (AF AA (Ac 3 AA (CZ AA (Ac 2 AA (dn h AA (AF AA (Ac 2 AA ?_))))))));exact AB (xi (Sh.w (g-(Sh.len c.cons)),Sh.w (d+1)) b (AM [0] AA AA (.w .nil) (.same AA)))
  refine AF AA (Ac 3 AA ?_);rcases Sh.Ad p with ⟨a,p⟩|⟨a,p⟩
  .exact Aw a AA (Aw a AA (Aw a AA (BW (v:=Yn c) (CQ AA AA a) rfl (CU Qa AA) (Aw a AA (zt a AA (AB (q (decide (g<Sh.len c.cons)) (AT p) _ Ao)))))))
  .refine zs a AA ?_;iterate 4 refine zs a rfl ?_
   exact zf a AA (AB (q false (AT p) _ Ao))
 .exact Av (I () (AT b) _ Ao)
theorem Ny {N:Nat}{p0:List AL}{p1:Int}{r:List Int}(h0:Eg N p0 p1=some r):Bd 92 [D4 p0,i64 p1] [] (ls eI r) []:=by
 unfold Eg at h0;refine ai Tryz.func92 AA AA AA AA (Ap AA (sr AA λd a=>Ac 2 AA (bs h0 λb c h0=>Df (.DF [i64 b.1,J7 b.2]) (hb 126) (Qw c) rfl (Ac 3 AA (DE 0 R3 AA (AS AA (Bw P3 AA (dn a AA (Ap AA ?_)))))))));cases h0;exact rd [(4,ls eI b.2.fields)]
theorem O6 {p0:List AL}{p1:Int}{r:AL×Bool}(h0:KY p0 p1=some r):Bd 131 [D4 p0,i64 p1] [] (Yi r.1 r.2) []:=by
 unfold KY at h0;refine Cj AA (ai Tryz.func131 AA AA AA AA (sr AA λu f=>DE 0 HW AA (AS AA (dn f AA (AE λw g=>AE λq h=>bs h0 λo c h0=>?_)))));have i:∀j,o=j->∀s,Wk 0 s ⟨30,AP [(0,D4 p0),(1,i64 p1),(4,BG),(23,.bool j)],[gX]⟩->q s:=by
  intro j y s t;subst o;refine h _ (AG t ?_);refine ci h0 AA ?_ ?_<;>intro z h0
  .refine sr AA λA k=>zz (.agg gO) (DM Mk Ml HW AA AA) rfl (Bw KM AA (AS AA (dn k AA ?_)));cases h0;exact An ⟨_,(HP (id:=0) (cs:=gO) (cs':=iF) (st':=[⟨0,80,3,[iF]⟩]) rfl ⟨le.rfl,le.rfl,le.zc,pA⟩ AA AA).trans (Ag (L:=dr []) (.same AA)),FX (.tmp 4) iF KM AA _ AA⟩
  .refine AH (g _ (sr AA λB l=>Ac 3 AA (bs h0 λp n h0=>zx DK n AA AA AA (AS AA (Bw KM AA (AS AA (dn l AA ?_)))))));cases h0;exact An ⟨_,Ag (L:=[(4,BG),(5,.bool true)]) (.same AA),FX (.tmp 4) (Ai p) KM AA _ AA⟩
 refine AF AA (Ac 3 AA ?_);rcases Sh.Ad c with ⟨b,c⟩|⟨b,c⟩
 .refine zs b AA ?_;iterate 3 refine zs b rfl ?_
  refine zt b AA (AS AA ?_);iterate 8 refine zs rfl rfl ?_
  exact zt AA AA (AB (i true (AT c) _ Ao))
 .refine Aw b AA (Aw b AA (BW (v:=HC p0) (CQ AA AA b) rfl (CU TZ AA) (Aw b AA (zf b AA (AS AA ?_)))));rcases Sh.Ad c with ⟨a,c⟩|⟨a,c⟩
  .refine zs a AA ?_;iterate 7 refine zs a rfl ?_
   exact zt a AA (AB (i true (AT c) _ Ao))
  .exact Aw a AA (Aw a AA (Aw a AA (bs c λd e c=>BW (v:=T9 d) (CQ AA AA a) rfl (CR DK AA AA e AA) (Aw a AA (Aw a AA (BW (v:=Yn d) (CQ AA AA a) rfl (CU Qa AA) (Aw a AA (zf a AA (AB (i (decide (0<Sh.len d.cons)) (AT c) _ Ao))))))))))
theorem Gz {N:Nat}{p0 p1:List Int}{r:Bool}(h0:DR N p0 p1=some r):Bd 132 [ls eI p0,ls eI p1] [] (.bool r) []:=by
 unfold DR at h0;refine ai Tryz.func132 AA AA AA AA (Ap AA (AE λF l=>sr AA λG m=>AS AA (CZ AA (AS AA (CZ AA (AS AA (dn m AA ?_)))))));refine ci h0 AA ?_ ?_<;>intro t h0
 .have H:decide ((Sh.len p0)=Sh.len p1)=false:=by simpa using t
  refine Ap AA ?_;cases h0;exact rt [(4,.bool false)]
 .have I:decide ((Sh.len p0)=Sh.len p1)=true:=by simpa using t
  refine AH (l _ (AE λx o=>sr AA λJ p=>AS AA (CZ AA (AS AA (dn p AA ?_)))));obtain⟨b,a,h0⟩:=Sh.Bi h0;have q:∀(_:Unit),b=Sum.inr ()->∀s,Wk 0 s ⟨26,AP [],[]⟩->x s:=by
   intro _ K s y;subst b;refine o _ (AG y (Ap AA ?_));cases h0;exact rt [(4,.bool true)]
  refine AK (Am (σ:=Int) (λn v=>DC p0 p1 n v=some b) (λc=>⟨26,AP [(0,ls eI p0),(1,ls eI p1),(12,i64 (Sh.len p0)),(13,i64 c)],[]⟩) N 0 a Ao (λ_ u=>by rw[DC]at u;cases u) ?_);rintro n c a;rw[DC]at a;refine Ap AA (AE λz d=>?_);refine ci a AA ?_ ?_<;>intro A a
  .refine AH (d _ (AE λB e=>AK (Ap AA (AE λC f=>?_))));refine CW (by kernel_rfl) (by kernel_rfl) (by rfl) ?_;iterate 2 refine yq tb rfl ?_
   refine bs a λg h a=>yx BF h AA AA AA ?_;iterate 3 refine yq tb rfl ?_
   refine bs a λi j a=>yx BF j AA AA AA ?_;iterate 2 refine yq tb rfl ?_
   refine As (f _ ?_);refine ci a AA ?_ ?_<;>intro k a
   .have D:decide (g=i)=false:=by simpa using k
    refine Ap AA ?_;cases a;cases h0;exact rt [(4,.bool false)]
   .have E:decide (g=i)=true:=by simpa using k
    exact AH (e _ (AF AA (Ac 2 AA (AB (xi (Sh.w (c+1)) a Ao)))))
  .exact Av (q () (AT a) _ Ao)
theorem Uo {N:Nat}{p0:List AL}{p1 p2 r:Int}(h0:Ka N p0 p1 p2=some r):Bd 133 [D4 p0,i64 p1,i64 p2] [] (i64 r) []:=by
 unfold Ka at h0;refine ai Tryz.func133 AA AA AA AA (Ap AA (AE λA o=>sr AA λG p=>AS AA (CZ AA (AS AA (dn p AA ?_)))));obtain⟨q,a,h0⟩:=Sh.Bi h0;have B:∀(_:Unit),q=Sum.inr ()->∀s,Wk 0 s ⟨35,AP [],[]⟩->A s:=by
  intro _ C s t;subst q;refine o _ (AG t (Ap AA ?_));cases h0;exact rt [(6,i64 (-1))]
 refine AK (Am (σ:=Int) (λn v=>FO p0 p1 p2 n v=some q) (λg=>⟨35,AP [(1,i64 p1),(2,i64 p2),(9,ls Ai p0),(10,i64 (Sh.len p0)),(11,i64 g)],[]⟩) N 0 a Ao (λ_ z=>by rw[FO]at z;cases z) ?_);rintro n g a;rw[FO]at a;refine Ap AA (AE λH u=>?_);refine ci a AA ?_ ?_<;>intro I a
 .refine AH (u _ (AE λD h=>AK (sr AA λE i=>AS AA (bs a λx j a=>zx DK j AA AA AA (AS AA (DE 0 HW AA (AS AA (Bw KM AA (dn i AA ?_)))))))));refine AE λy k=>bs a λl d a=>?_;have e:∀f,l=f->∀s,Wk 0 s ⟨35,AP [(1,i64 p1),(2,i64 p2),(7,i64 g),(9,D4 p0),(10,HC p0),(11,i64 g),(31,.bool f)],[]⟩->y s:=by
   intro f C s t;subst l;refine k _ (AG t ?_);refine ci a AA ?_ ?_<;>intro F a
   .refine Ap AA ?_;cases a;cases h0;exact rt [(6,Kr g)]
   .exact AH (h _ (AF AA (Ac 2 AA (AB (xi (Sh.w (g+1)) a Ao)))))
  refine AF AA (Ac 2 AA (CZ AA (Ac 2 AA ?_)));rcases Sh.Ad d with ⟨b,d⟩|⟨b,d⟩
  .refine Aw b AA ?_;iterate 3 refine Aw b rfl ?_
   refine zt b AA (AS AA ?_);rcases Sh.Ad d with ⟨c,d⟩|⟨c,d⟩
   .refine Aw c AA ?_;iterate 3 refine Aw c rfl ?_
    exact zt c AA (AB (e (decide (x.to=p2)) (AT d) _ (Be _ AA)))
   .refine zs c AA ?_;iterate 3 refine zs c rfl ?_
    exact zf c AA (AB (e false (AT d) _ (Be _ AA)))
  .refine zs b AA ?_;iterate 3 refine zs b rfl ?_
   refine zf b AA (AS AA ?_);iterate 4 refine zs rfl rfl ?_
   exact zf AA AA (AB (e false (AT d) _ (Be _ AA)))
 .exact Av (B () (AT a) _ Ao)
theorem Ly {N:Nat}{p0:BO}{p1 p2:Int}{p3:List Int}{r:Int×Bool}(h0:BH N p0 p1 p2 p3=some r):Bd 113 [.agg (Gy p0),i64 p1,i64 p2,ls eI p3] [] (.DF [i64 r.1,.bool r.2]) []:=by
 unfold BH at h0;refine ai Tryz.func113 AA AA AA AA (sr AA λK1 h5=>Ef 0 AA (Ac 2 AA (dn h5 AA (Ap AA (AE λK3 h6=>?_)))));obtain⟨o5,b,h0⟩:=Sh.Bi h0;have M5:∀(Y:List Int),o5=Sum.inr Y->∀s,Wk 0 s ⟨149,AP (O7 p2 p3 [(10,ow 0 0 Y),(11,i64 0)]),[BX Y]⟩->K3 s:=by
  intro Y hq s A;subst o5;refine h6 _ (AG A (AE λK6 h7=>bs h0 λo8 b h0=>?_));have M8:∀t7,o8=t7->∀s,Wk 0 s ⟨149,AP [(8,i64 0),(9,.bool t7)],[]⟩->K6 s:=by
   intro t7 hq s A;subst o8;refine h7 _ (AG A ?_);cases h0;exact rt [(8,i64 0),(9,.bool t7)]
  refine AF AA (Ac 4 AA ?_);rcases Sh.Ad b with ⟨G,b⟩|⟨G,b⟩
  .exact Aw G AA (Aw G AA (Ea [(141,i64 0),(144,.bool (decide (p2=0))),(145,ls eI p3),(146,ls eI Y)] UY 0 AA ⟨.rfl,.rfl,.rfl,.BY AA,pA⟩ (λ_=>AA) rfl (bs b λh8 Z b=>zd G (hb 132) (Gz Z) rfl AA AA AA (zt G AA (Ac 2 AA (AB (M8 h8 (AT b) _ (Be _ AA))))))))
  .exact zs G AA (zs G AA (zs G AA (zf G AA (Ac 2 AA (AB (M8 false (AT b) _ (Be _ AA)))))))
 refine Ap AA (AK (Ap AA ?_));refine ci b AA ?_ ?_<;>intro l5 b
 .refine AE λh9 b0=>bs b λb1 c b=>?_;have R:∀H,b1=H->∀s,Wk 0 s ⟨149,AP [(8,i64 0),(9,.bool H)],[]⟩->h9 s:=by
   intro H hq s A;subst b1;refine b0 _ (AG A ?_);cases b;cases h0;exact rt [(8,i64 0),(9,.bool H)]
  refine AF AA (Ac 3 AA ?_);rcases Sh.Ad c with ⟨D,c⟩|⟨D,c⟩
  .refine Aw D AA (Aw D AA (zt D AA (AS AA ?_)));rcases Sh.Ad c with ⟨x,c⟩|⟨x,c⟩
   .exact Aw x AA (BW (v:=HC p3) (CQ AA AA x) rfl (CU Gc AA) (Aw x AA (zt x AA (Ac 2 AA (AB (R (decide ((Sh.len p3)=0)) (AT c) _ (Be _ AA)))))))
   .exact zs x AA (zs x AA (zs x AA (zf x AA (Ac 2 AA (AB (R false (AT c) _ (Be _ AA)))))))
  .refine zs D AA (zs D AA (zf D AA (AS AA ?_)));iterate 3 refine zs rfl rfl ?_
   exact zf AA AA (Ac 2 AA (AB (R false (AT c) _ (Be _ AA))))
 .refine AE λk0 b2=>bs b λb3 c b=>?_;have I:∀S,b3=S->∀s,Wk 0 s ⟨149,AP ((1,i64 p1)::O7 p2 p3 [(4,BG),(11,i64 0),(18,i64 p1),(32,.bool S)]),[MY p0]⟩->k0 s:=by
   intro S hq s A;subst b3;refine b2 _ (AG A ?_);refine ci b AA ?_ ?_<;>intro l6 b
   .refine AF AA ?_;refine CC 1 [(0:Int),0] eI BF AA ?_;refine AS AA ?_;exact AB (M5 [(0:Int),0] (AT b) _ (AM [1] AA AA (.p .nil) (.same AA)))
   .refine Ap AA ?_;refine ci b AA ?_ ?_<;>intro l7 b
    .refine AF AA ?_;refine CC 1 [(0:Int)] eI BF AA ?_;refine AS AA ?_;exact AB (M5 [(0:Int)] (AT b) _ (AM [1] AA AA (.p .nil) (.same AA)))
    .refine Ap AA ?_;refine ci b AA ?_ ?_<;>intro l8 b
     .refine AE λl9 b4=>sr AA λm0 b5=>AS AA (CZ AA (AS AA (dn b5 AA ?_)));refine ci b AA ?_ ?_<;>intro b6 b
      .have m1:decide ((Sh.len p3)=2)=false:=by simpa using b6
       refine Ap AA ?_;cases b;cases h0;exact rd [(8,i64 (-1)),(9,.bool false)]
      .have m2:decide ((Sh.len p3)=2)=true:=by simpa using b6
       refine AH (b4 _ (AE λm3 b7=>?_));refine ID (by kernel_rfl) ?_;refine bs b λT b8 b=>bs b λd P b=>Kv λA36 a=>?_;have f:A36 0 (bm 12 4095) ⟨149,AP (O7 p2 p3 [(12,BG),(13,.bool d.2)]),[XW d.1]⟩:=(a _ _ _).2 (by
        refine Gr AA (by kernel_rfl) ?_;refine b7 _ (AE λk1 c0=>bs b λc1 c b=>?_);have U:∀J,c1=J->∀s,Wk 0 s ⟨149,AP [(8,i64 d.1.to),(9,.bool J)],[]⟩->k1 s:=by
         intro J hq s A;subst c1;refine c0 _ (AG A ?_);cases b;cases h0;exact rt [(8,i64 d.1.to),(9,.bool J)]
        refine CW (by kernel_rfl) (by kernel_rfl) (by rfl) ?_;iterate 4 refine yq tb rfl ?_
        rcases Sh.Ad c with ⟨B,c⟩|⟨B,c⟩
        .refine yg tb B AA (bs c λk2 c2 c=>H3 (v:=UB k2) (CQ AA AA B) rfl (CR BF AA AA c2 AA) ?_);iterate 4 refine yg tb B rfl ?_
         refine yt B AA (yq tb AA ?_);rcases Sh.Ad c with ⟨E,c⟩|⟨E,c⟩
         .refine yg tb E AA (yg tb E AA (yt E AA ?_));iterate 2 refine yq tb rfl ?_
          exact As (U (decide (p2=0)) (AT c) _ (Be _ AA))
         .refine ys E AA (ys E AA (yf E AA ?_));iterate 2 refine yq tb rfl ?_
          exact As (U false (AT c) _ (Be _ AA))
        .refine ys B AA ?_;iterate 5 refine ys B rfl ?_
         refine yf B AA (yq tb AA ?_);iterate 2 refine ys rfl rfl ?_
         refine yf AA AA ?_;iterate 2 refine yq tb rfl ?_
         exact As (U false (AT c) _ (by exact AM [] AA AA .nil (.same AA))))
       have e:A36 2 (bm 12 1023) ⟨149,AP (O7 p2 p3 [(12,BG),(53,.agg (Ai d.1)),(54,.bool d.2)]),[gX]⟩:=(a _ _ _).2 (by
        refine xa [10] ⟨?_,pA⟩
        .refine xo 10 ?_;refine Bw KM AA (AB ⟨AA,?_⟩);refine FZ tb 11 AA AA ?_;exact xt a f)
       have g:A36 3 (bm 12 511) ⟨149,AP (O7 p2 p3 [(53,.agg (Ai d.1)),(54,.bool d.2)]),[]⟩:=(a _ _ _).2 (by
        refine xa [9] ⟨?_,pA⟩
        .refine xo 9 ?_;exact DE 0 HW AA (xd a e))
       have o:A36 2 (bm 12 1791) ⟨149,AP (O7 p2 p3 [(12,BG),(46,Yi d.1 d.2)]),[XW d.1]⟩:=(a _ _ _).2 (by
        refine xa [8] ⟨?_,pA⟩
        .refine xo 8 ?_;refine AS AA (AB ⟨AA,?_⟩);refine FZ tb 11 AA AA ?_;exact xt a f)
       have h:A36 3 (bm 12 767) ⟨149,AP (O7 p2 p3 [(12,BG),(46,Yi d.1 d.2),(53,.agg (Ai d.1))]),[gX]⟩:=(a _ _ _).2 (by
        refine xa [8,10] ⟨?_,?_,pA⟩
        .exact xq tb a e
        .refine xo 10 ?_;exact Bw KM AA (xd a o))
       have p:A36 4 (bm 12 255) ⟨149,AP (O7 p2 p3 [(46,Yi d.1 d.2),(53,.agg (Ai d.1))]),[]⟩:=(a _ _ _).2 (by
        refine xa [8,9] ⟨?_,?_,pA⟩
        .exact xq tb a g
        .refine xo 9 ?_;exact DE 0 HW AA (xd a h))
       have k:A36 3 (bm 12 895) ⟨149,AP (O7 p2 p3 [(12,BG),(46,Yi d.1 d.2),(54,.bool d.2)]),[gX]⟩:=(a _ _ _).2 (by
        refine xa [7] ⟨?_,pA⟩
        .exact xq tb a e)
       have q:A36 4 (bm 12 383) ⟨149,AP (O7 p2 p3 [(46,Yi d.1 d.2),(54,.bool d.2)]),[]⟩:=(a _ _ _).2 (by
        refine xa [7,9] ⟨?_,?_,pA⟩
        .exact xq tb a g
        .refine xo 9 ?_;exact DE 0 HW AA (xd a k))
       have n:A36 4 (bm 12 639) ⟨149,AP (O7 p2 p3 [(12,BG),(46,Yi d.1 d.2)]),[gX]⟩:=(a _ _ _).2 (by
        refine xa [7,8] ⟨?_,?_,pA⟩
        .exact xq tb a h
        .exact xq tb a k)
       have y:A36 5 (bm 12 127) ⟨149,AP (O7 p2 p3 [(46,Yi d.1 d.2)]),[]⟩:=(a _ _ _).2 (by
        refine xa [7,8,9] ⟨?_,?_,?_,pA⟩
        .exact xq tb a p
        .exact xq tb a q
        .refine xo 9 ?_;exact DE 0 HW AA (xd a n))
       have C:A36 6 (bm 12 543) ⟨149,AP (O7 p2 p3 [(12,BG),(48,ls Ai p0.decls),(51,i64 T)]),[gX]⟩:=(a _ _ _).2 (by
        refine xa [5] ⟨?_,pA⟩
        .refine xo 5 ?_;refine Df (Yi d.1 d.2) (hb 131) (O6 P) rfl (AB ⟨AA,?_⟩);refine FZ tb 6 AA AA ?_;exact xt a n)
       have F:A36 7 (bm 12 31) ⟨149,AP (O7 p2 p3 [(48,ls Ai p0.decls),(51,i64 T)]),[]⟩:=(a _ _ _).2 (by
        refine xa [5,9] ⟨?_,?_,pA⟩
        .refine xo 5 ?_;refine Df (Yi d.1 d.2) (hb 131) (O6 P) rfl (AB ⟨AA,?_⟩);refine FZ tb 6 AA AA ?_;exact xt a y
        .refine xo 9 ?_;exact DE 0 HW AA (xd a C))
       refine (a _ _ _).2 ?_;refine FZ tb 0 AA AA ?_;refine FZ tb 1 AA AA ?_;refine FZ tb 2 AA AA ?_;refine Ig 3 (v:=UB T) rfl (by kernel_rfl) (by kernel_rfl) (CR BF AA AA b8 AA) ?_;refine FZ tb 4 AA AA ?_;exact xw a F (by exact AM [] AA AA .nil (.same AA))
     .refine Ap AA ?_;refine ci b AA ?_ ?_<;>intro m4 b
      .refine sr AA λm5 c3=>Ac 3 AA (bs b λK c4 b=>Df (.DF [i64 K.1,J7 K.2]) (hb 126) (Qw c4) rfl (Ac 3 AA (DE 1 R3 AA (AS AA (Bw P3 AA (dn c3 AA (AE λk3 c5=>bs b λc6 c b=>?_)))))));have c7:∀M,c6=M->∀s,Wk 0 s ⟨149,AP [(8,i64 K.1),(9,.bool M)],[]⟩->k3 s:=by
        intro M hq s A;subst c6;refine c5 _ (AG A ?_);cases b;cases h0;exact rt [(8,i64 K.1),(9,.bool M)]
       refine AF AA (Ac 4 AA ?_);rcases Sh.Ad c with ⟨z,c⟩|⟨z,c⟩
       .exact Aw z AA (Aw z AA (Aw z AA (bs c λk4 c8 c=>zd z (hb 132) (Gz c8) rfl AA AA AA (zt z AA (Ac 2 AA (AB (c7 k4 (AT c) _ (Be _ AA))))))))
       .refine zs z AA ?_;iterate 3 refine zs z rfl ?_
        exact zf z AA (Ac 2 AA (AB (c7 false (AT c) _ (Be _ AA))))
      .refine AE λk5 c9=>bs b λd1 c b=>?_;have d2:∀V,d1=V->∀s,Wk 0 s ⟨149,AP ((1,i64 p1)::O7 p2 p3 [(4,BG),(88,.bool V)]),[MY p0]⟩->k5 s:=by
        intro V hq s A;subst d1;refine c9 _ (AG A ?_);refine ci b AA ?_ ?_<;>intro m6 b
        .refine AE λm7 d3=>AE λk6 d4=>bs b λd5 c b=>?_;have d6:∀W,d5=W->∀s,Wk 0 s ⟨149,AP ((1,i64 p1)::O7 p2 p3 [(4,BG),(99,.bool W)]),[MY p0]⟩->k6 s:=by
          intro W hq s A;subst d5;refine d4 _ (AG A ?_);refine ci b AA ?_ ?_<;>intro m8 b
          .refine Ap AA ?_;cases b;cases h0;exact rd [(8,i64 (-1)),(9,.bool false)]
          .refine AH (d3 _ (AE λm9 d7=>?_));refine CW (by kernel_rfl) (by kernel_rfl) (by rfl) ?_;iterate 3 refine yq tb rfl ?_
           refine bs b λd8 Q b=>yx SC Q AA AA AA ?_;iterate 5 refine yq tb rfl ?_
           refine yx SC Q AA AA AA ?_;iterate 4 refine yq tb rfl ?_
           refine As (d7 _ (AE λq0 d9=>Ap AA ?_));refine ci b AA ?_ ?_<;>intro q1 b
           .refine sr AA λq2 g0=>Ac 3 AA (bs b λk7 g1 b=>Gs (hb 132) (Gz g1) rfl (Ac 2 AA (dn g0 AA ?_)));cases b;cases h0;exact rd [(8,i64 d8.result),(9,.bool k7)]
           .refine AH (d9 _ (sr AA λq3 g2=>AS AA (CZ AA (Ac 2 AA (dn g2 AA (AE λq4 g3=>Ap AA ?_))))));refine ci b AA ?_ ?_<;>intro q5 b
            .refine Ap AA ?_;cases b;cases h0;exact rd [(8,i64 (-1)),(9,.bool false)]
            .refine AH (g3 _ (AE λq6 g4=>?_));refine CW (by kernel_rfl) (by kernel_rfl) (by rfl) ?_;iterate 4 refine yq tb rfl ?_
             refine bs b λq7 g5 b=>yx BF g5 AA AA AA ?_;iterate 2 refine yq tb rfl ?_
             refine bs b λX g6 b=>BU (v:=i64 X) AN (hb 133) (Uo g6) rfl AA AA (yq tb AA (As (g4 _ (AE λk8 g7=>bs b λg8 c b=>?_))));have g9:∀O,g8=O->∀s,Wk 0 s ⟨149,AP [(8,i64 X),(9,.bool O)],[]⟩->k8 s:=by
              intro O hq s A;subst g8;refine g7 _ (AG A ?_);cases b;cases h0;exact rt [(8,i64 X),(9,.bool O)]
             refine AF AA (Ac 4 AA ?_);rcases Sh.Ad c with ⟨t,c⟩|⟨t,c⟩
             .exact Aw t AA (Aw t AA (Aw t AA (bs c λq8 h3 c=>Tl (i:=0) (j:=Sh.w ((Sh.len d8.params)-1)) (CQ AA AA t) BF AA AA AA (λ_=>AA) h3 (bs c λk9 h4 c=>zd t (hb 132) (Gz h4) rfl AA AA AA (zt t AA (Ac 2 AA (AB (g9 k9 (AT c) _ (Be _ AA)))))))))
             .refine zs t AA ?_;iterate 4 refine zs t rfl ?_
              exact zf t AA (Ac 2 AA (AB (g9 false (AT c) _ (Be _ AA))))
         refine AF AA (Ac 3 AA ?_);rcases Sh.Ad c with ⟨u,c⟩|⟨u,c⟩
         .refine zs u AA ?_;iterate 4 refine zs u rfl ?_
          exact zt u AA (AB (d6 true (AT c) _ Ao))
         .exact Aw u AA (Aw u AA (Aw u AA (BW (v:=i64 (Sh.len p0.funcs)) (CQ AA AA u) rfl (CU jy AA) (Aw u AA (zf u AA (AB (d6 (decide ((Sh.len p0.funcs)<=p2)) (AT c) _ Ao)))))))
        .refine Ap AA ?_;cases b;cases h0;exact rd [(8,i64 (-1)),(9,.bool false)]
       refine Ap AA ?_;refine ci c AA ?_ ?_<;>intro l0 c
       .exact AH (d2 true (AT c) _ (Ag (L:=((1,i64 p1)::O7 p2 p3 [(4,BG),(88,.bool true)])) ⟨.rfl,.rfl,.rfl,.rfl,.of (qY AV.bool l0),pA⟩))
       .exact AF AA (Ac 2 AA (AB (d2 (decide (p1=10)) (AT c) _ Ao)))
  refine Ap AA ?_;refine ci c AA ?_ ?_<;>intro l1 c
  .exact AH (I true (AT c) _ (Ag (L:=((1,i64 p1)::O7 p2 p3 [(4,BG),(11,i64 0),(18,i64 p1),(32,.bool true)])) ⟨.rfl,.rfl,.rfl,.rfl,.rfl,.rfl,.of (qY AV.bool l1),pA⟩))
  .refine Ap AA ?_;refine ci c AA ?_ ?_<;>intro l2 c
   .exact AH (I true (AT c) _ (Ag (L:=((1,i64 p1)::O7 p2 p3 [(4,BG),(11,i64 0),(18,i64 p1),(32,.bool true)])) ⟨.rfl,.rfl,.rfl,.rfl,.rfl,.rfl,.of (qY AV.bool l2),pA⟩))
   .refine Ap AA ?_;refine ci c AA ?_ ?_<;>intro l3 c
    .exact AH (I true (AT c) _ (Ag (L:=((1,i64 p1)::O7 p2 p3 [(4,BG),(11,i64 0),(18,i64 p1),(32,.bool true)])) ⟨.rfl,.rfl,.rfl,.rfl,.rfl,.rfl,.of (qY AV.bool l3),pA⟩))
    .exact AF AA (Ac 2 AA (AB (I (decide (p1=4)) (AT c) _ Ao)))
end Go.Proofs.YtihdgoiebmfapaaGreat
