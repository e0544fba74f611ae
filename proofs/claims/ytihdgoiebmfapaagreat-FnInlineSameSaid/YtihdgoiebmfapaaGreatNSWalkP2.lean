import Derived.Test.YtihdgoiebmfapaaGreatNSWalkP1
set_option linter.all false
namespace Go.Proofs.YtihdgoiebmfapaaGreat
open Go Go.Abs RC
attribute [local irreducible] Go.Abs.EK
set_option maxRecDepth 100000
set_option maxHeartbeats 4000000
theorem mF:I6 Tryz.prog 95=true:=by kernel_rfl
theorem nX:I6 Tryz.prog 99=true:=by kernel_rfl
theorem mL:Kl Tryz.prog 95=some [(0,1),(1,1),(2,1)]:=by kernel_rfl
theorem oS:Kl Tryz.prog 99=some [(0,1),(1,1)]:=by kernel_rfl
theorem OL:DB Tryz.prog 119=some ⟨32,1,24,[.sl []]⟩:=by kernel_rfl
theorem SH:DB Tryz.prog 93=some ⟨95,3,56,[.sl [],.sl [],.int .i64 0]⟩:=by kernel_rfl
theorem Wt:IH Tryz.prog 37 2=some 2:=by kernel_rfl
theorem oY:Program.underlying Tryz.prog 3=some (.int .i64):=by kernel_rfl
theorem TM:DG Tryz.prog 23=true:=by kernel_rfl
theorem kP:DG Tryz.prog 93=true:=by kernel_rfl
theorem nV:Dc Tryz.prog 93=some (false,1):=by kernel_rfl
theorem oK:Dc Tryz.prog 95=some (true,3):=by kernel_rfl
theorem ix:Dc Tryz.prog 99=some (true,2):=by kernel_rfl
theorem oC:IK Tryz.prog 3=some [.int .i64 0]:=by kernel_rfl
theorem jv:IK Tryz.prog 95=some [.zc,.zc,.int .i64 0]:=by kernel_rfl
theorem il:IK Tryz.prog 99=some [.zc,.zc]:=by kernel_rfl
theorem Tv {tl:List Int}{tr:Int}{r:(List AK)×Int}(h0:Jz tl tr=some r):Bf 86 [BG] [FM tl tr] (ow 1 0 r.1) [FM tl r.2,I5 r.1]:=by
 unfold Jz at h0;refine ai Tryz.func86 AA AA AA AA (Ap AA (sr AA λK2 b4=>AT AA (bs h0 λa b5 h0=>?_)));refine G6 (rowsP:=[FM tl tr]) (rows0:=[FM tl tr]) (rows1:=[FM tl a.2]) (rows2:=[I5 a.1]) (rows1':=[FM tl a.2]) (rows2':=[I5 a.1]) (st':=[FM tl a.2,I5 a.1]) (v':=ow 1 0 a.1) [0] AN (hb 87) (NX b5) rfl (by decide) rfl AA (.raw AA AA .nil) rfl AA (.raw AA AA .nil) (.pure Bn .nil) rfl AA ?_;refine AT AA (dn b4 AA (sr AA λK4 b6=>Ac 2 AA (zz (G7 a.1) (DE TM AA AA AA) rfl (bs h0 λc b7 h0=>?_))));refine Hl [FM tl c.2,I5 a.1] (i64 c.1) [0] AN (hb 83) (Ax b7) rfl AA ?_;refine AT AA (dn b6 AA (AE λK6 b8=>bs h0 λo9 b h0=>?_));have G:∀f7 J,o9=(f7,J)->∀s,Wk 1 s ⟨89,AP [(3,ow 1 0 J)],[FM tl f7,I5 J]⟩->K6 s:=by
  rintro f7 J rfl s hw;refine b8 _ (AG hw (Ap AA ?_));cases h0;exact rt [(2,ow 1 0 J)]
 refine sr AA λb9 K=>AT AA (bs b λe M b=>?_);refine Hl [FM tl e.2,I5 a.1] (i64 e.1) [0] AN (hb 83) (Ax M) rfl AA ?_;refine dn K AA (AL (Ap AA ?_));refine ci b AA ?_ ?_<;>intro c0 b
 .refine AF AA (Ac 3 AA ?_);refine CC 2 [(-1:Int),5,0,2] eI BF AA ?_;refine EU [(0,BG),(3,ow 1 0 a.1),(15,ow 1 0 a.1),(16,i64 c.1),(17,BG),(18,ls eI [(-1:Int),5,0,2])] (aa tl e.2 a.1 []) 2 AA ⟨.rfl,.rfl,.rfl,.rfl,.rfl,.BZ AA,oz⟩ (λ_=>AA) rfl (bs b λf N b=>?_);refine Hl (aa tl f.2 a.1 []) (i64 f.1) [0] AN (hb 70) (Bm N) rfl AA ?_;refine AT AA ?_;refine CC 3 [(0:Int),1,5] eI BF AA ?_;refine EU [(3,ow 1 0 a.1),(15,ow 1 0 a.1),(16,i64 c.1),(19,i64 f.1),(20,BG),(21,ls eI [(0:Int),1,5])] ((FM tl f.2)::(I5 a.1)::Ch []) 3 AA ⟨.rfl,.rfl,.rfl,.rfl,.rfl,.BZ AA,oz⟩ (λ_=>AA) rfl (bs b λg O b=>?_);refine Hl ((FM tl g.2)::(I5 a.1)::Ch []) (i64 g.1) [0] AN (hb 70) (Bm O) rfl AA ?_;refine zz (.agg [i64 f.1,i64 g.1,.zc]) (DK Mj Ml HV AA AA) rfl (bs b λc1 C b=>zz (LF c.1) (CD DI AA AA AA AA C) rfl (As (Ag (L:=[(3,ow 1 0 a.1),(23,.agg [i64 f.1,i64 g.1,bg]),(24,LF c.1)]) ⟨.rfl,.agg ⟨.rfl,.rfl,.zc,oz⟩,.rfl,oz⟩) (Je (u':=AK.mk f.1 g.1 []) AN KP AA AA C AA AA AA tK rfl AA ?_)));exact AB (G g.2 (Sh.put a.1 c.1 (AK.mk f.1 g.1 [])) (AS b) _ (by refine Wk.trans (AM (L:=[(3,.own 1 0 (List.length a.1))]) (st':=[⟨0,72,2,[[.sl (List.map FP tl),i64 g.2]]⟩,⟨0,80,3,List.map Ah (Sh.put a.1 c.1 (AK.mk f.1 g.1 []))⟩]) [0,1] AA AA (.w (.p .nil)) ⟨.rfl,oz⟩) ?_;exact Ag (L:=[(3,.own 1 0 (List.length (Sh.put a.1 c.1 (AK.mk f.1 g.1 []))))]) ⟨(.len (by simp only[Sh.GR])),oz⟩))
 .refine Ap AA ?_;refine ci b AA ?_ ?_<;>intro c2 b
  .refine AF AA (Ac 3 AA ?_);refine CC 2 [(-1:Int),0,4,5] eI BF AA ?_;refine EU (lT a.1 c.1 [(29,BG),(30,ls eI [(-1:Int),0,4,5])]) (aa tl e.2 a.1 []) 2 AA ⟨.rfl,.rfl,.rfl,.rfl,.BZ AA,oz⟩ (λ_=>AA) rfl (bs b λh P b=>?_);refine Hl (aa tl h.2 a.1 []) (i64 h.1) [0] AN (hb 70) (Bm P) rfl AA ?_;refine CC 3 [h.1] eI BF AA ?_;refine EU (lT a.1 c.1 [(32,ls eI [h.1])]) ((FM tl h.2)::(I5 a.1)::Ch []) 3 AA ⟨.rfl,.rfl,.rfl,.BZ AA,oz⟩ (λ_=>AA) rfl (bs b λk Q b=>D0 (KN k) (hb 117) (EE Q) rfl ?_);refine CC 4 [(0:Int),0,0,0] eI BF AA ?_;refine EU (lT a.1 c.1 [(33,KN k),(34,ls eI [(0:Int),0,0,0])]) ((FM tl h.2)::(I5 a.1)::Ch [⟨1,3,1,[]⟩]) 4 AA ⟨.rfl,.rfl,.rfl,.rfl,.BZ AA,oz⟩ (λ_=>AA) rfl (bs b λo R b=>D0 (KN o) (hb 117) (EE R) rfl ?_);refine CC 5 ([]:List Int) eI BF AA ?_;refine EU (lT a.1 c.1 [(33,KN k),(35,KN o),(36,Rp)]) ((FM tl h.2)::(I5 a.1)::Ch (Ch [])) 5 AA ⟨.rfl,.rfl,.rfl,.rfl,.rfl,.BZ AA,oz⟩ (λ_=>AA) rfl (bs b λp S b=>D0 (KN p) (hb 117) (EE S) rfl ?_);refine CC 6 [k,o,p] CL JZ AA ?_;refine zz (.agg [i64 0,i64 0,ow 6 0 [k,o,p]]) (DK Mj Ml HV AA AA) rfl (bs b λc3 D b=>zz (LF c.1) (CD DI AA AA AA AA D) rfl (EU [(3,ow 1 0 a.1),(39,.agg [i64 0,i64 0,ls CL [k,o,p]]),(40,LF c.1)] ((FM tl h.2)::(I5 a.1)::Ch (Ch [Mn])) 6 AA ⟨.rfl,.agg ⟨.rfl,.rfl,.IF AA,oz⟩,.rfl,oz⟩ (λ_=>AA) rfl (Je (u':=AK.mk 0 0 [k,o,p]) AN KP AA AA D AA AA AA tK rfl AA ?_)));exact AB (G h.2 (Sh.put a.1 c.1 (AK.mk 0 0 [k,o,p])) (AS b) _ (by refine Wk.trans (AM (L:=[(3,.own 1 0 (List.length a.1))]) (st':=[⟨0,72,2,[[.sl (List.map FP tl),i64 h.2]]⟩,⟨0,80,3,List.map Ah (Sh.put a.1 c.1 (AK.mk 0 0 [k,o,p]))⟩]) [0,1] AA AA (.w (.p .nil)) ⟨.rfl,oz⟩) ?_;exact Ag (L:=[(3,.own 1 0 (List.length (Sh.put a.1 c.1 (AK.mk 0 0 [k,o,p]))))]) ⟨(.len (by simp only[Sh.GR])),oz⟩))
  .refine Ap AA ?_;refine ci b AA ?_ ?_<;>intro c4 b
   .refine AF AA (Ac 4 AA ?_);refine CC 2 [Sh.w (c.1+1)] eI BF AA ?_;refine EU [(3,ow 1 0 a.1),(43,ow 1 0 a.1),(44,i64 c.1),(47,ls eI [Sh.w (c.1+1)])] (aa tl e.2 a.1 []) 2 AA ⟨.rfl,.rfl,.rfl,.BZ AA,oz⟩ (λ_=>AA) rfl (bs b λq T b=>D0 (KN q) (hb 117) (EE T) rfl ?_);refine CC 3 [q] CL JZ AA ?_;refine zz (.agg [i64 0,i64 0,ow 3 0 [q]]) (DK Mj Ml HV AA AA) rfl (bs b λc5 E b=>zz (LF c.1) (CD DI AA AA AA AA E) rfl (EU [(3,ow 1 0 a.1),(50,jM q),(51,LF c.1)] (aa tl e.2 a.1 [Mn]) 3 AA ⟨.rfl,.agg ⟨.rfl,.rfl,.IF AA,oz⟩,.rfl,oz⟩ (λ_=>AA) rfl (Je (u':=AK.mk 0 0 [q]) AN KP AA AA E AA AA AA tK rfl AA ?_)));exact AB (G e.2 (Sh.put a.1 c.1 (AK.mk 0 0 [q])) (AS b) _ (by refine Wk.trans (AM (L:=[(3,.own 1 0 (List.length a.1))]) (st':=[⟨0,72,2,[[.sl (List.map FP tl),i64 e.2]]⟩,⟨0,80,3,List.map Ah (Sh.put a.1 c.1 (AK.mk 0 0 [q]))⟩]) [0,1] AA AA (.w (.p .nil)) ⟨.rfl,oz⟩) ?_;exact Ag (L:=[(3,.own 1 0 (List.length (Sh.put a.1 c.1 (AK.mk 0 0 [q]))))]) ⟨(.len (by simp only[Sh.GR])),oz⟩))
   .refine Ap AA ?_;refine ci b AA ?_ ?_<;>intro c6 b
    .refine AF AA (Ac 2 AA ?_);refine CC 2 [(0:Int),2,1] eI BF AA ?_;refine EU [(54,ow 1 0 a.1),(55,BG),(56,ls eI [(0:Int),2,1])] (aa tl e.2 a.1 []) 2 AA ⟨.rfl,.rfl,.BZ AA,oz⟩ (λ_=>AA) rfl (bs b λn U b=>?_);refine Hl (aa tl n.2 a.1 []) (i64 n.1) [0] AN (hb 70) (Bm U) rfl AA ?_;refine zz (.agg [i64 2,i64 n.1,.zc]) (DK Mj Ml HV AA AA) rfl (As (Ag (L:=[(54,ow 1 0 a.1),(58,.agg [i64 2,i64 n.1,bg])]) ⟨.rfl,.agg ⟨.rfl,.rfl,.zc,oz⟩,oz⟩) ?_);refine CC 3 ([AK.mk 2 n.1 []]) Ah DI AA ?_;refine bs b λH V b=>Ct (l2:=[AK.mk 2 n.1 []]) AN DI AA AA AA AA (HD AA AA) (λ_=>AA) V AA (AT AA ?_);exact AB (G n.2 H (AS b) _ (by refine Wk.trans (D4 (L:=[(3,ow 1 0 H)]) (st':=[FM tl n.2,I5 H,⟨0,3,1,[]⟩,ro 0 80 3 Ah ([AK.mk 2 n.1 []])]) (.raw AA AA AA (.pure AA Bn (.pure AA (by intro x hx;cases hx) (.pure AA Bn .nil)))) (.same AA)) ?_;exact AM [0,1] AA AA (.w (.p .nil)) (.same AA)))
    .refine Ap AA ?_;refine ci b AA ?_ ?_<;>intro c7 b
     .refine AF AA (Ac 3 AA (bs b λd W b=>?_));refine Hl [FM tl d.2,I5 a.1] (i64 d.1) [0] AN (hb 83) (Ax W) rfl AA ?_;refine CC 2 ([]:List Int) eI BF AA ?_;refine EU ((0,BG)::jl a.1 c.1 d.1 [(67,Rp)]) (aa tl d.2 a.1 []) 2 AA ⟨.rfl,.rfl,.rfl,.rfl,.rfl,.BZ AA,oz⟩ (λ_=>AA) rfl (bs b λt X b=>D0 (KN t) (hb 117) (EE X) rfl ?_);refine CC 3 [(2:Int)] eI BF AA ?_;refine EU ((0,BG)::jl a.1 c.1 d.1 [(68,KN t),(69,ls eI [(2:Int)])]) ((FM tl d.2)::(I5 a.1)::Ch []) 3 AA ⟨.rfl,.rfl,.rfl,.rfl,.rfl,.rfl,.BZ AA,oz⟩ (λ_=>AA) rfl (bs b λy Y b=>D0 (KN y) (hb 117) (EE Y) rfl ?_);refine CC 4 ([]:List Int) eI BF AA ?_;refine EU ((0,BG)::jl a.1 c.1 d.1 [(68,KN t),(70,KN y),(71,Rp)]) ((FM tl d.2)::(I5 a.1)::Ch [⟨1,3,1,[]⟩]) 4 AA ⟨.rfl,.rfl,.rfl,.rfl,.rfl,.rfl,.rfl,.BZ AA,oz⟩ (λ_=>AA) rfl (bs b λz Z b=>D0 (KN z) (hb 117) (EE Z) rfl ?_);refine CC 5 ([]:List Int) eI BF AA ?_;refine EU ((0,BG)::jl a.1 c.1 d.1 [(68,KN t),(70,KN y),(72,KN z),(73,Rp)]) ((FM tl d.2)::(I5 a.1)::Ch (Ch [])) 5 AA ⟨.rfl,.rfl,.rfl,.rfl,.rfl,.rfl,.rfl,.rfl,.BZ AA,oz⟩ (λ_=>AA) rfl (bs b λA b0 b=>D0 (KN A) (hb 117) (EE b0) rfl ?_);refine CC 6 [t,y,z,A] CL JZ AA ?_;refine AT AA (bs b λu b1 b=>?_);refine Hl ((FM tl u.2)::(I5 a.1)::Ch (Ch [ro 0 82 1 CL [t,y,z,A]])) (i64 u.1) [0] AN (hb 83) (Ax b1) rfl AA ?_;refine EU (jl a.1 c.1 d.1 [(75,ls CL [t,y,z,A]),(77,i64 u.1)]) ((FM tl u.2)::(I5 a.1)::Ch (Ch [Mn])) 6 AA ⟨.rfl,.rfl,.rfl,.rfl,.BZ AA,.rfl,oz⟩ (λ_=>AA) rfl (bs b λB b2 b=>TZ (i:=u.1) (j:=Sh.len [t,y,z,A]) AN JZ AA AA AA (λ_=>AA) b2 (zz (.agg [i64 d.1,i64 0,ls CL B]) (DK Mj Ml HV AA AA) rfl (bs b λc8 F b=>zz (LF c.1) (CD DI AA AA AA AA F) rfl (Je (u':=AK.mk d.1 0 B) AN KP AA AA F AA AA AA tK rfl AA ?_))));exact AB (G u.2 (Sh.put a.1 c.1 (AK.mk d.1 0 B)) (AS b) _ (by refine Wk.trans (AM (L:=[(3,.own 1 0 (List.length a.1))]) (st':=[⟨0,72,2,[[.sl (List.map FP tl),i64 u.2]]⟩,⟨0,80,3,List.map Ah (Sh.put a.1 c.1 (AK.mk d.1 0 B))⟩]) [0,1] AA AA (.w (.p .nil)) ⟨.rfl,oz⟩) ?_;exact Ag (L:=[(3,.own 1 0 (List.length (Sh.put a.1 c.1 (AK.mk d.1 0 B))))]) ⟨(.len (by simp only[Sh.GR])),oz⟩))
     .refine Ap AA ?_;refine ci b AA ?_ ?_<;>intro c9 b
      .refine AF AA (AT AA (zz (.agg gw) (DK Mj Ml HV AA AA) rfl (zz (.agg [i64 3,i64 0,.zc]) (DK Mj Ml HV AA AA) rfl (As (Ag (L:=[(83,ow 1 0 a.1),(84,.agg iZ),(85,.agg [i64 3,i64 0,.zc])]) ⟨.rfl,.agg ⟨.rfl,.rfl,.zc,oz⟩,.rfl,oz⟩) (As (Ag (L:=[(83,ow 1 0 a.1),(84,.agg iZ),(85,.agg [i64 3,i64 0,bg])]) ⟨.rfl,.rfl,.agg ⟨.rfl,.rfl,.zc,oz⟩,oz⟩) ?_)))));refine CC 2 ([AK.mk 0 0 [],AK.mk 3 0 []]) Ah DI AA ?_;refine bs b λI b3 b=>Ct (l2:=[AK.mk 0 0 [],AK.mk 3 0 []]) AN DI AA AA AA AA (HD AA AA) (λ_=>AA) b3 AA (AT AA ?_);exact AB (G e.2 I (AS b) _ (by refine Wk.trans (D4 (L:=[(3,ow 1 0 I)]) (st':=[FM tl e.2,I5 I,ro 0 80 3 Ah ([AK.mk 0 0 [],AK.mk 3 0 []])]) (.raw AA AA AA (.pure AA Bn (.pure AA Bn .nil))) (.same AA)) ?_;exact AM [0,1] AA AA (.w (.p .nil)) (.same AA)))
      .exact AH (G e.2 a.1 (AS b) _ Aq)
theorem QD {N:Nat}{tl:List Int}{tr:Int}{s1:List AU}{tn:List AK}{r:AJ×Int}(h0:Hb N tl tr s1 tn=some r):Bf 53 [BG,H3 tn s1] [FM tl tr,ML s1] (.agg [D5 r.1.decls,ow 1 1 r.1.funcs]) [FM tl r.2,cL r.1.funcs]:=by
 unfold Hb at h0;refine BJ.wk (r0:=.agg [D5 r.1.decls,ow 1 1 r.1.funcs]) (st0:=[FM tl r.2,cL r.1.funcs,dT r.1.decls r.1.funcs]) ?_ (D3 (L:=[(0,.agg [D5 r.1.decls,ow 1 1 r.1.funcs])]) (st':=[FM tl r.2,cL r.1.funcs]) [0,1] AA (by decide) rfl AA (.raw AA (.pure Bn oz)) (.same AA));refine ai Tryz.func53 AA AA AA AA (sr AA λX F=>Ee 2 AA (DL 3 Is AA (dn F AA (sr AA λY G=>Ac 3 AA (zz (G7 s1) (DE Pp AA AA AA) rfl (bs h0 λc H h0=>?_))))));refine Hl ((FM tl c.2)::KC s1 tn [KL]) (i64 c.1) [0] AN (hb 83) (Ax H) rfl AA ?_;refine AT AA (dn G AA (sr AA λZ I=>Ac 3 AA (bs h0 λa j h0=>zz (LF c.1) (CD Ck AA AA AA AA j) rfl (zz (Ga a) (Cp Ln AA AA (CQ j) tR rfl) rfl (DL 4 MQ AA (Bx Ln AA (As (Wk.BZ (L:=mB c.1 a []) (st':=((FM tl c.2)::KC s1 tn [KL,Ug])) (id:=4) rfl tU (Ek AA) (.same AA) rfl) (dn I AA (AE λO J=>?_)))))))));refine bs h0 λq e h0=>?_;have n:∀E o p,q=(E,o,p)->∀s,Wk 2 s ⟨80,AP [(3,CV),(4,IJ)],[FM tl E,cL o,dT p o,KL]⟩->O s:=by
  rintro E o p rfl s P;refine J _ (AG P (sr AA λQ t=>AT AA (Bx Dz AA (dn t AA ?_))));cases h0;exact Am ⟨_,(AM (L:=[(4,CV)]) (st':=[FM tl E,cL o,dT p o]) [0,1,3] AA AA (.w (.p (.w .nil))) ⟨.rfl,oz⟩).trans (Ag (L:=[(4,CV)]) ⟨.rfl,oz⟩),FY (.tmp 4) [D5 p,ow 1 1 o] Dz AA _ ⟨AA,AA⟩⟩
 refine sr AA λR u=>AT AA (bs e λf w e=>?_);refine Hl ((FM tl f.2)::KC s1 tn [KL,Ug]) (i64 f.1) [0] AN (hb 83) (Ax w) rfl AA ?_;refine dn u AA (AL (Ap AA ?_));refine ci e AA ?_ ?_<;>intro S e
 .refine AG (D4 (L:=mB c.1 a []) (st':=((FM tl f.2)::KC s1 tn [KL,iO])) (.raw AA AA AA (.pure AA Bn (.raw AA AA AA (.raw AA AA AA (.pure AA (by intro x k;cases k) .nil))))) (.same AA)) ?_;refine L0 (KC s1 tn [KL,iO]) 13 ?_;refine BL dH AN AA (λ_ _=>FN Ki AA AA tN rfl) (BL (ow 1 0 s1) AN AA (λ_ _=>CF P1 AA AA AA AA) (BL (i64 c.1) AN AA (λ_ _=>BQ AA) (BL (gR a) AN AA (λ_ _=>Iu Tb AA AA) (BL (ls eI a.params) AN AA (λ_ _=>IM Le AA AA) (BL (.C9 (X6 a) 1) AN AA (λ_ _=>Iu RI AA AA) (BL (i64 a.result) AN AA (λ_ _=>IM Hy AA AA) (BL BG AN AA (λ_ _=>BQ AA) (BL (.C9 (X6 a) 2) AN AA (λ_ _=>Iu Wt AA AA) (BL (UZ a) AN AA (λ_ _=>H0 BI AA tS rfl) (bs e λb y e=>?_))))))))));refine UE (DS b.1.op b.1.num b.1.kids) (FM tl b.2) [0] AN (hb 84) (ZA y) rfl (λ_=>AA) ?_;refine BL (.agg [ls eI a.params,i64 a.result,i64 b.1.op,i64 b.1.num,Ha b.1.kids]) AN AA (λ_ _=>DK Vq Ve MQ AA AA) (BL (LF c.1) AN AA (λ_ _=>CD Ck AA AA AA AA j) (FU AA (Je (u':=AU.mk a.params a.result b.1) AN Ln AA AA j AA AA AA tR rfl AA ?_)));exact AB (n b.2 (Sh.put s1 c.1 (AU.mk a.params a.result b.1)) tn (AS e) _ (by refine Wk.trans (GB (st:=[⟨0,72,2,[[.sl (List.map FP tl),i64 b.2]]⟩,⟨0,37,5,List.map BP (Sh.put s1 c.1 (AU.mk a.params a.result b.1))⟩,⟨0,26,2,[[.sl (List.map Ah tn),.own 1 0 (List.length s1)]]⟩,KL,⟨0,37,5,[]⟩]) (st':=[⟨0,72,2,[[.sl (List.map FP tl),i64 b.2]]⟩,⟨0,37,5,List.map BP (Sh.put s1 c.1 (AU.mk a.params a.result b.1))⟩,⟨0,26,2,[[.sl (List.map Ah tn),.own 1 0 (List.length (Sh.put s1 c.1 (AU.mk a.params a.result b.1)))]]⟩,KL,⟨0,37,5,[]⟩]) (by simp only[Sh.GR])) ?_;refine Wk.trans (Nb (L:=[(3,.ptr 2 0 0 0),(4,.ptr 3 0 0 0)]) (st':=[⟨0,72,2,[[.sl (List.map FP tl),i64 b.2]]⟩,⟨1,37,5,List.map BP (Sh.put s1 c.1 (AU.mk a.params a.result b.1))⟩,⟨0,26,2,[[.sl (List.map Ah tn),.own 1 1 (List.length (Sh.put s1 c.1 (AU.mk a.params a.result b.1)))]]⟩,KL,⟨0,37,5,[]⟩]) (st1:=[⟨0,72,2,[[.sl (List.map FP tl),i64 b.2]]⟩,⟨0,37,5,List.map BP (Sh.put s1 c.1 (AU.mk a.params a.result b.1))⟩,⟨0,26,2,[[.sl (List.map Ah tn),.own 1 1 (List.length (Sh.put s1 c.1 (AU.mk a.params a.result b.1)))]]⟩,KL,⟨0,37,5,[]⟩]) 1 AA (.raw AA AA (.pure Bn (.raw AA AA (.raw AA AA (.pure (by intro x k;cases k) .nil))))) rfl (.same AA)) ?_;exact AM [0,1,2,3] AA AA (.w (.p (.w (.w .nil)))) (.same AA)))
 .refine Ap AA ?_;refine ci e AA ?_ ?_<;>intro T e
  .refine AG (D4 (L:=mB c.1 a []) (st':=((FM tl f.2)::KC s1 tn [KL,iO])) (.raw AA AA AA (.pure AA Bn (.raw AA AA AA (.raw AA AA AA (.pure AA (by intro x k;cases k) .nil))))) (.same AA)) ?_;refine L0 (KC s1 tn [KL,iO]) 16 ?_;refine BL dH AN AA (λ_ _=>FN Ki AA AA tN rfl) (BL (ow 1 0 s1) AN AA (λ_ _=>CF P1 AA AA AA AA) (BL (i64 c.1) AN AA (λ_ _=>BQ AA) (BL (gR a) AN AA (λ_ _=>Iu Tb AA AA) (BL (ls eI a.params) AN AA (λ_ _=>IM Le AA AA) (BL BG AN AA (λ_ _=>BQ AA) ?_)))));refine F8 AN (λK zz=>Gr (l:=[(0:Int),1,9,-1]) (enc:=eI) AN BF (by decide) rfl AA AA AA AA Bn (Av AA)) ?_;refine bs e λi z e=>?_;refine UE (i64 i.1) (FM tl i.2) [0] AN (hb 70) (Bm z) rfl (λ_=>AA) ?_;refine F8 AN (λK zz=>Gr (l:=[i.1]) (enc:=eI) AN BF (by decide) rfl AA AA AA AA Bn (Av AA)) ?_;refine bs e λh A e=>?_;refine F8 AN (λK zz=>BV (v:=ls eI h) AN (hb 85) (BJ.wk (F7 A) (by refine Wk.trans (Wk.BZ (L:=[(0,ls eI h)]) (st':=TV) (id:=0) rfl tM Bn ⟨.BZ AA,oz⟩ AA) ?_;exact AM [] AA AA .nil (.same AA))) rfl AA AA (Av AA)) ?_;refine BL (.C9 (X6 a) 1) AN AA (λ_ _=>Iu RI AA AA) (BL (i64 a.result) AN AA (λ_ _=>IM Hy AA AA) (BL (.C9 (X6 a) 2) AN AA (λ_ _=>Iu Wt AA AA) (BL (UZ a) AN AA (λ_ _=>H0 BI AA tS rfl) (BL (.agg [ls eI h,i64 a.result,i64 a.body.op,i64 a.body.num,ls Ar a.body.kids]) AN AA (λ_ _=>DK Vq Ve MQ AA AA) (BL (LF c.1) AN AA (λ_ _=>CD Ck AA AA AA AA j) (FU AA (Je (u':=AU.mk h a.result a.body) AN Ln AA AA j AA AA AA tR rfl AA ?_)))))));exact AB (n i.2 (Sh.put s1 c.1 (AU.mk h a.result a.body)) tn (AS e) _ (by refine Wk.trans (GB (st:=[⟨0,72,2,[[.sl (List.map FP tl),i64 i.2]]⟩,⟨0,37,5,List.map BP (Sh.put s1 c.1 (AU.mk h a.result a.body))⟩,⟨0,26,2,[[.sl (List.map Ah tn),.own 1 0 (List.length s1)]]⟩,KL,⟨0,37,5,[]⟩]) (st':=[⟨0,72,2,[[.sl (List.map FP tl),i64 i.2]]⟩,⟨0,37,5,List.map BP (Sh.put s1 c.1 (AU.mk h a.result a.body))⟩,⟨0,26,2,[[.sl (List.map Ah tn),.own 1 0 (List.length (Sh.put s1 c.1 (AU.mk h a.result a.body)))]]⟩,KL,⟨0,37,5,[]⟩]) (by simp only[Sh.GR])) ?_;refine Wk.trans (Nb (L:=[(3,.ptr 2 0 0 0),(4,.ptr 3 0 0 0)]) (st':=[⟨0,72,2,[[.sl (List.map FP tl),i64 i.2]]⟩,⟨1,37,5,List.map BP (Sh.put s1 c.1 (AU.mk h a.result a.body))⟩,⟨0,26,2,[[.sl (List.map Ah tn),.own 1 1 (List.length (Sh.put s1 c.1 (AU.mk h a.result a.body)))]]⟩,KL,⟨0,37,5,[]⟩]) (st1:=[⟨0,72,2,[[.sl (List.map FP tl),i64 i.2]]⟩,⟨0,37,5,List.map BP (Sh.put s1 c.1 (AU.mk h a.result a.body))⟩,⟨0,26,2,[[.sl (List.map Ah tn),.own 1 1 (List.length (Sh.put s1 c.1 (AU.mk h a.result a.body)))]]⟩,KL,⟨0,37,5,[]⟩]) 1 AA (.raw AA AA (.pure Bn (.raw AA AA (.raw AA AA (.pure (by intro x k;cases k) .nil))))) rfl (.same AA)) ?_;exact AM [0,1,2,3] AA AA (.w (.p (.w (.w .nil)))) (.same AA)))
  .refine Ap AA ?_;refine ci e AA ?_ ?_<;>intro U e
   .refine AG (D4 (L:=mB c.1 a []) (st':=((FM tl f.2)::KC s1 tn [KL,iO])) (.raw AA AA AA (.pure AA Bn (.raw AA AA AA (.raw AA AA AA (.pure AA (by intro x k;cases k) .nil))))) (.same AA)) ?_;refine L0 (KC s1 tn [KL,iO]) 12 ?_;refine BL dH AN AA (λ_ _=>FN Ki AA AA tN rfl) (BL (ow 1 0 s1) AN AA (λ_ _=>CF P1 AA AA AA AA) (BL (i64 c.1) AN AA (λ_ _=>BQ AA) (BL (gR a) AN AA (λ_ _=>Iu Tb AA AA) (BL (ls eI a.params) AN AA (λ_ _=>IM Le AA AA) (BL BG AN AA (λ_ _=>BQ AA) ?_)))));refine F8 AN (λK zz=>Gr (l:=[(0:Int),1,3,5,-1]) (enc:=eI) AN BF (by decide) rfl AA AA AA AA Bn (Av AA)) ?_;refine bs e λd B e=>?_;refine UE (i64 d.1) (FM tl d.2) [0] AN (hb 70) (Bm B) rfl (λ_=>AA) ?_;refine BL (.C9 (X6 a) 2) AN AA (λ_ _=>Iu Wt AA AA) (BL (UZ a) AN AA (λ_ _=>H0 BI AA tS rfl) (BL (.agg [ls eI a.params,i64 d.1,i64 a.body.op,i64 a.body.num,ls Ar a.body.kids]) AN AA (λ_ _=>DK Vq Ve MQ AA AA) (BL (LF c.1) AN AA (λ_ _=>CD Ck AA AA AA AA j) (FU AA (Je (u':=AU.mk a.params d.1 a.body) AN Ln AA AA j AA AA AA tR rfl AA ?_)))));exact AB (n d.2 (Sh.put s1 c.1 (AU.mk a.params d.1 a.body)) tn (AS e) _ (by refine Wk.trans (GB (st:=[⟨0,72,2,[[.sl (List.map FP tl),i64 d.2]]⟩,⟨0,37,5,List.map BP (Sh.put s1 c.1 (AU.mk a.params d.1 a.body))⟩,⟨0,26,2,[[.sl (List.map Ah tn),.own 1 0 (List.length s1)]]⟩,KL,⟨0,37,5,[]⟩]) (st':=[⟨0,72,2,[[.sl (List.map FP tl),i64 d.2]]⟩,⟨0,37,5,List.map BP (Sh.put s1 c.1 (AU.mk a.params d.1 a.body))⟩,⟨0,26,2,[[.sl (List.map Ah tn),.own 1 0 (List.length (Sh.put s1 c.1 (AU.mk a.params d.1 a.body)))]]⟩,KL,⟨0,37,5,[]⟩]) (by simp only[Sh.GR])) ?_;refine Wk.trans (Nb (L:=[(3,.ptr 2 0 0 0),(4,.ptr 3 0 0 0)]) (st':=[⟨0,72,2,[[.sl (List.map FP tl),i64 d.2]]⟩,⟨1,37,5,List.map BP (Sh.put s1 c.1 (AU.mk a.params d.1 a.body))⟩,⟨0,26,2,[[.sl (List.map Ah tn),.own 1 1 (List.length (Sh.put s1 c.1 (AU.mk a.params d.1 a.body)))]]⟩,KL,⟨0,37,5,[]⟩]) (st1:=[⟨0,72,2,[[.sl (List.map FP tl),i64 d.2]]⟩,⟨0,37,5,List.map BP (Sh.put s1 c.1 (AU.mk a.params d.1 a.body))⟩,⟨0,26,2,[[.sl (List.map Ah tn),.own 1 1 (List.length (Sh.put s1 c.1 (AU.mk a.params d.1 a.body)))]]⟩,KL,⟨0,37,5,[]⟩]) 1 AA (.raw AA AA (.pure Bn (.raw AA AA (.raw AA AA (.pure (by intro x k;cases k) .nil))))) rfl (.same AA)) ?_;exact AM [0,1,2,3] AA AA (.w (.p (.w (.w .nil)))) (.same AA)))
   .refine Ap AA ?_;refine ci e AA ?_ ?_<;>intro V e
    .refine AF AA (AT AA (bs e λg C e=>?_));refine G6 (rowsP:=[FM tl f.2]) (rows0:=[FM tl f.2]) (rows1:=[FM tl g.2]) (rows2:=[I5 g.1]) (rows1':=[FM tl g.2]) (rows2':=[I5 g.1]) (st':=((FM tl g.2)::KC s1 tn [KL,Ug,I5 g.1])) (v':=ow 5 0 g.1) [0] AN (hb 86) (Tv C) rfl (by decide) rfl AA (.raw AA AA .nil) rfl AA (.raw AA AA .nil) (.pure Bn .nil) rfl AA ?_;refine AT AA (EU [(3,CV),(4,IJ),(69,D5 g.1),(70,CV)] ((FM tl g.2)::KC s1 tn [KL,Ug,OI]) 5 AA ⟨.rfl,.rfl,.BZ AA,.rfl,oz⟩ (λ_=>AA) rfl (Bx dQ AA ?_));exact AB (n g.2 s1 g.1 (AS e) _ (by refine Wk.trans (Nb (L:=[(3,CV),(4,IJ)]) (st':=[FM tl g.2,cL s1,dT g.1 s1,KL,Ug,OI]) (st1:=[FM tl g.2,ML s1,dT g.1 s1,KL,Ug,OI]) 1 AA (.raw AA AA (.pure Bn (.raw AA AA (.raw AA AA (.pure (by intro x k;cases k) (.pure (by intro x k;cases k) .nil)))))) rfl (.same AA)) ?_;exact AM [0,1,2,3] AA AA (.w (.p (.w (.w .nil)))) (.same AA)))
    .refine Ap AA ?_;refine ci e AA ?_ ?_<;>intro W e
     .refine AF AA (Ac 3 AA ?_);refine CC 5 [a] BP Ck AA ?_;refine bs e λM D e=>Ct (l2:=[a]) AN Ck AA AA AA AA (HD AA AA) (λ_=>AA) D AA (AT AA (Bx P1 AA ?_));exact AB (n f.2 M tn (AS e) _ (AM [0,1,2,3] AA AA (.w (.p (.w (.w .nil)))) (.same AA)))
     .exact AH (n f.2 s1 tn (AS e) _ (by refine Wk.trans (Nb (L:=[(3,CV),(4,IJ)]) (st':=[FM tl f.2,cL s1,dT tn s1,KL,Ug]) (st1:=[FM tl f.2,ML s1,dT tn s1,KL,Ug]) 1 AA (.raw AA AA (.pure Bn (.raw AA AA (.raw AA AA (.pure (by intro x k;cases k) .nil))))) rfl (.same AA)) ?_;exact AM [0,1,2,3] AA AA (.w (.p (.w (.w .nil)))) (.same AA)))
theorem Rq {N:Nat}{tl:List Int}{tr:Int}{r:AJ×Int}(h0:IP N tl tr=some r):Bf 25 [BG] [FM tl tr] (H3 r.1.decls r.1.funcs) [FM tl r.2,ML r.1.funcs]:=by
 unfold IP at h0;refine BJ.wk (r0:=H3 r.1.decls r.1.funcs) (st0:=((FM tl r.2)::KC r.1.funcs r.1.decls [])) ?_ (D3 (L:=[(0,H3 r.1.decls r.1.funcs)]) (st':=[FM tl r.2,ML r.1.funcs]) [0,1] AA (by decide) rfl AA (.raw AA (.pure Bn oz)) (.same AA));refine ai Tryz.func25 AA AA AA AA (sr AA λg c=>DL 1 Is AA (dn c AA (sr AA λh d=>Ac 2 AA (bs h0 λb e h0=>?_))));refine G6 (rowsP:=[FM tl tr]) (rows0:=[FM tl tr]) (rows1:=[FM tl b.2]) (rows2:=[ML b.1.funcs]) (rows1':=[FM tl b.2]) (rows2':=[ML b.1.funcs]) (st':=[FM tl b.2,KL,ML b.1.funcs]) (v':=.agg [D5 b.1.decls,ow 2 0 b.1.funcs]) [0] AN (hb 54) (QM e) rfl (by decide) rfl AA (.raw AA AA .nil) rfl AA (.raw AA AA .nil) (.pure Bn .nil) rfl AA ?_;refine bs h0 λa f h0=>?_;refine Ow [FM tl a.2,KL,cL a.1.funcs] (.agg [D5 a.1.decls,ow 2 1 a.1.funcs]) [0,2] AN (hb 53) (QD f) rfl AA (λ_=>AA) (λ_=>AA) ?_;refine Bx Dz AA (dn d AA ?_);cases h0;exact Am ⟨_,((D4 (L:=[(2,CM)]) (st':=[FM tl a.2,gK a.1.decls a.1.funcs,ML a.1.funcs]) (.raw AA AA AA (.raw AA AA AA (.pure AA Bn .nil))) (.same AA)).trans (Ef (L:=[(2,CV)]) (st':=((FM tl a.2)::KC a.1.funcs a.1.decls [])) (st1:=[FM tl a.2,ML a.1.funcs,gK a.1.decls a.1.funcs]) [0,2,1] AA AA (.w (.p (.w .nil))) (.same AA))).trans (Ag (L:=[(2,CV)]) (.same AA)),FY (.tmp 2) [D5 a.1.decls,ow 1 0 a.1.funcs] Dz AA _ ⟨AA,AA⟩⟩
theorem PM {N:Nat}{p0:List Int}{r:AJ×Int}(h0:HJ N p0=some r):Bf 41 [ls FP p0] [] (.C8 [.agg (Uc r.1.decls r.1.funcs),i64 r.2]) []:=by
 unfold HJ at h0;refine Ci AA (ai Tryz.func41 AA AA AA AA (sr AA λA j=>DL 0 Is AA (AT AA (dn j AA (sr AA λB k=>AT AA (bs h0 λb n h0=>Bo (v':=CM) AN (hb 26) (S4 n) rfl AA ⟨(Ek AA).any,oz⟩ AA AA (AT AA (dn k AA ?_))))))));refine sr AA λC o=>AT AA (bs h0 λa p h0=>?_);refine G6 (rowsP:=[FM b.1 b.2]) (rows0:=[FM b.1 b.2]) (rows1:=[FM b.1 a.2]) (rows2:=[ML a.1.funcs]) (rows1':=[FM b.1 a.2]) (rows2':=[ML a.1.funcs]) (st':=[KL,FM b.1 a.2,ML a.1.funcs]) (v':=.agg [D5 a.1.decls,ow 2 0 a.1.funcs]) [1] AN (hb 25) (Rq p) rfl (by decide) rfl AA (.raw AA AA .nil) rfl AA (.raw AA AA .nil) (.pure Bn .nil) rfl AA ?_;refine DL 3 Is AA (EU [(2,BG),(4,CM),(5,IJ),(9,.agg (Uc a.1.decls a.1.funcs))] [KL,FM b.1 a.2,Ug,KL] 2 AA ⟨.rfl,.rfl,.rfl,.agg ⟨.rfl,.IF AA,oz⟩,oz⟩ (λ_=>AA) rfl (Bx Dz AA (dn o AA (AE λy q=>bs h0 λw e h0=>?_))));have t:∀i,w=i->∀s,Wk 0 s ⟨14,AP [(2,BG),(3,i64 i)],[bT a.1.decls a.1.funcs]⟩->y s:=by
  intro i D s z;subst w;refine q _ (AG z ?_);cases h0;exact Am ⟨_,Ag (L:=[(2,BG),(3,i64 i)]) (.same AA),FY (.tmp 2) (Uc a.1.decls a.1.funcs) Dz AA _ AA⟩
 refine Hw (by kernel_rfl) ?_;refine H5 1 (v:=CM) rfl AA (by kernel_rfl) (by kernel_rfl) (by kernel_rfl) rfl (Ia AA) ?_;refine xa [0,2] ⟨?_,?_,oz⟩
 .refine xo 0 ?_;refine AT AA (AB ⟨AA,?_⟩);refine xa [2] ⟨?_,oz⟩
  .refine xo 2 ?_;refine CC 4 [(1:Int),2,3,1,3,0,-1,4] eI BF AA ?_;refine AB ⟨AA,?_⟩;refine xa [3] ⟨?_,oz⟩
   .refine xo 3 ?_;refine EU [(2,BG),(10,.agg (Uc a.1.decls a.1.funcs)),(11,CM),(12,mY)] (iK b.1 a.2 a.1.decls a.1.funcs) 4 AA ⟨.rfl,.rfl,.rfl,.BZ AA,oz⟩ (λ_=>AA) rfl (bs e λf u e=>?_);refine Hl (iK b.1 f.2 a.1.decls a.1.funcs) (i64 f.1) [1] AN (hb 70) (Bm u) rfl AA ?_;refine AB ⟨AA,?_⟩;refine xa [4] ⟨?_,oz⟩
    .refine xo 4 ?_;refine Bx Dz AA (AB ⟨AA,?_⟩);refine H5 5 (v:=i64 f.1) rfl AA (by kernel_rfl) (by kernel_rfl) (by kernel_rfl) rfl (RM AA) ?_;exact Gi AA (by kernel_rfl) (t f.1 (AS e) _ (by exact AM [0] AA AA (.w .nil) (.same AA)))
 .refine xo 2 ?_;refine CC 4 [(1:Int),2,3,1,3,0,-1,4] eI BF AA ?_;refine AB ⟨AA,?_⟩;refine xa [0,3] ⟨?_,?_,oz⟩
  .refine xo 0 ?_;refine AT AA (AB ⟨AA,?_⟩);refine xa [3] ⟨?_,oz⟩
   .refine xo 3 ?_;refine EU [(2,BG),(10,.agg (Uc a.1.decls a.1.funcs)),(11,CM),(12,mY)] (iK b.1 a.2 a.1.decls a.1.funcs) 4 AA ⟨.rfl,.rfl,.rfl,.BZ AA,oz⟩ (λ_=>AA) rfl (bs e λc g e=>?_);refine Hl (iK b.1 c.2 a.1.decls a.1.funcs) (i64 c.1) [1] AN (hb 70) (Bm g) rfl AA ?_;refine AB ⟨AA,?_⟩;refine xa [4] ⟨?_,oz⟩
    .refine xo 4 ?_;refine Bx Dz AA (AB ⟨AA,?_⟩);refine H5 5 (v:=i64 c.1) rfl AA (by kernel_rfl) (by kernel_rfl) (by kernel_rfl) rfl (RM AA) ?_;exact Gi AA (by kernel_rfl) (t c.1 (AS e) _ (by exact AM [0] AA AA (.w .nil) (.same AA)))
  .refine xo 3 ?_;refine EU [(2,BG),(5,IJ),(11,CM),(12,mY)] (iK b.1 a.2 a.1.decls a.1.funcs) 4 AA ⟨.rfl,.rfl,.rfl,.BZ AA,oz⟩ (λ_=>AA) rfl (bs e λd h e=>?_);refine Hl (iK b.1 d.2 a.1.decls a.1.funcs) (i64 d.1) [1] AN (hb 70) (Bm h) rfl AA ?_;refine AB ⟨AA,?_⟩;refine xa [0] ⟨?_,oz⟩
   .refine xo 0 ?_;refine AT AA (AB ⟨AA,?_⟩);refine xa [4] ⟨?_,oz⟩
    .refine xo 4 ?_;refine Bx Dz AA (AB ⟨AA,?_⟩);refine H5 5 (v:=i64 d.1) rfl AA (by kernel_rfl) (by kernel_rfl) (by kernel_rfl) rfl (RM AA) ?_;exact Gi AA (by kernel_rfl) (t d.1 (AS e) _ (by exact AM [0] AA AA (.w .nil) (.same AA)))
theorem Ry {N:Nat}{p0:List Int}{r:AJ×Int}(h0:Im N p0=some r):Bf 18 [ls FP p0] [] (.C8 [.agg (Uc r.1.decls r.1.funcs),i64 r.2]) []:=by
 unfold Im at h0;refine Ci AA (ai Tryz.func18 AA AA AA AA (sr AA λe b=>DL 0 Is AA (AT AA (dn b AA (sr AA λf c=>AT AA (bs h0 λa d h0=>D0 (.C8 [.agg (Uc a.1.decls a.1.funcs),i64 a.2]) (hb 41) (PM d) rfl (Ac 2 AA (Bx Dz AA ?_))))))));refine AT AA (dn c AA ?_);cases h0;exact Am ⟨_,Ag (L:=[(2,BG),(3,i64 a.2)]) (.same AA),FY (.tmp 2) (Uc a.1.decls a.1.funcs) Dz AA _ AA⟩
theorem Kh {p0:List AK}{p1:Int}{r:Bool}(h0:H6 p0 p1=some r):Bf 111 [D5 p0,i64 p1] [] (.bool r) []:=by
 unfold H6 at h0;refine ai Tryz.func111 AA AA AA AA (Ap AA (AE λg d=>bs h0 λe b h0=>?_));have f:∀c,e=c->∀s,Wk 0 s ⟨13,AP [(4,.bool c)],[]⟩->g s:=by
  intro c i s h;subst e;try dsimp only at h0
  refine d _ (AG h ?_);obtain rfl:=Sh.BU h0;exact rt [(4,.bool c)]
 refine AF AA (Ac 3 AA ?_);rcases Sh.Ae b with ⟨a,b⟩|⟨a,b⟩
 .exact Ay a AA (Ay a AA (BW (v:=G7 p0) (CR AA AA a) rfl (CU TM AA) (Ay a AA (zt a AA (AT AA (AB (f (decide (p1<=Sh.len p0)) (AS b) _ Aq)))))))
 .refine zs a AA ?_;iterate 3 refine zs a rfl ?_
  exact zf a AA (AT AA (AB (f false (AS b) _ Aq)))
theorem LK {N:Nat}{p0:List AK}{p1:List Int}{r:Bool}(h0:He N p0 p1=some r):Bf 79 [D5 p0,ls eI p1] [] (.bool r) []:=by
 unfold He at h0;refine ai Tryz.func79 AA AA AA AA (Ap AA (AE λp i=>sr AA λC j=>AT AA (CY AA (AT AA (dn j AA ?_)))));obtain⟨k,a,h0⟩:=Sh.Bj h0;have q:∀(_:Unit),k=Sum.inr ()->∀s,Wk 0 s ⟨18,AP [],[]⟩->p s:=by
  intro _ D s t;subst k;refine i _ (AG t (Ap AA ?_));cases h0;exact rt [(4,.bool true)]
 refine AL (An (σ:=Int) (λn v=>Fe p0 p1 n v=some k) (λl=>⟨18,AP [(0,ls Ah p0),(7,ls eI p1),(8,i64 (Sh.len p1)),(9,i64 l)],[]⟩) N 0 a Aq (λ_ o=>by rw[Fe]at o;cases o) ?_);rintro n l a;rw[Fe]at a;refine Ap AA (AE λE m=>?_);refine ci a AA ?_ ?_<;>intro F a
 .refine AH (m _ (AE λu b=>AL (sr AA λx c=>bs a λy d a=>zx BF d AA AA AA (Ac 2 AA (dn c AA (sr AA λz e=>Ac 2 AA (bs a λf g a=>G5 (hb 111) (Kh g) rfl ?_)))))));refine AT AA (dn e AA ?_);refine ci a AA ?_ ?_<;>intro h a
  .have A:f=false:=by simpa using h
   refine Ap AA ?_;cases a;cases h0;exact rt [(4,.bool false)]
  .have B:f=true:=by simpa using h
   exact AH (b _ (AF AA (Ac 2 AA (AB (xi (Sh.w (l+1)) a Aq)))))
 .exact Au (q () (AS a) _ Aq)
theorem Rn {N:Nat}{p0:List AK}{r:Bool}(h0:IU N p0=some r):Bf 110 [D5 p0] [] (.bool r) []:=by
 unfold IU at h0;refine ai Tryz.func110 AA AA AA AA (Ap AA (AE λK2 c3=>sr AA λK3 c4=>AT AA (CY AA (AT AA (dn c4 AA ?_)))));refine ci h0 AA ?_ ?_<;>intro b4 h0
 .refine Ap AA ?_;cases h0;exact rt [(2,.bool false)]
 .refine AH (c3 _ (AE λK6 c5=>sr AA λK7 c6=>AT AA (CY AA (AT AA (dn c6 AA ?_)))));obtain⟨o9,d,h0⟩:=Sh.Bj h0;have M9:∀(_:Unit),o9=Sum.inr ()->∀s,Wk 0 s ⟨106,AP [],[]⟩->K6 s:=by
   intro _ I s x;subst o9;refine c5 _ (AG x (Ap AA ?_));cases h0;exact rt [(2,.bool true)]
  refine AL (An (σ:=Int) (λn v=>Eo N p0 n v=some o9) (λp=>⟨106,AP [(0,ls Ah p0),(12,ls Ah p0),(13,i64 (Sh.len p0)),(14,i64 p)],[]⟩) N 0 d Aq (λ_ C=>by rw[Eo]at C;cases C) ?_);rintro n p d;rw[Eo]at d;refine Ap AA (AE λd6 J=>?_);refine ci d AA ?_ ?_<;>intro d7 d
  .refine AH (J _ (AE λc7 K=>AL (sr AA λd8 L=>AT AA (bs d λb M d=>zx DI M AA AA AA (AT AA (DL 0 HV AA (AT AA (Bx KP AA (dn L AA ?_)))))))));refine AE λd9 O=>AE λc8 P=>bs d λQ a d=>?_;have u:∀D,Q=D->∀s,Wk 0 s ⟨106,AP ((0,D5 p0)::(3,i64 p)::(4,BG)::(12,D5 p0)::VJ p0 p [(52,.bool D)]),[XM b]⟩->c8 s:=by
    intro D I s x;subst Q;refine P _ (AG x ?_);refine ci d AA ?_ ?_<;>intro g0 d
    .refine Ap AA ?_;cases d;cases h0;exact rd [(2,.bool false)]
    .refine AH (O _ (AE λc9 R=>sr AA λg1 S=>Ac 2 AA (CY AA (AT AA (dn S AA ?_)))));obtain⟨E,a,d⟩:=Sh.Bj d;have d1:∀(_:Unit),E=Sum.inr ()->∀s,Wk 0 s ⟨106,AP ((0,D5 p0)::(3,i64 p)::(4,BG)::(12,D5 p0)::VJ p0 p []),[XM b]⟩->c9 s:=by
      intro _ I s x;subst E;refine R _ (AG x (sr AA λg2 T=>Ac 2 AA (bs d λy U d=>TZ (i:=0) (j:=p) AN DI AA AA AA (λ_=>AA) U (CY AA (AT AA (dn T AA ?_))))));obtain⟨F,a,d⟩:=Sh.Bj d;have d2:∀(_:Unit),F=Sum.inr ()->∀s,Wk 0 s ⟨106,AP ((0,D5 p0)::(12,D5 p0)::VJ p0 p []),[]⟩->c7 s:=by
       intro _ I s x;subst F;exact K _ (AG x (AF AA (Ac 2 AA (AB (xi (Sh.w (p+1)) d Aq)))))
      refine AL (An (σ:=Int) (λn v=>EB b y n v=some F) (λz=>⟨106,AP [(0,ls Ah p0),(4,.ptr 0 0 0 0),(12,ls Ah p0),(13,i64 (Sh.len p0)),(14,i64 p),(74,ls Ah y),(75,i64 (Sh.len y)),(76,i64 z)],[⟨0,80,3,[Ah b]⟩]⟩) N 0 a Aq (λ_ C=>by rw[EB]at C;cases C) ?_);rintro n z a;rw[EB]at a;refine Ap AA (AE λg3 V=>?_);refine ci a AA ?_ ?_<;>intro g4 a
      .refine AH (V _ (AE λg5 W=>AL (sr AA λg6 X=>bs a λY Z a=>zx DI Z AA AA AA (AT AA (DL 1 HV AA (Bx KP AA (dn X AA (AE λd3 b0=>bs a λb1 f a=>?_))))))));have A:∀G,b1=G->∀s,Wk 0 s ⟨106,AP ((0,D5 p0)::(4,BG)::(12,D5 p0)::VJ p0 p [(74,D5 y),(75,G7 y),(76,i64 z),(103,.bool G)]),[XM b]⟩->d3 s:=by
        intro G I s x;subst b1;refine b0 _ (AG x ?_);refine ci a AA ?_ ?_<;>intro g7 a
        .refine Ap AA ?_;cases a;cases d;cases h0;exact rd [(2,.bool false)]
        .exact AH (W _ (AF AA (Ac 2 AA (AB (xi (Sh.w (z+1)) a Aq)))))
       refine AF AA (Ac 2 AA (CY AA (Ac 2 AA ?_)));rcases Sh.Ae f with ⟨k,f⟩|⟨k,f⟩
       .refine Ay k AA (Ay k AA (BW (v:=Ym Y) (CR AA AA k) rfl (CU Q9 AA) (Ay k AA (zt k AA (AT AA ?_)))));rcases Sh.Ae f with ⟨q,f⟩|⟨q,f⟩
        .refine Ay q AA ?_;iterate 4 refine Ay q rfl ?_
         refine zt q AA (AT AA ?_);rcases Sh.Ae f with ⟨t,f⟩|⟨t,f⟩
         .refine Ay t AA ?_;iterate 4 refine Ay t rfl ?_
          refine zt t AA ?_;exact AB (A (decide (Y.to=b.to)) (AS f) _ (AM [0] AA AA (.w .nil) (.same AA)))
         .refine zs t AA ?_;iterate 4 refine zs t rfl ?_
          refine zf t AA ?_;exact AB (A false (AS f) _ (AM [0] AA AA (.w .nil) (.same AA)))
        .refine zs q AA ?_;iterate 4 refine zs q rfl ?_
         refine zf q AA (AT AA ?_);iterate 5 refine zs rfl rfl ?_
         refine zf AA AA ?_;exact AB (A false (AS f) _ (AM [0] AA AA (.w .nil) (.same AA)))
       .refine zs k AA ?_;iterate 3 refine zs k rfl ?_
        refine zf k AA (AT AA ?_);iterate 5 refine zs rfl rfl ?_
        refine zf AA AA (AT AA ?_);iterate 5 refine zs rfl rfl ?_
        refine zf AA AA ?_;exact AB (A false (AS f) _ (AM [0] AA AA (.w .nil) (.same AA)))
      .exact Au (d2 () (AS a) _ (Be _ AA))
     refine AL (An (σ:=Int) (λn v=>D8 N b p0 n v=some E) (λB=>⟨106,AP [(0,ls Ah p0),(3,i64 p),(4,.ptr 0 0 0 0),(12,ls Ah p0),(13,i64 (Sh.len p0)),(14,i64 p),(54,ls CL b.cons),(55,i64 (Sh.len b.cons)),(56,i64 B)],[⟨0,80,3,[Ah b]⟩]⟩) N 0 a Aq (λ_ C=>by rw[D8]at C;cases C) ?_);rintro n B a;rw[D8]at a;refine Ap AA (AE λg8 b2=>?_);refine ci a AA ?_ ?_<;>intro g9 a
     .refine AH (b2 _ (AE λh4 b3=>AL (sr AA λh5 b5=>bs a λh6 b6 a=>zx JZ b6 AA AA AA (AT AA (DL 1 SB AA (Bx Pw AA (dn b5 AA (AE λd4 b7=>bs a λb8 f a=>?_))))))));have b9:∀H,b8=H->∀s,Wk 0 s ⟨106,AP ((0,D5 p0)::(3,i64 p)::(4,BG)::(12,D5 p0)::VJ p0 p [(54,ls CL b.cons),(55,Ym b),(56,i64 B),(70,.bool H)]),[XM b]⟩->d4 s:=by
       intro H I s x;subst b8;refine b7 _ (AG x ?_);refine ci a AA ?_ ?_<;>intro h7 a
       .refine Ap AA ?_;cases a;cases d;cases h0;exact rd [(2,.bool false)]
       .exact AH (b3 _ (AF AA (Ac 2 AA (AB (xi (Sh.w (B+1)) a Aq)))))
      refine AF AA (Ac 2 AA (CY AA (Ac 2 AA ?_)));rcases Sh.Ae f with ⟨g,f⟩|⟨g,f⟩
      .refine zs g AA ?_;iterate 4 refine zs g rfl ?_
       refine zt g AA ?_;exact AB (b9 true (AS f) _ (AM [0] AA AA (.w .nil) (.same AA)))
      .refine Ay g AA (Ay g AA (Ay g AA (bs f λd5 c0 f=>zd g (hb 79) (LK c0) rfl AA AA AA (Ay g AA (zf g AA ?_)))));exact AB (b9 (!d5) (AS f) _ (AM [0] AA AA (.w .nil) (.same AA)))
     .exact Au (d1 () (AS a) _ Aq)
   refine AF AA (Ac 3 AA (bs a λh8 c1 a=>G5 (hb 111) (Kh c1) rfl (Ac 2 AA ?_)));rcases Sh.Ae a with ⟨h,a⟩|⟨h,a⟩
   .refine zs h AA ?_;iterate 4 refine zs h rfl ?_
    refine zt h AA (AT AA ?_);iterate 4 refine zs rfl rfl ?_
    refine zt AA AA (AT AA ?_);iterate 5 refine zs rfl rfl ?_
    iterate 8 refine zn rfl ?_
    exact zs AA AA (zt AA AA (AB (u true (AS a) _ Aq)))
   .refine Ay h AA (Ay h AA (Ay h AA (bs a λh9 c2 a=>zd h (hb 111) (Kh c2) rfl AA AA AA (Ay h AA (zf h AA (AT AA ?_))))));rcases Sh.Ae a with ⟨l,a⟩|⟨l,a⟩
    .refine zs l AA ?_;iterate 3 refine zs l rfl ?_
     refine zt l AA (AT AA ?_);iterate 5 refine zs rfl rfl ?_
     iterate 8 refine zn rfl ?_
     exact zs AA AA (zt AA AA (AB (u true (AS a) _ Aq)))
    .refine Ay l AA (Ay l AA (BW (v:=Ym b) (CR AA AA l) rfl (CU Q9 AA) (Ay l AA (zf l AA (AT AA ?_)))));rcases Sh.Ae a with ⟨c,a⟩|⟨c,a⟩
     .refine zs c AA ?_;iterate 4 refine zs c rfl ?_
      iterate 8 refine zn rfl ?_
      exact zs c AA (zt c AA (AB (u true (AS a) _ Aq)))
     .refine Ay c AA (Ay c AA (BW (v:=Ym b) (CR AA AA c) rfl (CU Q9 AA) (Ay c AA (Ay c AA ?_))));rcases Sh.Ae a with ⟨e,a⟩|⟨e,a⟩
      .refine Ay e AA ?_;iterate 3 refine Ay e rfl ?_
       rcases Sh.Ae a with ⟨o,a⟩|⟨o,a⟩
       .exact zs o AA (zs o AA (zs o AA (BW (v:=.bool true) (CR AA AA e) rfl (Km AA o AA) (BW (v:=.bool true) (CR AA AA c) rfl (Km AA e AA) (zf c AA (AB (u true (AS a) _ Aq)))))))
       .exact Ay o AA (Ay o AA (Ay o AA (BW (v:=.bool (!decide (b.to=0))) (CR AA AA e) rfl (LR AA o AA) (BW (v:=.bool (!decide (b.to=0))) (CR AA AA c) rfl (Km AA e AA) (zf c AA (AB (u (!decide (b.to=0)) (AS a) _ Aq)))))))
      .refine zs e AA ?_;iterate 3 refine zs e rfl ?_
       iterate 3 refine zn rfl ?_
       exact zs e AA (BW (v:=.bool false) (CR AA AA c) rfl (LR AA e AA) (zf c AA (AB (u false (AS a) _ Aq))))
  .exact Au (M9 () (AS d) _ Aq)
theorem SS {N:Nat}{p0:List AK}{p1:List By}{r:Bool}(h0:JB N p0 p1=some r):Bf 78 [D5 p0,bS p1] [] (.bool r) []:=by
 unfold JB at h0;refine ai Tryz.func78 AA AA AA AA (Ap AA (AE λK2 b3=>AE λK3 b4=>bs h0 λo5 a h0=>?_));have G:∀t4,o5=t4->∀s,Wk 0 s ⟨102,AP [(0,D5 p0),(1,bS p1),(36,.bool t4)],[]⟩->K3 s:=by
  intro t4 hq s u;subst o5;refine b4 _ (AG u ?_);refine ci h0 AA ?_ ?_<;>intro b6 h0
  .refine Ap AA ?_;cases h0;exact rt [(4,.bool false)]
  .refine AH (b3 _ (AE λK8 b5=>sr AA λK9 b7=>AT AA (CY AA (AT AA (dn b7 AA ?_)))));obtain⟨A,a,h0⟩:=Sh.Bj h0;have b8:∀(_:Unit),A=Sum.inr ()->∀s,Wk 0 s ⟨102,AP [],[]⟩->K8 s:=by
    intro _ hq s u;subst A;refine b5 _ (AG u (Ap AA ?_));cases h0;exact rt [(4,.bool true)]
   refine AL (An (σ:=Int) (λn v=>Ec N p0 p1 n v=some A) (λq=>⟨102,AP [(0,ls Ah p0),(37,ls Cv p1),(38,i64 (Sh.len p1)),(39,i64 q)],[]⟩) N 0 a Aq (λ_ H=>by rw[Ec]at H;cases H) ?_);rintro n q a;rw[Ec]at a;refine Ap AA (AE λc5 I=>?_);refine ci a AA ?_ ?_<;>intro c6 a
   .refine AH (I _ (AE λb9 J=>AL (sr AA λc7 K=>bs a λc L a=>zx SH L AA AA AA (AT AA (DL 0 jv AA (Bx oK AA (dn K AA (AE λc8 M=>AE λc0 O=>?_))))))));refine bs a λP b a=>?_;have B:∀C,P=C->∀s,Wk 0 s ⟨102,AP [(0,D5 p0),(6,BG),(37,bS p1),(38,G7 p1),(39,i64 q),(60,.bool C)],[⟨0,95,3,[[ls eI c.params,ls eI c.Gb,i64 c.result]]⟩]⟩->c0 s:=by
     intro C hq s u;subst P;refine O _ (AG u ?_);refine ci a AA ?_ ?_<;>intro c9 a
     .refine Ap AA ?_;cases a;cases h0;exact rd [(4,.bool false)]
     .refine AH (M _ (sr AA λd1 Q=>Ac 2 AA (CY AA (AT AA (dn Q AA ?_)))));obtain⟨D,b,a⟩:=Sh.Bj a;have c1:∀(_:Unit),D=Sum.inr ()->∀s,Wk 0 s ⟨102,AP [(0,D5 p0),(37,bS p1),(38,G7 p1),(39,i64 q)],[]⟩->b9 s:=by
       intro _ hq s u;subst D;exact J _ (AG u (AF AA (Ac 2 AA (AB (xi (Sh.w (q+1)) a Aq)))))
      refine AL (An (σ:=Int) (λn v=>Ea c n v=some D) (λx=>⟨102,AP [(0,ls Ah p0),(6,.ptr 0 0 0 0),(37,ls Cv p1),(38,i64 (Sh.len p1)),(39,i64 q),(62,ls eI c.Gb),(63,i64 (Sh.len c.Gb)),(64,i64 x)],[⟨0,95,3,[[ls eI c.params,ls eI c.Gb,i64 c.result]]⟩]⟩) N 0 b Aq (λ_ H=>by rw[Ea]at H;cases H) ?_);rintro n x b;rw[Ea]at b;refine Ap AA (AE λd2 R=>?_);refine ci b AA ?_ ?_<;>intro d3 b
      .refine AH (R _ (AE λd4 S=>AL (sr AA λd5 T=>AT AA (bs b λU V b=>zx BF V AA AA AA (Ac 3 AA (dn T AA (AE λc2 W=>bs b λX g b=>?_)))))));have t:∀E,X=E->∀s,Wk 0 s ⟨102,AP [(0,D5 p0),(6,BG),(37,bS p1),(38,G7 p1),(39,i64 q),(62,ls eI c.Gb),(63,i64 (Sh.len c.Gb)),(64,i64 x),(99,.bool E)],[⟨0,95,3,[[ls eI c.params,ls eI c.Gb,i64 c.result]]⟩]⟩->c2 s:=by
        intro E hq s u;subst X;refine W _ (AG u ?_);refine ci b AA ?_ ?_<;>intro d6 b
        .refine Ap AA ?_;cases b;cases a;cases h0;exact rd [(4,.bool false)]
        .exact AH (S _ (AF AA (Ac 2 AA (AB (xi (Sh.w (x+1)) b Aq)))))
       refine AF AA (Ac 3 AA ?_);rcases Sh.Ae g with ⟨h,g⟩|⟨h,g⟩
       .refine zs h AA ?_;iterate 4 refine zs h rfl ?_
        refine zt h AA (AT AA ?_);iterate 6 refine zs rfl rfl ?_
        refine zt AA AA (AT AA ?_);iterate 3 refine zs rfl rfl ?_
        iterate 8 refine zn rfl ?_
        exact zs AA AA (zt AA AA (AB (t true (AS g) _ Aq)))
       .refine Ay h AA (Ay h AA (Ay h AA (BW (v:=i64 (Sh.len c.params)) (CR AA AA h) rfl (CU Gd AA) (Ay h AA (zf h AA (AT AA ?_))))));rcases Sh.Ae g with ⟨e,g⟩|⟨e,g⟩
        .refine zs e AA ?_;iterate 5 refine zs e rfl ?_
         refine zt e AA (AT AA ?_);iterate 3 refine zs rfl rfl ?_
         iterate 8 refine zn rfl ?_
         exact zs AA AA (zt AA AA (AB (t true (AS g) _ Aq)))
        .refine Ay e AA (Ay e AA (Ay e AA (bs g λc3 Y g=>BW (v:=UD c3) (CR AA AA e) rfl (CZ BF AA AA Y AA) (Ay e AA (Ay e AA (zf e AA (AT AA ?_)))))));rcases Sh.Ae g with ⟨d,g⟩|⟨d,g⟩
         .refine zs d AA (zs d AA (zs d AA ?_));iterate 8 refine zn rfl ?_
          exact zs d AA (zt d AA (AB (t true (AS g) _ Aq)))
         .refine Ay d AA (Ay d AA (Ay d AA ?_));rcases Sh.Ae g with ⟨i,g⟩|⟨i,g⟩
          .refine Ay i AA ?_;iterate 4 refine Ay i rfl ?_
           exact bs g λF Z g=>BW (v:=UD F) (CR AA AA i) rfl (CZ BF AA AA Z AA) (Ay i AA (Ay i AA (BW (v:=.bool (decide (U<=F))) (CR AA AA d) rfl (Km AA i AA) (zf d AA (AB (t (decide (U<=F)) (AS g) _ Aq))))))
          .refine zs i AA ?_;iterate 7 refine zs i rfl ?_
           exact BW (v:=.bool false) (CR AA AA d) rfl (LR AA i AA) (zf d AA (AB (t false (AS g) _ Aq)))
      .exact Au (c1 () (AS b) _ (Be _ AA))
    refine AF AA (Ac 2 AA (CY AA (Ac 2 AA ?_)));rcases Sh.Ae b with ⟨j,b⟩|⟨j,b⟩
    .refine zs j AA ?_;iterate 4 refine zs j rfl ?_
     refine zt j AA (AT AA ?_);iterate 5 refine zs rfl rfl ?_
     exact zt AA AA (AB (B true (AS b) _ Aq))
    .refine Ay j AA (Ay j AA (Ay j AA (bs b λd7 b0 b=>zd j (hb 79) (LK b0) rfl AA AA AA (Ay j AA (zf j AA (AT AA ?_))))));rcases Sh.Ae b with ⟨k,b⟩|⟨k,b⟩
     .refine zs k AA ?_;iterate 4 refine zs k rfl ?_
      exact zt k AA (AB (B true (AS b) _ Aq))
     .exact Ay k AA (Ay k AA (Ay k AA (bs b λc4 b1 b=>zd k (hb 111) (Kh b1) rfl AA AA AA (Ay k AA (zf k AA (AB (B (!c4) (AS b) _ Aq)))))))
   .exact Au (b8 () (AS a) _ Aq)
 refine AF AA (AT AA (bs a λd8 b2 a=>G5 (hb 110) (Rn b2) rfl (Ac 2 AA ?_)));rcases Sh.Ae a with ⟨l,a⟩|⟨l,a⟩
 .refine zs l AA (zs l AA (zs l AA (zt l AA (AT AA ?_))));iterate 3 refine zs rfl rfl ?_
  refine zt AA AA (AT AA ?_);iterate 6 refine zs rfl rfl ?_
  refine zt AA AA (AT AA ?_);iterate 5 refine zs rfl rfl ?_
  exact zt AA AA (AB (G true (AS a) _ Aq))
 .refine Ay l AA (BW (v:=G7 p1) (CR AA AA l) rfl (CU kP AA) (Ay l AA (zf l AA (AT AA ?_))));rcases Sh.Ae a with ⟨o,a⟩|⟨o,a⟩
  .refine zs o AA (zs o AA (zs o AA (zt o AA (AT AA ?_))));iterate 6 refine zs rfl rfl ?_
   refine zt AA AA (AT AA ?_);iterate 5 refine zs rfl rfl ?_
   exact zt AA AA (AB (G true (AS a) _ Aq))
  .refine Ay o AA (BW (v:=G7 p1) (CR AA AA o) rfl (CU kP AA) (Ay o AA (zf o AA (AT AA ?_))));rcases Sh.Ae a with ⟨f,a⟩|⟨f,a⟩
   .refine zs f AA ?_;iterate 5 refine zs f rfl ?_
    refine zt f AA (AT AA ?_);iterate 5 refine zs rfl rfl ?_
    exact zt AA AA (AB (G true (AS a) _ Aq))
   .refine Ay f AA (bs a λy z a=>BW (v:=.C9 (Cv y) 0) (CR AA AA f) rfl (CZ SH AA AA z AA) (Ay f AA (Ay f AA (BW (v:=i64 (Sh.len y.params)) (CR AA AA f) rfl (CU Gd AA) (Ay f AA (zf f AA (AT AA ?_)))))));rcases Sh.Ae a with ⟨p,a⟩|⟨p,a⟩
    .refine zs p AA ?_;iterate 4 refine zs p rfl ?_
     exact zt p AA (AB (G true (AS a) _ Aq))
    .refine Ay p AA (BW (v:=.C9 (Cv y) 0) (CR AA AA p) rfl (CZ SH AA AA z AA) ?_);iterate 3 refine Ay p rfl ?_
     exact zf p AA (AB (G (!decide (y.result=0)) (AS a) _ Aq))
theorem NK {N:Nat}{p0:AJ}{r:Bool}(h0:Hn N p0=some r):Bf 47 [KT p0] [] (.bool r) []:=by
 unfold Hn at h0;refine ai Tryz.func47 AA AA AA AA (sr AA λO u=>Ee 0 AA (AT AA (dn u AA (sr AA λP x=>iN (c:=4) (m:=1) (st':=[bT p0.decls p0.funcs,ro 0 95 3 Cv ([]:List By)]) SH AA AA AA AA AA (AT AA (dn x AA (AE λQ y=>sr AA λR z=>Ac 2 AA ?_)))))));refine CY AA (AT AA (dn z AA ?_));refine ci h0 AA ?_ ?_<;>intro S h0
 .refine Ap AA ?_;cases h0;exact rd [(2,.bool false)]
 .refine AH (y _ (AE λF A=>sr AA λT B=>Ac 2 AA (CY AA (AT AA (dn B AA (bs h0 λf b h0=>?_))))));have C:∀d,f=d->∀s,Wk 0 s ⟨31,AP [(1,BG),(3,ow 1 0 d)],[bT p0.decls p0.funcs,ro 0 95 3 Cv d]⟩->F s:=by
   intro d U s G;subst f;try dsimp only at h0
   refine A _ (AG G (sr AA λH h=>Ac 3 AA (EU [(28,ls Ah p0.decls),(29,bS d)] [bT p0.decls p0.funcs,⟨1,95,3,[]⟩] 1 AA ⟨.rfl,.BZ AA,oz⟩ (λ_=>AA) rfl (bs h0 λD i h0=>G5 (hb 78) (SS i) rfl (AT AA (dn h AA ?_))))));obtain rfl:=Sh.BU h0;exact rd [(2,.bool D)]
  refine AL (An (σ:=Int×(List By)) (λn v=>D2 p0 n v.1 v.2=some f) (λ(j,e)=>⟨31,AP [(1,.ptr 0 0 0 0),(3,ow 1 0 e),(12,ls BP p0.funcs),(13,i64 (Sh.len p0.funcs)),(14,i64 j)],[bT p0.decls p0.funcs,ro 0 95 3 Cv e]⟩) N (0,[]) b Aq (λ_ E=>by rw[D2]at E;cases E) ?_);rintro n ⟨j,e⟩ b;rw[D2]at b;refine Ap AA (AE λI k=>?_);refine ci b AA ?_ ?_<;>intro J b
  .refine AH (k _ (AE λK o=>AL (sr AA λM p=>bs b λa q b=>zx Ck q AA AA AA (AT AA (DL 2 MQ AA (Bx Ln AA (dn p AA (AF AA (Ac 5 AA ?_)))))))));refine zz (.agg [ls eI a.params,.zc,i64 a.result]) (DK mF mL jv AA AA) rfl (As (Ag (L:=[(1,BG),(12,dY p0),(13,i64 (Sh.len p0.funcs)),(14,i64 j),(18,ow 1 0 e),(23,.agg [ls eI a.params,Rp,i64 a.result])]) ⟨.rfl,.rfl,.rfl,.rfl,.rfl,.agg ⟨.rfl,.zc,.rfl,oz⟩,oz⟩) ?_);refine CC 3 ([By.mk a.params [] a.result]) Cv SH AA ?_;refine bs b λg t b=>Ct (l2:=[By.mk a.params [] a.result]) AN SH AA AA AA AA (HD AA AA) (λ_=>AA) t AA (AT AA (dn o AA (AF AA (Ac 2 AA ?_))));exact AB (xi (Sh.w (j+1),g) b (by refine Wk.trans (Da (L:=[(1,BG),(3,ow 1 0 g),(12,dY p0),(13,i64 (Sh.len p0.funcs)),(14,Kt j)]) (st':=[bT p0.decls p0.funcs,ro 0 95 3 Cv g,⟨0,37,5,[X6 a]⟩,ro 0 95 3 Cv ([By.mk a.params [] a.result])]) (.raw AA AA (.pure Bn (.raw AA AA (.pure Bn .nil)))) (.same AA)) ?_;exact AM [0,1] AA AA (.w (.p .nil)) (.same AA)))
  .exact Au (C e (AS b) _ Aq)
theorem QF {N:Nat}{uJ:Int->AD->Option (Bool×Int)}(wD :∀{tl:Int} {p0:AD} {r:Bool×Int},uJ tl p0=some r->Bf 34 [Bd p0,BG] [Ul tl] (.bool r.1) [Ul r.2]){tl:Int}{p0:AD}{r:Bool×Int}(h0:I1 N uJ tl p0=some r):Bf 34 [Bd p0,BG] [Ul tl] (.bool r.1) [Ul r.2]:=by
 unfold I1 at h0;refine ai Tryz.func34 AA AA AA AA (sr AA λK p=>Ee 1 AA (AT AA (dn p AA (AE λM q=>sr AA λO t=>Ac 5 AA (Bx Hy AA (dn t AA (Ap AA ?_)))))));refine ci h0 AA ?_ ?_<;>intro P h0
 .refine Ap AA ?_;cases h0;exact Am (xr (AM (L:=[(4,.bool false)]) (st':=[⟨0,3,1,[[Kt tl]]⟩]) [0] AA AA (.w .nil) ⟨.rfl,oz⟩))
 .refine AH (q _ (AE λB u=>sr AA λQ x=>Ac 2 AA (CY AA (AT AA (dn x AA ?_)))));obtain⟨e,a,h0⟩:=Sh.Bj h0;have y:∀(f:Int),e=Sum.inr f->∀s,Wk 1 s ⟨28,AP [],[Ul f]⟩->B s:=by
   intro f R s C;subst e;refine u _ (AG C (Ap AA ?_));cases h0;exact rt [(4,.bool true)]
  refine AL (An (σ:=Int×Int) (λn v=>DP p0 uJ n v.1 v.2=some e) (λ(z,c)=>⟨28,AP [(1,.ptr 0 0 0 0),(17,ls Ar p0.kids),(18,i64 (Sh.len p0.kids)),(19,i64 z)],[Ul c]⟩) N (0,Sh.w (tl+1)) a (AM [0] AA AA (.w .nil) (.same AA)) (λ_ A=>by rw[DP]at A;cases A) ?_);rintro n ⟨z,c⟩ a;rw[DP]at a;refine Ap AA (AE λD g=>?_);refine ci a AA ?_ ?_<;>intro E a
  .refine AH (g _ (AE λF h=>AL (sr AA λG i=>bs a λd j a=>zz (EP d) (Cb Ba AA AA j (Af _) rfl) rfl (AT AA (DL 1 Dd AA (Bx BI AA (dn i AA (sr AA λH k=>Ac 2 AA ?_))))))));refine bs a λb l a=>?_;refine Hl [Ul b.2,mP d.op d.num d.kids] (.bool b.1) [0] AN (hb 34) (wD l) rfl AA ?_;refine AT AA (dn k AA ?_);refine ci a AA ?_ ?_<;>intro o a
   .have I:b.1=false:=by simpa using o
    refine Ap AA ?_;cases a;cases h0;exact Am (xr (AM (L:=[(4,.bool false)]) (st':=[Ul b.2]) [0] AA AA (.w .nil) ⟨.rfl,oz⟩))
   .have J:b.1=true:=by simpa using o
    refine AH (h _ (AF AA (Ac 2 AA ?_)));exact AB (xi (Sh.w (z+1),b.2) a (AM [0] AA AA (.w .nil) (.same AA)))
  .exact Au (y c (AS a) _ Aq)
theorem P8 {N:Nat}:∀(n:Nat),∀{tl:Int} {p0:AD} {r:Bool×Int},FD N n tl p0=some r->Bf 34 [Bd p0,BG] [Ul tl] (.bool r.1) [Ul r.2]:=by
 intro n
 induction n with
 |zero=>intro tl p0 r a;cases a
 |succ n ih=>
  intro tl p0 r a;rw[FD]at a;exact QF (λh=>ih h) a
theorem Rs {N:Nat}:∀{tl:Int} {p0:AD} {r:Bool×Int},Lt N tl p0=some r->Bf 34 [Bd p0,BG] [Ul tl] (.bool r.1) [Ul r.2]:=by
 intro tl p0 r a;exact P8 N a
theorem Oy {N:Nat}{p0:AD}{r:Int}(h0:JN N p0=some r):Bf 12 [Bd p0] [] (i64 r) []:=by
 unfold JN at h0;refine ai Tryz.func12 AA AA AA AA (sr AA λh b=>Ee 0 AA (AT AA (dn b AA (sr AA λi c=>DL 1 oC AA (Bx Hy AA (dn c AA (AE λj d=>sr AA λk e=>AT AA ?_)))))));refine bs h0 λa f h0=>?_;refine Hl [mP p0.op p0.num p0.kids,Ul a.2] (.bool a.1) [1] AN (hb 34) (Rs f) rfl AA ?_;refine AT AA (dn e AA ?_);refine ci h0 AA ?_ ?_<;>intro g h0
 .have l:a.1=false:=by simpa using g
  refine Ap AA ?_;cases h0;exact rd [(2,i64 (-1))]
 .have n:a.1=true:=by simpa using g
  refine AH (d _ (Ap AA ?_));cases h0;exact rd [(2,i64 a.2)]
theorem P6 {N:Nat}{p0:AJ}{r:BO}(h0:LU N p0=some r):Bf 80 [KT p0] [] (Ku r) []:=by
 unfold LU at h0;refine Ci AA (ai Tryz.func80 AA AA AA AA (sr AA λI p=>Ee 0 AA (DL 1 il AA (dn p AA (sr AA λJ q=>Ac 2 AA (zz (.agg [ls Ah p0.decls,.zc]) (DK nX oS il AA AA) rfl (DL 2 il AA (Bx ix AA (dn q AA ?_)))))))));refine AE λB t=>sr AA λK u=>Ac 2 AA (CY AA (AT AA (dn u AA (bs h0 λy b h0=>?_))));have C:∀c,y=c->∀s,Wk 0 s ⟨28,AP [(2,BG),(3,CM)],[dg,⟨0,99,2,[[ls Ah p0.decls,ow 2 0 c]]⟩,ro 0 95 3 Cv c]⟩->B s:=by
  intro c M s D;subst y;refine t _ (AG D (sr AA λO z=>AT AA (EU [(2,BG),(27,.agg [ls Ah p0.decls,bS c])] [dg,⟨0,99,2,[[ls Ah p0.decls,ow 2 0 c]]⟩,⟨1,95,3,[]⟩] 2 AA ⟨.rfl,.agg ⟨.rfl,.IF AA,oz⟩,oz⟩ (λ_=>AA) rfl (Bx ix AA (dn z AA ?_)))));cases h0;exact Am ⟨_,Wk.refl _ _,FY (.tmp 2) [ls Ah p0.decls,bS c] ix AA _ AA⟩
 refine AL (An (σ:=Int×(List By)) (λn v=>F5 p0 n v.1 v.2=some y) (λ(e,f)=>⟨28,AP [(2,.ptr 0 0 0 0),(3,.ptr 1 0 0 0),(10,ls BP p0.funcs),(11,i64 (Sh.len p0.funcs)),(12,i64 e)],[dg,⟨0,99,2,[[ls Ah p0.decls,ow 2 0 f]]⟩,ro 0 95 3 Cv f]⟩) N (0,[]) b (by refine Wk.trans (LO (id:=2) (st':=[bT p0.decls p0.funcs,dg,⟨0,99,2,[[ls Ah p0.decls,.own 3 0 (List.length ([]:List By))]]⟩,ro 0 95 3 Cv ([]:List By)]) (j:=1) rfl AA 95 (size':=3) (by decide) rfl AA AA AA) ?_;exact Ef (L:=[(2,.ptr 0 0 0 0),(3,.ptr 1 0 0 0),(10,ls BP p0.funcs),(11,i64 (Sh.len p0.funcs)),(12,i64 0)]) (st':=[dg,⟨0,99,2,[[ls Ah p0.decls,.own 2 0 (List.length ([]:List By))]]⟩,ro 0 95 3 Cv ([]:List By)]) (st1:=[dg,⟨0,99,2,[[ls Ah p0.decls,.own 3 0 (List.length ([]:List By))]]⟩,ro 0 95 3 Cv ([]:List By)]) [1,2,3] AA AA (.w (.w (.p .nil))) (.same AA)) (λ_ A=>by rw[F5]at A;cases A) ?_);rintro n ⟨e,f⟩ b;rw[F5]at b;refine Ap AA (AE λE g=>?_);refine ci b AA ?_ ?_<;>intro F b
 .refine AH (g _ (AE λG h=>AL (sr AA λH i=>bs b λa k b=>zx Ck k AA AA AA (AT AA (DL 3 MQ AA (Bx Ln AA (dn i AA (AF AA (Ac 6 AA ?_)))))))));refine zz (.agg [ls eI a.params,.zc,i64 a.result]) (DK mF mL jv AA AA) rfl (As (Ag (L:=[(2,BG),(3,CM),(10,dY p0),(11,i64 (Sh.len p0.funcs)),(12,i64 e),(17,ow 2 0 f),(22,.agg [ls eI a.params,Rp,i64 a.result])]) ⟨.rfl,.rfl,.rfl,.rfl,.rfl,.rfl,.agg ⟨.rfl,.zc,.rfl,oz⟩,oz⟩) ?_);refine CC 4 ([By.mk a.params [] a.result]) Cv SH AA ?_;refine bs b λd o b=>Ct (l2:=[By.mk a.params [] a.result]) AN SH AA AA AA AA (HD AA AA) (λ_=>AA) o AA (AT AA (Bx nV AA (dn h AA (AF AA (Ac 2 AA ?_)))));exact AB (xi (Sh.w (e+1),d) b (by refine Wk.trans (Da (L:=[(2,BG),(3,CM),(10,dY p0),(11,i64 (Sh.len p0.funcs)),(12,Kt e)]) (st':=[dg,⟨0,99,2,[[ls Ah p0.decls,ow 2 0 d]]⟩,ro 0 95 3 Cv d,⟨0,37,5,[X6 a]⟩,ro 0 95 3 Cv ([By.mk a.params [] a.result])]) (.raw AA AA (.raw AA AA (.pure Bn (.raw AA AA (.pure Bn .nil))))) (.same AA)) ?_;exact AM [0,1,2] AA AA (.w (.w (.p .nil))) (.same AA)))
 .exact Au (C f (AS b) _ Aq)
theorem Cr {p0 r:List Int}(h0:CN p0=some r):Bf 82 [ls eI p0] [] (ow 0 0 r) [BY r]:=by
 unfold CN at h0;refine ai Tryz.func82 AA AA AA AA (Ap AA (AE λh c=>sr AA λi a=>AT AA ?_));refine Wo AN Gd AA (λg=>?_) ?_
 .subst g;replace h0:some []=some r:=by rw[<- h0];first|rfl|simp[Sh.app]
  refine dn a AA (G0 (b:=true) rfl (λ_=>Ap AA ?_) (λq=>nomatch (show true=false from (AA:true=true).symm.trans q)));cases h0;exact Am (Exists.intro _ (And.intro (((HU (t:=2) rfl 3 (size:=1) (by decide)).trans (Ag (L:=[(2,Y3)]) (.same AA))).trans (Ag (L:=[(2,Y3)]) (.same AA))) (And.intro AA AA)))
 .refine dn a AA (G0 (b:=false) rfl (λq=>nomatch (show false=true from (AA:false=false).symm.trans q)) (λ_=>AH (c _ (sr AA λj d=>?_))));refine CC 0 ([]:List Int) eI BF AA ?_;refine AT AA (bs h0 λf e h0=>Ct (l2:=p0) AN BF AA AA AA AA Mk (λ_=>AA) e AA (AT AA (dn d AA ?_)));obtain rfl:=Sh.BU h0;exact Am (xr (Da (L:=[(2,ow 0 0 f)]) (st':=[BY f]) (.pure Bn .nil) (.same AA)))
theorem Ol {p1:Int}{r:List Int}(h0:Gy p1=some r):Bf 137 [.zc,i64 p1] [] (ow 0 0 r) [BY r]:=by
 unfold Gy at h0;refine ai Tryz.func137 AA AA AA AA (Ap AA (AE λp f=>Ap AA ?_));refine ci h0 AA ?_ ?_<;>intro q h0
 .refine AF AA ?_;cases h0
 .refine AH (f _ (AE λn g=>bs h0 λk a h0=>?_));have l:∀c,k=c->∀s,Wk 0 s ⟨27,AP [(0,ow 0 0 c)],[BY c]⟩->n s:=by
   intro c w s o;subst k;try dsimp only at h0
   refine g _ (AG o (Ap AA ?_));obtain rfl:=Sh.BU h0;exact rt [(4,ow 0 0 c)]
  refine sr AA λx h=>Ac 2 AA (bw Gd AA (AT AA (zz (i64 0) (cE Gd AA) rfl (Ac 3 AA (dn h AA (Ap AA ?_))))));refine ci a AA ?_ ?_<;>intro i a
  .refine AF AA (Ac 2 AA (bw Gd AA (lW BF AA AA (AT AA (bs a λj d a=>jh (u:=0) (enc:=eI) (m:=0) (st':=[BY j]) BF oY AA AA i AA d AA AA (AT AA (zz (i64 0) (cE Gd AA) rfl (bs a λb e a=>fV AN BF AA AA AA AA e AA (AT AA ?_)))))))));exact AB (l b (AS a) _ (Da (L:=[(0,ow 0 0 b)]) (st':=[BY b]) (.pure Bn .nil) (.same AA)))
  .exact AH (l [] (AS a) _ ((HU (t:=0) rfl 3 (size:=1) (by decide)).trans (Ag (L:=[(0,Y3)]) (.same AA))))
theorem Gg {N:Nat}{p0:List (List Int)}{r:List Int}(h0:GX N p0=some r):Bf 130 [kM p0] [] (ow 0 0 r) [BY r]:=by
 unfold GX at h0;refine ai Tryz.func130 AA AA AA AA ?_;iterate 2 refine Ap rfl ?_
 refine AE λO C=>sr AA λK4 D=>AT AA (CY AA (AT AA (dn D AA (bs h0 λE a h0=>?_))));have P:∀c,E=c->∀s,Wk 0 s ⟨36,AP [(0,kM p0),(3,i64 c)],[]⟩->O s:=by
  intro c Q s F;subst E;refine C _ (AG F (sr AA λK9 G=>AT AA (bs h0 λi j h0=>Bo (v':=ow 0 0 i) AN (hb 137) (Ol j) rfl AA ⟨(Bq λ_=>AA),oz⟩ AA AA (AT AA (dn G AA (AE λH k=>sr AA λR l=>AT AA (CY AA (AT AA ?_))))))));refine dn l AA (bs h0 λg a h0=>?_);have I:∀d,g=d->∀s,Wk 0 s ⟨36,AP [(6,ow 0 0 d)],[BY d]⟩->H s:=by
   intro d Q s F;subst g;try dsimp only at h0
   refine k _ (AG F (Ap AA ?_));obtain rfl:=Sh.BU h0;exact rt [(2,ow 0 0 d)]
  refine AL (An (σ:=Int×(List Int)) (λn v=>Cg p0 n v.1 v.2=some g) (λ(e,f)=>⟨36,AP [(6,ow 0 0 f),(25,ls (eS eI) p0),(26,i64 (Sh.len p0)),(27,i64 e)],[ro 0 3 1 eI f]⟩) N (0,i) a Aq (λ_ m=>by rw[Cg]at m;cases m) ?_);rintro n ⟨e,f⟩ a;rw[Cg]at a;refine Ap AA (AE λS o=>?_);refine ci a AA ?_ ?_<;>intro T a
  .refine AH (o _ (AE λU p=>AL (sr AA λV q=>bs a λJ t a=>zx OL t AA AA AA (Ac 2 AA (dn q AA (AF AA (Ac 2 AA (bs a λh u a=>Ct (l2:=J) AN BF AA AA AA AA Mk (λ_=>AA) u AA ?_))))))));exact AT AA (dn p AA (AF AA (Ac 2 AA (AB (xi (Sh.w (e+1),h) a (Da (L:=[(6,ow 0 0 h),(25,kM p0),(26,G7 p0),(27,Kt e)]) (st':=[BY h]) (.pure Bn .nil) (.same AA)))))))
  .exact Au (I f (AS a) _ Aq)
 refine AL (An (σ:=Int×Int) (λn v=>Cf p0 n v.1 v.2=some E) (λ(b,K)=>⟨36,AP [(0,ls (eS eI) p0),(3,i64 b),(9,ls (eS eI) p0),(10,i64 (Sh.len p0)),(11,i64 K)],[]⟩) N (0,0) a Aq (λ_ m=>by rw[Cf]at m;cases m) ?_);rintro n ⟨b,K⟩ a;rw[Cf]at a;refine Ap AA (AE λW x=>?_);refine ci a AA ?_ ?_<;>intro X a
 .refine AH (x _ (AE λY y=>AL (sr AA λZ z=>bs a λM A a=>zx OL A AA AA AA (Ac 2 AA (dn z AA (sr AA λb0 B=>Ac 2 AA (CY AA (Ac 2 AA ?_))))))));refine dn B AA (Ap AA ?_);refine ci a AA ?_ ?_<;>intro b1 a
  .refine AF AA ?_;cases a
  .exact AH (y _ (AF AA (Ac 2 AA (AB (xi (Sh.w (b+Sh.len M),Sh.w (K+1)) a Aq)))))
 .exact Au (P b (AS a) _ Aq)
theorem JW {N:Nat}{tq:(List Int)->BO->AD->Option (Int)}(tx :∀{s0:List Int} {p0:BO} {p2:AD} {r:Int},tq s0 p0 p2=some r->Bf 81 [Ku p0,ow 0 0 s0,Bd p2] [BY s0] (i64 r) [BY s0]){p0:BO}{p1:List Int}{p2:List AD}{p3:List (List Int)}{r:Int}(h0:Ei N tq p0 p1 p2 p3=some r):Bf 112 [Ku p0,ls eI p1,Ha p2,kM p3] [] (i64 r) []:=by
 unfold Ei at h0;refine ai Tryz.func112 AA AA AA AA (sr AA λK1 Q=>Ee 0 AA (AT AA (dn Q AA (Ap AA (AE λX R=>sr AA λK4 S=>AT AA (CY AA (AT AA (dn S AA ?_))))))));obtain⟨T,o,h0⟩:=Sh.Bj h0;have Y:∀(wG:Int),T=Sum.inr wG->∀s,Wk 0 s ⟨44,AP [(9,i64 wG)],[]⟩->X s:=by
  intro wG hq s U;subst T;try dsimp only at h0
  refine R _ (AG U (Ap AA ?_));obtain rfl:=Sh.BU h0;exact rt [(8,i64 wG)]
 refine AL (An (σ:=Int×Int) (λn v=>Bh N p0 p1 p2 p3 tq n v.1 v.2=some T) (λ(uZ,e)=>⟨44,AP [(1,ls eI p1),(3,ls (eS eI) p3),(4,.ptr 0 0 0 0),(9,i64 uZ),(13,ls Ar p2),(14,i64 (Sh.len p2)),(15,i64 e)],[⟨0,99,2,[Gx p0]⟩]⟩) N (-1,0) o Aq (λ_ W=>by rw[Bh]at W;cases W) ?_);rintro n ⟨uZ,e⟩ o;rw[Bh]at o;refine Ap AA (AE λZ E=>?_);refine ci o AA ?_ ?_<;>intro b0 o
 .refine AH (E _ (AE λb1 F=>AL (sr AA λb2 G=>AT AA (bs o λf H o=>zz (EP f) (Cb Ba AA AA H (Af _) rfl) rfl (AT AA (DL 1 Dd AA (AT AA (Bx BI AA (dn G AA ?_)))))))));refine AE λb3 I=>?_;refine Hw (by kernel_rfl) ?_;refine bs o λc J o=>bs o λp A o=>bs o λy K o=>LB λA20 a=>?_;have j:A20 0 (bm 11 2047) ⟨44,AP (Rt p1 p3 ((9,i64 uZ)::(10,i64 e)::(12,i64 y)::Ri p2 e [])),[Mb p0]⟩:=(a _ _ _).2 (by
   refine Gi AA (by kernel_rfl) ?_;refine I _ (AE λb4 M=>AE λV O=>bs o λP B o=>?_);have C:∀D,P=D->∀s,Wk 0 s ⟨44,AP (Rt p1 p3 ((12,i64 y)::Ri p2 e [(40,.bool D)])),[Mb p0]⟩->V s:=by
    intro D hq s U;subst P;refine O _ (AG U ?_);refine ci o AA ?_ ?_<;>intro b5 o
    .refine Ap AA ?_;cases o;cases h0;exact rd [(8,i64 (-1))]
    .exact AH (M _ (AF AA (Ac 2 AA (dn F AA (AF AA (Ac 2 AA (AB (xi (y,Sh.w (e+1)) o Aq))))))))
   refine AF AA (Ac 3 AA ?_);rcases Sh.Ae B with ⟨k,B⟩|⟨k,B⟩
   .refine zs k AA (zs k AA (zs k AA ?_));iterate 3 refine zn rfl ?_
    exact zs k AA (zt k AA (AB (C true (AS B) _ Aq)))
   .refine Ay k AA (Ay k AA (Ay k AA ?_));rcases Sh.Ae B with ⟨q,B⟩|⟨q,B⟩
    .exact Ay q AA (Ay q AA (Ay q AA (BW (v:=.bool (!decide (y=uZ))) (CR AA AA k) rfl (Km AA q AA) (zf k AA (AB (C (!decide (y=uZ)) (AS B) _ Aq))))))
    .exact zs q AA (zs q AA (zs q AA (BW (v:=.bool false) (CR AA AA k) rfl (LR AA q AA) (zf k AA (AB (C false (AS B) _ (Ag (L:=Rt p1 p3 ((12,i64 y)::Ri p2 e [(40,.bool false)])) (.same AA)))))))))
  have b:A20 2 (bm 11 511) ⟨44,AP (Rt p1 p3 ((9,i64 uZ)::(10,i64 e)::Ri p2 e [(20,Ku p0),(27,ow 1 0 p),(28,Bd f)])),[Mb p0,BY p]⟩:=(a _ _ _).2 (by
   refine xa [9] ⟨?_,oz⟩
   .refine xo 9 ?_;refine QK (rows0:=[BY p]) (rows1:=[BY p]) (st':=[Mb p0,BY p]) (v':=i64 y) [1] AN (hb 81) (tx K) rfl (by decide) rfl AA (.pure Bn .nil) rfl AA (.pure Bn .nil) .nil AA AA ?_;refine AB ⟨AA,?_⟩;refine Fb tb 10 AA AA ?_;exact xw a j (by exact AM [0] AA AA (.w .nil) (.same AA)))
  have d:A20 3 (bm 11 383) ⟨44,AP (Rt p1 p3 ((9,i64 uZ)::(10,i64 e)::Ri p2 e [(20,Ku p0),(26,ow 1 0 [p1,c]),(28,Bd f)])),[Mb p0,ro 0 32 1 (eS eI) [p1,c]]⟩:=(a _ _ _).2 (by
   refine xa [7] ⟨?_,oz⟩
   .refine xo 7 ?_;exact EU (Rt p1 p3 ((9,i64 uZ)::(10,i64 e)::Ri p2 e [(20,Ku p0),(26,ls (eS eI) [p1,c]),(28,Bd f)])) [Mb p0,⟨1,32,1,[]⟩] 1 AA ⟨.rfl,.rfl,.rfl,.rfl,.rfl,.rfl,.rfl,.rfl,.rfl,.BZ AA,.rfl,oz⟩ (λ_=>AA) rfl (Bo (v':=ow 2 0 p) AN (hb 130) (Gg A) rfl AA ⟨(Bq λ_=>AA),oz⟩ AA AA (QG a b (by exact AM [0,2] AA AA (.w (.p .nil)) (.same AA)))))
  have g:A20 4 (bm 11 127) ⟨44,AP (Rt p1 p3 ((9,i64 uZ)::(10,i64 e)::(11,CM)::Ri p2 e [(20,Ku p0),(26,ow 2 0 [p1,c])])),iH p0 f [ro 0 32 1 (eS eI) [p1,c]]⟩:=(a _ _ _).2 (by
   refine xa [7,8] ⟨?_,?_,oz⟩
   .refine xo 7 ?_;refine EU (Rt p1 p3 ((9,i64 uZ)::(10,i64 e)::(11,CM)::Ri p2 e [(20,Ku p0),(26,ls (eS eI) [p1,c])])) (iH p0 f [⟨1,32,1,[]⟩]) 2 AA ⟨.rfl,.rfl,.rfl,.rfl,.rfl,.rfl,.rfl,.rfl,.rfl,.rfl,.BZ AA,oz⟩ (λ_=>AA) rfl (Bo (v':=ow 3 0 p) AN (hb 130) (Gg A) rfl AA ⟨(Bq λ_=>AA),oz⟩ AA AA (AB ⟨AA,?_⟩));refine Fb tb 8 AA AA ?_;exact xw a b (by exact AM [0,3] AA AA (.w (.p .nil)) (.same AA))
   .refine xo 8 ?_;exact AT AA (QG a d (by exact AM [0,2] AA AA (.w (.p .nil)) (.same AA))))
  have h:A20 4 (bm 11 319) ⟨44,AP (Rt p1 p3 ((9,i64 uZ)::(10,i64 e)::Ri p2 e [(20,Ku p0),(21,ls eI p1),(25,ls eI c),(28,Bd f)])),[Mb p0]⟩:=(a _ _ _).2 (by
   refine xa [6] ⟨?_,oz⟩
   .refine xo 6 ?_;refine CC 1 [p1,c] (eS eI) OL AA ?_;exact xd a d)
  have t:A20 5 (bm 11 63) ⟨44,AP (Rt p1 p3 ((9,i64 uZ)::(10,i64 e)::(11,CM)::Ri p2 e [(20,Ku p0),(21,ls eI p1),(25,ls eI c)])),iH p0 f []⟩:=(a _ _ _).2 (by
   refine xa [6,8] ⟨?_,?_,oz⟩
   .refine xo 6 ?_;refine CC 2 [p1,c] (eS eI) OL AA ?_;exact xd a g
   .refine xo 8 ?_;exact AT AA (QG a h (by exact AM [0] AA AA (.w .nil) (.same AA))))
  have i:A20 4 (bm 11 382) ⟨44,AP (Rt p1 p3 ((9,i64 uZ)::(10,i64 e)::Ri p2 e [(26,ow 1 0 [p1,c]),(28,Bd f)])),[Mb p0,ro 0 32 1 (eS eI) [p1,c]]⟩:=(a _ _ _).2 (by
   refine xa [0,7] ⟨?_,?_,oz⟩
   .exact xq tb a d
   .refine xo 7 ?_;refine EU (Rt p1 p3 ((9,i64 uZ)::(10,i64 e)::Ri p2 e [(26,ls (eS eI) [p1,c]),(28,Bd f)])) [Mb p0,⟨1,32,1,[]⟩] 1 AA ⟨.rfl,.rfl,.rfl,.rfl,.rfl,.rfl,.rfl,.rfl,.BZ AA,.rfl,oz⟩ (λ_=>AA) rfl (Bo (v':=ow 2 0 p) AN (hb 130) (Gg A) rfl AA ⟨(Bq λ_=>AA),oz⟩ AA AA (AB ⟨AA,?_⟩));refine Fb tb 0 AA AA ?_;exact xw a b (by exact AM [0,2] AA AA (.w (.p .nil)) (.same AA)))
  have u:A20 5 (bm 11 126) ⟨44,AP (Rt p1 p3 ((9,i64 uZ)::(10,i64 e)::(11,CM)::Ri p2 e [(26,ow 2 0 [p1,c])])),iH p0 f [ro 0 32 1 (eS eI) [p1,c]]⟩:=(a _ _ _).2 (by
   refine xa [0,7,8] ⟨?_,?_,?_,oz⟩
   .exact xq tb a g
   .refine xo 7 ?_;refine EU (Rt p1 p3 ((9,i64 uZ)::(10,i64 e)::(11,CM)::Ri p2 e [(26,ls (eS eI) [p1,c])])) (iH p0 f [⟨1,32,1,[]⟩]) 2 AA ⟨.rfl,.rfl,.rfl,.rfl,.rfl,.rfl,.rfl,.rfl,.rfl,.BZ AA,oz⟩ (λ_=>AA) rfl (Bo (v':=ow 3 0 p) AN (hb 130) (Gg A) rfl AA ⟨(Bq λ_=>AA),oz⟩ AA AA (AB ⟨AA,?_⟩));refine Fb tb 0 AA AA ?_;refine Fb tb 8 AA AA ?_;exact xw a b (by exact AM [0,3] AA AA (.w (.p .nil)) (.same AA))
   .refine xo 8 ?_;exact AT AA (QG a i (by exact AM [0,2] AA AA (.w (.p .nil)) (.same AA))))
  have x:A20 5 (bm 11 318) ⟨44,AP (Rt p1 p3 ((9,i64 uZ)::(10,i64 e)::Ri p2 e [(21,ls eI p1),(25,ls eI c),(28,Bd f)])),[Mb p0]⟩:=(a _ _ _).2 (by
   refine xa [0,6] ⟨?_,?_,oz⟩
   .exact xq tb a h
   .refine xo 6 ?_;refine CC 1 [p1,c] (eS eI) OL AA ?_;exact xd a i)
  have z:A20 6 (bm 11 62) ⟨44,AP (Rt p1 p3 ((9,i64 uZ)::(10,i64 e)::(11,CM)::Ri p2 e [(21,ls eI p1),(25,ls eI c)])),iH p0 f []⟩:=(a _ _ _).2 (by
   refine xa [0,6,8] ⟨?_,?_,?_,oz⟩
   .exact xq tb a t
   .refine xo 6 ?_;refine CC 2 [p1,c] (eS eI) OL AA ?_;exact xd a u
   .refine xo 8 ?_;exact AT AA (QG a x (by exact AM [0] AA AA (.w .nil) (.same AA))))
  refine (a _ _ _).2 ?_;refine Fb tb 1 AA AA ?_;refine Fb tb 2 AA AA ?_;refine Fb tb 3 AA AA ?_;refine Ik 4 (v:=.C9 ((eS eI) c) 0) rfl (by kernel_rfl) (by kernel_rfl) (CZ OL AA AA J AA) ?_;refine Fb tb 5 AA AA ?_;exact xt a z
 .exact Au (Y uZ (AS o) _ (Be _ AA))
theorem Tg {N:Nat}{p0:List AK}{r:Int}(h0:J0 N p0=some r):Bf 103 [D5 p0] [] (i64 r) []:=by
 unfold J0 at h0;refine ai Tryz.func103 AA AA AA AA ?_;iterate 2 refine Ap rfl ?_
 refine AE λl f=>sr AA λy g=>AT AA (CY AA (AT AA (dn g AA (bs h0 λh a h0=>?_))));have o:∀n7,h=n7->∀s,Wk 0 s ⟨19,AP [(3,i64 n7)],[]⟩->l s:=by
  intro n7 z s p;subst h;try dsimp only at h0
  refine f _ (AG p (Ap AA ?_));obtain rfl:=Sh.BU h0;exact rt [(2,i64 n7)]
 refine AL (An (σ:=Int×Int) (λn v=>E2 p0 n v.1 v.2=some h) (λ(n5,i)=>⟨19,AP [(3,i64 n5),(6,ls Ah p0),(7,i64 (Sh.len p0)),(8,i64 i)],[]⟩) N (0,0) a Aq (λ_ k=>by rw[E2]at k;cases k) ?_);rintro n ⟨n5,i⟩ a;rw[E2]at a;refine Ap AA (AE λq b=>?_);refine ci a AA ?_ ?_<;>intro t a
 .refine AH (b _ (AE λu c=>AL (sr AA λx d=>bs a λj e a=>zx DI e AA AA AA (AT AA (DL 0 HV AA (Bx KP AA (dn d AA (AF AA (Ac 3 AA ?_)))))))));exact CY AA (Ac 2 AA (dn c AA (AF AA (Ac 2 AA (AB (xi (Sh.w (n5+Sh.len j.cons),Sh.w (i+1)) a (Be _ AA)))))))
 .exact Au (o n5 (AS a) _ Aq)
theorem Pq {N:Nat}{p0:List AK}{p1:Int}{r:List Int}(h0:Iw N p0 p1=some r):Bf 66 [D5 p0,i64 p1] [] (ow 0 0 r) [BY r]:=by
 unfold Iw at h0;refine ai Tryz.func66 AA AA AA AA (Ap AA (AE λT A=>AE λM B=>bs h0 λI b h0=>?_));have J:∀C,I=C->∀s,Wk 0 s ⟨39,AP [(0,D5 p0),(1,i64 p1),(15,.bool C)],[]⟩->M s:=by
  intro C O s D;subst I;refine B _ (AG D ?_);refine ci h0 AA ?_ ?_<;>intro U h0
  .refine Ap AA ?_;cases h0;exact Am ⟨_,(((HU (t:=4) rfl 3 (size:=1) (by decide)).trans (Ag (L:=[(4,Y3)]) (.same AA))).trans (Ag (L:=[(4,Y3)]) (.same AA))),And.intro AA AA⟩
  .refine AH (A _ (sr AA λV E=>Ac 3 AA (bs h0 λW F h0=>TZ (i:=0) (j:=Sh.w (p1-1)) AN DI AA AA AA (λ_=>AA) F (bs h0 λc o h0=>G5 (hb 103) (Tg o) rfl (AT AA (dn E AA (Ap AA (AE λG p=>sr AA λP q=>?_))))))));refine Ac 3 AA (bs h0 λf u h0=>zx DI u AA AA AA (Ac 2 AA (CY AA (AT AA (dn q AA (bs h0 λh b h0=>?_))))));have H:∀e,h=e->∀s,Wk 0 s ⟨39,AP [(6,ow 0 0 e)],[BY e]⟩->G s:=by
    intro e O s D;subst h;try dsimp only at h0
    refine p _ (AG D (Ap AA ?_));obtain rfl:=Sh.BU h0;exact rt [(4,ow 0 0 e)]
   refine AL (An (σ:=Int×(List Int)) (λn v=>Fy f c n v.1 v.2=some h) (λ(d,g)=>⟨39,AP [(5,i64 c),(6,ow 0 0 g),(27,i64 (Sh.len f.cons)),(28,i64 d)],[ro 0 3 1 eI g]⟩) N (0,[]) b ((HU (t:=6) rfl 3 (size:=1) (by decide)).trans (Ag (L:=[(5,i64 c),(6,.own 0 0 (List.length ([]:List Int))),(27,i64 (Sh.len f.cons)),(28,i64 0)]) (.same AA))) (λ_ K=>by rw[Fy]at K;cases K) ?_);rintro n ⟨d,g⟩ b;rw[Fy]at b;refine Ap AA (AE λQ x=>?_);refine ci b AA ?_ ?_<;>intro R b
   .refine AH (x _ (AE λS y=>AL (Ap AA (AF AA (Ac 4 AA ?_)))));refine CC 1 [Sh.w (c+d)] eI BF AA ?_;refine bs b λk z b=>Ct (l2:=[Sh.w (c+d)]) AN BF AA AA AA AA (HD AA AA) (λ_=>AA) z AA (AT AA (dn y AA (AF AA (Ac 2 AA ?_))));exact AB (xi (Sh.w (d+1),k) b (by refine Wk.trans (Da (L:=[(5,i64 c),(6,ow 0 0 k),(27,Ym f),(28,Kt d)]) (st':=[BY k,ro 0 3 1 eI [Sh.w (c+d)]]) (.pure Bn (.pure Bn .nil)) (.same AA)) ?_;exact AM [0] AA AA (.p .nil) (.same AA)))
   .exact Au (H g (AS b) _ Aq)
 refine AF AA (Ac 3 AA ?_);rcases Sh.Ae b with ⟨a,b⟩|⟨a,b⟩
 .refine zs a AA ?_;iterate 3 refine zs a rfl ?_
  exact zt a AA (AB (J true (AS b) _ Aq))
 .exact Ay a AA (Ay a AA (BW (v:=G7 p0) (CR AA AA a) rfl (CU TM AA) (Ay a AA (zf a AA (AB (J (decide ((Sh.len p0)<p1)) (AS b) _ Aq))))))
theorem RB {N:Nat}{p0:List AK}{p1:Int}{r:Int×D7}(h0:Ir N p0 p1=some r):Bf 126 [D5 p0,i64 p1] [] (.C8 [i64 r.1,KN r.2]) []:=by
 unfold Ir at h0;refine Ci AA (ai Tryz.func126 AA AA AA AA (sr AA λS y=>AT AA (DL 0 SB AA (dn y AA (AE λH z=>sr AA λT A=>AT AA (CY AA (AT AA (dn A AA ?_))))))));obtain⟨B,b,h0⟩:=Sh.Bj h0;have I:∀(_:Unit),B=Sum.inr ()->∀s,Wk 0 s ⟨38,AP [(5,BG)],[⟨0,82,1,[[.zc]]⟩]⟩->H s:=by
  intro _ J s C;subst B;refine z _ (AG C (sr AA λU D=>zz (.agg [.zc]) (DK kU kT SB AA AA) rfl (AT AA (Bx Pw AA (dn D AA ?_)))));cases h0;exact Am ⟨_,(HN (id:=0) (cs:=[.zc]) (cs':=[Rp]) (st':=[⟨0,82,1,[[Rp]]⟩]) rfl ⟨le.zc,oz⟩ AA AA).trans (Ag (L:=[(4,i64 (-1)),(5,BG)]) (.same AA)),FY (.tmp 5) [Rp] Pw AA _ AA⟩
 refine AL (An (σ:=Int×Int) (λn v=>Fo p0 n v.1 v.2=some B) (λ(g,d)=>⟨38,AP [(1,i64 g),(5,.ptr 0 0 0 0),(8,ls Ah p0),(9,i64 (Sh.len p0)),(10,i64 d)],[⟨0,82,1,[[.zc]]⟩]⟩) N (p1,0) b Aq (λ_ G=>by rw[Fo]at G;cases G) ?_);rintro n ⟨g,d⟩ b;rw[Fo]at b;refine Ap AA (AE λV E=>?_);refine ci b AA ?_ ?_<;>intro K b
 .refine AH (E _ (AE λM h=>AL (sr AA λO i=>AT AA (bs b λc j b=>zx DI j AA AA AA (AT AA (DL 1 HV AA (AT AA (Bx KP AA (dn i AA ?_)))))))));refine AE λP k=>AE λF l=>bs b λo p b=>?_;have q:∀e,o=e->∀s,Wk 0 s ⟨38,AP [(1,i64 g),(5,BG),(6,i64 d),(7,CM),(8,D5 p0),(9,G7 p0),(10,i64 d),(23,.bool e)],[⟨0,82,1,[[.zc]]⟩,XM c]⟩->F s:=by
   intro e J s C;subst o;refine l _ (AG C ?_);refine ci b AA ?_ ?_<;>intro Q b
   .refine AE λR t=>?_;refine CG 8 (by kernel_rfl) (by kernel_rfl) (by rfl) ?_;iterate 5 refine yq tb rfl ?_
    refine bs b λf u b=>yx JZ u AA AA AA ?_;iterate 2 refine yq tb rfl ?_
    refine Av (Bx Pw AA (dn t AA ?_));cases b;cases h0;exact Am ⟨_,(AM (L:=[(4,Kt d),(5,BG)]) (st':=[⟨0,82,1,[CL f]⟩]) [0] AA AA (.w .nil) ⟨.rfl,.rfl,oz⟩).trans (Ag (L:=[(4,Kt d),(5,BG)]) ⟨.rfl,.rfl,oz⟩),FY (.tmp 5) (CL f) Pw AA _ AA⟩
   .refine AH (k _ (AF AA (Ac 3 AA (CY AA (Ac 2 AA (dn h AA (AF AA (Ac 2 AA ?_))))))));exact AB (xi (Sh.w (g-(Sh.len c.cons)),Sh.w (d+1)) b (AM [0] AA AA (.w .nil) (.same AA)))
  refine AF AA (Ac 3 AA ?_);rcases Sh.Ae p with ⟨a,p⟩|⟨a,p⟩
  .exact Ay a AA (Ay a AA (Ay a AA (BW (v:=Ym c) (CR AA AA a) rfl (CU Q9 AA) (Ay a AA (zt a AA (AB (q (decide (g<Sh.len c.cons)) (AS p) _ Aq)))))))
  .refine zs a AA ?_;iterate 4 refine zs a rfl ?_
   exact zf a AA (AB (q false (AS p) _ Aq))
 .exact Au (I () (AS b) _ Aq)
theorem N2 {N:Nat}{p0:List AK}{p1:Int}{r:List Int}(h0:Eg N p0 p1=some r):Bf 92 [D5 p0,i64 p1] [] (ls eI r) []:=by
 unfold Eg at h0;refine ai Tryz.func92 AA AA AA AA (Ap AA (sr AA λd a=>Ac 2 AA (bs h0 λb c h0=>D0 (.C8 [i64 b.1,KN b.2]) (hb 126) (RB c) rfl (Ac 3 AA (DL 0 SB AA (AT AA (Bx Pw AA (dn a AA (Ap AA ?_)))))))));cases h0;exact rd [(4,ls eI b.2.fields)]
theorem Ob {p0:List AK}{p1:Int}{r:AK×Bool}(h0:Kc p0 p1=some r):Bf 131 [D5 p0,i64 p1] [] (Yc r.1 r.2) []:=by
 unfold Kc at h0;refine Ci AA (ai Tryz.func131 AA AA AA AA (sr AA λu f=>DL 0 HV AA (AT AA (dn f AA (AE λw g=>AE λq h=>bs h0 λo c h0=>?_)))));have i:∀j,o=j->∀s,Wk 0 s ⟨30,AP [(0,D5 p0),(1,i64 p1),(4,BG),(23,.bool j)],[iF]⟩->q s:=by
  intro j y s t;subst o;refine h _ (AG t ?_);refine ci h0 AA ?_ ?_<;>intro z h0
  .refine sr AA λA k=>zz (.agg gw) (DK Mj Ml HV AA AA) rfl (Bx KP AA (AT AA (dn k AA ?_)));cases h0;exact Am ⟨_,(HN (id:=0) (cs:=gw) (cs':=iZ) (st':=[⟨0,80,3,[iZ]⟩]) rfl ⟨le.rfl,le.rfl,le.zc,oz⟩ AA AA).trans (Ag (L:=eZ []) (.same AA)),FY (.tmp 4) iZ KP AA _ AA⟩
  .refine AH (g _ (sr AA λB l=>Ac 3 AA (bs h0 λp n h0=>zx DI n AA AA AA (AT AA (Bx KP AA (AT AA (dn l AA ?_)))))));cases h0;exact Am ⟨_,Ag (L:=[(4,BG),(5,.bool true)]) (.same AA),FY (.tmp 4) (Ah p) KP AA _ AA⟩
 refine AF AA (Ac 3 AA ?_);rcases Sh.Ae c with ⟨b,c⟩|⟨b,c⟩
 .refine zs b AA ?_;iterate 3 refine zs b rfl ?_
  refine zt b AA (AT AA ?_);iterate 8 refine zs rfl rfl ?_
  exact zt AA AA (AB (i true (AS c) _ Aq))
 .refine Ay b AA (Ay b AA (BW (v:=G7 p0) (CR AA AA b) rfl (CU TM AA) (Ay b AA (zf b AA (AT AA ?_)))));rcases Sh.Ae c with ⟨a,c⟩|⟨a,c⟩
  .refine zs a AA ?_;iterate 7 refine zs a rfl ?_
   exact zt a AA (AB (i true (AS c) _ Aq))
  .exact Ay a AA (Ay a AA (Ay a AA (bs c λd e c=>BW (v:=TG d) (CR AA AA a) rfl (CZ DI AA AA e AA) (Ay a AA (Ay a AA (BW (v:=Ym d) (CR AA AA a) rfl (CU Q9 AA) (Ay a AA (zf a AA (AB (i (decide (0<Sh.len d.cons)) (AS c) _ Aq))))))))))
theorem Gv {N:Nat}{p0 p1:List Int}{r:Bool}(h0:DR N p0 p1=some r):Bf 132 [ls eI p0,ls eI p1] [] (.bool r) []:=by
 unfold DR at h0;refine ai Tryz.func132 AA AA AA AA (Ap AA (AE λF l=>sr AA λG m=>AT AA (CY AA (AT AA (CY AA (AT AA (dn m AA ?_)))))));refine ci h0 AA ?_ ?_<;>intro t h0
 .have H:decide ((Sh.len p0)=Sh.len p1)=false:=by simpa using t
  refine Ap AA ?_;cases h0;exact rt [(4,.bool false)]
 .have I:decide ((Sh.len p0)=Sh.len p1)=true:=by simpa using t
  refine AH (l _ (AE λx o=>sr AA λJ p=>AT AA (CY AA (AT AA (dn p AA ?_)))));obtain⟨b,a,h0⟩:=Sh.Bj h0;have q:∀(_:Unit),b=Sum.inr ()->∀s,Wk 0 s ⟨26,AP [],[]⟩->x s:=by
   intro _ K s y;subst b;refine o _ (AG y (Ap AA ?_));cases h0;exact rt [(4,.bool true)]
  refine AL (An (σ:=Int) (λn v=>DD p0 p1 n v=some b) (λc=>⟨26,AP [(0,ls eI p0),(1,ls eI p1),(12,i64 (Sh.len p0)),(13,i64 c)],[]⟩) N 0 a Aq (λ_ u=>by rw[DD]at u;cases u) ?_);rintro n c a;rw[DD]at a;refine Ap AA (AE λz d=>?_);refine ci a AA ?_ ?_<;>intro A a
  .refine AH (d _ (AE λB e=>AL (Ap AA (AE λC f=>?_))));refine Cc (by kernel_rfl) (by kernel_rfl) (by rfl) ?_;iterate 2 refine yq tb rfl ?_
   refine bs a λg h a=>yx BF h AA AA AA ?_;iterate 3 refine yq tb rfl ?_
   refine bs a λi j a=>yx BF j AA AA AA ?_;iterate 2 refine yq tb rfl ?_
   refine Av (f _ ?_);refine ci a AA ?_ ?_<;>intro k a
   .have D:decide (g=i)=false:=by simpa using k
    refine Ap AA ?_;cases a;cases h0;exact rt [(4,.bool false)]
   .have E:decide (g=i)=true:=by simpa using k
    exact AH (e _ (AF AA (Ac 2 AA (AB (xi (Sh.w (c+1)) a Aq)))))
  .exact Au (q () (AS a) _ Aq)
theorem Va {N:Nat}{p0:List AK}{p1 p2 r:Int}(h0:Kb N p0 p1 p2=some r):Bf 133 [D5 p0,i64 p1,i64 p2] [] (i64 r) []:=by
 unfold Kb at h0;refine ai Tryz.func133 AA AA AA AA (Ap AA (AE λA o=>sr AA λG p=>AT AA (CY AA (AT AA (dn p AA ?_)))));obtain⟨q,a,h0⟩:=Sh.Bj h0;have B:∀(_:Unit),q=Sum.inr ()->∀s,Wk 0 s ⟨35,AP [],[]⟩->A s:=by
  intro _ C s t;subst q;refine o _ (AG t (Ap AA ?_));cases h0;exact rt [(6,i64 (-1))]
 refine AL (An (σ:=Int) (λn v=>FO p0 p1 p2 n v=some q) (λg=>⟨35,AP [(1,i64 p1),(2,i64 p2),(9,ls Ah p0),(10,i64 (Sh.len p0)),(11,i64 g)],[]⟩) N 0 a Aq (λ_ z=>by rw[FO]at z;cases z) ?_);rintro n g a;rw[FO]at a;refine Ap AA (AE λH u=>?_);refine ci a AA ?_ ?_<;>intro I a
 .refine AH (u _ (AE λD h=>AL (sr AA λE i=>AT AA (bs a λx j a=>zx DI j AA AA AA (AT AA (DL 0 HV AA (AT AA (Bx KP AA (dn i AA ?_)))))))));refine AE λy k=>bs a λl d a=>?_;have e:∀f,l=f->∀s,Wk 0 s ⟨35,AP [(1,i64 p1),(2,i64 p2),(7,i64 g),(9,D5 p0),(10,G7 p0),(11,i64 g),(31,.bool f)],[]⟩->y s:=by
   intro f C s t;subst l;refine k _ (AG t ?_);refine ci a AA ?_ ?_<;>intro F a
   .refine Ap AA ?_;cases a;cases h0;exact rt [(6,Kt g)]
   .exact AH (h _ (AF AA (Ac 2 AA (AB (xi (Sh.w (g+1)) a Aq)))))
  refine AF AA (Ac 2 AA (CY AA (Ac 2 AA ?_)));rcases Sh.Ae d with ⟨b,d⟩|⟨b,d⟩
  .refine Ay b AA ?_;iterate 3 refine Ay b rfl ?_
   refine zt b AA (AT AA ?_);rcases Sh.Ae d with ⟨c,d⟩|⟨c,d⟩
   .refine Ay c AA ?_;iterate 3 refine Ay c rfl ?_
    exact zt c AA (AB (e (decide (x.to=p2)) (AS d) _ (Be _ AA)))
   .refine zs c AA ?_;iterate 3 refine zs c rfl ?_
    exact zf c AA (AB (e false (AS d) _ (Be _ AA)))
  .refine zs b AA ?_;iterate 3 refine zs b rfl ?_
   refine zf b AA (AT AA ?_);iterate 4 refine zs rfl rfl ?_
   exact zf AA AA (AB (e false (AS d) _ (Be _ AA)))
 .exact Au (B () (AS a) _ Aq)
theorem L3 {N:Nat}{p0:BO}{p1 p2:Int}{p3:List Int}{r:Int×Bool}(h0:BH N p0 p1 p2 p3=some r):Bf 113 [.agg (Gx p0),i64 p1,i64 p2,ls eI p3] [] (.C8 [i64 r.1,.bool r.2]) []:=by
 unfold BH at h0;refine ai Tryz.func113 AA AA AA AA (sr AA λK1 h5=>Ee 0 AA (Ac 2 AA (dn h5 AA (Ap AA (AE λK3 h6=>?_)))));obtain⟨o5,b,h0⟩:=Sh.Bj h0;have M5:∀(Y:List Int),o5=Sum.inr Y->∀s,Wk 0 s ⟨149,AP (Ok p2 p3 [(10,ow 0 0 Y),(11,i64 0)]),[BY Y]⟩->K3 s:=by
  intro Y hq s A;subst o5;refine h6 _ (AG A (AE λK6 h7=>bs h0 λo8 b h0=>?_));have M8:∀t7,o8=t7->∀s,Wk 0 s ⟨149,AP [(8,i64 0),(9,.bool t7)],[]⟩->K6 s:=by
   intro t7 hq s A;subst o8;refine h7 _ (AG A ?_);cases h0;exact rt [(8,i64 0),(9,.bool t7)]
  refine AF AA (Ac 4 AA ?_);rcases Sh.Ae b with ⟨G,b⟩|⟨G,b⟩
  .exact Ay G AA (Ay G AA (EU [(141,i64 0),(144,.bool (decide (p2=0))),(145,ls eI p3),(146,ls eI Y)] TV 0 AA ⟨.rfl,.rfl,.rfl,.BZ AA,oz⟩ (λ_=>AA) rfl (bs b λh8 Z b=>zd G (hb 132) (Gv Z) rfl AA AA AA (zt G AA (Ac 2 AA (AB (M8 h8 (AS b) _ (Be _ AA))))))))
  .exact zs G AA (zs G AA (zs G AA (zf G AA (Ac 2 AA (AB (M8 false (AS b) _ (Be _ AA)))))))
 refine Ap AA (AL (Ap AA ?_));refine ci b AA ?_ ?_<;>intro l5 b
 .refine AE λh9 b0=>bs b λb1 c b=>?_;have R:∀H,b1=H->∀s,Wk 0 s ⟨149,AP [(8,i64 0),(9,.bool H)],[]⟩->h9 s:=by
   intro H hq s A;subst b1;refine b0 _ (AG A ?_);cases b;cases h0;exact rt [(8,i64 0),(9,.bool H)]
  refine AF AA (Ac 3 AA ?_);rcases Sh.Ae c with ⟨D,c⟩|⟨D,c⟩
  .refine Ay D AA (Ay D AA (zt D AA (AT AA ?_)));rcases Sh.Ae c with ⟨x,c⟩|⟨x,c⟩
   .exact Ay x AA (BW (v:=G7 p3) (CR AA AA x) rfl (CU Gd AA) (Ay x AA (zt x AA (Ac 2 AA (AB (R (decide ((Sh.len p3)=0)) (AS c) _ (Be _ AA)))))))
   .exact zs x AA (zs x AA (zs x AA (zf x AA (Ac 2 AA (AB (R false (AS c) _ (Be _ AA)))))))
  .refine zs D AA (zs D AA (zf D AA (AT AA ?_)));iterate 3 refine zs rfl rfl ?_
   exact zf AA AA (Ac 2 AA (AB (R false (AS c) _ (Be _ AA))))
 .refine AE λk0 b2=>bs b λb3 c b=>?_;have I:∀S,b3=S->∀s,Wk 0 s ⟨149,AP ((1,i64 p1)::Ok p2 p3 [(4,BG),(11,i64 0),(18,i64 p1),(32,.bool S)]),[Mb p0]⟩->k0 s:=by
   intro S hq s A;subst b3;refine b2 _ (AG A ?_);refine ci b AA ?_ ?_<;>intro l6 b
   .refine AF AA ?_;refine CC 1 [(0:Int),0] eI BF AA ?_;refine AT AA ?_;exact AB (M5 [(0:Int),0] (AS b) _ (AM [1] AA AA (.p .nil) (.same AA)))
   .refine Ap AA ?_;refine ci b AA ?_ ?_<;>intro l7 b
    .refine AF AA ?_;refine CC 1 [(0:Int)] eI BF AA ?_;refine AT AA ?_;exact AB (M5 [(0:Int)] (AS b) _ (AM [1] AA AA (.p .nil) (.same AA)))
    .refine Ap AA ?_;refine ci b AA ?_ ?_<;>intro l8 b
     .refine AE λl9 b4=>sr AA λm0 b5=>AT AA (CY AA (AT AA (dn b5 AA ?_)));refine ci b AA ?_ ?_<;>intro b6 b
      .have m1:decide ((Sh.len p3)=2)=false:=by simpa using b6
       refine Ap AA ?_;cases b;cases h0;exact rd [(8,i64 (-1)),(9,.bool false)]
      .have m2:decide ((Sh.len p3)=2)=true:=by simpa using b6
       refine AH (b4 _ (AE λm3 b7=>?_));refine Hw (by kernel_rfl) ?_;refine bs b λT b8 b=>bs b λd P b=>LB λA36 a=>?_;have f:A36 0 (bm 12 4095) ⟨149,AP (Ok p2 p3 [(12,BG),(13,.bool d.2)]),[XM d.1]⟩:=(a _ _ _).2 (by
        refine Gi AA (by kernel_rfl) ?_;refine b7 _ (AE λk1 c0=>bs b λc1 c b=>?_);have U:∀J,c1=J->∀s,Wk 0 s ⟨149,AP [(8,i64 d.1.to),(9,.bool J)],[]⟩->k1 s:=by
         intro J hq s A;subst c1;refine c0 _ (AG A ?_);cases b;cases h0;exact rt [(8,i64 d.1.to),(9,.bool J)]
        refine Cc (by kernel_rfl) (by kernel_rfl) (by rfl) ?_;iterate 4 refine yq tb rfl ?_
        rcases Sh.Ae c with ⟨B,c⟩|⟨B,c⟩
        .refine yg tb B AA (bs c λk2 c2 c=>Io (v:=UD k2) (CR AA AA B) rfl (CZ BF AA AA c2 AA) ?_);iterate 4 refine yg tb B rfl ?_
         refine yt B AA (yq tb AA ?_);rcases Sh.Ae c with ⟨E,c⟩|⟨E,c⟩
         .refine yg tb E AA (yg tb E AA (yt E AA ?_));iterate 2 refine yq tb rfl ?_
          exact Av (U (decide (p2=0)) (AS c) _ (Be _ AA))
         .refine ys E AA (ys E AA (yf E AA ?_));iterate 2 refine yq tb rfl ?_
          exact Av (U false (AS c) _ (Be _ AA))
        .refine ys B AA ?_;iterate 5 refine ys B rfl ?_
         refine yf B AA (yq tb AA ?_);iterate 2 refine ys rfl rfl ?_
         refine yf AA AA ?_;iterate 2 refine yq tb rfl ?_
         exact Av (U false (AS c) _ (by exact AM [] AA AA .nil (.same AA))))
       have e:A36 2 (bm 12 1023) ⟨149,AP (Ok p2 p3 [(12,BG),(53,.agg (Ah d.1)),(54,.bool d.2)]),[iF]⟩:=(a _ _ _).2 (by
        refine xa [10] ⟨?_,oz⟩
        .refine xo 10 ?_;refine Bx KP AA (AB ⟨AA,?_⟩);refine Fb tb 11 AA AA ?_;exact xt a f)
       have g:A36 3 (bm 12 511) ⟨149,AP (Ok p2 p3 [(53,.agg (Ah d.1)),(54,.bool d.2)]),[]⟩:=(a _ _ _).2 (by
        refine xa [9] ⟨?_,oz⟩
        .refine xo 9 ?_;exact DL 0 HV AA (xd a e))
       have o:A36 2 (bm 12 1791) ⟨149,AP (Ok p2 p3 [(12,BG),(46,Yc d.1 d.2)]),[XM d.1]⟩:=(a _ _ _).2 (by
        refine xa [8] ⟨?_,oz⟩
        .refine xo 8 ?_;refine AT AA (AB ⟨AA,?_⟩);refine Fb tb 11 AA AA ?_;exact xt a f)
       have h:A36 3 (bm 12 767) ⟨149,AP (Ok p2 p3 [(12,BG),(46,Yc d.1 d.2),(53,.agg (Ah d.1))]),[iF]⟩:=(a _ _ _).2 (by
        refine xa [8,10] ⟨?_,?_,oz⟩
        .exact xq tb a e
        .refine xo 10 ?_;exact Bx KP AA (xd a o))
       have p:A36 4 (bm 12 255) ⟨149,AP (Ok p2 p3 [(46,Yc d.1 d.2),(53,.agg (Ah d.1))]),[]⟩:=(a _ _ _).2 (by
        refine xa [8,9] ⟨?_,?_,oz⟩
        .exact xq tb a g
        .refine xo 9 ?_;exact DL 0 HV AA (xd a h))
       have k:A36 3 (bm 12 895) ⟨149,AP (Ok p2 p3 [(12,BG),(46,Yc d.1 d.2),(54,.bool d.2)]),[iF]⟩:=(a _ _ _).2 (by
        refine xa [7] ⟨?_,oz⟩
        .exact xq tb a e)
       have q:A36 4 (bm 12 383) ⟨149,AP (Ok p2 p3 [(46,Yc d.1 d.2),(54,.bool d.2)]),[]⟩:=(a _ _ _).2 (by
        refine xa [7,9] ⟨?_,?_,oz⟩
        .exact xq tb a g
        .refine xo 9 ?_;exact DL 0 HV AA (xd a k))
       have n:A36 4 (bm 12 639) ⟨149,AP (Ok p2 p3 [(12,BG),(46,Yc d.1 d.2)]),[iF]⟩:=(a _ _ _).2 (by
        refine xa [7,8] ⟨?_,?_,oz⟩
        .exact xq tb a h
        .exact xq tb a k)
       have y:A36 5 (bm 12 127) ⟨149,AP (Ok p2 p3 [(46,Yc d.1 d.2)]),[]⟩:=(a _ _ _).2 (by
        refine xa [7,8,9] ⟨?_,?_,?_,oz⟩
        .exact xq tb a p
        .exact xq tb a q
        .refine xo 9 ?_;exact DL 0 HV AA (xd a n))
       have C:A36 6 (bm 12 543) ⟨149,AP (Ok p2 p3 [(12,BG),(48,ls Ah p0.decls),(51,i64 T)]),[iF]⟩:=(a _ _ _).2 (by
        refine xa [5] ⟨?_,oz⟩
        .refine xo 5 ?_;refine D0 (Yc d.1 d.2) (hb 131) (Ob P) rfl (AB ⟨AA,?_⟩);refine Fb tb 6 AA AA ?_;exact xt a n)
       have F:A36 7 (bm 12 31) ⟨149,AP (Ok p2 p3 [(48,ls Ah p0.decls),(51,i64 T)]),[]⟩:=(a _ _ _).2 (by
        refine xa [5,9] ⟨?_,?_,oz⟩
        .refine xo 5 ?_;refine D0 (Yc d.1 d.2) (hb 131) (Ob P) rfl (AB ⟨AA,?_⟩);refine Fb tb 6 AA AA ?_;exact xt a y
        .refine xo 9 ?_;exact DL 0 HV AA (xd a C))
       refine (a _ _ _).2 ?_;refine Fb tb 0 AA AA ?_;refine Fb tb 1 AA AA ?_;refine Fb tb 2 AA AA ?_;refine Ik 3 (v:=UD T) rfl (by kernel_rfl) (by kernel_rfl) (CZ BF AA AA b8 AA) ?_;refine Fb tb 4 AA AA ?_;exact xw a F (by exact AM [] AA AA .nil (.same AA))
     .refine Ap AA ?_;refine ci b AA ?_ ?_<;>intro m4 b
      .refine sr AA λm5 c3=>Ac 3 AA (bs b λK c4 b=>D0 (.C8 [i64 K.1,KN K.2]) (hb 126) (RB c4) rfl (Ac 3 AA (DL 1 SB AA (AT AA (Bx Pw AA (dn c3 AA (AE λk3 c5=>bs b λc6 c b=>?_)))))));have c7:∀M,c6=M->∀s,Wk 0 s ⟨149,AP [(8,i64 K.1),(9,.bool M)],[]⟩->k3 s:=by
        intro M hq s A;subst c6;refine c5 _ (AG A ?_);cases b;cases h0;exact rt [(8,i64 K.1),(9,.bool M)]
       refine AF AA (Ac 4 AA ?_);rcases Sh.Ae c with ⟨z,c⟩|⟨z,c⟩
       .exact Ay z AA (Ay z AA (Ay z AA (bs c λk4 c8 c=>zd z (hb 132) (Gv c8) rfl AA AA AA (zt z AA (Ac 2 AA (AB (c7 k4 (AS c) _ (Be _ AA))))))))
       .refine zs z AA ?_;iterate 3 refine zs z rfl ?_
        exact zf z AA (Ac 2 AA (AB (c7 false (AS c) _ (Be _ AA))))
      .refine AE λk5 c9=>bs b λd1 c b=>?_;have d2:∀V,d1=V->∀s,Wk 0 s ⟨149,AP ((1,i64 p1)::Ok p2 p3 [(4,BG),(88,.bool V)]),[Mb p0]⟩->k5 s:=by
        intro V hq s A;subst d1;refine c9 _ (AG A ?_);refine ci b AA ?_ ?_<;>intro m6 b
        .refine AE λm7 d3=>AE λk6 d4=>bs b λd5 c b=>?_;have d6:∀W,d5=W->∀s,Wk 0 s ⟨149,AP ((1,i64 p1)::Ok p2 p3 [(4,BG),(99,.bool W)]),[Mb p0]⟩->k6 s:=by
          intro W hq s A;subst d5;refine d4 _ (AG A ?_);refine ci b AA ?_ ?_<;>intro m8 b
          .refine Ap AA ?_;cases b;cases h0;exact rd [(8,i64 (-1)),(9,.bool false)]
          .refine AH (d3 _ (AE λm9 d7=>?_));refine Cc (by kernel_rfl) (by kernel_rfl) (by rfl) ?_;iterate 3 refine yq tb rfl ?_
           refine bs b λd8 Q b=>yx SH Q AA AA AA ?_;iterate 5 refine yq tb rfl ?_
           refine yx SH Q AA AA AA ?_;iterate 4 refine yq tb rfl ?_
           refine Av (d7 _ (AE λq0 d9=>Ap AA ?_));refine ci b AA ?_ ?_<;>intro q1 b
           .refine sr AA λq2 g0=>Ac 3 AA (bs b λk7 g1 b=>G5 (hb 132) (Gv g1) rfl (Ac 2 AA (dn g0 AA ?_)));cases b;cases h0;exact rd [(8,i64 d8.result),(9,.bool k7)]
           .refine AH (d9 _ (sr AA λq3 g2=>AT AA (CY AA (Ac 2 AA (dn g2 AA (AE λq4 g3=>Ap AA ?_))))));refine ci b AA ?_ ?_<;>intro q5 b
            .refine Ap AA ?_;cases b;cases h0;exact rd [(8,i64 (-1)),(9,.bool false)]
            .refine AH (g3 _ (AE λq6 g4=>?_));refine Cc (by kernel_rfl) (by kernel_rfl) (by rfl) ?_;iterate 4 refine yq tb rfl ?_
             refine bs b λq7 g5 b=>yx BF g5 AA AA AA ?_;iterate 2 refine yq tb rfl ?_
             refine bs b λX g6 b=>BV (v:=i64 X) AN (hb 133) (Va g6) rfl AA AA (yq tb AA (Av (g4 _ (AE λk8 g7=>bs b λg8 c b=>?_))));have g9:∀O,g8=O->∀s,Wk 0 s ⟨149,AP [(8,i64 X),(9,.bool O)],[]⟩->k8 s:=by
              intro O hq s A;subst g8;refine g7 _ (AG A ?_);cases b;cases h0;exact rt [(8,i64 X),(9,.bool O)]
             refine AF AA (Ac 4 AA ?_);rcases Sh.Ae c with ⟨t,c⟩|⟨t,c⟩
             .exact Ay t AA (Ay t AA (Ay t AA (bs c λq8 h3 c=>TZ (i:=0) (j:=Sh.w ((Sh.len d8.params)-1)) (CR AA AA t) BF AA AA AA (λ_=>AA) h3 (bs c λk9 h4 c=>zd t (hb 132) (Gv h4) rfl AA AA AA (zt t AA (Ac 2 AA (AB (g9 k9 (AS c) _ (Be _ AA)))))))))
             .refine zs t AA ?_;iterate 4 refine zs t rfl ?_
              exact zf t AA (Ac 2 AA (AB (g9 false (AS c) _ (Be _ AA))))
         refine AF AA (Ac 3 AA ?_);rcases Sh.Ae c with ⟨u,c⟩|⟨u,c⟩
         .refine zs u AA ?_;iterate 4 refine zs u rfl ?_
          exact zt u AA (AB (d6 true (AS c) _ Aq))
         .exact Ay u AA (Ay u AA (Ay u AA (BW (v:=i64 (Sh.len p0.funcs)) (CR AA AA u) rfl (CU kP AA) (Ay u AA (zf u AA (AB (d6 (decide ((Sh.len p0.funcs)<=p2)) (AS c) _ Aq)))))))
        .refine Ap AA ?_;cases b;cases h0;exact rd [(8,i64 (-1)),(9,.bool false)]
       refine Ap AA ?_;refine ci c AA ?_ ?_<;>intro l0 c
       .exact AH (d2 true (AS c) _ (Ag (L:=((1,i64 p1)::Ok p2 p3 [(4,BG),(88,.bool true)])) ⟨.rfl,.rfl,.rfl,.rfl,.of (qX AV.bool l0),oz⟩))
       .exact AF AA (Ac 2 AA (AB (d2 (decide (p1=10)) (AS c) _ Aq)))
  refine Ap AA ?_;refine ci c AA ?_ ?_<;>intro l1 c
  .exact AH (I true (AS c) _ (Ag (L:=((1,i64 p1)::Ok p2 p3 [(4,BG),(11,i64 0),(18,i64 p1),(32,.bool true)])) ⟨.rfl,.rfl,.rfl,.rfl,.rfl,.rfl,.of (qX AV.bool l1),oz⟩))
  .refine Ap AA ?_;refine ci c AA ?_ ?_<;>intro l2 c
   .exact AH (I true (AS c) _ (Ag (L:=((1,i64 p1)::Ok p2 p3 [(4,BG),(11,i64 0),(18,i64 p1),(32,.bool true)])) ⟨.rfl,.rfl,.rfl,.rfl,.rfl,.rfl,.of (qX AV.bool l2),oz⟩))
   .refine Ap AA ?_;refine ci c AA ?_ ?_<;>intro l3 c
    .exact AH (I true (AS c) _ (Ag (L:=((1,i64 p1)::Ok p2 p3 [(4,BG),(11,i64 0),(18,i64 p1),(32,.bool true)])) ⟨.rfl,.rfl,.rfl,.rfl,.rfl,.rfl,.of (qX AV.bool l3),oz⟩))
    .exact AF AA (Ac 2 AA (AB (I (decide (p1=4)) (AS c) _ Aq)))
end Go.Proofs.YtihdgoiebmfapaaGreat
