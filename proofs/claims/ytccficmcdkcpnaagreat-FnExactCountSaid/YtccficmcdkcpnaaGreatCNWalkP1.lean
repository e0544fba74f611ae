import Derived.Test.YtccficmcdkcpnaaGreatCNWalkP0
set_option linter.all false
namespace Go.Proofs.YtccficmcdkcpnaaGreat
open Go Go.Abs RC
attribute [local irreducible] Go.Abs.DX
set_option maxRecDepth 100000
set_option maxHeartbeats 4000000
theorem bx:Ix Tryz.prog 30=true:=by kernel_rfl
theorem kH:Ix Tryz.prog 48=true:=by kernel_rfl
theorem oN:Ix Tryz.prog 50=true:=by kernel_rfl
theorem nK:Ix Tryz.prog 80=true:=by kernel_rfl
theorem cx:Kt Tryz.prog 30=some [(0,1),(1,1)]:=by kernel_rfl
theorem kO:Kt Tryz.prog 48=some [(0,1),(1,1)]:=by kernel_rfl
theorem oH:Kt Tryz.prog 50=some [(0,1),(1,1),(2,1),(3,2)]:=by kernel_rfl
theorem pD:Kt Tryz.prog 80=some [(0,1),(1,1),(2,1),(3,1),(4,1)]:=by kernel_rfl
theorem qR:G7 Tryz.prog 30 0=some 0:=by kernel_rfl
theorem qf:G7 Tryz.prog 48 0=some 0:=by kernel_rfl
theorem kT:G7 Tryz.prog 48 1=some 1:=by kernel_rfl
theorem qi:G7 Tryz.prog 80 0=some 0:=by kernel_rfl
theorem kS:G7 Tryz.prog 80 1=some 1:=by kernel_rfl
theorem qd:G7 Tryz.prog 80 3=some 3:=by kernel_rfl
theorem qt:G7 Tryz.prog 80 4=some 4:=by kernel_rfl
theorem TE {N:Nat}{zo:Block->Int->Int->(List Int)->Option (List Int)}(hrec_spec_addUses :∀{p0:Block} {p1:Int} {p2:Int} {p3:(List Int)} {r:(List Int)},zo p0 p1 p2 p3=some r->BH 196 [DN p0,i64 p1,i64 p2,ls eI p3] [] (ls eI r) []){p0:Step}{p1:Int}{p2:(List Int)}{r:(List Int)}(h0:I2 N zo p0 p1 p2=some r):BH 248 [Hu p0,i64 p1,ls eI p2] [] (ls eI r) []:=by
 unfold I2 at h0;refine Bb Tryz.func248 AA (Ab λK1 R=>CY 0 AA (AK AA (AR R (AB λK2 S=>Ab λK3 T=>AM 2 AA (bs h0 λq4 U h0=>CR (hb 128) (On U) rfl (AR T ?_))))));refine An h0 ?_ ?_<;>intro b5 h0
 ·refine AS AA ?_;cases h0;exact rd [(6,ls eI p2)]
 ·refine AG (S _ (AB λK7 V=>AS AA (bs h0 λk a h0=>?_)));have W:∀{b},JJ k b ⟨58,AJ [(1,i64 p1),(2,ls eI b),(3,Ax)],[TL p0.op p0.num p0.BF p0.args p0.kids]⟩ K7:=by
   rintro _ ⟨⟩ s l;refine V _ (AH l (AB λY x=>AS AA (bs h0 λo a h0=>?_)));have Z:∀{c},JJ o c ⟨58,AJ [(2,ls eI c)],[]⟩ Y:=by
    rintro _ ⟨⟩ s l;try dsimp only at h0
    refine x _ (AH l (AS AA ?_));obtain rfl:=Sh.Av h0;exact rt [(6,ls eI o)]
   refine AI (Fh (EK p0 p1 zo) (λg p=>⟨58,AJ [(1,i64 p1),(2,ls eI g),(3,.ptr 0 0 0 0),(8,i64 p)],[TL p0.op p0.num p0.BF p0.args p0.kids]⟩) N k 0 a Ag ?_);intro n g p a;rw[EK]at a;refine AB λb3 z=>Ab λb4 A=>AM 3 AA (Bd AA (AK AA (AR A ?_)));refine An a ?_ ?_<;>intro b6 a
   ·exact AG (z _ (AB λb7 B=>AI (AE AA (AM 3 AA (bs a λb8 C a=>DI Kq C AA (AM 3 AA (bs a λb0 D a=>CR (hb 196) (hrec_spec_addUses D) rfl (AK AA (AR B (AE AA (AM 3 AA (AD (xi (b0,Sh.w (p+1)) a Ag)))))))))))))
   ·exact Af (Z a (BT _ AA))
  refine AI (Fh (EN N p0 p1) (λe h=>⟨58,AJ [(1,i64 p1),(2,ls eI e),(3,.ptr 0 0 0 0),(7,i64 h)],[TL p0.op p0.num p0.BF p0.args p0.kids]⟩) N p2 0 a Ag ?_);intro n e h a;rw[EN]at a;refine AB λb9 E=>Ab λc0 F=>AM 3 AA (Bd AA (AK AA (AR F ?_)));refine An a ?_ ?_<;>intro c1 a
  ·refine AG (E _ (AB λb1 G=>bs a λH i a=>?_));have I:∀{d},JJ H d ⟨58,AJ [(1,i64 p1),(2,ls eI d),(3,Ax),(7,i64 h)],[TL p0.op p0.num p0.BF p0.args p0.kids]⟩ b1:=by
    rintro _ ⟨⟩ s l;exact G _ (AH l (AE AA (AM 3 AA (AD (xi (H,Sh.w (h+1)) a Ag)))))
   refine AI (AB λb2 J=>bs i λK q i=>?_);have M:∀{t},JJ K t ⟨58,AJ [(1,i64 p1),(2,ls eI e),(3,Ax),(7,i64 h),(34,.bool t)],[TL p0.op p0.num p0.BF p0.args p0.kids]⟩ b2:=by
    rintro _ ⟨⟩ s l;refine J _ (AH l ?_);refine An i ?_ ?_<;>intro c2 i
    ·refine AE AA (AM 4 AA (bs i λc3 O i=>DI Ay O AA (AK AA (bs i λu P i=>Dx (ow 1 0 u) (MJ P) ⟨(Ar λ_=>AA),uM⟩ (AK AA ?_)))));exact AD (I i (by refine Wk.trans (Wk.Db (L:=[(1,i64 p1),(2,ls eI u),(3,Ax),(7,i64 h)]) (st':=(sG p0 [])) (id:=1) rfl yp BB ⟨.rfl,.Db AA,.rfl,.rfl,uM⟩ AA) ?_;exact Bf [0] (.w .nil) (.same AA)))
    ·exact AG (I i Ag)
   refine AE AA (AM 3 AA (bs q λQ j q=>DI Ay j AA (AM 3 AA ?_)));rcases Sh.Aa q with ⟨f,q⟩|⟨f,q⟩
   ·refine Aj f AA (Aj f AA (Aj f AA (CP (LR Q) f (Hl Ay AA j) ?_)));iterate 3 refine Aj f rfl ?_
    exact zt f AA (AD (M q Ag))
   ·refine zs f AA ?_;iterate 6 refine zs f rfl ?_
    exact zf f AA (AD (M q Ag))
  ·exact Af (W a Ag)
theorem Uo {N:Nat}{zo:Block->Int->Int->(List Int)->Option (List Int)}(hrec_spec_addUses :∀{p0:Block} {p1:Int} {p2:Int} {p3:(List Int)} {r:(List Int)},zo p0 p1 p2 p3=some r->BH 196 [DN p0,i64 p1,i64 p2,ls eI p3] [] (ls eI r) []){p0:Block}{p1 p2:Int}{p3:(List Int)}{r:(List Int)}(h0:MT N zo p0 p1 p2 p3=some r):BH 196 [DN p0,i64 p1,i64 p2,ls eI p3] [] (ls eI r) []:=by
 unfold MT at h0;refine Bb Tryz.func196 AA (Ab λU A=>CY 0 AA (AK AA (AR A (AB λK B=>AS AA (bs h0 λC a h0=>?_)))));have M:∀{b},JJ C b ⟨40,AJ [(1,i64 p1),(3,ls eI b),(4,Ax)],[O0 p0.steps p0.result]⟩ K:=by
  rintro _ ⟨⟩ s h;refine B _ (AH h (AB λO D=>bs h0 λi a h0=>?_));have j:∀{c},JJ i c ⟨40,AJ [(3,ls eI c)],[]⟩ O:=by
   rintro _ ⟨⟩ s h;try dsimp only at h0
   refine D _ (AH h (AS AA ?_));obtain rfl:=Sh.Av h0;exact rt [(8,ls eI i)]
  refine AB λE k=>bs a λl o a=>?_;have p:∀{f},JJ l f ⟨40,AJ [(3,ls eI C),(4,Ax),(34,.bool f)],[O0 p0.steps p0.result]⟩ E:=by
   rintro _ ⟨⟩ s h;refine k _ (AH h ?_);refine An a ?_ ?_<;>intro P a
   ·refine AE AA (AM 3 AA (bs a λg q a=>Dx (ow 1 0 g) (MJ q) ⟨(Ar λ_=>AA),uM⟩ (AK AA ?_)));exact AD (j a (by refine Wk.trans (Wk.Db (L:=[(3,ls eI g)]) (st':=[O0 p0.steps p0.result,⟨1,3,1,[]⟩]) (id:=1) rfl yp BB ⟨.Db AA,uM⟩ AA) ?_;exact BT _ AA))
   ·exact AG (j a (BT _ AA))
  refine AE AA (AM 4 AA ?_);rcases Sh.Aa o with ⟨d,o⟩|⟨d,o⟩
  ·refine Aj d AA ?_;iterate 3 refine Aj d rfl ?_
   exact zt d AA (AD (p o Ag))
  ·refine zs d AA ?_;iterate 3 refine zs d rfl ?_
   exact zf d AA (AD (p o Ag))
 refine AI (Fh (FA N p0 p1 zo) (λe F=>⟨40,AJ [(1,i64 p1),(3,ls eI e),(4,.ptr 0 0 0 0),(9,i64 F)],[O0 p0.steps p0.result]⟩) N p3 p2 a Ag ?_);intro n e F a;rw[FA]at a;refine AB λQ t=>Ab λR u=>AM 3 AA (Bd AA (AK AA (AR u ?_)));refine An a ?_ ?_<;>intro S a
 ·exact AG (t _ (AB λT x=>AI (AE AA (AM 3 AA (bs a λG y a=>zz (H4 G) (E1 Cb AA AA y (CE _) rfl) rfl (AM 3 AA (bs a λH z a=>CR (hb 248) (TE hrec_spec_addUses z) rfl (AK AA (AR x (AE AA (AM 3 AA (AD (xi (H,Sh.w (F+1)) a Ag)))))))))))))
 ·exact Af (M a Ag)
theorem VC {N:Nat}:∀(n:Nat),∀{p0:Block} {p1:Int} {p2:Int} {p3:(List Int)} {r:(List Int)},Iw N n p0 p1 p2 p3=some r->BH 196 [DN p0,i64 p1,i64 p2,ls eI p3] [] (ls eI r) []:=by
 intro n
 induction n with
 | zero=>intro p0 p1 p2 p3 r a;cases a
 | succ n ih=>
  intro p0 p1 p2 p3 r a;rw[Iw]at a;exact Uo (λh=>ih h) a
theorem Qk {N:Nat}:∀{p0:Block} {p1:Int} {p2:Int} {p3:(List Int)} {r:(List Int)},JV N p0 p1 p2 p3=some r->BH 196 [DN p0,i64 p1,i64 p2,ls eI p3] [] (ls eI r) []:=by
 intro p0 p1 p2 p3 r a;exact VC N a
theorem SA {N:Nat}{p0:Block}{p1:Int}{r:(List Int)}(h0:LV N p0 p1=some r):BH 130 (Wn p0 p1) [] (ls eI r) []:=by
 unfold LV at h0;refine Bb Tryz.func130 AA (Ab λe a=>CY 0 AA (AK AA (AR a (Ab λf b=>AM 2 AA (D9 1 ([]:List Int) eI Ay AA (JT [(5,DN p0),(6,i64 p1),(7,SY)] [O0 p0.steps p0.result,⟨1,3,1,[]⟩] 1 AA ⟨.rfl,.rfl,.Db AA,uM⟩ DA AA (bs h0 λd c h0=>CR (hb 196) (Qk c) rfl (AK AA (AR b ?_)))))))));obtain rfl:=Sh.Av h0;exact rd [(4,ls eI d)]
theorem EH {N:Nat}{p0:(List Int)}{p1:Int}{r:Bool}(h0:Et N p0 p1=some r):BH 131 (Yd p0 p1) [] (.bool r) []:=by
 unfold Et at h0;refine Bb Tryz.func131 AA (AS AA (AB λk e=>AS AA ?_));obtain⟨f,a,h0⟩:=Sh.BG h0;have l:JJ f (.inr ()) ⟨18,AJ [],[]⟩ k:=by
  rintro⟨⟩ s m;refine e _ (AH m (AS AA ?_));cases h0;exact rt [(4,.bool false)]
 refine AI (LN (IK p0 p1) (λg=>⟨18,AJ [(0,ls eI p0),(1,i64 p1),(5,i64 g)],[]⟩) N 0 a Ag ?_);intro n g a;rw[IK]at a;refine AB λx h=>Ab λy i=>AM 2 AA (Bd AA (AK AA (AR i ?_)));refine An a ?_ ?_<;>intro z a
 ·refine AG (h _ (AB λo b=>AI (Ab λp c=>AM 2 AA (bs a λq d a=>DI Ay d AA (AM 3 AA (AR c ?_))))));refine An a ?_ ?_<;>intro t a
  ·refine AS AA ?_;cases a;cases h0;exact rt [(4,.bool true)]
  ·exact AG (b _ (AE AA (AM 3 AA (AD (xi (Sh.w (g+1)) a Ag)))))
 ·exact Af (l a Ag)
theorem ZC {N:Nat}{p0:(List Int)}{p1:(List Int)}{r:(List Int)}(h0:Kx N p0 p1=some r):BH 197 [ls eI p0,ls eI p1] [] (ow 0 0 r) [As r]:=by
 unfold Kx at h0;refine Bb Tryz.func197 AA (AS AA (Ab λD k=>AK AA (bs h0 λq l h0=>Dx (ow 0 0 q) (EG l) ⟨(Ar λ_=>AA),uM⟩ (AK AA (AR k (AB λu m=>AS AA (bs h0 λo a h0=>?_)))))));have x:∀{b},JJ o b ⟨22,AJ [(5,ow 0 0 b)],[As b]⟩ u:=by
  rintro _ ⟨⟩ s y;try dsimp only at h0
  refine m _ (AH y (AS AA ?_));obtain rfl:=Sh.Av h0;exact rt [(4,ow 0 0 o)]
 refine AI (Fh (Hh N p1) (λj c=>⟨22,AJ [(1,ls eI p1),(5,ow 0 0 c),(6,i64 j)],[ro 0 3 1 eI c]⟩) N 0 q a Ag ?_);intro n j c a;rw[Hh]at a;refine AB λz d=>Ab λA e=>AM 2 AA (Bd AA (AK AA (AR e ?_)));refine An a ?_ ?_<;>intro B a
 ·exact AG (d _ (AB λC f=>AI (AE AA (AM 3 AA (bs a λp g a=>DI Ay g AA (AK AA (JT [(1,ls eI p1),(6,i64 j),(15,ls eI c),(19,i64 p)] iy 0 AA ⟨.rfl,.rfl,.Db AA,.rfl,uM⟩ DA AA (bs a λh i a=>Dx (ow 1 0 h) (MJ i) ⟨(Ar λ_=>AA),uM⟩ (AK AA (AR f (AE AA (AM 3 AA (AD (xi (Sh.w (j+1),h) a (Bf [1] (.p .nil) (.same AA))))))))))))))))
 ·exact Af (x a Ag)
theorem Vf {p0:Int}{r:Bool}(h0:LH p0=some r):BH 215 [i64 p0] [] (.bool r) []:=by
 unfold LH at h0;refine Bb Tryz.func215 AA (AS AA (AB λi g=>bs h0 λh a h0=>?_));have e:∀{f},JJ h f ⟨17,AJ [(2,.bool f)],[]⟩ i:=by
  rintro _ ⟨⟩ s j;try dsimp only at h0
  refine g _ (AH j ?_);obtain rfl:=Sh.Av h0;exact rt [(2,.bool h)]
 refine AE AA (AM 3 AA ?_);rcases Sh.Aa a with ⟨b,a⟩|⟨b,a⟩
 ·exact zs b AA (zs b AA (zt b AA (AK AA (zs AA AA (zs AA AA (zt AA AA (AK AA (zs AA AA (zs AA AA (zt AA AA (AK AA (AD (e a Ag)))))))))))))
 ·refine Aj b AA (Aj b AA (zf b AA (AK AA ?_)));rcases Sh.Aa a with ⟨c,a⟩|⟨c,a⟩
  ·exact zs c AA (zs c AA (zt c AA (AK AA (zs AA AA (zs AA AA (zt AA AA (AK AA (AD (e a Ag)))))))))
  ·refine Aj c AA (Aj c AA (zf c AA (AK AA ?_)));rcases Sh.Aa a with ⟨d,a⟩|⟨d,a⟩
   ·exact zs d AA (zs d AA (zt d AA (AK AA (AD (e a Ag)))))
   ·exact Aj d AA (Aj d AA (zf d AA (AK AA (AD (e a Ag)))))
theorem Of {N:Nat}{p0:AL}{p1:Step}{p2:Int}{r:Bool}(h0:KD N p0 p1 p2=some r):BH 216 [Gz p0,Hu p1,i64 p2] [] (.bool r) []:=by
 unfold KD at h0;refine Bb Tryz.func216 AA (Ab λo d=>CY 0 AA (CY 1 AA (AK AA (AR d (AB λj e=>bs h0 λh b h0=>?_)))));have i:∀{c},JJ h c ⟨21,AJ [(6,.bool c)],[]⟩ j:=by
  rintro _ ⟨⟩ s k;try dsimp only at h0
  refine e _ (AH k ?_);obtain rfl:=Sh.Av h0;exact rt [(6,.bool h)]
 refine AE AA (AM 4 AA ?_);rcases Sh.Aa b with ⟨a,b⟩|⟨a,b⟩
 ·refine Aj a AA ?_;iterate 3 refine Aj a rfl ?_
  refine bs b λl f b=>CP (.Bj (Al l) 0) a (Hl Hg AA f) ?_;iterate 3 refine Aj a rfl ?_
  exact bs b λn g b=>Iy a (EH g) rfl (zt a AA (AK AA (AD (i b (BT _ AA)))))
 ·refine zs a AA ?_;iterate 8 refine zs a rfl ?_
  exact zf a AA (AK AA (AD (i b (BT _ AA))))
theorem Ou {N:Nat}{p0:AL}{p1:(List Int)}{p2:Step}{p3:Int}{r:Bool}(h0:IU N p0 p1 p2 p3=some r):BH 250 [Gz p0,ls eI p1,Hu p2,i64 p3] [] (.bool r) []:=by
 unfold IU at h0;refine Bb Tryz.func250 AA (Ab λu f=>CY 0 AA (CY 1 AA (AK AA (AR f (AB λo g=>bs h0 λn a h0=>?_)))));have h:∀{e},JJ n e ⟨30,AJ [(8,.bool e)],[]⟩ o:=by
  rintro _ ⟨⟩ s p;try dsimp only at h0
  refine g _ (AH p ?_);obtain rfl:=Sh.Av h0;exact rt [(8,.bool n)]
 refine AE AA (AM 2 AA (bs a λx i a=>CR (hb 215) (Vf i) rfl (AK AA ?_)));rcases Sh.Aa a with ⟨b,a⟩|⟨b,a⟩
 ·refine Aj b AA ?_;iterate 3 refine Aj b rfl ?_
  refine bs a λq j a=>CP (LR q) b (Hl Ay AA j) (Aj b AA (bs a λt k a=>CP (LR t) b (Hl Ay AA k) (Aj b AA (Aj b AA (zt b AA (AK AA ?_))))));rcases Sh.Aa a with ⟨c,a⟩|⟨c,a⟩
  ·exact Aj c AA (Aj c AA (Aj c AA (bs a λl d a=>Iy c (Of d) rfl (Aj c AA (zt c AA (AK AA (AD (h a (BT _ AA)))))))))
  ·refine zs c AA ?_;iterate 4 refine zs c rfl ?_
   exact zf c AA (AK AA (AD (h a (BT _ AA))))
 ·refine zs b AA ?_;iterate 8 refine zs b rfl ?_
  refine zf b AA (AK AA ?_);iterate 5 refine zs rfl rfl ?_
  exact zf AA AA (AK AA (AD (h a (BT _ AA))))
theorem Sc {N:Nat}{p0:AL}{p1:Step}{p2:Int}{r:Bool}(h0:IY N p0 p1 p2=some r):BH 273 [Gz p0,Hu p1,i64 p2] [] (.bool r) []:=by
 unfold IY at h0;refine Bb Tryz.func273 AA (Ab λK t=>CY 0 AA (CY 1 AA (AK AA (AR t (AB λF u=>AS AA ?_)))));obtain⟨x,e,h0⟩:=Sh.BG h0;have G:JJ x (.inr ()) ⟨42,AJ [],[]⟩ F:=by
  rintro⟨⟩ s y;refine u _ (AH y (AS AA ?_));cases h0;exact rt [(6,.bool false)]
 refine AI (LN (D2 N p0 p1 p2) (λq=>⟨42,AJ [(2,i64 p2),(3,.ptr 0 0 0 0),(4,.ptr 1 0 0 0),(7,i64 q)],[Ua p0.decls p0.AF,TL p1.op p1.num p1.BF p1.args p1.kids]⟩) N 0 e Ag ?_);intro n q e;rw[D2]at e;refine AB λL z=>Ab λM A=>AM 3 AA (Bd AA (AK AA (AR A ?_)));refine An e ?_ ?_<;>intro O e
 ·refine AG (z _ (AB λI i=>AI (AB λB j=>bs e λk c e=>?_)));have f:∀{g},JJ k g ⟨42,AJ [(2,i64 p2),(3,Ax),(4,HI),(7,i64 q),(41,.bool g)],Zs p0 p1 []⟩ B:=by
   rintro _ ⟨⟩ s y;refine j _ (AH y ?_);refine An e ?_ ?_<;>intro J e
   ·refine AS AA ?_;cases e;cases h0;exact rd [(6,.bool true)]
   ·exact AG (i _ (AE AA (AM 3 AA (AD (xi (Sh.w (q+1)) e Ag)))))
  refine Cu (by kernel_rfl) (by kernel_rfl) (by rfl) ?_;iterate 4 refine yq tb rfl ?_
  rcases Sh.Aa c with ⟨a,c⟩|⟨a,c⟩
  ·refine yg tb a AA ?_;iterate 2 refine yg tb a rfl ?_
   refine bs c λC l c=>LC (v:=(LR C)) (Is AA AA a) rfl (Hl Ay AA l) ?_;iterate 4 refine yg tb a rfl ?_
   refine bs c λD o c=>LC (v:=(LR D)) (Is AA AA a) rfl (Hl Ay AA o) ?_;iterate 2 refine yg tb a rfl ?_
   refine yt a AA (yq tb AA ?_);rcases Sh.Aa c with ⟨b,c⟩|⟨b,c⟩
   ·refine yg tb b AA ?_;iterate 3 refine yg tb b rfl ?_
    rcases Sh.Aa c with ⟨d,c⟩|⟨d,c⟩
    ·refine ys d AA ?_;iterate 3 refine ys d rfl ?_
     exact LC (v:=(.bool true)) (Is AA AA b) rfl (E6 AA d AA) (yt b AA (Bl (f c Ag)))
    ·refine yg tb d AA ?_;iterate 2 refine yg tb d rfl ?_
     exact bs c λh p c=>N7 (v:=(.bool h)) (Is AA AA d) (hb 216) (Of p) rfl AA AA (LC (v:=(.bool h)) (Is AA AA b) rfl (Eg AA d AA) (yt b AA (Bl (f c Ag))))
   ·refine ys b AA ?_;iterate 3 refine ys b rfl ?_
    iterate 4 refine yn rfl ?_
    exact ys b AA (yf b AA (Bl (f c Ag)))
  ·refine ys a AA ?_;iterate 10 refine ys a rfl ?_
   refine yf a AA (yq tb AA ?_);iterate 4 refine ys rfl rfl ?_
   iterate 4 refine yn rfl ?_
   exact ys AA AA (yf AA AA (Bl (f c Ag)))
 ·exact Af (G e (BT _ AA))
theorem Q5 {N:Nat}{p0:AL}{p1:Step}{p2:Int}{p3:(List Int)}{p4:(List Int)}{r:Bool}(h0:Kb N p0 p1 p2 p3 p4=some r):BH 251 [Gz p0,Hu p1,i64 p2,ls eI p3,ls eI p4] [] (.bool r) []:=by
 unfold Kb at h0;refine Bb Tryz.func251 AA (Ab λt g=>CY 0 AA (CY 1 AA (AK AA (AR g (AB λo h=>bs h0 λn a h0=>?_)))));have i:∀{f},JJ n f ⟨34,AJ [(10,.bool f)],[]⟩ o:=by
  rintro _ ⟨⟩ s p;try dsimp only at h0
  refine h _ (AH p ?_);obtain rfl:=Sh.Av h0;exact rt [(10,.bool n)]
 refine AE AA (AM 4 AA (bs a λq d a=>DI Ay d AA (AK AA (bs a λw j a=>CR (hb 131) (EH j) rfl (AK AA ?_)))));rcases Sh.Aa a with ⟨b,a⟩|⟨b,a⟩
 ·refine zs b AA ?_;iterate 7 refine zs b rfl ?_
  refine zt b AA (AK AA ?_);iterate 4 refine zs rfl rfl ?_
  exact zt AA AA (AK AA (AD (i a (BT _ AA))))
 ·refine Aj b AA ?_;iterate 3 refine Aj b rfl ?_
  refine CP (LR q) b (Hl Ay AA d) (Aj b AA (bs a λx k a=>Iy b (EH k) rfl (Aj b AA (zf b AA (AK AA ?_)))));rcases Sh.Aa a with ⟨c,a⟩|⟨c,a⟩
  ·refine zs c AA ?_;iterate 3 refine zs c rfl ?_
   exact zt c AA (AK AA (AD (i a (BT _ AA))))
  ·exact Aj c AA (Aj c AA (Aj c AA (bs a λl e a=>Iy c (Sc e) rfl (zf c AA (AK AA (AD (i a (BT _ AA))))))))
theorem UG {N:Nat}{p0:AL}{p1:(List Int)}{p2:Step}{p3:(List Int)}{p4:(List Int)}{r:(List Int)}(h0:HO N p0 p1 p2 p3 p4=some r):BH 198 [Gz p0,ls eI p1,Hu p2,ls eI p3,ls eI p4] [] (ow 0 0 r) [As r]:=by
 unfold HO at h0;refine Bb Tryz.func198 AA (Ab λX F=>CY 0 AA (CY 1 AA (AK AA (AR F (Ab λY G=>D9 2 ([]:List Int) eI Ay AA (AK AA (AR G (AB λQ H=>AS AA (bs h0 λI b h0=>?_)))))))));have R:∀{k},JJ I k ⟨43,AJ [(11,ow 0 0 k)],[As k]⟩ Q:=by
  rintro _ ⟨⟩ s o;try dsimp only at h0
  refine H _ (AH o (AS AA ?_));obtain rfl:=Sh.Av h0;exact rt [(10,ow 0 0 I)]
 refine AI (Fh (Ek N p0 p1 p2 p3 p4) (λj f=>⟨43,AJ [(1,ls eI p1),(3,ls eI p3),(4,ls eI p4),(5,.ptr 0 0 0 0),(7,.ptr 1 0 0 0),(11,ow 2 0 f),(12,i64 j)],[Ua p0.decls p0.AF,TL p2.op p2.num p2.BF p2.args p2.kids,ro 0 3 1 eI f]⟩) N 0 [] b Ag ?_);intro n j f b;rw[Ek]at b;refine AB λS p=>Ab λT q=>AM 3 AA (Bd AA (AK AA (AR q ?_)));refine An b ?_ ?_<;>intro U b
 ·refine AG (p _ (AB λJ t=>bs b λu c b=>?_));have x:∀{d},JJ u d ⟨43,AJ (hP p1 p3 p4 [(11,ow 2 0 d),(12,i64 j)]),Zs p0 p2 [As d]⟩ J:=by
   rintro _ ⟨⟩ s o;exact t _ (AH o (AE AA (AM 3 AA (AD (xi (Sh.w (j+1),u) b Ag)))))
  refine AI (AB λK y=>bs c λz e c=>?_);have A:∀{g},JJ z g ⟨43,AJ (hP p1 p3 p4 [(11,ow 2 0 f),(12,i64 j),(33,.bool g)]),Zs p0 p2 [As f]⟩ K:=by
   rintro _ ⟨⟩ s o;refine y _ (AH o ?_);refine An c ?_ ?_<;>intro V c
   ·refine AE AA (AM 4 AA (bs c λh B c=>DI Ay B AA (AK AA (D9 3 [h] eI Ay AA (bs c λi C c=>KA [h] Ay AA (GY AA AA) C (AK AA ?_))))));exact AD (x c (by refine Wk.trans (CH (L:=(hP p1 p3 p4 [(11,ow 2 0 i),(12,i64 j)])) (st':=(Zs p0 p2 [As i,Ml h])) (.raw AA AA (.raw AA AA (.pure BB (.pure BB .nil)))) (.same AA)) ?_;exact Bf [0,1,2] (.w (.w (.p .nil))) (.same AA)))
   ·exact AG (x c Ag)
  refine AE AA (AM 4 AA (bs e λW D e=>CR (hb 250) (Ou D) rfl (AK AA ?_)));rcases Sh.Aa e with ⟨a,e⟩|⟨a,e⟩
  ·refine Aj a AA ?_;iterate 4 refine Aj a rfl ?_
   exact bs e λM E e=>Iy a (Q5 E) rfl (zt a AA (AD (A e Ag)))
  ·refine zs a AA ?_;iterate 5 refine zs a rfl ?_
   exact zf a AA (AD (A e Ag))
 ·exact Af (R b (Bf [2] (.p .nil) (.same AA)))
theorem Kr {p0 p1:Int}{r:Step}(h0:Gf p0 p1=some r):BH 203 [i64 p0,i64 p1] [] (Hu r) []:=by
 unfold Gf at h0;refine FK AA (Bb Tryz.func203 AA (Ab λc a=>Cm 0 Ot AA (AR a (Ab λd b=>AM 2 AA (D9 1 [p1] eI Ay AA (D9 2 ([]:List Block) BS Kq AA (zz (.agg [i64 p0,i64 0,i64 0,ow 1 0 [p1],px]) (Gs nK pD Ot AA AA) rfl (JT [(4,Ax),(9,.agg [i64 p0,i64 0,i64 0,ls eI [p1],px])] [XF,⟨1,3,1,[]⟩,ro 0 48 2 BS ([]:List Block)] 1 AA ⟨.rfl,.agg ⟨.rfl,.rfl,.rfl,.Km AA,.rfl,uM⟩,uM⟩ DA AA (JT [(4,Ax),(9,.agg (tQ p0 p1))] [XF,⟨1,3,1,[]⟩,jJ] 2 AA ⟨.rfl,.agg ⟨.rfl,.rfl,.rfl,.rfl,.Km AA,uM⟩,uM⟩ DA AA (CF LP AA (AR b ?_)))))))))));cases h0;exact BP ⟨_,Wk.refl _ _,Lk (.tmp 4) (tQ p0 p1) LP AA _ AA⟩
theorem GC {N:Nat}{p0:Int}{p1:(List Int)}{r:(List Step)}(h0:G4 N p0 p1=some r):BH 133 [i64 p0,ls eI p1] [] (ow 0 0 r) [HS r]:=by
 unfold G4 at h0;refine Bb Tryz.func133 AA (AS AA (Ab λF p=>?_));refine Oc (m:=0) (l:=([]:List Step)) (enc:=Ba) BJ Cb (by decide) rfl AA (by simp only[List.map,CE];rfl) rfl AA AA ?_;refine AK AA (AR p (AB λx q=>AS AA (bs h0 λt a h0=>?_)));have y:∀{d},JJ t d ⟨24,AJ [(5,ow 0 0 d)],[HS d]⟩ x:=by
  rintro _ ⟨⟩ s z;try dsimp only at h0
  refine q _ (AH z (AS AA ?_));obtain rfl:=Sh.Av h0;exact rt [(4,ow 0 0 t)]
 refine AI (Fh (GD p0 p1) (λk o=>⟨24,AJ [(0,i64 p0),(1,ls eI p1),(5,ow 0 0 o),(6,i64 k)],[ro 0 80 5 Ba o]⟩) N 0 [] a Ag ?_);intro n k o a;rw[GD]at a;refine AB λA e=>Ab λB f=>AM 2 AA (Bd AA (AK AA (AR f ?_)));refine An a ?_ ?_<;>intro C a
 ·refine AG (e _ (AB λD g=>AI (AE AA (AM 4 AA (bs a λE h a=>DI Ay h AA (AK AA (bs a λb i a=>Px (Hu b) (hb 203) (Kr i) rfl ?_)))))));refine Oc (m:=1) (l:=[b]) (enc:=Ba) BJ Cb (by decide) rfl AA (by simp only[List.map,CE];rfl) rfl AA AA ?_;refine bs a λc j a=>I4 (l2:=[b]) BJ Cb AA AA AA AA (GY AA AA J5) H3 j AA (AK AA (AR g (AE AA (AM 3 AA ?_))));exact AD (xi (Sh.w (k+1),c) a (by refine Wk.trans (CH (L:=[(0,i64 p0),(1,ls eI p1),(5,ow 0 0 c),(6,NV k)]) (st':=[HS c,ro 0 80 5 Ba [b]]) (.pure (BM Az) (.pure (BM Az) .nil)) (.same AA)) ?_;exact Bf [0] (.pure (BM Az) .nil) (.same AA)))
 ·exact Af (y a Ag)
theorem Su {N:Nat}{s0:(List Int)}{p0:Int}{r:(List Step)}(h0:JK N s0 p0=some r):BH 133 [i64 p0,ow 0 0 s0] [As s0] (ow 1 0 r) [As s0,HS r]:=by
 unfold JK at h0;refine Bb Tryz.func133 AA (AS AA (Ab λF p=>?_));refine Oc (m:=1) (l:=([]:List Step)) (enc:=Ba) BJ Cb (by decide) rfl AA (by simp only[List.map,CE];rfl) rfl AA AA ?_;refine AK AA (AR p (AB λy q=>AS AA (bs h0 λt a h0=>?_)));have z:∀e,t=e->∀s,Wk 1 s ⟨24,AJ [(5,ow 1 0 e)],[As s0,HS e]⟩->y s:=by
  intro e G s A;subst t;try dsimp only at h0
  refine q _ (AH A (AS AA ?_));obtain rfl:=Sh.Av h0;exact rt [(4,ow 1 0 e)]
 refine AI (Fh (FB s0 p0) (λf o=>⟨24,AJ [(0,i64 p0),(1,ow 0 0 s0),(5,ow 1 0 o),(6,i64 f)],[ro 0 3 1 eI s0,ro 0 80 5 Ba o]⟩) N 0 [] a Ag ?_);intro n f o a;rw[FB]at a;refine AB λB g=>Ab λC h=>AM 2 AA (zz (Dc s0) (Ec Hq AA AA AA) rfl (AK AA (AR h ?_)));refine An a ?_ ?_<;>intro D a
 ·refine AG (g _ (AB λE i=>AI (AE AA (AM 4 AA (bs a λu c a=>zz (Vk f) (Ls Ay AA c) rfl (zz (i64 u) (De JR AA AA (Ef c) rfl) rfl (bs a λb j a=>Px (Hu b) (hb 203) (Kr j) rfl ?_)))))));refine Oc (m:=2) (l:=[b]) (enc:=Ba) BJ Cb (by decide) rfl AA (by simp only[List.map,CE];rfl) rfl AA AA ?_;refine bs a λd k a=>I4 (l2:=[b]) BJ Cb AA AA AA AA (GY AA AA J5) H3 k AA (AK AA (AR i (AE AA (AM 3 AA ?_))));exact AD (xi (Sh.w (f+1),d) a (by refine Wk.trans (EO (L:=[(0,i64 p0),(1,ow 0 0 s0),(5,ow 1 0 d),(6,NV f)]) (st':=[As s0,HS d,ro 0 80 5 Ba [b]]) (.pure AA BB (.pure AA (BM Az) (.pure AA (BM Az) .nil))) (.same AA)) ?_;exact Bf [0,1] (.p (.pure (BM Az) .nil)) (.same AA)))
 ·exact Af (z o (Bm a) _ Ag)
theorem Tl {N:Nat}{p0:(List Int)}{p1:Int}{r:(List Int)}(h0:OK N p0 p1=some r):BH 274 (Yd p0 p1) [] (ow 0 0 r) [As r]:=by
 unfold OK at h0;refine Bb Tryz.func274 AA (AS AA (Ab λM x=>D9 0 ([]:List Int) eI Ay AA (AK AA (AR x (AB λD y=>AS AA (bs h0 λz a h0=>?_))))));have E:∀{g},JJ z g ⟨28,AJ [(5,ow 0 0 g)],[As g]⟩ D:=by
  rintro _ ⟨⟩ s A;try dsimp only at h0
  refine y _ (AH A (AS AA ?_));obtain rfl:=Sh.Av h0;exact rt [(4,ow 0 0 z)]
 refine AI (Fh (Ii p0 p1) (λh i=>⟨28,AJ [(0,ls eI p0),(1,i64 p1),(5,ow 0 0 i),(6,i64 h)],[ro 0 3 1 eI i]⟩) N 0 [] a Ag ?_);intro n h i a;rw[Ii]at a;refine AB λG j=>Ab λH k=>AM 2 AA (Bd AA (AK AA (AR k ?_)));refine An a ?_ ?_<;>intro I a
 ·refine AG (j _ (AB λB o=>bs a λp c a=>?_));have q:∀{b},JJ p b ⟨28,AJ (db p0 p1 b [(6,i64 h)]),[As b]⟩ B:=by
   rintro _ ⟨⟩ s A;exact o _ (AH A (AE AA (AM 3 AA (AD (xi (Sh.w (h+1),p) a Ag)))))
  refine AI (Ab λJ t=>AM 2 AA (bs c λe d c=>DI Ay d AA (AM 3 AA (AR t ?_))));refine An c ?_ ?_<;>intro K c
  ·refine AE AA (AM 3 AA (DI Ay d AA (AK AA (D9 1 [e] eI Ay AA (bs c λf u c=>KA [e] Ay AA (GY AA AA) u (AK AA ?_))))));exact AD (q c (by refine Wk.trans (CH (L:=(db p0 p1 f [(6,i64 h)])) (st':=[As f,Ml e]) (.pure BB (.pure BB .nil)) (.same AA)) ?_;exact Bf [0] (.p .nil) (.same AA)))
  ·exact AG (q c Ag)
 ·exact Af (E a Ag)
theorem Vi {N:Nat}{zb:AL->(List Int)->Block->(List Int)->(List Int)->Option (Block)}(hrec_spec_countBlock :∀{p0:AL} {p1:(List Int)} {p2:Block} {p3:(List Int)} {p4:(List Int)} {r:Block},zb p0 p1 p2 p3 p4=some r->BH 132 (mD p0 p1 p2 p3 p4) [] (DN r) []){s0:(List Int)}{s1:(List Int)}{p0:AL}{p2:(List Int)}{p3:Block}{p5:(List Int)}{r:Block}(h0:LB N zb s0 s1 p0 p2 p3 p5=some r):BH 252 [Gz p0,ow 0 0 s0,ls eI p2,DN p3,ow 1 0 s1,ls eI p5] (YF s0 s1) (DN r) (YF s0 s1):=by
 unfold LB at h0;refine BW.wk (r0:=(DN r)) (st0:=(Cf s0 s1 [O0 r.steps r.result])) (Bb Tryz.func252 AA (Ab λK1 k1=>CY 2 AA (Ac (Wk.Db (L:=[(1,ow 0 0 s0),(2,ls eI p2),(3,DN p3),(4,ow 1 0 s1),(5,ls eI p5),(6,Z0 p0)]) (st':=(Cf s0 s1 [⟨1,30,2,[]⟩])) (id:=2) rfl zL (HL AA) (.same AA) rfl) (CY 3 AA (Ac (Wk.Db (L:=[(1,ow 0 0 s0),(2,ls eI p2),(4,ow 1 0 s1),(5,ls eI p5),(6,Z0 p0),(9,O5 p3)]) (st':=(Cf s0 s1 [⟨1,30,2,[]⟩,jJ])) (id:=3) rfl zG (HL AA) (.same AA) rfl) (Cm 4 Lr AA (AR k1 (Ab λK2 k2=>AK AA (zz (Dc s0) (Ec Hq AA AA AA) rfl (AK AA (AR k2 (Ab λK3 k3=>AM 2 AA (bs h0 λc k4 h0=>Fw (v':=(ow 5 0 c)) BJ (hb 162) (SB k4) rfl (.own AA AA (λ_=>AA) (.val AA .nil)) rfl (kU DA uM) rfl AA (AK AA (AR k3 (Ab λK5 k5=>AM 2 AA (zz (Dc c) (Ec Hq AA AA AA) rfl (bs h0 λV k6 h0=>CR (hb 130) (SA k6) rfl (AK AA (AR k5 (Ab λK7 k7=>D9 6 ([]:List Int) eI Ay AA (AK AA (AR k7 (Ab λK8 k8=>D9 7 ([]:List Int) eI Ay AA (AK AA (AR k8 (AB λK9 k9=>AS AA (bs h0 λb8 u h0=>?_)))))))))))))))))))))))))))) (Gy (L:=[(0,DN r)]) (st':=(YF s0 s1)) [0,1] AA (by decide) rfl AA (.pure BB (.pure BB uM)) (.same AA));have l0:∀d k,b8=(d,k)->∀s,Wk 2 s ⟨115,AJ ((2,ls eI p2)::fF p5 p0 p3 s0 c V d k []),Cf s0 s1 (Fy::Cf c d [As k])⟩->K9 s:=by
  rintro d k rfl s W;refine k9 _ (AH W (Ab λm1 c6=>D9 6 ([]:List Int) eI Ay AA (AK AA (AR c6 (AB λl1 c7=>AS AA (bs h0 λb9 u h0=>?_))))));have l3:∀e,b9=e->∀s,Wk 2 s ⟨115,AJ [(5,ls eI p5),(6,Z0 p0),(9,O5 p3),(12,E4),(13,Dc s0),(14,ow 3 0 c),(16,ow 4 0 d),(17,ow 5 0 k),(19,ow 6 0 e)],Cf s0 s1 (Fy::Cf c d (Cf k e []))⟩->l1 s:=by
   intro e hq s W;subst b9;refine c7 _ (AH W (Ab λm2 c8=>AK AA (bs h0 λU c9 h0=>HG (rowsP:=[As e]) (rows0:=[As e]) (rows1:=[As e]) (rows2:=[HS U]) (rows1':=[As e]) (rows2':=[HS U]) (st':=(Cf s0 s1 (Fy::Cf c d (Cf k e [HS U])))) (v':=(ow 7 0 U)) [6] BJ (hb 133) (Su c9) rfl (by decide) rfl AA (.pure BB .nil) rfl AA (.pure BB .nil) (.pure (BM Az) .nil) rfl AA (AK AA (JT [(5,ls eI p5),(6,Z0 p0),(9,O5 p3),(12,E4),(13,Dc s0),(14,ow 3 0 c),(16,ow 4 0 d),(19,ow 6 0 e),(94,ow 7 0 U),(95,ls eI k)] (Cf s0 s1 (Fy::Cf c d [⟨1,3,1,[]⟩,As e,HS U])) 5 AA ⟨.rfl,.rfl,.rfl,.rfl,.rfl,.rfl,.rfl,.rfl,.rfl,.Db AA,uM⟩ DA AA (bs h0 λc0 d0 h0=>Dx (ow 8 0 c0) (GC d0) ⟨Ar Az,uM⟩ (bs h0 λa d1 h0=>I4 (l2:=c0) BJ Cb AA AA AA AA (GY AA AA J5) H3 d1 AA (AK AA (AR c8 (AB λm3 d2=>Ci (by kernel_rfl) (bs h0 λg b3 h0=>bs h0 λo b4 h0=>bs h0 λf b5 h0=>FQ (f':=12) (listed':=(bm 12 0)) rfl (by kernel_rfl) (hZ 0 (Gz p0) rfl (Hc I1 AA zH rfl) (hZ 1 (ow 3 0 c) rfl (Au (BY AA)) (hZ 2 (DN p3) rfl (Hc LO AA zH rfl) (hZ 3 (ow 4 0 d) rfl (Au (BY AA)) (hZ 4 (ow 6 0 e) rfl (Au (BY AA)) (hZ 6 (ls eI p5) rfl (Au (BY AA)) (hZ 7 (Dc s0) rfl (Au (BY AA)) (FE (D7 λA32 b=>?_))))))))))))))))))));have p:A32 0 (bm 12 4095) ⟨115,AJ (SQ a [(22,O5 f)]),mS s0 s1 a⟩:=(b _ _ _).2 (by
    refine DQ AA (by kernel_rfl) (d2 _ (AB λl4 X=>Ci (by kernel_rfl) (bs h0 λz d3 h0=>FQ (f':=8) (listed':=(bm 8 0)) rfl (by kernel_rfl) (hZ 0 (ow 3 0 a) rfl (Au (BY AA)) (hZ 1 (O5 f) rfl (Au (GH qf AA AA)) (hZ 2 (T9 f) rfl (Ge R8 AA AA) (hZ 4 (.Bj (pY f) 1) rfl (Au (GH kT AA AA)) (hZ 5 (i64 f.result) rfl (Ge JR AA AA) (FE (D7 λA35 q=>?_))))))))));have D:A35 0 (bm 8 255) ⟨115,AJ [(12,E4)],Cf s0 s1 [O0 z f.result]⟩:=(q _ _ _).2 (by
     refine DQ AA (by kernel_rfl) (X _ ?_);cases h0;exact BP ⟨_,DY [(12,E4)] (.same AA),Lk (.tmp 12) (Yc z f.result) LO AA _ ⟨AA,AA⟩⟩)
    have I:A35 1 (bm 8 127) ⟨115,AJ [(12,E4),(114,.agg [ow 3 0 z,i64 f.result])],mS s0 s1 z⟩:=(q _ _ _).2 (by
     refine ya [7] ⟨?_,uM⟩
     ·refine yo 7 ?_;exact Ac (Wk.Db (L:=[(12,E4),(114,.agg (Yc z f.result))]) (st':=(Cf s0 s1 [Fy,Qd])) (id:=3) rfl zG (BM Az) ⟨.rfl,.agg ⟨.Km AA,.rfl,uM⟩,uM⟩ AA) (CF LO AA (JY q D (by exact Bf [0,1,2] (.p (.p (.w .nil))) (.same AA)))))
    have P:A35 2 (bm 8 63) ⟨115,AJ [(12,E4),(111,ow 3 0 z),(113,i64 f.result)],mS s0 s1 z⟩:=(q _ _ _).2 (by
     refine ya [6] ⟨?_,uM⟩
     ·refine yo 6 ?_;exact zz (.agg [ow 3 0 z,i64 f.result]) (Gs kH kO Lr AA AA) rfl (yd q I))
    have R:A35 3 (bm 8 55) ⟨115,AJ [(12,E4),(108,ow 3 0 a),(110,T9 f),(113,i64 f.result)],mS s0 s1 a⟩:=(q _ _ _).2 (by
     refine ya [3] ⟨?_,uM⟩
     ·refine yo 3 ?_;exact I4 (l2:=f.steps) BJ Cb AA AA AA AA P1 H3 d3 AA (JY q P (by exact EO (L:=[(12,E4),(111,ow 3 0 z),(113,i64 f.result)]) (st':=(mS s0 s1 z)) (.pure AA BB (.pure AA BB (.raw AA AA AA (.pure AA (BM Az) .nil)))) (.same AA))))
    exact (q _ _ _).2 (I6 q R))
   have h:A32 1 (bm 12 2047) ⟨115,AJ (SQ a [(22,Y8),(107,DN f)]),Cf s0 s1 [Fy,HS a,Fy]⟩:=(b _ _ _).2 (by
    refine ya [11] ⟨?_,uM⟩
    ·refine yo 11 ?_;exact CF LO AA (Ac (Wk.Db (L:=(SQ a [(22,O5 f)])) (st':=(Cf s0 s1 [Fy,HS a,jJ])) (id:=4) rfl (show 2<=4 by decide) (HL AA) (.same AA) rfl) (JY b p (by exact Bf [0,1,2,3] (.p (.p (.w (.pure (BM Az) .nil)))) (.same AA)))))
   have y:A32 2 (bm 12 1023) ⟨115,AJ (SQ a [(107,DN f)]),mS s0 s1 a⟩:=(b _ _ _).2 (by
    refine ya [10] ⟨?_,uM⟩
    ·refine yo 10 ?_;exact Cm 4 Lr AA (yd b h))
   have i:A32 2 (bm 12 1535) ⟨115,AJ (SQ a (qB p0 c p3 [(103,ow 6 0 g),(106,ow 7 0 o)])),Cf s0 s1 (Fy::(HS a)::Fy::Cf c g [As o])⟩:=(b _ _ _).2 (by
    refine ya [9] ⟨?_,uM⟩
    ·refine yo 9 ?_;exact JT (SQ a ((22,Y8)::mK p0 c p3 [(103,ow 6 0 g),(106,ow 7 0 o)])) (Cf s0 s1 (Fy::(HS a)::Fy::⟨1,3,1,[]⟩::Cf g o [])) 5 AA ⟨.rfl,.rfl,.rfl,.rfl,.Db AA,.rfl,.rfl,.rfl,uM⟩ DA AA (JT (SQ a ((22,Y8)::mK p0 c p3 [(103,ls eI g),(106,ow 7 0 o)])) (Cf s0 s1 (Fy::(HS a)::Fy::Y9 [As o])) 6 AA ⟨.rfl,.rfl,.rfl,.rfl,.rfl,.rfl,.Db AA,.rfl,uM⟩ DA AA (JT (SQ a ((22,Y8)::mK p0 c p3 [(103,ls eI g),(106,ls eI o)])) (Cf s0 s1 (Fy::(HS a)::Fy::Y9 [⟨1,3,1,[]⟩])) 7 AA ⟨.rfl,.rfl,.rfl,.rfl,.rfl,.rfl,.rfl,.Db AA,uM⟩ DA AA (Px (DN f) (hb 132) (hrec_spec_countBlock b5) rfl (JY b h (by exact Bf [0,1,2,3,4] (.p (.p (.w (.pure (BM Az) (.w .nil))))) (.same AA)))))))
   have A:A32 3 (bm 12 511) ⟨115,AJ (SQ a [(98,Gz p0),(99,ow 4 0 c),(100,DN p3),(103,ow 5 0 g),(106,ow 6 0 o)]),Cf s0 s1 (Fy::(HS a)::Cf c g [As o])⟩:=(b _ _ _).2 (by
    refine ya [9,10] ⟨?_,?_,uM⟩
    ·refine yo 9 ?_;exact JT (SQ a (mK p0 c p3 [(103,ow 5 0 g),(106,ow 6 0 o)])) (Cf s0 s1 (Fy::(HS a)::⟨1,3,1,[]⟩::Cf g o [])) 4 AA ⟨.rfl,.rfl,.rfl,.Db AA,.rfl,.rfl,.rfl,uM⟩ DA AA (JT (SQ a (mK p0 c p3 [(103,ls eI g),(106,ow 6 0 o)])) (Cf s0 s1 (Fy::(HS a)::Y9 [As o])) 5 AA ⟨.rfl,.rfl,.rfl,.rfl,.rfl,.Db AA,.rfl,uM⟩ DA AA (JT (SQ a (mK p0 c p3 [(103,ls eI g),(106,ls eI o)])) (Cf s0 s1 (Fy::(HS a)::Y9 [⟨1,3,1,[]⟩])) 6 AA ⟨.rfl,.rfl,.rfl,.rfl,.rfl,.rfl,.Db AA,uM⟩ DA AA (Px (DN f) (hb 132) (hrec_spec_countBlock b5) rfl (JY b y (by exact Bf [0,1,2,3] (.p (.p (.w (.pure (BM Az) .nil)))) (.same AA))))))
    ·refine yo 10 ?_;exact Cm 7 Lr AA (JY b i (by exact Bf [0,1,2,3,7,4,5,6] (.p (.p (.w (.pure (BM Az) (.w (.p (.p (.p .nil)))))))) (.same AA))))
   have j:A32 3 (bm 12 1279) ⟨115,AJ (SQ a (qB p0 c p3 ((103,ow 6 0 g)::jS p5 s0 []))),Cf s0 s1 (Fy::(HS a)::Fy::Cf c g [])⟩:=(b _ _ _).2 (by
    refine ya [8] ⟨?_,uM⟩
    ·refine yo 8 ?_;exact Dx (ow 7 0 o) (Tl b4) ⟨(Ar λ_=>AA),uM⟩ (yd b i))
   have E:A32 4 (bm 12 255) ⟨115,AJ (SQ a ((98,Gz p0)::(99,ow 4 0 c)::(100,DN p3)::(103,ow 5 0 g)::jS p5 s0 [])),Cf s0 s1 (Fy::(HS a)::Cf c g [])⟩:=(b _ _ _).2 (by
    refine ya [8,10] ⟨?_,?_,uM⟩
    ·refine yo 8 ?_;exact Dx (ow 6 0 o) (Tl b4) ⟨(Ar λ_=>AA),uM⟩ (yd b A)
    ·refine yo 10 ?_;exact Cm 6 Lr AA (JY b j (by exact Bf [0,1,2,3,6,4,5] (.p (.p (.w (.pure (BM Az) (.w (.p (.p .nil))))))) (.same AA))))
   have G:A32 4 (bm 12 1247) ⟨115,AJ (SQ a (qB p0 c p3 ((101,ow 6 0 d)::(102,ow 7 0 e)::jS p5 s0 []))),Cf s0 s1 (Fy::(HS a)::Fy::Cf c d [As e])⟩:=(b _ _ _).2 (by
    refine ya [5] ⟨?_,uM⟩
    ·refine yo 5 ?_;refine KA e Ay AA (GY AA AA) b3 (AD ⟨AA,?_⟩);exact LZ (by refine Wk.trans (EO (L:=(SQ a (qB p0 c p3 ((103,ow 6 0 g)::jS p5 s0 [])))) (st':=(Cf s0 s1 (Fy::(HS a)::Fy::Cf c g [As e]))) (.pure AA BB (.pure AA BB (.raw AA AA AA (.pure AA (BM Az) (.raw AA AA AA (.pure AA BB (.pure AA BB (.pure AA BB .nil)))))))) (.same AA)) ?_;exact Bf [0,1,2,3,4,5,6] (.p (.p (.w (.pure (BM Az) (.w (.p (.p .nil))))))) (.same AA)) (PC (by kernel_rfl) ((b _ _ _).1 j)) rfl)
   have J:A32 5 (bm 12 223) ⟨115,AJ (SQ a ((98,Gz p0)::(99,ow 4 0 c)::(100,DN p3)::(101,ow 5 0 d)::(102,ow 6 0 e)::jS p5 s0 [])),Cf s0 s1 (Fy::(HS a)::Cf c d [As e])⟩:=(b _ _ _).2 (by
    refine ya [5,10] ⟨?_,?_,uM⟩
    ·refine yo 5 ?_;refine KA e Ay AA (GY AA AA) b3 (AD ⟨AA,?_⟩);exact LZ (by refine Wk.trans (EO (L:=(SQ a ((98,Gz p0)::(99,ow 4 0 c)::(100,DN p3)::(103,ow 5 0 g)::jS p5 s0 []))) (st':=(Cf s0 s1 (Fy::(HS a)::Cf c g [As e]))) (.pure AA BB (.pure AA BB (.raw AA AA AA (.pure AA (BM Az) (.pure AA BB (.pure AA BB (.pure AA BB .nil))))))) (.same AA)) ?_;exact Bf [0,1,2,3,4,5] (.p (.p (.w (.pure (BM Az) (.p (.p .nil)))))) (.same AA)) (PC (by kernel_rfl) ((b _ _ _).1 E)) rfl
    ·refine yo 10 ?_;exact Cm 7 Lr AA (JY b G (by exact Bf [0,1,2,3,7,4,5,6] (.p (.p (.w (.pure (BM Az) (.w (.p (.p (.p .nil)))))))) (.same AA))))
   refine (b _ _ _).2 ?_;exact LZ (by refine Wk.trans (EO (L:=((12,E4)::(21,ow 7 0 a)::(98,Gz p0)::(99,ow 3 0 c)::(100,DN p3)::(101,ow 4 0 d)::(102,ow 6 0 e)::jS p5 s0 [])) (st':=(Cf s0 s1 (Fy::Cf c d [⟨0,3,1,[]⟩,As e,HS a,HS c0]))) (.pure AA BB (.pure AA BB (.raw AA AA AA (.pure AA BB (.pure AA BB (.pure AA nN (.pure AA BB (.pure AA (BM Az) (.pure AA (BM Az) .nil))))))))) (.same AA)) ?_;exact Bf [0,1,2,7,3,4,6] (.p (.p (.w (.pure (BM Az) (.p (.p (.p .nil))))))) (.same AA)) (PC (by kernel_rfl) ((b _ _ _).1 J)) rfl
  refine AI (Fh (Ey N s0 p2 V) (λK S=>⟨115,AJ [(2,ls eI p2),(5,ls eI p5),(6,.Bj [ls Ai p0.decls,ls Al p0.AF] 0),(9,.Bj [ls Ba p3.steps,i64 p3.result] 0),(12,.ptr 2 0 0 0),(13,i64 (Sh.len s0)),(14,ow 3 0 c),(15,ls eI V),(16,ow 4 0 d),(17,ow 5 0 k),(19,ow 6 0 S),(20,i64 K)],[ro 0 3 1 eI s0,ro 0 3 1 eI s1,Fy,ro 0 3 1 eI c,ro 0 3 1 eI d,ro 0 3 1 eI k,ro 0 3 1 eI S]⟩) N 0 [] u Ag ?_);intro n K S u;rw[Ey]at u;refine AB λl4 X=>Ab λm4 d4=>AM 2 AA (Bd AA (AK AA (AR d4 ?_)));refine An u ?_ ?_<;>intro m5 u
  ·refine AG (X _ (AB λl5 d5=>bs u λd6 t u=>?_));have d7:∀Y,d6=Y->∀s,Wk 2 s ⟨115,AJ ((2,ls eI p2)::fF p5 p0 p3 s0 c V d k [(19,ow 6 0 Y),(20,i64 K)]),Cf s0 s1 (Fy::Cf c d (Cf k Y []))⟩->l5 s:=by
    intro Y hq s W;subst d6;exact d5 _ (AH W (AE AA (AM 3 AA (AD (xi (Sh.w (K+1),Y) u Ag)))))
   refine AI (AB λl6 d8=>bs t λd9 H t=>?_);have g0:∀c1,d9=c1->∀s,Wk 2 s ⟨115,AJ ((2,ls eI p2)::fF p5 p0 p3 s0 c V d k [(19,ow 6 0 S),(20,i64 K),(86,.bool c1)]),Cf s0 s1 (Fy::Cf c d (Cf k S []))⟩->l6 s:=by
    intro c1 hq s W;subst d9;refine d8 _ (AH W ?_);refine An t ?_ ?_<;>intro m6 t
    ·refine AE AA (AM 4 AA (D9 7 [Sh.w ((Sh.len s0)+K)] eI Ay AA (bs t λc2 g1 t=>KA [Sh.w ((Sh.len s0)+K)] Ay AA (GY AA AA) g1 (AK AA ?_))));exact AD (d7 c2 (Bm t) _ (by refine Wk.trans (EO (L:=((2,ls eI p2)::fF p5 p0 p3 s0 c V d k [(19,ow 6 0 c2),(20,i64 K)])) (st':=(Cf s0 s1 (Fy::Cf c d (Cf k c2 [ro 0 3 1 eI [Sh.w ((Sh.len s0)+K)]])))) (.pure AA BB (.pure AA BB (.raw AA AA AA (.pure AA BB (.pure AA BB (.pure AA BB (.pure AA BB (.pure AA BB .nil)))))))) (.same AA)) ?_;exact Bf [0,1,2,3,4,5,6] (.p (.p (.w (.p (.p (.p (.p .nil))))))) (.same AA)))
    ·exact AG (d7 S (Bm t) _ Ag)
   refine AE AA (AM 2 AA (bs H λm7 g2 H=>DI Ay g2 AA (AM 3 AA ?_)));rcases Sh.Aa H with ⟨Q,H⟩|⟨Q,H⟩
   ·refine Aj Q AA ?_;iterate 3 refine Aj Q rfl ?_
    exact bs H λl7 g3 H=>Iy Q (EH g3) rfl (zt Q AA (AD (g0 l7 (Bm H) _ Ag)))
   ·refine zs Q AA ?_;iterate 4 refine zs Q rfl ?_
    exact zf Q AA (AD (g0 false (Bm H) _ Ag))
  ·exact Af (l3 S (Bm u) _ Ag)
 refine AI (Vl (E2 N s1 p5 V) (λB M O=>⟨115,AJ [(2,ls eI p2),(4,ow 1 0 s1),(5,ls eI p5),(6,.Bj [ls Ai p0.decls,ls Al p0.AF] 0),(9,.Bj [ls Ba p3.steps,i64 p3.result] 0),(12,.ptr 2 0 0 0),(13,i64 (Sh.len s0)),(14,ow 3 0 c),(15,ls eI V),(16,ow 4 0 M),(17,ow 5 0 O),(18,i64 B)],[ro 0 3 1 eI s0,ro 0 3 1 eI s1,Fy,ro 0 3 1 eI c,ro 0 3 1 eI M,ro 0 3 1 eI O]⟩) N 0 [] [] u (Bf [0,1,4,5,6,7] (.p (.p (.w (.p (.p (.p .nil)))))) (.same AA)) ?_);intro n B M O u;rw[E2]at u;refine AB λm8 g4=>Ab λm9 g5=>AM 2 AA (zz (Dc s1) (Ec Hq AA AA AA) rfl (AK AA (AR g5 ?_)));refine An u ?_ ?_<;>intro q0 u
 ·refine AG (g4 _ (AB λl8 g6=>bs u λg7 t u=>?_));have g8:∀Z b0,g7=(Z,b0)->∀s,Wk 2 s ⟨115,AJ ((2,ls eI p2)::(4,ow 1 0 s1)::fF p5 p0 p3 s0 c V Z b0 [(18,i64 B)]),Cf s0 s1 (Fy::Cf c Z [As b0])⟩->l8 s:=by
   rintro Z b0 rfl s W;exact g6 _ (AH W (AE AA (AM 3 AA (AD (xi (Sh.w (B+1),Z,b0) u Ag)))))
  refine AI (AB λl9 g9=>bs t λh4 H t=>?_);have h5:∀c3,h4=c3->∀s,Wk 2 s ⟨115,AJ ((2,ls eI p2)::(4,ow 1 0 s1)::fF p5 p0 p3 s0 c V M O [(18,i64 B),(53,.bool c3)]),Cf s0 s1 (Fy::Cf c M [As O])⟩->l9 s:=by
   intro c3 hq s W;subst h4;refine g9 _ (AH W ?_);refine An t ?_ ?_<;>intro q1 t
   ·refine AE AA (AM 3 AA (bs t λb1 b6 t=>zz (iZ B) (Ls Ay AA b6) rfl (zz (i64 b1) (De JR AA AA (Ef b6) rfl) rfl (D9 6 [b1] eI Ay AA (bs t λc4 h6 t=>KA [b1] Ay AA (GY AA AA) h6 (AK AA ?_))))));exact AD (g8 c4 O (Bm t) _ (by refine Wk.trans (EO (L:=((2,ls eI p2)::(4,ow 1 0 s1)::fF p5 p0 p3 s0 c V c4 O [(18,i64 B)])) (st':=(Cf s0 s1 (Fy::Cf c c4 [As O,Ml b1]))) (.pure AA BB (.pure AA BB (.raw AA AA AA (.pure AA BB (.pure AA BB (.pure AA BB (.pure AA BB .nil))))))) (.same AA)) ?_;exact Bf [0,1,2,3,4,5] (.p (.p (.w (.p (.p (.p .nil)))))) (.same AA)))
   ·refine AE AA (AM 3 AA (bs t λb2 b7 t=>zz (iZ B) (Ls Ay AA b7) rfl (zz (i64 b2) (De JR AA AA (Ef b7) rfl) rfl (D9 6 [b2] eI Ay AA (bs t λc5 h7 t=>KA [b2] Ay AA (GY AA AA) h7 (AK AA ?_))))));exact AD (g8 M c5 (Bm t) _ (by refine Wk.trans (EO (L:=((2,ls eI p2)::(4,ow 1 0 s1)::fF p5 p0 p3 s0 c V M c5 [(18,i64 B)])) (st':=(Cf s0 s1 (Fy::Cf c M [As c5,Ml b2]))) (.pure AA BB (.pure AA BB (.raw AA AA AA (.pure AA BB (.pure AA BB (.pure AA BB (.pure AA BB .nil))))))) (.same AA)) ?_;exact Bf [0,1,2,3,4,5] (.p (.p (.w (.p (.p (.p .nil)))))) (.same AA)))
  refine AE AA (AM 3 AA (bs H λh8 T H=>zz (iZ B) (Ls Ay AA T) rfl (zz (i64 h8) (De JR AA AA (Ef T) rfl) rfl (bs H λq2 h9 H=>CR (hb 131) (EH h9) rfl (AK AA ?_)))));rcases Sh.Aa H with ⟨C,H⟩|⟨C,H⟩
  ·refine zs C AA ?_;iterate 5 refine zs C rfl ?_
   exact zt C AA (AD (h5 true (Bm H) _ Ag))
  ·exact Aj C AA (Aj C AA (Aj C AA (CP (iZ B) C (Ls Ay AA T) (CP (i64 h8) C (De JR AA AA (Ef T) rfl) (bs H λm0 k0 H=>Iy C (EH k0) rfl (zf C AA (AD (h5 m0 (Bm H) _ Ag))))))))
 ·exact Af (l0 M O (Bm u) _ Ag)
theorem VN {N:Nat}{zb:AL->(List Int)->Block->(List Int)->(List Int)->Option (Block)}(hrec_spec_countBlock :∀{p0:AL} {p1:(List Int)} {p2:Block} {p3:(List Int)} {p4:(List Int)} {r:Block},zb p0 p1 p2 p3 p4=some r->BH 132 (mD p0 p1 p2 p3 p4) [] (DN r) []){s0:(List Int)}{s1:(List Int)}{p0:AL}{p2:Step}{p4:(List Int)}{r:Step}(h0:Iu N zb s0 s1 p0 p2 p4=some r):BH 199 [Gz p0,ow 0 0 s0,Hu p2,ow 1 0 s1,ls eI p4] (YF s0 s1) (Hu r) (YF s0 s1):=by
 unfold Iu at h0;refine BW.wk (r0:=(Hu r)) (st0:=(Cf s0 s1 [TL r.op r.num r.BF r.args r.kids])) (Bb Tryz.func199 AA (Ab λK1 Z=>CY 2 AA (Ac (Wk.Db (L:=[(1,ow 0 0 s0),(2,Hu p2),(3,ow 1 0 s1),(4,ls eI p4),(5,Z0 p0)]) (st':=(Cf s0 s1 [⟨1,30,2,[]⟩])) (id:=2) rfl zL (HL AA) (.same AA) rfl) (CY 3 AA (Ac (Wk.Db (L:=[(1,ow 0 0 s0),(3,ow 1 0 s1),(4,ls eI p4),(5,Z0 p0),(7,H4 p2)]) (st':=(Cf s0 s1 [⟨1,30,2,[]⟩,Qd])) (id:=3) rfl zG (HL AA) (.same AA) rfl) (Cm 4 Ot AA (AR Z (Ab λK2 b0=>D9 5 ([]:List Block) BS Kq AA (AK AA (AR b0 (Ab λK3 b1=>AM 4 AA (bs h0 λh b2 h0=>Dx (ow 6 0 h) (SE b2) ⟨(Ar λ_=>AA),uM⟩ (AK AA (AR b1 (AB λK5 b3=>AS AA (bs h0 λH u h0=>?_)))))))))))))))) (Gy (L:=[(0,Hu r)]) (st':=(YF s0 s1)) [0,1] AA (by decide) rfl AA (.pure BB (.pure BB uM)) (.same AA));have b4:∀C,H=C->∀s,Wk 2 s ⟨62,AJ [(7,H4 p2),(10,E4),(11,ow 3 0 C)],Cf s0 s1 [XF,ro 0 48 2 BS C]⟩->K5 s:=by
  intro C hq s hw;subst H;refine b3 _ (AH hw (AB λb7 J=>AH (Wk.Db (L:=[(7,H4 p2),(10,E4),(11,ls BS C)]) (st':=(Cf s0 s1 [XF,jJ])) (id:=3) rfl zG BB ⟨.rfl,.rfl,.Db AA,uM⟩ AA) (Ci (by kernel_rfl) (bs h0 λo K h0=>FQ (f':=10) (listed':=(bm 10 0)) rfl (by kernel_rfl) (hZ 0 (H4 p2) rfl (Au (GH qi AA AA)) (hZ 1 (i64 p2.op) rfl (Ge JR AA AA) (hZ 2 (.Bj (ln p2) 1) rfl (Au (GH kS AA AA)) (hZ 3 (i64 p2.num) rfl (Ge JR AA AA) (hZ 4 (.Bj (ln p2) 3) rfl (Au (GH qd AA AA)) (hZ 5 (ls eI p2.args) rfl (Ge Kl AA AA) (hZ 7 (ls BS C) rfl (Au (BY AA)) (FE (D7 λA13 d=>?_)))))))))))));have i:A13 0 (bm 10 1023) ⟨62,AJ [(10,E4)],Cf s0 s1 [⟨0,80,5,[sS p2 o C]⟩]⟩:=(d _ _ _).2 (by
   refine DQ AA (by kernel_rfl) (J _ ?_);cases h0;exact BP ⟨_,DY [(10,E4)] (.same AA),Lk (.tmp 10) (sS p2 o C) LP AA _ ⟨AA,AA⟩⟩)
  have k:A13 1 (bm 10 511) ⟨62,AJ [(10,E4),(61,.agg [i64 p2.op,i64 p2.num,i64 0,ow 3 0 o,ls BS C])],Cf s0 s1 [XF,As o]⟩:=(d _ _ _).2 (by
   refine ya [9] ⟨?_,uM⟩
   ·refine yo 9 ?_;exact JT [(10,E4),(61,.agg (sS p2 o C))] (Cf s0 s1 [XF,⟨1,3,1,[]⟩]) 3 AA ⟨.rfl,.agg ⟨.rfl,.rfl,.rfl,.Km AA,.rfl,uM⟩,uM⟩ DA AA (CF LP AA (JY d i (by exact Bf [0,1,2] (.p (.p (.w .nil))) (.same AA)))))
  have p:A13 2 (bm 10 255) ⟨62,AJ [(10,E4),(54,i64 p2.op),(56,i64 p2.num),(59,ow 3 0 o),(60,ls BS C)],Cf s0 s1 [XF,As o]⟩:=(d _ _ _).2 (by
   refine ya [8] ⟨?_,uM⟩
   ·refine yo 8 ?_;exact zz (.agg [i64 p2.op,i64 p2.num,i64 0,ow 3 0 o,ls BS C]) (Gs nK pD Ot AA AA) rfl (yd d k))
  have t:A13 3 (bm 10 191) ⟨62,AJ [(10,E4),(54,i64 p2.op),(56,i64 p2.num),(58,ls eI p2.args),(60,ls BS C)],Cf s0 s1 [XF]⟩:=(d _ _ _).2 (by
   refine ya [6] ⟨?_,uM⟩
   ·refine yo 6 ?_;exact Dx (ow 3 0 o) (EG K) ⟨(Ar λ_=>AA),uM⟩ (yd d p))
  refine (d _ _ _).2 ?_;exact yw d t (by exact Bf [0,1,2] (.p (.p (.w .nil))) (.same AA))
 refine AI (Fh (EV N s0 s1 p0 p2 p4 h zb) (λy j=>⟨62,AJ [(1,ow 0 0 s0),(3,ow 1 0 s1),(4,ls eI p4),(5,.Bj [ls Ai p0.decls,ls Al p0.AF] 0),(7,.Bj [i64 p2.op,i64 p2.num,i64 p2.BF,ls eI p2.args,ls BS p2.kids] 0),(10,.ptr 2 0 0 0),(11,ow 3 0 j),(12,ow 4 0 h),(13,i64 y)],[ro 0 3 1 eI s0,ro 0 3 1 eI s1,XF,ro 0 48 2 BS j,ro 0 3 1 eI h]⟩) N 0 [] u (Bf [0,1,4,5,6] (.p (.p (.w (.p (.p .nil))))) (.same AA)) ?_);intro n y j u;rw[EV]at u;refine AB λb8 M=>Ab λb9 O=>AM 3 AA (Bd AA (AK AA (AR O ?_)));refine An u ?_ ?_<;>intro c0 u
 ·refine AG (M _ (AB λc1 P=>AI (Ab λc2 Q=>?_)));refine D9 5 ([]:List Int) eI Ay AA ?_;refine AK AA (AR Q (AB λb5 R=>bs u λS E u=>?_));have T:∀a,S=a->∀s,Wk 2 s ⟨62,AJ (bw s0 s1 p4 p0 p2 j h y [(14,HQ a)]),iV s0 s1 j h⟩->b5 s:=by
   intro a hq s hw;subst S;refine R _ (AH hw (Ci (by kernel_rfl) (bs u λU V u=>bs u λB W u=>bs u λD X u=>FQ (f':=15) (listed':=(bm 15 0)) rfl (by kernel_rfl) (hZ 0 (ow 3 0 j) rfl (Au (BY AA)) (hZ 1 (Gz p0) rfl (Hc I1 AA zH rfl) (hZ 2 (ow 0 0 s0) rfl (Au (BY AA)) (hZ 3 (HQ a) rfl (Au (BY AA)) (hZ 4 (.Bj (ln p2) 4) rfl (Au (GH qt AA AA)) (hZ 5 (lu p2) rfl (Ge fz AA AA) (hZ 6 (i64 y) rfl (Au (BY AA)) (hZ 9 (ow 1 0 s1) rfl (Au (BY AA)) (hZ 10 (ls eI p4) rfl (Au (BY AA)) (FE (D7 λA25 e=>?_))))))))))))));have b:A25 0 (bm 15 32767) ⟨62,AJ (bw s0 s1 p4 p0 p2 D h y []),iV s0 s1 D h⟩:=(e _ _ _).2 (by
    exact DQ AA (by kernel_rfl) (P _ (AE AA (AM 3 AA (AD (xi (Sh.w (y+1),D) u (DY [(1,ow 0 0 s0),(3,ow 1 0 s1),(4,ls eI p4),(5,Z0 p0),(7,H4 p2),(10,E4),(11,ow 3 0 D),(12,ow 4 0 h),(13,NV y)] (.same AA))))))))
   have c:A25 2 (bm 15 8191) ⟨62,AJ (bw s0 s1 p4 p0 p2 j h y [(39,ow 3 0 j),(51,ow 5 0 [B])]),Cf s0 s1 [XF,ro 0 48 2 BS j,As h,ro 0 48 2 BS [B]]⟩:=(e _ _ _).2 (by
    refine ya [13] ⟨?_,uM⟩
    ·refine yo 13 ?_;refine KA [B] Kq AA (GY AA AA) X (AD ⟨AA,?_⟩);refine qY tb 14 AA AA ?_;exact LZ (by refine Wk.trans (EO (L:=(bw s0 s1 p4 p0 p2 D h y [])) (st':=(Cf s0 s1 [XF,ro 0 48 2 BS D,As h,ro 0 48 2 BS [B]])) (.pure AA BB (.pure AA BB (.raw AA AA AA (.pure AA BB (.pure AA BB (.pure AA BB .nil)))))) (.same AA)) ?_;exact Bf [0,1,2,3,4] (.p (.p (.w (.p (.p .nil))))) (.same AA)) (PC (by kernel_rfl) ((e _ _ _).1 b)) rfl)
   have f:A25 3 (bm 15 4095) ⟨62,AJ (bw s0 s1 p4 p0 p2 j h y [(39,ow 3 0 j),(50,DN B)]),iV s0 s1 j h⟩:=(e _ _ _).2 (by
    refine ya [12] ⟨?_,uM⟩
    ·refine yo 12 ?_;refine D9 5 [B] BS Kq AA ?_;exact yd e c)
   have g:A25 4 (bm 15 2047) ⟨62,AJ (bw s0 s1 p4 p0 p2 j h y [(39,ow 3 0 j),(40,Gz p0),(41,ow 0 0 s0),(42,HQ a),(47,DN U),(48,ow 1 0 s1),(49,ls eI p4)]),iV s0 s1 j h⟩:=(e _ _ _).2 (by
    refine ya [11] ⟨?_,uM⟩
    ·refine yo 11 ?_;refine ZS (rows0:=(YF s0 s1)) (rows1:=(YF s0 s1)) (st':=(iV s0 s1 j h)) (v':=(DN B)) [0,1] BJ (hb 252) (Vi hrec_spec_countBlock W) rfl (by decide) rfl AA (.pure BB (.pure BB .nil)) rfl AA (.pure BB (.pure BB .nil)) .nil AA AA ?_;exact yd e f)
   exact (e _ _ _).2 (aY 7 (.Bj (BS U) 0) rfl (Hl Kq AA V) (qY tb 8 AA AA (I6 e g)))
  refine AS AA ?_;refine An E ?_ ?_<;>intro c3 E
  ·refine Ci (by kernel_rfl) ?_;refine bs E λb6 G E=>bs E λI Y E=>?_;refine FQ (f':=8) (listed':=(bm 8 0)) rfl (by kernel_rfl) ?_;refine hZ 0 (Z0 p0) rfl (Au (GH qR AA AA)) ?_;refine hZ 1 (DH p0.decls) rfl (Ge rJ AA AA) ?_;refine hZ 2 (ow 4 0 h) rfl (Au (BY AA)) ?_;refine hZ 3 (i64 y) rfl (Au (BY AA)) ?_;refine FE (D7 λA30 z=>?_);have q:A30 0 (bm 8 255) ⟨62,AJ (bw s0 s1 p4 p0 p2 j h y [(14,ls eI I)]),iV s0 s1 j h⟩:=(z _ _ _).2 (by
    exact DQ AA (by kernel_rfl) (T I (Bm E) _ (DY (bw s0 s1 p4 p0 p2 j h y [(14,ls eI I)]) (.same AA))))
   have A:A30 2 (bm 8 63) ⟨62,AJ (bw s0 s1 p4 p0 p2 j h y [(33,DH p0.decls),(37,i64 b6)]),iV s0 s1 j h⟩:=(z _ _ _).2 (by
    refine ya [6] ⟨?_,uM⟩
    ·refine yo 6 ?_;refine CR (hb 180) (Ma Y) rfl (AD ⟨AA,?_⟩);refine qY tb 7 AA AA ?_;exact I6 z q)
   refine (z _ _ _).2 (aY 4 (.ptr 4 0 (Int.toNat y) 0) rfl (Ls Ay AA G) (Ux 5 AA AA (by kernel_rfl) (R5 JR AA AA (Ef G) rfl) ?_));exact yw z A (by exact Bf [0,1,2,3,4] (.p (.p (.w (.p (.p .nil))))) (.same AA))
  ·exact AG (T [] (Bm E) _ (by refine Wk.trans (Wk.Db (L:=(bw s0 s1 p4 p0 p2 j h y [(14,SY)])) (st':=(Cf s0 s1 (XF::(ro 0 48 2 BS j)::bV h []))) (id:=5) rfl (show 2<=5 by decide) BB ⟨.rfl,.rfl,.rfl,.rfl,.rfl,.rfl,.rfl,.rfl,.rfl,.Db AA,uM⟩ AA) ?_;exact Bf [0,1,2,3,4] (.p (.p (.w (.p (.p .nil))))) (.same AA)))
 ·exact Af (b4 j (Bm u) _ (Bf [0,1,2,3] (.p (.p (.w (.p .nil)))) (.same AA)))
theorem X8 {N:Nat}{p0:(List Int)}{p1:(List Int)}{r:(List Int)}(h0:NN N p0 p1=some r):BH 253 [ls eI p0,ls eI p1] [] (ow 0 0 r) [As r]:=by
 unfold NN at h0;refine Bb Tryz.func253 AA (AS AA (Ab λP y=>D9 0 ([]:List Int) eI Ay AA (AK AA (AR y (AB λE z=>AS AA (bs h0 λA a h0=>?_))))));have F:∀{g},JJ A g ⟨28,AJ [(5,ow 0 0 g)],[As g]⟩ E:=by
  rintro _ ⟨⟩ s B;try dsimp only at h0
  refine z _ (AH B (AS AA ?_));obtain rfl:=Sh.Av h0;exact rt [(4,ow 0 0 A)]
 refine AI (Fh (Ht N p0 p1) (λh i=>⟨28,AJ [(0,ls eI p0),(1,ls eI p1),(5,ow 0 0 i),(6,i64 h)],[ro 0 3 1 eI i]⟩) N 0 [] a Ag ?_);intro n h i a;rw[Ht]at a;refine AB λH j=>Ab λI k=>AM 2 AA (Bd AA (AK AA (AR k ?_)));refine An a ?_ ?_<;>intro J a
 ·refine AG (j _ (AB λC o=>bs a λp b a=>?_));have q:∀{c},JJ p c ⟨28,AJ [(0,ls eI p0),(1,ls eI p1),(5,ow 0 0 c),(6,i64 h)],[As c]⟩ C:=by
   rintro _ ⟨⟩ s B;exact o _ (AH B (AE AA (AM 3 AA (AD (xi (Sh.w (h+1),p) a Ag)))))
  refine AI (Ab λK t=>AM 3 AA (bs b λe d b=>DI Ay d AA (AK AA (bs b λM u b=>CR (hb 131) (EH u) rfl (AR t ?_)))));refine An b ?_ ?_<;>intro O b
  ·refine AE AA (AM 3 AA (DI Ay d AA (AK AA (D9 1 [e] eI Ay AA (bs b λf x b=>KA [e] Ay AA (GY AA AA) x (AK AA ?_))))));exact AD (q b (by refine Wk.trans (CH (L:=[(0,ls eI p0),(1,ls eI p1),(5,ow 0 0 f),(6,i64 h)]) (st':=[As f,Ml e]) (.pure BB (.pure BB .nil)) (.same AA)) ?_;exact Bf [0] (.p .nil) (.same AA)))
  ·exact AG (q b Ag)
 ·exact Af (F a Ag)
theorem RH {N:Nat}{p0:(List Int)}{p1:Int}{r:(List Int)}(h0:Ka N p0 p1=some r):BH 202 (Yd p0 p1) [] (ow 0 0 r) [As r]:=by
 unfold Ka at h0;refine Bb Tryz.func202 AA (AS AA (Ab λP y=>D9 0 ([]:List Int) eI Ay AA (AK AA (AR y (AB λE z=>AS AA (bs h0 λA a h0=>?_))))));have F:∀{g},JJ A g ⟨28,AJ [(5,ow 0 0 g)],[As g]⟩ E:=by
  rintro _ ⟨⟩ s B;try dsimp only at h0
  refine z _ (AH B (AS AA ?_));obtain rfl:=Sh.Av h0;exact rt [(4,ow 0 0 A)]
 refine AI (Fh (HJ p0 p1) (λh i=>⟨28,AJ [(0,ls eI p0),(1,i64 p1),(5,ow 0 0 i),(6,i64 h)],[ro 0 3 1 eI i]⟩) N 0 [] a Ag ?_);intro n h i a;rw[HJ]at a;refine AB λH j=>Ab λI k=>AM 2 AA (Bd AA (AK AA (AR k ?_)));refine An a ?_ ?_<;>intro J a
 ·refine AG (j _ (AB λC o=>bs a λp d a=>?_));have q:∀{b},JJ p b ⟨28,AJ (db p0 p1 b [(6,i64 h)]),[As b]⟩ C:=by
   rintro _ ⟨⟩ s B;exact o _ (AH B (AE AA (AM 3 AA (AD (xi (Sh.w (h+1),p) a Ag)))))
  refine AI (Ab λK t=>AM 2 AA (bs d λc e d=>DI Ay e AA (AM 3 AA (AR t ?_))));refine An d ?_ ?_<;>intro u d
  ·have M:decide (c=p1)=false:=by simpa using u
   refine AE AA (AM 3 AA (DI Ay e AA (AK AA (D9 1 [c] eI Ay AA (bs d λf x d=>KA [c] Ay AA (GY AA AA) x (AK AA ?_))))));exact AD (q d (by refine Wk.trans (CH (L:=(db p0 p1 f [(6,i64 h)])) (st':=[As f,Ml c]) (.pure BB (.pure BB .nil)) (.same AA)) ?_;exact Bf [0] (.p .nil) (.same AA)))
  ·have O:decide (c=p1)=true:=by simpa using u
   exact AG (q d Ag)
 ·exact Af (F a Ag)
theorem U1 {N:Nat}{p0:AL}{p1:(List Int)}{p2:Step}{p3:(List Int)}{p4:(List Int)}{r:(List Int)}(h0:G0 N p0 p1 p2 p3 p4=some r):BH 200 [Gz p0,ls eI p1,Hu p2,ls eI p3,ls eI p4] [] (ow 0 0 r) [As r]:=by
 unfold G0 at h0;refine Bb Tryz.func200 AA (Ab λK1 I=>CY 0 AA (CY 1 AA (AK AA (AR I (AB λK2 J=>AB λK3 K=>bs h0 λZ c h0=>?_)))));have M5:∀{M},JJ Z M ⟨55,AJ (hP p1 p3 p4 [(20,.bool M)]),Zs p0 p2 []⟩ K3:=by
  rintro _ ⟨⟩ s j;refine K _ (AH j ?_);refine An h0 ?_ ?_<;>clear h0<;>intro b6 h0
  ·refine Ab λK7 P=>AM 2 AA (bs h0 λQ R h0=>Dx (ow 2 0 Q) (X8 R) ⟨(Ar λ_=>AA),uM⟩ (AK AA (AR P ?_)));obtain rfl:=Sh.Av h0;exact BP (xr (Bf (L:=[(10,ow 0 0 Q)]) (st':=[As Q]) [2] (.p .nil) ⟨.rfl,uM⟩))
  ·refine AG (J _ (Ab λK9 S=>AK AA (bs h0 λo p h0=>Dx (ow 2 0 o) (EG p) ⟨(Ar λ_=>AA),uM⟩ (AK AA (AR S (AB λT q=>AS AA (bs h0 λk c h0=>?_)))))));have U:∀{g},JJ k g ⟨55,AJ [(11,ow 0 0 g)],[As g]⟩ T:=by
    rintro _ ⟨⟩ s j;try dsimp only at h0
    refine q _ (AH j (AS AA ?_));obtain rfl:=Sh.Av h0;exact rt [(10,ow 0 0 k)]
   refine AI (Fh (FC N p0 p1 p2 p3 p4) (λe d=>⟨55,AJ [(1,ls eI p1),(3,ls eI p3),(4,ls eI p4),(5,.ptr 0 0 0 0),(7,.ptr 1 0 0 0),(11,ow 2 0 d),(12,i64 e)],[Ua p0.decls p0.AF,TL p2.op p2.num p2.BF p2.args p2.kids,ro 0 3 1 eI d]⟩) N 0 o c Ag ?_);intro n e d c;rw[FC]at c;refine AB λb0 t=>Ab λb1 u=>AM 3 AA (Bd AA (AK AA (AR u ?_)));refine An c ?_ ?_<;>intro b2 c
   ·refine AG (t _ (AB λV x=>bs c λy f c=>?_));have z:∀{h},JJ y h ⟨55,AJ (hP p1 p3 p4 [(11,ow 2 0 h),(12,i64 e)]),Zs p0 p2 [As h]⟩ V:=by
     rintro _ ⟨⟩ s j;exact x _ (AH j (AE AA (AM 3 AA (AD (xi (Sh.w (e+1),y) c Ag)))))
    refine AI (AB λW A=>bs f λB i f=>?_);have C:∀{l},JJ B l ⟨55,AJ (hP p1 p3 p4 [(11,ow 2 0 d),(12,i64 e),(46,.bool l)]),Zs p0 p2 [As d]⟩ W:=by
     rintro _ ⟨⟩ s j;refine A _ (AH j ?_);refine An f ?_ ?_<;>intro b3 f
     ·exact AE AA (AM 4 AA (bs f λX D f=>DI Ay D AA (AK AA (JT (hP p1 p3 p4 [(12,i64 e),(47,ls eI d),(52,i64 X)]) (Zs p0 p2 [⟨1,3,1,[]⟩]) 2 AA ⟨.rfl,.rfl,.rfl,.rfl,.rfl,.rfl,.Db AA,.rfl,uM⟩ DA AA (bs f λE F f=>Dx (ow 3 0 E) (RH F) ⟨(Ar λ_=>AA),uM⟩ (AK AA (AD (z f (Bf [0,1,3] (.w (.w (.p .nil))) (.same AA))))))))))
     ·exact AG (z f Ag)
    refine AE AA (AM 4 AA (bs i λb4 G i=>CR (hb 250) (Ou G) rfl (AK AA ?_)));rcases Sh.Aa i with ⟨a,i⟩|⟨a,i⟩
    ·refine Aj a AA ?_;iterate 4 refine Aj a rfl ?_
     exact bs i λY H i=>Iy a (Q5 H) rfl (Aj a AA (zt a AA (AD (C i Ag))))
    ·refine zs a AA ?_;iterate 6 refine zs a rfl ?_
     exact zf a AA (AD (C i Ag))
   ·exact Af (U c (Bf [2] (.p .nil) (.same AA)))
 refine AE AA (AM 4 AA ?_);rcases Sh.Aa c with ⟨b,c⟩|⟨b,c⟩
 ·exact zs b AA (zs b AA (zs b AA (zt b AA (AD (M5 c Ag)))))
 ·exact Aj b AA (Aj b AA (Aj b AA (zf b AA (AD (M5 c Ag)))))
theorem VD {N:Nat}{p0:AL}{p1:Step}{p2:(List Int)}{p3:(List Int)}{r:(List Int)}(h0:Hv N p0 p1 p2 p3=some r):BH 201 [Gz p0,Hu p1,ls eI p2,ls eI p3] [] (ow 0 0 r) [As r]:=by
 unfold Hv at h0;refine Bb Tryz.func201 AA (Ab λK1 I=>CY 0 AA (CY 1 AA (AK AA (AR I (Ab λK2 J=>D9 2 ([]:List Int) eI Ay AA (AK AA (AR J (AB λU K=>AS AA (bs h0 λM d h0=>?_)))))))));have V:∀{o},JJ M o ⟨50,AJ [(9,ow 0 0 o)],[As o]⟩ U:=by
  rintro _ ⟨⟩ s p;try dsimp only at h0
  refine K _ (AH p (AS AA ?_));obtain rfl:=Sh.Av h0;exact rt [(8,ow 0 0 M)]
 refine AI (Fh (E9 N p0 p1 p2 p3) (λk g=>⟨50,AJ [(2,ls eI p2),(3,ls eI p3),(4,.ptr 0 0 0 0),(5,.ptr 1 0 0 0),(9,ow 2 0 g),(10,i64 k)],[Ua p0.decls p0.AF,TL p1.op p1.num p1.BF p1.args p1.kids,ro 0 3 1 eI g]⟩) N 0 [] d Ag ?_);intro n k g d;rw[E9]at d;refine AB λW q=>Ab λX t=>AM 3 AA (Bd AA (AK AA (AR t ?_)));refine An d ?_ ?_<;>intro Y d
 ·refine AG (q _ (AB λO u=>bs d λx e d=>?_));have y:∀{f},JJ x f ⟨50,AJ [(2,ls eI p2),(3,ls eI p3),(4,Ax),(5,HI),(9,ow 2 0 f),(10,i64 k)],Zs p0 p1 [As f]⟩ O:=by
   rintro _ ⟨⟩ s p;exact u _ (AH p (AE AA (AM 3 AA (AD (xi (Sh.w (k+1),x) d Ag)))))
  refine AI (AB λP z=>bs e λA c e=>?_);have i:∀{j},JJ A j ⟨50,AJ [(2,ls eI p2),(3,ls eI p3),(4,Ax),(5,HI),(9,ow 2 0 g),(10,i64 k),(41,.bool j)],Zs p0 p1 [As g]⟩ P:=by
   rintro _ ⟨⟩ s p;refine z _ (AH p ?_);refine An e ?_ ?_<;>intro Z e
   ·exact AE AA (AM 4 AA (bs e λQ B e=>DI Ay B AA (AK AA (JT [(2,ls eI p2),(3,ls eI p3),(4,Ax),(5,HI),(10,i64 k),(42,ls eI g),(47,i64 Q)] (Zs p0 p1 [⟨1,3,1,[]⟩]) 2 AA ⟨.rfl,.rfl,.rfl,.rfl,.rfl,.Db AA,.rfl,uM⟩ DA AA (bs e λC D e=>Dx (ow 3 0 C) (MJ D) ⟨(Ar λ_=>AA),uM⟩ (AK AA (AD (y e (Bf [0,1,3] (.w (.w (.p .nil))) (.same AA))))))))))
   ·exact AG (y e Ag)
  refine AE AA (AM 3 AA (bs c λb0 E c=>CR (hb 216) (Of E) rfl (AK AA ?_)));rcases Sh.Aa c with ⟨b,c⟩|⟨b,c⟩
  ·refine Aj b AA ?_;iterate 3 refine Aj b rfl ?_
   refine bs c λF h c=>CP (LR F) b (Hl Ay AA h) (Aj b AA (bs c λb1 G c=>Iy b (EH G) rfl (zt b AA (AK AA ?_))));rcases Sh.Aa c with ⟨a,c⟩|⟨a,c⟩
   ·refine Aj a AA ?_;iterate 3 refine Aj a rfl ?_
    exact CP (LR F) a (Hl Ay AA h) (Aj a AA (bs c λR H c=>Iy a (EH H) rfl (Aj a AA (zt a AA (AD (i c Ag))))))
   ·refine zs a AA ?_;iterate 7 refine zs a rfl ?_
    exact zf a AA (AD (i c Ag))
  ·refine zs b AA ?_;iterate 6 refine zs b rfl ?_
   refine zf b AA (AK AA ?_);iterate 8 refine zs rfl rfl ?_
   exact zf AA AA (AD (i c Ag))
 ·exact Af (V d (Bf [2] (.p .nil) (.same AA)))
theorem SS {N:Nat}{zb:AL->(List Int)->Block->(List Int)->(List Int)->Option (Block)}(hrec_spec_countBlock :∀{p0:AL} {p1:(List Int)} {p2:Block} {p3:(List Int)} {p4:(List Int)} {r:Block},zb p0 p1 p2 p3 p4=some r->BH 132 (mD p0 p1 p2 p3 p4) [] (DN r) []){p0:AL}{p1:(List Int)}{p2:Block}{p3:(List Int)}{p4:(List Int)}{r:Block}(h0:HE N zb p0 p1 p2 p3 p4=some r):BH 132 (mD p0 p1 p2 p3 p4) [] (DN r) []:=by
 unfold HE at h0;refine FK AA (Bb Tryz.func132 AA (Ab λK1 l8=>CY 0 AA (CY 1 AA (Cm 2 Lr AA (AR l8 (Ab λK2 l9=>?_))))));refine Oc (m:=3) (l:=([]:List Step)) (enc:=Ba) BJ Cb (by decide) rfl AA (by simp only[List.map,CE];rfl) rfl AA AA ?_;refine AK AA (AR l9 (Ab λK3 m0=>AK AA (bs h0 λq4 m1 h0=>Dx (ow 4 0 q4) (EG m1) ⟨(Ar λ_=>AA),uM⟩ (AK AA (AR m0 (Ab λK5 m2=>AK AA (bs h0 λq6 m3 h0=>Dx (ow 5 0 q6) (EG m3) ⟨(Ar λ_=>AA),uM⟩ (AK AA (AR m2 (AB λK7 m4=>AS AA (bs h0 λU k h0=>?_)))))))))));have m5:∀t F G,U=(t,F,G)->∀s,Wk 0 s ⟨149,AJ ((4,ls eI p4)::oW t [(12,ow 3 0 F),(13,ow 4 0 G)]),((O0 p2.steps p2.result)::Fy::(HS t)::Cf F G [])⟩->K7 s:=by
  rintro t F G rfl s H;refine m4 _ (AH H (AB λm6 b5=>bs h0 λb6 k h0=>?_));have b7:∀{z},JJ b6 z ⟨149,AJ (oW z []),[O0 p2.steps p2.result,Fy,HS z]⟩ m6:=by
   rintro _ ⟨⟩ s H;refine b5 _ (AH H (Ab λq5 b8=>AM 3 AA (zz (.agg [ow 2 0 b6,i64 p2.result]) (Gs kH kO Lr AA AA) rfl (Ac (Wk.Db (L:=[(10,HI),(148,.agg (Yc b6 p2.result))]) (st':=[O0 p2.steps p2.result,Fy,Qd]) (id:=2) rfl zE (BM Az) ⟨.rfl,.agg ⟨.Km AA,.rfl,uM⟩,uM⟩ AA) (CF LO AA (AR b8 ?_))))));cases h0;exact BP ⟨_,Wk.refl _ _,Lk (.tmp 10) (Yc b6 p2.result) LO AA _ AA⟩
  refine AB λm7 b9=>bs k λc0 b k=>?_;have V:∀{W},JJ c0 W ⟨149,AJ (oW t [(138,.bool W)]),[O0 p2.steps p2.result,Fy,HS t]⟩ m7:=by
   rintro _ ⟨⟩ s H;refine b9 _ (AH H ?_);refine An k ?_ ?_<;>intro q7 k
   ·refine AE AA (AM 3 AA (bs k λO c1 k=>Px (Hu O) (hb 203) (Kr c1) rfl ?_));refine Oc (m:=3) (l:=[O]) (enc:=Ba) BJ Cb (by decide) rfl AA (by simp only[List.map,CE];rfl) rfl AA AA ?_;refine bs k λX c2 k=>I4 (l2:=[O]) BJ Cb AA AA AA AA (GY AA AA J5) H3 c2 AA (AK AA ?_);exact AD (b7 k (by refine Wk.trans (CH (L:=(oW X [])) (st':=[O0 p2.steps p2.result,Fy,HS X,ro 0 80 5 Ba [O]]) (.raw AA AA (.raw AA AA (.pure (BM Az) (.pure (BM Az) .nil)))) (.same AA)) ?_;exact Bf [0,1,2] (.w (.w (.pure (BM Az) .nil))) (.same AA)))
   ·exact AG (b7 k Ag)
  refine AE AA (AM 3 AA (bs b λc3 T b=>zz (.ptr 3 0 (Int.toNat p2.result) 0) (Ls Ay AA T) rfl (zz (i64 c3) (De JR AA AA (Ef T) rfl) rfl (AM 2 AA ?_))));rcases Sh.Aa b with ⟨g,b⟩|⟨g,b⟩
  ·refine Aj g AA (Aj g AA (Aj g AA (bs b λm8 c4 b=>Iy g (EH c4) rfl (Aj g AA ?_))));rcases Sh.Aa b with ⟨p,b⟩|⟨p,b⟩
   ·refine zs p AA ?_;iterate 4 refine zs p rfl ?_
    exact CP (.bool true) g (E6 AA p AA) (zt g AA (AD (V b (Bf [0,1,2] (.w (.w (.pure (BM Az) .nil))) (.same AA)))))
   ·exact Aj p AA (Aj p AA (Aj p AA (JT (oW t [(126,.bool (!decide (c3=0))),(131,.bool m8),(132,ls eI G),(134,i64 p2.result)]) ((O0 p2.steps p2.result)::Fy::(HS t)::bV F []) 4 AA ⟨.rfl,.rfl,.rfl,.rfl,.rfl,.Db AA,.rfl,uM⟩ DA AA (bs b λc5 c6 b=>Iy p (EH c6) rfl (Aj p AA (CP (.bool (!c5)) g (Eg AA p AA) (zt g AA (AD (V b (Bf [0,1,2] (.w (.w (.pure (BM Az) .nil))) (.same AA)))))))))))
  ·refine zs g AA ?_;iterate 4 refine zs g rfl ?_
   iterate 5 refine zn rfl ?_
   exact zs g AA (zf g AA (AD (V b (Bf [0,1,2] (.w (.w (.pure (BM Az) .nil))) (.same AA)))))
 refine AI (LK (σ:=Int×(List Step)×(List Int)×(List Int)) (λn v=>DS N p0 p2 p4 zb n v.1 v.2.1 v.2.2.1 v.2.2.2=some U) (λ(u,A,a,f)=>⟨149,AJ [(4,ls eI p4),(5,.ptr 0 0 0 0),(7,.ptr 1 0 0 0),(10,.ptr 2 0 0 0),(11,ow 3 0 A),(12,ow 4 0 a),(13,ow 5 0 f),(14,i64 u)],[Ua p0.decls p0.AF,O0 p2.steps p2.result,Fy,ro 0 80 5 Ba A,ro 0 3 1 eI a,ro 0 3 1 eI f]⟩) N (0,[],q4,q6) k Ag (λ_ hv=>by rw[DS]at hv;cases hv) ?_);rintro n ⟨u,A,a,f⟩ k;rw[DS]at k;refine AB λq8 c7=>Ab λq9 c8=>AM 3 AA (Bd AA (AK AA (AR c8 ?_)));refine An k ?_ ?_<;>intro t0 k
 ·refine AG (c7 _ (AB λm9 c9=>bs k λd0 b k=>?_));have Y:∀I J K,d0=(I,J,K)->∀s,Wk 0 s ⟨149,AJ (en p4 I J K u []),V2 p0 p2 ((HS I)::Cf J K [])⟩->m9 s:=by
   rintro I J K rfl s H;exact c9 _ (AH H (AE AA (AM 3 AA (AD (xi (Sh.w (u+1),I,J,K) k Ag)))))
  refine AI (Ab λt1 d1=>AM 3 AA (bs b λc d2 b=>zz (H4 c) (E1 Cb AA AA d2 (CE _) rfl) rfl (AK AA (Cm 6 Ot AA (CF LP AA (AR d1 (Ab λt2 d3=>AK AA (zz (Dc a) (Ec Hq AA AA AA) rfl (AK AA (AR d3 (Ab λt3 d4=>AM 3 AA (bs b λd d5 b=>Fw (v':=(i64 d)) BJ (hb 194) (P8 (λh=>Po h) d5) rfl (.val AA (.own AA AA (λ_=>AA) (.val AA .nil))) rfl uM AA AA (AK AA (AR d4 (Ab λt4 d6=>AM 5 AA (D9 7 ([]:List Int) eI Ay AA (JT (en p4 A a f u ((15,lg)::bX a d [(44,DN p2),(46,i64 (Sh.w ((Sh.len a)+1))),(48,NV u),(49,SY)])) (V2 p0 p2 ((HS A)::Cf a f (sG c []))) 7 AA ⟨.rfl,.rfl,.rfl,.rfl,.rfl,.rfl,.rfl,.rfl,.rfl,.rfl,.rfl,.rfl,.rfl,.rfl,.Db AA,uM⟩ DA AA (bs b λt5 d7 b=>CR (hb 196) (Qk d7) rfl (AK AA (bs b λo d8 b=>Dx (ow 8 0 o) (ZC d8) ⟨(Ar λ_=>AA),uM⟩ (AK AA (AR d6 (Ab λt6 d9=>AM 6 AA (bs b λg0 g1 b=>Fw (v':=(ow 9 0 g0)) BJ (hb 198) (UG g1) rfl (.val AA (.own AA AA (λ_=>AA) (.val AA (.own AA AA (λ_=>AA) (.own AA AA DA .nil))))) rfl (kU DA uM) rfl AA (JT (nE p4 ((12,ow 4 0 a)::(13,ow 5 0 f)::(14,i64 u)::(15,lg)::bX a d [(18,ow 8 0 o),(53,ow 3 0 A),(59,ls eI g0)])) (V2 p0 p2 ((HS A)::Cf a f (sG c (bV o [])))) 9 AA ⟨.rfl,.rfl,.rfl,.rfl,.rfl,.rfl,.rfl,.rfl,.rfl,.rfl,.rfl,.rfl,.Db AA,uM⟩ DA AA (bs b λB g2 b=>Dx (ow 10 0 B) (GC g2) ⟨Ar Az,uM⟩ (bs b λZ g3 b=>I4 (l2:=B) BJ Cb AA AA AA AA (GY AA AA J5) H3 g3 AA (AK AA (AR d9 (Ab λt7 g4=>AM 6 AA (JT (nE p4 ((12,ow 4 0 a)::(13,ow 5 0 f)::(14,i64 u)::(15,lg)::bX a d [(18,ls eI o),(62,ow 3 1 Z),(63,Gz p0),(64,ow 4 0 a),(65,Hu c),(66,ow 5 0 f),(67,ls eI o)])) (V2 p0 p2 ((ro 1 80 5 Ba Z)::Cf a f ((TL c.op c.num c.BF c.args c.kids)::Y9 [⟨1,3,1,[]⟩,HS B]))) 8 AA ⟨.rfl,.rfl,.rfl,.rfl,.rfl,.rfl,.rfl,.rfl,.rfl,.rfl,.Db AA,.rfl,.rfl,.rfl,.rfl,.rfl,.Db AA,uM⟩ DA AA (bs b λD g5 b=>ZS (rows0:=(YF a f)) (rows1:=(YF a f)) (st':=(V2 p0 p2 ((ro 1 80 5 Ba Z)::Cf a f ((TL c.op c.num c.BF c.args c.kids)::Y9 [⟨1,3,1,[]⟩,HS B])))) (v':=(Hu D)) [4,5] BJ (hb 199) (VN hrec_spec_countBlock g5) rfl (by decide) rfl AA (.pure BB (.pure BB .nil)) rfl AA (.pure BB (.pure BB .nil)) .nil AA AA ?_))))))))))))))))))))))))))))))));refine Oc (m:=11) (l:=[D]) (enc:=Ba) BJ Cb (by decide) rfl AA (by simp only[List.map,CE];rfl) rfl AA AA ?_;refine bs b λP g6 b=>I4 (l2:=[D]) BJ Cb AA AA AA AA (GY AA AA J5) H3 g6 AA (AK AA (AR g4 (Ab λt8 g7=>AM 5 AA (JT (nE p4 ((11,ow 3 2 P)::(12,ow 4 0 a)::(14,i64 u)::(15,lg)::bX a d [(18,ls eI o),(71,Gz p0),(72,ow 4 0 a),(73,Hu c),(74,ls eI f),(75,ls eI o)])) (V2 p0 p2 ((ro 2 80 5 Ba P)::bV a ((TL c.op c.num c.BF c.args c.kids)::Y9 [⟨1,3,1,[]⟩,HS B,ro 0 80 5 Ba [D]]))) 5 AA ⟨.rfl,.rfl,.rfl,.rfl,.rfl,.rfl,.rfl,.rfl,.rfl,.rfl,.rfl,.rfl,.rfl,.rfl,.Db AA,.rfl,uM⟩ DA AA (bs b λE g8 b=>Fw (v':=(ow 12 0 E)) BJ (hb 200) (U1 g8) rfl (.val AA (.own AA AA (λ_=>AA) (.val AA (.val AA (.val AA .nil))))) rfl (kU DA uM) rfl AA (AK AA (AR g7 (Ab λt9 g9=>AM 4 AA (bs b λC h4 b=>Fw (v':=(ow 13 0 C)) BJ (hb 201) (VD h4) rfl (.val AA (.val AA (.own AA AA (λ_=>AA) (.val AA .nil)))) rfl (kU DA uM) rfl AA (AK AA (AR g9 (Ab λv0 h5=>AM 2 AA (JT (nE p4 ((12,ow 4 0 a)::(13,ow 12 0 E)::(14,i64 u)::bX a d [(18,ls eI o),(19,ls eI C),(82,ow 3 2 P),(83,ls eI C)])) (V2 p0 p2 ((ro 2 80 5 Ba P)::bV a ((TL c.op c.num c.BF c.args c.kids)::Y9 (⟨1,3,1,[]⟩::(HS B)::(ro 0 80 5 Ba [D])::bV E [])))) 13 AA ⟨.rfl,.rfl,.rfl,.rfl,.rfl,.rfl,.rfl,.rfl,.rfl,.rfl,.Db AA,.rfl,.Db AA,uM⟩ DA AA (bs b λb0 h6 b=>Dx (ow 14 0 b0) (GC h6) ⟨Ar Az,uM⟩ (bs b λe h7 b=>I4 (l2:=b0) BJ Cb AA AA AA AA (GY AA AA J5) H3 h7 AA (AK AA (AR h5 (AB λq0 h8=>AS AA (bs b λb1 q b=>?_)))))))))))))))))));have q1:∀{i},JJ b1 i ⟨149,AJ (en p4 e a i u (bX a d [(18,ls eI o)])),V2 p0 p2 ((HS e)::Cf a i [])⟩ q0:=by
   rintro _ ⟨⟩ s H;refine h8 _ (AH H (Ab λv1 h9=>AM 2 AA (D9 6 [d] eI Ay AA (bs b λj k0 b=>KA [d] Ay AA (GY AA AA) k0 (AK AA (AR h9 (AB λq2 k1=>bs b λk2 q b=>?_)))))));have k3:∀{b2},JJ k2 b2 ⟨149,AJ (en p4 e j b1 u (bX a d [(108,.bool b2)])),V2 p0 p2 ((HS e)::Cf j b1 [])⟩ q2:=by
    rintro _ ⟨⟩ s H;refine k1 _ (AH H ?_);refine An b ?_ ?_<;>intro v2 b
    ·refine AE AA (AM 2 AA (D9 6 [Sh.len a] eI Ay AA (bs b λb3 k4 b=>KA [Sh.len a] Ay AA (GY AA AA) k4 (AK AA ?_))));exact AD (Y e j b3 (Bm b) _ (by refine Wk.trans (CH (L:=(en p4 e j b3 u [])) (st':=(V2 p0 p2 ((HS e)::Cf j b3 [ro 0 3 1 eI [Sh.len a]]))) (.raw AA AA (.raw AA AA (.raw AA AA (.pure (BM Az) (.pure BB (.pure BB (.pure BB .nil))))))) (.same AA)) ?_;exact Bf [0,1,2,3,4,5] (.w (.w (.w (.pure (BM Az) (.p (.p .nil)))))) (.same AA)))
    ·refine AS AA ?_;refine An b ?_ ?_<;>intro k5 b
     ·have v3:decide (d=0)=false:=by simpa using k5
      refine AE AA (AM 2 AA (bs b λQ k6 b=>Px (Hu Q) (hb 203) (Kr k6) rfl ?_));refine Oc (m:=6) (l:=[Q]) (enc:=Ba) BJ Cb (by decide) rfl AA (by simp only[List.map,CE];rfl) rfl AA AA ?_;refine bs b λb4 k7 b=>I4 (l2:=[Q]) BJ Cb AA AA AA AA (GY AA AA J5) H3 k7 AA (AK AA ?_);exact AD (Y b4 j b1 (Bm b) _ (by refine Wk.trans (CH (L:=(en p4 b4 j b1 u [])) (st':=(V2 p0 p2 ((HS b4)::Cf j b1 [ro 0 80 5 Ba [Q]]))) (.raw AA AA (.raw AA AA (.raw AA AA (.pure (BM Az) (.pure BB (.pure BB (.pure (BM Az) .nil))))))) (.same AA)) ?_;exact Bf [0,1,2,3,4,5] (.w (.w (.w (.pure (BM Az) (.p (.p .nil)))))) (.same AA)))
     ·have v4:decide (d=0)=true:=by simpa using k5
      exact AG (Y e j b1 (Bm b) _ Ag)
   refine AE AA (AM 3 AA ?_);rcases Sh.Aa q with ⟨y,q⟩|⟨y,q⟩
   ·refine Aj y AA (Aj y AA (bs q λk8 l0 q=>Iy y (EH l0) rfl (zt y AA ?_)));exact AD (k3 q (by refine Wk.trans (CH (L:=(en p4 e j b1 u (bX a d [(108,.bool k8)]))) (st':=(V2 p0 p2 ((HS e)::Cf j b1 [Ml d]))) (.raw AA AA (.raw AA AA (.raw AA AA (.pure (BM Az) (.pure BB (.pure BB (.pure BB .nil))))))) (.same AA)) ?_;exact Bf [0,1,2,3,4,5] (.w (.w (.w (.pure (BM Az) (.p (.p .nil)))))) (.same AA)))
   ·refine zs y AA (zs y AA (zs y AA (zf y AA ?_)));exact AD (k3 q (by refine Wk.trans (CH (L:=(en p4 e j b1 u (bX a d [(108,.bool false)]))) (st':=(V2 p0 p2 ((HS e)::Cf j b1 [Ml d]))) (.raw AA AA (.raw AA AA (.raw AA AA (.pure (BM Az) (.pure BB (.pure BB (.pure BB .nil))))))) (.same AA)) ?_;exact Bf [0,1,2,3,4,5] (.w (.w (.w (.pure (BM Az) (.p (.p .nil)))))) (.same AA)))
  refine AI (Fh (CS N C) (λR M=>⟨149,AJ [(4,ls eI p4),(5,.ptr 0 0 0 0),(7,.ptr 1 0 0 0),(10,.ptr 2 0 0 0),(11,ow 3 0 e),(12,ow 4 0 a),(13,ow 5 0 M),(14,i64 u),(16,i64 (Sh.len a)),(17,i64 d),(18,ls eI o),(19,ls eI C),(20,i64 R)],[Ua p0.decls p0.AF,O0 p2.steps p2.result,Fy,ro 0 80 5 Ba e,ro 0 3 1 eI a,ro 0 3 1 eI M]⟩) N 0 E q (by refine Wk.trans (CH (L:=[(4,ls eI p4),(5,.ptr 0 0 0 0),(7,.ptr 1 0 0 0),(10,.ptr 2 0 0 0),(11,ow 3 0 e),(12,ow 4 0 a),(13,ow 12 0 E),(14,i64 u),(16,i64 (Sh.len a)),(17,i64 d),(18,ls eI o),(19,ls eI C),(20,i64 0)]) (st':=[Ua p0.decls p0.AF,O0 p2.steps p2.result,Fy,ro 0 80 5 Ba e,ro 0 3 1 eI a,⟨0,3,1,[]⟩,TL c.op c.num c.BF c.args c.kids,⟨0,3,1,[]⟩,⟨0,3,1,[]⟩,⟨0,3,1,[]⟩,ro 0 80 5 Ba B,ro 0 80 5 Ba [D],ro 0 3 1 eI E,⟨0,3,1,[]⟩,ro 0 80 5 Ba b0]) (.raw AA AA (.raw AA AA (.raw AA AA (.pure (BM Az) (.pure BB (.pure nN (.raw AA AA (.pure nN (.pure nN (.pure nN (.pure (BM Az) (.pure (BM Az) (.pure BB (.pure nN (.pure (BM Az) .nil))))))))))))))) (.same AA)) ?_;exact Bf [0,1,2,3,4,12] (.w (.w (.w (.pure (BM Az) (.p (.p .nil)))))) (.same AA)) ?_);intro n R M q;rw[CS]at q;refine AB λv5 l1=>Ab λv6 l3=>AM 2 AA (Bd AA (AK AA (AR l3 ?_)));refine An q ?_ ?_<;>intro v7 q
  ·exact AG (l1 _ (AB λv8 l4=>AI (AE AA (AM 3 AA (bs q λq3 l5 q=>DI Ay l5 AA (AK AA (JT (nE p4 ((11,ow 3 0 e)::(12,ow 4 0 a)::(14,i64 u)::bX a d [(18,ls eI o),(19,ls eI C),(20,i64 R),(92,ls eI M),(96,i64 q3)])) (V2 p0 p2 ((HS e)::bV a [])) 5 AA ⟨.rfl,.rfl,.rfl,.rfl,.rfl,.rfl,.rfl,.rfl,.rfl,.rfl,.rfl,.rfl,.Db AA,.rfl,uM⟩ DA AA (bs q λl6 l7 q=>Dx (ow 6 0 l6) (RH l7) ⟨(Ar λ_=>AA),uM⟩ (AK AA (AR l4 (AE AA (AM 3 AA (AD (xi (Sh.w (R+1),l6) q (Bf [0,1,2,3,4,6] (.w (.w (.w (.pure (BM Az) (.p (.p .nil)))))) (.same AA))))))))))))))))
  ·exact Af (q1 q Ag)
 ·exact Af (m5 A a f (Bm k) _ (Bf [1,2,3,4,5] (.w (.w (.pure (BM Az) (.p (.p .nil))))) (.same AA)))
theorem SV {N:Nat}:∀(n:Nat),∀{p0:AL} {p1:(List Int)} {p2:Block} {p3:(List Int)} {p4:(List Int)} {r:Block},HA N n p0 p1 p2 p3 p4=some r->BH 132 (mD p0 p1 p2 p3 p4) [] (DN r) []:=by
 intro n
 induction n with
 | zero=>intro p0 p1 p2 p3 p4 r a;cases a
 | succ n ih=>
  intro p0 p1 p2 p3 p4 r a;rw[HA]at a;exact SS (λh=>ih h) a
theorem UT {N:Nat}:∀{p0:AL} {p1:(List Int)} {p2:Block} {p3:(List Int)} {p4:(List Int)} {r:Block},Nn N p0 p1 p2 p3 p4=some r->BH 132 (mD p0 p1 p2 p3 p4) [] (DN r) []:=by
 intro p0 p1 p2 p3 p4 r a;exact SV N a
theorem VE {N:Nat}{p0:AL}{p1:Ad}{r:Block}(h0:KQ N p0 p1=some r):BH 73 [Gz p0,Z5 p1] [] (DN r) []:=by
 unfold KQ at h0;refine FK AA (Bb Tryz.func73 AA (Ab λK1 b7=>CY 0 AA (CY 1 AA (Cm 2 Lr AA (AR b7 (Ab λK2 b8=>AM 4 AA (Bd AA (bs h0 λP b9 h0=>CR (hb 130) (SA b9) rfl (AK AA (AR b8 (Ab λK4 c0=>D9 3 ([]:List Int) eI Ay AA (AK AA (AR c0 (Ab λK5 c1=>D9 4 ([]:List Int) eI Ay AA (AK AA (AR c1 (AB λK6 c2=>AS AA (bs h0 λI C h0=>?_))))))))))))))))));have c3:∀y c,I=(y,c)->∀s,Wk 0 s ⟨65,AJ [(2,Ax),(3,HI),(4,E4),(6,ow 3 0 y),(7,ow 4 0 c)],ix p0 p1 (Cf y c [])⟩->K6 s:=by
  rintro y c rfl s Q;refine c2 _ (AH Q (Ab λc7 R=>AM 6 AA (D9 5 ([]:List Int) eI Ay AA (JT [(4,E4),(7,ow 4 0 c),(49,Gz p0),(51,HQ p1.params),(53,qm p1),(54,ls eI y),(55,.own 5 0 (List.length ([]:List Int)))] (ix p0 p1 [⟨1,3,1,[]⟩,As c,iI]) 3 AA ⟨.rfl,.rfl,.rfl,.rfl,.rfl,.Db AA,.rfl,uM⟩ DA AA (JT [(4,E4),(7,ow 4 0 c),(49,Gz p0),(51,HQ p1.params),(53,qm p1),(54,ls eI y),(55,SY)] (ix p0 p1 (⟨1,3,1,[]⟩::bV c [])) 5 AA ⟨.rfl,.rfl,.rfl,.rfl,.rfl,.rfl,.Db AA,uM⟩ DA AA (bs h0 λb S h0=>Px (DN b) (hb 132) (UT S) rfl (Cm 6 Lr AA (CF LO AA (AR R (AB λc8 T=>OW (by kernel_rfl) (bs h0 λt u h0=>bs h0 λf H h0=>Qn λA20 a=>?_)))))))))));have g:A20 0 (bm 9 511) ⟨65,AJ [(4,Ax)],[O0 f b.result]⟩:=(a _ _ _).2 (by
   refine PS AA (by kernel_rfl) (T _ ?_);cases h0;exact BP ⟨_,Wk.refl _ _,Lk (.tmp 4) (Yc f b.result) LO AA _ AA⟩)
  have j:A20 1 (bm 9 255) ⟨65,AJ [(4,Ax),(64,.agg [ow 1 0 f,i64 b.result])],[Fy,HS f]⟩:=(a _ _ _).2 (by
   refine xa [8] ⟨?_,uM⟩
   ·refine xo 8 ?_;exact Ac (Wk.Db (L:=[(4,Ax),(64,.agg (Yc f b.result))]) (st':=[Fy,Qd]) (id:=1) rfl yp (BM Az) ⟨.rfl,.agg ⟨.Km AA,.rfl,uM⟩,uM⟩ AA) (CF LO AA (aJ a g (by exact Je [0] AA AA (.w .nil) (.same AA)))))
  have e:A20 2 (bm 9 127) ⟨65,AJ [(4,Ax),(61,ow 1 0 f),(63,i64 b.result)],[Fy,HS f]⟩:=(a _ _ _).2 (by
   refine xa [7] ⟨?_,uM⟩
   ·refine xo 7 ?_;exact zz (.agg [ow 1 0 f,i64 b.result]) (Gs kH kO Lr AA AA) rfl (xd a j))
  have d:A20 3 (bm 9 111) ⟨65,AJ [(4,Ax),(58,ow 1 0 t),(60,T9 b),(63,i64 b.result)],[Fy,HS t]⟩:=(a _ _ _).2 (by
   refine xa [4] ⟨?_,uM⟩
   ·refine xo 4 ?_;exact I4 (l2:=b.steps) BJ Cb AA AA AA AA P1 H3 H AA (aJ a e (by exact CH (L:=[(4,Ax),(61,ow 1 0 f),(63,i64 b.result)]) (st':=[Fy,HS f]) (.raw AA AA (.pure (BM Az) .nil)) (.same AA))))
  have h:A20 4 (bm 9 47) ⟨65,AJ [(4,Ax),(58,ow 1 0 t),(60,T9 b),(62,.ptr 2 0 0 1)],[Fy,HS t,O0 b.steps b.result]⟩:=(a _ _ _).2 (by
   refine xa [4,6] ⟨?_,?_,uM⟩
   ·refine xo 4 (I4 (l2:=b.steps) BJ Cb AA AA AA AA P1 H3 H AA (AD ⟨AA,S9 tb 6 AA AA ?_⟩));exact Vp (by refine Wk.trans (CH (L:=[(4,Ax),(61,ow 1 0 f),(63,i64 b.result)]) (st':=[Fy,HS f,O0 b.steps b.result]) (.raw AA AA (.pure (BM Az) (.raw AA AA .nil))) (.same AA)) ?_;exact Je [0,1] AA AA (.w (.pure (BM Az) .nil)) (.same AA)) (Wv (by kernel_rfl) ((a _ _ _).1 e)) rfl
   ·refine xo 6 ?_;exact AK AA (aJ a d (by exact Je [0,1] AA AA (.w (.pure (BM Az) .nil)) (.same AA))))
  have i:A20 4 (bm 9 109) ⟨65,AJ [(4,Ax),(57,ow 1 0 c),(60,T9 b),(63,i64 b.result)],[Fy,As c]⟩:=(a _ _ _).2 (by
   refine xa [1] ⟨?_,uM⟩
   ·refine xo 1 ?_;exact JT [(4,Ax),(57,ls eI c),(60,T9 b),(63,i64 b.result)] [Fy,⟨1,3,1,[]⟩] 1 AA ⟨.rfl,.Db AA,.rfl,.rfl,uM⟩ DA AA (Jf (v':=(ow 2 0 t)) BJ (hb 133) (GC u) rfl AA ⟨Ar Az,uM⟩ AA AA (aJ a d (by exact Je [0,2] AA AA (.w (.pure (BM Az) .nil)) (.same AA)))))
  have z:A20 5 (bm 9 45) ⟨65,AJ [(4,Ax),(57,ow 1 0 c),(60,T9 b),(62,.ptr 2 0 0 1)],[Fy,As c,O0 b.steps b.result]⟩:=(a _ _ _).2 (by
   refine xa [1,6] ⟨?_,?_,uM⟩
   ·refine xo 1 ?_;exact JT [(4,Ax),(57,ls eI c),(60,T9 b),(62,.ptr 2 0 0 1)] (sh b) 1 AA ⟨.rfl,.Db AA,.rfl,.rfl,uM⟩ DA AA (Jf (v':=(ow 3 0 t)) BJ (hb 133) (GC u) rfl AA ⟨Ar Az,uM⟩ AA AA (aJ a h (by exact Je [0,3,2] AA AA (.w (.pure (BM Az) (.w .nil))) (.same AA))))
   ·refine xo 6 ?_;exact AK AA (aJ a i (by exact Je [0,1] AA AA (.w (.p .nil)) (.same AA))))
  have A:A20 5 (bm 9 101) ⟨65,AJ [(4,Ax),(57,ow 1 0 c),(59,E4),(63,i64 b.result)],[Fy,As c,O0 b.steps b.result]⟩:=(a _ _ _).2 (by
   refine xa [1,3] ⟨?_,?_,uM⟩
   ·refine xo 1 (JT [(4,Ax),(57,ls eI c),(59,E4),(63,i64 b.result)] (sh b) 1 AA ⟨.rfl,.Db AA,.rfl,.rfl,uM⟩ DA AA (Jf (v':=(ow 3 0 t)) BJ (hb 133) (GC u) rfl AA ⟨Ar Az,uM⟩ AA AA (AD ⟨AA,S9 tb 3 AA AA ?_⟩)));exact xw a d (by exact Je [0,3] AA AA (.w (.pure (BM Az) .nil)) (.same AA))
   ·refine xo 3 ?_;exact AK AA (aJ a i (by exact Je [0,1] AA AA (.w (.p .nil)) (.same AA))))
  have D:A20 6 (bm 9 37) ⟨65,AJ [(4,Ax),(57,ow 1 0 c),(59,E4),(62,.ptr 2 0 0 1)],[Fy,As c,O0 b.steps b.result]⟩:=(a _ _ _).2 (by
   refine xa [1,3,6] ⟨?_,?_,?_,uM⟩
   ·refine xo 1 (JT [(4,Ax),(57,ls eI c),(59,E4),(62,.ptr 2 0 0 1)] (sh b) 1 AA ⟨.rfl,.Db AA,.rfl,.rfl,uM⟩ DA AA (Jf (v':=(ow 3 0 t)) BJ (hb 133) (GC u) rfl AA ⟨Ar Az,uM⟩ AA AA (AD ⟨AA,S9 tb 3 AA AA ?_⟩)));exact xw a h (by exact Je [0,3,2] AA AA (.w (.pure (BM Az) (.w .nil))) (.same AA))
   ·exact xq tb a z
   ·exact xq tb a A)
  refine (a _ _ _).2 (qX tb 0 AA AA (qX tb 2 AA AA (S9 tb 5 AA AA ?_)));exact xw a D (by exact Je [2,4,6] AA AA (.w (.p (.w .nil))) (.same AA))
 refine AI (Vl (ET N p1 P) (λB k o=>⟨65,AJ [(2,.ptr 0 0 0 0),(3,.ptr 1 0 0 0),(4,.ptr 2 0 0 0),(5,ls eI P),(6,ow 3 0 k),(7,ow 4 0 o),(8,i64 B)],[Ua p0.decls p0.AF,tT p1.params p1.Aq p1.result p1.body.steps p1.body.result,Fy,ro 0 3 1 eI k,ro 0 3 1 eI o]⟩) N 0 [] [] C Ag ?_);intro n B k o C;rw[ET]at C;refine AB λc9 U=>Ab λd0 V=>AM 3 AA (Bd AA (AK AA (AR V ?_)));refine An C ?_ ?_<;>intro d1 C
 ·refine AG (U _ (AB λc4 W=>bs C λX q C=>?_));have J:∀E F,X=(E,F)->∀s,Wk 0 s ⟨65,AJ (qA P E F B []),ix p0 p1 (Cf E F [])⟩->c4 s:=by
   rintro E F rfl s Q;exact W _ (AH Q (AE AA (AM 3 AA (AD (xi (Sh.w (B+1),E,F) C Ag)))))
  refine AI (AB λc5 Y=>bs q λZ G q=>?_);have b0:∀{K},JJ Z K ⟨65,AJ (qA P k o B [(37,.bool K)]),ix p0 p1 (Cf k o [])⟩ c5:=by
   rintro _ ⟨⟩ s Q;refine Y _ (AH Q ?_);refine An q ?_ ?_<;>intro d2 q
   ·refine Ab λd3 b1=>AM 2 AA (bs q λd4 b2 q=>CR (hb 131) (EH b2) rfl (AR b1 ?_));refine An q ?_ ?_<;>intro d5 q
    ·refine AE AA (AM 2 AA (D9 5 [B] eI Ay AA (bs q λM b3 q=>I4 (l2:=[B]) BJ Ay AA AA AA AA (GY AA AA) DA b3 AA (AK AA ?_))));exact AD (J M o (Bm q) _ (by refine Wk.trans (CH (L:=(qA P M o B [])) (st':=(ix p0 p1 (Cf M o [Ml B]))) (.raw AA AA (.raw AA AA (.raw AA AA (.pure BB (.pure BB (.pure BB .nil)))))) (.same AA)) ?_;exact Je [0,1,2,3,4] AA AA (.w (.w (.w (.p (.p .nil))))) (.same AA)))
    ·refine AE AA (AM 2 AA (D9 5 [B] eI Ay AA (bs q λO b4 q=>I4 (l2:=[B]) BJ Ay AA AA AA AA (GY AA AA) DA b4 AA (AK AA ?_))));exact AD (J k O (Bm q) _ (by refine Wk.trans (CH (L:=(qA P k O B [])) (st':=(ix p0 p1 (Cf k O [Ml B]))) (.raw AA AA (.raw AA AA (.raw AA AA (.pure BB (.pure BB (.pure BB .nil)))))) (.same AA)) ?_;exact Je [0,1,2,3,4] AA AA (.w (.w (.w (.p (.p .nil))))) (.same AA)))
   ·exact AG (J k o (Bm q) _ Ag)
  refine AE AA (AM 3 AA (bs G λd6 b5 G=>DI Ay b5 AA (AM 3 AA ?_)));rcases Sh.Aa G with ⟨p,G⟩|⟨p,G⟩
  ·exact Aj p AA (Aj p AA (Aj p AA (bs G λc6 b6 G=>zd p (hb 131) (EH b6) rfl AA AA AA (Aj p AA (zt p AA (AD (b0 G Ag)))))))
  ·refine zs p AA ?_;iterate 4 refine zs p rfl ?_
   exact zf p AA (AD (b0 G Ag))
 ·exact Af (c3 k o (Bm C) _ Ag)
theorem WN {p0:Ad}{p1:Block}{r:Ad}(h0:NL p0 p1=some r):BH 72 [Z5 p0,DN p1] [] (Z5 r) []:=by
 unfold NL at h0;refine FK AA (Bb Tryz.func72 AA (Ab λg c=>CY 0 AA (CY 1 AA (Cm 2 Q2 AA (AR c (AB λh d=>D5 10 (by kernel_rfl) (by kernel_rfl) (by rfl) ?_))))));iterate 2 refine yq tb rfl ?_
 refine bs h0 λa e h0=>?_;refine Og (BW.wk (EG e) (by refine Wk.trans (Wk.Db (L:=[(0,ls eI a)]) (st':=iy) (id:=0) rfl yu BB ⟨.Db AA,uM⟩ AA) ?_;exact Bf [] .nil (.same AA))) ?_;iterate 2 refine yq tb rfl ?_
 refine bs h0 λb f h0=>?_;refine Og (BW.wk (EG f) (by refine Wk.trans (Wk.Db (L:=[(0,ls eI b)]) (st':=iy) (id:=0) rfl yu BB ⟨.Db AA,uM⟩ AA) ?_;exact Bf [] .nil (.same AA))) ?_;iterate 3 refine yq tb rfl ?_
 refine yz (.agg [ls eI a,ls eI b,i64 p0.result,T9 p1,i64 p1.result]) (Gs oN oH Q2 AA AA) rfl (Bl (CF Q9 AA (AR d ?_)));cases h0;exact BP ⟨_,Wk.refl _ _,Lk (.tmp 4) [ls eI a,ls eI b,i64 p0.result,T9 p1,i64 p1.result] Q9 AA _ AA⟩
theorem XG {N:Nat}{p0 r:AL}(h0:L3 N p0=some r):BH 29 [Gz p0] [] (Gz r) []:=by
 unfold L3 at h0;refine FK AA (Bb Tryz.func29 AA (Ab λP u=>CY 0 AA (Cm 1 Me AA (AR u (Ab λQ y=>AM 2 AA (bs h0 λb z h0=>Dx (ow 2 0 b) (VF z) ⟨(Ar λ_=>AA),uM⟩ (D9 3 ([]:List Ad) Al Hg AA (zz (.agg [ow 2 0 b,qe]) (Gs bx cx Me AA AA) rfl (Cm 4 Me AA (JT [(1,Ax),(2,HI),(3,Y8),(9,.agg [DH b,qe])] [Ua p0.decls p0.AF,bZ,iQ,ro 0 50 5 Al ([]:List Ad),bZ] 2 AA ⟨.rfl,.rfl,.rfl,.agg ⟨.Km AA,.rfl,uM⟩,uM⟩ DA AA (CF I1 AA (AR y (AB λE A=>AS AA (bs h0 λB a h0=>?_))))))))))))));have F:∀{c},JJ B c ⟨36,AJ [(2,Ax),(3,E4)],[bZ,ro 0 50 5 Al c,⟨0,30,2,[[DH b,ow 1 0 c]]⟩]⟩ E:=by
  rintro _ ⟨⟩ s G;refine A _ (AH G (Ab λH h=>AK AA (JT [(2,Ax),(35,.agg (eZ b B))] [bZ,iK,⟨0,30,2,[[DH b,ow 1 0 B]]⟩] 1 AA ⟨.rfl,.agg ⟨.rfl,.Km AA,uM⟩,uM⟩ DA AA (CF I1 AA (AR h ?_)))));cases h0;exact BP ⟨_,Wk.refl _ _,Lk (.tmp 2) (eZ b B) I1 AA _ AA⟩
 refine AI (Fh (GP N p0) (λt d=>⟨36,AJ [(1,.ptr 0 0 0 0),(2,.ptr 1 0 0 0),(3,.ptr 3 0 0 0),(4,i64 t)],[Ua p0.decls p0.AF,bZ,ro 0 50 5 Al d,⟨0,30,2,[[ls Ai b,ow 2 0 d]]⟩]⟩) N 0 [] a (Da (L:=[(1,.ptr 0 0 0 0),(2,.ptr 1 0 0 0),(3,.ptr 3 0 0 0),(4,i64 0)]) (st':=[Ua p0.decls p0.AF,bZ,ro 0 50 5 Al ([]:List Ad),⟨0,30,2,[[ls Ai b,.own 2 0 (List.length ([]:List Ad))]]⟩]) (st1:=[Ua p0.decls p0.AF,bZ,ro 0 50 5 Al ([]:List Ad),⟨0,30,2,[[ls Ai b,.own 3 0 (List.length ([]:List Ad))]]⟩]) [0,1,3,4] (.w (.w (.p (.w .nil)))) (.same AA)) ?_);intro n t d a;rw[GP]at a;refine AB λI i=>Ab λJ j=>AM 3 AA (Bd AA (AK AA (AR j ?_)));refine An a ?_ ?_<;>intro K a
 ·refine AG (i _ (AB λM k=>AI (D5 16 (by kernel_rfl) (by kernel_rfl) (by rfl) ?_)));iterate 5 refine yq tb rfl ?_
  refine bs a λO e a=>Lw Hg e AA ?_;iterate 5 refine yq tb rfl ?_
  exact Lw Hg e AA (yq tb AA (bs a λC o a=>Og (VE o) (bs a λf p a=>Og (WN p) (kK (l:=[f]) (enc:=Al) BJ Hg (by decide) rfl AA AA AA AA BB (Bl (bs a λg q a=>KA [f] Hg AA P1 q (AK AA (CF nS AA (AR k (AE AA (AM 3 AA (AD (xi (Sh.w (t+1),g) a (CH (L:=[(1,Ax),(2,HI),(3,VZ),(4,NV t)]) (st':=[Ua p0.decls p0.AF,bZ,ro 0 50 5 Al g,⟨0,30,2,[[DH b,ow 2 0 g]]⟩]) (.raw AA AA (.raw AA AA (.pure BB (.raw AA AA .nil)))) (.same AA)))))))))))))))
 ·exact Af (F a (Da (L:=[(2,Ax),(3,E4)]) (st':=[bZ,ro 0 50 5 Al d,⟨0,30,2,[[DH b,ow 1 0 d]]⟩]) (st1:=[bZ,ro 0 50 5 Al d,⟨0,30,2,[[DH b,ow 2 0 d]]⟩]) [1,2,3] (.w (.p (.w .nil))) (.same AA)))
end Go.Proofs.YtccficmcdkcpnaaGreat
