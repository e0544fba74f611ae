import Derived.Test.YtccficmcdkcpnaaGreatNOWalkP1
set_option linter.all false
namespace Go.Proofs.YtccficmcdkcpnaaGreat
open Go Go.Abs RC
attribute [local irreducible] Go.Abs.Dp
set_option maxRecDepth 100000
set_option maxHeartbeats 4000000
theorem eP:HM Tryz.prog 122=true:=by kernel_rfl
theorem jy:HM Tryz.prog 65=true:=by kernel_rfl
theorem fK:Ig Tryz.prog 122=some [(0,1),(1,1),(2,1)]:=by kernel_rfl
theorem jb:Ig Tryz.prog 65=some [(0,1),(1,1)]:=by kernel_rfl
theorem Lv:DR Tryz.prog 134=some ⟨45,1,24,[.sl []]⟩:=by kernel_rfl
theorem QC:DR Tryz.prog 63=some ⟨122,3,56,[.sl [],.sl [],.int .i64 0]⟩:=by kernel_rfl
theorem Wt:HH Tryz.prog 55 2=some 2:=by kernel_rfl
theorem pd:Program.underlying Tryz.prog 3=some (.int .i64):=by kernel_rfl
theorem Ui:DB Tryz.prog 27=true:=by kernel_rfl
theorem gl:DB Tryz.prog 63=true:=by kernel_rfl
theorem nh:De Tryz.prog 122=some (true,3):=by kernel_rfl
theorem nE:De Tryz.prog 63=some (false,1):=by kernel_rfl
theorem Uk:De Tryz.prog 65=some (true,2):=by kernel_rfl
theorem ao:HN Tryz.prog 122=some [.zc,.zc,.int .i64 0]:=by kernel_rfl
theorem oc:HN Tryz.prog 3=some [.int .i64 0]:=by kernel_rfl
theorem WM:HN Tryz.prog 65=some [.zc,.zc]:=by kernel_rfl
theorem T1 {uT:(List Int)}{uV:Int}{r:(List AI)×Int}(h0:Kc uT uV=some r):Bn 164 [Aq] [FW uT uV] (ow 1 0 r.1) [FW uT r.2,Jo r.1]:=by
 unfold Kc at h0;refine Cx Tryz.func164 AA (Al AA (Ai λK2 b4=>AR AA (bs h0 λa b5 h0=>DX (rowsP:=[FW uT uV]) (rows0:=[FW uT uV]) (rows1:=[FW uT a.2]) (rows2:=[Jo a.1]) (rows1':=[FW uT a.2]) (rows2':=[Jo a.1]) (st':=[FW uT a.2,Jo a.1]) (v':=(ow 1 0 a.1)) [0] AT (hb 165) (Ot b5) rfl (by decide) rfl AA (.raw AA AA .nil) rfl AA (.raw AA AA .nil) (.pure Bf .nil) rfl AA (AR AA (Ad b4 (Ai λK4 b6=>Ae 2 AA (zz (Cb a.1) (C9 Ui AA AA AA) rfl (bs h0 λc b7 h0=>IE [FW uT c.2,Jo a.1] (i64 c.1) [0] AT (hb 160) (Aw b7) rfl AA (AR AA (Ad b6 (AD λK6 b8=>bs h0 λo9 b h0=>?_)))))))))));have G:∀f7 J,o9=(f7,J)->∀s,Wk 1 s ⟨89,AL [(3,ow 1 0 J)],[FW uT f7,Jo J]⟩->K6 s:=by
  rintro f7 J rfl s hw;refine b8 _ (AF hw (Al AA ?_));cases h0;exact rt [(2,ow 1 0 J)]
 refine Ai λb9 K=>AR AA (bs b λe M b=>IE [FW uT e.2,Jo a.1] (i64 e.1) [0] AT (hb 160) (Aw M) rfl AA (Ad K (AJ (Al AA ?_))));refine Az b ?_ ?_<;>intro c0 b
 ·refine AE AA (Ae 3 AA (CF 2 [(-1:Int),5,0,2] eI BE AA (D8 [(0,Aq),(3,ow 1 0 a.1),(15,ow 1 0 a.1),(16,i64 c.1),(17,Aq),(18,ls eI [(-1:Int),5,0,2])] (aM uT e.2 a.1 []) 2 AA ⟨.rfl,.rfl,.rfl,.rfl,.rfl,.Bg AA,pw⟩ Cv AA (bs b λf N b=>IE (aM uT f.2 a.1 []) (i64 f.1) [0] AT (hb 163) (CG N) rfl AA (AR AA (CF 3 [(0:Int),1,5] eI BE AA (D8 [(3,ow 1 0 a.1),(15,ow 1 0 a.1),(16,i64 c.1),(19,i64 f.1),(20,Aq),(21,ls eI [(0:Int),1,5])] ((FW uT f.2)::(Jo a.1)::Cw []) 3 AA ⟨.rfl,.rfl,.rfl,.rfl,.rfl,.Bg AA,pw⟩ Cv AA (bs b λg O b=>IE ((FW uT g.2)::(Jo a.1)::Cw []) (i64 g.1) [0] AT (hb 163) (CG O) rfl AA (zz (.agg [i64 f.1,i64 g.1,.zc]) (DA LQ LS Ev AA AA) rfl (bs b λc1 C b=>zz (Mc c.1) (HC DZ AA C) rfl (BD (Dh [(3,ow 1 0 a.1),(23,.agg [i64 f.1,i64 g.1,dB]),(24,Mc c.1)] ⟨.rfl,.agg ⟨.rfl,.rfl,.zc,pw⟩,.rfl,pw⟩) (Ll (u':=(AI.mk f.1 g.1 [])) AT Hl AA AA C AA AA AA tr rfl AA ?_))))))))))));exact AB (G g.2 (Sh.put a.1 c.1 (AI.mk f.1 g.1 [])) (BU b) _ (by refine Wk.trans (BH (L:=[(3,.own 1 0 (List.length a.1))]) (st':=[⟨0,144,2,[[.sl (List.map Fi uT),i64 g.2]]⟩,⟨0,104,3,List.map Ak (Sh.put a.1 c.1 (AI.mk f.1 g.1 []))⟩]) [0,1] (.w (.p .nil)) ⟨.rfl,pw⟩) ?_;exact Dh [(3,.own 1 0 (List.length (Sh.put a.1 c.1 (AI.mk f.1 g.1 []))))] ⟨(.len (by simp only[Sh.H0])),pw⟩))
 ·refine Al AA ?_;refine Az b ?_ ?_<;>intro c2 b
  ·refine AE AA (Ae 3 AA (CF 2 [(-1:Int),0,4,5] eI BE AA (D8 (mX a.1 c.1 [(29,Aq),(30,ls eI [(-1:Int),0,4,5])]) (aM uT e.2 a.1 []) 2 AA ⟨.rfl,.rfl,.rfl,.rfl,.Bg AA,pw⟩ Cv AA (bs b λh P b=>IE (aM uT h.2 a.1 []) (i64 h.1) [0] AT (hb 163) (CG P) rfl AA (CF 3 [h.1] eI BE AA (D8 (mX a.1 c.1 [(32,ls eI [h.1])]) ((FW uT h.2)::(Jo a.1)::Cw []) 3 AA ⟨.rfl,.rfl,.rfl,.Bg AA,pw⟩ Cv AA (bs b λk Q b=>Dj (Ky k) (hb 223) (EH Q) rfl (CF 4 [(0:Int),0,0,0] eI BE AA (D8 (mX a.1 c.1 [(33,Ky k),(34,ls eI [(0:Int),0,0,0])]) ((FW uT h.2)::(Jo a.1)::Cw [⟨1,3,1,[]⟩]) 4 AA ⟨.rfl,.rfl,.rfl,.rfl,.Bg AA,pw⟩ Cv AA (bs b λo R b=>Dj (Ky o) (hb 223) (EH R) rfl (CF 5 ([]:List Int) eI BE AA (D8 (mX a.1 c.1 [(33,Ky k),(35,Ky o),(36,Sv)]) ((FW uT h.2)::(Jo a.1)::Cw (Cw [])) 5 AA ⟨.rfl,.rfl,.rfl,.rfl,.rfl,.Bg AA,pw⟩ Cv AA (bs b λp S b=>Dj (Ky p) (hb 223) (EH S) rfl (CF 6 [k,o,p] CP Hg AA (zz (.agg [i64 0,i64 0,ow 6 0 [k,o,p]]) (DA LQ LS Ev AA AA) rfl (bs b λc3 D b=>zz (Mc c.1) (HC DZ AA D) rfl (D8 [(3,ow 1 0 a.1),(39,.agg [i64 0,i64 0,ls CP [k,o,p]]),(40,Mc c.1)] ((FW uT h.2)::(Jo a.1)::Cw (Cw [OA])) 6 AA ⟨.rfl,.agg ⟨.rfl,.rfl,.Gs AA,pw⟩,.rfl,pw⟩ Cv AA (Ll (u':=(AI.mk 0 0 [k,o,p])) AT Hl AA AA D AA AA AA tr rfl AA ?_))))))))))))))))));exact AB (G h.2 (Sh.put a.1 c.1 (AI.mk 0 0 [k,o,p])) (BU b) _ (by refine Wk.trans (BH (L:=[(3,.own 1 0 (List.length a.1))]) (st':=[⟨0,144,2,[[.sl (List.map Fi uT),i64 h.2]]⟩,⟨0,104,3,List.map Ak (Sh.put a.1 c.1 (AI.mk 0 0 [k,o,p]))⟩]) [0,1] (.w (.p .nil)) ⟨.rfl,pw⟩) ?_;exact Dh [(3,.own 1 0 (List.length (Sh.put a.1 c.1 (AI.mk 0 0 [k,o,p]))))] ⟨(.len (by simp only[Sh.H0])),pw⟩))
  ·refine Al AA ?_;refine Az b ?_ ?_<;>intro c4 b
   ·refine AE AA (Ae 4 AA (CF 2 [Sh.w (c.1+1)] eI BE AA (D8 [(3,ow 1 0 a.1),(43,ow 1 0 a.1),(44,i64 c.1),(47,ls eI [Sh.w (c.1+1)])] (aM uT e.2 a.1 []) 2 AA ⟨.rfl,.rfl,.rfl,.Bg AA,pw⟩ Cv AA (bs b λq T b=>Dj (Ky q) (hb 223) (EH T) rfl (CF 3 [q] CP Hg AA (zz (.agg [i64 0,i64 0,ow 3 0 [q]]) (DA LQ LS Ev AA AA) rfl (bs b λc5 E b=>zz (Mc c.1) (HC DZ AA E) rfl (D8 [(3,ow 1 0 a.1),(50,kT q),(51,Mc c.1)] (aM uT e.2 a.1 [OA]) 3 AA ⟨.rfl,.agg ⟨.rfl,.rfl,.Gs AA,pw⟩,.rfl,pw⟩ Cv AA (Ll (u':=(AI.mk 0 0 [q])) AT Hl AA AA E AA AA AA tr rfl AA ?_)))))))));exact AB (G e.2 (Sh.put a.1 c.1 (AI.mk 0 0 [q])) (BU b) _ (by refine Wk.trans (BH (L:=[(3,.own 1 0 (List.length a.1))]) (st':=[⟨0,144,2,[[.sl (List.map Fi uT),i64 e.2]]⟩,⟨0,104,3,List.map Ak (Sh.put a.1 c.1 (AI.mk 0 0 [q]))⟩]) [0,1] (.w (.p .nil)) ⟨.rfl,pw⟩) ?_;exact Dh [(3,.own 1 0 (List.length (Sh.put a.1 c.1 (AI.mk 0 0 [q]))))] ⟨(.len (by simp only[Sh.H0])),pw⟩))
   ·refine Al AA ?_;refine Az b ?_ ?_<;>intro c6 b
    ·refine AE AA (Ae 2 AA (CF 2 [(0:Int),2,1] eI BE AA (D8 [(54,ow 1 0 a.1),(55,Aq),(56,ls eI [(0:Int),2,1])] (aM uT e.2 a.1 []) 2 AA ⟨.rfl,.rfl,.Bg AA,pw⟩ Cv AA (bs b λn U b=>IE (aM uT n.2 a.1 []) (i64 n.1) [0] AT (hb 163) (CG U) rfl AA (zz (.agg [i64 2,i64 n.1,.zc]) (DA LQ LS Ev AA AA) rfl (BD (Dh [(54,ow 1 0 a.1),(58,.agg [i64 2,i64 n.1,dB])] ⟨.rfl,.agg ⟨.rfl,.rfl,.zc,pw⟩,pw⟩) (CF 3 ([AI.mk 2 n.1 []]) Ak DZ AA (bs b λH V b=>Lb ([AI.mk 2 n.1 []]) DZ AA (E8 AA AA) V (AR AA ?_)))))))));exact AB (G n.2 H (BU b) _ (by refine Wk.trans (CS (L:=[(3,ow 1 0 H)]) (st':=[FW uT n.2,Jo H,⟨0,3,1,[]⟩,ro 0 104 3 Ak ([AI.mk 2 n.1 []])]) (.raw AA AA AA (.pure AA Bf (.pure AA nN (.pure AA Bf .nil)))) (.same AA)) ?_;exact BH [0,1] (.w (.p .nil)) (.same AA)))
    ·refine Al AA ?_;refine Az b ?_ ?_<;>intro c7 b
     ·refine AE AA (Ae 3 AA (bs b λd W b=>IE [FW uT d.2,Jo a.1] (i64 d.1) [0] AT (hb 160) (Aw W) rfl AA (CF 2 ([]:List Int) eI BE AA (D8 ((0,Aq)::kI a.1 c.1 d.1 [(67,Sv)]) (aM uT d.2 a.1 []) 2 AA ⟨.rfl,.rfl,.rfl,.rfl,.rfl,.Bg AA,pw⟩ Cv AA (bs b λt X b=>Dj (Ky t) (hb 223) (EH X) rfl (CF 3 [(2:Int)] eI BE AA (D8 ((0,Aq)::kI a.1 c.1 d.1 [(68,Ky t),(69,ls eI [(2:Int)])]) ((FW uT d.2)::(Jo a.1)::Cw []) 3 AA ⟨.rfl,.rfl,.rfl,.rfl,.rfl,.rfl,.Bg AA,pw⟩ Cv AA (bs b λy Y b=>Dj (Ky y) (hb 223) (EH Y) rfl (CF 4 ([]:List Int) eI BE AA (D8 ((0,Aq)::kI a.1 c.1 d.1 [(68,Ky t),(70,Ky y),(71,Sv)]) ((FW uT d.2)::(Jo a.1)::Cw [⟨1,3,1,[]⟩]) 4 AA ⟨.rfl,.rfl,.rfl,.rfl,.rfl,.rfl,.rfl,.Bg AA,pw⟩ Cv AA (bs b λz Z b=>Dj (Ky z) (hb 223) (EH Z) rfl (CF 5 ([]:List Int) eI BE AA (D8 ((0,Aq)::kI a.1 c.1 d.1 [(68,Ky t),(70,Ky y),(72,Ky z),(73,Sv)]) ((FW uT d.2)::(Jo a.1)::Cw (Cw [])) 5 AA ⟨.rfl,.rfl,.rfl,.rfl,.rfl,.rfl,.rfl,.rfl,.Bg AA,pw⟩ Cv AA (bs b λA b0 b=>Dj (Ky A) (hb 223) (EH b0) rfl (CF 6 [t,y,z,A] CP Hg AA (AR AA (bs b λu b1 b=>IE ((FW uT u.2)::(Jo a.1)::Cw (Cw [ro 0 106 1 CP [t,y,z,A]])) (i64 u.1) [0] AT (hb 160) (Aw b1) rfl AA (D8 (kI a.1 c.1 d.1 [(75,ls CP [t,y,z,A]),(77,i64 u.1)]) ((FW uT u.2)::(Jo a.1)::Cw (Cw [OA])) 6 AA ⟨.rfl,.rfl,.rfl,.rfl,.Bg AA,.rfl,pw⟩ Cv AA (bs b λB b2 b=>Sd (i:=u.1) (j:=Sh.len [t,y,z,A]) AT Hg AA AA AA Cv b2 (zz (.agg [i64 d.1,i64 0,ls CP B]) (DA LQ LS Ev AA AA) rfl (bs b λc8 F b=>zz (Mc c.1) (HC DZ AA F) rfl (Ll (u':=(AI.mk d.1 0 B)) AT Hl AA AA F AA AA AA tr rfl AA ?_))))))))))))))))))))));exact AB (G u.2 (Sh.put a.1 c.1 (AI.mk d.1 0 B)) (BU b) _ (by refine Wk.trans (BH (L:=[(3,.own 1 0 (List.length a.1))]) (st':=[⟨0,144,2,[[.sl (List.map Fi uT),i64 u.2]]⟩,⟨0,104,3,List.map Ak (Sh.put a.1 c.1 (AI.mk d.1 0 B))⟩]) [0,1] (.w (.p .nil)) ⟨.rfl,pw⟩) ?_;exact Dh [(3,.own 1 0 (List.length (Sh.put a.1 c.1 (AI.mk d.1 0 B))))] ⟨(.len (by simp only[Sh.H0])),pw⟩))
     ·refine Al AA ?_;refine Az b ?_ ?_<;>intro c9 b
      ·refine AE AA (AR AA (zz (.agg iR) (DA LQ LS Ev AA AA) rfl (zz (.agg [i64 3,i64 0,.zc]) (DA LQ LS Ev AA AA) rfl (BD (Dh [(83,ow 1 0 a.1),(84,.agg jR),(85,.agg [i64 3,i64 0,.zc])] ⟨.rfl,.agg ⟨.rfl,.rfl,.zc,pw⟩,.rfl,pw⟩) (BD (Dh [(83,ow 1 0 a.1),(84,.agg jR),(85,.agg [i64 3,i64 0,dB])] ⟨.rfl,.rfl,.agg ⟨.rfl,.rfl,.zc,pw⟩,pw⟩) (CF 2 ([AI.mk 0 0 [],AI.mk 3 0 []]) Ak DZ AA (bs b λI b3 b=>Lb ([AI.mk 0 0 [],AI.mk 3 0 []]) DZ AA (E8 AA AA) b3 (AR AA ?_))))))));exact AB (G e.2 I (BU b) _ (by refine Wk.trans (CS (L:=[(3,ow 1 0 I)]) (st':=[FW uT e.2,Jo I,ro 0 104 3 Ak ([AI.mk 0 0 [],AI.mk 3 0 []])]) (.raw AA AA AA (.pure AA Bf (.pure AA Bf .nil))) (.same AA)) ?_;exact BH [0,1] (.w (.p .nil)) (.same AA)))
      ·exact AH (G e.2 a.1 (BU b) _ Au)
theorem Ra {N:Nat}{uT:(List Int)}{uV:Int}{s1:(List Ar)}{uW:(List AI)}{r:AP×Int}(h0:IC N uT uV s1 uW=some r):Bn 98 [Aq,Il uW s1] [FW uT uV,PB s1] (.agg [Cd r.1.decls,ow 1 1 r.1.funcs]) [FW uT r.2,cg r.1.funcs]:=by
 unfold IC at h0;refine BS.wk (r0:=(.agg [Cd r.1.decls,ow 1 1 r.1.funcs])) (st0:=[FW uT r.2,cg r.1.funcs,eH r.1.decls r.1.funcs]) (Cx Tryz.func98 AA (Ai λX F=>Et 2 AA (Cn 3 YJ AA (Ad F (Ai λY G=>Ae 3 AA (zz (Cb s1) (C9 Zd AA AA AA) rfl (bs h0 λc H h0=>IE ((FW uT c.2)::Lk s1 uW [LW]) (i64 c.1) [0] AT (hb 160) (Aw H) rfl AA (AR AA (Ad G (Ai λZ I=>Ae 3 AA (bs h0 λa j h0=>zz (Mc c.1) (HC Ee AA j) rfl (zz (GZ a.params a.result a.body.op a.body.num a.body.kids) (DD Mf AA AA (CM j) tx rfl) rfl (Cn 4 PZ AA (Bp Mf AA (BD (Wk.Bg (L:=[(0,Aq),(3,Ca),(4,G1),(5,i64 c.1),(6,bF a.params a.result a.body.op a.body.num a.body.kids)]) (st':=((FW uT c.2)::Lk s1 uW [LW,Y0])) (id:=4) rfl uH (Di AA) (.same AA) rfl) (Ad I (AD λO J=>bs h0 λq e h0=>?_))))))))))))))))) (Fy (L:=[(0,.agg [Cd r.1.decls,ow 1 1 r.1.funcs])]) (st':=[FW uT r.2,cg r.1.funcs]) [0,1] AA (by decide) rfl AA (.raw AA (.pure Bf pw)) (.same AA));have n:∀E o p,q=(E,o,p)->∀s,Wk 2 s ⟨80,AL [(3,Ca),(4,G1)],[FW uT E,cg o,eH p o,LW]⟩->O s:=by
  rintro E o p rfl s P;refine J _ (AF P (Ai λQ t=>AR AA (Bp IL AA (Ad t ?_))));cases h0;exact Ap ⟨_,(BH (L:=[(4,Ca)]) (st':=[FW uT E,cg o,eH p o]) [0,1,3] (.w (.p (.w .nil))) ⟨.rfl,pw⟩).trans (Dh [(4,Ca)] ⟨.rfl,pw⟩),Gw (.tmp 4) [Cd p,ow 1 1 o] IL AA _ ⟨AA,AA⟩⟩
 refine Ai λR u=>AR AA (bs e λf w e=>IE ((FW uT f.2)::Lk s1 uW [LW,Y0]) (i64 f.1) [0] AT (hb 160) (Aw w) rfl AA (Ad u (AJ (Al AA ?_))));refine Az e ?_ ?_<;>intro S e
 ·refine AF (CS (L:=[(0,Aq),(3,Ca),(4,G1),(5,i64 c.1),(6,bF a.params a.result a.body.op a.body.num a.body.kids)]) (st':=((FW uT f.2)::Lk s1 uW [LW,iZ])) (.raw AA AA AA (.pure AA Bf (.raw AA AA AA (.raw AA AA AA (.pure AA nN .nil))))) (.same AA)) ?_;refine Bh (Lk s1 uW [LW,iZ]) 13 (by kernel_rfl) (by kernel_rfl) (by kernel_rfl) (by rfl) (BL eY AT AA (λ_ _=>FR Qi AA AA uB rfl) (BL (ow 1 0 s1) AT AA (λ_ _=>CL TN AA AA AA AA) (BL (i64 c.1) AT AA (λ_ _=>BO AA) (BL (bF a.params a.result a.body.op a.body.num a.body.kids) AT AA (λ_ _=>Je W3 AA AA) (BL (J8 a.params) AT AA (λ_ _=>JA Mi AA AA) (BL (.CT (ZF a.params a.result a.body.op a.body.num a.body.kids) 1) AT AA (λ_ _=>Je Uq AA AA) (BL (i64 a.result) AT AA (λ_ _=>JA HP AA AA) (BL Aq AT AA (λ_ _=>BO AA) (BL (.CT (ZF a.params a.result a.body.op a.body.num a.body.kids) 2) AT AA (λ_ _=>Je Wt AA AA) (BL (BJ a.body.op a.body.num a.body.kids) AT AA (λ_ _=>Ir BY AA uJ rfl) (bs e λb y e=>US (BJ b.1.op b.1.num b.1.kids) (FW uT b.2) [0] AT (hb 161) (Y8 y) rfl (λ_=>AA) (BL (GZ a.params a.result b.1.op b.1.num b.1.kids) AT AA (λ_ _=>DA cc cD PZ AA AA) (BL (Mc c.1) AT AA (λ_ _=>HC Ee AA j) (FV AA (Ll (u':=(Ar.mk a.params a.result b.1)) AT Mf AA AA j AA AA AA tx rfl AA ?_)))))))))))))));exact AB (n b.2 (Sh.put s1 c.1 (Ar.mk a.params a.result b.1)) uW (BU e) _ (by refine Wk.trans (I3 (st:=[⟨0,144,2,[[.sl (List.map Fi uT),i64 b.2]]⟩,⟨0,55,5,List.map Bd (Sh.put s1 c.1 (Ar.mk a.params a.result b.1))⟩,⟨0,40,2,[[.sl (List.map Ak uW),.own 1 0 (List.length s1)]]⟩,LW,⟨0,55,5,[]⟩]) (st':=[⟨0,144,2,[[.sl (List.map Fi uT),i64 b.2]]⟩,⟨0,55,5,List.map Bd (Sh.put s1 c.1 (Ar.mk a.params a.result b.1))⟩,⟨0,40,2,[[.sl (List.map Ak uW),.own 1 0 (List.length (Sh.put s1 c.1 (Ar.mk a.params a.result b.1)))]]⟩,LW,⟨0,55,5,[]⟩]) (by simp only[Sh.H0])) ?_;refine Wk.trans (O4 (L:=[(3,.ptr 2 0 0 0),(4,.ptr 3 0 0 0)]) (st':=[⟨0,144,2,[[.sl (List.map Fi uT),i64 b.2]]⟩,⟨1,55,5,List.map Bd (Sh.put s1 c.1 (Ar.mk a.params a.result b.1))⟩,⟨0,40,2,[[.sl (List.map Ak uW),.own 1 1 (List.length (Sh.put s1 c.1 (Ar.mk a.params a.result b.1)))]]⟩,LW,⟨0,55,5,[]⟩]) (st1:=[⟨0,144,2,[[.sl (List.map Fi uT),i64 b.2]]⟩,⟨0,55,5,List.map Bd (Sh.put s1 c.1 (Ar.mk a.params a.result b.1))⟩,⟨0,40,2,[[.sl (List.map Ak uW),.own 1 1 (List.length (Sh.put s1 c.1 (Ar.mk a.params a.result b.1)))]]⟩,LW,⟨0,55,5,[]⟩]) 1 AA (.raw AA AA (.pure Bf (.raw AA AA (.raw AA AA (.pure nN .nil))))) rfl (.same AA)) ?_;exact BH [0,1,2,3] (.w (.p (.w (.w .nil)))) (.same AA)))
 ·refine Al AA ?_;refine Az e ?_ ?_<;>intro T e
  ·refine AF (CS (L:=[(0,Aq),(3,Ca),(4,G1),(5,i64 c.1),(6,bF a.params a.result a.body.op a.body.num a.body.kids)]) (st':=((FW uT f.2)::Lk s1 uW [LW,iZ])) (.raw AA AA AA (.pure AA Bf (.raw AA AA AA (.raw AA AA AA (.pure AA nN .nil))))) (.same AA)) ?_;refine Bh (Lk s1 uW [LW,iZ]) 16 (by kernel_rfl) (by kernel_rfl) (by kernel_rfl) (by rfl) (BL eY AT AA (λ_ _=>FR Qi AA AA uB rfl) (BL (ow 1 0 s1) AT AA (λ_ _=>CL TN AA AA AA AA) (BL (i64 c.1) AT AA (λ_ _=>BO AA) (BL (bF a.params a.result a.body.op a.body.num a.body.kids) AT AA (λ_ _=>Je W3 AA AA) (BL (J8 a.params) AT AA (λ_ _=>JA Mi AA AA) (BL Aq AT AA (λ_ _=>BO AA) (GA AT (λK zz=>Gv (l:=[(0:Int),1,9,-1]) (enc:=eI) AT BE (by decide) rfl AA AA AA AA Bf (Ao AA)) (bs e λi z e=>US (i64 i.1) (FW uT i.2) [0] AT (hb 163) (CG z) rfl (λ_=>AA) (GA AT (λK zz=>Gv (l:=[i.1]) (enc:=eI) AT BE (by decide) rfl AA AA AA AA Bf (Ao AA)) (bs e λh A e=>?_))))))))));refine GA AT (λK zz=>Fa (BS.wk (Eg A) (by refine Wk.trans (Wk.Bg (L:=[(0,ls eI h)]) (st':=S6) (id:=0) rfl tw Bf ⟨.Bg AA,pw⟩ AA) ?_;exact BH [] .nil (.same AA))) (Ao AA)) ?_;refine BL (.CT (ZF a.params a.result a.body.op a.body.num a.body.kids) 1) AT AA (λ_ _=>Je Uq AA AA) (BL (i64 a.result) AT AA (λ_ _=>JA HP AA AA) (BL (.CT (ZF a.params a.result a.body.op a.body.num a.body.kids) 2) AT AA (λ_ _=>Je Wt AA AA) (BL (BJ a.body.op a.body.num a.body.kids) AT AA (λ_ _=>Ir BY AA uJ rfl) (BL (GZ h a.result a.body.op a.body.num a.body.kids) AT AA (λ_ _=>DA cc cD PZ AA AA) (BL (Mc c.1) AT AA (λ_ _=>HC Ee AA j) (FV AA (Ll (u':=(Ar.mk h a.result a.body)) AT Mf AA AA j AA AA AA tx rfl AA ?_)))))));exact AB (n i.2 (Sh.put s1 c.1 (Ar.mk h a.result a.body)) uW (BU e) _ (by refine Wk.trans (I3 (st:=[⟨0,144,2,[[.sl (List.map Fi uT),i64 i.2]]⟩,⟨0,55,5,List.map Bd (Sh.put s1 c.1 (Ar.mk h a.result a.body))⟩,⟨0,40,2,[[.sl (List.map Ak uW),.own 1 0 (List.length s1)]]⟩,LW,⟨0,55,5,[]⟩]) (st':=[⟨0,144,2,[[.sl (List.map Fi uT),i64 i.2]]⟩,⟨0,55,5,List.map Bd (Sh.put s1 c.1 (Ar.mk h a.result a.body))⟩,⟨0,40,2,[[.sl (List.map Ak uW),.own 1 0 (List.length (Sh.put s1 c.1 (Ar.mk h a.result a.body)))]]⟩,LW,⟨0,55,5,[]⟩]) (by simp only[Sh.H0])) ?_;refine Wk.trans (O4 (L:=[(3,.ptr 2 0 0 0),(4,.ptr 3 0 0 0)]) (st':=[⟨0,144,2,[[.sl (List.map Fi uT),i64 i.2]]⟩,⟨1,55,5,List.map Bd (Sh.put s1 c.1 (Ar.mk h a.result a.body))⟩,⟨0,40,2,[[.sl (List.map Ak uW),.own 1 1 (List.length (Sh.put s1 c.1 (Ar.mk h a.result a.body)))]]⟩,LW,⟨0,55,5,[]⟩]) (st1:=[⟨0,144,2,[[.sl (List.map Fi uT),i64 i.2]]⟩,⟨0,55,5,List.map Bd (Sh.put s1 c.1 (Ar.mk h a.result a.body))⟩,⟨0,40,2,[[.sl (List.map Ak uW),.own 1 1 (List.length (Sh.put s1 c.1 (Ar.mk h a.result a.body)))]]⟩,LW,⟨0,55,5,[]⟩]) 1 AA (.raw AA AA (.pure Bf (.raw AA AA (.raw AA AA (.pure nN .nil))))) rfl (.same AA)) ?_;exact BH [0,1,2,3] (.w (.p (.w (.w .nil)))) (.same AA)))
  ·refine Al AA ?_;refine Az e ?_ ?_<;>intro U e
   ·refine AF (CS (L:=[(0,Aq),(3,Ca),(4,G1),(5,i64 c.1),(6,bF a.params a.result a.body.op a.body.num a.body.kids)]) (st':=((FW uT f.2)::Lk s1 uW [LW,iZ])) (.raw AA AA AA (.pure AA Bf (.raw AA AA AA (.raw AA AA AA (.pure AA nN .nil))))) (.same AA)) ?_;refine Bh (Lk s1 uW [LW,iZ]) 12 (by kernel_rfl) (by kernel_rfl) (by kernel_rfl) (by rfl) (BL eY AT AA (λ_ _=>FR Qi AA AA uB rfl) (BL (ow 1 0 s1) AT AA (λ_ _=>CL TN AA AA AA AA) (BL (i64 c.1) AT AA (λ_ _=>BO AA) (BL (bF a.params a.result a.body.op a.body.num a.body.kids) AT AA (λ_ _=>Je W3 AA AA) (BL (J8 a.params) AT AA (λ_ _=>JA Mi AA AA) (BL Aq AT AA (λ_ _=>BO AA) (GA AT (λK zz=>Gv (l:=[(0:Int),1,3,5,-1]) (enc:=eI) AT BE (by decide) rfl AA AA AA AA Bf (Ao AA)) (bs e λd B e=>US (i64 d.1) (FW uT d.2) [0] AT (hb 163) (CG B) rfl (λ_=>AA) (BL (.CT (ZF a.params a.result a.body.op a.body.num a.body.kids) 2) AT AA (λ_ _=>Je Wt AA AA) (BL (BJ a.body.op a.body.num a.body.kids) AT AA (λ_ _=>Ir BY AA uJ rfl) (BL (GZ a.params d.1 a.body.op a.body.num a.body.kids) AT AA (λ_ _=>DA cc cD PZ AA AA) (BL (Mc c.1) AT AA (λ_ _=>HC Ee AA j) (FV AA (Ll (u':=(Ar.mk a.params d.1 a.body)) AT Mf AA AA j AA AA AA tx rfl AA ?_))))))))))))));exact AB (n d.2 (Sh.put s1 c.1 (Ar.mk a.params d.1 a.body)) uW (BU e) _ (by refine Wk.trans (I3 (st:=[⟨0,144,2,[[.sl (List.map Fi uT),i64 d.2]]⟩,⟨0,55,5,List.map Bd (Sh.put s1 c.1 (Ar.mk a.params d.1 a.body))⟩,⟨0,40,2,[[.sl (List.map Ak uW),.own 1 0 (List.length s1)]]⟩,LW,⟨0,55,5,[]⟩]) (st':=[⟨0,144,2,[[.sl (List.map Fi uT),i64 d.2]]⟩,⟨0,55,5,List.map Bd (Sh.put s1 c.1 (Ar.mk a.params d.1 a.body))⟩,⟨0,40,2,[[.sl (List.map Ak uW),.own 1 0 (List.length (Sh.put s1 c.1 (Ar.mk a.params d.1 a.body)))]]⟩,LW,⟨0,55,5,[]⟩]) (by simp only[Sh.H0])) ?_;refine Wk.trans (O4 (L:=[(3,.ptr 2 0 0 0),(4,.ptr 3 0 0 0)]) (st':=[⟨0,144,2,[[.sl (List.map Fi uT),i64 d.2]]⟩,⟨1,55,5,List.map Bd (Sh.put s1 c.1 (Ar.mk a.params d.1 a.body))⟩,⟨0,40,2,[[.sl (List.map Ak uW),.own 1 1 (List.length (Sh.put s1 c.1 (Ar.mk a.params d.1 a.body)))]]⟩,LW,⟨0,55,5,[]⟩]) (st1:=[⟨0,144,2,[[.sl (List.map Fi uT),i64 d.2]]⟩,⟨0,55,5,List.map Bd (Sh.put s1 c.1 (Ar.mk a.params d.1 a.body))⟩,⟨0,40,2,[[.sl (List.map Ak uW),.own 1 1 (List.length (Sh.put s1 c.1 (Ar.mk a.params d.1 a.body)))]]⟩,LW,⟨0,55,5,[]⟩]) 1 AA (.raw AA AA (.pure Bf (.raw AA AA (.raw AA AA (.pure nN .nil))))) rfl (.same AA)) ?_;exact BH [0,1,2,3] (.w (.p (.w (.w .nil)))) (.same AA)))
   ·refine Al AA ?_;refine Az e ?_ ?_<;>intro V e
    ·refine AE AA (AR AA (bs e λg C e=>DX (rowsP:=[FW uT f.2]) (rows0:=[FW uT f.2]) (rows1:=[FW uT g.2]) (rows2:=[Jo g.1]) (rows1':=[FW uT g.2]) (rows2':=[Jo g.1]) (st':=((FW uT g.2)::Lk s1 uW [LW,Y0,Jo g.1])) (v':=(ow 5 0 g.1)) [0] AT (hb 164) (T1 C) rfl (by decide) rfl AA (.raw AA AA .nil) rfl AA (.raw AA AA .nil) (.pure Bf .nil) rfl AA (AR AA (D8 [(3,Ca),(4,G1),(69,Cd g.1),(70,Ca)] ((FW uT g.2)::Lk s1 uW [LW,Y0,QL]) 5 AA ⟨.rfl,.rfl,.Bg AA,.rfl,pw⟩ Cv AA (Bp gZ AA ?_)))));exact AB (n g.2 s1 g.1 (BU e) _ (by refine Wk.trans (O4 (L:=[(3,Ca),(4,G1)]) (st':=[FW uT g.2,cg s1,eH g.1 s1,LW,Y0,QL]) (st1:=[FW uT g.2,PB s1,eH g.1 s1,LW,Y0,QL]) 1 AA (.raw AA AA (.pure Bf (.raw AA AA (.raw AA AA (.pure nN (.pure nN .nil)))))) rfl (.same AA)) ?_;exact BH [0,1,2,3] (.w (.p (.w (.w .nil)))) (.same AA)))
    ·refine Al AA ?_;refine Az e ?_ ?_<;>intro W e
     ·exact AE AA (Ae 3 AA (CF 5 [a] Bd Ee AA (bs e λM D e=>Lb [a] Ee AA (E8 AA AA) D (AR AA (Bp TN AA (AB (n f.2 M uW (BU e) _ (BH [0,1,2,3] (.w (.p (.w (.w .nil)))) (.same AA)))))))))
     ·exact AH (n f.2 s1 uW (BU e) _ (by refine Wk.trans (O4 (L:=[(3,Ca),(4,G1)]) (st':=[FW uT f.2,cg s1,eH uW s1,LW,Y0]) (st1:=[FW uT f.2,PB s1,eH uW s1,LW,Y0]) 1 AA (.raw AA AA (.pure Bf (.raw AA AA (.raw AA AA (.pure nN .nil))))) rfl (.same AA)) ?_;exact BH [0,1,2,3] (.w (.p (.w (.w .nil)))) (.same AA)))
theorem Sz {N:Nat}{uT:(List Int)}{uV:Int}{r:AP×Int}(h0:JB N uT uV=some r):Bn 51 [Aq] [FW uT uV] (Il r.1.decls r.1.funcs) [FW uT r.2,PB r.1.funcs]:=by
 unfold JB at h0;refine BS.wk (r0:=(Il r.1.decls r.1.funcs)) (st0:=((FW uT r.2)::Lk r.1.funcs r.1.decls [])) (Cx Tryz.func51 AA (Ai λg c=>Cn 1 YJ AA (Ad c (Ai λh d=>Ae 2 AA (bs h0 λb e h0=>DX (rowsP:=[FW uT uV]) (rows0:=[FW uT uV]) (rows1:=[FW uT b.2]) (rows2:=[PB b.1.funcs]) (rows1':=[FW uT b.2]) (rows2':=[PB b.1.funcs]) (st':=[FW uT b.2,LW,PB b.1.funcs]) (v':=(.agg [Cd b.1.decls,ow 2 0 b.1.funcs])) [0] AT (hb 99) (Rq e) rfl (by decide) rfl AA (.raw AA AA .nil) rfl AA (.raw AA AA .nil) (.pure Bf .nil) rfl AA (bs h0 λa f h0=>QT [FW uT a.2,LW,cg a.1.funcs] (.agg [Cd a.1.decls,ow 2 1 a.1.funcs]) [0,2] AT (hb 98) (Ra f) rfl AA (λ_=>AA) (λ_=>AA) (Bp IL AA (Ad d ?_)))))))) (Fy (L:=[(0,Il r.1.decls r.1.funcs)]) (st':=[FW uT r.2,PB r.1.funcs]) [0,1] AA (by decide) rfl AA (.raw AA (.pure Bf pw)) (.same AA));cases h0;exact Ap ⟨_,((CS (L:=[(2,DW)]) (st':=[FW uT a.2,⟨0,40,2,[[Cd a.1.decls,ow 2 0 a.1.funcs]]⟩,PB a.1.funcs]) (.raw AA AA AA (.raw AA AA AA (.pure AA Bf .nil))) (.same AA)).trans (G2 (L:=[(2,Ca)]) (st':=((FW uT a.2)::Lk a.1.funcs a.1.decls [])) (st1:=[FW uT a.2,PB a.1.funcs,⟨0,40,2,[[Cd a.1.decls,ow 2 0 a.1.funcs]]⟩]) [0,2,1] (.w (.p (.w .nil))) (.same AA))).trans (Dh [(2,Ca)] (.same AA)),Gw (.tmp 2) [Cd a.1.decls,ow 1 0 a.1.funcs] IL AA _ ⟨AA,AA⟩⟩
theorem Q2 {N:Nat}{p0:(List Int)}{r:AP}(h0:He N p0=some r):Bn 16 [ls Fi p0] [] (Jn r.decls r.funcs) []:=by
 unfold He at h0;refine Dd AA (Cx Tryz.func16 AA (Ai λg c=>Cn 0 YJ AA (Ad c (Ai λh d=>AR AA (bs h0 λb e h0=>La DW (TY e) ⟨(Di AA).any,pw⟩ (bs h0 λa f h0=>DX (rowsP:=[FW b.1 b.2]) (rows0:=[FW b.1 b.2]) (rows1:=[FW b.1 a.2]) (rows2:=[PB a.1.funcs]) (rows1':=[FW b.1 a.2]) (rows2':=[PB a.1.funcs]) (st':=[LW,FW b.1 a.2,PB a.1.funcs]) (v':=(.agg [Cd a.1.decls,ow 2 0 a.1.funcs])) [1] AT (hb 51) (Sz f) rfl (by decide) rfl AA (.raw AA AA .nil) rfl AA (.raw AA AA .nil) (.pure Bf .nil) rfl AA (D8 [(2,Aq),(5,Jn a.1.decls a.1.funcs)] [LW,FW b.1 a.2,Y0] 2 AA ⟨.rfl,.agg ⟨.rfl,.Gs AA,pw⟩,pw⟩ Cv AA (Bp IL AA (Ad d ?_)))))))));cases h0;exact Ap ⟨_,Wk.refl _ _,Gw (.tmp 2) [Cd a.1.decls,ls Bd a.1.funcs] IL AA _ AA⟩
theorem Lp {p0:(List AI)}{p1:Int}{r:Bool}(h0:Iv p0 p1=some r):Bn 139 [Cd p0,i64 p1] [] (.bool r) []:=by
 unfold Iv at h0;refine Cx Tryz.func139 AA (Al AA (AD λg d=>bs h0 λe b h0=>?_));have f:∀{c},JJ e c ⟨13,AL [(4,.bool c)],[]⟩ g:=by
  rintro _ ⟨⟩ s h;try dsimp only at h0
  refine d _ (AF h ?_);obtain rfl:=Sh.Bt h0;exact rt [(4,.bool e)]
 refine AE AA (Ae 3 AA ?_);rcases Sh.Aa b with ⟨a,b⟩|⟨a,b⟩
 ·exact Am a AA (Am a AA (DQ (Cb p0) a (By Ui AA) (Am a AA (zt a AA (AR AA (AB (f b Au)))))))
 ·refine zs a AA ?_;iterate 3 refine zs a rfl ?_
  exact zf a AA (AR AA (AB (f b Au)))
theorem Ma {N:Nat}{p0:(List AI)}{p1:(List Int)}{r:Bool}(h0:H4 N p0 p1=some r):Bn 138 [Cd p0,ls eI p1] [] (.bool r) []:=by
 unfold H4 at h0;refine Cx Tryz.func138 AA (Al AA (AD λp i=>Ai λC j=>AR AA (Cc AA (AR AA (Ad j ?_)))));obtain⟨k,a,h0⟩:=Sh.BZ h0;have q:JJ k (.inr ()) ⟨18,AL [],[]⟩ p:=by
  rintro⟨⟩ s t;refine i _ (AF t (Al AA ?_));cases h0;exact rt [(4,.bool true)]
 refine AJ (Le (Gi p0 p1) (λl=>⟨18,AL [(0,ls Ak p0),(7,ls eI p1),(8,i64 (Sh.len p1)),(9,i64 l)],[]⟩) N 0 a Au ?_);intro n l a;rw[Gi]at a;refine Al AA (AD λE m=>?_);refine Az a ?_ ?_<;>intro F a
 ·refine AH (m _ (AD λu b=>AJ (Ai λx c=>bs a λy d a=>Gz BE d AA (Ae 2 AA (Ad c (Ai λz e=>Ae 2 AA (bs a λf g a=>HX (hb 139) (Lp g) rfl (AR AA (Ad e ?_)))))))));refine Az a ?_ ?_<;>intro h a
  ·have A:f=false:=by simpa using h
   refine Al AA ?_;cases a;cases h0;exact rt [(4,.bool false)]
  ·have B:f=true:=by simpa using h
   exact AH (b _ (AE AA (Ae 2 AA (AB (xi (Sh.w (l+1)) a Au)))))
 ·exact As (q a Au)
theorem S3 {N:Nat}{p0:(List AI)}{r:Bool}(h0:JM N p0=some r):Bn 137 [Cd p0] [] (.bool r) []:=by
 unfold JM at h0;refine Cx Tryz.func137 AA (Al AA (AD λK2 c3=>Ai λK3 c4=>AR AA (Cc AA (AR AA (Ad c4 ?_)))));refine Az h0 ?_ ?_<;>intro b4 h0
 ·refine Al AA ?_;cases h0;exact rt [(2,.bool false)]
 ·refine AH (c3 _ (AD λK6 c5=>Ai λK7 c6=>AR AA (Cc AA (AR AA (Ad c6 ?_)))));obtain⟨o9,d,h0⟩:=Sh.BZ h0;have M9:JJ o9 (.inr ()) ⟨106,AL [],[]⟩ K6:=by
   rintro⟨⟩ s x;refine c5 _ (AF x (Al AA ?_));cases h0;exact rt [(2,.bool true)]
  refine AJ (Le (Ff N p0) (λu=>⟨106,AL [(0,ls Ak p0),(12,ls Ak p0),(13,i64 (Sh.len p0)),(14,i64 u)],[]⟩) N 0 d Au ?_);intro n u d;rw[Ff]at d;refine Al AA (AD λd6 J=>?_);refine Az d ?_ ?_<;>intro d7 d
  ·refine AH (J _ (AD λc7 K=>AJ (Ai λd8 L=>AR AA (bs d λb M d=>Gz DZ M AA (AR AA (Cn 0 Ev AA (AR AA (Bp Hl AA (Ad L (AD λd9 O=>AD λc8 P=>bs d λQ a d=>?_))))))))));have t:∀{D},JJ Q D ⟨106,AL (nM p0 u [(52,.bool D)]),[Xv b]⟩ c8:=by
    rintro _ ⟨⟩ s x;refine P _ (AF x ?_);refine Az d ?_ ?_<;>intro g0 d
    ·refine Al AA ?_;cases d;cases h0;exact rd [(2,.bool false)]
    ·refine AH (O _ (AD λc9 R=>Ai λg1 S=>Ae 2 AA (Cc AA (AR AA (Ad S ?_)))));obtain⟨E,a,d⟩:=Sh.BZ d;have d1:JJ E (.inr ()) ⟨106,AL (nM p0 u []),[Xv b]⟩ c9:=by
      rintro⟨⟩ s x;refine R _ (AF x (Ai λg2 T=>Ae 2 AA (bs d λy U d=>Sd (i:=0) (j:=u) AT DZ AA AA AA Cv U (Cc AA (AR AA (Ad T ?_))))));obtain⟨F,a,d⟩:=Sh.BZ d;have d2:JJ F (.inr ()) ⟨106,AL [(0,Cd p0),(12,Cd p0),(13,Cb p0),(14,i64 u)],[]⟩ c7:=by
       rintro⟨⟩ s x;exact K _ (AF x (AE AA (Ae 2 AA (AB (xi (Sh.w (u+1)) d Au)))))
      refine AJ (Le (En b y) (λz=>⟨106,AL [(0,ls Ak p0),(4,.ptr 0 0 0 0),(12,ls Ak p0),(13,i64 (Sh.len p0)),(14,i64 u),(74,ls Ak y),(75,i64 (Sh.len y)),(76,i64 z)],[⟨0,104,3,[Ak b]⟩]⟩) N 0 a Au ?_);intro n z a;rw[En]at a;refine Al AA (AD λg3 V=>?_);refine Az a ?_ ?_<;>intro g4 a
      ·refine AH (V _ (AD λg5 W=>AJ (Ai λg6 X=>bs a λY Z a=>Gz DZ Z AA (AR AA (Cn 1 Ev AA (Bp Hl AA (Ad X (AD λd3 b0=>bs a λb1 f a=>?_))))))));have A:∀{G},JJ b1 G ⟨106,AL [(0,Cd p0),(4,Aq),(12,Cd p0),(13,Cb p0),(14,i64 u),(74,Cd y),(75,Cb y),(76,i64 z),(103,.bool G)],[Xv b]⟩ d3:=by
        rintro _ ⟨⟩ s x;refine b0 _ (AF x ?_);refine Az a ?_ ?_<;>intro g7 a
        ·refine Al AA ?_;cases a;cases d;cases h0;exact rd [(2,.bool false)]
        ·exact AH (W _ (AE AA (Ae 2 AA (AB (xi (Sh.w (z+1)) a Au)))))
       refine AE AA (Ae 2 AA (Cc AA (Ae 2 AA ?_)));rcases Sh.Aa f with ⟨k,f⟩|⟨k,f⟩
       ·refine Am k AA (Am k AA (DQ (Yu Y) k (By Oe AA) (Am k AA (zt k AA (AR AA ?_)))));rcases Sh.Aa f with ⟨p,f⟩|⟨p,f⟩
        ·refine Am p AA ?_;iterate 4 refine Am p rfl ?_
         refine zt p AA (AR AA ?_);rcases Sh.Aa f with ⟨q,f⟩|⟨q,f⟩
         ·refine Am q AA ?_;iterate 4 refine Am q rfl ?_
          exact zt q AA (AB (A f (BH [0] (.w .nil) (.same AA))))
         ·refine zs q AA ?_;iterate 4 refine zs q rfl ?_
          exact zf q AA (AB (A f (BH [0] (.w .nil) (.same AA))))
        ·refine zs p AA ?_;iterate 4 refine zs p rfl ?_
         refine zf p AA (AR AA ?_);iterate 5 refine zs rfl rfl ?_
         exact zf AA AA (AB (A f (BH [0] (.w .nil) (.same AA))))
       ·refine zs k AA ?_;iterate 3 refine zs k rfl ?_
        refine zf k AA (AR AA ?_);iterate 5 refine zs rfl rfl ?_
        refine zf AA AA (AR AA ?_);iterate 5 refine zs rfl rfl ?_
        exact zf AA AA (AB (A f (BH [0] (.w .nil) (.same AA))))
      ·exact As (d2 a (Bi _ AA))
     refine AJ (Le (Eo N b p0) (λB=>⟨106,AL [(0,ls Ak p0),(3,i64 u),(4,.ptr 0 0 0 0),(12,ls Ak p0),(13,i64 (Sh.len p0)),(14,i64 u),(54,ls CP b.cons),(55,i64 (Sh.len b.cons)),(56,i64 B)],[⟨0,104,3,[Ak b]⟩]⟩) N 0 a Au ?_);intro n B a;rw[Eo]at a;refine Al AA (AD λg8 b2=>?_);refine Az a ?_ ?_<;>intro g9 a
     ·refine AH (b2 _ (AD λh4 b3=>AJ (Ai λh5 b5=>bs a λh6 b6 a=>Gz Hg b6 AA (AR AA (Cn 1 Pf AA (Bp Ns AA (Ad b5 (AD λd4 b7=>bs a λb8 f a=>?_))))))));have b9:∀{H},JJ b8 H ⟨106,AL (nM p0 u [(54,ls CP b.cons),(55,Yu b),(56,i64 B),(70,.bool H)]),[Xv b]⟩ d4:=by
       rintro _ ⟨⟩ s x;refine b7 _ (AF x ?_);refine Az a ?_ ?_<;>intro h7 a
       ·refine Al AA ?_;cases a;cases d;cases h0;exact rd [(2,.bool false)]
       ·exact AH (b3 _ (AE AA (Ae 2 AA (AB (xi (Sh.w (B+1)) a Au)))))
      refine AE AA (Ae 2 AA (Cc AA (Ae 2 AA ?_)));rcases Sh.Aa f with ⟨g,f⟩|⟨g,f⟩
      ·refine zs g AA ?_;iterate 4 refine zs g rfl ?_
       exact zt g AA (AB (b9 f (BH [0] (.w .nil) (.same AA))))
      ·exact Am g AA (Am g AA (Am g AA (bs f λd5 c0 f=>Oz g (Ma c0) rfl (Am g AA (zf g AA (AB (b9 f (BH [0] (.w .nil) (.same AA)))))))))
     ·exact As (d1 a Au)
   refine AE AA (Ae 3 AA (bs a λh8 c1 a=>HX (hb 139) (Lp c1) rfl (Ae 2 AA ?_)));rcases Sh.Aa a with ⟨h,a⟩|⟨h,a⟩
   ·refine zs h AA ?_;iterate 4 refine zs h rfl ?_
    refine zt h AA (AR AA ?_);iterate 4 refine zs rfl rfl ?_
    refine zt AA AA (AR AA ?_);iterate 5 refine zs rfl rfl ?_
    iterate 8 refine zn rfl ?_
    exact zs AA AA (zt AA AA (AB (t a Au)))
   ·refine Am h AA (Am h AA (Am h AA (bs a λh9 c2 a=>Oz h (Lp c2) rfl (Am h AA (zf h AA (AR AA ?_))))));rcases Sh.Aa a with ⟨l,a⟩|⟨l,a⟩
    ·refine zs l AA ?_;iterate 3 refine zs l rfl ?_
     refine zt l AA (AR AA ?_);iterate 5 refine zs rfl rfl ?_
     iterate 8 refine zn rfl ?_
     exact zs AA AA (zt AA AA (AB (t a Au)))
    ·refine Am l AA (Am l AA (DQ (Yu b) l (By Oe AA) (Am l AA (zf l AA (AR AA ?_)))));rcases Sh.Aa a with ⟨c,a⟩|⟨c,a⟩
     ·refine zs c AA ?_;iterate 4 refine zs c rfl ?_
      iterate 8 refine zn rfl ?_
      exact zs c AA (zt c AA (AB (t a Au)))
     ·refine Am c AA (Am c AA (DQ (Yu b) c (By Oe AA) (Am c AA (Am c AA ?_))));rcases Sh.Aa a with ⟨e,a⟩|⟨e,a⟩
      ·refine Am e AA ?_;iterate 3 refine Am e rfl ?_
       rcases Sh.Aa a with ⟨o,a⟩|⟨o,a⟩
       ·exact zs o AA (zs o AA (zs o AA (DQ (.bool true) e (Gy AA o AA) (DQ (.bool true) c (Gy AA e AA) (zf c AA (AB (t a Au)))))))
       ·exact Am o AA (Am o AA (Am o AA (DQ (.bool (!decide (b.to=0))) e (HE AA o AA) (DQ (.bool (!decide (b.to=0))) c (Gy AA e AA) (zf c AA (AB (t a Au)))))))
      ·refine zs e AA ?_;iterate 3 refine zs e rfl ?_
       iterate 3 refine zn rfl ?_
       exact zs e AA (DQ (.bool false) c (HE AA e AA) (zf c AA (AB (t a Au))))
  ·exact As (M9 d Au)
theorem O3 {N:Nat}{p0:(List AI)}{p1:(List BX)}{r:Bool}(h0:IQ N p0 p1=some r):Bn 76 [Cd p0,X2 p1] [] (.bool r) []:=by
 unfold IQ at h0;refine Cx Tryz.func76 AA (Al AA (AD λK2 b3=>AD λK3 b4=>bs h0 λo5 a h0=>?_));have G:∀{t4},JJ o5 t4 ⟨102,AL [(0,Cd p0),(1,X2 p1),(36,.bool t4)],[]⟩ K3:=by
  rintro _ ⟨⟩ s u;refine b4 _ (AF u ?_);refine Az h0 ?_ ?_<;>intro b6 h0
  ·refine Al AA ?_;cases h0;exact rt [(4,.bool false)]
  ·refine AH (b3 _ (AD λK8 b5=>Ai λK9 b7=>AR AA (Cc AA (AR AA (Ad b7 ?_)))));obtain⟨A,a,h0⟩:=Sh.BZ h0;have b8:JJ A (.inr ()) ⟨102,AL [],[]⟩ K8:=by
    rintro⟨⟩ s u;refine b5 _ (AF u (Al AA ?_));cases h0;exact rt [(4,.bool true)]
   refine AJ (Le (FH N p0 p1) (λq=>⟨102,AL [(0,ls Ak p0),(37,ls Cj p1),(38,i64 (Sh.len p1)),(39,i64 q)],[]⟩) N 0 a Au ?_);intro n q a;rw[FH]at a;refine Al AA (AD λc5 I=>?_);refine Az a ?_ ?_<;>intro c6 a
   ·refine AH (I _ (AD λb9 J=>AJ (Ai λc7 K=>bs a λc L a=>Gz QC L AA (AR AA (Cn 0 ao AA (Bp nh AA (Ad K (AD λc8 M=>AD λc0 O=>bs a λP b a=>?_))))))));have B:∀{C},JJ P C ⟨102,AL [(0,Cd p0),(6,Aq),(37,X2 p1),(38,Cb p1),(39,i64 q),(60,.bool C)],[⟨0,122,3,[[J8 c.params,J8 c.CE,i64 c.result]]⟩]⟩ c0:=by
     rintro _ ⟨⟩ s u;refine O _ (AF u ?_);refine Az a ?_ ?_<;>intro c9 a
     ·refine Al AA ?_;cases a;cases h0;exact rd [(4,.bool false)]
     ·refine AH (M _ (Ai λd1 Q=>Ae 2 AA (Cc AA (AR AA (Ad Q ?_)))));obtain⟨D,b,a⟩:=Sh.BZ a;have c1:JJ D (.inr ()) ⟨102,AL [(0,Cd p0),(37,X2 p1),(38,Cb p1),(39,i64 q)],[]⟩ b9:=by
       rintro⟨⟩ s u;exact J _ (AF u (AE AA (Ae 2 AA (AB (xi (Sh.w (q+1)) a Au)))))
      refine AJ (Le (E5 c) (λx=>⟨102,AL [(0,ls Ak p0),(6,.ptr 0 0 0 0),(37,ls Cj p1),(38,i64 (Sh.len p1)),(39,i64 q),(62,ls eI c.CE),(63,i64 (Sh.len c.CE)),(64,i64 x)],[⟨0,122,3,[[ls eI c.params,ls eI c.CE,i64 c.result]]⟩]⟩) N 0 b Au ?_);intro n x b;rw[E5]at b;refine Al AA (AD λd2 R=>?_);refine Az b ?_ ?_<;>intro d3 b
      ·refine AH (R _ (AD λd4 S=>AJ (Ai λd5 T=>AR AA (bs b λU V b=>Gz BE V AA (Ae 3 AA (Ad T (AD λc2 W=>bs b λX g b=>?_)))))));have t:∀{E},JJ X E ⟨102,AL [(0,Cd p0),(6,Aq),(37,X2 p1),(38,Cb p1),(39,i64 q),(62,J8 c.CE),(63,Cb c.CE),(64,i64 x),(99,.bool E)],[⟨0,122,3,[[J8 c.params,J8 c.CE,i64 c.result]]⟩]⟩ c2:=by
        rintro _ ⟨⟩ s u;refine W _ (AF u ?_);refine Az b ?_ ?_<;>intro d6 b
        ·refine Al AA ?_;cases b;cases a;cases h0;exact rd [(4,.bool false)]
        ·exact AH (S _ (AE AA (Ae 2 AA (AB (xi (Sh.w (x+1)) b Au)))))
       refine AE AA (Ae 3 AA ?_);rcases Sh.Aa g with ⟨h,g⟩|⟨h,g⟩
       ·refine zs h AA ?_;iterate 4 refine zs h rfl ?_
        refine zt h AA (AR AA ?_);iterate 6 refine zs rfl rfl ?_
        refine zt AA AA (AR AA ?_);iterate 3 refine zs rfl rfl ?_
        iterate 8 refine zn rfl ?_
        exact zs AA AA (zt AA AA (AB (t g Au)))
       ·refine Am h AA (Am h AA (Am h AA (DQ (Cb c.params) h (By FY AA) (Am h AA (zf h AA (AR AA ?_))))));rcases Sh.Aa g with ⟨e,g⟩|⟨e,g⟩
        ·refine zs e AA ?_;iterate 5 refine zs e rfl ?_
         refine zt e AA (AR AA ?_);iterate 3 refine zs rfl rfl ?_
         iterate 8 refine zn rfl ?_
         exact zs AA AA (zt AA AA (AB (t g Au)))
        ·refine Am e AA (Am e AA (Am e AA (bs g λc3 Y g=>DQ (U0 c3) e (JT BE AA Y) (Am e AA (Am e AA (zf e AA (AR AA ?_)))))));rcases Sh.Aa g with ⟨d,g⟩|⟨d,g⟩
         ·refine zs d AA (zs d AA (zs d AA ?_));iterate 8 refine zn rfl ?_
          exact zs d AA (zt d AA (AB (t g Au)))
         ·refine Am d AA (Am d AA (Am d AA ?_));rcases Sh.Aa g with ⟨i,g⟩|⟨i,g⟩
          ·refine Am i AA ?_;iterate 4 refine Am i rfl ?_
           exact bs g λF Z g=>DQ (U0 F) i (JT BE AA Z) (Am i AA (Am i AA (DQ (.bool (decide (U<=F))) d (Gy AA i AA) (zf d AA (AB (t g Au))))))
          ·refine zs i AA ?_;iterate 7 refine zs i rfl ?_
           exact DQ (.bool false) d (HE AA i AA) (zf d AA (AB (t g Au)))
      ·exact As (c1 b (Bi _ AA))
    refine AE AA (Ae 2 AA (Cc AA (Ae 2 AA ?_)));rcases Sh.Aa b with ⟨j,b⟩|⟨j,b⟩
    ·refine zs j AA ?_;iterate 4 refine zs j rfl ?_
     refine zt j AA (AR AA ?_);iterate 5 refine zs rfl rfl ?_
     exact zt AA AA (AB (B b Au))
    ·refine Am j AA (Am j AA (Am j AA (bs b λd7 b0 b=>Oz j (Ma b0) rfl (Am j AA (zf j AA (AR AA ?_))))));rcases Sh.Aa b with ⟨k,b⟩|⟨k,b⟩
     ·refine zs k AA ?_;iterate 4 refine zs k rfl ?_
      exact zt k AA (AB (B b Au))
     ·exact Am k AA (Am k AA (Am k AA (bs b λc4 b1 b=>Oz k (Lp b1) rfl (Am k AA (zf k AA (AB (B b Au)))))))
   ·exact As (b8 a Au)
 refine AE AA (AR AA (bs a λd8 b2 a=>HX (hb 137) (S3 b2) rfl (Ae 2 AA ?_)));rcases Sh.Aa a with ⟨l,a⟩|⟨l,a⟩
 ·refine zs l AA (zs l AA (zs l AA (zt l AA (AR AA ?_))));iterate 3 refine zs rfl rfl ?_
  refine zt AA AA (AR AA ?_);iterate 6 refine zs rfl rfl ?_
  refine zt AA AA (AR AA ?_);iterate 5 refine zs rfl rfl ?_
  exact zt AA AA (AB (G a Au))
 ·refine Am l AA (DQ (Cb p1) l (By gl AA) (Am l AA (zf l AA (AR AA ?_))));rcases Sh.Aa a with ⟨o,a⟩|⟨o,a⟩
  ·refine zs o AA (zs o AA (zs o AA (zt o AA (AR AA ?_))));iterate 6 refine zs rfl rfl ?_
   refine zt AA AA (AR AA ?_);iterate 5 refine zs rfl rfl ?_
   exact zt AA AA (AB (G a Au))
  ·refine Am o AA (DQ (Cb p1) o (By gl AA) (Am o AA (zf o AA (AR AA ?_))));rcases Sh.Aa a with ⟨f,a⟩|⟨f,a⟩
   ·refine zs f AA ?_;iterate 5 refine zs f rfl ?_
    refine zt f AA (AR AA ?_);iterate 5 refine zs rfl rfl ?_
    exact zt AA AA (AB (G a Au))
   ·refine Am f AA (bs a λy z a=>DQ (.CT (Cj y) 0) f (JT QC AA z) (Am f AA (Am f AA (DQ (Cb y.params) f (By FY AA) (Am f AA (zf f AA (AR AA ?_)))))));rcases Sh.Aa a with ⟨p,a⟩|⟨p,a⟩
    ·refine zs p AA ?_;iterate 4 refine zs p rfl ?_
     exact zt p AA (AB (G a Au))
    ·refine Am p AA (DQ (.CT (Cj y) 0) p (JT QC AA z) ?_);iterate 3 refine Am p rfl ?_
     exact zf p AA (AB (G a Au))
theorem O2 {N:Nat}{p0:AP}{r:Bool}(h0:IU N p0=some r):Bn 100 [Jn p0.decls p0.funcs] [] (.bool r) []:=by
 unfold IU at h0;refine Cx Tryz.func100 AA (Ai λO u=>Et 0 AA (AR AA (Ad u (Ai λP x=>iP (c:=4) (m:=1) (st':=[gy p0.decls p0.funcs,ro 0 122 3 Cj ([]:List BX)]) QC AA AA AA AA AA (AR AA (Ad x (AD λQ y=>Ai λR z=>Ae 2 AA (Cc AA (AR AA (Ad z ?_))))))))));refine Az h0 ?_ ?_<;>intro S h0
 ·refine Al AA ?_;cases h0;exact rd [(2,.bool false)]
 ·refine AH (y _ (AD λF A=>Ai λT B=>Ae 2 AA (Cc AA (AR AA (Ad B (bs h0 λf b h0=>?_))))));have C:∀{d},JJ f d ⟨31,AL [(1,Aq),(3,ow 1 0 d)],[gy p0.decls p0.funcs,jE d]⟩ F:=by
   rintro _ ⟨⟩ s G;try dsimp only at h0
   refine A _ (AF G (Ai λH h=>Ae 3 AA (D8 [(28,Cd p0.decls),(29,X2 f)] [gy p0.decls p0.funcs,⟨1,122,3,[]⟩] 1 AA ⟨.rfl,.Bg AA,pw⟩ Cv AA (bs h0 λD i h0=>HX (hb 76) (O3 i) rfl (AR AA (Ad h ?_))))));obtain rfl:=Sh.Bt h0;exact rd [(2,.bool D)]
  refine AJ (KB (Ea p0) (λj e=>⟨31,AL [(1,.ptr 0 0 0 0),(3,ow 1 0 e),(12,ls Bd p0.funcs),(13,i64 (Sh.len p0.funcs)),(14,i64 j)],[gy p0.decls p0.funcs,ro 0 122 3 Cj e]⟩) N 0 [] b Au ?_);intro n j e b;rw[Ea]at b;refine Al AA (AD λI k=>?_);refine Az b ?_ ?_<;>intro J b
  ·refine AH (k _ (AD λK o=>AJ (Ai λM p=>bs b λa q b=>Gz Ee q AA (AR AA (Cn 2 PZ AA (Bp Mf AA (Ad p (AE AA (Ae 5 AA (zz (.agg [J8 a.params,.zc,i64 a.result]) (DA eP fK ao AA AA) rfl (BD (Dh [(1,Aq),(12,ls Bd p0.funcs),(13,Cb p0.funcs),(14,i64 j),(18,ow 1 0 e),(23,.agg [J8 a.params,Sv,i64 a.result])] ⟨.rfl,.rfl,.rfl,.rfl,.rfl,.agg ⟨.rfl,.zc,.rfl,pw⟩,pw⟩) (CF 3 ([BX.mk a.params [] a.result]) Cj QC AA (bs b λg t b=>Lb ([BX.mk a.params [] a.result]) QC AA (E8 AA AA) t (AR AA (Ad o (AE AA (Ae 2 AA ?_)))))))))))))))));exact AB (xi (Sh.w (j+1),g) b (by refine Wk.trans (Eh (L:=[(1,Aq),(3,ow 1 0 g),(12,ls Bd p0.funcs),(13,Cb p0.funcs),(14,Kp j)]) (st':=[gy p0.decls p0.funcs,jE g,⟨0,55,5,[ZF a.params a.result a.body.op a.body.num a.body.kids]⟩,ro 0 122 3 Cj ([BX.mk a.params [] a.result])]) (.raw AA AA (.pure Bf (.raw AA AA (.pure Bf .nil)))) (.same AA)) ?_;exact BH [0,1] (.w (.p .nil)) (.same AA)))
  ·exact As (C b Au)
theorem RR {N:Nat}{vM:Int->AG->Option (Bool×Int)}(wv :∀{uT:Int} {p0:AG} {r:Bool×Int},vM uT p0=some r->Bn 230 [BJ p0.op p0.num p0.kids,Aq] [VO uT] (.bool r.1) [VO r.2]){uT:Int}{p0:AG}{r:Bool×Int}(h0:Jg N vM uT p0=some r):Bn 230 [BJ p0.op p0.num p0.kids,Aq] [VO uT] (.bool r.1) [VO r.2]:=by
 unfold Jg at h0;refine Cx Tryz.func230 AA (Ai λK p=>Et 1 AA (AR AA (Ad p (AD λM q=>Ai λO t=>Ae 5 AA (Bp HP AA (Ad t (Al AA ?_)))))));refine Az h0 ?_ ?_<;>intro P h0
 ·refine Al AA ?_;cases h0;exact Ap (xr (BH (L:=[(4,.bool false)]) (st':=[⟨0,3,1,[[Kp uT]]⟩]) [0] (.w .nil) ⟨.rfl,pw⟩))
 ·refine AH (q _ (AD λB u=>Ai λQ x=>Ae 2 AA (Cc AA (AR AA (Ad x ?_)))));obtain⟨e,a,h0⟩:=Sh.BZ h0;have y:∀(f:Int),e=Sum.inr f->∀s,Wk 1 s ⟨28,AL [],[VO f]⟩->B s:=by
   intro f R s C;subst e;refine u _ (AF C (Al AA ?_));cases h0;exact rt [(4,.bool true)]
  refine AJ (KB (EF p0 vM) (λz d=>⟨28,AL [(1,.ptr 0 0 0 0),(17,ls BI p0.kids),(18,i64 (Sh.len p0.kids)),(19,i64 z)],[VO d]⟩) N 0 (Sh.w (uT+1)) a (BH [0] (.w .nil) (.same AA)) ?_);intro n z d a;rw[EF]at a;refine Al AA (AD λD g=>?_);refine Az a ?_ ?_<;>intro E a
  ·refine AH (g _ (AD λF h=>AJ (Ai λG i=>bs a λc j a=>zz (Cz c.op c.num c.kids) (CI Bq AA AA j (Aj _) rfl) rfl (AR AA (Cn 1 GG AA (Bp BY AA (Ad i (Ai λH k=>Ae 2 AA (bs a λb l a=>IE [VO b.2,cU c.op c.num c.kids] (.bool b.1) [0] AT (hb 230) (wv l) rfl AA (AR AA (Ad k ?_)))))))))));refine Az a ?_ ?_<;>intro o a
   ·have I:b.1=false:=by simpa using o
    refine Al AA ?_;cases a;cases h0;exact Ap (xr (BH (L:=[(4,.bool false)]) (st':=[VO b.2]) [0] (.w .nil) ⟨.rfl,pw⟩))
   ·have J:b.1=true:=by simpa using o
    exact AH (h _ (AE AA (Ae 2 AA (AB (xi (Sh.w (z+1),b.2) a (BH [0] (.w .nil) (.same AA)))))))
  ·exact As (y d (BU a) _ Au)
theorem RW {N:Nat}:∀(n:Nat),∀{uT:Int} {p0:AG} {r:Bool×Int},E3 N n uT p0=some r->Bn 230 [BJ p0.op p0.num p0.kids,Aq] [VO uT] (.bool r.1) [VO r.2]:=by
 intro n
 induction n with
 | zero=>intro uT p0 r a;cases a
 | succ n ih=>
  intro uT p0 r a;rw[E3]at a;exact RR (λh=>ih h) a
theorem S7 {N:Nat}:∀{uT:Int} {p0:AG} {r:Bool×Int},NI N uT p0=some r->Bn 230 [BJ p0.op p0.num p0.kids,Aq] [VO uT] (.bool r.1) [VO r.2]:=by
 intro uT p0 r a;exact RW N a
theorem U6 {N:Nat}{p0:AG}{r:Int}(h0:Lg N p0=some r):Bn 168 [BJ p0.op p0.num p0.kids] [] (i64 r) []:=by
 unfold Lg at h0;refine Cx Tryz.func168 AA (Ai λh b=>Et 0 AA (AR AA (Ad b (Ai λi c=>Cn 1 oc AA (Bp HP AA (Ad c (AD λj d=>Ai λk e=>AR AA (bs h0 λa f h0=>IE [cU p0.op p0.num p0.kids,VO a.2] (.bool a.1) [1] AT (hb 230) (S7 f) rfl AA (AR AA (Ad e ?_))))))))));refine Az h0 ?_ ?_<;>intro g h0
 ·have l:a.1=false:=by simpa using g
  refine Al AA ?_;cases h0;exact rd [(2,i64 (-1))]
 ·have n:a.1=true:=by simpa using g
  refine AH (d _ (Al AA ?_));cases h0;exact rd [(2,i64 a.2)]
theorem RN {N:Nat}{p0:AP}{r:Ah}(h0:MV N p0=some r):Bn 169 [Jn p0.decls p0.funcs] [] (I1 r) []:=by
 unfold MV at h0;refine Dd AA (Cx Tryz.func169 AA (Ai λI p=>Et 0 AA (Cn 1 WM AA (Ad p (Ai λJ q=>Ae 2 AA (zz (.agg [Cd p0.decls,.zc]) (DA jy jb WM AA AA) rfl (Cn 2 WM AA (Bp Uk AA (Ad q (AD λB t=>Ai λK u=>Ae 2 AA (Cc AA (AR AA (Ad u (bs h0 λy b h0=>?_))))))))))))));have C:∀{c},JJ y c ⟨28,AL [(2,Aq),(3,DW)],[dw,⟨0,65,2,[[Cd p0.decls,ow 2 0 c]]⟩,jE c]⟩ B:=by
  rintro _ ⟨⟩ s D;refine t _ (AF D (Ai λO z=>AR AA (D8 [(2,Aq),(27,.agg [Cd p0.decls,X2 y])] [dw,⟨0,65,2,[[Cd p0.decls,ow 2 0 y]]⟩,⟨1,122,3,[]⟩] 2 AA ⟨.rfl,.agg ⟨.rfl,.Gs AA,pw⟩,pw⟩ Cv AA (Bp Uk AA (Ad z ?_)))));cases h0;exact Ap ⟨_,Wk.refl _ _,Gw (.tmp 2) [Cd p0.decls,X2 y] Uk AA _ AA⟩
 refine AJ (KB (Gt p0) (λe f=>⟨28,AL [(2,.ptr 0 0 0 0),(3,.ptr 1 0 0 0),(10,ls Bd p0.funcs),(11,i64 (Sh.len p0.funcs)),(12,i64 e)],[dw,⟨0,65,2,[[ls Ak p0.decls,ow 2 0 f]]⟩,ro 0 122 3 Cj f]⟩) N 0 [] b (by refine Wk.trans (Jf (id:=2) (st':=[gy p0.decls p0.funcs,dw,⟨0,65,2,[[ls Ak p0.decls,.own 3 0 (List.length ([]:List BX))]]⟩,ro 0 122 3 Cj ([]:List BX)]) (j:=1) rfl AA 122 (size':=3) (by decide) rfl AA AA AA) ?_;exact G2 (L:=[(2,.ptr 0 0 0 0),(3,.ptr 1 0 0 0),(10,ls Bd p0.funcs),(11,i64 (Sh.len p0.funcs)),(12,i64 0)]) (st':=[dw,⟨0,65,2,[[ls Ak p0.decls,.own 2 0 (List.length ([]:List BX))]]⟩,ro 0 122 3 Cj ([]:List BX)]) (st1:=[dw,⟨0,65,2,[[ls Ak p0.decls,.own 3 0 (List.length ([]:List BX))]]⟩,ro 0 122 3 Cj ([]:List BX)]) [1,2,3] (.w (.w (.p .nil))) (.same AA)) ?_);intro n e f b;rw[Gt]at b;refine Al AA (AD λE g=>?_);refine Az b ?_ ?_<;>intro F b
 ·refine AH (g _ (AD λG h=>AJ (Ai λH i=>bs b λa k b=>Gz Ee k AA (AR AA (Cn 3 PZ AA (Bp Mf AA (Ad i (AE AA (Ae 6 AA (zz (.agg [J8 a.params,.zc,i64 a.result]) (DA eP fK ao AA AA) rfl (BD (Dh [(2,Aq),(3,DW),(10,ls Bd p0.funcs),(11,Cb p0.funcs),(12,i64 e),(17,ow 2 0 f),(22,.agg [J8 a.params,Sv,i64 a.result])] ⟨.rfl,.rfl,.rfl,.rfl,.rfl,.rfl,.agg ⟨.rfl,.zc,.rfl,pw⟩,pw⟩) (CF 4 ([BX.mk a.params [] a.result]) Cj QC AA (bs b λd o b=>Lb ([BX.mk a.params [] a.result]) QC AA (E8 AA AA) o (AR AA (Bp nE AA (Ad h (AE AA (Ae 2 AA ?_))))))))))))))))));exact AB (xi (Sh.w (e+1),d) b (by refine Wk.trans (Eh (L:=[(2,Aq),(3,DW),(10,ls Bd p0.funcs),(11,Cb p0.funcs),(12,Kp e)]) (st':=[dw,⟨0,65,2,[[Cd p0.decls,ow 2 0 d]]⟩,jE d,⟨0,55,5,[ZF a.params a.result a.body.op a.body.num a.body.kids]⟩,ro 0 122 3 Cj ([BX.mk a.params [] a.result])]) (.raw AA AA (.raw AA AA (.pure Bf (.raw AA AA (.pure Bf .nil))))) (.same AA)) ?_;exact BH [0,1,2] (.w (.w (.p .nil))) (.same AA)))
 ·exact As (C b Au)
theorem Bc {p0:(List Int)}{r:(List Int)}(h0:Bx p0=some r):Bn 56 [ls eI p0] [] (ow 0 0 r) [BP r]:=by
 unfold Bx at h0;refine Cx Tryz.func56 AA (Al AA (AD λh c=>Ai λi a=>AR AA ?_));refine Wy AT FY AA (λg=>?_) ?_
 ·subst g;replace h0:some []=some r:=by rw[<- h0];first|rfl|simp[Sh.app]
  refine Ad a (HK (b:=true) rfl (λ_=>Al AA ?_) (λq=>nomatch (show true=false from (AA:true=true).symm.trans q)));cases h0;exact Ap (Exists.intro _ (And.intro (((JV (t:=2) rfl 3 (size:=1) (by decide)).trans (Dh [(2,jZ)] (.same AA))).trans (Dh [(2,jZ)] (.same AA))) (And.intro AA AA)))
 ·refine Ad a (HK (b:=false) rfl (λq=>nomatch (show false=true from (AA:false=false).symm.trans q)) (λ_=>AH (c _ (Ai λj d=>CF 0 ([]:List Int) eI BE AA (AR AA (bs h0 λf e h0=>Lb p0 BE AA N8 e (AR AA (Ad d ?_))))))));obtain rfl:=Sh.Bt h0;exact Ap (xr (Eh (L:=[(2,ow 0 0 f)]) (st':=[BP f]) (.pure Bf .nil) (.same AA)))
theorem QE {p1:Int}{r:(List Int)}(h0:FI p1=some r):Bn 237 [.zc,i64 p1] [] (ow 0 0 r) [BP r]:=by
 unfold FI at h0;refine Cx Tryz.func237 AA (Al AA (AD λp f=>Al AA ?_));refine Az h0 ?_ ?_<;>intro q h0
 ·refine AE AA ?_;cases h0
 ·refine AH (f _ (AD λn g=>bs h0 λk a h0=>?_));have l:∀{c},JJ k c ⟨27,AL [(0,ow 0 0 c)],[BP c]⟩ n:=by
   rintro _ ⟨⟩ s o;try dsimp only at h0
   refine g _ (AF o (Al AA ?_));obtain rfl:=Sh.Bt h0;exact rt [(4,ow 0 0 k)]
  refine Ai λx h=>Ae 2 AA (dS FY AA (AR AA (zz (i64 0) (cW FY AA) rfl (Ae 3 AA (Ad h (Al AA ?_))))));refine Az a ?_ ?_<;>intro i a
  ·exact AE AA (Ae 2 AA (dS FY AA (lh BE AA AA (AR AA (bs a λj d a=>jq (u:=0) (enc:=eI) (m:=0) (st':=[BP j]) BE pd AA AA i AA d AA AA (AR AA (zz (i64 0) (cW FY AA) rfl (bs a λb e a=>fk AT BE AA AA AA AA e AA (AR AA (AB (l a (Eh (L:=[(0,ow 0 0 b)]) (st':=[BP b]) (.pure Bf .nil) (.same AA)))))))))))))
  ·exact AH (l a ((JV (t:=0) rfl 3 (size:=1) (by decide)).trans (Dh [(0,jZ)] (.same AA))))
theorem Fe {N:Nat}{p0:(List (List Int))}{r:(List Int)}(h0:DT N p0=some r):Bn 185 [Y6 p0] [] (ow 0 0 r) [BP r]:=by
 unfold DT at h0;refine Cx Tryz.func185 AA ?_;iterate 2 refine Al rfl ?_
 refine AD λO C=>Ai λK4 D=>AR AA (Cc AA (AR AA (Ad D (bs h0 λE a h0=>?_))));have P:∀{c},JJ E c ⟨36,AL [(0,Y6 p0),(3,i64 c)],[]⟩ O:=by
  rintro _ ⟨⟩ s F;refine C _ (AF F (Ai λK9 G=>AR AA (bs h0 λi j h0=>La (ow 0 0 i) (QE j) ⟨(Bj λ_=>AA),pw⟩ (AR AA (Ad G (AD λH k=>Ai λR l=>AR AA (Cc AA (AR AA (Ad l (bs h0 λg a h0=>?_))))))))));have I:∀{d},JJ g d ⟨36,AL [(6,ow 0 0 d)],[BP d]⟩ H:=by
   rintro _ ⟨⟩ s F;try dsimp only at h0
   refine k _ (AF F (Al AA ?_));obtain rfl:=Sh.Bt h0;exact rt [(2,ow 0 0 g)]
  refine AJ (KB (Bz p0) (λe f=>⟨36,AL [(6,ow 0 0 f),(25,ls (eS eI) p0),(26,i64 (Sh.len p0)),(27,i64 e)],[ro 0 3 1 eI f]⟩) N 0 i a Au ?_);intro n e f a;rw[Bz]at a;refine Al AA (AD λS o=>?_);refine Az a ?_ ?_<;>intro T a
  ·exact AH (o _ (AD λU p=>AJ (Ai λV q=>bs a λJ t a=>Gz Lv t AA (Ae 2 AA (Ad q (AE AA (Ae 2 AA (bs a λh u a=>Lb J BE AA N8 u (AR AA (Ad p (AE AA (Ae 2 AA (AB (xi (Sh.w (e+1),h) a (Eh (L:=[(6,ow 0 0 h),(25,Y6 p0),(26,Cb p0),(27,Kp e)]) (st':=[BP h]) (.pure Bf .nil) (.same AA))))))))))))))))
  ·exact As (I a Au)
 refine AJ (KB (CA p0) (λb K=>⟨36,AL [(0,ls (eS eI) p0),(3,i64 b),(9,ls (eS eI) p0),(10,i64 (Sh.len p0)),(11,i64 K)],[]⟩) N 0 0 a Au ?_);intro n b K a;rw[CA]at a;refine Al AA (AD λW x=>?_);refine Az a ?_ ?_<;>intro X a
 ·refine AH (x _ (AD λY y=>AJ (Ai λZ z=>bs a λM A a=>Gz Lv A AA (Ae 2 AA (Ad z (Ai λb0 B=>Ae 2 AA (Cc AA (Ae 2 AA (Ad B (Al AA ?_))))))))));refine Az a ?_ ?_<;>intro b1 a
  ·refine AE AA ?_;cases a
  ·exact AH (y _ (AE AA (Ae 2 AA (AB (xi (Sh.w (b+(Sh.len M)),Sh.w (K+1)) a Au)))))
 ·exact As (P a Au)
theorem KK {N:Nat}{uZ:(List Int)->Ah->AG->Option (Int)}(uw :∀{s0:(List Int)} {p0:Ah} {p2:AG} {r:Int},uZ s0 p0 p2=some r->Bn 170 [I1 p0,ow 0 0 s0,BJ p2.op p2.num p2.kids] [BP s0] (i64 r) [BP s0]){p0:Ah}{p1:(List Int)}{p2:(List AG)}{p3:(List (List Int))}{r:Int}(h0:Ej N uZ p0 p1 p2 p3=some r):Bn 231 [I1 p0,ls eI p1,JU p2,Y6 p3] [] (i64 r) []:=by
 unfold Ej at h0;refine Cx Tryz.func231 AA (Ai λK1 Q=>Et 0 AA (AR AA (Ad Q (Al AA (AD λX R=>Ai λK4 S=>AR AA (Cc AA (AR AA (Ad S ?_))))))));obtain⟨T,o,h0⟩:=Sh.BZ h0;have Y:∀{vg},JJ T (.inr vg) ⟨44,AL [(9,i64 vg)],[]⟩ X:=by
  rintro vg ⟨⟩ s U;try dsimp only at h0
  refine R _ (AF U (Al AA ?_));obtain rfl:=Sh.Bt h0;exact rt [(8,i64 vg)]
 refine AJ (KB (Br N p0 p1 p2 p3 uZ) (λvP f=>⟨44,AL [(1,ls eI p1),(3,ls (eS eI) p3),(4,.ptr 0 0 0 0),(9,i64 vP),(13,ls BI p2),(14,i64 (Sh.len p2)),(15,i64 f)],[⟨0,65,2,[Dl p0]⟩]⟩) N (-1) 0 o Au ?_);intro n vP f o;rw[Br]at o;refine Al AA (AD λZ E=>?_);refine Az o ?_ ?_<;>intro b0 o
 ·refine AH (E _ (AD λb1 F=>AJ (Ai λb2 G=>AR AA (bs o λb H o=>zz (Cz b.op b.num b.kids) (CI Bq AA AA H (Aj _) rfl) rfl (AR AA (Cn 1 GG AA (AR AA (Bp BY AA (Ad G (AD λb3 I=>Iw (by kernel_rfl) (bs o λd J o=>bs o λp A o=>bs o λy K o=>NB λA20 a=>?_)))))))))));have j:A20 0 (bm 11 2047) ⟨44,AL (UJ p1 p3 vP f ((12,i64 y)::TF p2 f [])),[IM p0]⟩:=(a _ _ _).2 (by
   refine GP AA (by kernel_rfl) (I _ (AD λb4 M=>AD λV O=>bs o λP B o=>?_));have C:∀{D},JJ P D ⟨44,AL ((1,ls eI p1)::(3,Y6 p3)::(4,Aq)::(12,i64 y)::TF p2 f [(40,.bool D)]),[IM p0]⟩ V:=by
    rintro _ ⟨⟩ s U;refine O _ (AF U ?_);refine Az o ?_ ?_<;>intro b5 o
    ·refine Al AA ?_;cases o;cases h0;exact rd [(8,i64 (-1))]
    ·exact AH (M _ (AE AA (Ae 2 AA (Ad F (AE AA (Ae 2 AA (AB (xi (y,Sh.w (f+1)) o Au))))))))
   refine AE AA (Ae 3 AA ?_);rcases Sh.Aa B with ⟨k,B⟩|⟨k,B⟩
   ·refine zs k AA (zs k AA (zs k AA ?_));iterate 3 refine zn rfl ?_
    exact zs k AA (zt k AA (AB (C B Au)))
   ·refine Am k AA (Am k AA (Am k AA ?_));rcases Sh.Aa B with ⟨q,B⟩|⟨q,B⟩
    ·exact Am q AA (Am q AA (Am q AA (DY (v:=(.bool (!decide (y=vP)))) (GF AA AA k) rfl (Gy AA q AA) (zf k AA (AB (C B Au))))))
    ·exact zs q AA (zs q AA (zs q AA (DY (v:=(.bool false)) (GF AA AA k) rfl (HE AA q AA) (zf k AA (AB (C B (ET (L:=((1,ls eI p1)::(3,Y6 p3)::(4,Aq)::(12,i64 y)::TF p2 f [(40,.bool false)])) (.same AA)))))))))
  have c:A20 2 (bm 11 511) ⟨44,AL (UJ p1 p3 vP f (TF p2 f [(20,I1 p0),(27,ow 1 0 p),(28,BJ b.op b.num b.kids)])),[IM p0,BP p]⟩:=(a _ _ _).2 (by
   refine xa [9] ⟨?_,pw⟩
   ·refine xo 9 (Vp (rows0:=[BP p]) (rows1:=[BP p]) (st':=[IM p0,BP p]) (v':=(i64 y)) [1] AT (hb 170) (uw K) rfl (by decide) rfl AA (.pure Bf .nil) rfl AA (.pure Bf .nil) .nil AA AA (AB ⟨AA,LP tb 10 AA AA ?_⟩));exact xw a j (by exact IF [0] AA AA (.w .nil) (.same AA)))
  have e:A20 3 (bm 11 383) ⟨44,AL (UJ p1 p3 vP f (TF p2 f [(20,I1 p0),(26,ow 1 0 [p1,d]),(28,BJ b.op b.num b.kids)])),[IM p0,ro 0 45 1 (eS eI) [p1,d]]⟩:=(a _ _ _).2 (by
   refine xa [7] ⟨?_,pw⟩
   ·refine xo 7 ?_;exact D8 (UJ p1 p3 vP f (TF p2 f [(20,I1 p0),(26,ls (eS eI) [p1,d]),(28,BJ b.op b.num b.kids)])) [IM p0,⟨1,45,1,[]⟩] 1 AA ⟨.rfl,.rfl,.rfl,.rfl,.rfl,.rfl,.rfl,.rfl,.rfl,.Bg AA,.rfl,pw⟩ Cv AA (HZ (v':=(ow 2 0 p)) AT (hb 185) (Fe A) rfl AA ⟨(Bj λ_=>AA),pw⟩ AA AA (P5 a c (by exact IF [0,2] AA AA (.w (.p .nil)) (.same AA)))))
  have g:A20 4 (bm 11 127) ⟨44,AL (UJ p1 p3 vP f ((11,DW)::TF p2 f [(20,I1 p0),(26,ow 2 0 [p1,d])])),[IM p0,cU b.op b.num b.kids,ro 0 45 1 (eS eI) [p1,d]]⟩:=(a _ _ _).2 (by
   refine xa [7,8] ⟨?_,?_,pw⟩
   ·refine xo 7 (D8 (UJ p1 p3 vP f ((11,DW)::TF p2 f [(20,I1 p0),(26,ls (eS eI) [p1,d])])) [IM p0,cU b.op b.num b.kids,⟨1,45,1,[]⟩] 2 AA ⟨.rfl,.rfl,.rfl,.rfl,.rfl,.rfl,.rfl,.rfl,.rfl,.rfl,.Bg AA,pw⟩ Cv AA (HZ (v':=(ow 3 0 p)) AT (hb 185) (Fe A) rfl AA ⟨(Bj λ_=>AA),pw⟩ AA AA (AB ⟨AA,LP tb 8 AA AA ?_⟩)));exact xw a c (by exact IF [0,3] AA AA (.w (.p .nil)) (.same AA))
   ·refine xo 8 ?_;exact AR AA (P5 a e (by exact IF [0,2] AA AA (.w (.p .nil)) (.same AA))))
  have h:A20 4 (bm 11 319) ⟨44,AL (UJ p1 p3 vP f (TF p2 f [(20,I1 p0),(21,ls eI p1),(25,ls eI d),(28,BJ b.op b.num b.kids)])),[IM p0]⟩:=(a _ _ _).2 (by
   refine xa [6] ⟨?_,pw⟩
   ·refine xo 6 ?_;refine CF 1 [p1,d] (eS eI) Lv AA ?_;exact xd a e)
  have t:A20 5 (bm 11 63) ⟨44,AL (UJ p1 p3 vP f ((11,DW)::TF p2 f [(20,I1 p0),(21,ls eI p1),(25,ls eI d)])),[IM p0,cU b.op b.num b.kids]⟩:=(a _ _ _).2 (by
   refine xa [6,8] ⟨?_,?_,pw⟩
   ·refine xo 6 ?_;refine CF 2 [p1,d] (eS eI) Lv AA ?_;exact xd a g
   ·refine xo 8 ?_;exact AR AA (P5 a h (by exact IF [0] AA AA (.w .nil) (.same AA))))
  have i:A20 4 (bm 11 382) ⟨44,AL (UJ p1 p3 vP f (TF p2 f [(26,ow 1 0 [p1,d]),(28,BJ b.op b.num b.kids)])),[IM p0,ro 0 45 1 (eS eI) [p1,d]]⟩:=(a _ _ _).2 (by
   refine xa [0,7] ⟨?_,?_,pw⟩
   ·exact xq tb a e
   ·refine xo 7 (D8 (UJ p1 p3 vP f (TF p2 f [(26,ls (eS eI) [p1,d]),(28,BJ b.op b.num b.kids)])) [IM p0,⟨1,45,1,[]⟩] 1 AA ⟨.rfl,.rfl,.rfl,.rfl,.rfl,.rfl,.rfl,.rfl,.Bg AA,.rfl,pw⟩ Cv AA (HZ (v':=(ow 2 0 p)) AT (hb 185) (Fe A) rfl AA ⟨(Bj λ_=>AA),pw⟩ AA AA (AB ⟨AA,LP tb 0 AA AA ?_⟩)));exact xw a c (by exact IF [0,2] AA AA (.w (.p .nil)) (.same AA)))
  have u:A20 5 (bm 11 126) ⟨44,AL (UJ p1 p3 vP f ((11,DW)::TF p2 f [(26,ow 2 0 [p1,d])])),[IM p0,cU b.op b.num b.kids,ro 0 45 1 (eS eI) [p1,d]]⟩:=(a _ _ _).2 (by
   refine xa [0,7,8] ⟨?_,?_,?_,pw⟩
   ·exact xq tb a g
   ·refine xo 7 (D8 (UJ p1 p3 vP f ((11,DW)::TF p2 f [(26,ls (eS eI) [p1,d])])) [IM p0,cU b.op b.num b.kids,⟨1,45,1,[]⟩] 2 AA ⟨.rfl,.rfl,.rfl,.rfl,.rfl,.rfl,.rfl,.rfl,.rfl,.Bg AA,pw⟩ Cv AA (HZ (v':=(ow 3 0 p)) AT (hb 185) (Fe A) rfl AA ⟨(Bj λ_=>AA),pw⟩ AA AA (AB ⟨AA,qX tb 0 AA AA (LP tb 8 AA AA ?_)⟩)));exact xw a c (by exact IF [0,3] AA AA (.w (.p .nil)) (.same AA))
   ·refine xo 8 ?_;exact AR AA (P5 a i (by exact IF [0,2] AA AA (.w (.p .nil)) (.same AA))))
  have x:A20 5 (bm 11 318) ⟨44,AL (UJ p1 p3 vP f (TF p2 f [(21,ls eI p1),(25,ls eI d),(28,BJ b.op b.num b.kids)])),[IM p0]⟩:=(a _ _ _).2 (by
   refine xa [0,6] ⟨?_,?_,pw⟩
   ·exact xq tb a h
   ·refine xo 6 ?_;refine CF 1 [p1,d] (eS eI) Lv AA ?_;exact xd a i)
  have z:A20 6 (bm 11 62) ⟨44,AL (UJ p1 p3 vP f ((11,DW)::TF p2 f [(21,ls eI p1),(25,ls eI d)])),[IM p0,cU b.op b.num b.kids]⟩:=(a _ _ _).2 (by
   refine xa [0,6,8] ⟨?_,?_,?_,pw⟩
   ·exact xq tb a t
   ·refine xo 6 ?_;refine CF 2 [p1,d] (eS eI) Lv AA ?_;exact xd a u
   ·refine xo 8 ?_;exact AR AA (P5 a x (by exact IF [0] AA AA (.w .nil) (.same AA))))
  exact (a _ _ _).2 (qX tb 1 AA AA (qX tb 2 AA AA (qX tb 3 AA AA (aX 4 (.CT ((eS eI) d) 0) rfl (Sc Lv AA AA J AA) (qX tb 5 AA AA (xt a z))))))
 ·exact As (Y o (Bi _ AA))
theorem UO {N:Nat}{p0:(List AI)}{r:Int}(h0:Km N p0=some r):Bn 171 [Cd p0] [] (i64 r) []:=by
 unfold Km at h0;refine Cx Tryz.func171 AA ?_;iterate 2 refine Al rfl ?_
 refine AD λl f=>Ai λy g=>AR AA (Cc AA (AR AA (Ad g (bs h0 λh a h0=>?_))));have o:∀{n7},JJ h n7 ⟨19,AL [(3,i64 n7)],[]⟩ l:=by
  rintro _ ⟨⟩ s p;try dsimp only at h0
  refine f _ (AF p (Al AA ?_));obtain rfl:=Sh.Bt h0;exact rt [(2,i64 h)]
 refine AJ (KB (Fm p0) (λn5 i=>⟨19,AL [(3,i64 n5),(6,ls Ak p0),(7,i64 (Sh.len p0)),(8,i64 i)],[]⟩) N 0 0 a Au ?_);intro n n5 i a;rw[Fm]at a;refine Al AA (AD λq b=>?_);refine Az a ?_ ?_<;>intro t a
 ·exact AH (b _ (AD λu c=>AJ (Ai λx d=>bs a λj e a=>Gz DZ e AA (AR AA (Cn 0 Ev AA (Bp Hl AA (Ad d (AE AA (Ae 3 AA (Cc AA (Ae 2 AA (Ad c (AE AA (Ae 2 AA (AB (xi (Sh.w (n5+(Sh.len j.cons)),Sh.w (i+1)) a (Bi _ AA)))))))))))))))))
 ·exact As (o a Au)
theorem N2 {N:Nat}{p0:(List AI)}{p1:Int}{r:(List Int)}(h0:Ji N p0 p1=some r):Bn 104 [Cd p0,i64 p1] [] (ow 0 0 r) [BP r]:=by
 unfold Ji at h0;refine Cx Tryz.func104 AA (Al AA (AD λT A=>AD λM B=>bs h0 λI b h0=>?_));have J:∀{C},JJ I C ⟨39,AL [(0,Cd p0),(1,i64 p1),(15,.bool C)],[]⟩ M:=by
  rintro _ ⟨⟩ s D;refine B _ (AF D ?_);refine Az h0 ?_ ?_<;>intro U h0
  ·refine Al AA ?_;cases h0;exact Ap ⟨_,(((JV (t:=4) rfl 3 (size:=1) (by decide)).trans (Dh [(4,jZ)] (.same AA))).trans (Dh [(4,jZ)] (.same AA))),And.intro AA AA⟩
  ·refine AH (A _ (Ai λV E=>Ae 3 AA (bs h0 λW F h0=>Sd (i:=0) (j:=Sh.w (p1-1)) AT DZ AA AA AA Cv F (bs h0 λc o h0=>HX (hb 171) (UO o) rfl (AR AA (Ad E (Al AA (AD λG p=>Ai λP q=>Ae 3 AA (bs h0 λf u h0=>Gz DZ u AA (Ae 2 AA (Cc AA (AR AA (Ad q (bs h0 λh b h0=>?_))))))))))))));have H:∀{e},JJ h e ⟨39,AL [(6,ow 0 0 e)],[BP e]⟩ G:=by
    rintro _ ⟨⟩ s D;try dsimp only at h0
    refine p _ (AF D (Al AA ?_));obtain rfl:=Sh.Bt h0;exact rt [(4,ow 0 0 h)]
   refine AJ (KB (Gu f c) (λd g=>⟨39,AL [(5,i64 c),(6,ow 0 0 g),(27,i64 (Sh.len f.cons)),(28,i64 d)],[ro 0 3 1 eI g]⟩) N 0 [] b ((JV (t:=6) rfl 3 (size:=1) (by decide)).trans (Dh [(5,i64 c),(6,.own 0 0 (List.length ([]:List Int))),(27,i64 (Sh.len f.cons)),(28,i64 0)] (.same AA))) ?_);intro n d g b;rw[Gu]at b;refine Al AA (AD λQ x=>?_);refine Az b ?_ ?_<;>intro R b
   ·refine AH (x _ (AD λS y=>AJ (Al AA (AE AA (Ae 4 AA (CF 1 [Sh.w (c+d)] eI BE AA (bs b λk z b=>Lb [Sh.w (c+d)] BE AA (E8 AA AA) z (AR AA (Ad y (AE AA (Ae 2 AA ?_)))))))))));exact AB (xi (Sh.w (d+1),k) b (by refine Wk.trans (Eh (L:=[(5,i64 c),(6,ow 0 0 k),(27,Yu f),(28,Kp d)]) (st':=[BP k,ro 0 3 1 eI [Sh.w (c+d)]]) (.pure Bf (.pure Bf .nil)) (.same AA)) ?_;exact BH [0] (.p .nil) (.same AA)))
   ·exact As (H b Au)
 refine AE AA (Ae 3 AA ?_);rcases Sh.Aa b with ⟨a,b⟩|⟨a,b⟩
 ·refine zs a AA ?_;iterate 3 refine zs a rfl ?_
  exact zt a AA (AB (J b Au))
 ·exact Am a AA (Am a AA (DQ (Cb p0) a (By Ui AA) (Am a AA (zf a AA (AB (J b Au))))))
theorem Rk {N:Nat}{p0:(List AI)}{p1:Int}{r:Int×EK}(h0:JW N p0 p1=some r):Bn 172 [Cd p0,i64 p1] [] (.Dv [i64 r.1,Ky r.2]) []:=by
 unfold JW at h0;refine Dd AA (Cx Tryz.func172 AA (Ai λS y=>AR AA (Cn 0 Pf AA (Ad y (AD λH z=>Ai λT A=>AR AA (Cc AA (AR AA (Ad A ?_))))))));obtain⟨B,b,h0⟩:=Sh.BZ h0;have I:JJ B (.inr ()) ⟨38,AL [(5,Aq)],[⟨0,106,1,[[.zc]]⟩]⟩ H:=by
  rintro⟨⟩ s C;refine z _ (AF C (Ai λU D=>zz (.agg [.zc]) (DA eR dt Pf AA AA) rfl (AR AA (Bp Ns AA (Ad D ?_)))));cases h0;exact Ap ⟨_,(Hk (id:=0) (cs:=[.zc]) (cs':=[Sv]) (st':=[⟨0,106,1,[[Sv]]⟩]) rfl ⟨le.zc,pw⟩ AA AA).trans (Dh [(4,i64 (-1)),(5,Aq)] (.same AA)),Gw (.tmp 5) [Sv] Ns AA _ AA⟩
 refine AJ (KB (Ge p0) (λg d=>⟨38,AL [(1,i64 g),(5,.ptr 0 0 0 0),(8,ls Ak p0),(9,i64 (Sh.len p0)),(10,i64 d)],[⟨0,106,1,[[.zc]]⟩]⟩) N p1 0 b Au ?_);intro n g d b;rw[Ge]at b;refine Al AA (AD λV E=>?_);refine Az b ?_ ?_<;>intro K b
 ·refine AH (E _ (AD λM h=>AJ (Ai λO i=>AR AA (bs b λc j b=>Gz DZ j AA (AR AA (Cn 1 Ev AA (AR AA (Bp Hl AA (Ad i (AD λP k=>AD λF l=>bs b λo p b=>?_))))))))));have q:∀{e},JJ o e ⟨38,AL [(1,i64 g),(5,Aq),(6,i64 d),(7,DW),(8,Cd p0),(9,Cb p0),(10,i64 d),(23,.bool e)],[⟨0,106,1,[[.zc]]⟩,Xv c]⟩ F:=by
   rintro _ ⟨⟩ s C;refine l _ (AF C ?_);refine Az b ?_ ?_<;>intro Q b
   ·refine AD λR t=>Bu 8 (by kernel_rfl) (by kernel_rfl) (by rfl) ?_;iterate 5 refine yq tb rfl ?_
    refine bs b λf u b=>Mt Hg u AA ?_;iterate 2 refine yq tb rfl ?_
    refine Ao (Bp Ns AA (Ad t ?_));cases b;cases h0;exact Ap ⟨_,(BH (L:=[(4,Kp d),(5,Aq)]) (st':=[⟨0,106,1,[CP f]⟩]) [0] (.w .nil) ⟨.rfl,.rfl,pw⟩).trans (Dh [(4,Kp d),(5,Aq)] ⟨.rfl,.rfl,pw⟩),Gw (.tmp 5) (CP f) Ns AA _ AA⟩
   ·exact AH (k _ (AE AA (Ae 3 AA (Cc AA (Ae 2 AA (Ad h (AE AA (Ae 2 AA (AB (xi (Sh.w (g-(Sh.len c.cons)),Sh.w (d+1)) b (BH [0] (.w .nil) (.same AA))))))))))))
  refine AE AA (Ae 3 AA ?_);rcases Sh.Aa p with ⟨a,p⟩|⟨a,p⟩
  ·exact Am a AA (Am a AA (Am a AA (DQ (Yu c) a (By Oe AA) (Am a AA (zt a AA (AB (q p Au)))))))
  ·refine zs a AA ?_;iterate 4 refine zs a rfl ?_
   exact zf a AA (AB (q p Au))
 ·exact As (I b Au)
theorem MZ {N:Nat}{p0:(List AI)}{p1:Int}{r:(List Int)}(h0:Dy N p0 p1=some r):Bn 105 [Cd p0,i64 p1] [] (ls eI r) []:=by
 unfold Dy at h0;refine Cx Tryz.func105 AA (Al AA (Ai λd a=>Ae 2 AA (bs h0 λb c h0=>Dj (.Dv [i64 b.1,Ky b.2]) (hb 172) (Rk c) rfl (Ae 3 AA (Cn 0 Pf AA (AR AA (Bp Ns AA (Ad a (Al AA ?_)))))))));cases h0;exact rd [(4,J8 b.2.fields)]
theorem Ku {p0:(List AI)}{p1:Int}{r:AI×Bool}(h0:Hs p0 p1=some r):Bn 187 [Cd p0,i64 p1] [] (Qz r.1 r.2) []:=by
 unfold Hs at h0;refine Dd AA (Cx Tryz.func187 AA (Ai λu f=>Cn 0 Ev AA (AR AA (Ad f (AD λw g=>AD λq h=>bs h0 λo c h0=>?_)))));have i:∀{j},JJ o j ⟨30,AL [(0,Cd p0),(1,i64 p1),(4,Aq),(23,.bool j)],[iI]⟩ q:=by
  rintro _ ⟨⟩ s t;refine h _ (AF t ?_);refine Az h0 ?_ ?_<;>intro z h0
  ·refine Ai λA k=>zz (.agg iR) (DA LQ LS Ev AA AA) rfl (Bp Hl AA (AR AA (Ad k ?_)));cases h0;exact Ap ⟨_,(Hk (id:=0) (cs:=iR) (cs':=jR) (st':=[⟨0,104,3,[jR]⟩]) rfl ⟨le.rfl,le.rfl,le.zc,pw⟩ AA AA).trans (Dh [(4,Aq),(5,.bool false)] (.same AA)),Gw (.tmp 4) jR Hl AA _ AA⟩
  ·refine AH (g _ (Ai λB l=>Ae 3 AA (bs h0 λp n h0=>Gz DZ n AA (AR AA (Bp Hl AA (AR AA (Ad l ?_)))))));cases h0;exact Ap ⟨_,Dh [(4,Aq),(5,.bool true)] (.same AA),Gw (.tmp 4) (Ak p) Hl AA _ AA⟩
 refine AE AA (Ae 3 AA ?_);rcases Sh.Aa c with ⟨b,c⟩|⟨b,c⟩
 ·refine zs b AA ?_;iterate 3 refine zs b rfl ?_
  refine zt b AA (AR AA ?_);iterate 8 refine zs rfl rfl ?_
  exact zt AA AA (AB (i c Au))
 ·refine Am b AA (Am b AA (DQ (Cb p0) b (By Ui AA) (Am b AA (zf b AA (AR AA ?_)))));rcases Sh.Aa c with ⟨a,c⟩|⟨a,c⟩
  ·refine zs a AA ?_;iterate 7 refine zs a rfl ?_
   exact zt a AA (AB (i c Au))
  ·exact Am a AA (Am a AA (Am a AA (bs c λd e c=>DQ (UU d) a (JT DZ AA e) (Am a AA (Am a AA (DQ (Yu d) a (By Oe AA) (Am a AA (zf a AA (AB (i c Au))))))))))
theorem HB {N:Nat}{p0:(List Int)}{p1:(List Int)}{r:Bool}(h0:DF N p0 p1=some r):Bn 239 [ls eI p0,ls eI p1] [] (.bool r) []:=by
 unfold DF at h0;refine Cx Tryz.func239 AA (Al AA (AD λF l=>Ai λG m=>AR AA (Cc AA (AR AA (Cc AA (AR AA (Ad m ?_)))))));refine Az h0 ?_ ?_<;>intro t h0
 ·have H:decide ((Sh.len p0)=(Sh.len p1))=false:=by simpa using t
  refine Al AA ?_;cases h0;exact rt [(4,.bool false)]
 ·have I:decide ((Sh.len p0)=(Sh.len p1))=true:=by simpa using t
  refine AH (l _ (AD λx o=>Ai λJ p=>AR AA (Cc AA (AR AA (Ad p ?_)))));obtain⟨b,a,h0⟩:=Sh.BZ h0;have q:JJ b (.inr ()) ⟨26,AL [],[]⟩ x:=by
   rintro⟨⟩ s y;refine o _ (AF y (Al AA ?_));cases h0;exact rt [(4,.bool true)]
  refine AJ (Le (D3 p0 p1) (λc=>⟨26,AL [(0,ls eI p0),(1,ls eI p1),(12,i64 (Sh.len p0)),(13,i64 c)],[]⟩) N 0 a Au ?_);intro n c a;rw[D3]at a;refine Al AA (AD λz d=>?_);refine Az a ?_ ?_<;>intro A a
  ·refine AH (d _ (AD λB e=>AJ (Al AA (AD λC f=>CZ (by kernel_rfl) (by kernel_rfl) (by rfl) ?_))));iterate 2 refine yq tb rfl ?_
   refine bs a λg h a=>Mt BE h AA ?_;iterate 3 refine yq tb rfl ?_
   refine bs a λi j a=>Mt BE j AA ?_;iterate 2 refine yq tb rfl ?_
   refine Ao (f _ ?_);refine Az a ?_ ?_<;>intro k a
   ·have D:decide (g=i)=false:=by simpa using k
    refine Al AA ?_;cases a;cases h0;exact rt [(4,.bool false)]
   ·have E:decide (g=i)=true:=by simpa using k
    exact AH (e _ (AE AA (Ae 2 AA (AB (xi (Sh.w (c+1)) a Au)))))
  ·exact As (q a Au)
theorem Vt {N:Nat}{p0:(List AI)}{p1 p2 r:Int}(h0:Lj N p0 p1 p2=some r):Bn 240 [Cd p0,i64 p1,i64 p2] [] (i64 r) []:=by
 unfold Lj at h0;refine Cx Tryz.func240 AA (Al AA (AD λA o=>Ai λG p=>AR AA (Cc AA (AR AA (Ad p ?_)))));obtain⟨q,a,h0⟩:=Sh.BZ h0;have B:JJ q (.inr ()) ⟨35,AL [],[]⟩ A:=by
  rintro⟨⟩ s t;refine o _ (AF t (Al AA ?_));cases h0;exact rt [(6,i64 (-1))]
 refine AJ (Le (GU p0 p1 p2) (λg=>⟨35,AL [(1,i64 p1),(2,i64 p2),(9,ls Ak p0),(10,i64 (Sh.len p0)),(11,i64 g)],[]⟩) N 0 a Au ?_);intro n g a;rw[GU]at a;refine Al AA (AD λH u=>?_);refine Az a ?_ ?_<;>intro I a
 ·refine AH (u _ (AD λD h=>AJ (Ai λE i=>AR AA (bs a λx j a=>Gz DZ j AA (AR AA (Cn 0 Ev AA (AR AA (Bp Hl AA (Ad i (AD λy k=>bs a λl d a=>?_))))))))));have e:∀{f},JJ l f ⟨35,AL [(1,i64 p1),(2,i64 p2),(7,i64 g),(9,Cd p0),(10,Cb p0),(11,i64 g),(31,.bool f)],[]⟩ y:=by
   rintro _ ⟨⟩ s t;refine k _ (AF t ?_);refine Az a ?_ ?_<;>intro F a
   ·refine Al AA ?_;cases a;cases h0;exact rt [(6,Kp g)]
   ·exact AH (h _ (AE AA (Ae 2 AA (AB (xi (Sh.w (g+1)) a Au)))))
  refine AE AA (Ae 2 AA (Cc AA (Ae 2 AA ?_)));rcases Sh.Aa d with ⟨b,d⟩|⟨b,d⟩
  ·refine Am b AA ?_;iterate 3 refine Am b rfl ?_
   refine zt b AA (AR AA ?_);rcases Sh.Aa d with ⟨c,d⟩|⟨c,d⟩
   ·refine Am c AA ?_;iterate 3 refine Am c rfl ?_
    exact zt c AA (AB (e d (Bi _ AA)))
   ·refine zs c AA ?_;iterate 3 refine zs c rfl ?_
    exact zf c AA (AB (e d (Bi _ AA)))
  ·refine zs b AA ?_;iterate 3 refine zs b rfl ?_
   refine zf b AA (AR AA ?_);iterate 4 refine zs rfl rfl ?_
   exact zf AA AA (AB (e d (Bi _ AA)))
 ·exact As (B a Au)
theorem JF {N:Nat}{p0:Ah}{p1 p2:Int}{p3:(List Int)}{r:Int×Bool}(h0:AS N p0 p1 p2 p3=some r):Bn 189 [.agg (Dl p0),i64 p1,i64 p2,ls eI p3] [] (.Dv [i64 r.1,.bool r.2]) []:=by
 unfold AS at h0;refine Cx Tryz.func189 AA (Ai λK1 h5=>Et 0 AA (Ae 2 AA (Ad h5 (Al AA (AD λK3 h6=>?_)))));obtain⟨o5,b,h0⟩:=Sh.BZ h0;have M5:∀{Y},JJ o5 (.inr Y) ⟨149,AL (QV p2 p3 [(10,ow 0 0 Y),(11,i64 0)]),[BP Y]⟩ K3:=by
  rintro Y ⟨⟩ s A;refine h6 _ (AF A (AD λK6 h7=>bs h0 λo8 b h0=>?_));have M8:∀{t7},JJ o8 t7 ⟨149,AL [(8,i64 0),(9,.bool t7)],[]⟩ K6:=by
   rintro _ ⟨⟩ s A;refine h7 _ (AF A ?_);cases h0;exact rt [(8,i64 0),(9,.bool o8)]
  refine AE AA (Ae 4 AA ?_);rcases Sh.Aa b with ⟨G,b⟩|⟨G,b⟩
  ·exact Am G AA (Am G AA (D8 [(141,i64 0),(144,.bool (decide (p2=0))),(145,ls eI p3),(146,ls eI Y)] S6 0 AA ⟨.rfl,.rfl,.rfl,.Bg AA,pw⟩ Cv AA (bs b λh8 Z b=>Oz G (HB Z) rfl (zt G AA (Ae 2 AA (AB (M8 b (Bi _ AA))))))))
  ·exact zs G AA (zs G AA (zs G AA (zf G AA (Ae 2 AA (AB (M8 b (Bi _ AA)))))))
 refine Al AA (AJ (Al AA ?_));refine Az b ?_ ?_<;>intro l5 b
 ·refine AD λh9 b0=>bs b λb1 c b=>?_;have R:∀{H},JJ b1 H ⟨149,AL [(8,i64 0),(9,.bool H)],[]⟩ h9:=by
   rintro _ ⟨⟩ s A;refine b0 _ (AF A ?_);cases b;cases h0;exact rt [(8,i64 0),(9,.bool b1)]
  refine AE AA (Ae 3 AA ?_);rcases Sh.Aa c with ⟨D,c⟩|⟨D,c⟩
  ·refine Am D AA (Am D AA (zt D AA (AR AA ?_)));rcases Sh.Aa c with ⟨x,c⟩|⟨x,c⟩
   ·exact Am x AA (DQ (Cb p3) x (By FY AA) (Am x AA (zt x AA (Ae 2 AA (AB (R c (Bi _ AA)))))))
   ·exact zs x AA (zs x AA (zs x AA (zf x AA (Ae 2 AA (AB (R c (Bi _ AA)))))))
  ·refine zs D AA (zs D AA (zf D AA (AR AA ?_)));iterate 3 refine zs rfl rfl ?_
   exact zf AA AA (Ae 2 AA (AB (R c (Bi _ AA))))
 ·refine AD λk0 b2=>bs b λb3 c b=>?_;have I:∀{S},JJ b3 S ⟨149,AL ((1,i64 p1)::QV p2 p3 [(4,Aq),(11,i64 0),(18,i64 p1),(32,.bool S)]),[IM p0]⟩ k0:=by
   rintro _ ⟨⟩ s A;refine b2 _ (AF A ?_);refine Az b ?_ ?_<;>intro l6 b
   ·exact AE AA (CF 1 [(0:Int),0] eI BE AA (AR AA (AB (M5 b (BH [1] (.p .nil) (.same AA))))))
   ·refine Al AA ?_;refine Az b ?_ ?_<;>intro l7 b
    ·refine AE AA ?_;refine CF 1 [(0:Int)] eI BE AA ?_;refine AR AA ?_;exact AB (M5 b (BH [1] (.p .nil) (.same AA)))
    ·refine Al AA ?_;refine Az b ?_ ?_<;>intro l8 b
     ·refine AD λl9 b4=>Ai λm0 b5=>AR AA (Cc AA (AR AA (Ad b5 ?_)));refine Az b ?_ ?_<;>intro b6 b
      ·have m1:decide ((Sh.len p3)=2)=false:=by simpa using b6
       refine Al AA ?_;cases b;cases h0;exact rd (lF [])
      ·have m2:decide ((Sh.len p3)=2)=true:=by simpa using b6
       refine AH (b4 _ (AD λm3 b7=>Iw (by kernel_rfl) (bs b λT b8 b=>bs b λd P b=>NB λA36 a=>?_)));have f:A36 0 (bm 12 4095) ⟨149,AL (QV p2 p3 [(12,Aq),(13,.bool d.2)]),[Xv d.1]⟩:=(a _ _ _).2 (by
        refine GP AA (by kernel_rfl) (b7 _ (AD λk1 c0=>bs b λc1 c b=>?_));have U:∀{J},JJ c1 J ⟨149,AL [(8,i64 d.1.to),(9,.bool J)],[]⟩ k1:=by
         rintro _ ⟨⟩ s A;refine c0 _ (AF A ?_);cases b;cases h0;exact rt [(8,i64 d.1.to),(9,.bool c1)]
        refine CZ (by kernel_rfl) (by kernel_rfl) (by rfl) ?_;iterate 4 refine yq tb rfl ?_
        rcases Sh.Aa c with ⟨B,c⟩|⟨B,c⟩
        ·refine yg tb B AA (bs c λk2 c2 c=>I7 (v:=(U0 k2)) (GF AA AA B) rfl (JT BE AA c2) ?_);iterate 4 refine yg tb B rfl ?_
         refine yt B AA (yq tb AA ?_);rcases Sh.Aa c with ⟨E,c⟩|⟨E,c⟩
         ·refine yg tb E AA (yg tb E AA (yt E AA ?_));iterate 2 refine yq tb rfl ?_
          exact Ao (U c (Bi _ AA))
         ·refine ys E AA (ys E AA (yf E AA ?_));iterate 2 refine yq tb rfl ?_
          exact Ao (U c (Bi _ AA))
        ·refine ys B AA ?_;iterate 5 refine ys B rfl ?_
         refine yf B AA (yq tb AA ?_);iterate 2 refine ys rfl rfl ?_
         refine yf AA AA ?_;iterate 2 refine yq tb rfl ?_
         exact Ao (U c (by exact BH [] .nil (.same AA))))
       have e:A36 2 (bm 12 1023) ⟨149,AL (QV p2 p3 [(12,Aq),(53,aZ d.1),(54,.bool d.2)]),[iI]⟩:=(a _ _ _).2 (by
        refine xa [10] ⟨?_,pw⟩
        ·refine xo 10 ?_;refine Bp Hl AA (AB ⟨AA,?_⟩);refine LP tb 11 AA AA ?_;exact xt a f)
       have g:A36 3 (bm 12 511) ⟨149,AL (QV p2 p3 [(53,aZ d.1),(54,.bool d.2)]),[]⟩:=(a _ _ _).2 (by
        refine xa [9] ⟨?_,pw⟩
        ·refine xo 9 ?_;exact Cn 0 Ev AA (xd a e))
       have o:A36 2 (bm 12 1791) ⟨149,AL (QV p2 p3 [(12,Aq),(46,Qz d.1 d.2)]),[Xv d.1]⟩:=(a _ _ _).2 (by
        refine xa [8] ⟨?_,pw⟩
        ·refine xo 8 ?_;refine AR AA (AB ⟨AA,?_⟩);refine LP tb 11 AA AA ?_;exact xt a f)
       have h:A36 3 (bm 12 767) ⟨149,AL (QV p2 p3 [(12,Aq),(46,Qz d.1 d.2),(53,aZ d.1)]),[iI]⟩:=(a _ _ _).2 (by
        refine xa [8,10] ⟨?_,?_,pw⟩
        ·exact xq tb a e
        ·refine xo 10 ?_;exact Bp Hl AA (xd a o))
       have p:A36 4 (bm 12 255) ⟨149,AL (QV p2 p3 [(46,Qz d.1 d.2),(53,aZ d.1)]),[]⟩:=(a _ _ _).2 (by
        refine xa [8,9] ⟨?_,?_,pw⟩
        ·exact xq tb a g
        ·refine xo 9 ?_;exact Cn 0 Ev AA (xd a h))
       have k:A36 3 (bm 12 895) ⟨149,AL (QV p2 p3 [(12,Aq),(46,Qz d.1 d.2),(54,.bool d.2)]),[iI]⟩:=(a _ _ _).2 (by
        refine xa [7] ⟨?_,pw⟩
        ·exact xq tb a e)
       have q:A36 4 (bm 12 383) ⟨149,AL (QV p2 p3 [(46,Qz d.1 d.2),(54,.bool d.2)]),[]⟩:=(a _ _ _).2 (by
        refine xa [7,9] ⟨?_,?_,pw⟩
        ·exact xq tb a g
        ·refine xo 9 ?_;exact Cn 0 Ev AA (xd a k))
       have n:A36 4 (bm 12 639) ⟨149,AL (QV p2 p3 [(12,Aq),(46,Qz d.1 d.2)]),[iI]⟩:=(a _ _ _).2 (by
        refine xa [7,8] ⟨?_,?_,pw⟩
        ·exact xq tb a h
        ·exact xq tb a k)
       have y:A36 5 (bm 12 127) ⟨149,AL (QV p2 p3 [(46,Qz d.1 d.2)]),[]⟩:=(a _ _ _).2 (by
        refine xa [7,8,9] ⟨?_,?_,?_,pw⟩
        ·exact xq tb a p
        ·exact xq tb a q
        ·refine xo 9 ?_;exact Cn 0 Ev AA (xd a n))
       have C:A36 6 (bm 12 543) ⟨149,AL (QV p2 p3 [(12,Aq),(48,Cd p0.decls),(51,i64 T)]),[iI]⟩:=(a _ _ _).2 (by
        refine xa [5] ⟨?_,pw⟩
        ·refine xo 5 ?_;refine Dj (Qz d.1 d.2) (hb 187) (Ku P) rfl (AB ⟨AA,?_⟩);refine LP tb 6 AA AA ?_;exact xt a n)
       have F:A36 7 (bm 12 31) ⟨149,AL (QV p2 p3 [(48,Cd p0.decls),(51,i64 T)]),[]⟩:=(a _ _ _).2 (by
        refine xa [5,9] ⟨?_,?_,pw⟩
        ·refine xo 5 ?_;refine Dj (Qz d.1 d.2) (hb 187) (Ku P) rfl (AB ⟨AA,?_⟩);refine LP tb 6 AA AA ?_;exact xt a y
        ·refine xo 9 ?_;exact Cn 0 Ev AA (xd a C))
       refine (a _ _ _).2 (qX tb 0 AA AA (qX tb 1 AA AA (qX tb 2 AA AA (aX 3 (U0 T) rfl (JT BE AA b8) (LP tb 4 AA AA ?_)))));exact xw a F (by exact BH [] .nil (.same AA))
     ·refine Al AA ?_;refine Az b ?_ ?_<;>intro m4 b
      ·refine Ai λm5 c3=>Ae 3 AA (bs b λK c4 b=>Dj (.Dv [i64 K.1,Ky K.2]) (hb 172) (Rk c4) rfl (Ae 3 AA (Cn 1 Pf AA (AR AA (Bp Ns AA (Ad c3 (AD λk3 c5=>bs b λc6 c b=>?_)))))));have c7:∀{M},JJ c6 M ⟨149,AL [(8,i64 K.1),(9,.bool M)],[]⟩ k3:=by
        rintro _ ⟨⟩ s A;refine c5 _ (AF A ?_);cases b;cases h0;exact rt [(8,i64 K.1),(9,.bool c6)]
       refine AE AA (Ae 4 AA ?_);rcases Sh.Aa c with ⟨z,c⟩|⟨z,c⟩
       ·exact Am z AA (Am z AA (Am z AA (bs c λk4 c8 c=>Oz z (HB c8) rfl (zt z AA (Ae 2 AA (AB (c7 c (Bi _ AA))))))))
       ·refine zs z AA ?_;iterate 3 refine zs z rfl ?_
        exact zf z AA (Ae 2 AA (AB (c7 c (Bi _ AA))))
      ·refine AD λk5 c9=>bs b λd1 c b=>?_;have d2:∀{V},JJ d1 V ⟨149,AL ((1,i64 p1)::QV p2 p3 [(4,Aq),(88,.bool V)]),[IM p0]⟩ k5:=by
        rintro _ ⟨⟩ s A;refine c9 _ (AF A ?_);refine Az b ?_ ?_<;>intro m6 b
        ·refine AD λm7 d3=>AD λk6 d4=>bs b λd5 c b=>?_;have d6:∀{W},JJ d5 W ⟨149,AL ((1,i64 p1)::QV p2 p3 [(4,Aq),(99,.bool W)]),[IM p0]⟩ k6:=by
          rintro _ ⟨⟩ s A;refine d4 _ (AF A ?_);refine Az b ?_ ?_<;>intro m8 b
          ·refine Al AA ?_;cases b;cases h0;exact rd (lF [])
          ·refine AH (d3 _ (AD λm9 d7=>CZ (by kernel_rfl) (by kernel_rfl) (by rfl) ?_));iterate 3 refine yq tb rfl ?_
           refine bs b λd8 Q b=>Mt QC Q AA ?_;iterate 5 refine yq tb rfl ?_
           refine Mt QC Q AA ?_;iterate 4 refine yq tb rfl ?_
           refine Ao (d7 _ (AD λq0 d9=>Al AA ?_));refine Az b ?_ ?_<;>intro q1 b
           ·refine Ai λq2 g0=>Ae 3 AA (bs b λk7 g1 b=>HX (hb 239) (HB g1) rfl (Ae 2 AA (Ad g0 ?_)));cases b;cases h0;exact rd [(8,i64 d8.result),(9,.bool k7)]
           ·refine AH (d9 _ (Ai λq3 g2=>AR AA (Cc AA (Ae 2 AA (Ad g2 (AD λq4 g3=>Al AA ?_))))));refine Az b ?_ ?_<;>intro q5 b
            ·refine Al AA ?_;cases b;cases h0;exact rd (lF [])
            ·refine AH (g3 _ (AD λq6 g4=>CZ (by kernel_rfl) (by kernel_rfl) (by rfl) ?_));iterate 4 refine yq tb rfl ?_
             refine bs b λq7 g5 b=>Mt BE g5 AA ?_;iterate 2 refine yq tb rfl ?_
             refine bs b λX g6 b=>Fa (Vt g6) (yq tb AA (Ao (g4 _ (AD λk8 g7=>bs b λg8 c b=>?_))));have g9:∀{O},JJ g8 O ⟨149,AL [(8,i64 X),(9,.bool O)],[]⟩ k8:=by
              rintro _ ⟨⟩ s A;refine g7 _ (AF A ?_);cases b;cases h0;exact rt [(8,i64 X),(9,.bool g8)]
             refine AE AA (Ae 4 AA ?_);rcases Sh.Aa c with ⟨t,c⟩|⟨t,c⟩
             ·exact Am t AA (Am t AA (Am t AA (bs c λq8 h3 c=>Sd (i:=0) (j:=Sh.w ((Sh.len d8.params)-1)) (GF AA AA t) BE AA AA AA Cv h3 (bs c λk9 h4 c=>Oz t (HB h4) rfl (zt t AA (Ae 2 AA (AB (g9 c (Bi _ AA)))))))))
             ·refine zs t AA ?_;iterate 4 refine zs t rfl ?_
              exact zf t AA (Ae 2 AA (AB (g9 c (Bi _ AA))))
         refine AE AA (Ae 3 AA ?_);rcases Sh.Aa c with ⟨u,c⟩|⟨u,c⟩
         ·refine zs u AA ?_;iterate 4 refine zs u rfl ?_
          exact zt u AA (AB (d6 c Au))
         ·exact Am u AA (Am u AA (Am u AA (DQ (Cb p0.funcs) u (By gl AA) (Am u AA (zf u AA (AB (d6 c Au)))))))
        ·refine Al AA ?_;cases b;cases h0;exact rd (lF [])
       refine Al AA ?_;refine Az c ?_ ?_<;>intro l0 c
       ·exact AH (d2 c (Dh ((1,i64 p1)::QV p2 p3 [(4,Aq),(88,.bool true)]) ⟨.rfl,.rfl,.rfl,.rfl,.of (rC AV.bool l0),pw⟩))
       ·exact AE AA (Ae 2 AA (AB (d2 c Au)))
  refine Al AA ?_;refine Az c ?_ ?_<;>intro l1 c
  ·exact AH (I c (Dh ((1,i64 p1)::QV p2 p3 [(4,Aq),(11,i64 0),(18,i64 p1),(32,.bool true)]) ⟨.rfl,.rfl,.rfl,.rfl,.rfl,.rfl,.of (rC AV.bool l1),pw⟩))
  ·refine Al AA ?_;refine Az c ?_ ?_<;>intro l2 c
   ·exact AH (I c (Dh ((1,i64 p1)::QV p2 p3 [(4,Aq),(11,i64 0),(18,i64 p1),(32,.bool true)]) ⟨.rfl,.rfl,.rfl,.rfl,.rfl,.rfl,.of (rC AV.bool l2),pw⟩))
   ·refine Al AA ?_;refine Az c ?_ ?_<;>intro l3 c
    ·exact AH (I c (Dh ((1,i64 p1)::QV p2 p3 [(4,Aq),(11,i64 0),(18,i64 p1),(32,.bool true)]) ⟨.rfl,.rfl,.rfl,.rfl,.rfl,.rfl,.of (rC AV.bool l3),pw⟩))
    ·exact AE AA (Ae 2 AA (AB (I c Au)))
end Go.Proofs.YtccficmcdkcpnaaGreat
