import Derived.Test.YtccficmcdkcpnaaGreatCNWalkP1
set_option linter.all false
namespace Go.Proofs.YtccficmcdkcpnaaGreat
open Go Go.Abs RC
attribute [local irreducible] Go.Abs.DX
set_option maxRecDepth 100000
set_option maxHeartbeats 4000000
theorem sj:Ix Tryz.prog 122=true:=by kernel_rfl
theorem rQ:Ix Tryz.prog 65=true:=by kernel_rfl
theorem rZ:Kt Tryz.prog 122=some [(0,1),(1,1),(2,1)]:=by kernel_rfl
theorem rR:Kt Tryz.prog 65=some [(0,1),(1,1)]:=by kernel_rfl
theorem NA:Ck Tryz.prog 134=some ⟨45,1,24,[.sl []]⟩:=by kernel_rfl
theorem WD:Ck Tryz.prog 63=some ⟨122,3,56,[.sl [],.sl [],.int .i64 0]⟩:=by kernel_rfl
theorem uH:Program.underlying Tryz.prog 3=some (.int .i64):=by kernel_rfl
theorem oz:Cn Tryz.prog 134=true:=by kernel_rfl
theorem kD:Cn Tryz.prog 63=true:=by kernel_rfl
theorem sK:DJ Tryz.prog 122=some (true,3):=by kernel_rfl
theorem rF:DJ Tryz.prog 4=some (false,1):=by kernel_rfl
theorem te:DJ Tryz.prog 63=some (false,1):=by kernel_rfl
theorem Xz:DJ Tryz.prog 65=some (true,2):=by kernel_rfl
theorem oo:IE Tryz.prog 122=some [.zc,.zc,.int .i64 0]:=by kernel_rfl
theorem uI:IE Tryz.prog 3=some [.int .i64 0]:=by kernel_rfl
theorem uF:IE Tryz.prog 4=some [.bool false]:=by kernel_rfl
theorem tc:IE Tryz.prog 45=some [.zc]:=by kernel_rfl
theorem cE:IE Tryz.prog 65=some [.zc,.zc]:=by kernel_rfl
theorem bk {N:Nat}{p0:AL}{r:AL×Bool}(h0:PW N p0=some r):BH 28 [Gz p0] [] (.CW [.agg (eZ r.1.decls r.1.AF),.bool r.2]) []:=by
 unfold PW at h0;refine FK AA (Bb Tryz.func28 AA (Ab λE g=>CY 0 AA (Cm 1 Me AA (AK AA (AR g (AB λq h=>AS AA ?_))))));obtain⟨i,a,h0⟩:=Sh.BG h0;have t:JJ i (.inr ()) ⟨22,AJ [(1,Ax),(2,HI)],[Wr p0.decls p0.AF,⟨0,30,2,[[.zc,.zc]]⟩]⟩ q:=by
  rintro⟨⟩ s u;refine h _ (AH u (Ab λG j=>AK AA (CF I1 AA (AK AA (AR j ?_)))));cases h0;exact BP ⟨_,(Bf (L:=[(2,Ax),(3,.bool true)]) (st':=[Wr p0.decls p0.AF]) [1] (.w .nil) ⟨.rfl,.rfl,uM⟩).trans (DY [(2,Ax),(3,.bool true)] ⟨.rfl,.rfl,uM⟩),Lk (.tmp 2) (jI p0) I1 AA _ AA⟩
 refine AI (LN (IL N p0) (λk=>⟨22,AJ [(1,.ptr 0 0 0 0),(2,.ptr 1 0 0 0),(4,i64 k)],[Wr p0.decls p0.AF,⟨0,30,2,[[.zc,.zc]]⟩]⟩) N 0 a Ag ?_);intro n k a;rw[IL]at a;refine AB λH l=>Ab λI o=>AM 3 AA (Bd AA (AK AA (AR o ?_)));refine An a ?_ ?_<;>intro J a
 ·refine AG (l _ (AB λy b=>AI (Ab λz c=>AM 3 AA (bs a λA d a=>DI Hg d AA (AM 2 AA (bs a λB e a=>CR (hb 70) (Q6 e) rfl (AK AA (AR c ?_))))))));refine An a ?_ ?_<;>intro C a
  ·refine Ab λD f=>zz (.agg [.zc,.zc]) (Gs bx cx Me AA AA) rfl (CF I1 AA (AK AA (AR f ?_)));cases a;cases h0;exact BP ⟨_,(((ID (id:=1) (cs:=[.zc,.zc]) (cs':=[Y4,.zc]) (st':=[Wr p0.decls p0.AF,⟨0,30,2,[[Y4,.zc]]⟩]) rfl ⟨le.zc,le.rfl,uM⟩ AA AA).trans (ID (id:=1) (cs:=[Y4,.zc]) (cs':=fc) (st':=[Wr p0.decls p0.AF,⟨0,30,2,[fc]⟩]) rfl ⟨le.rfl,le.zc,uM⟩ AA AA)).trans (Bf (L:=(ke [])) (st':=[⟨0,30,2,[fc]⟩]) [1] (.w .nil) ⟨.rfl,.rfl,uM⟩)).trans (DY (ke []) ⟨.rfl,.rfl,uM⟩),Lk (.tmp 2) fc I1 AA _ AA⟩
  ·exact AG (b _ (AE AA (AM 3 AA (AD (xi (Sh.w (k+1)) a Ag)))))
 ·exact Af (t a Ag)
theorem ZM {N:Nat}{p0:AL}{r:AL×Bool}(h0:Oa N p0=some r):BH 8 [Gz p0] [] (.CW [.agg (eZ r.1.decls r.1.AF),.bool r.2]) []:=by
 unfold Oa at h0;refine FK AA (Bb Tryz.func8 AA (Ab λn d=>CY 0 AA (Cm 1 Me AA (AK AA (AR d (AB λo e=>Ab λp f=>AK AA (bs h0 λk g h0=>CR (hb 27) (XH g) rfl (AK AA (AR f ?_)))))))));refine An h0 ?_ ?_<;>intro l h0
 ·have q:k=false:=by simpa using l
  refine Ab λs h=>zz (.agg [.zc,.zc]) (Gs bx cx Me AA AA) rfl (CF I1 AA (AK AA (AR h ?_)));cases h0;exact BP ⟨_,(((ID (id:=1) (cs:=[.zc,.zc]) (cs':=[Y4,.zc]) (st':=[Wr p0.decls p0.AF,⟨0,30,2,[[Y4,.zc]]⟩]) rfl ⟨le.zc,le.rfl,uM⟩ AA AA).trans (ID (id:=1) (cs:=[Y4,.zc]) (cs':=fc) (st':=[Wr p0.decls p0.AF,⟨0,30,2,[fc]⟩]) rfl ⟨le.rfl,le.zc,uM⟩ AA AA)).trans (Bf (L:=(ke [])) (st':=[⟨0,30,2,[fc]⟩]) [1] (.w .nil) ⟨.rfl,.rfl,uM⟩)).trans (DY (ke []) ⟨.rfl,.rfl,uM⟩),Lk (.tmp 2) fc I1 AA _ AA⟩
 ·have t:k=true:=by simpa using l
  refine AG (e _ (Ab λu i=>AK AA (bs h0 λj b h0=>Px (Gz j) (hb 29) (XG b) rfl (bs h0 λa c h0=>Px (.CW [.agg (eZ a.1.decls a.1.AF),.bool a.2]) (hb 28) (bk c) rfl (AM 2 AA (CF I1 AA (AK AA (AR i ?_))))))));cases h0;exact BP ⟨_,(Bf (L:=[(2,Ax),(3,.bool a.2)]) (st':=[Wr a.1.decls a.1.AF]) [1] (.w .nil) ⟨.rfl,.rfl,uM⟩).trans (DY [(2,Ax),(3,.bool a.2)] ⟨.rfl,.rfl,uM⟩),Lk (.tmp 2) (eZ a.1.decls a.1.AF) I1 AA _ AA⟩
theorem ML {p0:(List AP)}{p1:Int}{r:Bool}(h0:I9 p0 p1=some r):BH 139 (Xe p0 p1) [] (.bool r) []:=by
 unfold I9 at h0;refine Bb Tryz.func139 AA (AS AA (AB λg d=>bs h0 λe b h0=>?_));have f:∀{c},JJ e c ⟨13,AJ [(4,.bool c)],[]⟩ g:=by
  rintro _ ⟨⟩ s h;try dsimp only at h0
  refine d _ (AH h ?_);obtain rfl:=Sh.Av h0;exact rt [(4,.bool e)]
 refine AE AA (AM 3 AA ?_);rcases Sh.Aa b with ⟨a,b⟩|⟨a,b⟩
 ·exact Aj a AA (Aj a AA (CP (Dc p0) a (Ch WG AA) (Aj a AA (zt a AA (AK AA (AD (f b Ag)))))))
 ·refine zs a AA ?_;iterate 3 refine zs a rfl ?_
  exact zf a AA (AK AA (AD (f b Ag)))
theorem Pz {N:Nat}{p0:(List AP)}{p1:(List Int)}{r:Bool}(h0:Jp N p0 p1=some r):BH 138 [DH p0,ls eI p1] [] (.bool r) []:=by
 unfold Jp at h0;refine Bb Tryz.func138 AA (AS AA (AB λp i=>Ab λC j=>AK AA (Bd AA (AK AA (AR j ?_)))));obtain⟨k,a,h0⟩:=Sh.BG h0;have q:JJ k (.inr ()) ⟨18,AJ [],[]⟩ p:=by
  rintro⟨⟩ s t;refine i _ (AH t (AS AA ?_));cases h0;exact rt [(4,.bool true)]
 refine AI (LN (Gl p0 p1) (λl=>⟨18,AJ [(0,ls Ai p0),(7,ls eI p1),(8,i64 (Sh.len p1)),(9,i64 l)],[]⟩) N 0 a Ag ?_);intro n l a;rw[Gl]at a;refine AS AA (AB λE m=>?_);refine An a ?_ ?_<;>intro F a
 ·refine AG (m _ (AB λu b=>AI (Ab λx c=>bs a λy d a=>DI Ay d AA (AM 2 AA (AR c (Ab λz e=>AM 2 AA (bs a λf g a=>CR (hb 139) (ML g) rfl (AK AA (AR e ?_)))))))));refine An a ?_ ?_<;>intro h a
  ·have A:f=false:=by simpa using h
   refine AS AA ?_;cases a;cases h0;exact rt [(4,.bool false)]
  ·have B:f=true:=by simpa using h
   exact AG (b _ (AE AA (AM 2 AA (AD (xi (Sh.w (l+1)) a Ag)))))
 ·exact Af (q a Ag)
theorem UJ {N:Nat}{p0:(List AP)}{r:Bool}(h0:Jd N p0=some r):BH 137 [DH p0] [] (.bool r) []:=by
 unfold Jd at h0;refine Bb Tryz.func137 AA (AS AA (AB λK2 c3=>Ab λK3 c4=>AK AA (Bd AA (AK AA (AR c4 ?_)))));refine An h0 ?_ ?_<;>intro b4 h0
 ·refine AS AA ?_;cases h0;exact rt [(2,.bool false)]
 ·refine AG (c3 _ (AB λK6 c5=>Ab λK7 c6=>AK AA (Bd AA (AK AA (AR c6 ?_)))));obtain⟨o9,d,h0⟩:=Sh.BG h0;have M9:JJ o9 (.inr ()) ⟨106,AJ [],[]⟩ K6:=by
   rintro⟨⟩ s x;refine c5 _ (AH x (AS AA ?_));cases h0;exact rt [(2,.bool true)]
  refine AI (LN (Fi N p0) (λu=>⟨106,AJ [(0,ls Ai p0),(12,ls Ai p0),(13,i64 (Sh.len p0)),(14,i64 u)],[]⟩) N 0 d Ag ?_);intro n u d;rw[Fi]at d;refine AS AA (AB λd6 J=>?_);refine An d ?_ ?_<;>intro d7 d
  ·refine AG (J _ (AB λc7 K=>AI (Ab λd8 L=>AK AA (bs d λb M d=>DI EZ M AA (AK AA (Cm 0 Hb AA (AK AA (CF JU AA (AR L (AB λd9 O=>AB λc8 P=>bs d λQ a d=>?_))))))))));have t:∀{D},JJ Q D ⟨106,AJ (sx p0 u [(52,.bool D)]),[YU b]⟩ c8:=by
    rintro _ ⟨⟩ s x;refine P _ (AH x ?_);refine An d ?_ ?_<;>intro g0 d
    ·refine AS AA ?_;cases d;cases h0;exact rd [(2,.bool false)]
    ·refine AG (O _ (AB λc9 R=>Ab λg1 S=>AM 2 AA (Bd AA (AK AA (AR S ?_)))));obtain⟨E,a,d⟩:=Sh.BG d;have d1:JJ E (.inr ()) ⟨106,AJ (sx p0 u []),[YU b]⟩ c9:=by
      rintro⟨⟩ s x;refine R _ (AH x (Ab λg2 T=>AM 2 AA (bs d λy U d=>WE (i:=0) (j:=u) BJ EZ AA AA AA DA U (Bd AA (AK AA (AR T ?_))))));obtain⟨F,a,d⟩:=Sh.BG d;have d2:JJ F (.inr ()) ⟨106,AJ [(0,DH p0),(12,DH p0),(13,Dc p0),(14,i64 u)],[]⟩ c7:=by
       rintro⟨⟩ s x;exact K _ (AH x (AE AA (AM 2 AA (AD (xi (Sh.w (u+1)) d Ag)))))
      refine AI (LN (El b y) (λz=>⟨106,AJ [(0,ls Ai p0),(4,.ptr 0 0 0 0),(12,ls Ai p0),(13,i64 (Sh.len p0)),(14,i64 u),(74,ls Ai y),(75,i64 (Sh.len y)),(76,i64 z)],[⟨0,104,3,[Ai b]⟩]⟩) N 0 a Ag ?_);intro n z a;rw[El]at a;refine AS AA (AB λg3 V=>?_);refine An a ?_ ?_<;>intro g4 a
      ·refine AG (V _ (AB λg5 W=>AI (Ab λg6 X=>bs a λY Z a=>DI EZ Z AA (AK AA (Cm 1 Hb AA (CF JU AA (AR X (AB λd3 b0=>bs a λb1 f a=>?_))))))));have A:∀{G},JJ b1 G ⟨106,AJ [(0,DH p0),(4,Ax),(12,DH p0),(13,Dc p0),(14,i64 u),(74,DH y),(75,Dc y),(76,i64 z),(103,.bool G)],[YU b]⟩ d3:=by
        rintro _ ⟨⟩ s x;refine b0 _ (AH x ?_);refine An a ?_ ?_<;>intro g7 a
        ·refine AS AA ?_;cases a;cases d;cases h0;exact rd [(2,.bool false)]
        ·exact AG (W _ (AE AA (AM 2 AA (AD (xi (Sh.w (z+1)) a Ag)))))
       refine AE AA (AM 2 AA (Bd AA (AM 2 AA ?_)));rcases Sh.Aa f with ⟨k,f⟩|⟨k,f⟩
       ·refine Aj k AA (Aj k AA (CP (fT Y) k (Ch Qa AA) (Aj k AA (zt k AA (AK AA ?_)))));rcases Sh.Aa f with ⟨p,f⟩|⟨p,f⟩
        ·refine Aj p AA ?_;iterate 4 refine Aj p rfl ?_
         refine zt p AA (AK AA ?_);rcases Sh.Aa f with ⟨q,f⟩|⟨q,f⟩
         ·refine Aj q AA ?_;iterate 4 refine Aj q rfl ?_
          exact zt q AA (AD (A f (Bf [0] (.w .nil) (.same AA))))
         ·refine zs q AA ?_;iterate 4 refine zs q rfl ?_
          exact zf q AA (AD (A f (Bf [0] (.w .nil) (.same AA))))
        ·refine zs p AA ?_;iterate 4 refine zs p rfl ?_
         refine zf p AA (AK AA ?_);iterate 5 refine zs rfl rfl ?_
         exact zf AA AA (AD (A f (Bf [0] (.w .nil) (.same AA))))
       ·refine zs k AA ?_;iterate 3 refine zs k rfl ?_
        refine zf k AA (AK AA ?_);iterate 5 refine zs rfl rfl ?_
        refine zf AA AA (AK AA ?_);iterate 5 refine zs rfl rfl ?_
        exact zf AA AA (AD (A f (Bf [0] (.w .nil) (.same AA))))
      ·exact Af (d2 a (BT _ AA))
     refine AI (LN (Eo N b p0) (λB=>⟨106,AJ [(0,ls Ai p0),(3,i64 u),(4,.ptr 0 0 0 0),(12,ls Ai p0),(13,i64 (Sh.len p0)),(14,i64 u),(54,ls By b.cons),(55,i64 (Sh.len b.cons)),(56,i64 B)],[⟨0,104,3,[Ai b]⟩]⟩) N 0 a Ag ?_);intro n B a;rw[Eo]at a;refine AS AA (AB λg8 b2=>?_);refine An a ?_ ?_<;>intro g9 a
     ·refine AG (b2 _ (AB λh4 b3=>AI (Ab λh5 b5=>bs a λh6 b6 a=>DI Jl b6 AA (AK AA (Cm 1 QK AA (CF Ny AA (AR b5 (AB λd4 b7=>bs a λb8 f a=>?_))))))));have b9:∀{H},JJ b8 H ⟨106,AJ (sx p0 u [(54,ls By b.cons),(55,fT b),(56,i64 B),(70,.bool H)]),[YU b]⟩ d4:=by
       rintro _ ⟨⟩ s x;refine b7 _ (AH x ?_);refine An a ?_ ?_<;>intro h7 a
       ·refine AS AA ?_;cases a;cases d;cases h0;exact rd [(2,.bool false)]
       ·exact AG (b3 _ (AE AA (AM 2 AA (AD (xi (Sh.w (B+1)) a Ag)))))
      refine AE AA (AM 2 AA (Bd AA (AM 2 AA ?_)));rcases Sh.Aa f with ⟨g,f⟩|⟨g,f⟩
      ·refine zs g AA ?_;iterate 4 refine zs g rfl ?_
       exact zt g AA (AD (b9 f (Bf [0] (.w .nil) (.same AA))))
      ·exact Aj g AA (Aj g AA (Aj g AA (bs f λd5 c0 f=>Iy g (Pz c0) rfl (Aj g AA (zf g AA (AD (b9 f (Bf [0] (.w .nil) (.same AA)))))))))
     ·exact Af (d1 a Ag)
   refine AE AA (AM 3 AA (bs a λh8 c1 a=>CR (hb 139) (ML c1) rfl (AM 2 AA ?_)));rcases Sh.Aa a with ⟨h,a⟩|⟨h,a⟩
   ·refine zs h AA ?_;iterate 4 refine zs h rfl ?_
    refine zt h AA (AK AA ?_);iterate 4 refine zs rfl rfl ?_
    refine zt AA AA (AK AA ?_);iterate 5 refine zs rfl rfl ?_
    iterate 8 refine zn rfl ?_
    exact zs AA AA (zt AA AA (AD (t a Ag)))
   ·refine Aj h AA (Aj h AA (Aj h AA (bs a λh9 c2 a=>Iy h (ML c2) rfl (Aj h AA (zf h AA (AK AA ?_))))));rcases Sh.Aa a with ⟨l,a⟩|⟨l,a⟩
    ·refine zs l AA ?_;iterate 3 refine zs l rfl ?_
     refine zt l AA (AK AA ?_);iterate 5 refine zs rfl rfl ?_
     iterate 8 refine zn rfl ?_
     exact zs AA AA (zt AA AA (AD (t a Ag)))
    ·refine Aj l AA (Aj l AA (CP (fT b) l (Ch Qa AA) (Aj l AA (zf l AA (AK AA ?_)))));rcases Sh.Aa a with ⟨c,a⟩|⟨c,a⟩
     ·refine zs c AA ?_;iterate 4 refine zs c rfl ?_
      iterate 8 refine zn rfl ?_
      exact zs c AA (zt c AA (AD (t a Ag)))
     ·refine Aj c AA (Aj c AA (CP (fT b) c (Ch Qa AA) (Aj c AA (Aj c AA ?_))));rcases Sh.Aa a with ⟨e,a⟩|⟨e,a⟩
      ·refine Aj e AA ?_;iterate 3 refine Aj e rfl ?_
       rcases Sh.Aa a with ⟨o,a⟩|⟨o,a⟩
       ·exact zs o AA (zs o AA (zs o AA (CP (.bool true) e (E6 AA o AA) (CP (.bool true) c (E6 AA e AA) (zf c AA (AD (t a Ag)))))))
       ·exact Aj o AA (Aj o AA (Aj o AA (CP (.bool (!decide (b.to=0))) e (Eg AA o AA) (CP (.bool (!decide (b.to=0))) c (E6 AA e AA) (zf c AA (AD (t a Ag)))))))
      ·refine zs e AA ?_;iterate 3 refine zs e rfl ?_
       iterate 3 refine zn rfl ?_
       exact zs e AA (CP (.bool false) c (Eg AA e AA) (zf c AA (AD (t a Ag))))
  ·exact Af (M9 d Ag)
theorem Uy {N:Nat}{p0:(List AP)}{p1:(List Aw)}{r:Bool}(h0:KV N p0 p1=some r):BH 76 [DH p0,RY p1] [] (.bool r) []:=by
 unfold KV at h0;refine Bb Tryz.func76 AA (AS AA (AB λK2 b3=>AB λK3 b4=>bs h0 λo5 a h0=>?_));have G:∀{t4},JJ o5 t4 ⟨102,AJ [(0,DH p0),(1,RY p1),(36,.bool t4)],[]⟩ K3:=by
  rintro _ ⟨⟩ s u;refine b4 _ (AH u ?_);refine An h0 ?_ ?_<;>intro b6 h0
  ·refine AS AA ?_;cases h0;exact rt [(4,.bool false)]
  ·refine AG (b3 _ (AB λK8 b5=>Ab λK9 b7=>AK AA (Bd AA (AK AA (AR b7 ?_)))));obtain⟨A,a,h0⟩:=Sh.BG h0;have b8:JJ A (.inr ()) ⟨102,AJ [],[]⟩ K8:=by
    rintro⟨⟩ s u;refine b5 _ (AH u (AS AA ?_));cases h0;exact rt [(4,.bool true)]
   refine AI (LN (FL N p0 p1) (λq=>⟨102,AJ [(0,ls Ai p0),(37,ls BI p1),(38,i64 (Sh.len p1)),(39,i64 q)],[]⟩) N 0 a Ag ?_);intro n q a;rw[FL]at a;refine AS AA (AB λc5 I=>?_);refine An a ?_ ?_<;>intro c6 a
   ·refine AG (I _ (AB λb9 J=>AI (Ab λc7 K=>bs a λc L a=>DI WD L AA (AK AA (Cm 0 oo AA (CF sK AA (AR K (AB λc8 M=>AB λc0 O=>bs a λP b a=>?_))))))));have B:∀{C},JJ P C ⟨102,AJ [(0,DH p0),(6,Ax),(37,RY p1),(38,Dc p1),(39,i64 q),(60,.bool C)],[⟨0,122,3,[[HQ c.params,HQ c.Aq,i64 c.result]]⟩]⟩ c0:=by
     rintro _ ⟨⟩ s u;refine O _ (AH u ?_);refine An a ?_ ?_<;>intro c9 a
     ·refine AS AA ?_;cases a;cases h0;exact rd [(4,.bool false)]
     ·refine AG (M _ (Ab λd1 Q=>AM 2 AA (Bd AA (AK AA (AR Q ?_)))));obtain⟨D,b,a⟩:=Sh.BG a;have c1:JJ D (.inr ()) ⟨102,AJ [(0,DH p0),(37,RY p1),(38,Dc p1),(39,i64 q)],[]⟩ b9:=by
       rintro⟨⟩ s u;exact J _ (AH u (AE AA (AM 2 AA (AD (xi (Sh.w (q+1)) a Ag)))))
      refine AI (LN (FM c) (λx=>⟨102,AJ [(0,ls Ai p0),(6,.ptr 0 0 0 0),(37,ls BI p1),(38,i64 (Sh.len p1)),(39,i64 q),(62,ls eI c.Aq),(63,i64 (Sh.len c.Aq)),(64,i64 x)],[⟨0,122,3,[[ls eI c.params,ls eI c.Aq,i64 c.result]]⟩]⟩) N 0 b Ag ?_);intro n x b;rw[FM]at b;refine AS AA (AB λd2 R=>?_);refine An b ?_ ?_<;>intro d3 b
      ·refine AG (R _ (AB λd4 S=>AI (Ab λd5 T=>AK AA (bs b λU V b=>DI Ay V AA (AM 3 AA (AR T (AB λc2 W=>bs b λX g b=>?_)))))));have t:∀{E},JJ X E ⟨102,AJ [(0,DH p0),(6,Ax),(37,RY p1),(38,Dc p1),(39,i64 q),(62,HQ c.Aq),(63,Dc c.Aq),(64,i64 x),(99,.bool E)],[⟨0,122,3,[[HQ c.params,HQ c.Aq,i64 c.result]]⟩]⟩ c2:=by
        rintro _ ⟨⟩ s u;refine W _ (AH u ?_);refine An b ?_ ?_<;>intro d6 b
        ·refine AS AA ?_;cases b;cases a;cases h0;exact rd [(4,.bool false)]
        ·exact AG (S _ (AE AA (AM 2 AA (AD (xi (Sh.w (x+1)) b Ag)))))
       refine AE AA (AM 3 AA ?_);rcases Sh.Aa g with ⟨h,g⟩|⟨h,g⟩
       ·refine zs h AA ?_;iterate 4 refine zs h rfl ?_
        refine zt h AA (AK AA ?_);iterate 6 refine zs rfl rfl ?_
        refine zt AA AA (AK AA ?_);iterate 3 refine zs rfl rfl ?_
        iterate 8 refine zn rfl ?_
        exact zs AA AA (zt AA AA (AD (t g Ag)))
       ·refine Aj h AA (Aj h AA (Aj h AA (CP (Dc c.params) h (Ch Hq AA) (Aj h AA (zf h AA (AK AA ?_))))));rcases Sh.Aa g with ⟨e,g⟩|⟨e,g⟩
        ·refine zs e AA ?_;iterate 5 refine zs e rfl ?_
         refine zt e AA (AK AA ?_);iterate 3 refine zs rfl rfl ?_
         iterate 8 refine zn rfl ?_
         exact zs AA AA (zt AA AA (AD (t g Ag)))
        ·refine Aj e AA (Aj e AA (Aj e AA (bs g λc3 Y g=>CP (LR c3) e (Hl Ay AA Y) (Aj e AA (Aj e AA (zf e AA (AK AA ?_)))))));rcases Sh.Aa g with ⟨d,g⟩|⟨d,g⟩
         ·refine zs d AA (zs d AA (zs d AA ?_));iterate 8 refine zn rfl ?_
          exact zs d AA (zt d AA (AD (t g Ag)))
         ·refine Aj d AA (Aj d AA (Aj d AA ?_));rcases Sh.Aa g with ⟨i,g⟩|⟨i,g⟩
          ·refine Aj i AA ?_;iterate 4 refine Aj i rfl ?_
           exact bs g λF Z g=>CP (LR F) i (Hl Ay AA Z) (Aj i AA (Aj i AA (CP (.bool (decide (U<=F))) d (E6 AA i AA) (zf d AA (AD (t g Ag))))))
          ·refine zs i AA ?_;iterate 7 refine zs i rfl ?_
           exact CP (.bool false) d (Eg AA i AA) (zf d AA (AD (t g Ag)))
      ·exact Af (c1 b (BT _ AA))
    refine AE AA (AM 2 AA (Bd AA (AM 2 AA ?_)));rcases Sh.Aa b with ⟨j,b⟩|⟨j,b⟩
    ·refine zs j AA ?_;iterate 4 refine zs j rfl ?_
     refine zt j AA (AK AA ?_);iterate 5 refine zs rfl rfl ?_
     exact zt AA AA (AD (B b Ag))
    ·refine Aj j AA (Aj j AA (Aj j AA (bs b λd7 b0 b=>Iy j (Pz b0) rfl (Aj j AA (zf j AA (AK AA ?_))))));rcases Sh.Aa b with ⟨k,b⟩|⟨k,b⟩
     ·refine zs k AA ?_;iterate 4 refine zs k rfl ?_
      exact zt k AA (AD (B b Ag))
     ·exact Aj k AA (Aj k AA (Aj k AA (bs b λc4 b1 b=>Iy k (ML b1) rfl (Aj k AA (zf k AA (AD (B b Ag)))))))
   ·exact Af (b8 a Ag)
 refine AE AA (AK AA (bs a λd8 b2 a=>CR (hb 137) (UJ b2) rfl (AM 2 AA ?_)));rcases Sh.Aa a with ⟨l,a⟩|⟨l,a⟩
 ·refine zs l AA (zs l AA (zs l AA (zt l AA (AK AA ?_))));iterate 3 refine zs rfl rfl ?_
  refine zt AA AA (AK AA ?_);iterate 6 refine zs rfl rfl ?_
  refine zt AA AA (AK AA ?_);iterate 5 refine zs rfl rfl ?_
  exact zt AA AA (AD (G a Ag))
 ·refine Aj l AA (CP (Dc p1) l (Ch kD AA) (Aj l AA (zf l AA (AK AA ?_))));rcases Sh.Aa a with ⟨o,a⟩|⟨o,a⟩
  ·refine zs o AA (zs o AA (zs o AA (zt o AA (AK AA ?_))));iterate 6 refine zs rfl rfl ?_
   refine zt AA AA (AK AA ?_);iterate 5 refine zs rfl rfl ?_
   exact zt AA AA (AD (G a Ag))
  ·refine Aj o AA (CP (Dc p1) o (Ch kD AA) (Aj o AA (zf o AA (AK AA ?_))));rcases Sh.Aa a with ⟨f,a⟩|⟨f,a⟩
   ·refine zs f AA ?_;iterate 5 refine zs f rfl ?_
    refine zt f AA (AK AA ?_);iterate 5 refine zs rfl rfl ?_
    exact zt AA AA (AD (G a Ag))
   ·refine Aj f AA (bs a λy z a=>CP (.Bj (BI y) 0) f (Hl WD AA z) (Aj f AA (Aj f AA (CP (Dc y.params) f (Ch Hq AA) (Aj f AA (zf f AA (AK AA ?_)))))));rcases Sh.Aa a with ⟨p,a⟩|⟨p,a⟩
    ·refine zs p AA ?_;iterate 4 refine zs p rfl ?_
     exact zt p AA (AD (G a Ag))
    ·refine Aj p AA (CP (.Bj (BI y) 0) p (Hl WD AA z) ?_);iterate 3 refine Aj p rfl ?_
     exact zf p AA (AD (G a Ag))
theorem Ow {N:Nat}{p0:AL}{r:Ap×Bool}(h0:G9 N p0=some r):BH 32 [Gz p0] [] (.CW [NY r.1,.bool r.2]) []:=by
 unfold G9 at h0;refine FK AA (Bb Tryz.func32 AA (Ab λQ y=>CY 0 AA (Cm 1 cE AA (AK AA (AR y (AB λR z=>Ab λS A=>AM 2 AA (Bd AA (AK AA (AR A ?_)))))))));refine An h0 ?_ ?_<;>intro T h0
 ·refine Ab λU B=>zz (.agg [.zc,.zc]) (Gs rQ rR cE AA AA) rfl (CF Xz AA (AK AA (AR B ?_)));cases h0;exact BP ⟨_,(((ID (id:=1) (cs:=[.zc,.zc]) (cs':=[Y4,.zc]) (st':=[Wr p0.decls p0.AF,⟨0,65,2,[[Y4,.zc]]⟩]) rfl ⟨le.zc,le.rfl,uM⟩ AA AA).trans (ID (id:=1) (cs:=[Y4,.zc]) (cs':=qb) (st':=[Wr p0.decls p0.AF,⟨0,65,2,[qb]⟩]) rfl ⟨le.rfl,le.zc,uM⟩ AA AA)).trans (Bf (L:=(ke [])) (st':=[⟨0,65,2,[qb]⟩]) [1] (.w .nil) ⟨.rfl,.rfl,uM⟩)).trans (DY (ke []) ⟨.rfl,.rfl,uM⟩),Lk (.tmp 2) qb Xz AA _ AA⟩
 ·refine AG (z _ (Ab λV C=>AM 2 AA (zz (.agg [DH p0.decls,.zc]) (Gs rQ rR cE AA AA) rfl (Cm 2 cE AA (CF Xz AA (AR C (AB λH D=>Ab λW E=>AM 2 AA (Bd AA (AK AA (AR E (bs h0 λf c h0=>?_)))))))))));have F:∀{b},JJ f b ⟨41,AJ [(1,Ax),(2,HI),(4,E4)],sV p0 b [ro 0 122 3 BI b]⟩ H:=by
   rintro _ ⟨⟩ s I;refine D _ (AH I (AB λJ h=>D5 6 (by kernel_rfl) (by kernel_rfl) (by rfl) ?_));iterate 5 refine yq tb rfl ?_
   refine bs h0 λd i h0=>Zf (v':=(.bool d)) BJ (hb 76) (Uy i) rfl (.val AA (.own AA AA DA .nil)) rfl AA (Bl (JT [(2,HI),(35,Sd p0.decls f),(40,.bool d)] (sV p0 f [⟨1,122,3,[]⟩]) 3 AA ⟨.rfl,.agg ⟨.rfl,.Km AA,uM⟩,.rfl,uM⟩ DA AA (CF Xz AA (AK AA (AR h ?_)))));cases h0;exact BP ⟨_,(Bf (L:=[(2,Ax),(3,.bool d)]) (st':=[⟨0,65,2,[[DH p0.decls,RY f]]⟩]) [1] (.w .nil) ⟨.rfl,.rfl,uM⟩).trans (DY [(2,Ax),(3,.bool d)] ⟨.rfl,.rfl,uM⟩),Lk (.tmp 2) [DH p0.decls,RY f] Xz AA _ AA⟩
  refine AI (Fh (D4 p0) (λu e=>⟨41,AJ [(1,.ptr 0 0 0 0),(2,.ptr 1 0 0 0),(4,.ptr 2 0 0 0),(16,ls Al p0.AF),(17,i64 (Sh.len p0.AF)),(18,i64 u)],[Wr p0.decls p0.AF,⟨0,65,2,[[.zc,.zc]]⟩,⟨0,65,2,[[ls Ai p0.decls,ow 3 0 e]]⟩,ro 0 122 3 BI e]⟩) N 0 [] c (by refine Wk.trans (HU (id:=2) (st':=[Wr p0.decls p0.AF,⟨0,65,2,[[.zc,.zc]]⟩,⟨0,65,2,[[ls Ai p0.decls,.own 3 0 (List.length ([]:List Aw))]]⟩,ro 0 122 3 BI ([]:List Aw)]) (j:=1) rfl AA 122 (size':=3) (by decide) rfl AA AA AA) ?_;exact F3 AA) ?_);intro n u e c;rw[D4]at c;refine AS AA (AB λK k=>?_);refine An c ?_ ?_<;>intro M c
  ·refine AG (k _ (AB λO o=>AI (Ab λP p=>bs c λa q c=>DI Hg q AA (AK AA (Cm 4 Q2 AA (CF Q9 AA (AR p (AE AA (AM 8 AA (zz (.agg [HQ a.params,HQ a.Aq,i64 a.result]) (Gs sj rZ oo AA AA) rfl (D9 5 [Aw.mk a.params a.Aq a.result] BI WD AA (bs c λg t c=>KA [Aw.mk a.params a.Aq a.result] WD AA (GY AA AA) t (AK AA (CF te AA (AR o (AE AA (AM 2 AA ?_)))))))))))))))));exact AD (xi (Sh.w (u+1),g) c (by refine Wk.trans (CH (L:=[(1,Ax),(2,HI),(4,E4),(16,nU p0),(17,mz p0),(18,NV u)]) (st':=(sV p0 g [ro 0 122 3 BI g,⟨0,50,5,[mR a]⟩,ro 0 122 3 BI [Aw.mk a.params a.Aq a.result]])) (.raw AA AA (.raw AA AA (.raw AA AA (.pure BB (.raw AA AA (.pure BB .nil)))))) (.same AA)) ?_;exact Bf [0,1,2,3] (.w (.w (.w (.p .nil)))) (.same AA)))
  ·exact Af (F c Ag)
theorem Sk {N:Nat}{zu:Int->Block->Option (Bool×Int)}(hrec_impl_countSteps :∀{zR:Int} {p0:Block} {r:Bool×Int},zu zR p0=some r->BH 122 [DN p0,Ax] [U4 zR] (.bool r.1) [U4 r.2]){zR:Int}{p0:Block}{r:Bool×Int}(h0:Ia N zu zR p0=some r):BH 122 [DN p0,Ax] [U4 zR] (.bool r.1) [U4 r.2]:=by
 unfold Ia at h0;refine Bb Tryz.func122 AA (Ab λK1 G=>CY 1 AA (AK AA (AR G (AB λQ H=>Ab λK3 I=>AM 2 AA (Bd AA (AK AA (AR I ?_)))))));obtain⟨J,a,h0⟩:=Sh.BG h0;have R:∀(K:Int),J=Sum.inr K->∀s,Wk 1 s ⟨38,AJ [],[U4 K]⟩->Q s:=by
  intro K S s M;subst J;refine H _ (AH M (AS AA ?_));cases h0;exact rt [(4,.bool true)]
 refine AI (Fh (D1 N p0 zu) (λi j=>⟨38,AJ [(1,.ptr 0 0 0 0),(10,ls Ba p0.steps),(11,i64 (Sh.len p0.steps)),(12,i64 i)],[U4 j]⟩) N 0 zR a (Bf [0] (.w .nil) (.same AA)) ?_);intro n i j a;rw[D1]at a;refine AS AA (AB λT l=>?_);refine An a ?_ ?_<;>intro U a
 ·refine AG (l _ (AB λO o=>AI (Ab λV p=>bs a λd q a=>zz (H4 d) (E1 Cb AA AA q (CE _) rfl) rfl (AK AA (Cm 1 Ot AA (CF LP AA (AR p (AB λW t=>Ab λX u=>AM 5 AA (CF JR AA (AR u (AS AA ?_)))))))))));refine An a ?_ ?_<;>intro Y a
  ·refine AS AA ?_;cases a;cases h0;exact BP (xr (Bf (L:=[(4,.bool false)]) (st':=[⟨0,3,1,[[NV j]]⟩]) [0] (.w .nil) ⟨.rfl,uM⟩))
  ·refine AG (t _ (Ab λZ x=>AM 2 AA (Bd AA (AK AA (AR x ?_)))));obtain⟨g,b,a⟩:=Sh.BG a;have P:∀(e:Int),g=Sum.inr e->∀s,Wk 1 s ⟨38,AJ [(1,Ax),(10,T9 p0),(11,lQ p0),(12,i64 i)],[U4 e]⟩->O s:=by
    intro e S s M;subst g;exact o _ (AH M (AE AA (AM 2 AA (AD (xi (Sh.w (i+1),e) a Ag)))))
   refine AI (Fh (D0 d zu) (λh f=>⟨38,AJ [(1,.ptr 0 0 0 0),(10,ls Ba p0.steps),(11,i64 (Sh.len p0.steps)),(12,i64 i),(26,ls BS d.kids),(27,i64 (Sh.len d.kids)),(28,i64 h)],[U4 f]⟩) N 0 (Sh.w (j+1)) b (Bf [0] (.w .nil) (.same AA)) ?_);intro n h f b;rw[D0]at b;refine AS AA (AB λb0 y=>?_);refine An b ?_ ?_<;>intro b1 b
   ·refine AG (y _ (AB λb2 z=>AI (Ab λb3 A=>bs b λB C b=>DI Kq C AA (AK AA (Cm 1 Lr AA (CF LO AA (AR A (Ab λb4 D=>AM 2 AA (bs b λc E b=>pT [U4 c.2,SI B.steps B.result] (.bool c.1) [0] BJ (hb 122) (hrec_impl_countSteps E) rfl AA (AK AA (AR D ?_)))))))))));refine An b ?_ ?_<;>intro F b
    ·have b5:c.1=false:=by simpa using F
     refine AS AA ?_;cases b;cases a;cases h0;exact BP (xr (Bf (L:=[(4,.bool false)]) (st':=[U4 c.2]) [0] (.w .nil) ⟨.rfl,uM⟩))
    ·have b6:c.1=true:=by simpa using F
     exact AG (z _ (AE AA (AM 2 AA (AD (xi (Sh.w (h+1),c.2) b (Bf [0] (.w .nil) (.same AA)))))))
   ·exact Af (P f (Bm b) _ Ag)
 ·exact Af (R j (Bm a) _ Ag)
theorem Se {N:Nat}:∀(n:Nat),∀{zR:Int} {p0:Block} {r:Bool×Int},Ds N n zR p0=some r->BH 122 [DN p0,Ax] [U4 zR] (.bool r.1) [U4 r.2]:=by
 intro n
 induction n with
 | zero=>intro zR p0 r a;cases a
 | succ n ih=>
  intro zR p0 r a;rw[Ds]at a;exact Sk (λh=>ih h) a
theorem UO {N:Nat}:∀{zR:Int} {p0:Block} {r:Bool×Int},Lg N zR p0=some r->BH 122 [DN p0,Ax] [U4 zR] (.bool r.1) [U4 r.2]:=by
 intro zR p0 r a;exact Se N a
theorem Qm {N:Nat}{p0:Block}{r:Int}(h0:IH N p0=some r):BH 64 [DN p0] [] (i64 r) []:=by
 unfold IH at h0;refine Bb Tryz.func64 AA (Ab λh b=>CY 0 AA (AK AA (AR b (Ab λi c=>Cm 1 uI AA (CF JR AA (AR c (AB λj d=>Ab λk e=>AK AA (bs h0 λa f h0=>pT [SI p0.steps p0.result,U4 a.2] (.bool a.1) [1] BJ (hb 122) (UO f) rfl AA (AK AA (AR e ?_))))))))));refine An h0 ?_ ?_<;>intro g h0
 ·have l:a.1=false:=by simpa using g
  refine AS AA ?_;cases h0;exact rd [(2,i64 (-1))]
 ·have n:a.1=true:=by simpa using g
  refine AG (d _ (AS AA ?_));cases h0;exact rd [(2,i64 a.2)]
theorem Bg {p0:(List Int)}{r:(List Int)}(h0:Bu p0=some r):BH 56 [ls eI p0] [] (ow 0 0 r) [As r]:=by
 unfold Bu at h0;refine Bb Tryz.func56 AA (AS AA (AB λh c=>Ab λi a=>AK AA ?_));refine Wg BJ Hq AA (λg=>?_) ?_
 ·subst g;replace h0:some []=some r:=by rw[<- h0];first|rfl|simp[Sh.app]
  refine AR a (GZ (b:=true) rfl (λ_=>AS AA ?_) (λq=>nomatch (show true=false from (AA:true=true).symm.trans q)));cases h0;exact BP (Exists.intro _ (And.intro (((ER (t:=2) rfl 3 (size:=1) (by decide)).trans (DY [(2,fe)] (.same AA))).trans (DY [(2,fe)] (.same AA))) (And.intro AA AA)))
 ·refine AR a (GZ (b:=false) rfl (λq=>nomatch (show false=true from (AA:false=false).symm.trans q)) (λ_=>AG (c _ (Ab λj d=>D9 0 ([]:List Int) eI Ay AA (AK AA (bs h0 λf e h0=>KA p0 Ay AA P1 e (AK AA (AR d ?_))))))));obtain rfl:=Sh.Av h0;exact BP (xr (CH (L:=[(2,ow 0 0 f)]) (st':=[As f]) (.pure BB .nil) (.same AA)))
theorem Ja {p0:Int}{r:Bool}(h0:Dh p0=some r):BH 96 [i64 p0] [] (.bool r) []:=by
 unfold Dh at h0;refine Bb Tryz.func96 AA (AS AA (AB λg d=>bs h0 λe b h0=>?_));have f:∀{c},JJ e c ⟨9,AJ [(2,.bool c)],[]⟩ g:=by
  rintro _ ⟨⟩ s h;try dsimp only at h0
  refine d _ (AH h ?_);obtain rfl:=Sh.Av h0;exact rt [(2,.bool e)]
 refine AE AA (AM 3 AA ?_);rcases Sh.Aa b with ⟨a,b⟩|⟨a,b⟩
 ·exact Aj a AA (Aj a AA (zt a AA (AK AA (AD (f b Ag)))))
 ·exact zs a AA (zs a AA (zf a AA (AK AA (AD (f b Ag)))))
theorem Lb {p0:(List AP)}{p1:Int}{r:AP×Bool}(h0:JQ p0 p1=some r):BH 187 (Xe p0 p1) [] (RU r.1 r.2) []:=by
 unfold JQ at h0;refine FK AA (Bb Tryz.func187 AA (Ab λu f=>Cm 0 Hb AA (AK AA (AR f (AB λw g=>AB λq h=>bs h0 λo c h0=>?_)))));have i:∀{j},JJ o j ⟨30,AJ [(0,DH p0),(1,i64 p1),(4,Ax),(23,.bool j)],[Zn]⟩ q:=by
  rintro _ ⟨⟩ s t;refine h _ (AH t ?_);refine An h0 ?_ ?_<;>intro z h0
  ·refine Ab λA k=>zz (.agg [i64 0,i64 0,.zc]) (Gs nk oM Hb AA AA) rfl (CF JU AA (AK AA (AR k ?_)));cases h0;exact BP ⟨_,(ID (id:=0) (cs:=[i64 0,i64 0,.zc]) (cs':=sC) (st':=[⟨0,104,3,[sC]⟩]) rfl ⟨le.rfl,le.rfl,le.zc,uM⟩ AA AA).trans (DY [(4,Ax),(5,.bool false)] (.same AA)),Lk (.tmp 4) sC JU AA _ AA⟩
  ·refine AG (g _ (Ab λB l=>AM 3 AA (bs h0 λp n h0=>DI EZ n AA (AK AA (CF JU AA (AK AA (AR l ?_)))))));cases h0;exact BP ⟨_,DY [(4,Ax),(5,.bool true)] (.same AA),Lk (.tmp 4) (Ai p) JU AA _ AA⟩
 refine AE AA (AM 3 AA ?_);rcases Sh.Aa c with ⟨b,c⟩|⟨b,c⟩
 ·refine zs b AA ?_;iterate 3 refine zs b rfl ?_
  refine zt b AA (AK AA ?_);iterate 8 refine zs rfl rfl ?_
  exact zt AA AA (AD (i c Ag))
 ·refine Aj b AA (Aj b AA (CP (Dc p0) b (Ch WG AA) (Aj b AA (zf b AA (AK AA ?_)))));rcases Sh.Aa c with ⟨a,c⟩|⟨a,c⟩
  ·refine zs a AA ?_;iterate 7 refine zs a rfl ?_
   exact zt a AA (AD (i c Ag))
  ·exact Aj a AA (Aj a AA (Aj a AA (bs c λd e c=>CP (ax d) a (Hl EZ AA e) (Aj a AA (Aj a AA (CP (fT d) a (Ch Qa AA) (Aj a AA (zf a AA (AD (i c Ag))))))))))
theorem Qj {p1:Int}{r:(List Int)}(h0:Hi p1=some r):BH 237 [.zc,i64 p1] [] (ow 0 0 r) [As r]:=by
 unfold Hi at h0;refine Bb Tryz.func237 AA (AS AA (AB λp f=>AS AA ?_));refine An h0 ?_ ?_<;>intro q h0
 ·refine AE AA ?_;cases h0
 ·refine AG (f _ (AB λn g=>bs h0 λk a h0=>?_));have l:∀{c},JJ k c ⟨27,AJ [(0,ow 0 0 c)],[As c]⟩ n:=by
   rintro _ ⟨⟩ s o;try dsimp only at h0
   refine g _ (AH o (AS AA ?_));obtain rfl:=Sh.Av h0;exact rt [(4,ow 0 0 k)]
  refine Ab λx h=>AM 2 AA (fx Hq AA (AK AA (zz (i64 0) (fS Hq AA) rfl (AM 3 AA (AR h (AS AA ?_))))));refine An a ?_ ?_<;>intro i a
  ·exact AE AA (AM 2 AA (fx Hq AA (qn Ay AA AA (AK AA (bs a λj d a=>oG (u:=0) (enc:=eI) (m:=0) (st':=[As j]) Ay uH AA AA i AA d AA AA (AK AA (zz (i64 0) (fS Hq AA) rfl (bs a λb e a=>pR BJ Ay AA AA AA AA e AA (AK AA (AD (l a (CH (L:=[(0,ow 0 0 b)]) (st':=[As b]) (.pure BB .nil) (.same AA)))))))))))))
  ·exact AG (l a ((ER (t:=0) rfl 3 (size:=1) (by decide)).trans (DY [(0,fe)] (.same AA))))
theorem FW {N:Nat}{p0:(List (List Int))}{r:(List Int)}(h0:Dk N p0=some r):BH 185 [ls (eS eI) p0] [] (ow 0 0 r) [As r]:=by
 unfold Dk at h0;refine Bb Tryz.func185 AA ?_;iterate 2 refine AS rfl ?_
 refine AB λO C=>Ab λK4 D=>AK AA (Bd AA (AK AA (AR D (bs h0 λE a h0=>?_))));have P:∀{c},JJ E c ⟨36,AJ [(0,ls (eS eI) p0),(3,i64 c)],[]⟩ O:=by
  rintro _ ⟨⟩ s F;refine C _ (AH F (Ab λK9 G=>AK AA (bs h0 λi j h0=>Dx (ow 0 0 i) (Qj j) ⟨(Ar λ_=>AA),uM⟩ (AK AA (AR G (AB λH k=>Ab λR l=>AK AA (Bd AA (AK AA (AR l (bs h0 λg a h0=>?_))))))))));have I:∀{d},JJ g d ⟨36,AJ [(6,ow 0 0 d)],[As d]⟩ H:=by
   rintro _ ⟨⟩ s F;try dsimp only at h0
   refine k _ (AH F (AS AA ?_));obtain rfl:=Sh.Av h0;exact rt [(2,ow 0 0 g)]
  refine AI (Fh (Cv p0) (λe f=>⟨36,AJ [(6,ow 0 0 f),(25,ls (eS eI) p0),(26,i64 (Sh.len p0)),(27,i64 e)],[ro 0 3 1 eI f]⟩) N 0 i a Ag ?_);intro n e f a;rw[Cv]at a;refine AS AA (AB λS o=>?_);refine An a ?_ ?_<;>intro T a
  ·exact AG (o _ (AB λU p=>AI (Ab λV q=>bs a λJ t a=>DI NA t AA (AM 2 AA (AR q (AE AA (AM 2 AA (bs a λh u a=>KA J Ay AA P1 u (AK AA (AR p (AE AA (AM 2 AA (AD (xi (Sh.w (e+1),h) a (CH (L:=[(6,ow 0 0 h),(25,ls (eS eI) p0),(26,Dc p0),(27,NV e)]) (st':=[As h]) (.pure BB .nil) (.same AA))))))))))))))))
  ·exact Af (I a Ag)
 refine AI (Fh (Cw p0) (λb K=>⟨36,AJ [(0,ls (eS eI) p0),(3,i64 b),(9,ls (eS eI) p0),(10,i64 (Sh.len p0)),(11,i64 K)],[]⟩) N 0 0 a Ag ?_);intro n b K a;rw[Cw]at a;refine AS AA (AB λW x=>?_);refine An a ?_ ?_<;>intro X a
 ·refine AG (x _ (AB λY y=>AI (Ab λZ z=>bs a λM A a=>DI NA A AA (AM 2 AA (AR z (Ab λb0 B=>AM 2 AA (Bd AA (AM 2 AA (AR B (AS AA ?_))))))))));refine An a ?_ ?_<;>intro b1 a
  ·refine AE AA ?_;cases a
  ·exact AG (y _ (AE AA (AM 2 AA (AD (xi (Sh.w (b+(Sh.len M)),Sh.w (K+1)) a Ag)))))
 ·exact Af (P a Ag)
theorem KU {N:Nat}{zV:Ap->(List Int)->Block->Option (Int)}(AAB :∀{p0:Ap} {p1:(List Int)} {p2:Block} {r:Int},zV p0 p1 p2=some r->BH 65 [NY p0,ls eI p1,DN p2] [] (i64 r) []){p0:Ap}{p1:(List Int)}{p2:(List Block)}{p3:(List (List Int))}{r:Int×Bool}(h0:Cx N zV p0 p1 p2 p3=some r):BH 188 [NY p0,ls eI p1,ls BS p2,ls (eS eI) p3] [] (aI r.1 r.2) []:=by
 unfold Cx at h0;refine Bb Tryz.func188 AA (Ab λW B=>CY 0 AA (AM 2 AA (AR B (AS AA (AB λJ C=>Ab λX D=>AK AA (Bd AA (AK AA (AR D ?_))))))));obtain⟨E,b,h0⟩:=Sh.BG h0;have K:∀{result7},JJ E (.inr result7) ⟨45,AJ [(10,i64 result7)],[]⟩ J:=by
  rintro result7 ⟨⟩ s F;refine C _ (AH F (AS AA ?_));cases h0;exact rt [(8,i64 result7),(9,.bool true)]
 refine AI (Fh (Ct N p0 p1 p2 p3 zV) (λresult5 A=>⟨45,AJ [(1,ls eI p1),(3,ls (eS eI) p3),(4,.ptr 0 0 0 0),(10,i64 result5),(14,ls BS p2),(15,i64 (Sh.len p2)),(16,i64 A)],[⟨0,65,2,[Cp p0]⟩]⟩) N (-1) 0 b Ag ?_);intro n result5 A b;rw[Ct]at b;refine AS AA (AB λO h=>?_);refine An b ?_ ?_<;>intro P b
 ·refine AG (h _ (AB λQ i=>AI (Ab λR j=>AK AA (bs b λS k b=>DI Kq k AA (AK AA (Cm 1 Lr AA (AK AA (CF LO AA (AR j (AB λT o=>D5 10 (by kernel_rfl) (by kernel_rfl) (by rfl) ?_))))))))));iterate 4 refine yq tb rfl ?_
  refine bs b λG p b=>Lw NA p AA (yq tb AA (kK (l:=[p1,G]) (enc:=(eS eI)) BJ NA (by decide) rfl AA AA AA AA BB (bs b λq t b=>?_)));refine Og (BW.wk (FW t) (by refine Wk.trans (Wk.Db (L:=[(0,ls eI q)]) (st':=iy) (id:=0) rfl yu BB ⟨.Db AA,uM⟩ AA) ?_;exact Bf [] .nil (.same AA))) ?_;refine yq tb AA (bs b λd u b=>Og (AAB u) (Bl (AK AA (AR o (AB λU x=>AB λH y=>bs b λz e b=>?_)))));have f:∀{g},JJ z g ⟨45,AJ [(1,ls eI p1),(3,ls (eS eI) p3),(4,Ax),(13,i64 d),(14,ls BS p2),(15,Dc p2),(16,i64 A),(41,.bool g)],[UH p0]⟩ H:=by
   rintro _ ⟨⟩ s F;refine y _ (AH F ?_);refine An b ?_ ?_<;>intro V b
   ·refine AS AA ?_;cases b;cases h0;exact rd (pC [])
   ·exact AG (x _ (AE AA (AM 2 AA (AR i (AE AA (AM 2 AA (AD (xi (d,Sh.w (A+1)) b Ag))))))))
  refine AE AA (AM 3 AA ?_);rcases Sh.Aa e with ⟨a,e⟩|⟨a,e⟩
  ·refine zs a AA (zs a AA (zs a AA ?_));iterate 3 refine zn rfl ?_
   exact zs a AA (zt a AA (AD (f e (Bf [0] (.w .nil) (.same AA)))))
  ·refine Aj a AA (Aj a AA (Aj a AA ?_));rcases Sh.Aa e with ⟨c,e⟩|⟨c,e⟩
   ·exact Aj c AA (Aj c AA (Aj c AA (CP (.bool (!decide (d=result5))) a (E6 AA c AA) (zf a AA (AD (f e (Bf [0] (.w .nil) (.same AA))))))))
   ·exact zs c AA (zs c AA (zs c AA (CP (.bool false) a (Eg AA c AA) (zf a AA (AD (f e (Bf [0] (.w .nil) (.same AA))))))))
 ·exact Af (K b (BT _ AA))
theorem WA {N:Nat}{p0:(List AP)}{r:Int}(h0:Ky N p0=some r):BH 171 [DH p0] [] (i64 r) []:=by
 unfold Ky at h0;refine Bb Tryz.func171 AA ?_;iterate 2 refine AS rfl ?_
 refine AB λl f=>Ab λy g=>AK AA (Bd AA (AK AA (AR g (bs h0 λh a h0=>?_))));have o:∀{n7},JJ h n7 ⟨19,AJ [(3,i64 n7)],[]⟩ l:=by
  rintro _ ⟨⟩ s p;try dsimp only at h0
  refine f _ (AH p (AS AA ?_));obtain rfl:=Sh.Av h0;exact rt [(2,i64 h)]
 refine AI (Fh (Ft p0) (λn5 i=>⟨19,AJ [(3,i64 n5),(6,ls Ai p0),(7,i64 (Sh.len p0)),(8,i64 i)],[]⟩) N 0 0 a Ag ?_);intro n n5 i a;rw[Ft]at a;refine AS AA (AB λq b=>?_);refine An a ?_ ?_<;>intro t a
 ·exact AG (b _ (AB λu c=>AI (Ab λx d=>bs a λj e a=>DI EZ e AA (AK AA (Cm 0 Hb AA (CF JU AA (AR d (AE AA (AM 3 AA (Bd AA (AM 2 AA (AR c (AE AA (AM 2 AA (AD (xi (Sh.w (n5+(Sh.len j.cons)),Sh.w (i+1)) a (BT _ AA)))))))))))))))))
 ·exact Af (o a Ag)
theorem YZ {N:Nat}{p0:(List AP)}{p1:Int}{r:(List Int)}(h0:Mz N p0 p1=some r):BH 104 (Xe p0 p1) [] (ow 0 0 r) [As r]:=by
 unfold Mz at h0;refine Bb Tryz.func104 AA (AS AA (AB λT A=>AB λM B=>bs h0 λI b h0=>?_));have J:∀{C},JJ I C ⟨39,AJ [(0,DH p0),(1,i64 p1),(15,.bool C)],[]⟩ M:=by
  rintro _ ⟨⟩ s D;refine B _ (AH D ?_);refine An h0 ?_ ?_<;>intro U h0
  ·refine AS AA ?_;cases h0;exact BP ⟨_,(((ER (t:=4) rfl 3 (size:=1) (by decide)).trans (DY [(4,fe)] (.same AA))).trans (DY [(4,fe)] (.same AA))),And.intro AA AA⟩
  ·refine AG (A _ (Ab λV E=>AM 3 AA (bs h0 λW F h0=>WE (i:=0) (j:=Sh.w (p1-1)) BJ EZ AA AA AA DA F (bs h0 λc o h0=>CR (hb 171) (WA o) rfl (AK AA (AR E (AS AA (AB λG p=>Ab λP q=>AM 3 AA (bs h0 λf u h0=>DI EZ u AA (AM 2 AA (Bd AA (AK AA (AR q (bs h0 λh b h0=>?_))))))))))))));have H:∀{e},JJ h e ⟨39,AJ [(6,ow 0 0 e)],[As e]⟩ G:=by
    rintro _ ⟨⟩ s D;try dsimp only at h0
    refine p _ (AH D (AS AA ?_));obtain rfl:=Sh.Av h0;exact rt [(4,ow 0 0 h)]
   refine AI (Fh (G6 f c) (λd g=>⟨39,AJ [(5,i64 c),(6,ow 0 0 g),(27,i64 (Sh.len f.cons)),(28,i64 d)],[ro 0 3 1 eI g]⟩) N 0 [] b ((ER (t:=6) rfl 3 (size:=1) (by decide)).trans (DY [(5,i64 c),(6,.own 0 0 (List.length ([]:List Int))),(27,i64 (Sh.len f.cons)),(28,i64 0)] (.same AA))) ?_);intro n d g b;rw[G6]at b;refine AS AA (AB λQ x=>?_);refine An b ?_ ?_<;>intro R b
   ·refine AG (x _ (AB λS y=>AI (AS AA (AE AA (AM 4 AA (D9 1 [Sh.w (c+d)] eI Ay AA (bs b λk z b=>KA [Sh.w (c+d)] Ay AA (GY AA AA) z (AK AA (AR y (AE AA (AM 2 AA ?_)))))))))));exact AD (xi (Sh.w (d+1),k) b (by refine Wk.trans (CH (L:=[(5,i64 c),(6,ow 0 0 k),(27,fT f),(28,NV d)]) (st':=[As k,ro 0 3 1 eI [Sh.w (c+d)]]) (.pure BB (.pure BB .nil)) (.same AA)) ?_;exact Bf [0] (.p .nil) (.same AA)))
   ·exact Af (H b Ag)
 refine AE AA (AM 3 AA ?_);rcases Sh.Aa b with ⟨a,b⟩|⟨a,b⟩
 ·refine zs a AA ?_;iterate 3 refine zs a rfl ?_
  exact zt a AA (AD (J b Ag))
 ·exact Aj a AA (Aj a AA (CP (Dc p0) a (Ch WG AA) (Aj a AA (zf a AA (AD (J b Ag))))))
theorem Tg {N:Nat}{p0:(List AP)}{p1:Int}{r:Int×Bw}(h0:J2 N p0 p1=some r):BH 172 (Xe p0 p1) [] (.CW [i64 r.1,.agg (By r.2)]) []:=by
 unfold J2 at h0;refine FK AA (Bb Tryz.func172 AA (Ab λS y=>AK AA (Cm 0 QK AA (AR y (AB λH z=>Ab λT A=>AK AA (Bd AA (AK AA (AR A ?_))))))));obtain⟨B,b,h0⟩:=Sh.BG h0;have I:JJ B (.inr ()) ⟨38,AJ [(5,Ax)],[⟨0,106,1,[[.zc]]⟩]⟩ H:=by
  rintro⟨⟩ s C;refine z _ (AH C (Ab λU D=>zz (.agg [.zc]) (Gs nI nZ QK AA AA) rfl (AK AA (CF Ny AA (AR D ?_)))));cases h0;exact BP ⟨_,(ID (id:=0) (cs:=[.zc]) (cs':=[SY]) (st':=[⟨0,106,1,[[SY]]⟩]) rfl ⟨le.zc,uM⟩ AA AA).trans (DY [(4,i64 (-1)),(5,Ax)] (.same AA)),Lk (.tmp 5) [SY] Ny AA _ AA⟩
 refine AI (Fh (Gh p0) (λg d=>⟨38,AJ [(1,i64 g),(5,.ptr 0 0 0 0),(8,ls Ai p0),(9,i64 (Sh.len p0)),(10,i64 d)],[⟨0,106,1,[[.zc]]⟩]⟩) N p1 0 b Ag ?_);intro n g d b;rw[Gh]at b;refine AS AA (AB λV E=>?_);refine An b ?_ ?_<;>intro K b
 ·refine AG (E _ (AB λM h=>AI (Ab λO i=>AK AA (bs b λc j b=>DI EZ j AA (AK AA (Cm 1 Hb AA (AK AA (CF JU AA (AR i (AB λP k=>AB λF l=>bs b λo p b=>?_))))))))));have q:∀{e},JJ o e ⟨38,AJ [(1,i64 g),(5,Ax),(6,i64 d),(7,HI),(8,DH p0),(9,Dc p0),(10,i64 d),(23,.bool e)],[⟨0,106,1,[[.zc]]⟩,YU c]⟩ F:=by
   rintro _ ⟨⟩ s C;refine l _ (AH C ?_);refine An b ?_ ?_<;>intro Q b
   ·refine AB λR t=>D5 8 (by kernel_rfl) (by kernel_rfl) (by rfl) ?_;iterate 5 refine yq tb rfl ?_
    refine bs b λf u b=>Lw Jl u AA ?_;iterate 2 refine yq tb rfl ?_
    refine Bl (CF Ny AA (AR t ?_));cases b;cases h0;exact BP ⟨_,(Bf (L:=[(4,NV d),(5,Ax)]) (st':=[⟨0,106,1,[By f]⟩]) [0] (.w .nil) ⟨.rfl,.rfl,uM⟩).trans (DY [(4,NV d),(5,Ax)] ⟨.rfl,.rfl,uM⟩),Lk (.tmp 5) (By f) Ny AA _ AA⟩
   ·exact AG (k _ (AE AA (AM 3 AA (Bd AA (AM 2 AA (AR h (AE AA (AM 2 AA (AD (xi (Sh.w (g-(Sh.len c.cons)),Sh.w (d+1)) b (Bf [0] (.w .nil) (.same AA))))))))))))
  refine AE AA (AM 3 AA ?_);rcases Sh.Aa p with ⟨a,p⟩|⟨a,p⟩
  ·exact Aj a AA (Aj a AA (Aj a AA (CP (fT c) a (Ch Qa AA) (Aj a AA (zt a AA (AD (q p Ag)))))))
  ·refine zs a AA ?_;iterate 4 refine zs a rfl ?_
   exact zf a AA (AD (q p Ag))
 ·exact Af (I b Ag)
theorem WZ {N:Nat}{p0:(List AP)}{p1:Int}{r:(List Int)}(h0:Ik N p0 p1=some r):BH 105 (Xe p0 p1) [] (ls eI r) []:=by
 unfold Ik at h0;refine Bb Tryz.func105 AA (AS AA (Ab λd a=>AM 2 AA (bs h0 λb c h0=>Px (.CW [i64 b.1,.agg (By b.2)]) (hb 172) (Tg c) rfl (AM 3 AA (Cm 0 QK AA (AK AA (CF Ny AA (AR a (AS AA ?_)))))))));cases h0;exact rd [(4,HQ b.2.fields)]
theorem J4 {N:Nat}{p0:Ap}{p1:Int}{r:(List (List Int))}(h0:Cc N p0 p1=some r):BH 117 [NY p0,i64 p1] [] (ow 0 0 r) [Rg r]:=by
 unfold Cc at h0;refine Bb Tryz.func117 AA (Ab λJ q=>CY 0 AA (AK AA (AR q (AS AA (AB λC u=>Ab λK x=>AM 3 AA (bs h0 λb y h0=>Dx (ow 1 0 b) (YZ y) ⟨(Ar λ_=>AA),uM⟩ (zz (Dc b) (Ec Hq AA AA AA) rfl (AK AA (AR x (bs h0 λz a h0=>?_))))))))));have D:∀{f},JJ z f ⟨26,AJ [(5,ow 0 0 f)],[Rg f]⟩ C:=by
  rintro _ ⟨⟩ s E;try dsimp only at h0
  refine u _ (AH E (AS AA ?_));obtain rfl:=Sh.Av h0;exact rt [(4,ow 0 0 z)]
 refine AI (Fh (CI N p0 b) (λg p=>⟨26,AJ [(2,.ptr 0 0 0 0),(5,ow 2 0 p),(11,ow 1 0 b),(12,i64 (Sh.len b)),(13,i64 g)],[⟨0,65,2,[Cp p0]⟩,ro 0 3 1 eI b,ro 0 45 1 (eS eI) p]⟩) N 0 [] a ((ER (t:=5) rfl 45 (size:=1) (by decide)).trans (DY [(2,.ptr 0 0 0 0),(5,.own 2 0 (List.length ([]:List (List Int)))),(11,ow 1 0 b),(12,i64 (Sh.len b)),(13,i64 0)] (.same AA))) ?_);intro n g p a;rw[CI]at a;refine AS AA (AB λF h=>?_);refine An a ?_ ?_<;>intro G a
 ·refine AG (h _ (AB λH i=>AI (Ab λI j=>bs a λA c a=>zz (iZ g) (Ls Ay AA c) rfl (zz (i64 A) (De JR AA AA (Ef c) rfl) rfl (AK AA (AR j (AE AA (AM 4 AA (bs a λd k a=>CR (hb 105) (WZ k) rfl (D9 3 [d] (eS eI) NA AA (bs a λe o a=>KA [d] NA AA (GY AA AA) o (AK AA (AR i (AE AA (AM 2 AA ?_)))))))))))))));exact AD (xi (Sh.w (g+1),e) a (by refine Wk.trans (CH (L:=[(2,Ax),(5,ow 2 0 e),(11,ow 1 0 b),(12,Dc b),(13,NV g)]) (st':=[UH p0,As b,Rg e,ro 0 45 1 (eS eI) [d]]) (.raw AA AA (.pure BB (.pure BB (.pure BB .nil)))) (.same AA)) ?_;exact Bf [0,1,2] (.w (.p (.p .nil))) (.same AA)))
 ·exact Af (D a (Bf [2] (.p .nil) (.same AA)))
theorem HV {N:Nat}{p0:(List Int)}{p1:(List Int)}{r:Bool}(h0:DR N p0 p1=some r):BH 239 [ls eI p0,ls eI p1] [] (.bool r) []:=by
 unfold DR at h0;refine Bb Tryz.func239 AA (AS AA (AB λF l=>Ab λG m=>AK AA (Bd AA (AK AA (Bd AA (AK AA (AR m ?_)))))));refine An h0 ?_ ?_<;>intro t h0
 ·have H:decide ((Sh.len p0)=(Sh.len p1))=false:=by simpa using t
  refine AS AA ?_;cases h0;exact rt [(4,.bool false)]
 ·have I:decide ((Sh.len p0)=(Sh.len p1))=true:=by simpa using t
  refine AG (l _ (AB λx o=>Ab λJ p=>AK AA (Bd AA (AK AA (AR p ?_)))));obtain⟨b,a,h0⟩:=Sh.BG h0;have q:JJ b (.inr ()) ⟨26,AJ [],[]⟩ x:=by
   rintro⟨⟩ s y;refine o _ (AH y (AS AA ?_));cases h0;exact rt [(4,.bool true)]
  refine AI (LN (Dw p0 p1) (λc=>⟨26,AJ [(0,ls eI p0),(1,ls eI p1),(12,i64 (Sh.len p0)),(13,i64 c)],[]⟩) N 0 a Ag ?_);intro n c a;rw[Dw]at a;refine AS AA (AB λz d=>?_);refine An a ?_ ?_<;>intro A a
  ·refine AG (d _ (AB λB e=>AI (AS AA (AB λC f=>Cu (by kernel_rfl) (by kernel_rfl) (by rfl) ?_))));iterate 2 refine yq tb rfl ?_
   refine bs a λg h a=>Lw Ay h AA ?_;iterate 3 refine yq tb rfl ?_
   refine bs a λi j a=>Lw Ay j AA ?_;iterate 2 refine yq tb rfl ?_
   refine Bl (f _ ?_);refine An a ?_ ?_<;>intro k a
   ·have D:decide (g=i)=false:=by simpa using k
    refine AS AA ?_;cases a;cases h0;exact rt [(4,.bool false)]
   ·have E:decide (g=i)=true:=by simpa using k
    exact AG (e _ (AE AA (AM 2 AA (AD (xi (Sh.w (c+1)) a Ag)))))
  ·exact Af (q a Ag)
theorem Xd {N:Nat}{p0:(List AP)}{p1 p2 r:Int}(h0:Lv N p0 p1 p2=some r):BH 240 [DH p0,i64 p1,i64 p2] [] (i64 r) []:=by
 unfold Lv at h0;refine Bb Tryz.func240 AA (AS AA (AB λA o=>Ab λG p=>AK AA (Bd AA (AK AA (AR p ?_)))));obtain⟨q,a,h0⟩:=Sh.BG h0;have B:JJ q (.inr ()) ⟨35,AJ [],[]⟩ A:=by
  rintro⟨⟩ s t;refine o _ (AH t (AS AA ?_));cases h0;exact rt [(6,i64 (-1))]
 refine AI (LN (GU p0 p1 p2) (λg=>⟨35,AJ [(1,i64 p1),(2,i64 p2),(9,ls Ai p0),(10,i64 (Sh.len p0)),(11,i64 g)],[]⟩) N 0 a Ag ?_);intro n g a;rw[GU]at a;refine AS AA (AB λH u=>?_);refine An a ?_ ?_<;>intro I a
 ·refine AG (u _ (AB λD h=>AI (Ab λE i=>AK AA (bs a λx j a=>DI EZ j AA (AK AA (Cm 0 Hb AA (AK AA (CF JU AA (AR i (AB λy k=>bs a λl d a=>?_))))))))));have e:∀{f},JJ l f ⟨35,AJ [(1,i64 p1),(2,i64 p2),(7,i64 g),(9,DH p0),(10,Dc p0),(11,i64 g),(31,.bool f)],[]⟩ y:=by
   rintro _ ⟨⟩ s t;refine k _ (AH t ?_);refine An a ?_ ?_<;>intro F a
   ·refine AS AA ?_;cases a;cases h0;exact rt [(6,NV g)]
   ·exact AG (h _ (AE AA (AM 2 AA (AD (xi (Sh.w (g+1)) a Ag)))))
  refine AE AA (AM 2 AA (Bd AA (AM 2 AA ?_)));rcases Sh.Aa d with ⟨b,d⟩|⟨b,d⟩
  ·refine Aj b AA ?_;iterate 3 refine Aj b rfl ?_
   refine zt b AA (AK AA ?_);rcases Sh.Aa d with ⟨c,d⟩|⟨c,d⟩
   ·refine Aj c AA ?_;iterate 3 refine Aj c rfl ?_
    exact zt c AA (AD (e d (BT _ AA)))
   ·refine zs c AA ?_;iterate 3 refine zs c rfl ?_
    exact zf c AA (AD (e d (BT _ AA)))
  ·refine zs b AA ?_;iterate 3 refine zs b rfl ?_
   refine zf b AA (AK AA ?_);iterate 4 refine zs rfl rfl ?_
   exact zf AA AA (AD (e d (BT _ AA)))
 ·exact Af (B a Ag)
theorem Nw {N:Nat}{p0:Ap}{p1 p2:Int}{p3:(List Int)}{r:Int×Bool}(h0:Ak N p0 p1 p2 p3=some r):BH 189 [.agg (Cp p0),i64 p1,i64 p2,ls eI p3] [] (.CW [i64 r.1,.bool r.2]) []:=by
 unfold Ak at h0;refine Bb Tryz.func189 AA (Ab λK1 h5=>CY 0 AA (AM 2 AA (AR h5 (AS AA (AB λK3 h6=>?_)))));obtain⟨o5,b,h0⟩:=Sh.BG h0;have M5:∀{Y},JJ o5 (.inr Y) ⟨149,AJ (Qf p2 p3 [(10,ow 0 0 Y),(11,i64 0)]),[As Y]⟩ K3:=by
  rintro Y ⟨⟩ s A;refine h6 _ (AH A (AB λK6 h7=>bs h0 λo8 b h0=>?_));have M8:∀{t7},JJ o8 t7 ⟨149,AJ [(8,i64 0),(9,.bool t7)],[]⟩ K6:=by
   rintro _ ⟨⟩ s A;refine h7 _ (AH A ?_);cases h0;exact rt [(8,i64 0),(9,.bool o8)]
  refine AE AA (AM 4 AA ?_);rcases Sh.Aa b with ⟨G,b⟩|⟨G,b⟩
  ·exact Aj G AA (Aj G AA (JT [(141,i64 0),(144,.bool (decide (p2=0))),(145,ls eI p3),(146,ls eI Y)] iy 0 AA ⟨.rfl,.rfl,.rfl,.Db AA,uM⟩ DA AA (bs b λh8 Z b=>Iy G (HV Z) rfl (zt G AA (AM 2 AA (AD (M8 b (BT _ AA))))))))
  ·exact zs G AA (zs G AA (zs G AA (zf G AA (AM 2 AA (AD (M8 b (BT _ AA)))))))
 refine AS AA (AI (AS AA ?_));refine An b ?_ ?_<;>intro l5 b
 ·refine AB λh9 b0=>bs b λb1 c b=>?_;have R:∀{H},JJ b1 H ⟨149,AJ [(8,i64 0),(9,.bool H)],[]⟩ h9:=by
   rintro _ ⟨⟩ s A;refine b0 _ (AH A ?_);cases b;cases h0;exact rt [(8,i64 0),(9,.bool b1)]
  refine AE AA (AM 3 AA ?_);rcases Sh.Aa c with ⟨D,c⟩|⟨D,c⟩
  ·refine Aj D AA (Aj D AA (zt D AA (AK AA ?_)));rcases Sh.Aa c with ⟨x,c⟩|⟨x,c⟩
   ·exact Aj x AA (CP (Dc p3) x (Ch Hq AA) (Aj x AA (zt x AA (AM 2 AA (AD (R c (BT _ AA)))))))
   ·exact zs x AA (zs x AA (zs x AA (zf x AA (AM 2 AA (AD (R c (BT _ AA)))))))
  ·refine zs D AA (zs D AA (zf D AA (AK AA ?_)));iterate 3 refine zs rfl rfl ?_
   exact zf AA AA (AM 2 AA (AD (R c (BT _ AA))))
 ·refine AB λk0 b2=>bs b λb3 c b=>?_;have I:∀{S},JJ b3 S ⟨149,AJ ((1,i64 p1)::Qf p2 p3 [(4,Ax),(11,i64 0),(18,i64 p1),(32,.bool S)]),[UH p0]⟩ k0:=by
   rintro _ ⟨⟩ s A;refine b2 _ (AH A ?_);refine An b ?_ ?_<;>intro l6 b
   ·exact AE AA (D9 1 [(0:Int),0] eI Ay AA (AK AA (AD (M5 b (Bf [1] (.p .nil) (.same AA))))))
   ·refine AS AA ?_;refine An b ?_ ?_<;>intro l7 b
    ·refine AE AA ?_;refine D9 1 [(0:Int)] eI Ay AA ?_;refine AK AA ?_;exact AD (M5 b (Bf [1] (.p .nil) (.same AA)))
    ·refine AS AA ?_;refine An b ?_ ?_<;>intro l8 b
     ·refine AB λl9 b4=>Ab λm0 b5=>AK AA (Bd AA (AK AA (AR b5 ?_)));refine An b ?_ ?_<;>intro b6 b
      ·have m1:decide ((Sh.len p3)=2)=false:=by simpa using b6
       refine AS AA ?_;cases b;cases h0;exact rd (pC [])
      ·have m2:decide ((Sh.len p3)=2)=true:=by simpa using b6
       refine AG (b4 _ (AB λm3 b7=>OW (by kernel_rfl) (bs b λT b8 b=>bs b λd P b=>Qn λA36 a=>?_)));have f:A36 0 (bm 12 4095) ⟨149,AJ (Qf p2 p3 [(12,Ax),(13,.bool d.2)]),[YU d.1]⟩:=(a _ _ _).2 (by
        refine PS AA (by kernel_rfl) (b7 _ (AB λk1 c0=>bs b λc1 c b=>?_));have U:∀{J},JJ c1 J ⟨149,AJ [(8,i64 d.1.to),(9,.bool J)],[]⟩ k1:=by
         rintro _ ⟨⟩ s A;refine c0 _ (AH A ?_);cases b;cases h0;exact rt [(8,i64 d.1.to),(9,.bool c1)]
        refine Cu (by kernel_rfl) (by kernel_rfl) (by rfl) ?_;iterate 4 refine yq tb rfl ?_
        rcases Sh.Aa c with ⟨B,c⟩|⟨B,c⟩
        ·refine yg tb B AA (bs c λk2 c2 c=>LC (v:=(LR k2)) (Is AA AA B) rfl (Hl Ay AA c2) ?_);iterate 4 refine yg tb B rfl ?_
         refine yt B AA (yq tb AA ?_);rcases Sh.Aa c with ⟨E,c⟩|⟨E,c⟩
         ·refine yg tb E AA (yg tb E AA (yt E AA ?_));iterate 2 refine yq tb rfl ?_
          exact Bl (U c (BT _ AA))
         ·refine ys E AA (ys E AA (yf E AA ?_));iterate 2 refine yq tb rfl ?_
          exact Bl (U c (BT _ AA))
        ·refine ys B AA ?_;iterate 5 refine ys B rfl ?_
         refine yf B AA (yq tb AA ?_);iterate 2 refine ys rfl rfl ?_
         refine yf AA AA ?_;iterate 2 refine yq tb rfl ?_
         exact Bl (U c (by exact Bf [] .nil (.same AA))))
       have e:A36 2 (bm 12 1023) ⟨149,AJ (Qf p2 p3 [(12,Ax),(53,WX d.1),(54,.bool d.2)]),[Zn]⟩:=(a _ _ _).2 (by
        refine xa [10] ⟨?_,uM⟩
        ·refine xo 10 ?_;refine CF JU AA (AD ⟨AA,?_⟩);refine S9 tb 11 AA AA ?_;exact xt a f)
       have g:A36 3 (bm 12 511) ⟨149,AJ (Qf p2 p3 [(53,WX d.1),(54,.bool d.2)]),[]⟩:=(a _ _ _).2 (by
        refine xa [9] ⟨?_,uM⟩
        ·refine xo 9 ?_;exact Cm 0 Hb AA (xd a e))
       have o:A36 2 (bm 12 1791) ⟨149,AJ (Qf p2 p3 [(12,Ax),(46,RU d.1 d.2)]),[YU d.1]⟩:=(a _ _ _).2 (by
        refine xa [8] ⟨?_,uM⟩
        ·refine xo 8 ?_;refine AK AA (AD ⟨AA,?_⟩);refine S9 tb 11 AA AA ?_;exact xt a f)
       have h:A36 3 (bm 12 767) ⟨149,AJ (Qf p2 p3 [(12,Ax),(46,RU d.1 d.2),(53,WX d.1)]),[Zn]⟩:=(a _ _ _).2 (by
        refine xa [8,10] ⟨?_,?_,uM⟩
        ·exact xq tb a e
        ·refine xo 10 ?_;exact CF JU AA (xd a o))
       have p:A36 4 (bm 12 255) ⟨149,AJ (Qf p2 p3 [(46,RU d.1 d.2),(53,WX d.1)]),[]⟩:=(a _ _ _).2 (by
        refine xa [8,9] ⟨?_,?_,uM⟩
        ·exact xq tb a g
        ·refine xo 9 ?_;exact Cm 0 Hb AA (xd a h))
       have k:A36 3 (bm 12 895) ⟨149,AJ (Qf p2 p3 [(12,Ax),(46,RU d.1 d.2),(54,.bool d.2)]),[Zn]⟩:=(a _ _ _).2 (by
        refine xa [7] ⟨?_,uM⟩
        ·exact xq tb a e)
       have q:A36 4 (bm 12 383) ⟨149,AJ (Qf p2 p3 [(46,RU d.1 d.2),(54,.bool d.2)]),[]⟩:=(a _ _ _).2 (by
        refine xa [7,9] ⟨?_,?_,uM⟩
        ·exact xq tb a g
        ·refine xo 9 ?_;exact Cm 0 Hb AA (xd a k))
       have n:A36 4 (bm 12 639) ⟨149,AJ (Qf p2 p3 [(12,Ax),(46,RU d.1 d.2)]),[Zn]⟩:=(a _ _ _).2 (by
        refine xa [7,8] ⟨?_,?_,uM⟩
        ·exact xq tb a h
        ·exact xq tb a k)
       have y:A36 5 (bm 12 127) ⟨149,AJ (Qf p2 p3 [(46,RU d.1 d.2)]),[]⟩:=(a _ _ _).2 (by
        refine xa [7,8,9] ⟨?_,?_,?_,uM⟩
        ·exact xq tb a p
        ·exact xq tb a q
        ·refine xo 9 ?_;exact Cm 0 Hb AA (xd a n))
       have C:A36 6 (bm 12 543) ⟨149,AJ (Qf p2 p3 [(12,Ax),(48,DH p0.decls),(51,i64 T)]),[Zn]⟩:=(a _ _ _).2 (by
        refine xa [5] ⟨?_,uM⟩
        ·refine xo 5 ?_;refine Px (RU d.1 d.2) (hb 187) (Lb P) rfl (AD ⟨AA,?_⟩);refine S9 tb 6 AA AA ?_;exact xt a n)
       have F:A36 7 (bm 12 31) ⟨149,AJ (Qf p2 p3 [(48,DH p0.decls),(51,i64 T)]),[]⟩:=(a _ _ _).2 (by
        refine xa [5,9] ⟨?_,?_,uM⟩
        ·refine xo 5 ?_;refine Px (RU d.1 d.2) (hb 187) (Lb P) rfl (AD ⟨AA,?_⟩);refine S9 tb 6 AA AA ?_;exact xt a y
        ·refine xo 9 ?_;exact Cm 0 Hb AA (xd a C))
       refine (a _ _ _).2 (qX tb 0 AA AA (qX tb 1 AA AA (qX tb 2 AA AA (aX 3 (LR T) rfl (Hl Ay AA b8) (S9 tb 4 AA AA ?_)))));exact xw a F (by exact Bf [] .nil (.same AA))
     ·refine AS AA ?_;refine An b ?_ ?_<;>intro m4 b
      ·refine Ab λm5 c3=>AM 3 AA (bs b λK c4 b=>Px (.CW [i64 K.1,.agg (By K.2)]) (hb 172) (Tg c4) rfl (AM 3 AA (Cm 1 QK AA (AK AA (CF Ny AA (AR c3 (AB λk3 c5=>bs b λc6 c b=>?_)))))));have c7:∀{M},JJ c6 M ⟨149,AJ [(8,i64 K.1),(9,.bool M)],[]⟩ k3:=by
        rintro _ ⟨⟩ s A;refine c5 _ (AH A ?_);cases b;cases h0;exact rt [(8,i64 K.1),(9,.bool c6)]
       refine AE AA (AM 4 AA ?_);rcases Sh.Aa c with ⟨z,c⟩|⟨z,c⟩
       ·exact Aj z AA (Aj z AA (Aj z AA (bs c λk4 c8 c=>Iy z (HV c8) rfl (zt z AA (AM 2 AA (AD (c7 c (BT _ AA))))))))
       ·refine zs z AA ?_;iterate 3 refine zs z rfl ?_
        exact zf z AA (AM 2 AA (AD (c7 c (BT _ AA))))
      ·refine AB λk5 c9=>bs b λd1 c b=>?_;have d2:∀{V},JJ d1 V ⟨149,AJ ((1,i64 p1)::Qf p2 p3 [(4,Ax),(88,.bool V)]),[UH p0]⟩ k5:=by
        rintro _ ⟨⟩ s A;refine c9 _ (AH A ?_);refine An b ?_ ?_<;>intro m6 b
        ·refine AB λm7 d3=>AB λk6 d4=>bs b λd5 c b=>?_;have d6:∀{W},JJ d5 W ⟨149,AJ ((1,i64 p1)::Qf p2 p3 [(4,Ax),(99,.bool W)]),[UH p0]⟩ k6:=by
          rintro _ ⟨⟩ s A;refine d4 _ (AH A ?_);refine An b ?_ ?_<;>intro m8 b
          ·refine AS AA ?_;cases b;cases h0;exact rd (pC [])
          ·refine AG (d3 _ (AB λm9 d7=>Cu (by kernel_rfl) (by kernel_rfl) (by rfl) ?_));iterate 3 refine yq tb rfl ?_
           refine bs b λd8 Q b=>Lw WD Q AA ?_;iterate 5 refine yq tb rfl ?_
           refine Lw WD Q AA ?_;iterate 4 refine yq tb rfl ?_
           refine Bl (d7 _ (AB λq0 d9=>AS AA ?_));refine An b ?_ ?_<;>intro q1 b
           ·refine Ab λq2 g0=>AM 3 AA (bs b λk7 g1 b=>CR (hb 239) (HV g1) rfl (AM 2 AA (AR g0 ?_)));cases b;cases h0;exact rd [(8,i64 d8.result),(9,.bool k7)]
           ·refine AG (d9 _ (Ab λq3 g2=>AK AA (Bd AA (AM 2 AA (AR g2 (AB λq4 g3=>AS AA ?_))))));refine An b ?_ ?_<;>intro q5 b
            ·refine AS AA ?_;cases b;cases h0;exact rd (pC [])
            ·refine AG (g3 _ (AB λq6 g4=>Cu (by kernel_rfl) (by kernel_rfl) (by rfl) ?_));iterate 4 refine yq tb rfl ?_
             refine bs b λq7 g5 b=>Lw Ay g5 AA ?_;iterate 2 refine yq tb rfl ?_
             refine bs b λX g6 b=>Og (Xd g6) (yq tb AA (Bl (g4 _ (AB λk8 g7=>bs b λg8 c b=>?_))));have g9:∀{O},JJ g8 O ⟨149,AJ [(8,i64 X),(9,.bool O)],[]⟩ k8:=by
              rintro _ ⟨⟩ s A;refine g7 _ (AH A ?_);cases b;cases h0;exact rt [(8,i64 X),(9,.bool g8)]
             refine AE AA (AM 4 AA ?_);rcases Sh.Aa c with ⟨t,c⟩|⟨t,c⟩
             ·exact Aj t AA (Aj t AA (Aj t AA (bs c λq8 h3 c=>WE (i:=0) (j:=Sh.w ((Sh.len d8.params)-1)) (Is AA AA t) Ay AA AA AA DA h3 (bs c λk9 h4 c=>Iy t (HV h4) rfl (zt t AA (AM 2 AA (AD (g9 c (BT _ AA)))))))))
             ·refine zs t AA ?_;iterate 4 refine zs t rfl ?_
              exact zf t AA (AM 2 AA (AD (g9 c (BT _ AA))))
         refine AE AA (AM 3 AA ?_);rcases Sh.Aa c with ⟨u,c⟩|⟨u,c⟩
         ·refine zs u AA ?_;iterate 4 refine zs u rfl ?_
          exact zt u AA (AD (d6 c Ag))
         ·exact Aj u AA (Aj u AA (Aj u AA (CP (i64 (Sh.len p0.funcs)) u (Ch kD AA) (Aj u AA (zf u AA (AD (d6 c Ag)))))))
        ·refine AS AA ?_;cases b;cases h0;exact rd (pC [])
       refine AS AA ?_;refine An c ?_ ?_<;>intro l0 c
       ·exact AG (d2 c (DY ((1,i64 p1)::Qf p2 p3 [(4,Ax),(88,.bool true)]) ⟨.rfl,.rfl,.rfl,.rfl,.of (vI AV.bool l0),uM⟩))
       ·exact AE AA (AM 2 AA (AD (d2 c Ag)))
  refine AS AA ?_;refine An c ?_ ?_<;>intro l1 c
  ·exact AG (I c (DY ((1,i64 p1)::Qf p2 p3 [(4,Ax),(11,i64 0),(18,i64 p1),(32,.bool true)]) ⟨.rfl,.rfl,.rfl,.rfl,.rfl,.rfl,.of (vI AV.bool l1),uM⟩))
  ·refine AS AA ?_;refine An c ?_ ?_<;>intro l2 c
   ·exact AG (I c (DY ((1,i64 p1)::Qf p2 p3 [(4,Ax),(11,i64 0),(18,i64 p1),(32,.bool true)]) ⟨.rfl,.rfl,.rfl,.rfl,.rfl,.rfl,.of (vI AV.bool l2),uM⟩))
   ·refine AS AA ?_;refine An c ?_ ?_<;>intro l3 c
    ·exact AG (I c (DY ((1,i64 p1)::Qf p2 p3 [(4,Ax),(11,i64 0),(18,i64 p1),(32,.bool true)]) ⟨.rfl,.rfl,.rfl,.rfl,.rfl,.rfl,.of (vI AV.bool l3),uM⟩))
    ·exact AE AA (AM 2 AA (AD (I c Ag)))
theorem KW {N:Nat}{zV:Ap->(List Int)->Block->Option (Int)}(AAB :∀{p0:Ap} {p1:(List Int)} {p2:Block} {r:Int},zV p0 p1 p2=some r->BH 65 [NY p0,ls eI p1,DN p2] [] (i64 r) []){p0:Ap}{p1:(List Int)}{p2:Step}{r:Int×Bool}(h0:Bx N zV p0 p1 p2=some r):BH 120 [NY p0,ls eI p1,Hu p2] [] (aI r.1 r.2) []:=by
 unfold Bx at h0;refine Bb Tryz.func120 AA (Ab λK1 m6=>CY 0 AA (CY 1 AA (AM 2 AA (AR m6 (Ab λK2 m7=>AM 2 AA (Bd AA (bs h0 λl3 m8 h0=>jL (m:=2) (st':=(oc p0 p2 [iI])) Ay AA AA m8 AA AA (AK AA (AR m7 (AB λK4 m9=>Ab λK5 q0=>AM 2 AA (Bd AA (AK AA (AR q0 ?_)))))))))))));obtain⟨o9,a,h0⟩:=Sh.BG h0;have M9:∀{U},JJ o9 (.inr U) ⟨233,AJ (Od p1 [(8,ow 2 0 U)]),oJ p0 p2 U⟩ K4:=by
  rintro U ⟨⟩ s Q;refine m9 _ (AH Q (AB λt2 d6=>AB λq1 d7=>bs h0 λd8 a h0=>?_));have Z:∀{c5},JJ d8 c5 ⟨233,AJ (Od p1 [(8,ow 2 0 U),(70,.bool c5)]),oJ p0 p2 U⟩ q1:=by
   rintro _ ⟨⟩ s Q;refine d7 _ (AH Q ?_);refine An h0 ?_ ?_<;>intro t3 h0
   ·refine AS AA ?_;cases h0;exact rd (ns [])
   ·refine AG (d6 _ (AB λt4 d9=>AI (Ab λt5 g0=>AM 2 AA (bs h0 λt7 g1 h0=>CR (hb 96) (Ja g1) rfl (AK AA (AR g0 ?_))))));refine An h0 ?_ ?_<;>intro t8 h0
    ·refine AB λq2 g2=>bs h0 λg3 a h0=>?_;have b3:∀{R},JJ g3 R ⟨233,AJ [(3,Ax),(5,HI),(8,ow 2 0 U),(11,.bool R)],oJ p0 p2 U⟩ q2:=by
      rintro _ ⟨⟩ s Q;refine g2 _ (AH Q (AB λq3 g4=>bs h0 λg5 a h0=>?_));have g6:∀{Y},JJ g5 Y ⟨233,AJ [(11,.bool Y)],[]⟩ q3:=by
       rintro _ ⟨⟩ s Q;refine g4 _ (AH Q (AS AA ?_));cases h0;exact rt [(6,i64 (-1)),(7,.bool g5)]
      refine AB λq4 g7=>bs a λg8 V a=>?_;have c6:∀{c7},JJ g8 c7 ⟨233,AJ [(3,Ax),(8,ow 1 0 U),(11,.bool g3),(105,.bool c7)],[UH p0,As U]⟩ q4:=by
       rintro _ ⟨⟩ s Q;refine g7 _ (AH Q ?_);refine An a ?_ ?_<;>intro t9 a
       ·refine AB λv0 g9=>?_;refine OW (by kernel_rfl) ?_;refine bs a λh3 c0 a=>bs a λc c1 a=>Qn λA34 b=>?_;have g:A34 0 (bm 12 4095) ⟨233,AJ [(13,.bool c.2)],[]⟩:=(b _ _ _).2 (by
         exact PS AA (by kernel_rfl) (g9 _ (AE AA (AM 3 AA (AD (g6 a (DY [(11,.bool (!c.2))] (.same AA))))))))
        have f:A34 2 (bm 12 1023) ⟨233,AJ [(12,Ax),(113,WX c.1),(114,.bool c.2)],[Zn]⟩:=(b _ _ _).2 (by
         refine xa [10] ⟨?_,uM⟩
         ·refine xo 10 (CF JU AA (AD ⟨AA,S9 tb 11 AA AA ?_⟩));exact xw b g (by exact Bf [] .nil (.same AA)))
        have h:A34 3 (bm 12 511) ⟨233,AJ [(113,WX c.1),(114,.bool c.2)],[]⟩:=(b _ _ _).2 (by
         refine xa [9] ⟨?_,uM⟩
         ·refine xo 9 ?_;exact Cm 0 Hb AA (xd b f))
        have p:A34 2 (bm 12 1791) ⟨233,AJ [(106,RU c.1 c.2)],[]⟩:=(b _ _ _).2 (by
         refine xa [8] ⟨?_,uM⟩
         ·refine xo 8 ?_;refine AK AA (AD ⟨AA,?_⟩);refine S9 tb 11 AA AA ?_;exact xt b g)
        have i:A34 3 (bm 12 767) ⟨233,AJ [(12,Ax),(106,RU c.1 c.2),(113,WX c.1)],[Zn]⟩:=(b _ _ _).2 (by
         refine xa [8,10] ⟨?_,?_,uM⟩
         ·exact xq tb b f
         ·refine xo 10 ?_;exact CF JU AA (aJ b p (by exact Bf [] .nil (.same AA))))
        have y:A34 4 (bm 12 255) ⟨233,AJ [(106,RU c.1 c.2),(113,WX c.1)],[]⟩:=(b _ _ _).2 (by
         refine xa [8,9] ⟨?_,?_,uM⟩
         ·exact xq tb b h
         ·refine xo 9 ?_;exact Cm 0 Hb AA (xd b i))
        have j:A34 3 (bm 12 895) ⟨233,AJ [(12,Ax),(106,RU c.1 c.2),(114,.bool c.2)],[Zn]⟩:=(b _ _ _).2 (by
         refine xa [7] ⟨?_,uM⟩
         ·exact xq tb b f)
        have z:A34 4 (bm 12 383) ⟨233,AJ [(106,RU c.1 c.2),(114,.bool c.2)],[]⟩:=(b _ _ _).2 (by
         refine xa [7,9] ⟨?_,?_,uM⟩
         ·exact xq tb b h
         ·refine xo 9 ?_;exact Cm 0 Hb AA (xd b j))
        have k:A34 4 (bm 12 639) ⟨233,AJ [(12,Ax),(106,RU c.1 c.2)],[Zn]⟩:=(b _ _ _).2 (by
         refine xa [7,8] ⟨?_,?_,uM⟩
         ·exact xq tb b i
         ·exact xq tb b j)
        have C:A34 5 (bm 12 127) ⟨233,AJ [(106,RU c.1 c.2)],[]⟩:=(b _ _ _).2 (by
         refine xa [7,8,9] ⟨?_,?_,?_,uM⟩
         ·exact xq tb b y
         ·exact xq tb b z
         ·refine xo 9 ?_;exact Cm 0 Hb AA (xd b k))
        have S:A34 6 (bm 12 543) ⟨233,AJ [(12,Ax),(108,DH p0.decls),(111,i64 h3)],[Zn]⟩:=(b _ _ _).2 (by
         refine xa [5] ⟨?_,uM⟩
         ·refine xo 5 ?_;refine Px (RU c.1 c.2) (hb 187) (Lb c1) rfl (AD ⟨AA,?_⟩);refine S9 tb 6 AA AA ?_;exact xt b k)
        have W:A34 7 (bm 12 31) ⟨233,AJ [(108,DH p0.decls),(111,i64 h3)],[]⟩:=(b _ _ _).2 (by
         refine xa [5,9] ⟨?_,?_,uM⟩
         ·exact xo 5 (Px (RU c.1 c.2) (hb 187) (Lb c1) rfl (AD ⟨AA,qX tb 6 AA AA (xt b C)⟩))
         ·refine xo 9 ?_;exact Cm 0 Hb AA (xd b S))
        refine (b _ _ _).2 (qX tb 0 AA AA (qX tb 1 AA AA (qX tb 2 AA AA (aX 3 (.ptr 1 0 (Int.toNat 0) 0) rfl (Ls Ay AA c0) (Zg 4 AA AA (by kernel_rfl) (R5 JR AA AA (Ef c0) rfl) ?_)))));exact xw b W (by exact Bf [] .nil (.same AA))
       ·exact AG (g6 a (BT _ AA))
      refine AE AA (AM 2 AA ?_);rcases Sh.Aa V with ⟨t,V⟩|⟨t,V⟩
      ·refine Aj t AA ?_;iterate 3 refine Aj t rfl ?_
       rcases Sh.Aa V with ⟨D,V⟩|⟨D,V⟩
       ·exact zs D AA (zs D AA (zs D AA (CP (.bool true) t (E6 AA D AA) (zt t AA (AD (c6 V (Bf [0,2] (.w (.p .nil)) (.same AA))))))))
       ·exact Aj D AA (Aj D AA (Aj D AA (CP (.bool (decide (p2.op=17))) t (Eg AA D AA) (zt t AA (AD (c6 V (Bf [0,2] (.w (.p .nil)) (.same AA))))))))
      ·refine zs t AA ?_;iterate 3 refine zs t rfl ?_
       iterate 3 refine zn rfl ?_
       exact zs t AA (zf t AA (AD (c6 V (Bf [0,2] (.w (.p .nil)) (.same AA)))))
     refine AE AA (AK AA (zz (Dc U) (Ec Hq AA AA AA) rfl (AM 2 AA ?_)));rcases Sh.Aa a with ⟨E,a⟩|⟨E,a⟩
     ·refine Aj E AA (bs a λq5 c2 a=>CP (.ptr 2 0 (Int.toNat 0) 0) E (Ls Ay AA c2) (CP (i64 q5) E (De JR AA AA (Ef c2) rfl) (Aj E AA (zt E AA (AK AA ?_)))));rcases Sh.Aa a with ⟨F,a⟩|⟨F,a⟩
      ·refine Aj F AA (Aj F AA (Aj F AA (zt F AA (AK AA ?_))));rcases Sh.Aa a with ⟨G,a⟩|⟨G,a⟩
       ·exact Aj G AA (Aj G AA (CP (bu p2) G (Ch aQ AA) (Aj G AA (zt G AA (AK AA (AD (b3 a Ag)))))))
       ·refine zs G AA ?_;iterate 3 refine zs G rfl ?_
        exact zf G AA (AK AA (AD (b3 a Ag)))
      ·refine zs F AA (zs F AA (zs F AA (zf F AA (AK AA ?_))));iterate 4 refine zs rfl rfl ?_
       exact zf AA AA (AK AA (AD (b3 a Ag)))
     ·refine zs E AA ?_;iterate 3 refine zs E rfl ?_
      refine zf E AA (AK AA ?_);iterate 3 refine zs rfl rfl ?_
      refine zf AA AA (AK AA ?_);iterate 4 refine zs rfl rfl ?_
      exact zf AA AA (AK AA (AD (b3 a Ag)))
    ·refine AS AA ?_;refine An h0 ?_ ?_<;>intro v1 h0
     ·refine AB λv2 h4=>AB λq6 h5=>bs h0 λh6 a h0=>?_;have b4:∀{c8},JJ h6 c8 ⟨233,AJ (Od p1 [(141,.bool c8)]),oc p0 p2 []⟩ q6:=by
       rintro _ ⟨⟩ s Q;refine h5 _ (AH Q ?_);refine An h0 ?_ ?_<;>intro v3 h0
       ·refine AS AA ?_;cases h0;exact rd (ns [])
       ·refine AG (h4 _ (AB λv4 h7=>D5 9 (by kernel_rfl) (by kernel_rfl) (by rfl) ?_));iterate 4 refine yq tb rfl ?_
        refine bs h0 λv5 h8 h0=>tZ (enc:=(eS eI)) (u:=[]) BJ NA AA AA AA h8 BB (bs h0 λb5 h9 h0=>Og (KU AAB h9) ?_);iterate 3 refine yq tb rfl ?_
        refine Bl (AK AA (AR h7 ?_));cases h0;exact rd [(6,i64 b5.1),(7,.bool b5.2)]
      refine AE AA (AK AA (zz (Dc U) (Ec Hq AA AA AA) rfl (AM 2 AA ?_)));rcases Sh.Aa a with ⟨H,a⟩|⟨H,a⟩
      ·refine zs H AA ?_;iterate 3 refine zs H rfl ?_
       refine zt H AA (AK AA ?_);iterate 3 refine zs rfl rfl ?_
       refine zt AA AA (AK AA ?_);iterate 4 refine zs rfl rfl ?_
       exact zt AA AA (AD (b4 a (Bf [0,1] (.w (.w .nil)) (.same AA))))
      ·refine Aj H AA (bs a λq7 c3 a=>CP (.ptr 2 0 (Int.toNat 0) 0) H (Ls Ay AA c3) (CP (i64 q7) H (De JR AA AA (Ef c3) rfl) (Aj H AA (zf H AA (AK AA ?_)))));rcases Sh.Aa a with ⟨I,a⟩|⟨I,a⟩
       ·refine zs I AA (zs I AA (zs I AA (zt I AA (AK AA ?_))));iterate 4 refine zs rfl rfl ?_
        exact zt AA AA (AD (b4 a (Bf [0,1] (.w (.w .nil)) (.same AA))))
       ·refine Aj I AA (Aj I AA (Aj I AA (zf I AA (AK AA ?_))));rcases Sh.Aa a with ⟨J,a⟩|⟨J,a⟩
        ·refine zs J AA ?_;iterate 3 refine zs J rfl ?_
         exact zt J AA (AD (b4 a (Bf [0,1] (.w (.w .nil)) (.same AA))))
        ·exact Aj J AA (Aj J AA (CP (bu p2) J (Ch aQ AA) (Aj J AA (zf J AA (AD (b4 a (Bf [0,1] (.w (.w .nil)) (.same AA))))))))
     ·refine AS AA ?_;refine An h0 ?_ ?_<;>intro v6 h0
      ·refine Ab λv7 k0=>AM 3 AA (bs h0 λX k1 h0=>Dx (ow 3 0 X) (J4 k1) ⟨(Ar λ_=>AA),uM⟩ (AK AA (AR k0 (AB λv8 k2=>AB λq8 k3=>bs h0 λk4 a h0=>?_))));have b6:∀{c9},JJ k4 c9 ⟨233,AJ (Od p1 [(14,ow 2 0 X),(181,.bool c9)]),oc p0 p2 [Rg X]⟩ q8:=by
        rintro _ ⟨⟩ s Q;refine k3 _ (AH Q ?_);refine An h0 ?_ ?_<;>intro v9 h0
        ·refine AS AA ?_;cases h0;exact rd (ns [])
        ·refine AG (k2 _ (Ab λw0 k5=>AM 5 AA (JT [(182,NY p0),(183,ls eI p1),(185,lu p2),(186,ls (eS eI) X)] (oc p0 p2 [⟨1,45,1,[]⟩]) 2 AA ⟨.rfl,.rfl,.rfl,.Db AA,uM⟩ DA AA (bs h0 λb7 k6 h0=>Px (aI b7.1 b7.2) (hb 188) (KU AAB k6) rfl (AM 4 AA (AR k5 ?_))))));cases h0;exact rd [(6,i64 b7.1),(7,.bool b7.2)]
       refine Cu (by kernel_rfl) (by kernel_rfl) (by rfl) (yq tb AA (yz (Dc U) (Ec Hq AA AA AA) rfl ?_));iterate 2 refine yq tb rfl ?_
       rcases Sh.Aa a with ⟨K,a⟩|⟨K,a⟩
       ·refine ys K AA ?_;iterate 5 refine ys K rfl ?_
        refine yt K AA (yq tb AA ?_);iterate 3 refine ys rfl rfl ?_
        refine yt AA AA (yq tb AA ?_);iterate 6 refine ys rfl rfl ?_
        exact yt AA AA (Bl (b6 a (Bf [0,1,3] (.w (.w (.p .nil))) (.same AA))))
       ·refine yg tb K AA (bs a λq9 c4 a=>LC (v:=(.ptr 2 0 (Int.toNat 0) 0)) (Is AA AA K) rfl (Ls Ay AA c4) (LC (v:=(i64 q9)) (Is AA AA K) rfl (De JR AA AA (Ef c4) rfl) ?_));iterate 3 refine yg tb K rfl ?_
        refine yf K AA (yq tb AA ?_);rcases Sh.Aa a with ⟨T,a⟩|⟨T,a⟩
        ·refine ys T AA ?_;iterate 2 refine ys T rfl ?_
         refine yt T AA (yq tb AA ?_);iterate 6 refine ys rfl rfl ?_
         exact yt AA AA (Bl (b6 a (Bf [0,1,3] (.w (.w (.p .nil))) (.same AA))))
        ·refine yg tb T AA (LC (v:=(Dc X)) (Is AA AA T) rfl (Ec oz AA AA AA) (yg tb T AA (yf T AA (yq tb AA ?_))));rcases Sh.Aa a with ⟨x,a⟩|⟨x,a⟩
         ·refine ys x AA ?_;iterate 5 refine ys x rfl ?_
          exact yt x AA (Bl (b6 a (Bf [0,1,3] (.w (.w (.p .nil))) (.same AA))))
         ·exact yg tb x AA (yg tb x AA (LC (v:=(bu p2)) (Is AA AA x) rfl (Ch aQ AA) (yg tb x AA (LC (v:=(Dc X)) (Is AA AA x) rfl (Ec oz AA AA AA) (yg tb x AA (yf x AA (Bl (b6 a (Bf [0,1,3] (.w (.w (.p .nil))) (.same AA))))))))))
      ·refine AB λt0 k7=>bs h0 λk8 a h0=>?_;have b0:∀{d1},JJ k8 d1 ⟨233,AJ [(3,Ax),(5,HI),(8,ow 2 0 U),(190,.bool d1)],oJ p0 p2 U⟩ t0:=by
        rintro _ ⟨⟩ s Q;refine k7 _ (AH Q ?_);refine An h0 ?_ ?_<;>intro w1 h0
        ·refine AS AA ?_;cases h0;exact rd (ns [])
        ·refine AG (d9 _ (Ab λw2 k9=>AM 6 AA (JT [(224,.agg (Cp p0)),(226,i64 p2.op),(228,i64 p2.num),(229,ls eI U)] [⟨0,65,2,[Cp p0]⟩,ZA p2.op p2.num p2.BF p2.args p2.kids,⟨1,3,1,[]⟩] 2 AA ⟨.rfl,.rfl,.rfl,.Db AA,uM⟩ DA AA (bs h0 λb8 l0 h0=>Px (.CW [i64 b8.1,.bool b8.2]) (hb 189) (Nw l0) rfl (AM 4 AA (AR k9 ?_))))));cases h0;exact rd [(6,i64 b8.1),(7,.bool b8.2)]
       refine AE AA (AM 2 AA (Bd AA (AM 2 AA ?_)));rcases Sh.Aa a with ⟨d,a⟩|⟨d,a⟩
       ·refine zs d AA ?_;iterate 3 refine zs d rfl ?_
        iterate 3 refine zn rfl ?_
        refine zs d AA (zs d AA ?_);iterate 6 refine zn rfl ?_
        refine zs d AA (zs d AA ?_);iterate 9 refine zn rfl ?_
        exact zs d AA (zt d AA (AK AA (AD (b0 a Ag))))
       ·refine Aj d AA ?_;iterate 3 refine Aj d rfl ?_
        rcases Sh.Aa a with ⟨M,a⟩|⟨M,a⟩
        ·refine Aj M AA (Aj M AA (Aj M AA (CP (.bool (decide (0<=p2.num))) d (E6 AA M AA) (Aj d AA ?_))));rcases Sh.Aa a with ⟨O,a⟩|⟨O,a⟩
         ·refine Aj O AA ?_;iterate 3 refine Aj O rfl ?_
          refine CP (i64 (Sh.len p0.funcs)) O (Ch kD AA) (Aj O AA (CP (.bool (decide (p2.num<(Sh.len p0.funcs)))) d (E6 AA O AA) (Aj d AA ?_)));rcases Sh.Aa a with ⟨q,a⟩|⟨q,a⟩
          ·refine Aj q AA ?_;iterate 3 refine Aj q rfl ?_
           exact bs a λb9 l1 a=>CP (.Bj (BI b9) 0) q (Hl WD AA l1) (Aj q AA (Aj q AA (CP (Dc b9.Aq) q (Ch Hq AA) (Aj q AA (CP (.bool (decide (0<(Sh.len b9.Aq)))) d (E6 AA q AA) (zf d AA (AK AA (AD (b0 a Ag)))))))))
          ·refine zs q AA ?_;iterate 8 refine zs q rfl ?_
           exact CP (.bool false) d (Eg AA q AA) (zf d AA (AK AA (AD (b0 a Ag))))
         ·refine zs O AA ?_;iterate 5 refine zs O rfl ?_
          refine CP (.bool false) d (Eg AA O AA) (Aj d AA ?_);iterate 9 refine zs rfl rfl ?_
          exact CP (.bool false) d (Eg AA AA AA) (zf d AA (AK AA (AD (b0 a Ag))))
        ·refine zs M AA (zs M AA (zs M AA (CP (.bool false) d (Eg AA M AA) (Aj d AA ?_))));iterate 6 refine zs rfl rfl ?_
         refine CP (.bool false) d (Eg AA AA AA) (Aj d AA ?_);iterate 9 refine zs rfl rfl ?_
         exact CP (.bool false) d (Eg AA AA AA) (zf d AA (AK AA (AD (b0 a Ag))))
  refine AE AA (AM 4 AA ?_);rcases Sh.Aa a with ⟨e,a⟩|⟨e,a⟩
  ·refine Aj e AA ?_;iterate 3 refine Aj e rfl ?_
   rcases Sh.Aa a with ⟨P,a⟩|⟨P,a⟩
   ·refine zs P AA (zs P AA (zs P AA (CP (.bool true) e (E6 AA P AA) (Aj e AA ?_))));iterate 5 refine zs rfl rfl ?_
    refine CP (.bool true) e (E6 AA AA AA) (Aj e AA ?_);iterate 7 refine zs rfl rfl ?_
    exact CP (.bool true) e (E6 AA AA AA) (zt e AA (AD (Z a Ag)))
   ·refine Aj P AA (Aj P AA (Aj P AA (CP (.bool (decide (p2.BF<1))) e (Eg AA P AA) (Aj e AA ?_))));rcases Sh.Aa a with ⟨A,a⟩|⟨A,a⟩
    ·refine zs A AA ?_;iterate 4 refine zs A rfl ?_
     refine CP (.bool true) e (E6 AA A AA) (Aj e AA ?_);iterate 7 refine zs rfl rfl ?_
     exact CP (.bool true) e (E6 AA AA AA) (zt e AA (AD (Z a Ag)))
    ·refine Aj A AA (Aj A AA (Aj A AA (CP (Dc p1) A (Ch Hq AA) (Aj A AA (CP (.bool (decide ((Sh.len p1)<p2.BF))) e (Eg AA A AA) (Aj e AA ?_))))));rcases Sh.Aa a with ⟨B,a⟩|⟨B,a⟩
     ·refine zs B AA ?_;iterate 6 refine zs B rfl ?_
      exact CP (.bool true) e (E6 AA B AA) (zt e AA (AD (Z a Ag)))
     ·refine Aj B AA ?_;iterate 3 refine Aj B rfl ?_
      exact bs a λd2 l4 a=>CP (LR d2) B (Hl Ay AA l4) (Aj B AA (Aj B AA (CP (.bool (decide (d2=0))) e (Eg AA B AA) (zt e AA (AD (Z a Ag))))))
  ·refine zs e AA ?_;iterate 3 refine zs e rfl ?_
   iterate 3 refine zn rfl ?_
   refine zs e AA (zs e AA ?_);iterate 5 refine zn rfl ?_
   refine zs e AA (zs e AA ?_);iterate 7 refine zn rfl ?_
   exact zs e AA (zf e AA (AD (Z a Ag)))
 refine AI (Fh (Bt p1 p2) (λt6 l7=>⟨233,AJ [(1,ls eI p1),(3,.ptr 0 0 0 0),(5,.ptr 1 0 0 0),(8,ow 2 0 l7),(20,ls eI p2.args),(21,i64 (Sh.len p2.args)),(22,i64 t6)],[⟨0,65,2,[Cp p0]⟩,ZA p2.op p2.num p2.BF p2.args p2.kids,ro 0 3 1 eI l7]⟩) N 0 [] a Ag ?_);intro n t6 l7 a;rw[Bt]at a;refine AS AA (AB λw3 l5=>?_);refine An a ?_ ?_<;>intro w4 a
 ·refine AG (l5 _ (AB λw5 l6=>AI (Ab λw6 l9=>bs a λm0 m1 a=>DI Ay m1 AA (AM 2 AA (AR l9 (AB λw7 m2=>AB λt1 m3=>bs a λm4 V a=>?_))))));have m5:∀{d3},JJ m4 d3 ⟨233,AJ (Od p1 [(8,ow 2 0 l7),(10,i64 m0),(20,ls eI p2.args),(21,i64 (Sh.len p2.args)),(22,i64 t6),(33,.bool d3)]),oJ p0 p2 l7⟩ t1:=by
   rintro _ ⟨⟩ s Q;refine m3 _ (AH Q ?_);refine An a ?_ ?_<;>intro w8 a
   ·refine AS AA ?_;cases a;cases h0;exact rd (ns [])
   ·refine AG (m2 _ (AE AA (AM 3 AA (bs a λb1 d4 a=>DI Ay d4 AA (AK AA (D9 3 [b1] eI Ay AA (bs a λb2 d5 a=>KA [b1] Ay AA (GY AA AA) d5 (AK AA (AR l6 (AE AA (AM 2 AA ?_)))))))))));exact AD (xi (Sh.w (t6+1),b2) a (by refine Wk.trans (CH (L:=(Od p1 [(8,ow 2 0 b2),(20,ls eI p2.args),(21,i64 (Sh.len p2.args)),(22,NV t6)])) (st':=(oc p0 p2 [As b2,Ml b1])) (.raw AA AA (.raw AA AA (.pure BB (.pure BB .nil)))) (.same AA)) ?_;exact Bf [0,1,2] (.w (.w (.p .nil))) (.same AA)))
  refine AE AA (AM 3 AA ?_);rcases Sh.Aa V with ⟨o,V⟩|⟨o,V⟩
  ·refine zs o AA ?_;iterate 3 refine zs o rfl ?_
   exact zt o AA (AD (m5 V Ag))
  ·exact Aj o AA (Aj o AA (CP (Dc p1) o (Ch Hq AA) (Aj o AA (zf o AA (AD (m5 V Ag))))))
 ·exact Af (M9 a Ag)
theorem NW {N:Nat}{zV:Ap->(List Int)->Block->Option (Int)}(AAB :∀{p0:Ap} {p1:(List Int)} {p2:Block} {r:Int},zV p0 p1 p2=some r->BH 65 [NY p0,ls eI p1,DN p2] [] (i64 r) []){p0:Ap}{p1:(List Int)}{p2:Block}{r:Int}(h0:Di N zV p0 p1 p2=some r):BH 65 [NY p0,ls eI p1,DN p2] [] (i64 r) []:=by
 unfold Di at h0;refine Bb Tryz.func65 AA (Ab λK1 R=>CY 0 AA (CY 1 AA (AK AA (AR R (Ab λK2 S=>AK AA (bs h0 λZ T h0=>Dx (ow 2 0 Z) (Bg T) ⟨(Ar λ_=>AA),uM⟩ (AK AA (AR S (AB λK4 U=>Ab λK5 V=>AM 2 AA (Bd AA (AK AA (AR V ?_))))))))))));obtain⟨W,b,h0⟩:=Sh.BG h0;have M9:∀{g},JJ W (.inr g) ⟨54,AJ [(5,Ax),(7,ow 1 0 g)],[SI p2.steps p2.result,As g]⟩ K4:=by
  rintro g ⟨⟩ s k;refine U _ (AH k (AB λb0 o=>AB λX p=>bs h0 λq b h0=>?_));have t:∀{i},JJ q i ⟨54,AJ [(5,Ax),(7,ow 1 0 g),(48,.bool i)],[SI p2.steps p2.result,As g]⟩ X:=by
   rintro _ ⟨⟩ s k;refine p _ (AH k ?_);refine An h0 ?_ ?_<;>intro b1 h0
   ·refine AS AA ?_;obtain rfl:=Sh.Av h0;exact rd [(6,i64 (-1))]
   ·refine AG (o _ (Ab λb2 u=>AM 3 AA (bs h0 λx h h0=>zz (iZ p2.result) (Ls Ay AA h) rfl (zz (i64 x) (De JR AA AA (Ef h) rfl) rfl (AK AA (AR u ?_))))));obtain rfl:=Sh.Av h0;exact rd [(6,i64 x)]
  refine AE AA (AM 4 AA ?_);rcases Sh.Aa b with ⟨a,b⟩|⟨a,b⟩
  ·refine zs a AA ?_;iterate 4 refine zs a rfl ?_
   exact zt a AA (AD (t b Ag))
  ·exact Aj a AA (Aj a AA (Aj a AA (CP (Dc g) a (Ec Hq AA AA AA) (Aj a AA (zf a AA (AD (t b Ag)))))))
 refine AI (Fh (BZ N p0 p2 zV) (λy z=>⟨54,AJ [(3,.ptr 0 0 0 0),(5,.ptr 1 0 0 0),(7,ow 2 0 z),(15,ls Ba p2.steps),(16,i64 (Sh.len p2.steps)),(17,i64 y)],[⟨0,65,2,[Cp p0]⟩,SI p2.steps p2.result,ro 0 3 1 eI z]⟩) N 0 Z b Ag ?_);intro n y z b;rw[BZ]at b;refine AS AA (AB λb3 A=>?_);refine An b ?_ ?_<;>intro b4 b
 ·refine AG (A _ (AB λY B=>?_));obtain⟨C,c,b⟩:=Sh.BG b;have D:∀{f},JJ C (.inr f) ⟨54,AJ [(3,Ax),(5,HI),(7,ow 2 0 f),(15,T9 p2),(16,lQ p2),(17,i64 y)],[UH p0,SI p2.steps p2.result,As f]⟩ Y:=by
   rintro f ⟨⟩ s k;exact B _ (AH k (AE AA (AM 2 AA (AD (xi (Sh.w (y+1),f) b Ag)))))
  refine AI (Ab λb5 E=>bs c λe F c=>zz (H4 e) (E1 Cb AA AA F (CE _) rfl) rfl (AK AA (Cm 3 Ot AA (CF LP AA (AR E (Ab λb6 G=>AM 3 AA (bs c λd H c=>Fw (v':=(aI d.1 d.2)) BJ (hb 120) (KW AAB H) rfl (.val AA (.own AA AA (λ_=>AA) (.val AA .nil))) rfl uM AA AA (AM 5 AA (AR G (AB λb7 I=>AS AA ?_))))))))));refine An c ?_ ?_<;>intro J c
  ·have b8:d.2=false:=by simpa using J
   refine AS AA ?_;cases c;cases b;cases h0;exact rd [(6,i64 (-1))]
  ·have b9:d.2=true:=by simpa using J
   refine AG (I _ (Ab λc0 K=>AM 2 AA (bs c λM O c=>CR (hb 96) (Ja O) rfl (AK AA (AR K ?_)))));refine An c ?_ ?_<;>intro P c
   ·have c1:M=false:=by simpa using P
    refine AE AA (AM 2 AA (D9 4 [d.1] eI Ay AA (bs c λj Q c=>KA [d.1] Ay AA (GY AA AA) Q (AK AA ?_))));exact AD (D c (by refine Wk.trans (CH (L:=[(3,Ax),(5,HI),(7,ow 2 0 j),(15,T9 p2),(16,lQ p2),(17,i64 y)]) (st':=[UH p0,SI p2.steps p2.result,As j,ZA e.op e.num e.BF e.args e.kids,Ml d.1]) (.raw AA AA (.raw AA AA (.pure BB (.raw AA AA (.pure BB .nil))))) (.same AA)) ?_;exact Bf [0,1,2] (.w (.w (.p .nil))) (.same AA)))
   ·have c2:M=true:=by simpa using P
    exact AG (D c (Bf [0,1,2] (.w (.w (.p .nil))) (.same AA)))
 ·exact Af (M9 b (Bf [1,2] (.w (.p .nil)) (.same AA)))
theorem NX {N:Nat}:∀(n:Nat),∀{p0:Ap} {p1:(List Int)} {p2:Block} {r:Int},Cq N n p0 p1 p2=some r->BH 65 [NY p0,ls eI p1,DN p2] [] (i64 r) []:=by
 intro n
 induction n with
 | zero=>intro p0 p1 p2 r a;cases a
 | succ n ih=>
  intro p0 p1 p2 r a;rw[Cq]at a;exact NW (λh=>ih h) a
theorem J1 {N:Nat}:∀{p0:Ap} {p1:(List Int)} {p2:Block} {r:Int},Bn N p0 p1 p2=some r->BH 65 [NY p0,ls eI p1,DN p2] [] (i64 r) []:=by
 intro p0 p1 p2 r a;exact NX N a
theorem Sw {N:Nat}{p0:AL}{r:Bool}(h0:JE N p0=some r):BH 22 [Gz p0] [] (.bool r) []:=by
 unfold JE at h0;refine Bb Tryz.func22 AA (Ab λT z=>CY 0 AA (AK AA (AR z (Ab λU A=>AK AA (bs h0 λe B h0=>Px (.CW [NY e.1,.bool e.2]) (hb 32) (Ow B) rfl (AM 3 AA (Cm 1 cE AA (CF Xz AA (AK AA (AR A (AB λV C=>AS AA ?_)))))))))));refine An h0 ?_ ?_<;>intro J h0
 ·have W:e.2=false:=by simpa using J
  refine AS AA ?_;cases h0;exact rd [(2,.bool false)]
 ·have X:e.2=true:=by simpa using J
  refine AG (C _ (AB λD h=>Ab λL i=>AM 2 AA (Bd AA (AK AA (AR i ?_)))));obtain⟨f,b,h0⟩:=Sh.BG h0;have E:JJ f (.inr ()) ⟨37,AJ [],[]⟩ D:=by
   rintro⟨⟩ s F;refine h _ (AH F (AS AA ?_));cases h0;exact rt [(2,.bool true)]
  refine AI (LN (FG N p0 e) (λc=>⟨37,AJ [(3,.ptr 0 0 0 0),(15,ls Al p0.AF),(16,i64 (Sh.len p0.AF)),(17,i64 c)],[⟨0,65,2,[Cp e.1]⟩]⟩) N 0 b (Bf [1] (.w .nil) (.same AA)) ?_);intro n c b;rw[FG]at b;refine AS AA (AB λO j=>?_);refine An b ?_ ?_<;>intro P b
  ·refine AG (j _ (AB λQ k=>AI (Ab λR l=>bs b λG o b=>DI Hg o AA (AK AA (Cm 1 Q2 AA (CF Q9 AA (AR l (AB λH p=>bs b λq d b=>?_))))))));have t:∀{g},JJ q g ⟨37,AJ [(3,Ax),(15,nU p0),(16,mz p0),(17,i64 c),(35,.bool g)],[UH e.1]⟩ H:=by
    rintro _ ⟨⟩ s F;refine p _ (AH F ?_);refine An b ?_ ?_<;>intro S b
    ·refine AS AA ?_;cases b;cases h0;exact rd [(2,.bool false)]
    ·exact AG (k _ (AE AA (AM 2 AA (AD (xi (Sh.w (c+1)) b Ag)))))
   refine Cu (by kernel_rfl) (by kernel_rfl) (by rfl) ?_;iterate 2 refine yq tb rfl ?_
   refine bs d λI u d=>Og (Qm u) ?_;iterate 2 refine yq tb rfl ?_
   rcases Sh.Aa d with ⟨a,d⟩|⟨a,d⟩
   ·refine ys a AA ?_;iterate 8 refine ys a rfl ?_
    exact yt a AA (Bl (t d (Bf [0] (.w .nil) (.same AA))))
   ·refine yg tb a AA ?_;iterate 4 refine yg tb a rfl ?_
    refine bs d λx y d=>N7 (v:=(i64 x)) (Is AA AA a) (hb 65) (J1 y) rfl AA AA ?_;iterate 3 refine yg tb a rfl ?_
    exact yf a AA (Bl (t d (Bf [0] (.w .nil) (.same AA))))
  ·exact Af (E b (BT _ AA))
theorem RB {zR:Bool}{p0:Step}{r:Bool}(h0:HZ zR p0=some r):BH 121 [Hu p0,Ax] [QX zR] (.CW []) [QX r]:=by
 unfold HZ at h0;refine Bb Tryz.func121 AA (Ab λe c=>CY 1 AA (AR c (AE AA (AM 2 AA ?_))));rcases Sh.Aa h0 with ⟨a,h0⟩|⟨a,h0⟩
 ·refine Aj a AA (Aj a AA (bs h0 λf d h0=>Iy a (Ja d) rfl (Aj a AA (zt a AA (AK AA ?_)))));rcases Sh.Aa h0 with ⟨b,h0⟩|⟨b,h0⟩
  ·refine Aj b AA (Aj b AA (Aj b AA (zt b AA (CF rF AA ?_))));cases h0;exact AD (xr (Bf (L:=[]) (st':=[⟨0,4,1,[[.bool (decide (p0.BF=0))]]⟩]) [0] (.w .nil) uM))
  ·refine zs b AA (zs b AA (zs b AA (zf b AA (CF rF AA ?_))));cases h0;exact AD (xr (Bf (L:=[]) (st':=[⟨0,4,1,[[.bool false]]⟩]) [0] (.w .nil) uM))
 ·refine zs a AA ?_;iterate 3 refine zs a rfl ?_
  refine zf a AA (AK AA ?_);iterate 3 refine zs rfl rfl ?_
  refine zf AA AA (CF rF AA ?_);cases h0;exact AD (xr (Bf (L:=[]) (st':=[⟨0,4,1,[[.bool false]]⟩]) [0] (.w .nil) uM))
theorem SL {N:Nat}{zy:Bool->Block->Option (Bool)}(hrec_impl_visitSteps :∀{zR:Bool} {p0:Block} {r:Bool},zy zR p0=some r->BH 44 [DN p0,.fn 121 [Ax]] [QX zR] (.CW []) [QX r]){zR:Bool}{p0:Block}{r:Bool}(h0:J7 N zy zR p0=some r):BH 44 [DN p0,.fn 121 [Ax]] [QX zR] (.CW []) [QX r]:=by
 unfold J7 at h0;refine Bb Tryz.func44 AA (Ab λK1 E=>CY 1 AA (AR E (Ab λK2 F=>AM 2 AA (Bd AA (AK AA (AR F (Wx λP G=>bs h0 λH b h0=>?_)))))));have Q:∀I,H=I->∀s,Wk 1 s ⟨30,AJ [],[QX I]⟩->P s:=by
  intro I R s J;subst H;refine G _ ?_;cases h0;exact Exists.intro _ (And.intro (J.trans (DY [] uM)) (And.intro AA AA))
 refine AI (Fh (D3 N p0 zy) (λj k=>⟨30,AJ [(1,.fn 121 [.ptr 0 0 0 0]),(9,ls Ba p0.steps),(10,i64 (Sh.len p0.steps)),(11,i64 j)],[QX k]⟩) N 0 zR b (Bf [0] (.w .nil) (.same AA)) ?_);intro n j k b;rw[D3]at b;refine AS AA (AB λK9 K=>?_);refine An b ?_ ?_<;>intro S b
 ·refine AG (K _ (AB λM o=>AI (Ab λT p=>bs b λa q b=>zz (H4 a) (E1 Cb AA AA q (CE _) rfl) rfl (AK AA (Cm 1 Ot AA (CF LP AA (AR p (Ab λU t=>AM 2 AA (bs b λd u b=>Ib (rowsP:=[QX k]) (rows0:=[QX k]) (rows1:=[QX d]) (rows2:=[]) (rows1':=[QX d]) (rows2':=[]) (st':=[QX d,ZA a.op a.num a.BF a.args a.kids]) (v':=(.CW [])) [0] BJ AA (hb 121) (RB u) rfl (by decide) rfl AA (.raw AA AA .nil) rfl AA (.raw AA AA .nil) .nil AA AA (AR t (Ab λV x=>AM 2 AA (Bd AA (AK AA (AR x (bs b λg c b=>?_)))))))))))))));have O:∀e,g=e->∀s,Wk 1 s ⟨30,AJ [(1,.fn 121 [Ax]),(9,T9 p0),(10,lQ p0),(11,i64 j)],[QX e]⟩->M s:=by
   intro e R s J;subst g;exact o _ (AH J (AE AA (AM 2 AA (AD (xi (Sh.w (j+1),e) b Ag)))))
  refine AI (Fh (Dy a zy) (λh f=>⟨30,AJ [(1,.fn 121 [.ptr 0 0 0 0]),(9,ls Ba p0.steps),(10,i64 (Sh.len p0.steps)),(11,i64 j),(19,ls BS a.kids),(20,i64 (Sh.len a.kids)),(21,i64 h)],[QX f]⟩) N 0 d c (Bf [0] (.w .nil) (.same AA)) ?_);intro n h f c;rw[Dy]at c;refine AS AA (AB λW y=>?_);refine An c ?_ ?_<;>intro X c
  ·exact AG (y _ (AB λY z=>AI (Ab λZ A=>bs c λB C c=>DI Kq C AA (AK AA (Cm 1 Lr AA (CF LO AA (AR A (AE AA (AM 2 AA (bs c λi D c=>pT [QX i,SI B.steps B.result] (.CW []) [0] BJ (hb 44) (hrec_impl_visitSteps D) rfl AA (AR z (AE AA (AM 2 AA (AD (xi (Sh.w (h+1),i) c (Bf [0] (.w .nil) (.same AA)))))))))))))))))
  ·exact Af (O f (Bm c) _ Ag)
 ·exact Af (Q k (Bm b) _ Ag)
theorem Si {N:Nat}:∀(n:Nat),∀{zR:Bool} {p0:Block} {r:Bool},F9 N n zR p0=some r->BH 44 [DN p0,.fn 121 [Ax]] [QX zR] (.CW []) [QX r]:=by
 intro n
 induction n with
 | zero=>intro zR p0 r a;cases a
 | succ n ih=>
  intro zR p0 r a;rw[F9]at a;exact SL (λh=>ih h) a
theorem UD {N:Nat}:∀{zR:Bool} {p0:Block} {r:Bool},Nc N zR p0=some r->BH 44 [DN p0,.fn 121 [Ax]] [QX zR] (.CW []) [QX r]:=by
 intro zR p0 r a;exact Si N a
theorem Sb {N:Nat}{p0:Block}{r:Bool}(h0:Im N p0=some r):BH 63 [DN p0] [] (.bool r) []:=by
 unfold Im at h0;refine Bb Tryz.func63 AA (Ab λf a=>CY 0 AA (AK AA (AR a (Ab λg b=>Cm 1 uF AA (CF rF AA (AR b (Ab λh c=>AK AA (zz (.fn 121 [HI]) (Yx AA) rfl (bs h0 λd e h0=>pT [SI p0.steps p0.result,QX d] (.CW []) [1] BJ (hb 44) (UD e) rfl AA (AR c (AS AA ?_)))))))))));obtain rfl:=Sh.Av h0;exact rd [(2,.bool d)]
theorem XL {N:Nat}{p0:AL}{r:Bool}(h0:Lx N p0=some r):BH 21 [Gz p0] [] (.bool r) []:=by
 unfold Lx at h0;refine Bb Tryz.func21 AA (Ab λM o=>CY 0 AA (AK AA (AR o (AB λO p=>Ab λP q=>AK AA (bs h0 λy t h0=>CR (hb 22) (Sw t) rfl (AK AA (AR q ?_)))))));refine An h0 ?_ ?_<;>intro z h0
 ·have Q:y=false:=by simpa using z
  refine AS AA ?_;cases h0;exact rd [(2,.bool false)]
 ·have R:y=true:=by simpa using z
  refine AG (p _ (AB λB u=>Ab λC d=>AM 2 AA (Bd AA (AK AA (AR d ?_)))));obtain⟨b,a,h0⟩:=Sh.BG h0;have x:JJ b (.inr ()) ⟨20,AJ [],[]⟩ B:=by
   rintro⟨⟩ s D;refine u _ (AH D (AS AA ?_));cases h0;exact rt [(2,.bool true)]
  refine AI (LN (HN N p0) (λc=>⟨20,AJ [(9,ls Al p0.AF),(10,i64 (Sh.len p0.AF)),(11,i64 c)],[]⟩) N 0 a (BT _ AA) ?_);intro n c a;rw[HN]at a;refine AS AA (AB λE e=>?_);refine An a ?_ ?_<;>intro F a
  ·refine AG (e _ (AB λG f=>AI (Ab λH g=>bs a λI h a=>DI Hg h AA (AK AA (Cm 0 Q2 AA (CF Q9 AA (AR g (Ab λJ i=>AM 2 AA (bs a λj k a=>CR (hb 63) (Sb k) rfl (AK AA (AR i ?_)))))))))));refine An a ?_ ?_<;>intro l a
   ·have K:j=false:=by simpa using l
    refine AS AA ?_;cases a;cases h0;exact rd [(2,.bool false)]
   ·have L:j=true:=by simpa using l
    exact AG (f _ (AE AA (AM 2 AA (AD (xi (Sh.w (c+1)) a (BT _ AA))))))
  ·exact Af (x a Ag)
theorem Qh {s1:(List Int)}{p0:Int}{r:(List Int)}(h0:KZ s1 p0=some r):BH 141 [i64 p0,Ax] (Yv s1) (.CW []) (rG r):=by
 unfold KZ at h0;refine Bb Tryz.func141 AA (AE AA (AM 2 AA (D9 2 [p0] eI Ay AA (bs h0 λb a h0=>KA [p0] Ay AA (GY AA AA) a (CF Kl AA ?_)))));obtain rfl:=Sh.Av h0;exact AD (xr (Bf (L:=[]) (st':=(rG b)) [0,1] (.w (.p .nil)) uM))
theorem Te {N:Nat}{zi:(List Int)->Block->Int->Option (List Int)}(hrec_impl_visitUses_3 :∀{s1:(List Int)} {p0:Block} {p1:Int} {r:(List Int)},zi s1 p0 p1=some r->BH 140 (nv p0 p1) (Yv s1) (.CW []) (Ve r)){s1:(List Int)}{p0:Step}{r:(List Int)}(h0:JF N zi s1 p0=some r):BH 206 [Hu p0,.fn 141 [Ax]] (Yv s1) (.CW []) (Ve r):=by
 unfold JF at h0;refine Bb Tryz.func206 AA (AH (Wk.move (id:=1) (p:=0) (j:=0) (st':=(Ve s1)) rfl AA (by decide) rfl AA) (Ab λK1 J=>CY 3 AA (AR J (AB λK2 K=>Ab λK3 M=>AM 2 AA (bs h0 λq4 O h0=>CR (hb 96) (Ja O) rfl (AR M ?_))))));refine An h0 ?_ ?_<;>intro b5 h0
 ·cases h0;exact BP (xr (Da (L:=[]) (st':=(Ve s1)) (st1:=(Ve s1)) [0,1,2] (.w (.pure nN (.p .nil))) uM))
 ·refine AG (K _ (AB λV P=>Ab λK7 Q=>AM 2 AA (Bd AA (AK AA (AR Q (bs h0 λh a h0=>?_))))));have R:∀c,h=c->∀s,Wk 2 s ⟨33,AJ [(1,.fn 141 [Ax]),(2,VZ)],[bT c,⟨1,3,1,[]⟩,As c,ZA p0.op p0.num p0.BF p0.args p0.kids]⟩->V s:=by
   intro c W s S;subst h;refine P _ (AH S (Ab λX o=>AM 2 AA (Bd AA (AK AA (AR o (Wx λT q=>bs h0 λi a h0=>?_))))));have U:∀k,i=k->∀s,Wk 2 s ⟨33,AJ [],Ve k⟩->T s:=by
    intro k W s S;subst i;refine q _ ?_;cases h0;exact Exists.intro _ (And.intro (S.trans (DY [] uM)) (And.intro AA AA))
   refine AI (Fh (EP p0 zi) (λg e=>⟨33,AJ [(1,.fn 141 [.ptr 0 0 0 0]),(23,ls BS p0.kids),(24,i64 (Sh.len p0.kids)),(25,i64 g)],[⟨0,45,1,[[ow 2 0 e]]⟩,⟨1,3,1,[]⟩,ro 0 3 1 eI e]⟩) N 0 c a (by refine Wk.trans (Da (L:=[(1,.fn 141 [.ptr 0 0 0 0]),(23,ls BS p0.kids),(24,i64 (Sh.len p0.kids)),(25,i64 0)]) (st':=[⟨0,45,1,[[ow 2 0 c]]⟩,⟨1,3,1,[]⟩,ro 0 3 1 eI c]) (st1:=[⟨0,45,1,[[ow 2 0 c]]⟩,⟨1,3,1,[]⟩,ro 0 3 1 eI c]) [0,1,2] (.w (.pure nN (.p .nil))) (.same AA)) ?_;exact F3 AA) ?_);intro n g e a;rw[EP]at a;refine AS AA (AB λY u=>?_);refine An a ?_ ?_<;>intro Z a
   ·refine AG (u _ (AB λb0 y=>AI (Ab λb1 z=>bs a λA B a=>DI Kq B AA (AK AA (Cm 3 Lr AA (CF LO AA (AR z (AE AA (AM 2 AA (bs a λb C a=>?_))))))))));refine HG (rowsP:=[bT e,As e]) (rows0:=(Yv e)) (rows1:=[bT b,⟨1,3,1,[]⟩]) (rows2:=[As b]) (rows1':=[⟨0,45,1,[[ow 4 0 b]]⟩,⟨1,3,1,[]⟩]) (rows2':=[As b]) (st':=(⟨0,45,1,[[ow 4 0 b]]⟩::Y9 [SI A.steps A.result,As b])) (v':=(.CW [])) [0,2] BJ (hb 140) (hrec_impl_visitUses_3 C) rfl (by decide) rfl AA (.raw AA AA (.pure BB .nil)) rfl AA (.raw AA AA (.pure nN .nil)) (.pure BB .nil) rfl AA ?_;refine AR y (AE AA (AM 2 AA ?_));exact AD (xi (Sh.w (g+1),b) a (by refine Wk.trans (Da (L:=[(1,.fn 141 [Ax]),(23,lu p0),(24,bu p0),(25,NV g)]) (st':=(Ve b)) (st1:=[⟨0,45,1,[[ow 4 0 b]]⟩,⟨1,3,1,[]⟩,As b]) [0,1,4] (.w (.pure nN (.p .nil))) (.same AA)) ?_;exact F3 AA))
   ·exact Af (U e (Bm a) _ Ag)
  refine AI (Fh (EM p0) (λI l=>⟨33,AJ [(1,.fn 141 [.ptr 0 0 0 0]),(2,.ptr 3 0 0 0),(12,ls eI p0.args),(13,i64 (Sh.len p0.args)),(14,i64 I)],[⟨0,45,1,[[ow 2 0 l]]⟩,⟨1,3,1,[]⟩,ro 0 3 1 eI l,ZA p0.op p0.num p0.BF p0.args p0.kids]⟩) N 0 s1 a Ag ?_);intro n I l a;rw[EM]at a;refine AS AA (AB λb2 D=>?_);refine An a ?_ ?_<;>intro b3 a
  ·refine AG (D _ (AB λb4 E=>AI (Ab λb6 F=>bs a λb7 G a=>DI Ay G AA (AM 2 AA (AR F (AE AA (AM 2 AA (bs a λd H a=>Ib (rowsP:=[bT l,As l]) (rows0:=(Yv l)) (rows1:=(rG d)) (rows2:=[]) (rows1':=[⟨0,45,1,[[ow 2 1 d]]⟩,VP d]) (rows2':=[]) (st':=[⟨0,45,1,[[ow 2 1 d]]⟩,⟨1,3,1,[]⟩,VP d,ZA p0.op p0.num p0.BF p0.args p0.kids]) (v':=(.CW [])) [0,2] BJ AA (hb 141) (Qh H) rfl (by decide) rfl AA (.raw AA AA (.pure BB .nil)) rfl AA (.raw AA AA (.pure BB .nil)) .nil AA AA (AR E (AE AA (AM 2 AA ?_)))))))))));exact AD (xi (Sh.w (I+1),d) a (by refine Wk.trans (EO (L:=[(1,.fn 141 [Ax]),(2,VZ),(12,ls eI p0.args),(13,i64 (Sh.len p0.args)),(14,NV I)]) (st':=[bT d,⟨1,3,1,[]⟩,As d,ZA p0.op p0.num p0.BF p0.args p0.kids]) (.raw AA AA AA (.pure AA nN (.pure AA BB (.raw AA AA AA .nil)))) (.same AA)) ?_;exact F3 AA))
  ·exact Af (R l (Bm a) _ Ag)
theorem Rb {N:Nat}{zi:(List Int)->Block->Int->Option (List Int)}(hrec_impl_visitUses_3 :∀{s1:(List Int)} {p0:Block} {p1:Int} {r:(List Int)},zi s1 p0 p1=some r->BH 140 (nv p0 p1) (Yv s1) (.CW []) (Ve r)){s1:(List Int)}{p0:Block}{p1:Int}{r:(List Int)}(h0:Jb N zi s1 p0 p1=some r):BH 140 (nv p0 p1) (Yv s1) (.CW []) (Ve r):=by
 unfold Jb at h0;refine Bb Tryz.func140 AA (AH (Wk.move (id:=1) (p:=0) (j:=0) (st':=(Ve s1)) rfl AA (by decide) rfl AA) (Ab λO y=>CY 3 AA (AR y (AB λF z=>Ab λP A=>AM 3 AA (bs h0 λh B h0=>WE (i:=p1) (j:=Sh.len p0.steps) BJ Cb AA AA AA H3 B (Bd AA (AK AA (AR A (bs h0 λC b h0=>?_)))))))));have G:∀g,C=g->∀s,Wk 2 s ⟨25,AJ [(2,.fn 141 [Ax]),(3,VZ)],sQ g p0⟩->F s:=by
  intro g Q s H;subst C;refine z _ (AH H (AE AA (AM 3 AA (bs h0 λd D h0=>Ib (rowsP:=[bT g,As g]) (rows0:=(Yv g)) (rows1:=(rG d)) (rows2:=[]) (rows1':=[⟨0,45,1,[[ow 2 1 d]]⟩,VP d]) (rows2':=[]) (st':=[⟨0,45,1,[[ow 2 1 d]]⟩,⟨1,3,1,[]⟩,VP d,SI p0.steps p0.result]) (v':=(.CW [])) [0,2] BJ AA (hb 141) (Qh D) rfl (by decide) rfl AA (.raw AA AA (.pure BB .nil)) rfl AA (.raw AA AA (.pure BB .nil)) .nil AA AA ?_))));obtain rfl:=Sh.Av h0;exact AD (Exists.intro _ (And.intro (((EO (L:=[]) (st':=(sQ d p0)) (.raw AA AA AA (.pure AA nN (.pure AA BB (.raw AA AA AA .nil)))) uM).trans (Da (L:=[]) (st':=(Ve d)) (st1:=(Ve d)) [0,1,2] (.w (.pure nN (.p .nil))) uM)).trans (DY [] uM)) (And.intro AA AA)))
 refine AI (Fh (Dl N h zi) (λu f=>⟨25,AJ [(2,.fn 141 [.ptr 0 0 0 0]),(3,.ptr 3 0 0 0),(11,ls Ba h),(12,i64 (Sh.len h)),(13,i64 u)],[⟨0,45,1,[[ow 2 0 f]]⟩,⟨1,3,1,[]⟩,ro 0 3 1 eI f,SI p0.steps p0.result]⟩) N 0 s1 b Ag ?_);intro n u f b;rw[Dl]at b;refine AS AA (AB λI k=>?_);refine An b ?_ ?_<;>intro J b
 ·refine AG (k _ (AB λK l=>AI (Ab λM o=>bs b λc q b=>zz (H4 c) (E1 Cb AA AA q (CE _) rfl) rfl (AK AA (Cm 4 Ot AA (CF LP AA (AR o (AE AA (AM 2 AA (bs b λa t b=>?_))))))))));refine HG (rowsP:=[bT f,As f]) (rows0:=(Yv f)) (rows1:=[bT a,⟨1,3,1,[]⟩]) (rows2:=[As a]) (rows1':=[⟨0,45,1,[[ow 5 0 a]]⟩,⟨1,3,1,[]⟩]) (rows2':=[As a]) (st':=(⟨0,45,1,[[ow 5 0 a]]⟩::Y9 [SI p0.steps p0.result,ZA c.op c.num c.BF c.args c.kids,As a])) (v':=(.CW [])) [0,2] BJ (hb 206) (Te hrec_impl_visitUses_3 t) rfl (by decide) rfl AA (.raw AA AA (.pure BB .nil)) rfl AA (.raw AA AA (.pure nN .nil)) (.pure BB .nil) rfl AA ?_;refine AR l (AE AA (AM 2 AA ?_));exact AD (xi (Sh.w (u+1),a) b (by refine Wk.trans (Da (L:=[(2,.fn 141 [Ax]),(3,VZ),(11,ls Ba h),(12,Dc h),(13,NV u)]) (st':=(sQ a p0)) (st1:=[⟨0,45,1,[[ow 5 0 a]]⟩,⟨1,3,1,[]⟩,As a,SI p0.steps p0.result]) [0,1,5,3] (.w (.pure nN (.p (.w .nil)))) (.same AA)) ?_;exact F3 AA))
 ·exact Af (G f (Bm b) _ Ag)
theorem Ra {N:Nat}:∀(n:Nat),∀{s1:(List Int)} {p0:Block} {p1:Int} {r:(List Int)},Fb N n s1 p0 p1=some r->BH 140 (nv p0 p1) (Yv s1) (.CW []) (Ve r):=by
 intro n
 induction n with
 | zero=>intro s1 p0 p1 r a;cases a
 | succ n ih=>
  intro s1 p0 p1 r a;rw[Fb]at a;exact Rb (λh=>ih h) a
theorem TB {N:Nat}:∀{s1:(List Int)} {p0:Block} {p1:Int} {r:(List Int)},Ms N s1 p0 p1=some r->BH 140 (nv p0 p1) (Yv s1) (.CW []) (Ve r):=by
 intro s1 p0 p1 r a;exact Ra N a
theorem PM {N:Nat}{p0:Block}{p1:Int}{r:(List Int)}(h0:II N p0 p1=some r):BH 77 (Wn p0 p1) [] (ow 0 0 r) [As r]:=by
 unfold II at h0;refine Bb Tryz.func77 AA (Ab λq d=>CY 0 AA (AK AA (AR d (Ab λs e=>Cm 1 tc AA (Ac (HU (id:=1) (st':=[SI p0.steps p0.result,⟨0,45,1,[[.own 2 0 (List.length ([]:List Int))]]⟩,iI]) (j:=0) rfl AA 3 (size':=1) (by decide) rfl AA AA AA) (AR e (Ab λt f=>AM 2 AA (zz (.fn 141 [HI]) (Yx AA) rfl (bs h0 λa g h0=>?_)))))))));refine HG (rowsP:=[⟨0,45,1,[[.own 2 0 (List.length ([]:List Int))]]⟩,iI]) (rows0:=[⟨0,45,1,[[rI]]⟩,iI]) (rows1:=[bT a,⟨1,3,1,[]⟩]) (rows2:=[As a]) (rows1':=[⟨0,45,1,[[ow 3 0 a]]⟩,⟨1,3,1,[]⟩]) (rows2':=[As a]) (st':=[SI p0.steps p0.result,⟨0,45,1,[[ow 3 0 a]]⟩,⟨1,3,1,[]⟩,As a]) (v':=(.CW [])) [1,2] BJ (hb 140) (TB g) rfl (by decide) rfl AA (.raw AA AA (.pure BB .nil)) rfl AA (.raw AA AA (.pure nN .nil)) (.pure BB .nil) rfl AA ?_;refine AR f (Ab λu h=>AK AA (bs h0 λc i h0=>Gx (rowsP:=[QR a]) (rows0:=[QR a]) (rows1:=[QR c]) (rows2:=[]) (rows1':=[QR c]) (rows2':=[]) (st':=[⟨0,48,2,[[.sl (List.map Ba p0.steps),i64 p0.result]]⟩,⟨0,45,1,[[.own 3 0 (List.length a)]]⟩,⟨1,3,1,[]⟩,QR c]) (v':=(.CW [])) [3] BJ (hb 142) (YB i) rfl (by decide) rfl AA (.pure BB .nil) rfl AA (.pure BB .nil) .nil AA AA (λk=>?_)));have p:List.length c=List.length a:=by simpa only[uZ] using k 0 _ _ rfl rfl rfl
 refine AR h (Ab λw l=>AK AA ?_);refine Ac (DY [(12,.own 3 0 (List.length c))] ⟨(.len (by first|(simp only[Sh.BE];done)|(simp only[Sh.BE];omega)|omega)),uM⟩) ?_;refine bs h0 λb n h0=>ZS (rows0:=[As c]) (rows1:=[VP b]) (st':=[SI p0.steps p0.result,⟨0,45,1,[[ow 3 0 a]]⟩,⟨1,3,1,[]⟩,VP b]) (v':=(ow 3 1 b)) [3] BJ (hb 143) (VO n) rfl (by decide) rfl AA (.pure BB .nil) rfl AA (.pure BB .nil) .nil AA AA (AK AA (AR l ?_));obtain rfl:=Sh.Av h0;exact BP (Exists.intro _ (And.intro (((Bf (L:=[(4,ow 0 1 b)]) (st':=[VP b]) [3] (.p .nil) ⟨.rfl,uM⟩).trans (CH (L:=[(4,ow 0 0 b)]) (st':=[As b]) (.pure BB .nil) ⟨.rfl,uM⟩)).trans (DY [(4,ow 0 0 b)] ⟨.rfl,uM⟩)) (And.intro AA AA)))
theorem Qb {N:Nat}{p0:(List Int)}{p1 r:Int}(h0:Iq N p0 p1=some r):BH 115 (Yd p0 p1) [] (i64 r) []:=by
 unfold Iq at h0;refine Bb Tryz.func115 AA (AS AA (AB λk f=>Ab λu g=>AK AA (Bd AA (AK AA (AR g ?_)))));obtain⟨h,a,h0⟩:=Sh.BG h0;have l:JJ h (.inr ()) ⟨19,AJ [],[]⟩ k:=by
  rintro⟨⟩ s m;refine f _ (AH m (AS AA ?_));cases h0;exact rt [(4,i64 (-1))]
 refine AI (LN (CJ p0 p1) (λe=>⟨19,AJ [(0,ls eI p0),(1,i64 p1),(7,i64 (Sh.len p0)),(8,i64 e)],[]⟩) N 0 a Ag ?_);intro n e a;rw[CJ]at a;refine AS AA (AB λy i=>?_);refine An a ?_ ?_<;>intro z a
 ·refine AG (i _ (AB λo b=>AI (AS AA (Ab λp c=>AM 3 AA (bs a λq d a=>DI Ay d AA (AM 2 AA (AR c ?_)))))));refine An a ?_ ?_<;>intro t a
  ·refine AS AA ?_;cases a;cases h0;exact rt [(4,i64 e)]
  ·exact AG (b _ (AE AA (AM 2 AA (AD (xi (Sh.w (e+1)) a Ag)))))
 ·exact Af (l a Ag)
theorem H9 {N:Nat}{p0:(List Int)}{p1:Int}{r:Bool}(h0:DE N p0 p1=some r):BH 61 (Yd p0 p1) [] (.bool r) []:=by
 unfold DE at h0;refine Bb Tryz.func61 AA (AS AA (Ab λd a=>AM 2 AA (bs h0 λc b h0=>CR (hb 115) (Qb b) rfl (AM 2 AA (AR a ?_)))));cases h0;exact rt [(4,.bool (decide (0<=c)))]
theorem P9 {p0:Int}{r:Bool}(h0:cmp_isNaN_int p0=some r):BH 217 [i64 p0] [] (.bool r) []:=by
 unfold cmp_isNaN_int at h0;refine Bb Tryz.func217 AA ?_;iterate 2 refine AS rfl ?_
 cases h0;exact rt [(2,.bool (!decide (p0=p0)))]
theorem Wz {p0 p1:Int}{r:Bool}(h0:cmp_Less_int p0 p1=some r):BH 156 [i64 p0,i64 p1] [] (.bool r) []:=by
 unfold cmp_Less_int at h0;refine Bb Tryz.func156 AA (AS AA (AB λj e=>bs h0 λi a h0=>?_));have f:∀{d},JJ i d ⟨17,AJ [(4,.bool d)],[]⟩ j:=by
  rintro _ ⟨⟩ s k;try dsimp only at h0
  refine e _ (AH k ?_);obtain rfl:=Sh.Av h0;exact rt [(4,.bool i)]
 refine AE AA (AK AA (bs a λm g a=>CR (hb 217) (P9 g) rfl (AK AA ?_)));rcases Sh.Aa a with ⟨b,a⟩|⟨b,a⟩
 ·refine Aj b AA (bs a λn h a=>Iy b (P9 h) rfl (Aj b AA (zt b AA (AK AA ?_))));rcases Sh.Aa a with ⟨c,a⟩|⟨c,a⟩
  ·exact zs c AA (zs c AA (zs c AA (zt c AA (AK AA (AD (f a Ag))))))
  ·exact Aj c AA (Aj c AA (Aj c AA (zf c AA (AK AA (AD (f a Ag))))))
 ·refine zs b AA (zs b AA (zs b AA (zf b AA (AK AA ?_))));iterate 3 refine Aj rfl rfl ?_
  exact zf AA AA (AK AA (AD (f a Ag)))
theorem OS {p0:Int}{r:Bool}(h0:Hn p0=some r):BH 157 [i64 p0] [] (.bool r) []:=by
 unfold Hn at h0;refine Bb Tryz.func157 AA ?_;iterate 2 refine AS rfl ?_
 cases h0;exact rt [(2,.bool (!decide (p0=p0)))]
end Go.Proofs.YtccficmcdkcpnaaGreat
