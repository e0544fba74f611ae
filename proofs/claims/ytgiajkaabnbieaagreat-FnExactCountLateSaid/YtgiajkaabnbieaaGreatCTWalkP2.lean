import Derived.Test.YtgiajkaabnbieaaGreatCTWalkP1
set_option linter.all false
namespace Go.Proofs.YtgiajkaabnbieaaGreat
open Go Go.Abs RC
attribute [local irreducible] Go.Abs.Di
set_option maxRecDepth 100000
set_option maxHeartbeats 4000000
theorem fw:X7 Tryz.prog 130 3=some .i64:=by kernel_rfl
theorem gH:X7 Tryz.prog 3 130=some .u64:=by kernel_rfl
theorem Kr:Cj Tryz.prog 101=some ⟨49,1,24,[.sl []]⟩:=by kernel_rfl
theorem Y1:Cj Tryz.prog 165=some ⟨50,1,24,[.sl []]⟩:=by kernel_rfl
theorem X1:Cj Tryz.prog 55=some ⟨3,1,8,[.int .i64 0]⟩:=by kernel_rfl
theorem kF:Program.underlying Tryz.prog 3=some (.int .i64):=by kernel_rfl
theorem Yk:CY Tryz.prog 101=true:=by kernel_rfl
theorem lV:CY Tryz.prog 55=true:=by kernel_rfl
theorem iO:DS Tryz.prog 4=some (false,1):=by kernel_rfl
theorem ly:H0 Tryz.prog 4=some [.bool false]:=by kernel_rfl
theorem Gv {p0:(List Ac)}{p1:Int}{r:Ac×Bool}(h0:Gs p0 p1=some r):AS Tryz.prog 102 (TY p0 p1) [] (λv st=>v=(LQ r.1 r.2)/\st=[]):=by
 unfold Gs at h0;refine FK AA (ai Tryz.func102 AA AA AA AA (sr AA λu f=>Al (m:=0) AR GY AA AA (zq tb AA (dn f AA (AD λw g=>AD λq h=>bs h0 λo c h0=>?_)))));have i:∀(j:Bool),o=j->∀s,Wk 0 s ⟨30,AN [(0,EG p0),(1,i64 p1),(4,Bm),(23,.bool j)],[V0]⟩->q s:=by
  intro j y s t;subst o;try dsimp only at h0
  refine h _ (AJ t ?_);refine ci h0 AA ?_ ?_<;>clear h0<;>intro z h0
  ·refine sr AA λA k=>zz (.agg [i64 0,i64 0,.zc]) (Fo jV jZ GY AA AA) rfl (Aq AR I9 AA AA AA AA AA AA qJ rfl (zq tb AA (dn k AA ?_)));obtain rfl:=Sh.AB h0;exact BG (Exists.intro _ (And.intro ((Ha (id:=0) (cs:=[i64 0,i64 0,.zc]) (cs':=jK) (st':=[⟨0,83,3,[jK]⟩]) rfl ⟨le.rfl,le.rfl,le.zc,mD⟩ AA AA).trans (Ao (L:=[(4,Bm),(5,.bool false)]) (.same AA))) (Ch (x:=.tmp 4) (off:=0) (cs:=jK) (vs:=jK) I9 AA AA AA qJ rfl _ AA)))
  ·refine AG (g _ (sr AA λB l=>zm tb 3 AA (bs h0 λp n h0=>zx Dl n AA AA AA (zq tb AA (Aq AR I9 AA AA AA AA AA AA qJ rfl (zq tb AA (dn l AA ?_)))))));obtain rfl:=Sh.AB h0;exact BG (Exists.intro _ (And.intro (Ao (L:=[(4,Bm),(5,.bool true)]) (.same AA)) (Ch (x:=.tmp 4) (off:=0) (cs:=(Am p)) (vs:=(Am p)) I9 AA AA AA qJ rfl _ AA)))
 refine AF AA (zm tb 3 AA ?_);rcases Sh.AU c with ⟨b,c⟩|⟨b,c⟩
 ·refine zs b AA ?_;iterate 3 refine zs b rfl ?_
  refine zt b AA (zq tb AA ?_);iterate 8 refine zs rfl rfl ?_
  exact zt AA AA (AE (i true (Sh.AB c).symm _ (AI AA)))
 ·refine zg tb b AA (zg tb b AA (Ap (v:=(Eu p0)) (BH AA AA b) rfl (Br TI AA) (zg tb b AA (zf b AA (zq tb AA ?_)))));rcases Sh.AU c with ⟨a,c⟩|⟨a,c⟩
  ·refine zs a AA ?_;iterate 7 refine zs a rfl ?_
   exact zt a AA (AE (i true (Sh.AB c).symm _ (AI AA)))
  ·exact zg tb a AA (zg tb a AA (zg tb a AA (bs c λd e c=>Ap (v:=(Sk d)) (BH AA AA a) rfl (Bc Dl AA AA e AA) (zg tb a AA (zg tb a AA (Ap (v:=(Zk d)) (BH AA AA a) rfl (Br RN AA) (zg tb a AA (zf a AA (AE (i (decide (0<(Sh.len d.cons))) (Sh.AB c).symm _ (AI AA)))))))))))
theorem Ob {p1:Int}{r:(List Int)}(h0:GR p1=some r):AS Tryz.prog 137 [.zc,i64 p1] [] (λv st=>v=(ow 0 0 r)/\st=[BQ r]):=by
 unfold GR at h0;refine ai Tryz.func137 AA AA AA AA (zr tb AA AA (AD λp f=>zr tb AA AA ?_));refine ci h0 AA ?_ ?_<;>clear h0<;>intro q h0
 ·refine AF AA ?_;cases h0
 ·refine AG (f _ (AD λn g=>bs h0 λk a h0=>?_));have l:∀(c:(List Int)),k=c->∀s,Wk 0 s ⟨27,AN [(0,ow 0 0 c)],[BQ c]⟩->n s:=by
   intro c w s o;subst k;try dsimp only at h0
   refine g _ (AJ o (zr tb AA AA ?_));obtain rfl:=Sh.AB h0;exact rt [(4,ow 0 0 c)]
  refine sr AA λx h=>zm tb 2 AA (Su F8 AA (zq tb AA (zz (i64 0) (Sr F8 AA) rfl (zm tb 3 AA (dn h AA (zr tb AA AA ?_))))));refine ci a AA ?_ ?_<;>clear a<;>intro i a
  ·refine AF AA (zm tb 2 AA (Su F8 AA (ca BD AA AA (zq tb AA (bs a λj d a=>aB (u:=0) (enc:=eI) (m:=0) (st':=[BQ j]) BD kF AA AA i AA d AA AA (zq tb AA (zz (i64 0) (Sr F8 AA) rfl (bs a λb e a=>cn AR BD AA AA AA AA e AA (zq tb AA ?_)))))))));exact AE (l b (Sh.AB a).symm _ (CJ (L:=[(0,ow 0 0 b)]) (st':=[BQ b]) (.pure (AK λ_=>AA) .nil) (.same AA)))
  ·exact AG (l [] (Sh.AB a).symm _ ((FG (t:=0) rfl 3 (size:=1) (by decide)).trans (Ao (L:=[(0,aR)]) (.same AA))))
theorem F7 {N:Nat}{p0:(List (List Int))}{r:(List Int)}(h0:Dc N p0=some r):AS Tryz.prog 100 [ls (eS eI) p0] [] (λv st=>v=(ow 0 0 r)/\st=[BQ r]):=by
 unfold Dc at h0;refine ai Tryz.func100 AA AA AA AA ?_;iterate 2 refine zr tb rfl rfl ?_
 refine AD λO C=>sr AA λK4 D=>zq tb AA (zl tb AA AA (zq tb AA (dn D AA (bs h0 λE a h0=>?_))));have P:∀(c:Int),E=c->∀s,Wk 0 s ⟨36,AN [(0,ls (eS eI) p0),(3,i64 c)],[]⟩->O s:=by
  intro c Q s F;subst E;try dsimp only at h0
  refine C _ (AJ F (sr AA λK9 G=>zq tb AA (bs h0 λi j h0=>BE (v':=(ow 0 0 i)) AR (hb 137) (Ob j) rfl AA ⟨(Ay λ_=>AA),mD⟩ AA AA (zq tb AA (dn G AA (AD λH k=>sr AA λR l=>zq tb AA (zl tb AA AA (zq tb AA ?_))))))));refine dn l AA (bs h0 λg a h0=>?_);have I:∀(d:(List Int)),g=d->∀s,Wk 0 s ⟨36,AN [(6,ow 0 0 d)],[BQ d]⟩->H s:=by
   intro d Q s F;subst g;try dsimp only at h0
   refine k _ (AJ F (zr tb AA AA ?_));obtain rfl:=Sh.AB h0;exact rt [(2,ow 0 0 d)]
  refine AL (Af (σ:=Int×(List Int)) (λn v=>CL p0 n v.1 v.2=some g) (λ(e,f)=>⟨36,AN [(6,ow 0 0 f),(25,ls (eS eI) p0),(26,i64 (Sh.len p0)),(27,i64 e)],[ro 0 3 1 eI f]⟩) N (0,i) a (AI AA) (λ_ m=>by rw[CL]at m;cases m) ?_);rintro n ⟨e,f⟩ a;try dsimp only at a⊢
  rw[CL]at a;refine zr tb AA AA (AD λS o=>?_);refine ci a AA ?_ ?_<;>clear a<;>intro T a
  ·refine AG (o _ (AD λU p=>AL (sr AA λV q=>bs a λJ t a=>zx Kr t AA AA AA (zm tb 2 AA (dn q AA (AF AA (zm tb 2 AA (bs a λh u a=>Cd (l2:=J) AR BD AA AA AA AA Nq (λ_=>AA) u AA ?_))))))));exact zq tb AA (dn p AA (AF AA (zm tb 2 AA (AE (xi (Sh.w (e+1),h) a (CJ (L:=[(6,ow 0 0 h),(25,ls (eS eI) p0),(26,Eu p0),(27,MO e)]) (st':=[BQ h]) (.pure (AK λ_=>AA) .nil) (.same AA)))))))
  ·exact Ah (I f (Sh.AB a).symm _ (AI AA))
 refine AL (Af (σ:=Int×Int) (λn v=>CM p0 n v.1 v.2=some E) (λ(b,K)=>⟨36,AN [(0,ls (eS eI) p0),(3,i64 b),(9,ls (eS eI) p0),(10,i64 (Sh.len p0)),(11,i64 K)],[]⟩) N (0,0) a (AI AA) (λ_ m=>by rw[CM]at m;cases m) ?_);rintro n ⟨b,K⟩ a;try dsimp only at a⊢
 rw[CM]at a;refine zr tb AA AA (AD λW x=>?_);refine ci a AA ?_ ?_<;>clear a<;>intro X a
 ·refine AG (x _ (AD λY y=>AL (sr AA λZ z=>bs a λM A a=>zx Kr A AA AA AA (zm tb 2 AA (dn z AA (sr AA λb0 B=>zm tb 2 AA (zl tb AA AA (zm tb 2 AA ?_))))))));refine dn B AA (zr tb AA AA ?_);refine ci a AA ?_ ?_<;>clear a<;>intro b1 a
  ·refine AF AA ?_;cases a
  ·exact AG (y _ (AF AA (zm tb 2 AA (AE (xi (Sh.w (b+(Sh.len M)),Sh.w (K+1)) a (AI AA))))))
 ·exact Ah (P b (Sh.AB a).symm _ (AI AA))
theorem Ir {N:Nat}{qh:Ag->(List Int)->Block->Option (Int)}(qz :∀{p0:Ag} {p1:(List Int)} {p2:Block} {r:Int},qh p0 p1 p2=some r->AS Tryz.prog 84 [NS p0,ls eI p1,DH p2] [] (λv st=>v=(i64 r)/\st=[])){p0:Ag}{p1:(List Int)}{p2:(List Block)}{p3:(List (List Int))}{r:Int×Bool}(h0:CF N qh p0 p1 p2 p3=some r):AS Tryz.prog 103 [NS p0,ls eI p1,ls Bq p2,ls (eS eI) p3] [] (λv st=>v=(Uj r.1 r.2)/\st=[]):=by
 unfold CF at h0;refine ai Tryz.func103 AA AA AA AA (sr AA λW B=>Aw (m:=0) AR AA AA AA AA AA (zm tb 2 AA (dn B AA (zr tb AA AA (AD λJ C=>sr AA λX D=>zq tb AA (zl tb AA AA (zq tb AA (dn D AA ?_))))))));obtain⟨E,b,h0⟩:=Sh.Av h0;have K:∀(ra:Int),E=Sum.inr ra->∀s,Wk 0 s ⟨45,AN [(10,i64 ra)],[]⟩->J s:=by
  intro ra M s F;subst E;try dsimp only at h0
  refine C _ (AJ F (zr tb AA AA ?_));obtain rfl:=Sh.AB h0;exact rt [(8,i64 ra),(9,.bool true)]
 refine AL (Af (σ:=Int×Int) (λn v=>Bo N p0 p1 p2 p3 qh n v.1 v.2=some E) (λ(rR,A)=>⟨45,AN [(1,ls eI p1),(3,ls (eS eI) p3),(4,.ptr 0 0 0 0),(10,i64 rR),(14,ls Bq p2),(15,i64 (Sh.len p2)),(16,i64 A)],[⟨0,45,2,[Bp p0]⟩]⟩) N (-1,0) b (AI AA) (λ_ I=>by rw[Bo]at I;cases I) ?_);rintro n ⟨rR,A⟩ b;try dsimp only at b⊢
 rw[Bo]at b;refine zr tb AA AA (AD λO h=>?_);refine ci b AA ?_ ?_<;>clear b<;>intro P b
 ·refine AG (h _ (AD λQ i=>AL (sr AA λR j=>zq tb AA (bs b λS k b=>zx JF k AA AA AA (zq tb AA (Al (m:=1) AR Hq AA AA (zq tb AA (Aq AR Ho AA AA AA AA AA AA qD rfl (dn j AA ?_)))))))));refine AD λT o=>?_;refine CC 10 (by kernel_rfl) (by kernel_rfl) (by rfl) ?_;iterate 4 refine yq tb rfl ?_
  refine bs b λG p b=>yx Kr p AA AA AA (yq tb AA ?_);refine XU (l:=[p1,G]) (enc:=(eS eI)) AR Kr (by decide) rfl AA AA AA AA (AK λ_=>AA) ?_;refine bs b λq t b=>?_;refine CI (v:=(ls eI q)) AR (hb 100) (AS.wk (F7 t) (by refine Wk.trans (Wk.CQ (L:=[(0,ls eI q)]) (st':=XH) (id:=0) rfl qM (AK λ_=>AA) ⟨.CQ AA,mD⟩ AA) ?_;exact Ab [] AA AA .nil (.same AA))) rfl AA AA ?_;refine yq tb AA (bs b λd u b=>CI (v:=(i64 d)) AR (hb 84) (qz u) rfl AA AA (BO (zq tb AA (dn o AA (AD λU x=>AD λH y=>bs b λz e b=>?_)))));have f:∀(g:Bool),z=g->∀s,Wk 0 s ⟨45,AN [(1,ls eI p1),(3,ls (eS eI) p3),(4,Bm),(13,i64 d),(14,ls Bq p2),(15,Eu p2),(16,i64 A),(41,.bool g)],[Nc p0]⟩->H s:=by
   intro g M s F;subst z;try dsimp only at b
   refine y _ (AJ F ?_);refine ci b AA ?_ ?_<;>clear b<;>intro V b
   ·refine zr tb AA AA ?_;obtain rfl:=Sh.AB b;try dsimp only[id]at h0
    obtain rfl:=Sh.AB h0;exact rd (eN [])
   ·exact AG (x _ (AF AA (zm tb 2 AA (dn i AA (AF AA (zm tb 2 AA (AE (xi (d,Sh.w (A+1)) b (AI AA)))))))))
  refine AF AA (zm tb 3 AA ?_);rcases Sh.AU e with ⟨a,e⟩|⟨a,e⟩
  ·refine zs a AA (zs a AA (zs a AA ?_));iterate 3 refine zn rfl ?_
   refine zs a AA (zt a AA ?_);exact AE (f true (Sh.AB e).symm _ (Ab [0] AA AA (.raw AA AA .nil) (.same AA)))
  ·refine zg tb a AA (zg tb a AA (zg tb a AA ?_));rcases Sh.AU e with ⟨c,e⟩|⟨c,e⟩
   ·refine zg tb c AA (zg tb c AA (zg tb c AA (Ap (v:=(.bool (!decide (d=rR)))) (BH AA AA a) rfl (Cc AA c AA) (zf a AA ?_))));exact AE (f (!decide (d=rR)) (Sh.AB e).symm _ (Ab [0] AA AA (.raw AA AA .nil) (.same AA)))
   ·refine zs c AA (zs c AA (zs c AA (Ap (v:=(.bool false)) (BH AA AA a) rfl (CO AA c AA) (zf a AA ?_))));exact AE (f false (Sh.AB e).symm _ (Ab [0] AA AA (.raw AA AA .nil) (.same AA)))
 ·exact Ah (K rR (Sh.AB b).symm _ (BF _ AA))
theorem Sa {N:Nat}{p0:(List Ac)}{r:Int}(h0:Jd N p0=some r):AS Tryz.prog 135 [EG p0] [] (λv st=>v=(i64 r)/\st=[]):=by
 unfold Jd at h0;refine ai Tryz.func135 AA AA AA AA ?_;iterate 2 refine zr tb rfl rfl ?_
 refine AD λl f=>sr AA λy g=>zq tb AA (zl tb AA AA (zq tb AA (dn g AA (bs h0 λh a h0=>?_))));have o:∀(n7:Int),h=n7->∀s,Wk 0 s ⟨19,AN [(3,i64 n7)],[]⟩->l s:=by
  intro n7 z s p;subst h;try dsimp only at h0
  refine f _ (AJ p (zr tb AA AA ?_));obtain rfl:=Sh.AB h0;exact rt [(2,i64 n7)]
 refine AL (Af (σ:=Int×Int) (λn v=>Ec p0 n v.1 v.2=some h) (λ(n5,i)=>⟨19,AN [(3,i64 n5),(6,ls Am p0),(7,i64 (Sh.len p0)),(8,i64 i)],[]⟩) N (0,0) a (AI AA) (λ_ k=>by rw[Ec]at k;cases k) ?_);rintro n ⟨n5,i⟩ a;try dsimp only at a⊢
 rw[Ec]at a;refine zr tb AA AA (AD λq b=>?_);refine ci a AA ?_ ?_<;>clear a<;>intro t a
 ·refine AG (b _ (AD λu c=>AL (sr AA λx d=>bs a λj e a=>zx Dl e AA AA AA (zq tb AA (Al (m:=0) AR GY AA AA (Aq AR I9 AA AA AA AA AA AA qJ rfl (dn d AA (AF AA (zm tb 3 AA ?_)))))))));exact zl tb AA AA (zm tb 2 AA (dn c AA (AF AA (zm tb 2 AA (AE (xi (Sh.w (n5+(Sh.len j.cons)),Sh.w (i+1)) a (BF _ AA)))))))
 ·exact Ah (o n5 (Sh.AB a).symm _ (AI AA))
theorem Uy {N:Nat}{p0:(List Ac)}{p1:Int}{r:(List Int)}(h0:Kx N p0 p1=some r):AS Tryz.prog 98 (TY p0 p1) [] (λv st=>v=(ow 0 0 r)/\st=[BQ r]):=by
 unfold Kx at h0;refine ai Tryz.func98 AA AA AA AA (zr tb AA AA (AD λT A=>AD λM B=>bs h0 λI b h0=>?_));have J:∀(C:Bool),I=C->∀s,Wk 0 s ⟨39,AN [(0,EG p0),(1,i64 p1),(15,.bool C)],[]⟩->M s:=by
  intro C O s D;subst I;try dsimp only at h0
  refine B _ (AJ D ?_);refine ci h0 AA ?_ ?_<;>clear h0<;>intro U h0
  ·refine zr tb AA AA ?_;obtain rfl:=Sh.AB h0;exact BG (Exists.intro _ (And.intro (((FG (t:=4) rfl 3 (size:=1) (by decide)).trans (Ao (L:=[(4,aR)]) (.same AA))).trans (Ao (L:=[(4,aR)]) (.same AA))) (And.intro AA AA)))
  ·refine AG (A _ (sr AA λV E=>zm tb 3 AA (bs h0 λW F h0=>X6 (i:=0) (j:=Sh.w (p1-1)) AR Dl AA AA AA (λ_=>AA) F (bs h0 λc o h0=>zc (hb 135) (Sa o) rfl AA AA (zq tb AA (dn E AA (zr tb AA AA (AD λG p=>sr AA λP q=>?_))))))));refine zm tb 3 AA (bs h0 λf u h0=>zx Dl u AA AA AA (zm tb 2 AA (zl tb AA AA (zq tb AA (dn q AA (bs h0 λh b h0=>?_))))));have H:∀(e:(List Int)),h=e->∀s,Wk 0 s ⟨39,AN [(6,ow 0 0 e)],[BQ e]⟩->G s:=by
    intro e O s D;subst h;try dsimp only at h0
    refine p _ (AJ D (zr tb AA AA ?_));obtain rfl:=Sh.AB h0;exact rt [(4,ow 0 0 e)]
   refine AL (Af (σ:=Int×(List Int)) (λn v=>FU f c n v.1 v.2=some h) (λ(d,g)=>⟨39,AN [(5,i64 c),(6,ow 0 0 g),(27,i64 (Sh.len f.cons)),(28,i64 d)],[ro 0 3 1 eI g]⟩) N (0,[]) b ((FG (t:=6) rfl 3 (size:=1) (by decide)).trans (Ao (L:=[(5,i64 c),(6,.own 0 0 (List.length ([]:List Int))),(27,i64 (Sh.len f.cons)),(28,i64 0)]) (.same AA))) (λ_ K=>by rw[FU]at K;cases K) ?_);rintro n ⟨d,g⟩ b;try dsimp only at b⊢
   rw[FU]at b;refine zr tb AA AA (AD λQ x=>?_);refine ci b AA ?_ ?_<;>clear b<;>intro R b
   ·refine AG (x _ (AD λS y=>AL (zr tb AA AA (AF AA (zm tb 4 AA ?_)))));refine CE (m:=1) (l:=[Sh.w (c+d)]) (enc:=eI) AR BD (by decide) rfl AA AA AA AA AA ?_;refine bs b λk z b=>Cd (l2:=[Sh.w (c+d)]) AR BD AA AA AA AA (H6 AA AA) (λ_=>AA) z AA (zq tb AA (dn y AA (AF AA (zm tb 2 AA ?_))));exact AE (xi (Sh.w (d+1),k) b (by refine Wk.trans (CJ (L:=[(5,i64 c),(6,ow 0 0 k),(27,Zk f),(28,MO d)]) (st':=[BQ k,ro 0 3 1 eI [Sh.w (c+d)]]) (.pure (AK λ_=>AA) (.pure (AK λ_=>AA) .nil)) (.same AA)) ?_;exact Ab [0] AA AA (.pure (AK λ_=>AA) .nil) (.same AA)))
   ·exact Ah (H g (Sh.AB b).symm _ (AI AA))
 refine AF AA (zm tb 3 AA ?_);rcases Sh.AU b with ⟨a,b⟩|⟨a,b⟩
 ·refine zs a AA ?_;iterate 3 refine zs a rfl ?_
  exact zt a AA (AE (J true (Sh.AB b).symm _ (AI AA)))
 ·exact zg tb a AA (zg tb a AA (Ap (v:=(Eu p0)) (BH AA AA a) rfl (Br TI AA) (zg tb a AA (zf a AA (AE (J (decide ((Sh.len p0)<p1)) (Sh.AB b).symm _ (AI AA)))))))
theorem QM {N:Nat}{p0:(List Ac)}{p1:Int}{r:Int×Bh}(h0:IS N p0 p1=some r):AS Tryz.prog 136 (TY p0 p1) [] (λv st=>v=(.DX [i64 r.1,.agg (Bv r.2)])/\st=[]):=by
 unfold IS at h0;refine FK AA (ai Tryz.func136 AA AA AA AA (sr AA λS y=>zq tb AA (Al (m:=0) AR OB AA AA (dn y AA (AD λH z=>sr AA λT A=>zq tb AA (zl tb AA AA (zq tb AA (dn A AA ?_))))))));obtain⟨B,b,h0⟩:=Sh.Av h0;have I:∀(_:Unit),B=Sum.inr ()->∀s,Wk 0 s ⟨38,AN [(5,Bm)],[⟨0,116,1,[[.zc]]⟩]⟩->H s:=by
  intro _ J s C;subst B;try dsimp only at h0
  refine z _ (AJ C (sr AA λU D=>zz (.agg [.zc]) (Fo fK eo OB AA AA) rfl (zq tb AA (Aq AR LY AA AA AA AA AA AA qK rfl (dn D AA ?_)))));obtain rfl:=Sh.AB h0;exact BG (Exists.intro _ (And.intro ((Ha (id:=0) (cs:=[.zc]) (cs':=[Yr]) (st':=[⟨0,116,1,[[Yr]]⟩]) rfl ⟨le.zc,mD⟩ AA AA).trans (Ao (L:=[(4,i64 (-1)),(5,Bm)]) (.same AA))) (Ch (x:=.tmp 5) (off:=0) (cs:=[Yr]) (vs:=[Yr]) LY AA AA AA qK rfl _ AA)))
 refine AL (Af (σ:=Int×Int) (λn v=>FL p0 n v.1 v.2=some B) (λ(g,d)=>⟨38,AN [(1,i64 g),(5,.ptr 0 0 0 0),(8,ls Am p0),(9,i64 (Sh.len p0)),(10,i64 d)],[⟨0,116,1,[[.zc]]⟩]⟩) N (p1,0) b (AI AA) (λ_ G=>by rw[FL]at G;cases G) ?_);rintro n ⟨g,d⟩ b;try dsimp only at b⊢
 rw[FL]at b;refine zr tb AA AA (AD λV E=>?_);refine ci b AA ?_ ?_<;>clear b<;>intro K b
 ·refine AG (E _ (AD λM h=>AL (sr AA λO i=>zq tb AA (bs b λc j b=>zx Dl j AA AA AA (zq tb AA (Al (m:=1) AR GY AA AA (zq tb AA (Aq AR I9 AA AA AA AA AA AA qJ rfl (dn i AA ?_)))))))));refine AD λP k=>AD λF l=>bs b λo p b=>?_;have q:∀(e:Bool),o=e->∀s,Wk 0 s ⟨38,AN [(1,i64 g),(5,Bm),(6,i64 d),(7,Dh),(8,EG p0),(9,Eu p0),(10,i64 d),(23,.bool e)],[⟨0,116,1,[[.zc]]⟩,T3 c]⟩->F s:=by
   intro e J s C;subst o;try dsimp only at b
   refine l _ (AJ C ?_);refine ci b AA ?_ ?_<;>clear b<;>intro Q b
   ·refine AD λR t=>?_;refine CC 8 (by kernel_rfl) (by kernel_rfl) (by rfl) ?_;iterate 5 refine yq tb rfl ?_
    refine bs b λf u b=>yx KV u AA AA AA ?_;iterate 2 refine yq tb rfl ?_
    refine BO (Aq AR LY AA AA AA AA AA AA qK rfl (dn t AA ?_));obtain rfl:=Sh.AB b;try dsimp only[id]at h0
    obtain rfl:=Sh.AB h0;exact BG (Exists.intro _ (And.intro ((Ab (L:=[(4,MO d),(5,Bm)]) (st':=[⟨0,116,1,[Bv f]⟩]) [0] AA AA (.raw AA AA .nil) ⟨.rfl,.rfl,mD⟩).trans (Ao (L:=[(4,MO d),(5,Bm)]) ⟨.rfl,.rfl,mD⟩)) (Ch (x:=.tmp 5) (off:=0) (cs:=(Bv f)) (vs:=(Bv f)) LY AA AA AA qK rfl _ AA)))
   ·refine AG (k _ (AF AA (zm tb 3 AA (zl tb AA AA (zm tb 2 AA (dn h AA (AF AA (zm tb 2 AA ?_))))))));exact AE (xi (Sh.w (g-(Sh.len c.cons)),Sh.w (d+1)) b (Ab [0] AA AA (.raw AA AA .nil) (.same AA)))
  refine AF AA (zm tb 3 AA ?_);rcases Sh.AU p with ⟨a,p⟩|⟨a,p⟩
  ·exact zg tb a AA (zg tb a AA (zg tb a AA (Ap (v:=(Zk c)) (BH AA AA a) rfl (Br RN AA) (zg tb a AA (zt a AA (AE (q (decide (g<(Sh.len c.cons))) (Sh.AB p).symm _ (AI AA))))))))
  ·refine zs a AA ?_;iterate 4 refine zs a rfl ?_
   exact zf a AA (AE (q false (Sh.AB p).symm _ (AI AA)))
 ·exact Ah (I () (Sh.AB b).symm _ (AI AA))
theorem Sc {N:Nat}{p0:(List Ac)}{p1:Int}{r:(List Int)}(h0:HF N p0 p1=some r):AS Tryz.prog 99 (TY p0 p1) [] (λv st=>v=(ls eI r)/\st=[]):=by
 unfold HF at h0;refine ai Tryz.func99 AA AA AA AA (zr tb AA AA (sr AA λd a=>zm tb 2 AA (bs h0 λb c h0=>zc (v':=(.DX [i64 b.1,.agg (Bv b.2)])) (hb 136) (QM c) rfl AA AA (zm tb 3 AA (Al (m:=0) AR OB AA AA (zq tb AA (Aq AR LY AA AA AA AA AA AA qK rfl (dn a AA (zr tb AA AA ?_)))))))));obtain rfl:=Sh.AB h0;exact rd [(4,Fs b.2.fields)]
theorem GL {N:Nat}{p0:Ag}{p1:Int}{r:(List (List Int))}(h0:CA N p0 p1=some r):AS Tryz.prog 54 [NS p0,i64 p1] [] (λv st=>v=(ow 0 0 r)/\st=[Qv r]):=by
 unfold CA at h0;refine ai Tryz.func54 AA AA AA AA (sr AA λJ q=>Aw (m:=0) AR AA AA AA AA AA (zq tb AA (dn q AA (zr tb AA AA (AD λC u=>sr AA λK x=>zm tb 3 AA (bs h0 λb y h0=>BE (v':=(ow 1 0 b)) AR (hb 98) (Uy y) rfl AA ⟨(Ay λ_=>AA),mD⟩ AA AA (zz (Eu b) (D0 F8 AA AA AA) rfl ?_)))))));refine zq tb AA (dn x AA (bs h0 λz a h0=>?_));have D:∀(f:(List (List Int))),z=f->∀s,Wk 0 s ⟨26,AN [(5,ow 0 0 f)],[Qv f]⟩->C s:=by
  intro f M s E;subst z;try dsimp only at h0
  refine u _ (AJ E (zr tb AA AA ?_));obtain rfl:=Sh.AB h0;exact rt [(4,ow 0 0 f)]
 refine AL (Af (σ:=Int×(List (List Int))) (λn v=>By N p0 b n v.1 v.2=some z) (λ(g,p)=>⟨26,AN [(2,.ptr 0 0 0 0),(5,ow 2 0 p),(11,ow 1 0 b),(12,i64 (Sh.len b)),(13,i64 g)],[⟨0,45,2,[Bp p0]⟩,ro 0 3 1 eI b,ro 0 49 1 (eS eI) p]⟩) N (0,[]) a ((FG (t:=5) rfl 49 (size:=1) (by decide)).trans (Ao (L:=[(2,.ptr 0 0 0 0),(5,.own 2 0 (List.length ([]:List (List Int)))),(11,ow 1 0 b),(12,i64 (Sh.len b)),(13,i64 0)]) (.same AA))) (λ_ B=>by rw[By]at B;cases B) ?_);rintro n ⟨g,p⟩ a;try dsimp only at a⊢
 rw[By]at a;refine zr tb AA AA (AD λF h=>?_);refine ci a AA ?_ ?_<;>clear a<;>intro G a
 ·refine AG (h _ (AD λH i=>AL (sr AA λI j=>bs a λA c a=>zz (.ptr 1 0 (Int.toNat g) 0) (Cb BD AA AA AA AA c) rfl (zz (i64 A) (DQ Ie AA AA (Ed c) rfl) rfl (zq tb AA (dn j AA (AF AA (zm tb 4 AA (bs a λd k a=>?_)))))))));refine zc (hb 99) (Sc k) rfl AA AA ?_;refine CE (m:=3) (l:=[d]) (enc:=(eS eI)) AR Kr (by decide) rfl AA AA AA AA AA ?_;refine bs a λe o a=>Cd (l2:=[d]) AR Kr AA AA AA AA (H6 AA AA) (λ_=>AA) o AA (zq tb AA (dn i AA (AF AA (zm tb 2 AA ?_))));exact AE (xi (Sh.w (g+1),e) a (by refine Wk.trans (CJ (L:=[(2,Bm),(5,ow 2 0 e),(11,ow 1 0 b),(12,Eu b),(13,MO g)]) (st':=[Nc p0,BQ b,Qv e,ro 0 49 1 (eS eI) [d]]) (.raw AA AA (.pure (AK λ_=>AA) (.pure (AK λ_=>AA) (.pure (AK λ_=>AA) .nil)))) (.same AA)) ?_;exact Ab [0,1,2] AA AA (.raw AA AA (.pure (AK λ_=>AA) (.pure (AK λ_=>AA) .nil))) (.same AA)))
 ·exact Ah (D p (Sh.AB a).symm _ (Ab [2] AA AA (.pure (AK λ_=>AA) .nil) (.same AA)))
theorem GG {N:Nat}{p0:(List Int)}{p1:(List Int)}{r:Bool}(h0:Cw N p0 p1=some r):AS Tryz.prog 139 [ls eI p0,ls eI p1] [] (λv st=>v=(.bool r)/\st=[]):=by
 unfold Cw at h0;refine ai Tryz.func139 AA AA AA AA (zr tb AA AA (AD λF l=>sr AA λG m=>zq tb AA (zl tb AA AA (zq tb AA (zl tb AA AA (zq tb AA (dn m AA ?_)))))));refine ci h0 AA ?_ ?_<;>clear h0<;>intro t h0
 ·have H:decide ((Sh.len p0)=(Sh.len p1))=false:=by simpa using t
  refine zr tb AA AA ?_;obtain rfl:=Sh.AB h0;exact rt [(4,.bool false)]
 ·have I:decide ((Sh.len p0)=(Sh.len p1))=true:=by simpa using t
  refine AG (l _ (AD λx o=>sr AA λJ p=>zq tb AA (zl tb AA AA (zq tb AA (dn p AA ?_)))));obtain⟨b,a,h0⟩:=Sh.Av h0;have q:∀(_:Unit),b=Sum.inr ()->∀s,Wk 0 s ⟨26,AN [],[]⟩->x s:=by
   intro _ K s y;subst b;try dsimp only at h0
   refine o _ (AJ y (zr tb AA AA ?_));obtain rfl:=Sh.AB h0;exact rt [(4,.bool true)]
  refine AL (Af (σ:=Int) (λn v=>Ck p0 p1 n v=some b) (λc=>⟨26,AN [(0,ls eI p0),(1,ls eI p1),(12,i64 (Sh.len p0)),(13,i64 c)],[]⟩) N 0 a (AI AA) (λ_ u=>by rw[Ck]at u;cases u) ?_);rintro n c a;try dsimp only at a⊢
  rw[Ck]at a;refine zr tb AA AA (AD λz d=>?_);refine ci a AA ?_ ?_<;>clear a<;>intro A a
  ·refine AG (d _ (AD λB e=>AL (zr tb AA AA (AD λC f=>?_))));refine CT (by kernel_rfl) (by kernel_rfl) (by rfl) ?_;iterate 2 refine yq tb rfl ?_
   refine bs a λg h a=>yx BD h AA AA AA ?_;iterate 3 refine yq tb rfl ?_
   refine bs a λi j a=>yx BD j AA AA AA ?_;iterate 2 refine yq tb rfl ?_
   refine BO (f _ ?_);refine ci a AA ?_ ?_<;>clear a<;>intro k a
   ·have D:decide (g=i)=false:=by simpa using k
    refine zr tb AA AA ?_;obtain rfl:=Sh.AB a;try dsimp only[id]at h0
    obtain rfl:=Sh.AB h0;exact rt [(4,.bool false)]
   ·have E:decide (g=i)=true:=by simpa using k
    exact AG (e _ (AF AA (zm tb 2 AA (AE (xi (Sh.w (c+1)) a (AI AA))))))
  ·exact Ah (q () (Sh.AB a).symm _ (AI AA))
theorem T6 {N:Nat}{p0:(List Ac)}{p1 p2 r:Int}(h0:J0 N p0 p1 p2=some r):AS Tryz.prog 140 [EG p0,i64 p1,i64 p2] [] (λv st=>v=(i64 r)/\st=[]):=by
 unfold J0 at h0;refine ai Tryz.func140 AA AA AA AA (zr tb AA AA (AD λA o=>sr AA λG p=>zq tb AA (zl tb AA AA (zq tb AA (dn p AA ?_)))));obtain⟨q,a,h0⟩:=Sh.Av h0;have B:∀(_:Unit),q=Sum.inr ()->∀s,Wk 0 s ⟨35,AN [],[]⟩->A s:=by
  intro _ C s t;subst q;try dsimp only at h0
  refine o _ (AJ t (zr tb AA AA ?_));obtain rfl:=Sh.AB h0;exact rt [(6,i64 (-1))]
 refine AL (Af (σ:=Int) (λn v=>Ez p0 p1 p2 n v=some q) (λg=>⟨35,AN [(1,i64 p1),(2,i64 p2),(9,ls Am p0),(10,i64 (Sh.len p0)),(11,i64 g)],[]⟩) N 0 a (AI AA) (λ_ z=>by rw[Ez]at z;cases z) ?_);rintro n g a;try dsimp only at a⊢
 rw[Ez]at a;refine zr tb AA AA (AD λH u=>?_);refine ci a AA ?_ ?_<;>clear a<;>intro I a
 ·refine AG (u _ (AD λD h=>AL (sr AA λE i=>zq tb AA (bs a λx j a=>zx Dl j AA AA AA (zq tb AA (Al (m:=0) AR GY AA AA (zq tb AA (Aq AR I9 AA AA AA AA AA AA qJ rfl (dn i AA ?_)))))))));refine AD λy k=>bs a λl d a=>?_;have e:∀(f:Bool),l=f->∀s,Wk 0 s ⟨35,AN [(1,i64 p1),(2,i64 p2),(7,i64 g),(9,EG p0),(10,Eu p0),(11,i64 g),(31,.bool f)],[]⟩->y s:=by
   intro f C s t;subst l;try dsimp only at a
   refine k _ (AJ t ?_);refine ci a AA ?_ ?_<;>clear a<;>intro F a
   ·refine zr tb AA AA ?_;obtain rfl:=Sh.AB a;try dsimp only[id]at h0
    obtain rfl:=Sh.AB h0;exact rt [(6,MO g)]
   ·exact AG (h _ (AF AA (zm tb 2 AA (AE (xi (Sh.w (g+1)) a (AI AA))))))
  refine AF AA (zm tb 2 AA (zl tb AA AA (zm tb 2 AA ?_)));rcases Sh.AU d with ⟨b,d⟩|⟨b,d⟩
  ·refine zg tb b AA ?_;iterate 3 refine zg tb b rfl ?_
   refine zt b AA (zq tb AA ?_);rcases Sh.AU d with ⟨c,d⟩|⟨c,d⟩
   ·refine zg tb c AA ?_;iterate 3 refine zg tb c rfl ?_
    exact zt c AA (AE (e (decide (x.to=p2)) (Sh.AB d).symm _ (BF _ AA)))
   ·refine zs c AA ?_;iterate 3 refine zs c rfl ?_
    exact zf c AA (AE (e false (Sh.AB d).symm _ (BF _ AA)))
  ·refine zs b AA ?_;iterate 3 refine zs b rfl ?_
   refine zf b AA (zq tb AA ?_);iterate 4 refine zs rfl rfl ?_
   exact zf AA AA (AE (e false (Sh.AB d).symm _ (BF _ AA)))
 ·exact Ah (B () (Sh.AB a).symm _ (AI AA))
theorem IJ {N:Nat}{p0:Ag}{p1 p2:Int}{p3:(List Int)}{r:Int×Bool}(h0:Ai N p0 p1 p2 p3=some r):AS Tryz.prog 104 [.agg (Bp p0),i64 p1,i64 p2,ls eI p3] [] (λv st=>v=(.DX [i64 r.1,.bool r.2])/\st=[]):=by
 unfold Ai at h0;refine ai Tryz.func104 AA AA AA AA (sr AA λK1 h5=>Aw (m:=0) AR AA AA AA AA AA (zm tb 2 AA (dn h5 AA (zr tb AA AA (AD λK3 h6=>?_)))));obtain⟨o5,b,h0⟩:=Sh.Av h0;have M5:∀(Y:(List Int)),o5=Sum.inr Y->∀s,Wk 0 s ⟨149,AN (Og p2 p3 [(10,ow 0 0 Y),(11,i64 0)]),[BQ Y]⟩->K3 s:=by
  intro Y hq s A;subst o5;try dsimp only at h0
  refine h6 _ (AJ A (AD λK6 h7=>bs h0 λo8 b h0=>?_));have M8:∀(t7:Bool),o8=t7->∀s,Wk 0 s ⟨149,AN [(8,i64 0),(9,.bool t7)],[]⟩->K6 s:=by
   intro t7 hq s A;subst o8;try dsimp only at h0
   refine h7 _ (AJ A ?_);obtain rfl:=Sh.AB h0;exact rt [(8,i64 0),(9,.bool t7)]
  refine AF AA (zm tb 4 AA ?_);rcases Sh.AU b with ⟨G,b⟩|⟨G,b⟩
  ·exact zg tb G AA (zg tb G AA (Aa (Wk.CQ (L:=[(141,i64 0),(144,.bool (decide (p2=0))),(145,ls eI p3),(146,ls eI Y)]) (st':=XH) (id:=0) rfl qM (AK λ_=>AA) ⟨.rfl,.rfl,.rfl,.CQ AA,mD⟩ AA) (bs b λh8 Z b=>zd G (hb 139) (GG Z) rfl AA AA AA (zt G AA (zm tb 2 AA (AE (M8 h8 (Sh.AB b).symm _ (BF _ AA))))))))
  ·exact zs G AA (zs G AA (zs G AA (zf G AA (zm tb 2 AA (AE (M8 false (Sh.AB b).symm _ (BF _ AA)))))))
 refine zr tb AA AA (AL (zr tb AA AA ?_));refine ci b AA ?_ ?_<;>clear b<;>intro l5 b
 ·refine AD λh9 b0=>bs b λb1 c b=>?_;have R:∀(H:Bool),b1=H->∀s,Wk 0 s ⟨149,AN [(8,i64 0),(9,.bool H)],[]⟩->h9 s:=by
   intro H hq s A;subst b1;try dsimp only at b
   refine b0 _ (AJ A ?_);obtain rfl:=Sh.AB b;try dsimp only[id]at h0
   obtain rfl:=Sh.AB h0;exact rt [(8,i64 0),(9,.bool H)]
  refine AF AA (zm tb 3 AA ?_);rcases Sh.AU c with ⟨D,c⟩|⟨D,c⟩
  ·refine zg tb D AA (zg tb D AA (zt D AA (zq tb AA ?_)));rcases Sh.AU c with ⟨x,c⟩|⟨x,c⟩
   ·exact zg tb x AA (Ap (v:=(Eu p3)) (BH AA AA x) rfl (Br F8 AA) (zg tb x AA (zt x AA (zm tb 2 AA (AE (R (decide ((Sh.len p3)=0)) (Sh.AB c).symm _ (BF _ AA)))))))
   ·exact zs x AA (zs x AA (zs x AA (zf x AA (zm tb 2 AA (AE (R false (Sh.AB c).symm _ (BF _ AA)))))))
  ·refine zs D AA (zs D AA (zf D AA (zq tb AA ?_)));iterate 3 refine zs rfl rfl ?_
   exact zf AA AA (zm tb 2 AA (AE (R false (Sh.AB c).symm _ (BF _ AA))))
 ·refine AD λk0 b2=>bs b λb3 c b=>?_;have I:∀(S:Bool),b3=S->∀s,Wk 0 s ⟨149,AN ((1,i64 p1)::Og p2 p3 [(4,Bm),(11,i64 0),(18,i64 p1),(32,.bool S)]),[Nc p0]⟩->k0 s:=by
   intro S hq s A;subst b3;try dsimp only at b
   refine b2 _ (AJ A ?_);refine ci b AA ?_ ?_<;>clear b<;>intro l6 b
   ·refine AF AA ?_;refine CE (m:=1) (l:=[(0:Int),0]) (enc:=eI) AR BD (by decide) rfl AA AA AA AA AA ?_;refine zq tb AA ?_;exact AE (M5 [(0:Int),0] (Sh.AB b).symm _ (Ab [1] AA AA (.pure (AK λ_=>AA) .nil) (.same AA)))
   ·refine zr tb AA AA ?_;refine ci b AA ?_ ?_<;>clear b<;>intro l7 b
    ·refine AF AA ?_;refine CE (m:=1) (l:=[(0:Int)]) (enc:=eI) AR BD (by decide) rfl AA AA AA AA AA ?_;refine zq tb AA ?_;exact AE (M5 [(0:Int)] (Sh.AB b).symm _ (Ab [1] AA AA (.pure (AK λ_=>AA) .nil) (.same AA)))
    ·refine zr tb AA AA ?_;refine ci b AA ?_ ?_<;>clear b<;>intro l8 b
     ·refine AD λl9 b4=>sr AA λm0 b5=>zq tb AA (zl tb AA AA (zq tb AA (dn b5 AA ?_)));refine ci b AA ?_ ?_<;>clear b<;>intro b6 b
      ·have m1:decide ((Sh.len p3)=2)=false:=by simpa using b6
       refine zr tb AA AA ?_;obtain rfl:=Sh.AB b;try dsimp only[id]at h0
       obtain rfl:=Sh.AB h0;exact rd (eN [])
      ·have m2:decide ((Sh.len p3)=2)=true:=by simpa using b6
       refine AG (b4 _ (AD λm3 b7=>?_));refine IT (by kernel_rfl) ?_;refine bs b λT b8 b=>bs b λd P b=>LV λwP a=>?_;have f:wP 0 (bm 12 4095) ⟨149,AN (Og p2 p3 [(12,Bm),(13,.bool d.2)]),[T3 d.1]⟩:=(a _ _ _).2 (by
        refine GD AA (by kernel_rfl) ?_;refine b7 _ (AD λk1 c0=>bs b λc1 c b=>?_);have U:∀(J:Bool),c1=J->∀s,Wk 0 s ⟨149,AN [(8,i64 d.1.to),(9,.bool J)],[]⟩->k1 s:=by
         intro J hq s A;subst c1;try dsimp only at b
         refine c0 _ (AJ A ?_);obtain rfl:=Sh.AB b;try dsimp only[id]at h0
         obtain rfl:=Sh.AB h0;exact rt [(8,i64 d.1.to),(9,.bool J)]
        refine CT (by kernel_rfl) (by kernel_rfl) (by rfl) ?_;iterate 4 refine yq tb rfl ?_
        rcases Sh.AU c with ⟨B,c⟩|⟨B,c⟩
        ·refine yg tb B AA (bs c λk2 c2 c=>IP (v:=(Jq k2)) (BH AA AA B) rfl (Bc BD AA AA c2 AA) ?_);iterate 4 refine yg tb B rfl ?_
         refine yt B AA (yq tb AA ?_);rcases Sh.AU c with ⟨E,c⟩|⟨E,c⟩
         ·refine yg tb E AA (yg tb E AA (yt E AA ?_));iterate 2 refine yq tb rfl ?_
          exact BO (U (decide (p2=0)) (Sh.AB c).symm _ (BF _ AA))
         ·refine ys E AA (ys E AA (yf E AA ?_));iterate 2 refine yq tb rfl ?_
          exact BO (U false (Sh.AB c).symm _ (BF _ AA))
        ·refine ys B AA ?_;iterate 5 refine ys B rfl ?_
         refine yf B AA (yq tb AA ?_);iterate 2 refine ys rfl rfl ?_
         refine yf AA AA ?_;iterate 2 refine yq tb rfl ?_
         exact BO (U false (Sh.AB c).symm _ (by exact Ab [] AA AA .nil (.same AA))))
       have e:wP 2 (bm 12 1023) ⟨149,AN (Og p2 p3 [(12,Bm),(53,OJ d.1),(54,.bool d.2)]),[V0]⟩:=(a _ _ _).2 (by
        refine xa [10] ⟨?_,mD⟩
        ·refine xo 10 ?_;refine Aq AR I9 AA AA AA AA AA AA qJ rfl (AE ⟨AA,?_⟩);refine BU tb 11 AA (by kernel_rfl) rfl ?_;exact xt a f)
       have g:wP 3 (bm 12 511) ⟨149,AN (Og p2 p3 [(53,OJ d.1),(54,.bool d.2)]),[]⟩:=(a _ _ _).2 (by
        refine xa [9] ⟨?_,mD⟩
        ·refine xo 9 ?_;exact Al (m:=0) AR GY AA AA (xd a e))
       have o:wP 2 (bm 12 1791) ⟨149,AN (Og p2 p3 [(12,Bm),(46,LQ d.1 d.2)]),[T3 d.1]⟩:=(a _ _ _).2 (by
        refine xa [8] ⟨?_,mD⟩
        ·refine xo 8 ?_;refine zq tb AA (AE ⟨AA,?_⟩);refine BU tb 11 AA (by kernel_rfl) rfl ?_;exact xt a f)
       have h:wP 3 (bm 12 767) ⟨149,AN (Og p2 p3 [(12,Bm),(46,LQ d.1 d.2),(53,OJ d.1)]),[V0]⟩:=(a _ _ _).2 (by
        refine xa [8,10] ⟨?_,?_,mD⟩
        ·exact xq tb a e
        ·refine xo 10 ?_;exact Aq AR I9 AA AA AA AA AA AA qJ rfl (xd a o))
       have p:wP 4 (bm 12 255) ⟨149,AN (Og p2 p3 [(46,LQ d.1 d.2),(53,OJ d.1)]),[]⟩:=(a _ _ _).2 (by
        refine xa [8,9] ⟨?_,?_,mD⟩
        ·exact xq tb a g
        ·refine xo 9 ?_;exact Al (m:=0) AR GY AA AA (xd a h))
       have k:wP 3 (bm 12 895) ⟨149,AN (Og p2 p3 [(12,Bm),(46,LQ d.1 d.2),(54,.bool d.2)]),[V0]⟩:=(a _ _ _).2 (by
        refine xa [7] ⟨?_,mD⟩
        ·exact xq tb a e)
       have q:wP 4 (bm 12 383) ⟨149,AN (Og p2 p3 [(46,LQ d.1 d.2),(54,.bool d.2)]),[]⟩:=(a _ _ _).2 (by
        refine xa [7,9] ⟨?_,?_,mD⟩
        ·exact xq tb a g
        ·refine xo 9 ?_;exact Al (m:=0) AR GY AA AA (xd a k))
       have n:wP 4 (bm 12 639) ⟨149,AN (Og p2 p3 [(12,Bm),(46,LQ d.1 d.2)]),[V0]⟩:=(a _ _ _).2 (by
        refine xa [7,8] ⟨?_,?_,mD⟩
        ·exact xq tb a h
        ·exact xq tb a k)
       have y:wP 5 (bm 12 127) ⟨149,AN (Og p2 p3 [(46,LQ d.1 d.2)]),[]⟩:=(a _ _ _).2 (by
        refine xa [7,8,9] ⟨?_,?_,?_,mD⟩
        ·exact xq tb a p
        ·exact xq tb a q
        ·refine xo 9 ?_;exact Al (m:=0) AR GY AA AA (xd a n))
       have C:wP 6 (bm 12 543) ⟨149,AN (Og p2 p3 [(12,Bm),(48,EG p0.decls),(51,i64 T)]),[V0]⟩:=(a _ _ _).2 (by
        refine xa [5] ⟨?_,mD⟩
        ·refine xo 5 ?_;refine zc (v':=(LQ d.1 d.2)) (hb 102) (Gv P) rfl AA AA (AE ⟨AA,?_⟩);refine BU tb 6 AA (by kernel_rfl) rfl ?_;exact xt a n)
       have F:wP 7 (bm 12 31) ⟨149,AN (Og p2 p3 [(48,EG p0.decls),(51,i64 T)]),[]⟩:=(a _ _ _).2 (by
        refine xa [5,9] ⟨?_,?_,mD⟩
        ·refine xo 5 ?_;refine zc (v':=(LQ d.1 d.2)) (hb 102) (Gv P) rfl AA AA (AE ⟨AA,?_⟩);refine BU tb 6 AA (by kernel_rfl) rfl ?_;exact xt a y
        ·refine xo 9 ?_;exact Al (m:=0) AR GY AA AA (xd a C))
       refine (a _ _ _).2 ?_;refine BU tb 0 AA (by kernel_rfl) rfl ?_;refine BU tb 1 AA (by kernel_rfl) rfl ?_;refine BU tb 2 AA (by kernel_rfl) rfl ?_;refine G9 3 (v:=(Jq T)) rfl (by kernel_rfl) (by kernel_rfl) (Bc BD AA AA b8 AA) ?_;refine BU tb 4 AA (by kernel_rfl) rfl ?_;exact xw a F (by exact Ab [] AA AA .nil (.same AA))
     ·refine zr tb AA AA ?_;refine ci b AA ?_ ?_<;>clear b<;>intro m4 b
      ·refine sr AA λm5 c3=>zm tb 3 AA (bs b λK c4 b=>zc (v':=(.DX [i64 K.1,.agg (Bv K.2)])) (hb 136) (QM c4) rfl AA AA (zm tb 3 AA (Al (m:=1) AR OB AA AA (zq tb AA (Aq AR LY AA AA AA AA AA AA qK rfl (dn c3 AA (AD λk3 c5=>bs b λc6 c b=>?_)))))));have c7:∀(M:Bool),c6=M->∀s,Wk 0 s ⟨149,AN [(8,i64 K.1),(9,.bool M)],[]⟩->k3 s:=by
        intro M hq s A;subst c6;try dsimp only at b
        refine c5 _ (AJ A ?_);obtain rfl:=Sh.AB b;try dsimp only[id]at h0
        obtain rfl:=Sh.AB h0;exact rt [(8,i64 K.1),(9,.bool M)]
       refine AF AA (zm tb 4 AA ?_);rcases Sh.AU c with ⟨z,c⟩|⟨z,c⟩
       ·exact zg tb z AA (zg tb z AA (zg tb z AA (bs c λk4 c8 c=>zd z (hb 139) (GG c8) rfl AA AA AA (zt z AA (zm tb 2 AA (AE (c7 k4 (Sh.AB c).symm _ (BF _ AA))))))))
       ·refine zs z AA ?_;iterate 3 refine zs z rfl ?_
        exact zf z AA (zm tb 2 AA (AE (c7 false (Sh.AB c).symm _ (BF _ AA))))
      ·refine AD λk5 c9=>bs b λd1 c b=>?_;have d2:∀(V:Bool),d1=V->∀s,Wk 0 s ⟨149,AN ((1,i64 p1)::Og p2 p3 [(4,Bm),(88,.bool V)]),[Nc p0]⟩->k5 s:=by
        intro V hq s A;subst d1;try dsimp only at b
        refine c9 _ (AJ A ?_);refine ci b AA ?_ ?_<;>clear b<;>intro m6 b
        ·refine AD λm7 d3=>AD λk6 d4=>bs b λd5 c b=>?_;have d6:∀(W:Bool),d5=W->∀s,Wk 0 s ⟨149,AN ((1,i64 p1)::Og p2 p3 [(4,Bm),(99,.bool W)]),[Nc p0]⟩->k6 s:=by
          intro W hq s A;subst d5;try dsimp only at b
          refine d4 _ (AJ A ?_);refine ci b AA ?_ ?_<;>clear b<;>intro m8 b
          ·refine zr tb AA AA ?_;obtain rfl:=Sh.AB b;try dsimp only[id]at h0
           obtain rfl:=Sh.AB h0;exact rd (eN [])
          ·refine AG (d3 _ (AD λm9 d7=>?_));refine CT (by kernel_rfl) (by kernel_rfl) (by rfl) ?_;iterate 3 refine yq tb rfl ?_
           refine bs b λd8 Q b=>yx RL Q AA AA AA ?_;iterate 5 refine yq tb rfl ?_
           refine yx RL Q AA AA AA ?_;iterate 4 refine yq tb rfl ?_
           refine BO (d7 _ (AD λq0 d9=>zr tb AA AA ?_));refine ci b AA ?_ ?_<;>clear b<;>intro q1 b
           ·refine sr AA λq2 g0=>zm tb 3 AA (bs b λk7 g1 b=>zc (hb 139) (GG g1) rfl AA AA (zm tb 2 AA (dn g0 AA ?_)));obtain rfl:=Sh.AB b;try dsimp only[id]at h0
            obtain rfl:=Sh.AB h0;exact rd [(8,i64 d8.result),(9,.bool k7)]
           ·refine AG (d9 _ (sr AA λq3 g2=>zq tb AA (zl tb AA AA (zm tb 2 AA (dn g2 AA (AD λq4 g3=>zr tb AA AA ?_))))));refine ci b AA ?_ ?_<;>clear b<;>intro q5 b
            ·refine zr tb AA AA ?_;obtain rfl:=Sh.AB b;try dsimp only[id]at h0
             obtain rfl:=Sh.AB h0;exact rd (eN [])
            ·refine AG (g3 _ (AD λq6 g4=>?_));refine CT (by kernel_rfl) (by kernel_rfl) (by rfl) ?_;iterate 4 refine yq tb rfl ?_
             refine bs b λq7 g5 b=>yx BD g5 AA AA AA ?_;iterate 2 refine yq tb rfl ?_
             refine bs b λX g6 b=>CI (v:=(i64 X)) AR (hb 140) (T6 g6) rfl AA AA (yq tb AA (BO (g4 _ (AD λk8 g7=>bs b λg8 c b=>?_))));have g9:∀(O:Bool),g8=O->∀s,Wk 0 s ⟨149,AN [(8,i64 X),(9,.bool O)],[]⟩->k8 s:=by
              intro O hq s A;subst g8;try dsimp only at b
              refine g7 _ (AJ A ?_);obtain rfl:=Sh.AB b;try dsimp only[id]at h0
              obtain rfl:=Sh.AB h0;exact rt [(8,i64 X),(9,.bool O)]
             refine AF AA (zm tb 4 AA ?_);rcases Sh.AU c with ⟨t,c⟩|⟨t,c⟩
             ·exact zg tb t AA (zg tb t AA (zg tb t AA (bs c λq8 h3 c=>X6 (i:=0) (j:=Sh.w ((Sh.len d8.params)-1)) (BH AA AA t) BD AA AA AA (λ_=>AA) h3 (bs c λk9 h4 c=>zd t (hb 139) (GG h4) rfl AA AA AA (zt t AA (zm tb 2 AA (AE (g9 k9 (Sh.AB c).symm _ (BF _ AA)))))))))
             ·refine zs t AA ?_;iterate 4 refine zs t rfl ?_
              exact zf t AA (zm tb 2 AA (AE (g9 false (Sh.AB c).symm _ (BF _ AA))))
         refine AF AA (zm tb 3 AA ?_);rcases Sh.AU c with ⟨u,c⟩|⟨u,c⟩
         ·refine zs u AA ?_;iterate 4 refine zs u rfl ?_
          exact zt u AA (AE (d6 true (Sh.AB c).symm _ (AI AA)))
         ·exact zg tb u AA (zg tb u AA (zg tb u AA (Ap (v:=(i64 (Sh.len p0.funcs))) (BH AA AA u) rfl (Br Za AA) (zg tb u AA (zf u AA (AE (d6 (decide ((Sh.len p0.funcs)<=p2)) (Sh.AB c).symm _ (AI AA))))))))
        ·refine zr tb AA AA ?_;obtain rfl:=Sh.AB b;try dsimp only[id]at h0
         obtain rfl:=Sh.AB h0;exact rd (eN [])
       refine zr tb AA AA ?_;refine ci c AA ?_ ?_<;>clear c<;>intro l0 c
       ·exact AG (d2 true (Sh.AB c).symm _ (Ao (L:=((1,i64 p1)::Og p2 p3 [(4,Bm),(88,.bool true)])) ⟨.rfl,.rfl,.rfl,.rfl,.of (mr AV.bool l0),mD⟩))
       ·exact AF AA (zm tb 2 AA (AE (d2 (decide (p1=10)) (Sh.AB c).symm _ (AI AA))))
  refine zr tb AA AA ?_;refine ci c AA ?_ ?_<;>clear c<;>intro l1 c
  ·exact AG (I true (Sh.AB c).symm _ (Ao (L:=((1,i64 p1)::Og p2 p3 [(4,Bm),(11,i64 0),(18,i64 p1),(32,.bool true)])) ⟨.rfl,.rfl,.rfl,.rfl,.rfl,.rfl,.of (mr AV.bool l1),mD⟩))
  ·refine zr tb AA AA ?_;refine ci c AA ?_ ?_<;>clear c<;>intro l2 c
   ·exact AG (I true (Sh.AB c).symm _ (Ao (L:=((1,i64 p1)::Og p2 p3 [(4,Bm),(11,i64 0),(18,i64 p1),(32,.bool true)])) ⟨.rfl,.rfl,.rfl,.rfl,.rfl,.rfl,.of (mr AV.bool l2),mD⟩))
   ·refine zr tb AA AA ?_;refine ci c AA ?_ ?_<;>clear c<;>intro l3 c
    ·exact AG (I true (Sh.AB c).symm _ (Ao (L:=((1,i64 p1)::Og p2 p3 [(4,Bm),(11,i64 0),(18,i64 p1),(32,.bool true)])) ⟨.rfl,.rfl,.rfl,.rfl,.rfl,.rfl,.of (mr AV.bool l3),mD⟩))
    ·exact AF AA (zm tb 2 AA (AE (I (decide (p1=4)) (Sh.AB c).symm _ (AI AA))))
theorem MP {N:Nat}{qh:Ag->(List Int)->Block->Option (Int)}(qz :∀{p0:Ag} {p1:(List Int)} {p2:Block} {r:Int},qh p0 p1 p2=some r->AS Tryz.prog 84 [NS p0,ls eI p1,DH p2] [] (λv st=>v=(i64 r)/\st=[])){p0:Ag}{p1:(List Int)}{p2:Step}{r:Int×Bool}(h0:Bf N qh p0 p1 p2=some r):AS Tryz.prog 57 [NS p0,ls eI p1,Mb p2] [] (λv st=>v=(Uj r.1 r.2)/\st=[]):=by
 unfold Bf at h0;refine ai Tryz.func57 AA AA AA AA (sr AA λK1 m6=>Aw (m:=0) AR AA AA AA AA AA (Aw (m:=1) AR AA AA AA AA AA (zm tb 2 AA (dn m6 AA (sr AA λK2 m7=>zm tb 2 AA (zl tb AA AA (bs h0 λl3 m8 h0=>Vn (m:=2) (st':=(ZO p0 p2 [jL])) BD AA AA m8 AA AA (zq tb AA ?_))))))));refine dn m7 AA (AD λK4 m9=>sr AA λK5 q0=>zm tb 2 AA (zl tb AA AA (zq tb AA (dn q0 AA ?_))));obtain⟨o9,a,h0⟩:=Sh.Av h0;have M9:∀(U:(List Int)),o9=Sum.inr U->∀s,Wk 0 s ⟨233,AN (Gc p1 [(8,ow 2 0 U)]),ez p0 p2 U⟩->K4 s:=by
  intro U hq s Q;subst o9;try dsimp only at h0
  refine m9 _ (AJ Q (AD λt2 d6=>AD λq1 d7=>bs h0 λd8 a h0=>?_));have Z:∀(c5:Bool),d8=c5->∀s,Wk 0 s ⟨233,AN (Gc p1 [(8,ow 2 0 U),(70,.bool c5)]),ez p0 p2 U⟩->q1 s:=by
   intro c5 hq s Q;subst d8;try dsimp only at h0
   refine d7 _ (AJ Q ?_);refine ci h0 AA ?_ ?_<;>clear h0<;>intro t3 h0
   ·refine zr tb AA AA ?_;obtain rfl:=Sh.AB h0;exact rd (Wy [])
   ·refine AG (d6 _ (AD λt4 d9=>AL (sr AA λt5 g0=>zm tb 2 AA (bs h0 λt7 g1 h0=>zc (hb 87) (Ht g1) rfl AA AA (zq tb AA (dn g0 AA ?_))))));refine ci h0 AA ?_ ?_<;>clear h0<;>intro t8 h0
    ·refine AD λq2 g2=>bs h0 λg3 a h0=>?_;have b3:∀(R:Bool),g3=R->∀s,Wk 0 s ⟨233,AN [(3,Bm),(5,Dh),(8,ow 2 0 U),(11,.bool R)],ez p0 p2 U⟩->q2 s:=by
      intro R hq s Q;subst g3;try dsimp only at h0
      refine g2 _ (AJ Q (AD λq3 g4=>bs h0 λg5 a h0=>?_));have g6:∀(Y:Bool),g5=Y->∀s,Wk 0 s ⟨233,AN [(11,.bool Y)],[]⟩->q3 s:=by
       intro Y hq s Q;subst g5;try dsimp only at h0
       refine g4 _ (AJ Q (zr tb AA AA ?_));obtain rfl:=Sh.AB h0;exact rt [(6,i64 (-1)),(7,.bool Y)]
      refine AD λq4 g7=>bs a λg8 V a=>?_;have c6:∀(c7:Bool),g8=c7->∀s,Wk 0 s ⟨233,AN [(3,Bm),(8,ow 1 0 U),(11,.bool R),(105,.bool c7)],[Nc p0,BQ U]⟩->q4 s:=by
       intro c7 hq s Q;subst g8;try dsimp only at a
       refine g7 _ (AJ Q ?_);refine ci a AA ?_ ?_<;>clear a<;>intro t9 a
       ·refine AD λv0 g9=>?_;refine IT (by kernel_rfl) ?_;refine bs a λh3 c0 a=>bs a λc c1 a=>LV λsn b=>?_;have g:sn 0 (bm 12 4095) ⟨233,AN [(13,.bool c.2)],[]⟩:=(b _ _ _).2 (by
         refine GD AA (by kernel_rfl) ?_;exact g9 _ (AF AA (zm tb 3 AA (AE (g6 (!c.2) (Sh.AB a).symm _ (Ao (L:=[(11,.bool (!c.2))]) (.same AA)))))))
        have f:sn 2 (bm 12 1023) ⟨233,AN [(12,Bm),(113,OJ c.1),(114,.bool c.2)],[V0]⟩:=(b _ _ _).2 (by
         refine xa [10] ⟨?_,mD⟩
         ·refine xo 10 ?_;refine Aq AR I9 AA AA AA AA AA AA qJ rfl (AE ⟨AA,?_⟩);refine BU tb 11 AA (by kernel_rfl) rfl ?_;exact xw b g (by exact Ab [] AA AA .nil (.same AA)))
        have h:sn 3 (bm 12 511) ⟨233,AN [(113,OJ c.1),(114,.bool c.2)],[]⟩:=(b _ _ _).2 (by
         refine xa [9] ⟨?_,mD⟩
         ·refine xo 9 ?_;exact Al (m:=0) AR GY AA AA (xd b f))
        have p:sn 2 (bm 12 1791) ⟨233,AN [(106,LQ c.1 c.2)],[]⟩:=(b _ _ _).2 (by
         refine xa [8] ⟨?_,mD⟩
         ·refine xo 8 ?_;refine zq tb AA (AE ⟨AA,?_⟩);refine BU tb 11 AA (by kernel_rfl) rfl ?_;exact xt b g)
        have i:sn 3 (bm 12 767) ⟨233,AN [(12,Bm),(106,LQ c.1 c.2),(113,OJ c.1)],[V0]⟩:=(b _ _ _).2 (by
         refine xa [8,10] ⟨?_,?_,mD⟩
         ·exact xq tb b f
         ·refine xo 10 ?_;exact Aq AR I9 AA AA AA AA AA AA qJ rfl (W5 b p (by exact Ab [] AA AA .nil (.same AA))))
        have y:sn 4 (bm 12 255) ⟨233,AN [(106,LQ c.1 c.2),(113,OJ c.1)],[]⟩:=(b _ _ _).2 (by
         refine xa [8,9] ⟨?_,?_,mD⟩
         ·exact xq tb b h
         ·refine xo 9 ?_;exact Al (m:=0) AR GY AA AA (xd b i))
        have j:sn 3 (bm 12 895) ⟨233,AN [(12,Bm),(106,LQ c.1 c.2),(114,.bool c.2)],[V0]⟩:=(b _ _ _).2 (by
         refine xa [7] ⟨?_,mD⟩
         ·exact xq tb b f)
        have z:sn 4 (bm 12 383) ⟨233,AN [(106,LQ c.1 c.2),(114,.bool c.2)],[]⟩:=(b _ _ _).2 (by
         refine xa [7,9] ⟨?_,?_,mD⟩
         ·exact xq tb b h
         ·refine xo 9 ?_;exact Al (m:=0) AR GY AA AA (xd b j))
        have k:sn 4 (bm 12 639) ⟨233,AN [(12,Bm),(106,LQ c.1 c.2)],[V0]⟩:=(b _ _ _).2 (by
         refine xa [7,8] ⟨?_,?_,mD⟩
         ·exact xq tb b i
         ·exact xq tb b j)
        have C:sn 5 (bm 12 127) ⟨233,AN [(106,LQ c.1 c.2)],[]⟩:=(b _ _ _).2 (by
         refine xa [7,8,9] ⟨?_,?_,?_,mD⟩
         ·exact xq tb b y
         ·exact xq tb b z
         ·refine xo 9 ?_;exact Al (m:=0) AR GY AA AA (xd b k))
        have S:sn 6 (bm 12 543) ⟨233,AN [(12,Bm),(108,EG p0.decls),(111,i64 h3)],[V0]⟩:=(b _ _ _).2 (by
         refine xa [5] ⟨?_,mD⟩
         ·refine xo 5 ?_;refine zc (v':=(LQ c.1 c.2)) (hb 102) (Gv c1) rfl AA AA (AE ⟨AA,?_⟩);refine BU tb 6 AA (by kernel_rfl) rfl ?_;exact xt b k)
        have W:sn 7 (bm 12 31) ⟨233,AN [(108,EG p0.decls),(111,i64 h3)],[]⟩:=(b _ _ _).2 (by
         refine xa [5,9] ⟨?_,?_,mD⟩
         ·refine xo 5 ?_;refine zc (v':=(LQ c.1 c.2)) (hb 102) (Gv c1) rfl AA AA (AE ⟨AA,?_⟩);refine BU tb 6 AA (by kernel_rfl) rfl ?_;exact xt b C
         ·refine xo 9 ?_;exact Al (m:=0) AR GY AA AA (xd b S))
        refine (b _ _ _).2 ?_;refine BU tb 0 AA (by kernel_rfl) rfl ?_;refine BU tb 1 AA (by kernel_rfl) rfl ?_;refine BU tb 2 AA (by kernel_rfl) rfl ?_;refine G9 3 (v:=(.ptr 1 0 (Int.toNat 0) 0)) rfl (by kernel_rfl) (by kernel_rfl) (Cb BD AA AA AA AA c0) ?_;refine Rq 4 AA AA (by kernel_rfl) (PG Ie AA AA (Ed c0) rfl) ?_;exact xw b W (by exact Ab [] AA AA .nil (.same AA))
       ·exact AG (g6 R (Sh.AB a).symm _ (BF _ AA))
      refine AF AA (zm tb 2 AA ?_);rcases Sh.AU V with ⟨t,V⟩|⟨t,V⟩
      ·refine zg tb t AA ?_;iterate 3 refine zg tb t rfl ?_
       rcases Sh.AU V with ⟨D,V⟩|⟨D,V⟩
       ·refine zs D AA (zs D AA (zs D AA (Ap (v:=(.bool true)) (BH AA AA t) rfl (Cc AA D AA) (zt t AA ?_))));exact AE (c6 true (Sh.AB V).symm _ (Ab [0,2] AA AA (.raw AA AA (.pure (AK λ_=>AA) .nil)) (.same AA)))
       ·refine zg tb D AA (zg tb D AA (zg tb D AA (Ap (v:=(.bool (decide (p2.op=17)))) (BH AA AA t) rfl (CO AA D AA) (zt t AA ?_))));exact AE (c6 (decide (p2.op=17)) (Sh.AB V).symm _ (Ab [0,2] AA AA (.raw AA AA (.pure (AK λ_=>AA) .nil)) (.same AA)))
      ·refine zs t AA ?_;iterate 3 refine zs t rfl ?_
       iterate 3 refine zn rfl ?_
       refine zs t AA (zf t AA ?_);exact AE (c6 false (Sh.AB V).symm _ (Ab [0,2] AA AA (.raw AA AA (.pure (AK λ_=>AA) .nil)) (.same AA)))
     refine AF AA (zq tb AA (zz (Eu U) (D0 F8 AA AA AA) rfl (zm tb 2 AA ?_)));rcases Sh.AU a with ⟨E,a⟩|⟨E,a⟩
     ·refine zg tb E AA (bs a λq5 c2 a=>Ap (v:=dK) (BH AA AA E) rfl (Cb BD AA AA AA AA c2) (Ap (v:=(i64 q5)) (BH AA AA E) rfl (DQ Ie AA AA (Ed c2) rfl) (zg tb E AA (zt E AA (zq tb AA ?_)))));rcases Sh.AU a with ⟨F,a⟩|⟨F,a⟩
      ·refine zg tb F AA (zg tb F AA (zg tb F AA (zt F AA (zq tb AA ?_))));rcases Sh.AU a with ⟨G,a⟩|⟨G,a⟩
       ·exact zg tb G AA (zg tb G AA (Ap (v:=(Sm p2)) (BH AA AA G) rfl (Br Oi AA) (zg tb G AA (zt G AA (zq tb AA (AE (b3 (decide ((Sh.len p2.kids)=0)) (Sh.AB a).symm _ (AI AA))))))))
       ·refine zs G AA ?_;iterate 3 refine zs G rfl ?_
        exact zf G AA (zq tb AA (AE (b3 false (Sh.AB a).symm _ (AI AA))))
      ·refine zs F AA (zs F AA (zs F AA (zf F AA (zq tb AA ?_))));iterate 4 refine zs rfl rfl ?_
       exact zf AA AA (zq tb AA (AE (b3 false (Sh.AB a).symm _ (AI AA))))
     ·refine zs E AA ?_;iterate 3 refine zs E rfl ?_
      refine zf E AA (zq tb AA ?_);iterate 3 refine zs rfl rfl ?_
      refine zf AA AA (zq tb AA ?_);iterate 4 refine zs rfl rfl ?_
      exact zf AA AA (zq tb AA (AE (b3 false (Sh.AB a).symm _ (AI AA))))
    ·refine zr tb AA AA ?_;refine ci h0 AA ?_ ?_<;>clear h0<;>intro v1 h0
     ·refine AD λv2 h4=>AD λq6 h5=>bs h0 λh6 a h0=>?_;have b4:∀(c8:Bool),h6=c8->∀s,Wk 0 s ⟨233,AN (Gc p1 [(141,.bool c8)]),ZO p0 p2 []⟩->q6 s:=by
       intro c8 hq s Q;subst h6;try dsimp only at h0
       refine h5 _ (AJ Q ?_);refine ci h0 AA ?_ ?_<;>clear h0<;>intro v3 h0
       ·refine zr tb AA AA ?_;obtain rfl:=Sh.AB h0;exact rd (Wy [])
       ·refine AG (h4 _ (AD λv4 h7=>?_));refine CC 9 (by kernel_rfl) (by kernel_rfl) (by rfl) ?_;iterate 4 refine yq tb rfl ?_
        refine bs h0 λv5 h8 h0=>jc (enc:=(eS eI)) (u:=[]) AR Kr AA AA AA h8 (AK λ_=>AA) (bs h0 λb5 h9 h0=>CI (v:=(Uj b5.1 b5.2)) AR (hb 103) (Ir qz h9) rfl AA AA ?_);iterate 3 refine yq tb rfl ?_
        refine BO (zq tb AA (dn h7 AA ?_));obtain rfl:=Sh.AB h0;exact rd [(6,i64 b5.1),(7,.bool b5.2)]
      refine AF AA (zq tb AA (zz (Eu U) (D0 F8 AA AA AA) rfl (zm tb 2 AA ?_)));rcases Sh.AU a with ⟨H,a⟩|⟨H,a⟩
      ·refine zs H AA ?_;iterate 3 refine zs H rfl ?_
       refine zt H AA (zq tb AA ?_);iterate 3 refine zs rfl rfl ?_
       refine zt AA AA (zq tb AA ?_);iterate 4 refine zs rfl rfl ?_
       refine zt AA AA ?_;exact AE (b4 true (Sh.AB a).symm _ (Ab [0,1] AA AA (.raw AA AA (.raw AA AA .nil)) (.same AA)))
      ·refine zg tb H AA (bs a λq7 c3 a=>Ap (v:=dK) (BH AA AA H) rfl (Cb BD AA AA AA AA c3) (Ap (v:=(i64 q7)) (BH AA AA H) rfl (DQ Ie AA AA (Ed c3) rfl) (zg tb H AA (zf H AA (zq tb AA ?_)))));rcases Sh.AU a with ⟨I,a⟩|⟨I,a⟩
       ·refine zs I AA (zs I AA (zs I AA (zt I AA (zq tb AA ?_))));iterate 4 refine zs rfl rfl ?_
        refine zt AA AA ?_;exact AE (b4 true (Sh.AB a).symm _ (Ab [0,1] AA AA (.raw AA AA (.raw AA AA .nil)) (.same AA)))
       ·refine zg tb I AA (zg tb I AA (zg tb I AA (zf I AA (zq tb AA ?_))));rcases Sh.AU a with ⟨J,a⟩|⟨J,a⟩
        ·refine zs J AA ?_;iterate 3 refine zs J rfl ?_
         refine zt J AA ?_;exact AE (b4 true (Sh.AB a).symm _ (Ab [0,1] AA AA (.raw AA AA (.raw AA AA .nil)) (.same AA)))
        ·refine zg tb J AA (zg tb J AA (Ap (v:=(Sm p2)) (BH AA AA J) rfl (Br Oi AA) (zg tb J AA (zf J AA ?_))));exact AE (b4 (!decide ((Sh.len p2.kids)=2)) (Sh.AB a).symm _ (Ab [0,1] AA AA (.raw AA AA (.raw AA AA .nil)) (.same AA)))
     ·refine zr tb AA AA ?_;refine ci h0 AA ?_ ?_<;>clear h0<;>intro v6 h0
      ·refine sr AA λv7 k0=>zm tb 3 AA (bs h0 λX k1 h0=>BE (v':=(ow 3 0 X)) AR (hb 54) (GL k1) rfl AA ⟨(Ay λ_=>AA),mD⟩ AA AA (zq tb AA (dn k0 AA (AD λv8 k2=>AD λq8 k3=>bs h0 λk4 a h0=>?_))));have b6:∀(c9:Bool),k4=c9->∀s,Wk 0 s ⟨233,AN (Gc p1 [(14,ow 2 0 X),(181,.bool c9)]),ZO p0 p2 [Qv X]⟩->q8 s:=by
        intro c9 hq s Q;subst k4;try dsimp only at h0
        refine k3 _ (AJ Q ?_);refine ci h0 AA ?_ ?_<;>clear h0<;>intro v9 h0
        ·refine zr tb AA AA ?_;obtain rfl:=Sh.AB h0;exact rd (Wy [])
        ·refine AG (k2 _ (sr AA λw0 k5=>zm tb 5 AA (Aa (Wk.CQ (L:=[(182,NS p0),(183,ls eI p1),(185,gF p2),(186,ls (eS eI) X)]) (st':=(ZO p0 p2 [⟨1,49,1,[]⟩])) (id:=2) rfl qI (AK λ_=>AA) ⟨.rfl,.rfl,.rfl,.CQ AA,mD⟩ AA) (bs h0 λb7 k6 h0=>zc (v':=(Uj b7.1 b7.2)) (hb 103) (Ir qz k6) rfl AA AA (zm tb 4 AA (dn k5 AA ?_))))));obtain rfl:=Sh.AB h0;exact rd [(6,i64 b7.1),(7,.bool b7.2)]
       refine CT (by kernel_rfl) (by kernel_rfl) (by rfl) ?_;refine yq tb AA (yz (Eu U) (D0 F8 AA AA AA) rfl ?_);iterate 2 refine yq tb rfl ?_
       rcases Sh.AU a with ⟨K,a⟩|⟨K,a⟩
       ·refine ys K AA ?_;iterate 5 refine ys K rfl ?_
        refine yt K AA (yq tb AA ?_);iterate 3 refine ys rfl rfl ?_
        refine yt AA AA (yq tb AA ?_);iterate 6 refine ys rfl rfl ?_
        refine yt AA AA ?_;exact BO (b6 true (Sh.AB a).symm _ (Ab [0,1,3] AA AA (.raw AA AA (.raw AA AA (.pure (AK λ_=>AA) .nil))) (.same AA)))
       ·refine yg tb K AA (bs a λq9 c4 a=>IP (v:=dK) (BH AA AA K) rfl (Cb BD AA AA AA AA c4) (IP (v:=(i64 q9)) (BH AA AA K) rfl (DQ Ie AA AA (Ed c4) rfl) ?_));iterate 3 refine yg tb K rfl ?_
        refine yf K AA (yq tb AA ?_);rcases Sh.AU a with ⟨T,a⟩|⟨T,a⟩
        ·refine ys T AA ?_;iterate 2 refine ys T rfl ?_
         refine yt T AA (yq tb AA ?_);iterate 6 refine ys rfl rfl ?_
         refine yt AA AA ?_;exact BO (b6 true (Sh.AB a).symm _ (Ab [0,1,3] AA AA (.raw AA AA (.raw AA AA (.pure (AK λ_=>AA) .nil))) (.same AA)))
        ·refine yg tb T AA (IP (v:=(Eu X)) (BH AA AA T) rfl (D0 Yk AA AA AA) (yg tb T AA (yf T AA (yq tb AA ?_))));rcases Sh.AU a with ⟨x,a⟩|⟨x,a⟩
         ·refine ys x AA ?_;iterate 5 refine ys x rfl ?_
          refine yt x AA ?_;exact BO (b6 true (Sh.AB a).symm _ (Ab [0,1,3] AA AA (.raw AA AA (.raw AA AA (.pure (AK λ_=>AA) .nil))) (.same AA)))
         ·refine yg tb x AA (yg tb x AA (IP (v:=(Sm p2)) (BH AA AA x) rfl (Br Oi AA) (yg tb x AA (IP (v:=(Eu X)) (BH AA AA x) rfl (D0 Yk AA AA AA) (yg tb x AA (yf x AA ?_))))));exact BO (b6 (!decide ((Sh.len p2.kids)=(Sh.len X))) (Sh.AB a).symm _ (Ab [0,1,3] AA AA (.raw AA AA (.raw AA AA (.pure (AK λ_=>AA) .nil))) (.same AA)))
      ·refine AD λt0 k7=>bs h0 λk8 a h0=>?_;have b0:∀(d1:Bool),k8=d1->∀s,Wk 0 s ⟨233,AN [(3,Bm),(5,Dh),(8,ow 2 0 U),(190,.bool d1)],ez p0 p2 U⟩->t0 s:=by
        intro d1 hq s Q;subst k8;try dsimp only at h0
        refine k7 _ (AJ Q ?_);refine ci h0 AA ?_ ?_<;>clear h0<;>intro w1 h0
        ·refine zr tb AA AA ?_;obtain rfl:=Sh.AB h0;exact rd (Wy [])
        ·refine AG (d9 _ (sr AA λw2 k9=>zm tb 6 AA (Aa (Wk.CQ (L:=[(224,.agg (Bp p0)),(226,i64 p2.op),(228,i64 p2.num),(229,ls eI U)]) (st':=[⟨0,45,2,[Bp p0]⟩,br p2.op p2.num p2.BB p2.args p2.kids,⟨1,3,1,[]⟩]) (id:=2) rfl qI (AK λ_=>AA) ⟨.rfl,.rfl,.rfl,.CQ AA,mD⟩ AA) (bs h0 λb8 l0 h0=>zc (v':=(.DX [i64 b8.1,.bool b8.2])) (hb 104) (IJ l0) rfl AA AA (zm tb 4 AA (dn k9 AA ?_))))));obtain rfl:=Sh.AB h0;exact rd [(6,i64 b8.1),(7,.bool b8.2)]
       refine AF AA (zm tb 2 AA (zl tb AA AA (zm tb 2 AA ?_)));rcases Sh.AU a with ⟨d,a⟩|⟨d,a⟩
       ·refine zs d AA ?_;iterate 3 refine zs d rfl ?_
        iterate 3 refine zn rfl ?_
        refine zs d AA (zs d AA ?_);iterate 6 refine zn rfl ?_
        refine zs d AA (zs d AA ?_);iterate 9 refine zn rfl ?_
        exact zs d AA (zt d AA (zq tb AA (AE (b0 true (Sh.AB a).symm _ (AI AA)))))
       ·refine zg tb d AA ?_;iterate 3 refine zg tb d rfl ?_
        rcases Sh.AU a with ⟨M,a⟩|⟨M,a⟩
        ·refine zg tb M AA (zg tb M AA (zg tb M AA (Ap (v:=(.bool (decide (0<=p2.num)))) (BH AA AA d) rfl (Cc AA M AA) (zg tb d AA ?_))));rcases Sh.AU a with ⟨O,a⟩|⟨O,a⟩
         ·refine zg tb O AA ?_;iterate 3 refine zg tb O rfl ?_
          refine Ap (v:=(i64 (Sh.len p0.funcs))) (BH AA AA O) rfl (Br Za AA) (zg tb O AA (Ap (v:=(.bool (decide (p2.num<(Sh.len p0.funcs))))) (BH AA AA d) rfl (Cc AA O AA) (zg tb d AA ?_)));rcases Sh.AU a with ⟨q,a⟩|⟨q,a⟩
          ·refine zg tb q AA ?_;iterate 3 refine zg tb q rfl ?_
           exact bs a λb9 l1 a=>Ap (v:=(.Bt (Dd b9) 0)) (BH AA AA q) rfl (Bc RL AA AA l1 AA) (zg tb q AA (zg tb q AA (Ap (v:=(Eu b9.Ar)) (BH AA AA q) rfl (Br F8 AA) (zg tb q AA (Ap (v:=(.bool (decide (0<(Sh.len b9.Ar))))) (BH AA AA d) rfl (Cc AA q AA) (zf d AA (zq tb AA (AE (b0 (decide (0<(Sh.len b9.Ar))) (Sh.AB a).symm _ (AI AA))))))))))
          ·refine zs q AA ?_;iterate 8 refine zs q rfl ?_
           exact Ap (v:=(.bool false)) (BH AA AA d) rfl (CO AA q AA) (zf d AA (zq tb AA (AE (b0 false (Sh.AB a).symm _ (AI AA)))))
         ·refine zs O AA ?_;iterate 5 refine zs O rfl ?_
          refine Ap (v:=(.bool false)) (BH AA AA d) rfl (CO AA O AA) (zg tb d AA ?_);iterate 9 refine zs rfl rfl ?_
          exact Ap (v:=(.bool false)) (BH AA AA d) rfl (CO AA AA AA) (zf d AA (zq tb AA (AE (b0 false (Sh.AB a).symm _ (AI AA)))))
        ·refine zs M AA (zs M AA (zs M AA (Ap (v:=(.bool false)) (BH AA AA d) rfl (CO AA M AA) (zg tb d AA ?_))));iterate 6 refine zs rfl rfl ?_
         refine Ap (v:=(.bool false)) (BH AA AA d) rfl (CO AA AA AA) (zg tb d AA ?_);iterate 9 refine zs rfl rfl ?_
         exact Ap (v:=(.bool false)) (BH AA AA d) rfl (CO AA AA AA) (zf d AA (zq tb AA (AE (b0 false (Sh.AB a).symm _ (AI AA)))))
  refine AF AA (zm tb 4 AA ?_);rcases Sh.AU a with ⟨e,a⟩|⟨e,a⟩
  ·refine zg tb e AA ?_;iterate 3 refine zg tb e rfl ?_
   rcases Sh.AU a with ⟨P,a⟩|⟨P,a⟩
   ·refine zs P AA (zs P AA (zs P AA (Ap (v:=(.bool true)) (BH AA AA e) rfl (Cc AA P AA) (zg tb e AA ?_))));iterate 5 refine zs rfl rfl ?_
    refine Ap (v:=(.bool true)) (BH AA AA e) rfl (Cc AA AA AA) (zg tb e AA ?_);iterate 7 refine zs rfl rfl ?_
    exact Ap (v:=(.bool true)) (BH AA AA e) rfl (Cc AA AA AA) (zt e AA (AE (Z true (Sh.AB a).symm _ (AI AA))))
   ·refine zg tb P AA (zg tb P AA (zg tb P AA (Ap (v:=(.bool (decide (p2.BB<1)))) (BH AA AA e) rfl (CO AA P AA) (zg tb e AA ?_))));rcases Sh.AU a with ⟨A,a⟩|⟨A,a⟩
    ·refine zs A AA ?_;iterate 4 refine zs A rfl ?_
     refine Ap (v:=(.bool true)) (BH AA AA e) rfl (Cc AA A AA) (zg tb e AA ?_);iterate 7 refine zs rfl rfl ?_
     exact Ap (v:=(.bool true)) (BH AA AA e) rfl (Cc AA AA AA) (zt e AA (AE (Z true (Sh.AB a).symm _ (AI AA))))
    ·refine zg tb A AA (zg tb A AA (zg tb A AA (Ap (v:=(Eu p1)) (BH AA AA A) rfl (Br F8 AA) (zg tb A AA (Ap (v:=(.bool (decide ((Sh.len p1)<p2.BB)))) (BH AA AA e) rfl (CO AA A AA) (zg tb e AA ?_))))));rcases Sh.AU a with ⟨B,a⟩|⟨B,a⟩
     ·refine zs B AA ?_;iterate 6 refine zs B rfl ?_
      exact Ap (v:=(.bool true)) (BH AA AA e) rfl (Cc AA B AA) (zt e AA (AE (Z true (Sh.AB a).symm _ (AI AA))))
     ·refine zg tb B AA ?_;iterate 3 refine zg tb B rfl ?_
      exact bs a λd2 l4 a=>Ap (v:=(Jq d2)) (BH AA AA B) rfl (Bc BD AA AA l4 AA) (zg tb B AA (zg tb B AA (Ap (v:=(.bool (decide (d2=0)))) (BH AA AA e) rfl (CO AA B AA) (zt e AA (AE (Z (decide (d2=0)) (Sh.AB a).symm _ (AI AA)))))))
  ·refine zs e AA ?_;iterate 3 refine zs e rfl ?_
   iterate 3 refine zn rfl ?_
   refine zs e AA (zs e AA ?_);iterate 5 refine zn rfl ?_
   refine zs e AA (zs e AA ?_);iterate 7 refine zn rfl ?_
   exact zs e AA (zf e AA (AE (Z false (Sh.AB a).symm _ (AI AA))))
 refine AL (Af (σ:=Int×(List Int)) (λn v=>BP p1 p2 n v.1 v.2=some o9) (λ(t6,l7)=>⟨233,AN [(1,ls eI p1),(3,.ptr 0 0 0 0),(5,.ptr 1 0 0 0),(8,ow 2 0 l7),(20,ls eI p2.args),(21,i64 (Sh.len p2.args)),(22,i64 t6)],[⟨0,45,2,[Bp p0]⟩,br p2.op p2.num p2.BB p2.args p2.kids,ro 0 3 1 eI l7]⟩) N (0,[]) a (AI AA) (λ_ hv=>by rw[BP]at hv;cases hv) ?_);rintro n ⟨t6,l7⟩ a;try dsimp only at a⊢
 rw[BP]at a;refine zr tb AA AA (AD λw3 l5=>?_);refine ci a AA ?_ ?_<;>clear a<;>intro w4 a
 ·refine AG (l5 _ (AD λw5 l6=>AL (sr AA λw6 l9=>bs a λm0 m1 a=>zx BD m1 AA AA AA (zm tb 2 AA (dn l9 AA (AD λw7 m2=>AD λt1 m3=>bs a λm4 V a=>?_))))));have m5:∀(d3:Bool),m4=d3->∀s,Wk 0 s ⟨233,AN (Gc p1 [(8,ow 2 0 l7),(10,i64 m0),(20,Q2 p2),(21,aq p2),(22,i64 t6),(33,.bool d3)]),ez p0 p2 l7⟩->t1 s:=by
   intro d3 hq s Q;subst m4;try dsimp only at a
   refine m3 _ (AJ Q ?_);refine ci a AA ?_ ?_<;>clear a<;>intro w8 a
   ·refine zr tb AA AA ?_;obtain rfl:=Sh.AB a;try dsimp only[id]at h0
    obtain rfl:=Sh.AB h0;exact rd (Wy [])
   ·refine AG (m2 _ (AF AA (zm tb 3 AA (bs a λb1 d4 a=>zx BD d4 AA AA AA (zq tb AA ?_)))));refine CE (m:=3) (l:=[b1]) (enc:=eI) AR BD (by decide) rfl AA AA AA AA AA ?_;refine bs a λb2 d5 a=>Cd (l2:=[b1]) AR BD AA AA AA AA (H6 AA AA) (λ_=>AA) d5 AA (zq tb AA (dn l6 AA (AF AA (zm tb 2 AA ?_))));exact AE (xi (Sh.w (t6+1),b2) a (by refine Wk.trans (CJ (L:=(Gc p1 [(8,ow 2 0 b2),(20,Q2 p2),(21,aq p2),(22,MO t6)])) (st':=(ZO p0 p2 [BQ b2,Qr b1])) (.raw AA AA (.raw AA AA (.pure (AK λ_=>AA) (.pure (AK λ_=>AA) .nil)))) (.same AA)) ?_;exact Ab [0,1,2] AA AA (.raw AA AA (.raw AA AA (.pure (AK λ_=>AA) .nil))) (.same AA)))
  refine AF AA (zm tb 3 AA ?_);rcases Sh.AU V with ⟨o,V⟩|⟨o,V⟩
  ·refine zs o AA ?_;iterate 3 refine zs o rfl ?_
   exact zt o AA (AE (m5 true (Sh.AB V).symm _ (AI AA)))
  ·exact zg tb o AA (zg tb o AA (Ap (v:=(Eu p1)) (BH AA AA o) rfl (Br F8 AA) (zg tb o AA (zf o AA (AE (m5 (decide ((Sh.len p1)<=m0)) (Sh.AB V).symm _ (AI AA)))))))
 ·exact Ah (M9 l7 (Sh.AB a).symm _ (AI AA))
theorem LN {N:Nat}{qh:Ag->(List Int)->Block->Option (Int)}(qz :∀{p0:Ag} {p1:(List Int)} {p2:Block} {r:Int},qh p0 p1 p2=some r->AS Tryz.prog 84 [NS p0,ls eI p1,DH p2] [] (λv st=>v=(i64 r)/\st=[])){p0:Ag}{p1:(List Int)}{p2:Block}{r:Int}(h0:DO N qh p0 p1 p2=some r):AS Tryz.prog 84 [NS p0,ls eI p1,DH p2] [] (λv st=>v=(i64 r)/\st=[]):=by
 unfold DO at h0;refine ai Tryz.func84 AA AA AA AA (sr AA λK1 R=>Aw (m:=0) AR AA AA AA AA AA (Aw (m:=1) AR AA AA AA AA AA (zq tb AA (dn R AA (sr AA λK2 S=>zq tb AA (bs h0 λZ T h0=>BE (v':=(ow 2 0 Z)) AR (hb 47) (Bn T) rfl AA ⟨(Ay λ_=>AA),mD⟩ AA AA (zq tb AA (dn S AA ?_))))))));refine AD λK4 U=>sr AA λK5 V=>zm tb 2 AA (zl tb AA AA (zq tb AA (dn V AA ?_)));obtain⟨W,b,h0⟩:=Sh.Av h0;have M9:∀(g:(List Int)),W=Sum.inr g->∀s,Wk 0 s ⟨54,AN [(5,Bm),(7,ow 1 0 g)],[ba p2.steps p2.result,BQ g]⟩->K4 s:=by
  intro g hq s k;subst W;try dsimp only at h0
  refine U _ (AJ k (AD λb0 o=>AD λX p=>bs h0 λq b h0=>?_));have t:∀(i:Bool),q=i->∀s,Wk 0 s ⟨54,AN [(5,Bm),(7,ow 1 0 g),(48,.bool i)],[ba p2.steps p2.result,BQ g]⟩->X s:=by
   intro i hq s k;subst q;try dsimp only at h0
   refine p _ (AJ k ?_);refine ci h0 AA ?_ ?_<;>clear h0<;>intro b1 h0
   ·refine zr tb AA AA ?_;obtain rfl:=Sh.AB h0;exact rd [(6,i64 (-1))]
   ·refine AG (o _ (sr AA λb2 u=>zm tb 3 AA (bs h0 λx h h0=>zz (.ptr 1 0 (Int.toNat p2.result) 0) (Cb BD AA AA AA AA h) rfl (zz (i64 x) (DQ Ie AA AA (Ed h) rfl) rfl (zq tb AA (dn u AA ?_))))));obtain rfl:=Sh.AB h0;exact rd [(6,i64 x)]
  refine AF AA (zm tb 4 AA ?_);rcases Sh.AU b with ⟨a,b⟩|⟨a,b⟩
  ·refine zs a AA ?_;iterate 4 refine zs a rfl ?_
   exact zt a AA (AE (t true (Sh.AB b).symm _ (AI AA)))
  ·exact zg tb a AA (zg tb a AA (zg tb a AA (Ap (v:=(Eu g)) (BH AA AA a) rfl (D0 F8 AA AA AA) (zg tb a AA (zf a AA (AE (t (decide ((Sh.len g)<=p2.result)) (Sh.AB b).symm _ (AI AA))))))))
 refine AL (Af (σ:=Int×(List Int)) (λn v=>BM N p0 p2 qh n v.1 v.2=some W) (λ(y,z)=>⟨54,AN [(3,.ptr 0 0 0 0),(5,.ptr 1 0 0 0),(7,ow 2 0 z),(15,ls Bx p2.steps),(16,i64 (Sh.len p2.steps)),(17,i64 y)],[⟨0,45,2,[Bp p0]⟩,ba p2.steps p2.result,ro 0 3 1 eI z]⟩) N (0,Z) b (AI AA) (λ_ hv=>by rw[BM]at hv;cases hv) ?_);rintro n ⟨y,z⟩ b;try dsimp only at b⊢
 rw[BM]at b;refine zr tb AA AA (AD λb3 A=>?_);refine ci b AA ?_ ?_<;>clear b<;>intro b4 b
 ·refine AG (A _ (AD λY B=>?_));obtain⟨C,c,b⟩:=Sh.Av b;have D:∀(f:(List Int)),C=Sum.inr f->∀s,Wk 0 s ⟨54,AN [(3,Bm),(5,Dh),(7,ow 2 0 f),(15,TV p2),(16,dq p2),(17,i64 y)],[Nc p0,ba p2.steps p2.result,BQ f]⟩->Y s:=by
   intro f hq s k;subst C;try dsimp only at b
   exact B _ (AJ k (AF AA (zm tb 2 AA (AE (xi (Sh.w (y+1),f) b (AI AA))))))
  refine AL (sr AA λb5 E=>bs c λe F c=>zz (Lj e) (E3 DT AA AA F (CK _) rfl) rfl (zq tb AA (Al (m:=3) AR Nl AA AA (Aq AR L6 AA AA AA AA AA AA qG rfl (dn E AA (sr AA λb6 G=>zm tb 3 AA (bs c λd H c=>Fz (v':=(Uj d.1 d.2)) AR (hb 57) (MP qz H) rfl (.val AA (.own AA AA (λ_=>AA) (.val AA .nil))) rfl mD AA AA ?_)))))));refine zm tb 5 AA (dn G AA (AD λb7 I=>zr tb AA AA ?_));refine ci c AA ?_ ?_<;>clear c<;>intro J c
  ·have b8:d.2=false:=by simpa using J
   refine zr tb AA AA ?_;obtain rfl:=Sh.AB c;try dsimp only[id]at b
   obtain rfl:=Sh.AB b;try dsimp only[id]at h0
   obtain rfl:=Sh.AB h0;exact rd [(6,i64 (-1))]
  ·have b9:d.2=true:=by simpa using J
   refine AG (I _ (sr AA λc0 K=>zm tb 2 AA (bs c λM O c=>zc (hb 87) (Ht O) rfl AA AA (zq tb AA (dn K AA ?_)))));refine ci c AA ?_ ?_<;>clear c<;>intro P c
   ·have c1:M=false:=by simpa using P
    refine AF AA (zm tb 2 AA ?_);refine CE (m:=4) (l:=[d.1]) (enc:=eI) AR BD (by decide) rfl AA AA AA AA AA ?_;refine bs c λj Q c=>Cd (l2:=[d.1]) AR BD AA AA AA AA (H6 AA AA) (λ_=>AA) Q AA (zq tb AA ?_);exact AE (D j (Sh.AB c).symm _ (by refine Wk.trans (CJ (L:=[(3,Bm),(5,Dh),(7,ow 2 0 j),(15,TV p2),(16,dq p2),(17,i64 y)]) (st':=[Nc p0,ba p2.steps p2.result,BQ j,br e.op e.num e.BB e.args e.kids,Qr d.1]) (.raw AA AA (.raw AA AA (.pure (AK λ_=>AA) (.raw AA AA (.pure (AK λ_=>AA) .nil))))) (.same AA)) ?_;exact Ab [0,1,2] AA AA (.raw AA AA (.raw AA AA (.pure (AK λ_=>AA) .nil))) (.same AA)))
   ·have c2:M=true:=by simpa using P
    exact AG (D z (Sh.AB c).symm _ (Ab [0,1,2] AA AA (.raw AA AA (.raw AA AA (.pure (AK λ_=>AA) .nil))) (.same AA)))
 ·exact Ah (M9 z (Sh.AB b).symm _ (Ab [1,2] AA AA (.raw AA AA (.pure (AK λ_=>AA) .nil)) (.same AA)))
theorem LR {N:Nat}:∀(n:Nat),∀{p0:Ag} {p1:(List Int)} {p2:Block} {r:Int},Ce N n p0 p1 p2=some r->AS Tryz.prog 84 [NS p0,ls eI p1,DH p2] [] (λv st=>v=(i64 r)/\st=[]):=by
 intro n
 induction n with
 | zero=>intro p0 p1 p2 r a;cases a
 | succ n ih=>
  intro p0 p1 p2 r a;rw[Ce]at a;exact LN (λh=>ih h) a
theorem IV {N:Nat}:∀{p0:Ag} {p1:(List Int)} {p2:Block} {r:Int},BT N p0 p1 p2=some r->AS Tryz.prog 84 [NS p0,ls eI p1,DH p2] [] (λv st=>v=(i64 r)/\st=[]):=by
 intro p0 p1 p2 r a;exact LR N a
theorem QH {N:Nat}{p0:AT}{r:Bool}(h0:Hf N p0=some r):AS Tryz.prog 43 [G2 p0] [] (λv st=>v=(.bool r)/\st=[]):=by
 unfold Hf at h0;refine ai Tryz.func43 AA AA AA AA (sr AA λT z=>Aw (m:=0) AR AA AA AA AA AA (zq tb AA (dn z AA (sr AA λU A=>zq tb AA (bs h0 λe B h0=>zc (v':=(.DX [NS e.1,.bool e.2])) (hb 19) (Me B) rfl AA AA (zm tb 3 AA (Al (m:=1) AR XS AA AA (Aq AR S5 AA AA AA AA AA AA qD rfl ?_))))))));refine zq tb AA (dn A AA (AD λV C=>zr tb AA AA ?_));refine ci h0 AA ?_ ?_<;>clear h0<;>intro J h0
 ·have W:e.2=false:=by simpa using J
  refine zr tb AA AA ?_;obtain rfl:=Sh.AB h0;exact rd [(2,.bool false)]
 ·have X:e.2=true:=by simpa using J
  refine AG (C _ (AD λD h=>sr AA λL i=>zm tb 2 AA (zl tb AA AA (zq tb AA (dn i AA ?_)))));obtain⟨f,b,h0⟩:=Sh.Av h0;have E:∀(_:Unit),f=Sum.inr ()->∀s,Wk 0 s ⟨37,AN [],[]⟩->D s:=by
   intro _ M s F;subst f;try dsimp only at h0
   refine h _ (AJ F (zr tb AA AA ?_));obtain rfl:=Sh.AB h0;exact rt [(2,.bool true)]
  refine AL (Af (σ:=Int) (λn v=>D3 N p0 e n v=some f) (λc=>⟨37,AN [(3,.ptr 0 0 0 0),(15,ls Aj p0.AH),(16,i64 (Sh.len p0.AH)),(17,i64 c)],[⟨0,45,2,[Bp e.1]⟩]⟩) N 0 b (Ab [1] AA AA (.raw AA AA .nil) (.same AA)) (λ_ K=>by rw[D3]at K;cases K) ?_);rintro n c b;try dsimp only at b⊢
  rw[D3]at b;refine zr tb AA AA (AD λO j=>?_);refine ci b AA ?_ ?_<;>clear b<;>intro P b
  ·refine AG (j _ (AD λQ k=>AL (sr AA λR l=>bs b λG o b=>zx GZ o AA AA AA (zq tb AA (Al (m:=1) AR Ni AA AA (Aq AR Nv AA AA AA AA AA AA qG rfl (dn l AA (AD λH p=>bs b λq d b=>?_))))))));have t:∀(g:Bool),q=g->∀s,Wk 0 s ⟨37,AN [(3,Bm),(15,ft p0),(16,gU p0),(17,i64 c),(35,.bool g)],[Nc e.1]⟩->H s:=by
    intro g M s F;subst q;try dsimp only at b
    refine p _ (AJ F ?_);refine ci b AA ?_ ?_<;>clear b<;>intro S b
    ·refine zr tb AA AA ?_;obtain rfl:=Sh.AB b;try dsimp only[id]at h0
     obtain rfl:=Sh.AB h0;exact rd [(2,.bool false)]
    ·exact AG (k _ (AF AA (zm tb 2 AA (AE (xi (Sh.w (c+1)) b (AI AA))))))
   refine CT (by kernel_rfl) (by kernel_rfl) (by rfl) ?_;iterate 2 refine yq tb rfl ?_
   refine bs d λI u d=>CI (v:=(i64 I)) AR (hb 58) (Oh u) rfl AA AA ?_;iterate 2 refine yq tb rfl ?_
   rcases Sh.AU d with ⟨a,d⟩|⟨a,d⟩
   ·refine ys a AA ?_;iterate 8 refine ys a rfl ?_
    refine yt a AA ?_;exact BO (t true (Sh.AB d).symm _ (Ab [0] AA AA (.raw AA AA .nil) (.same AA)))
   ·refine yg tb a AA ?_;iterate 4 refine yg tb a rfl ?_
    refine bs d λx y d=>CI (v:=(i64 x)) (BH AA AA a) (hb 84) (IV y) rfl AA AA ?_;iterate 3 refine yg tb a rfl ?_
    refine yf a AA ?_;exact BO (t (!decide (x=G.result)) (Sh.AB d).symm _ (Ab [0] AA AA (.raw AA AA .nil) (.same AA)))
  ·exact Ah (E () (Sh.AB b).symm _ (BF _ AA))
theorem OT {qt:Bool}{p0:Step}{r:Bool}(h0:GK qt p0=some r):AS Tryz.prog 86 [Mb p0,Bm] [Mr qt] (λv st=>v=(.DX [])/\st=[Mr r]):=by
 unfold GK at h0;refine ai Tryz.func86 AA AA AA AA (sr AA λe c=>Aw (m:=1) AR AA AA AA AA AA (dn c AA (AF AA (zm tb 2 AA ?_))));rcases Sh.AU h0 with ⟨a,h0⟩|⟨a,h0⟩
 ·refine zg tb a AA (zg tb a AA (bs h0 λf d h0=>zd a (hb 87) (Ht d) rfl AA AA AA (zg tb a AA (zt a AA (zq tb AA ?_)))));rcases Sh.AU h0 with ⟨b,h0⟩|⟨b,h0⟩
  ·refine zg tb b AA (zg tb b AA (zg tb b AA (zt b AA (Aq AR iO AA AA AA AA AA AA qK rfl ?_))));obtain rfl:=Sh.AB h0;exact AE (xr (Ab (L:=[]) (st':=[⟨0,4,1,[[.bool (decide (p0.BB=0))]]⟩]) [0] AA AA (.raw AA AA .nil) mD))
  ·refine zs b AA (zs b AA (zs b AA (zf b AA (Aq AR iO AA AA AA AA AA AA qK rfl ?_))));obtain rfl:=Sh.AB h0;exact AE (xr (Ab (L:=[]) (st':=[⟨0,4,1,[[.bool false]]⟩]) [0] AA AA (.raw AA AA .nil) mD))
 ·refine zs a AA ?_;iterate 3 refine zs a rfl ?_
  refine zf a AA (zq tb AA ?_);iterate 3 refine zs rfl rfl ?_
  refine zf AA AA (Aq AR iO AA AA AA AA AA AA qK rfl ?_);obtain rfl:=Sh.AB h0;exact AE (xr (Ab (L:=[]) (st':=[⟨0,4,1,[[.bool false]]⟩]) [0] AA AA (.raw AA AA .nil) mD))
theorem Pn {N:Nat}{qx:Bool->Block->Option (Bool)}(sW :∀{qt:Bool} {p0:Block} {r:Bool},qx qt p0=some r->AS Tryz.prog 85 [DH p0,.fn 86 [Bm]] [Mr qt] (λv st=>v=(.DX [])/\st=[Mr r])){qt:Bool}{p0:Block}{r:Bool}(h0:Im N qx qt p0=some r):AS Tryz.prog 85 [DH p0,.fn 86 [Bm]] [Mr qt] (λv st=>v=(.DX [])/\st=[Mr r]):=by
 unfold Im at h0;refine ai Tryz.func85 AA AA AA AA (sr AA λK1 E=>Aw (m:=1) AR AA AA AA AA AA (dn E AA (sr AA λK2 F=>zm tb 2 AA (zl tb AA AA (zq tb AA (dn F AA (AW.fin λP G=>bs h0 λH b h0=>?_)))))));have Q:∀(I:Bool),H=I->∀s,Wk 1 s ⟨30,AN [],[Mr I]⟩->P s:=by
  intro I R s J;subst H;try dsimp only at h0
  refine G _ ?_;obtain rfl:=Sh.AB h0;exact Exists.intro _ (And.intro (J.trans (Ao (L:=[]) mD)) (And.intro AA AA))
 refine AL (Af (σ:=Int×Bool) (λn v=>Cy N p0 qx n v.1 v.2=some H) (λ(j,k)=>⟨30,AN [(1,.fn 86 [.ptr 0 0 0 0]),(9,ls Bx p0.steps),(10,i64 (Sh.len p0.steps)),(11,i64 j)],[Mr k]⟩) N (0,qt) b (Ab [0] AA AA (.raw AA AA .nil) (.same AA)) (λ_ l=>by rw[Cy]at l;cases l) ?_);rintro n ⟨j,k⟩ b;try dsimp only at b⊢
 rw[Cy]at b;refine zr tb AA AA (AD λK9 K=>?_);refine ci b AA ?_ ?_<;>clear b<;>intro S b
 ·refine AG (K _ (AD λM o=>AL (sr AA λT p=>bs b λa q b=>zz (Lj a) (E3 DT AA AA q (CK _) rfl) rfl (zq tb AA (Al (m:=1) AR Nl AA AA (Aq AR L6 AA AA AA AA AA AA qG rfl (dn p AA (sr AA λU t=>zm tb 2 AA ?_))))))));refine bs b λd u b=>?_;refine Rr (rowsP:=[Mr k]) (rows0:=[Mr k]) (rows1:=[Mr d]) (rows2:=[]) (rows1':=[Mr d]) (rows2':=[]) (st':=[Mr d,br a.op a.num a.BB a.args a.kids]) (v':=(.DX [])) [0] AR AA (hb 86) (OT u) rfl (by decide) rfl AA (.raw AA AA .nil) rfl AA (.raw AA AA .nil) .nil AA AA ?_;refine dn t AA (sr AA λV x=>zm tb 2 AA (zl tb AA AA (zq tb AA (dn x AA (bs b λg c b=>?_)))));have O:∀(e:Bool),g=e->∀s,Wk 1 s ⟨30,AN [(1,.fn 86 [Bm]),(9,TV p0),(10,dq p0),(11,i64 j)],[Mr e]⟩->M s:=by
   intro e R s J;subst g;try dsimp only at b
   exact o _ (AJ J (AF AA (zm tb 2 AA (AE (xi (Sh.w (j+1),e) b (AI AA))))))
  refine AL (Af (σ:=Int×Bool) (λn v=>Cz a qx n v.1 v.2=some g) (λ(h,f)=>⟨30,AN [(1,.fn 86 [.ptr 0 0 0 0]),(9,ls Bx p0.steps),(10,i64 (Sh.len p0.steps)),(11,i64 j),(19,ls Bq a.kids),(20,i64 (Sh.len a.kids)),(21,i64 h)],[Mr f]⟩) N (0,d) c (Ab [0] AA AA (.raw AA AA .nil) (.same AA)) (λ_ l=>by rw[Cz]at l;cases l) ?_);rintro n ⟨h,f⟩ c;try dsimp only at c⊢
  rw[Cz]at c;refine zr tb AA AA (AD λW y=>?_);refine ci c AA ?_ ?_<;>clear c<;>intro X c
  ·refine AG (y _ (AD λY z=>AL (sr AA λZ A=>bs c λB C c=>zx JF C AA AA AA (zq tb AA (Al (m:=1) AR Hq AA AA (Aq AR Ho AA AA AA AA AA AA qD rfl (dn A AA (AF AA (zm tb 2 AA ?_)))))))));refine bs c λi D c=>?_;refine UD (rows0:=[Mr f]) (rows1:=[Mr i]) (st':=[Mr i,ba B.steps B.result]) (v':=(.DX [])) [0] AR (hb 85) (sW D) rfl (by decide) rfl AA (.raw AA AA .nil) rfl AA (.raw AA AA .nil) .nil AA AA ?_;refine dn z AA (AF AA (zm tb 2 AA ?_));exact AE (xi (Sh.w (h+1),i) c (Ab [0] AA AA (.raw AA AA .nil) (.same AA)))
  ·exact Ah (O f (Sh.AB c).symm _ (AI AA))
 ·exact Ah (Q k (Sh.AB b).symm _ (AI AA))
theorem Pb {N:Nat}:∀(n:Nat),∀{qt:Bool} {p0:Block} {r:Bool},FZ N n qt p0=some r->AS Tryz.prog 85 [DH p0,.fn 86 [Bm]] [Mr qt] (λv st=>v=(.DX [])/\st=[Mr r]):=by
 intro n
 induction n with
 | zero=>intro qt p0 r a;cases a
 | succ n ih=>
  intro qt p0 r a;rw[FZ]at a;exact Pn (λh=>ih h) a
theorem Q8 {N:Nat}:∀{qt:Bool} {p0:Block} {r:Bool},Lk N qt p0=some r->AS Tryz.prog 85 [DH p0,.fn 86 [Bm]] [Mr qt] (λv st=>v=(.DX [])/\st=[Mr r]):=by
 intro qt p0 r a;exact Pb N a
theorem PZ {N:Nat}{p0:Block}{r:Bool}(h0:G3 N p0=some r):AS Tryz.prog 44 [DH p0] [] (λv st=>v=(.bool r)/\st=[]):=by
 unfold G3 at h0;refine ai Tryz.func44 AA AA AA AA (sr AA λf a=>Aw (m:=0) AR AA AA AA AA AA (zq tb AA (dn a AA (sr AA λg b=>Al (m:=1) AR ly AA AA (Aq AR iO AA AA AA AA AA AA qK rfl (dn b AA (sr AA λh c=>zq tb AA (zz (.fn 86 [Dh]) (fm AA) rfl ?_))))))));refine bs h0 λd e h0=>?_;refine UD (rows0:=[⟨0,4,1,[[.bool true]]⟩]) (rows1:=[Mr d]) (st':=[ba p0.steps p0.result,Mr d]) (v':=(.DX [])) [1] AR (hb 85) (Q8 e) rfl (by decide) rfl AA (.raw AA AA .nil) rfl AA (.raw AA AA .nil) .nil AA AA ?_;refine dn c AA (zr tb AA AA ?_);obtain rfl:=Sh.AB h0;exact rd [(2,.bool d)]
theorem TK {N:Nat}{p0:AT}{r:Bool}(h0:J7 N p0=some r):AS Tryz.prog 18 [G2 p0] [] (λv st=>v=(.bool r)/\st=[]):=by
 unfold J7 at h0;refine ai Tryz.func18 AA AA AA AA (sr AA λM o=>Aw (m:=0) AR AA AA AA AA AA (zq tb AA (dn o AA (AD λO p=>sr AA λP q=>zq tb AA (bs h0 λy t h0=>zc (hb 43) (QH t) rfl AA AA (zq tb AA (dn q AA ?_)))))));refine ci h0 AA ?_ ?_<;>clear h0<;>intro z h0
 ·have Q:y=false:=by simpa using z
  refine zr tb AA AA ?_;obtain rfl:=Sh.AB h0;exact rd [(2,.bool false)]
 ·have R:y=true:=by simpa using z
  refine AG (p _ (AD λB u=>sr AA λC d=>zm tb 2 AA (zl tb AA AA (zq tb AA (dn d AA ?_)))));obtain⟨b,a,h0⟩:=Sh.Av h0;have x:∀(_:Unit),b=Sum.inr ()->∀s,Wk 0 s ⟨20,AN [],[]⟩->B s:=by
   intro _ S s D;subst b;try dsimp only at h0
   refine u _ (AJ D (zr tb AA AA ?_));obtain rfl:=Sh.AB h0;exact rt [(2,.bool true)]
  refine AL (Af (σ:=Int) (λn v=>Fg N p0 n v=some b) (λc=>⟨20,AN [(9,ls Aj p0.AH),(10,i64 (Sh.len p0.AH)),(11,i64 c)],[]⟩) N 0 a (BF _ AA) (λ_ A=>by rw[Fg]at A;cases A) ?_);rintro n c a;try dsimp only at a⊢
  rw[Fg]at a;refine zr tb AA AA (AD λE e=>?_);refine ci a AA ?_ ?_<;>clear a<;>intro F a
  ·refine AG (e _ (AD λG f=>AL (sr AA λH g=>bs a λI h a=>zx GZ h AA AA AA (zq tb AA (Al (m:=0) AR Ni AA AA (Aq AR Nv AA AA AA AA AA AA qG rfl (dn g AA (sr AA λJ i=>zm tb 2 AA ?_))))))));refine bs a λj k a=>zc (hb 44) (PZ k) rfl AA AA (zq tb AA (dn i AA ?_));refine ci a AA ?_ ?_<;>clear a<;>intro l a
   ·have K:j=false:=by simpa using l
    refine zr tb AA AA ?_;obtain rfl:=Sh.AB a;try dsimp only[id]at h0
    obtain rfl:=Sh.AB h0;exact rd [(2,.bool false)]
   ·have L:j=true:=by simpa using l
    exact AG (f _ (AF AA (zm tb 2 AA (AE (xi (Sh.w (c+1)) a (BF _ AA))))))
  ·exact Ah (x () (Sh.AB a).symm _ (AI AA))
theorem N6 {N:Nat}{p0:(List Int)}{p1 r:Int}(h0:HI N p0 p1=some r):AS Tryz.prog 48 [ls eI p0,i64 p1] [] (λv st=>v=(i64 r)/\st=[]):=by
 unfold HI at h0;refine ai Tryz.func48 AA AA AA AA (zr tb AA AA (AD λk f=>sr AA λu g=>zq tb AA (zl tb AA AA (zq tb AA (dn g AA ?_)))));obtain⟨h,a,h0⟩:=Sh.Av h0;have l:∀(_:Unit),h=Sum.inr ()->∀s,Wk 0 s ⟨19,AN [],[]⟩->k s:=by
  intro _ x s m;subst h;try dsimp only at h0
  refine f _ (AJ m (zr tb AA AA ?_));obtain rfl:=Sh.AB h0;exact rt [(4,i64 (-1))]
 refine AL (Af (σ:=Int) (λn v=>CB p0 p1 n v=some h) (λe=>⟨19,AN [(0,ls eI p0),(1,i64 p1),(7,i64 (Sh.len p0)),(8,i64 e)],[]⟩) N 0 a (AI AA) (λ_ j=>by rw[CB]at j;cases j) ?_);rintro n e a;try dsimp only at a⊢
 rw[CB]at a;refine zr tb AA AA (AD λy i=>?_);refine ci a AA ?_ ?_<;>clear a<;>intro z a
 ·refine AG (i _ (AD λo b=>AL (zr tb AA AA (sr AA λp c=>zm tb 3 AA (bs a λq d a=>zx BD d AA AA AA (zm tb 2 AA (dn c AA ?_)))))));refine ci a AA ?_ ?_<;>clear a<;>intro t a
  ·refine zr tb AA AA ?_;obtain rfl:=Sh.AB a;try dsimp only[id]at h0
   obtain rfl:=Sh.AB h0;exact rt [(4,i64 e)]
  ·exact AG (b _ (AF AA (zm tb 2 AA (AE (xi (Sh.w (e+1)) a (AI AA))))))
 ·exact Ah (l () (Sh.AB a).symm _ (AI AA))
theorem JK {N:Nat}{p0:(List Int)}{p1:Int}{r:Bool}(h0:De N p0 p1=some r):AS Tryz.prog 22 [ls eI p0,i64 p1] [] (λv st=>v=(.bool r)/\st=[]):=by
 unfold De at h0;refine ai Tryz.func22 AA AA AA AA (zr tb AA AA (sr AA λd a=>zm tb 2 AA (bs h0 λc b h0=>zc (hb 48) (N6 b) rfl AA AA (zm tb 2 AA (dn a AA ?_)))));obtain rfl:=Sh.AB h0;exact rt [(4,.bool (decide (0<=c)))]
theorem Nh {p0:Int}{r:Bool}(h0:Jb p0=some r):AS Tryz.prog 133 [i64 p0] [] (λv st=>v=(.bool r)/\st=[]):=by
 unfold Jb at h0;refine ai Tryz.func133 AA AA AA AA ?_;iterate 2 refine zr tb rfl rfl ?_
 obtain rfl:=Sh.AB h0;exact rt [(2,.bool (!decide (p0=p0)))]
theorem Tj {p0 p1:Int}{r:Bool}(h0:J6 p0 p1=some r):AS Tryz.prog 93 [i64 p0,i64 p1] [] (λv st=>v=(.bool r)/\st=[]):=by
 unfold J6 at h0;refine ai Tryz.func93 AA AA AA AA (zr tb AA AA (AD λj e=>bs h0 λi a h0=>?_));have f:∀(d:Bool),i=d->∀s,Wk 0 s ⟨17,AN [(4,.bool d)],[]⟩->j s:=by
  intro d l s k;subst i;try dsimp only at h0
  refine e _ (AJ k ?_);obtain rfl:=Sh.AB h0;exact rt [(4,.bool d)]
 refine AF AA (zq tb AA (bs a λm g a=>zc (hb 133) (Nh g) rfl AA AA (zq tb AA ?_)));rcases Sh.AU a with ⟨b,a⟩|⟨b,a⟩
 ·refine zg tb b AA (bs a λn h a=>zd b (hb 133) (Nh h) rfl AA AA AA (zg tb b AA (zt b AA (zq tb AA ?_))));rcases Sh.AU a with ⟨c,a⟩|⟨c,a⟩
  ·exact zs c AA (zs c AA (zs c AA (zt c AA (zq tb AA (AE (f true (Sh.AB a).symm _ (AI AA)))))))
  ·exact zg tb c AA (zg tb c AA (zg tb c AA (zf c AA (zq tb AA (AE (f (decide (p0<p1)) (Sh.AB a).symm _ (AI AA)))))))
 ·refine zs b AA (zs b AA (zs b AA (zf b AA (zq tb AA ?_))));iterate 3 refine zg tb rfl rfl ?_
  exact zf AA AA (zq tb AA (AE (f (decide (p0<p1)) (Sh.AB a).symm _ (AI AA))))
theorem MC {p0:Int}{r:Bool}(h0:HU p0=some r):AS Tryz.prog 94 [i64 p0] [] (λv st=>v=(.bool r)/\st=[]):=by
 unfold HU at h0;refine ai Tryz.func94 AA AA AA AA ?_;iterate 2 refine zr tb rfl rfl ?_
 obtain rfl:=Sh.AB h0;exact rt [(2,.bool (!decide (p0=p0)))]
theorem JP {N:Nat}{p0:(List Int)}{p1:Int}{r:Int×Bool}(h0:Dp N p0 p1=some r):AS Tryz.prog 49 [ls eI p0,i64 p1] [] (λv st=>v=(Uj r.1 r.2)/\st=[]):=by
 unfold Dp at h0;refine ai Tryz.func49 AA AA AA AA (zr tb AA AA (sr AA λR y=>zq tb AA (zl tb AA AA (zq tb AA (dn y AA (zr tb AA AA (AD λE z=>bs h0 λA a h0=>?_)))))));have F:∀(j:Int),A=j->∀s,Wk 0 s ⟨54,AN [(0,ls eI p0),(1,i64 p1),(6,Eu p0),(7,i64 j)],[]⟩->E s:=by
  intro j G s B;subst A;try dsimp only at h0
  refine z _ (AJ B (AD λH C=>bs h0 λk a h0=>?_));have e:∀(f:Bool),k=f->∀s,Wk 0 s ⟨54,AN [(4,i64 j),(5,.bool f)],[]⟩->H s:=by
   intro f G s B;subst k;try dsimp only at h0
   refine C _ (AJ B ?_);obtain rfl:=Sh.AB h0;exact rt [(4,i64 j),(5,.bool f)]
  refine AF AA (zm tb 5 AA ?_);rcases Sh.AU a with ⟨b,a⟩|⟨b,a⟩
  ·refine zg tb b AA (zg tb b AA (bs a λl g a=>Ap (v:=(Jq l)) (BH AA AA b) rfl (Bc X1 AA AA g AA) ?_));iterate 4 refine zg tb b rfl ?_
   rcases Sh.AU a with ⟨c,a⟩|⟨c,a⟩
   ·refine zs c AA ?_;iterate 5 refine zs c rfl ?_
    iterate 2 refine zn rfl ?_
    exact zs c AA (Ap (v:=(.bool true)) (BH AA AA b) rfl (Cc AA c AA) (zt b AA (zm tb 2 AA (AE (e true (Sh.AB a).symm _ (AI AA))))))
   ·refine zg tb c AA (zg tb c AA (Ap (v:=(Jq l)) (BH AA AA c) rfl (Bc X1 AA AA g AA) (zg tb c AA (bs a λI m a=>zd c (hb 94) (MC m) rfl AA AA AA (zg tb c AA ?_)))));rcases Sh.AU a with ⟨d,a⟩|⟨d,a⟩
    ·exact zg tb d AA (bs a λi o a=>zd d (hb 94) (MC o) rfl AA AA AA (Ap (v:=(.bool i)) (BH AA AA c) rfl (Cc AA d AA) (Ap (v:=(.bool i)) (BH AA AA b) rfl (CO AA c AA) (zt b AA (zm tb 2 AA (AE (e i (Sh.AB a).symm _ (AI AA))))))))
    ·exact zs d AA (zs d AA (Ap (v:=(.bool false)) (BH AA AA c) rfl (CO AA d AA) (Ap (v:=(.bool false)) (BH AA AA b) rfl (CO AA c AA) (zt b AA (zm tb 2 AA (AE (e false (Sh.AB a).symm _ (AI AA))))))))
  ·refine zs b AA ?_;iterate 6 refine zs b rfl ?_
   iterate 9 refine zn rfl ?_
   exact zs b AA (zf b AA (zm tb 2 AA (AE (e false (Sh.AB a).symm _ (AI AA)))))
 refine AL (Af (σ:=Int×Int) (λn v=>BN p0 p1 n v.1 v.2=some A) (λ(h,j6)=>⟨54,AN [(0,ls eI p0),(1,i64 p1),(6,i64 (Sh.len p0)),(7,i64 h),(8,i64 j6)],[]⟩) N (0,Sh.len p0) a (AI AA) (λ_ D=>by rw[BN]at D;cases D) ?_);rintro n ⟨h,j6⟩ a;try dsimp only at a⊢
 rw[BN]at a;refine AD λJ p=>zr tb AA AA ?_;refine ci a AA ?_ ?_<;>clear a<;>intro K a
 ·refine AG (p _ (AL (sr AA λL q=>zm tb 3 AA (zz (.int .u64 (Sh.wk .u64 (Sh.w (h+j6)))) (fV gH AA) rfl ?_))));refine iy AR AA AA (by decide) ?_;refine zz (i64 (Sh.wk .i64 (Sh.shr .u64 (Sh.wk .u64 (Sh.w (h+j6))) 1))) (fV fw AA) rfl (zq tb AA (dn q AA (sr AA λM t=>zm tb 2 AA (bs a λO u a=>zx X1 u AA AA AA (zm tb 2 AA (bs a λP x a=>zc (hb 93) (Tj x) rfl AA AA (dn t AA ?_)))))));refine ci a AA ?_ ?_<;>clear a<;>intro Q a
  ·exact AF AA (zm tb 3 AA (AE (xi (Sh.w ((Sh.wk .i64 (Sh.shr .u64 (Sh.wk .u64 (Sh.w (h+j6))) 1))+1),j6) a (AI AA))))
  ·exact AF AA (zm tb 2 AA (AE (xi (h,Sh.wk .i64 (Sh.shr .u64 (Sh.wk .u64 (Sh.w (h+j6))) 1)) a (AI AA))))
 ·exact Ah (F h (Sh.AB a).symm _ (AI AA))
theorem Kp {p0:(List Int)}{r:(List Int)}(h0:D1 p0=some r):AS Tryz.prog 51 [ls eI p0] [] (λv st=>v=(ow 0 0 r)/\st=[BQ r]):=by
 unfold D1 at h0;refine ai Tryz.func51 AA AA AA AA (zr tb AA AA (AD λh c=>sr AA λi a=>zq tb AA ?_));refine TH AR lV AA (λg=>?_) ?_
 ·subst g;replace h0:some []=some r:=by rw[<- h0];first|rfl|simp[Sh.app]
  refine dn a AA (Fi (b:=true) rfl (λ_=>zr tb AA AA ?_) (λq=>nomatch (show true=false from (AA:true=true).symm.trans q)));obtain rfl:=Sh.AB h0;exact BG (Exists.intro _ (And.intro (((FG (t:=2) rfl 3 (size:=1) (by decide)).trans (Ao (L:=[(2,aR)]) (.same AA))).trans (Ao (L:=[(2,aR)]) (.same AA))) (And.intro AA AA)))
 ·refine dn a AA (Fi (b:=false) rfl (λq=>nomatch (show false=true from (AA:false=false).symm.trans q)) (λ_=>AG (c _ (sr AA λj d=>?_))));refine CE (m:=0) (l:=([]:List Int)) (enc:=eI) AR X1 (by decide) rfl AA AA AA AA AA ?_;refine zq tb AA (bs h0 λf e h0=>Cd (l2:=p0) AR X1 AA AA AA AA Nq (λ_=>AA) e AA (zq tb AA (dn d AA ?_)));obtain rfl:=Sh.AB h0;exact BG (xr (CJ (L:=[(2,ow 0 0 f)]) (st':=[BQ f]) (.pure (AK λ_=>AA) .nil) (.same AA)))
theorem Hj {N:Nat}{p0:(List Int)}{p1:Int}{r:(List Int)}(h0:DV N p0 p1=some r):AS Tryz.prog 23 [ls eI p0,i64 p1] [] (λv st=>v=(ls eI r)/\st=[]):=by
 unfold DV at h0;refine ai Tryz.func23 AA AA AA AA (zr tb AA AA (sr AA λj c=>zm tb 2 AA (bs h0 λh d h0=>zc (v':=(Uj h.1 h.2)) (hb 49) (JP d) rfl AA AA (zm tb 5 AA (dn c AA (AD λk e=>zr tb AA AA ?_))))));refine ci h0 AA ?_ ?_<;>clear h0<;>intro n h0
 ·refine zr tb AA AA ?_;obtain rfl:=Sh.AB h0;exact rt [(4,ls eI p0)]
 ·refine AG (e _ (sr AA λo f=>zq tb AA (bs h0 λi g h0=>BE (v':=(ow 0 0 i)) AR (hb 51) (Kp g) rfl AA ⟨(Ay λ_=>AA),mD⟩ AA AA (zm tb 2 AA ?_))));refine CE (m:=1) (l:=[p1]) (enc:=eI) AR BD (by decide) rfl AA AA AA AA AA ?_;refine bs h0 λa b h0=>?_;refine UD (rows0:=[BQ i,Qr p1]) (rows1:=[ro 1 3 1 eI a,Qr p1]) (st':=[ro 1 3 1 eI a,Qr p1]) (v':=(ow 0 1 a)) [0,1] AR (hb 50) (So b) rfl (by decide) rfl AA (.pure (AK λ_=>AA) (.pure (AK λ_=>AA) .nil)) rfl AA (.pure (AK λ_=>AA) (.pure (AK λ_=>AA) .nil)) .nil AA AA ?_;refine zq tb AA (dn f AA ?_);obtain rfl:=Sh.AB h0;exact BG (Exists.intro ⟨21,AN [(4,ls eI a)],[]⟩ (And.intro (by refine Wk.trans (Wk.CQ (L:=[(4,ls eI a)]) (st':=[⟨2,3,1,[]⟩,Qr p1]) (id:=0) rfl qM (AK λ_=>AA) ⟨.CQ AA,mD⟩ AA) ?_;exact Ab [] AA AA .nil (.same AA)) (And.intro AA AA)))
theorem QS {p0:Int}{r:Bool}(h0:Hi p0=some r):AS Tryz.prog 97 [i64 p0] [] (λv st=>v=(.bool r)/\st=[]):=by
 unfold Hi at h0;refine ai Tryz.func97 AA AA AA AA (zr tb AA AA (AD λi g=>bs h0 λh a h0=>?_));have e:∀(f:Bool),h=f->∀s,Wk 0 s ⟨17,AN [(2,.bool f)],[]⟩->i s:=by
  intro f k s j;subst h;try dsimp only at h0
  refine g _ (AJ j ?_);obtain rfl:=Sh.AB h0;exact rt [(2,.bool f)]
 refine AF AA (zm tb 3 AA ?_);rcases Sh.AU a with ⟨b,a⟩|⟨b,a⟩
 ·refine zs b AA (zs b AA (zt b AA (zq tb AA (zs AA AA (zs AA AA (zt AA AA (zq tb AA (zs AA AA (zs AA AA (zt AA AA (zq tb AA ?_)))))))))));exact AE (e true (Sh.AB a).symm _ (AI AA))
 ·refine zg tb b AA (zg tb b AA (zf b AA (zq tb AA ?_)));rcases Sh.AU a with ⟨c,a⟩|⟨c,a⟩
  ·exact zs c AA (zs c AA (zt c AA (zq tb AA (zs AA AA (zs AA AA (zt AA AA (zq tb AA (AE (e true (Sh.AB a).symm _ (AI AA))))))))))
  ·refine zg tb c AA (zg tb c AA (zf c AA (zq tb AA ?_)));rcases Sh.AU a with ⟨d,a⟩|⟨d,a⟩
   ·exact zs d AA (zs d AA (zt d AA (zq tb AA (AE (e true (Sh.AB a).symm _ (AI AA))))))
   ·exact zg tb d AA (zg tb d AA (zf d AA (zq tb AA (AE (e (decide (p0=11)) (Sh.AB a).symm _ (AI AA))))))
theorem Ng {N:Nat}{s0:(List Int)}{p0:Ag}{p2:Step}{r:(List Int)×(List Int)}(h0:Fp N s0 p0 p2=some r):AS Tryz.prog 52 [NS p0,ow 0 0 s0,Mb p2] [BQ s0] (λv st=>v=(.DX [ow 1 0 r.1,ls eI r.2])/\st=[BQ s0,BQ r.1]):=by
 unfold Fp at h0;refine ai Tryz.func52 AA AA AA AA (sr AA λK1 Q=>Aw (m:=1) AR AA AA AA AA AA (Aw (m:=2) AR AA AA AA AA AA (zm tb 2 AA (dn Q AA (AD λK2 R=>sr AA λK3 S=>zm tb 2 AA (bs h0 λq4 T h0=>zc (hb 97) (QS T) rfl AA AA (zq tb AA ?_)))))));refine dn S AA ?_;refine ci h0 AA ?_ ?_<;>clear h0<;>intro b5 h0
 ·have b6:q4=false:=by simpa using b5
  refine zr tb AA AA ?_;obtain rfl:=Sh.AB h0;exact BG (Exists.intro ⟨53,AN [(6,ka),(7,Yr)],[BQ s0,jL]⟩ (And.intro (by refine Wk.trans ((FG (t:=6) rfl 3 (size:=1) (by decide)).trans (Ao (L:=[(6,.own 3 0 (List.length ([]:List Int))),(7,.zc)]) ⟨.rfl,.rfl,mD⟩)) ?_;refine Wk.trans (Ab (L:=[(6,ka),(7,.zc)]) (st':=[BQ s0,jL]) [0,3] AA AA (.pure (AK λ_=>AA) (.pure (AK λ_=>AA) .nil)) ⟨.rfl,.rfl,mD⟩) ?_;exact Ao (L:=[(6,ka),(7,Yr)]) ⟨.rfl,.zc,mD⟩) (And.intro AA AA)))
 ·have b8:q4=true:=by simpa using b5
  refine AG (R _ (AD λK9 U=>sr AA λb2 y=>zm tb 2 AA (zl tb AA AA (zq tb AA (dn y AA (bs h0 λp h h0=>?_))))));have V:∀(b:(List Int)) (i:(List Int)),p=(b,i)->∀s,Wk 1 s ⟨53,AN [(6,ow 1 0 i),(7,Fs b)],[BQ s0,BQ i]⟩->K9 s:=by
   intro b i hq s z;subst p;try dsimp only at h0
   refine U _ (AJ z (zr tb AA AA ?_));obtain rfl:=Sh.AB h0;exact rt [(6,ow 1 0 i),(7,Fs b)]
  refine AL (Af (σ:=(List Int)×Int×(List Int)) (λn v=>CN N s0 p0 p2 n v.1 v.2.1 v.2.2=some p) (λ(a,d,g)=>⟨53,AN [(1,ow 0 0 s0),(3,.ptr 1 0 0 0),(5,.ptr 2 0 0 0),(6,ow 3 0 g),(7,ls eI a),(15,ls eI p2.args),(16,i64 (Sh.len p2.args)),(17,i64 d)],[ro 0 3 1 eI s0,⟨0,45,2,[Bp p0]⟩,br p2.op p2.num p2.BB p2.args p2.kids,ro 0 3 1 eI g]⟩) N ([],0,[]) h (by refine Wk.trans ((FG (t:=6) rfl 3 (size:=1) (by decide)).trans (Ao (L:=[(1,ow 0 0 s0),(3,.ptr 1 0 0 0),(5,.ptr 2 0 0 0),(6,.own 3 0 (List.length ([]:List Int))),(7,.zc),(15,ls eI p2.args),(16,i64 (Sh.len p2.args)),(17,i64 0)]) (.same AA))) ?_;exact Ao (L:=[(1,ow 0 0 s0),(3,.ptr 1 0 0 0),(5,.ptr 2 0 0 0),(6,.own 3 0 (List.length ([]:List Int))),(7,.sl (List.map eI [])),(15,ls eI p2.args),(16,i64 (Sh.len p2.args)),(17,i64 0)]) ⟨.rfl,.rfl,.rfl,.rfl,.zc,.rfl,.rfl,.rfl,mD⟩) (λ_ hv=>by rw[CN]at hv;cases hv) ?_);rintro n ⟨a,d,g⟩ h;try dsimp only at h⊢
  rw[CN]at h;refine zr tb AA AA (AD λb3 A=>?_);refine ci h AA ?_ ?_<;>clear h<;>intro b4 h
  ·refine AG (A _ (AD λW B=>bs h λC f h=>?_));have q:∀(c:(List Int)) (j:(List Int)),C=(c,j)->∀s,Wk 1 s ⟨53,AN [(1,ow 0 0 s0),(3,Dh),(5,G6),(6,ow 3 0 j),(7,Fs c),(15,Q2 p2),(16,aq p2),(17,i64 d)],((BQ s0)::ZO p0 p2 [BQ j])⟩->W s:=by
    intro c j hq s z;subst C;try dsimp only at h
    exact B _ (AJ z (AF AA (zm tb 2 AA (AE (xi (c,Sh.w (d+1),j) h (AI AA))))))
   refine AL (sr AA λb7 D=>zq tb AA (bs f λE F f=>zx BD F AA AA AA (zm tb 3 AA (dn D AA (AL (sr AA λb9 G=>zm tb 2 AA (bs f λX o f=>zz (TP E) (Cb BD AA AA AA AA o) rfl ?_)))))));refine zz (i64 X) (DQ Ie AA AA (Ed o) rfl) rfl (zm tb 2 AA (dn G AA ?_));refine ci f AA ?_ ?_<;>clear f<;>intro c0 f
   ·exact AG (q a g (Sh.AB f).symm _ (AI AA))
   ·refine AD λY H=>bs f λI k f=>?_;have J:∀(u:Bool),I=u->∀s,Wk 1 s ⟨53,AN [(1,ow 0 0 s0),(3,Dh),(5,G6),(6,ow 3 0 g),(7,Fs a),(8,i64 d),(9,i64 E),(15,Q2 p2),(16,aq p2),(17,i64 d),(32,.bool u)],((BQ s0)::ZO p0 p2 [BQ g])⟩->Y s:=by
     intro u hq s z;subst I;try dsimp only at f
     refine H _ (AJ z ?_);refine ci f AA ?_ ?_<;>clear f<;>intro c1 f
     ·exact AF AA (zm tb 2 AA (bs f λZ K f=>zc (hb 23) (Hj K) rfl AA AA (zq tb AA (AE (q Z g (Sh.AB f).symm _ (AI AA))))))
     ·refine AF AA (zm tb 2 AA ?_);refine CE (m:=4) (l:=[d]) (enc:=eI) AR BD (by decide) rfl AA AA AA AA AA ?_;refine bs f λx M f=>Cd (l2:=[d]) AR BD AA AA AA AA (H6 AA AA) (λ_=>AA) M AA (zq tb AA ?_);exact AE (q a x (Sh.AB f).symm _ (by refine Wk.trans (QO (L:=[(1,ow 0 0 s0),(3,Dh),(5,G6),(6,ow 3 0 x),(7,Fs a),(15,Q2 p2),(16,aq p2),(17,i64 d)]) (st':=((BQ s0)::ZO p0 p2 [BQ x,Qr d])) (.pure AA (AK λ_=>AA) (.raw AA AA AA (.raw AA AA AA (.pure AA (AK λ_=>AA) (.pure AA (AK λ_=>AA) .nil))))) (.same AA)) ?_;exact Ab [0,1,2,3] AA AA (.pure (AK λ_=>AA) (.raw AA AA (.raw AA AA (.pure (AK λ_=>AA) .nil)))) (.same AA)))
    refine AF AA (zm tb 4 AA ?_);rcases Sh.AU k with ⟨e,k⟩|⟨e,k⟩
    ·refine zg tb e AA ?_;iterate 3 refine zg tb e rfl ?_
     refine bs k λb0 O k=>Ap (v:=(.Bt (Dd b0) 0)) (BH AA AA e) rfl (Bc RL AA AA O AA) ?_;iterate 3 refine zg tb e rfl ?_
     exact bs k λb1 P k=>zd e (hb 22) (JK P) rfl AA AA AA (zt e AA (zq tb AA (AE (J b1 (Sh.AB k).symm _ (AI AA)))))
    ·refine zs e AA ?_;iterate 8 refine zs e rfl ?_
     exact zf e AA (zq tb AA (AE (J false (Sh.AB k).symm _ (AI AA))))
  ·exact Ah (V a g (Sh.AB h).symm _ (Ab [0,3] AA AA (.pure (AK λ_=>AA) (.pure (AK λ_=>AA) .nil)) (.same AA)))
theorem Fx {p0 p1:Int}{r:Step}(h0:Ek p0 p1=some r):AS Tryz.prog 53 [i64 p0,i64 p1] [] (λv st=>v=(.agg (Z1 r))/\st=(Oz r [])):=by
 unfold Ek at h0;refine AS.wk (r0:=(.agg (Z1 r))) (st0:=(Oz r [⟨0,97,5,[Z1 r]⟩])) ?_ (GA (L:=[(0,.agg (Z1 r))]) (st':=(Oz r [])) [0,1] AA (by decide) rfl AA (.pure (AK λ_=>AA) (.deep (AP λ_=>AA) mD)) (.same AA));refine ai Tryz.func53 AA AA AA AA (sr AA λc a=>Al (m:=0) AR Nl AA AA (dn a AA (sr AA λd b=>zm tb 2 AA ?_)));refine CE (m:=1) (l:=[p1]) (enc:=eI) AR BD (by decide) rfl AA AA AA AA AA ?_;refine zz (.agg [i64 p0,i64 0,i64 0,ow 1 0 [p1],.zc]) (Fo fP fc Nl AA AA) rfl (Aq AR L6 AA AA AA AA AA AA qG rfl (dn b AA ?_));obtain rfl:=Sh.AB h0;exact BG (Exists.intro _ (And.intro (((HR (id:=0) (st':=[⟨0,97,5,[[i64 p0,i64 0,i64 0,ow 1 0 [p1],iJ]]⟩,Qr p1,kJ]) (j:=4) rfl AA 52 (size':=2) (by decide) rfl AA AA AA).trans (CP (L:=[(4,G6)]) (st':=[Qr p1,kJ,⟨0,97,5,[[i64 p0,i64 0,i64 0,ow 0 0 [p1],jq]]⟩]) (st1:=[Qr p1,kJ,⟨0,97,5,[[i64 p0,i64 0,i64 0,ow 1 0 [p1],iJ]]⟩]) [1,2,0] AA AA (.pure (AK λ_=>AA) (.deep (AP λ_=>AA) (.raw AA AA .nil))) (.same AA))).trans (Ao (L:=[(4,G6)]) (.same AA))) (Ch (x:=.tmp 4) (off:=0) (cs:=[i64 p0,i64 0,i64 0,ow 0 0 [p1],jq]) (vs:=[i64 p0,i64 0,i64 0,ow 0 0 [p1],jq]) L6 AA AA AA qG rfl _ ⟨AA,AA⟩)))
theorem Ms {N:Nat}{qj:Ag->Block->(List Int)->(List Int)->Option (Block)}(rG :∀{p0:Ag} {p1:Block} {p2:(List Int)} {p3:(List Int)} {r:Block},qj p0 p1 p2 p3=some r->AS Tryz.prog 24 (eQ p0 p1 p2 p3) [] (λv st=>v=(PH r)/\st=[HL r])){p0:Ag}{p1:Block}{p2:(List Int)}{p3:(List Int)}{r:Block}(h0:FM N qj p0 p1 p2 p3=some r):AS Tryz.prog 55 (eQ p0 p1 p2 p3) [] (λv st=>v=(PH r)/\st=[HL r]):=by
 unfold FM at h0;refine AS.wk (r0:=(PH r)) (st0:=(kM r)) ?_ (GA (L:=[(0,PH r)]) (st':=[HL r]) [0] AA (by decide) rfl AA (.deep (AP An) mD) (.same AA));refine ai Tryz.func55 AA AA AA AA (sr AA λK1 b9=>Aw (m:=0) AR AA AA AA AA AA (Aa (Wk.CQ (L:=((1,DH p1)::Zf p2 p3 p0 [])) (st':=[⟨1,45,2,[]⟩]) (id:=0) rfl qM (IC AA) (.same AA) rfl) (Aw (m:=1) AR AA AA AA AA AA (Aa (Wk.CQ (L:=(Zf p2 p3 p0 [(5,T1 p1)])) (st':=[⟨1,45,2,[]⟩,da]) (id:=1) rfl qN (IC AA) (.same AA) rfl) (Al (m:=2) AR Hq AA AA (dn b9 AA ?_))))));iterate 2 refine zr tb rfl rfl ?_
 refine AD λK4 c0=>sr AA λK5 c1=>zq tb AA (zl tb AA AA (zq tb AA (dn c1 AA (bs h0 λQ I h0=>?_))));have c2:∀(a:(List Int)) (d:(List Step)),Q=(a,d)->∀s,Wk 0 s ⟨53,AN (Zf p2 p3 p0 [(5,T1 p1),(8,Bm),(9,Fs a),(10,ow 1 0 d)]),[Lc,HN d]⟩->K4 s:=by
  intro a d hq s hw;subst Q;try dsimp only at h0
  refine c0 _ (AJ hw (AD λc4 U=>?_));refine IX (by kernel_rfl) ?_;refine bs h0 λA M h0=>bs h0 λe O h0=>?_;refine MF (f':=10) (listed':=(bm 10 0)) rfl (by kernel_rfl) ?_;refine BL 0 (v:=(NS p0)) rfl AA (by kernel_rfl) (by kernel_rfl) (by kernel_rfl) rfl (Hb S5 AA qD rfl) ?_;refine BL 1 (v:=(DH p1)) rfl AA (by kernel_rfl) (by kernel_rfl) (by kernel_rfl) rfl (Hb Ho AA qD rfl) ?_;refine BL 2 (v:=(ls eI p2)) rfl AA (by kernel_rfl) (by kernel_rfl) (by kernel_rfl) rfl (CU (EK AA)) ?_;refine BL 3 (v:=(ls eI p3)) rfl AA (by kernel_rfl) (by kernel_rfl) (by kernel_rfl) rfl (CU (EK AA)) ?_;refine BL 6 (v:=(Fs a)) rfl AA (by kernel_rfl) (by kernel_rfl) (by kernel_rfl) rfl (CU (EK AA)) ?_;refine MI (KU λyM b=>?_);have o:yM 0 (bm 10 1023) ⟨53,AN [(8,Bm),(10,ow 1 0 d),(13,G6)],[Lc,HN d,⟨0,52,2,[iS e]⟩,HL e]⟩:=(b _ _ _).2 (by
   refine Jk AA (by kernel_rfl) ?_;refine U _ (sr AA λc5 V=>zm tb 3 AA ?_);refine CE (m:=4) (l:=[[ow 1 0 d],[ow 3 0 e.steps]]) (enc:=λx=>x) AR Y1 (by decide) rfl AA AA AA AA AA ?_;refine bs h0 λB W h0=>?_;refine hY (la:=d) (lb:=e.steps) (lr:=B) (enc:=(Bu 3 52 97)) (st':=[Lc,dV,⟨0,52,2,[iS e]⟩,dV,⟨1,50,1,[]⟩,HN B]) (q:=4) (ia:=1) (ib:=3) (gA:=0) (gB:=0) (gQ:=0) (m:=5) AR (hb 101) (Cg.RH W) rfl AA AA AA (by decide) (by decide) (by decide) rfl AA ?_;refine zq tb AA (Aq AR UZ AA AA AA AA AA AA qP rfl (dn V AA (sr AA λc6 X=>zq tb AA (Aq AR Ho AA AA AA AA AA AA qD rfl (dn X AA ?_)))));obtain rfl:=Sh.AB h0;exact BG (Exists.intro _ (And.intro ((CP (L:=[(8,Dh)]) (st':=[HN B,⟨0,52,2,[O8 B e.result]⟩]) (st1:=[HN B,⟨0,52,2,[[ow 5 0 B,i64 e.result]]⟩]) [5,0] AA AA (.deep (AP An) (.raw AA AA .nil)) (.same AA)).trans (Ao (L:=[(8,Dh)]) (.same AA))) (Ch (x:=.tmp 8) (off:=0) (cs:=(O8 B e.result)) (vs:=(O8 B e.result)) Ho AA AA AA qD rfl _ ⟨AA,AA⟩))))
  have f:yM 1 (bm 10 511) ⟨53,AN [(8,Bm),(10,ow 1 0 d),(13,G6),(45,.agg (iS e))],[Lc,HN d,Lc,HL e]⟩:=(b _ _ _).2 (by
   refine ya [9] ⟨?_,mD⟩
   ·refine yo 9 ?_;exact Aq AR Ho AA AA AA AA AA AA qD rfl (yd b o))
  have y:yM 2 (bm 10 255) ⟨53,AN [(8,Bm),(10,ow 1 0 d),(45,.agg [ow 2 0 e.steps,i64 e.result])],[Lc,HN d,HL e]⟩:=(b _ _ _).2 (by
   refine ya [8] ⟨?_,mD⟩
   ·refine yo 8 ?_;exact Al (m:=3) AR Hq AA AA (NL b f (by exact Ab [0,1,3,2] AA AA (.raw AA AA (.deep (AP An) (.raw AA AA (.deep (AP An) .nil)))) (.same AA))))
  have g:yM 2 (bm 10 383) ⟨53,AN (fj d p0 p1 [(43,ow 3 0 A),(44,Fs a)]),[Lc,HN d,Lc,BQ A]⟩:=(b _ _ _).2 (by
   refine ya [7] ⟨?_,mD⟩
   ·refine yo 7 ?_;exact Aa (Wk.CQ (L:=(fj d p0 p1 [(43,ls eI A),(44,Fs a)])) (st':=[Lc,HN d,Lc,⟨1,3,1,[]⟩]) (id:=3) rfl qQ (AK λ_=>AA) ⟨.rfl,.rfl,.rfl,.rfl,.rfl,.CQ AA,.rfl,mD⟩ AA) (BE (v':=(.agg [ow 4 0 e.steps,i64 e.result])) AR (hb 24) (rG O) rfl AA ⟨AP An,mD⟩ AA AA (NL b f (by exact Ab [0,1,2,4] AA AA (.raw AA AA (.deep (AP An) (.raw AA AA (.deep (AP An) .nil)))) (.same AA)))))
  have z:yM 3 (bm 10 127) ⟨53,AN (fW d p0 p1 [(43,ow 2 0 A),(44,Fs a)]),[Lc,HN d,BQ A]⟩:=(b _ _ _).2 (by
   refine ya [7,8] ⟨?_,?_,mD⟩
   ·refine yo 7 ?_;exact Aa (Wk.CQ (L:=(fW d p0 p1 [(43,ls eI A),(44,Fs a)])) (st':=[Lc,HN d,⟨1,3,1,[]⟩]) (id:=2) rfl qI (AK λ_=>AA) ⟨.rfl,.rfl,.rfl,.rfl,.CQ AA,.rfl,mD⟩ AA) (BE (v':=(.agg (iS e))) AR (hb 24) (rG O) rfl AA ⟨AP An,mD⟩ AA AA (NL b y (by exact Ab [0,1,3] AA AA (.raw AA AA (.deep (AP An) (.deep (AP An) .nil))) (.same AA))))
   ·refine yo 8 ?_;exact Al (m:=3) AR Hq AA AA (NL b g (by exact Ab [0,1,3,2] AA AA (.raw AA AA (.deep (AP An) (.raw AA AA (.pure (AK λ_=>AA) .nil)))) (.same AA))))
  have h:yM 3 (bm 10 351) ⟨53,AN (fj d p0 p1 [(42,ow 3 0 [p2,p3]),(44,Fs a)]),[Lc,HN d,Lc,ro 0 49 1 (eS eI) [p2,p3]]⟩:=(b _ _ _).2 (by
   refine ya [5] ⟨?_,mD⟩
   ·refine yo 5 ?_;exact Aa (Wk.CQ (L:=(fj d p0 p1 [(42,ls (eS eI) [p2,p3]),(44,Fs a)])) (st':=[Lc,HN d,Lc,⟨1,49,1,[]⟩]) (id:=3) rfl qQ (AK λ_=>AA) ⟨.rfl,.rfl,.rfl,.rfl,.rfl,.CQ AA,.rfl,mD⟩ AA) (BE (v':=(ow 4 0 A)) AR (hb 100) (F7 M) rfl AA ⟨(Ay λ_=>AA),mD⟩ AA AA (NL b g (by exact Ab [0,1,2,4] AA AA (.raw AA AA (.deep (AP An) (.raw AA AA (.pure (AK λ_=>AA) .nil)))) (.same AA)))))
  have C:yM 4 (bm 10 95) ⟨53,AN (fW d p0 p1 [(42,ow 2 0 [p2,p3]),(44,Fs a)]),[Lc,HN d,ro 0 49 1 (eS eI) [p2,p3]]⟩:=(b _ _ _).2 (by
   refine ya [5,8] ⟨?_,?_,mD⟩
   ·refine yo 5 ?_;exact Aa (Wk.CQ (L:=(fW d p0 p1 [(42,ls (eS eI) [p2,p3]),(44,Fs a)])) (st':=[Lc,HN d,⟨1,49,1,[]⟩]) (id:=2) rfl qI (AK λ_=>AA) ⟨.rfl,.rfl,.rfl,.rfl,.CQ AA,.rfl,mD⟩ AA) (BE (v':=(ow 3 0 A)) AR (hb 100) (F7 M) rfl AA ⟨(Ay λ_=>AA),mD⟩ AA AA (NL b z (by exact Ab [0,1,3] AA AA (.raw AA AA (.deep (AP An) (.pure (AK λ_=>AA) .nil))) (.same AA))))
   ·refine yo 8 ?_;exact Al (m:=3) AR Hq AA AA (NL b h (by exact Ab [0,1,3,2] AA AA (.raw AA AA (.deep (AP An) (.raw AA AA (.pure (AK λ_=>AA) .nil)))) (.same AA))))
  have D:yM 4 (bm 10 335) ⟨53,AN (fj d p0 p1 [(40,ls eI p2),(41,ls eI p3),(44,Fs a)]),[Lc,HN d,Lc]⟩:=(b _ _ _).2 (by
   refine ya [4] ⟨?_,mD⟩
   ·refine yo 4 ?_;refine CE (m:=3) (l:=[p2,p3]) (enc:=(eS eI)) AR Kr (by decide) rfl AA AA AA AA AA ?_;exact yd b h)
  have E:yM 5 (bm 10 79) ⟨53,AN (fW d p0 p1 [(40,ls eI p2),(41,ls eI p3),(44,Fs a)]),[Lc,HN d]⟩:=(b _ _ _).2 (by
   refine ya [4,8] ⟨?_,?_,mD⟩
   ·refine yo 4 ?_;refine CE (m:=2) (l:=[p2,p3]) (enc:=(eS eI)) AR Kr (by decide) rfl AA AA AA AA AA ?_;exact yd b C
   ·refine yo 8 ?_;exact Al (m:=2) AR Hq AA AA (yd b D))
  refine (b _ _ _).2 ?_;exact U5 b E
 refine AL (Af (σ:=(List Int)×Int×(List Step)) (λn v=>Bw N p2 p3 n v.1 v.2.1 v.2.2=some Q) (λ(u,T,K)=>⟨53,AN [(2,ls eI p2),(3,ls eI p3),(4,.Bt (Bp p0) 0),(5,.Bt [ls Bx p1.steps,i64 p1.result] 0),(8,.ptr 0 0 0 0),(9,ls eI u),(10,ow 1 0 K),(14,ls eI p3),(15,i64 (Sh.len p3)),(16,i64 T)],[Lc,ro 0 97 5 (Bu 3 52 97) K]⟩) N ([],0,[]) I (by refine Wk.trans ((FG (t:=10) rfl 97 (size:=5) (by decide)).trans (Ao (L:=[(2,ls eI p2),(3,ls eI p3),(4,.Bt (Bp p0) 0),(5,.Bt [ls Bx p1.steps,i64 p1.result] 0),(8,.ptr 2 0 0 0),(9,.zc),(10,.own 3 0 (List.length ([]:List Step))),(14,ls eI p3),(15,i64 (Sh.len p3)),(16,i64 0)]) ⟨.rfl,.rfl,.rfl,.rfl,.rfl,.rfl,.rfl,.rfl,.rfl,.rfl,mD⟩)) ?_;refine Wk.trans (Ab (L:=[(2,ls eI p2),(3,ls eI p3),(4,.Bt (Bp p0) 0),(5,.Bt [ls Bx p1.steps,i64 p1.result] 0),(8,.ptr 0 0 0 0),(9,.zc),(10,.own 1 0 (List.length ([]:List Step))),(14,ls eI p3),(15,i64 (Sh.len p3)),(16,i64 0)]) (st':=[Lc,ro 0 97 5 (Bu 3 52 97) ([]:List Step)]) [2,3] AA AA (.raw AA AA (.deep (AP An) .nil)) ⟨.rfl,.rfl,.rfl,.rfl,.rfl,.rfl,.rfl,.rfl,.rfl,.rfl,mD⟩) ?_;exact Ao (L:=[(2,ls eI p2),(3,ls eI p3),(4,.Bt (Bp p0) 0),(5,.Bt [ls Bx p1.steps,i64 p1.result] 0),(8,.ptr 0 0 0 0),(9,.sl (List.map eI [])),(10,.own 1 0 (List.length ([]:List Step))),(14,ls eI p3),(15,i64 (Sh.len p3)),(16,i64 0)]) ⟨.rfl,.rfl,.rfl,.rfl,.rfl,.zc,.rfl,.rfl,.rfl,.rfl,mD⟩) (λ_ hv=>by rw[Bw]at hv;cases hv) ?_);rintro n ⟨u,T,K⟩ I;try dsimp only at I⊢
 rw[Bw]at I;refine zr tb AA AA (AD λc7 Y=>?_);refine ci I AA ?_ ?_<;>clear I<;>intro c8 I
 ·refine AG (Y _ (AD λc3 Z=>bs I λb0 G I=>?_));have b1:∀(k:(List Int)) (J:(List Step)),b0=(k,J)->∀s,Wk 0 s ⟨53,AN (Zf p2 p3 p0 [(5,T1 p1),(8,Bm),(9,Fs k),(10,ow 1 0 J),(14,ls eI p3),(15,Eu p3),(16,i64 T)]),[Lc,HN J]⟩->c3 s:=by
   intro k J hq s hw;subst b0;try dsimp only at I
   exact Z _ (AJ hw (AF AA (zm tb 2 AA (AE (xi (k,Sh.w (T+1),J) I (AI AA))))))
  refine AL (sr AA λc9 b2=>zq tb AA (bs G λb3 b4 G=>zx BD b4 AA AA AA (zm tb 3 AA (dn b2 AA (zr tb AA AA ?_)))));refine ci G AA ?_ ?_<;>clear G<;>intro b5 G
  ·have d0:decide (b3=0)=false:=by simpa using b5
   refine sr AA λd1 b6=>zm tb 2 AA (zl tb AA AA (zm tb 2 AA (bs G λR b7 G=>zc (hb 23) (Hj b7) rfl AA AA (zq tb AA (dn b6 AA (AF AA (zm tb 2 AA (zl tb AA AA (zm tb 2 AA ?_)))))))));refine bs G λp b8 G=>BE (v':=(.agg (ig p))) AR (hb 53) (Fx b8) rfl AA ⟨(Ay λ_=>AA),⟨(AP λ_=>AA),mD⟩⟩ AA AA ?_;refine CE (m:=4) (l:=[()]) (enc:=λ_=>(ig p)) AR DT (by decide) rfl AA AA AA AA AA ?_;refine bs G λH P G=>?_;have S:=NB P;refine PC (st':=(Lc::⟨1,97,5,hole H (Bu 3 52 97) (Sh.len K) (ig p)⟩::Oz p [⟨0,97,5,[ig p]⟩])) (c:=p) AR DT AA AA AA AA AA AA AA P AA ?_;refine Aa (Wk.take (id:=1) (m:=2) (j:=3) (i:=Sh.len K) (c:=p) (ys:=p.args) (encY:=eI) rfl S AA AA AA (by decide) qI (λ_=>AA) rfl AA) ?_;refine Aa (Wk.take (id:=1) (m:=3) (j:=4) (i:=Sh.len K) (c:=p) (ys:=p.kids) (encY:=(Co 3 52 97)) rfl S AA AA AA (by decide) qQ (λ_=>AA) rfl AA) ?_;refine Aa (HD (id:=1) (i:=Sh.len K) (c:=p) rfl S (DK p).symm AA) (zq tb AA ?_);exact AE (b1 R H (Sh.AB G).symm _ (by refine Wk.trans (Ab (L:=(Zf p2 p3 p0 [(5,T1 p1),(8,Bm),(9,ls eI R),(10,ow 1 1 H),(14,ls eI p3),(15,Eu p3),(16,i64 T)])) (st':=[Lc,gK H]) [0,1] AA AA (.raw AA AA (.deep (AP An) .nil)) ⟨.rfl,.rfl,.rfl,.rfl,.rfl,.rfl,.rfl,.rfl,.rfl,.rfl,mD⟩) ?_;exact CJ (L:=(Zf p2 p3 p0 [(5,T1 p1),(8,Bm),(9,ls eI R),(10,ow 1 0 H),(14,ls eI p3),(15,Eu p3),(16,i64 T)])) (st':=[Lc,HN H]) (.raw AA AA (.deep (AP An) .nil)) ⟨.rfl,.rfl,.rfl,.rfl,.rfl,.rfl,.rfl,.rfl,.rfl,.rfl,mD⟩))
  ·have d2:decide (b3=0)=true:=by simpa using b5
   exact AG (b1 u K (Sh.AB G).symm _ (AI AA))
 ·exact Ah (c2 u K (Sh.AB I).symm _ (AI AA))
theorem LD {s0:(List Block)}{p0 r:Step}(h0:Gi s0 p0=some r):AS Tryz.prog 56 [Mb p0,ow 0 0 s0] [IQ s0] (λv st=>v=(.agg (iD r s0))/\st=[IQ s0,Q4 r]):=by
 unfold Gi at h0;refine AS.wk (r0:=(.agg (iD r s0))) (st0:=[IQ s0,Q4 r,⟨0,97,5,[iD r s0]⟩]) ?_ (GA (L:=[(0,.agg (iD r s0))]) (st':=[IQ s0,Q4 r]) [0,1] AA (by decide) rfl AA (.deep (AP λ_=>AA) (.pure (AK λ_=>AA) mD)) (.same AA));refine ai Tryz.func56 AA AA AA AA (sr AA λf b=>Aw (m:=1) AR AA AA AA AA AA (Al (m:=2) AR Nl AA AA (dn b AA (sr AA λg c=>zm tb 2 AA (bs h0 λa d h0=>BE (v':=(ow 3 0 a)) AR (hb 47) (Bn d) rfl AA ⟨(Ay λ_=>AA),mD⟩ AA AA (zm tb 2 AA (Aq AR Ky AA AA AA AA AA AA (show 3+1<=5 by decide) rfl (zq tb AA ?_))))))));refine Aq AR cX AA AA AA AA AA AA qb rfl (dn c AA (sr AA λh e=>zq tb AA (Aq AR L6 AA AA AA AA AA AA qG rfl (dn e AA ?_))));obtain rfl:=Sh.AB h0;exact BG (Exists.intro _ (And.intro ((CP (L:=[(4,G6)]) (st':=[IQ s0,BQ a,⟨0,97,5,[jf p0 a s0]⟩]) (st1:=[IQ s0,BQ a,⟨0,97,5,[[i64 p0.op,i64 p0.num,i64 p0.BB,ow 3 0 a,ow 0 0 s0]]⟩]) [0,3,2] AA AA (.deep (AP λ_=>AA) (.pure (AK λ_=>AA) (.raw AA AA .nil))) (.same AA)).trans (Ao (L:=[(4,G6)]) (.same AA))) (Ch (x:=.tmp 4) (off:=0) (cs:=(jf p0 a s0)) (vs:=(jf p0 a s0)) L6 AA AA AA qG rfl _ ⟨AA,AA⟩)))
theorem IN {N:Nat}{p0:Ag}{p1:(List Int)}{p2:(List Block)}{p3:(List (List Int))}{r:Int×Bool}(h0:Df N p0 p1 p2 p3=some r):AS Tryz.prog 103 [NS p0,ls eI p1,ls Bq p2,ls (eS eI) p3] [] (λv st=>v=(Uj r.1 r.2)/\st=[]):=by
 unfold Df at h0;refine ai Tryz.func103 AA AA AA AA (sr AA λW B=>Aw (m:=0) AR AA AA AA AA AA (zm tb 2 AA (dn B AA (zr tb AA AA (AD λJ C=>sr AA λX D=>zq tb AA (zl tb AA AA (zq tb AA (dn D AA ?_))))))));obtain⟨E,b,h0⟩:=Sh.Av h0;have K:∀(ra:Int),E=Sum.inr ra->∀s,Wk 0 s ⟨45,AN [(10,i64 ra)],[]⟩->J s:=by
  intro ra M s F;subst E;try dsimp only at h0
  refine C _ (AJ F (zr tb AA AA ?_));obtain rfl:=Sh.AB h0;exact rt [(8,i64 ra),(9,.bool true)]
 refine AL (Af (σ:=Int×Int) (λn v=>CW N p0 p1 p2 p3 n v.1 v.2=some E) (λ(rR,A)=>⟨45,AN [(1,ls eI p1),(3,ls (eS eI) p3),(4,.ptr 0 0 0 0),(10,i64 rR),(14,ls Bq p2),(15,i64 (Sh.len p2)),(16,i64 A)],[⟨0,45,2,[Bp p0]⟩]⟩) N (-1,0) b (AI AA) (λ_ I=>by rw[CW]at I;cases I) ?_);rintro n ⟨rR,A⟩ b;try dsimp only at b⊢
 rw[CW]at b;refine zr tb AA AA (AD λO h=>?_);refine ci b AA ?_ ?_<;>clear b<;>intro P b
 ·refine AG (h _ (AD λQ i=>AL (sr AA λR j=>zq tb AA (bs b λS k b=>zx JF k AA AA AA (zq tb AA (Al (m:=1) AR Hq AA AA (zq tb AA (Aq AR Ho AA AA AA AA AA AA qD rfl (dn j AA ?_)))))))));refine AD λT o=>?_;refine CC 10 (by kernel_rfl) (by kernel_rfl) (by rfl) ?_;iterate 4 refine yq tb rfl ?_
  refine bs b λG p b=>yx Kr p AA AA AA (yq tb AA ?_);refine XU (l:=[p1,G]) (enc:=(eS eI)) AR Kr (by decide) rfl AA AA AA AA (AK λ_=>AA) ?_;refine bs b λq t b=>?_;refine CI (v:=(ls eI q)) AR (hb 100) (AS.wk (F7 t) (by refine Wk.trans (Wk.CQ (L:=[(0,ls eI q)]) (st':=XH) (id:=0) rfl qM (AK λ_=>AA) ⟨.CQ AA,mD⟩ AA) ?_;exact Ab [] AA AA .nil (.same AA))) rfl AA AA ?_;refine yq tb AA (bs b λd u b=>CI (v:=(i64 d)) AR (hb 84) (IV u) rfl AA AA (BO (zq tb AA (dn o AA (AD λU x=>AD λH y=>bs b λz e b=>?_)))));have f:∀(g:Bool),z=g->∀s,Wk 0 s ⟨45,AN [(1,ls eI p1),(3,ls (eS eI) p3),(4,Bm),(13,i64 d),(14,ls Bq p2),(15,Eu p2),(16,i64 A),(41,.bool g)],[Nc p0]⟩->H s:=by
   intro g M s F;subst z;try dsimp only at b
   refine y _ (AJ F ?_);refine ci b AA ?_ ?_<;>clear b<;>intro V b
   ·refine zr tb AA AA ?_;obtain rfl:=Sh.AB b;try dsimp only[id]at h0
    obtain rfl:=Sh.AB h0;exact rd (eN [])
   ·exact AG (x _ (AF AA (zm tb 2 AA (dn i AA (AF AA (zm tb 2 AA (AE (xi (d,Sh.w (A+1)) b (AI AA)))))))))
  refine AF AA (zm tb 3 AA ?_);rcases Sh.AU e with ⟨a,e⟩|⟨a,e⟩
  ·refine zs a AA (zs a AA (zs a AA ?_));iterate 3 refine zn rfl ?_
   refine zs a AA (zt a AA ?_);exact AE (f true (Sh.AB e).symm _ (Ab [0] AA AA (.raw AA AA .nil) (.same AA)))
  ·refine zg tb a AA (zg tb a AA (zg tb a AA ?_));rcases Sh.AU e with ⟨c,e⟩|⟨c,e⟩
   ·refine zg tb c AA (zg tb c AA (zg tb c AA (Ap (v:=(.bool (!decide (d=rR)))) (BH AA AA a) rfl (Cc AA c AA) (zf a AA ?_))));exact AE (f (!decide (d=rR)) (Sh.AB e).symm _ (Ab [0] AA AA (.raw AA AA .nil) (.same AA)))
   ·refine zs c AA (zs c AA (zs c AA (Ap (v:=(.bool false)) (BH AA AA a) rfl (CO AA c AA) (zf a AA ?_))));exact AE (f false (Sh.AB e).symm _ (Ab [0] AA AA (.raw AA AA .nil) (.same AA)))
 ·exact Ah (K rR (Sh.AB b).symm _ (BF _ AA))
end Go.Proofs.YtgiajkaabnbieaaGreat
