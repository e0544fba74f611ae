import Derived.Test.YtccficmcdkcpnaaGreatBOWalkP0
set_option linter.all false
namespace Go.Proofs.YtccficmcdkcpnaaGreat
open Go Go.Abs RC
attribute [local irreducible] Go.Abs.DI
set_option maxRecDepth 100000
set_option maxHeartbeats 4000000
theorem fC:G4 Tryz.prog 104=true:=by kernel_rfl
theorem gZ:G4 Tryz.prog 106=true:=by kernel_rfl
theorem jn:G4 Tryz.prog 122=true:=by kernel_rfl
theorem cK:G4 Tryz.prog 30=true:=by kernel_rfl
theorem jS:G4 Tryz.prog 48=true:=by kernel_rfl
theorem gC:G4 Tryz.prog 50=true:=by kernel_rfl
theorem ja:G4 Tryz.prog 65=true:=by kernel_rfl
theorem lZ:G4 Tryz.prog 80=true:=by kernel_rfl
theorem fO:Ij Tryz.prog 104=some [(0,1),(1,1),(2,1)]:=by kernel_rfl
theorem gV:Ij Tryz.prog 106=some [(0,1)]:=by kernel_rfl
theorem kR:Ij Tryz.prog 122=some [(0,1),(1,1),(2,1)]:=by kernel_rfl
theorem cF:Ij Tryz.prog 30=some [(0,1),(1,1)]:=by kernel_rfl
theorem jP:Ij Tryz.prog 48=some [(0,1),(1,1)]:=by kernel_rfl
theorem ef:Ij Tryz.prog 50=some [(0,1),(1,1),(2,1),(3,2)]:=by kernel_rfl
theorem jQ:Ij Tryz.prog 65=some [(0,1),(1,1)]:=by kernel_rfl
theorem lv:Ij Tryz.prog 80=some [(0,1),(1,1),(2,1),(3,1),(4,1)]:=by kernel_rfl
theorem I4:CH Tryz.prog 134=some ⟨45,1,24,[.sl []]⟩:=by kernel_rfl
theorem To:CH Tryz.prog 63=some ⟨122,3,56,[.sl [],.sl [],.int .i64 0]⟩:=by kernel_rfl
theorem mG:Program.underlying Tryz.prog 3=some (.int .i64):=by kernel_rfl
theorem cG:B1 Tryz.prog 63=true:=by kernel_rfl
theorem kP:CF Tryz.prog 122=some (true,3):=by kernel_rfl
theorem lX:CF Tryz.prog 63=some (false,1):=by kernel_rfl
theorem XG:CF Tryz.prog 65=some (true,2):=by kernel_rfl
theorem fl:Gz Tryz.prog 122=some [.zc,.zc,.int .i64 0]:=by kernel_rfl
theorem mL:Gz Tryz.prog 3=some [.int .i64 0]:=by kernel_rfl
theorem Z9:Gz Tryz.prog 65=some [.zc,.zc]:=by kernel_rfl
theorem B7 {N:Nat}{p0:AL}{r:(List (List Int))}(h0:G7 N p0=some r):Ay 90 [Ej p0] [] (ow 0 0 r) [SI r]:=by
 unfold G7 at h0;refine ai Tryz.func90 AA AA AA AA (sr AA λW C=>Az (m:=0) AN AA AA AA AA AA (zq tb AA (dn C AA (sr AA λX D=>Cn (m:=1) (l:=([]:List (List Int))) (enc:=(eS eI)) AN I4 (by decide) rfl AA AA AA AA AA (zq tb AA (dn D AA (AD λK E=>zr tb AA AA (bs h0 λF b h0=>?_))))))));have M:∀i,F=i->∀s,Wk 0 s ⟨31,AM [(3,ow 0 0 i)],[SI i]⟩->K s:=by
  intro i O s G;subst F;try dsimp only at h0
  refine E _ (AJ G (zr tb AA AA ?_));obtain rfl:=Sh.AF h0;exact rt [(2,ow 0 0 i)]
 refine AK (AT (σ:=Int×(List (List Int))) (λn v=>DB N p0 n v.1 v.2=some F) (λ(e,f)=>⟨31,AM [(1,.ptr 0 0 0 0),(3,ow 1 0 f),(4,i64 e)],[IU p0.decls p0.AB,ro 0 45 1 (eS eI) f]⟩) N (0,[]) b (AI AA) (λ_ J=>by rw[DB]at J;cases J) ?_);rintro n ⟨e,f⟩ b;rw[DB]at b;refine AD λP j=>sr AA λQ k=>zm tb 3 AA (zl tb AA AA (zq tb AA (dn k AA ?_)));refine ci b AA ?_ ?_<;>intro R b
 ·refine AH (j _ (AD λH o=>bs b λp a b=>?_));have q:∀c,p=c->∀s,Wk 0 s ⟨31,AM [(1,BL),(3,ow 1 0 c),(4,i64 e)],[IU p0.decls p0.AB,SI c]⟩->H s:=by
   intro c O s G;subst p;exact o _ (AJ G (AG AA (zm tb 3 AA (AE (xi (Sh.w (e+1),c) b (AI AA))))))
  refine AK (sr AA λS t=>zm tb 2 AA (bs a λT u a=>zc (hb 153) (Sf u) rfl AA AA (dn t AA ?_)));refine ci a AA ?_ ?_<;>intro U a
  ·refine AG AA (zq tb AA (Cn (m:=2) (l:=([]:List Int)) (enc:=eI) AN BH (by decide) rfl AA AA AA AA AA (Aa (Wk.Ct (L:=[(1,BL),(4,i64 e),(16,ow 1 0 f),(17,bc)]) (st':=[IU p0.decls p0.AB,SI f,⟨1,3,1,[]⟩]) (id:=2) rfl qm (Ac λ_=>AA) ⟨.rfl,.rfl,.rfl,.Ct AA,mV⟩ AA) (Cn (m:=3) (l:=([[]])) (enc:=(eS eI)) AN I4 (by decide) rfl AA AA AA AA AA (bs a λg y a=>EI (l2:=([[]])) AN I4 AA AA AA AA (MQ AA AA) (λ_=>AA) y AA (zq tb AA ?_))))));exact AE (q g (Sh.AF a).symm _ (by refine Wk.trans (CP (L:=[(1,BL),(3,ow 1 0 g),(4,i64 e)]) (st':=[IU p0.decls p0.AB,SI g,⟨0,3,1,[]⟩,ro 0 45 1 (eS eI) ([[]])]) (.raw AA AA (.pure (Ac λ_=>AA) (.pure (by intro x I;cases I) (.pure (Ac λ_=>AA) .nil)))) (.same AA)) ?_;exact Ag [0,1] AA AA (.w (.p .nil)) (.same AA)))
  ·refine AG AA (zm tb 4 AA (bs a λV z a=>zx Ez z AA AA AA (zm tb 2 AA (bs a λd A a=>A8 (v':=(ow 2 0 d)) AN (hb 154) (Sb A) rfl AA ⟨(A9 λ_=>AA),mV⟩ AA AA (Aa (Wk.Ct (L:=[(1,BL),(4,i64 e),(20,ow 1 0 f),(27,ls eI d)]) (st':=[IU p0.decls p0.AB,SI f,⟨1,3,1,[]⟩]) (id:=2) rfl qm (Ac λ_=>AA) ⟨.rfl,.rfl,.rfl,.Ct AA,mV⟩ AA) (Cn (m:=3) (l:=[d]) (enc:=(eS eI)) AN I4 (by decide) rfl AA AA AA AA AA (bs a λh B a=>EI (l2:=[d]) AN I4 AA AA AA AA (MQ AA AA) (λ_=>AA) B AA (zq tb AA ?_))))))));exact AE (q h (Sh.AF a).symm _ (by refine Wk.trans (CP (L:=[(1,BL),(3,ow 1 0 h),(4,i64 e)]) (st':=[IU p0.decls p0.AB,SI h,⟨0,3,1,[]⟩,ro 0 45 1 (eS eI) [d]]) (.raw AA AA (.pure (Ac λ_=>AA) (.pure (by intro x I;cases I) (.pure (Ac λ_=>AA) .nil)))) (.same AA)) ?_;exact Ag [0,1] AA AA (.w (.p .nil)) (.same AA)))
 ·exact Ad (M f (Sh.AF b).symm _ (Ag [1] AA AA (.p .nil) (.same AA)))
theorem RA {N:Nat}{p0:(List AR)}{r:(List AR)}(h0:Hg N p0=some r):Ay 71 [Df p0] [] (ow 0 0 r) [bT r]:=by
 unfold Hg at h0;refine ai Tryz.func71 AA AA AA AA (zr tb AA AA (sr AA λK2 K=>Cn (m:=0) (l:=([]:List AR)) (enc:=Ak) AN DZ (by decide) rfl AA AA AA AA AA (zq tb AA (dn K AA (AD λT M=>zr tb AA AA (bs h0 λO c h0=>?_))))));have U:∀t,O=t->∀s,Wk 0 s ⟨55,AM [(3,ow 0 0 t)],[bT t]⟩->T s:=by
  intro t V s P;subst O;try dsimp only at h0
  refine M _ (AJ P (zr tb AA AA ?_));obtain rfl:=Sh.AF h0;exact rt [(2,ow 0 0 t)]
 refine AK (AT (σ:=Int×(List AR)) (λn v=>EF N p0 n v.1 v.2=some O) (λ(i,d)=>⟨55,AM [(0,ls Ak p0),(3,ow 0 0 d),(4,i64 i)],[ro 0 104 3 Ak d]⟩) N (0,[]) c (AI AA) (λ_ u=>by rw[EF]at u;cases u) ?_);rintro n ⟨i,d⟩ c;rw[EF]at c;refine AD λW y=>sr AA λX z=>zm tb 2 AA (zl tb AA AA (zq tb AA (dn z AA ?_)));refine ci c AA ?_ ?_<;>intro Y c
 ·refine AH (y _ (AD λZ A=>AK (sr AA λb0 B=>Cn (m:=1) (l:=([]:List BN)) (enc:=BR) AN HC (by decide) rfl AA AA AA AA AA (zq tb AA (dn B AA (AD λQ C=>zr tb AA AA (bs c λo a c=>?_)))))));have R:∀b,o=b->∀s,Wk 0 s ⟨55,AM [(0,Df p0),(3,ow 0 0 d),(4,i64 i),(5,ow 1 0 b)],[bT d,ro 0 106 1 BR b]⟩->Q s:=by
   intro b V s P;subst o;refine C _ (AJ P (AJ (Wk.Ct (L:=[(0,Df p0),(3,ow 0 0 d),(4,i64 i),(5,ls BR b)]) (st':=[bT d,⟨1,106,1,[]⟩]) (id:=1) rfl qo (Ac λ_=>AA) ⟨.rfl,.rfl,.rfl,.Ct AA,mV⟩ AA) (B3 14 (by kernel_rfl) (by kernel_rfl) (by rfl) ?_)));iterate 3 refine yq tb rfl ?_
   refine bs c λe j c=>yx DZ j AA AA AA ?_;iterate 4 refine yq tb rfl ?_
   refine yx DZ j AA AA AA ?_;iterate 3 refine yq tb rfl ?_
   refine yz (.agg [i64 e.from_,i64 e.to,ls BR b]) (HU fC fO Fy AA AA) rfl (ZX (l:=[AR.mk e.from_ e.to b]) (enc:=Ak) AN DZ (by decide) rfl AA AA AA AA (Ac λ_=>AA) (BG (bs c λp D c=>EI (l2:=[AR.mk e.from_ e.to b]) AN DZ AA AA AA AA OV (λ_=>AA) D AA (zq tb AA (dn A AA (AG AA (zm tb 3 AA ?_)))))));exact AE (xi (Sh.w (i+1),p) c (by refine Wk.trans (CP (L:=[(0,Df p0),(3,ow 0 0 p),(4,MY i)]) (st':=[bT p,⟨0,106,1,[]⟩]) (.pure (Ac λ_=>AA) (.pure (by intro x S;cases S) .nil)) (.same AA)) ?_;exact Ag [0] AA AA (.p .nil) (.same AA)))
  refine AK (AT (σ:=Int×(List BN)) (λn v=>DU i p0 n v.1 v.2=some o) (λ(h,f)=>⟨55,AM [(0,ls Ak p0),(3,ow 0 0 d),(4,i64 i),(5,ow 1 0 f),(6,i64 h)],[ro 0 104 3 Ak d,ro 0 106 1 BR f]⟩) N (0,[]) a (AI AA) (λ_ u=>by rw[DU]at u;cases u) ?_);rintro n ⟨h,f⟩ a;rw[DU]at a;refine AD λb1 E=>sr AA λb2 F=>zm tb 3 AA (bs a λb3 k a=>zx DZ k AA AA AA (zm tb 2 AA (zl tb AA AA (zq tb AA (dn F AA ?_)))));refine ci a AA ?_ ?_<;>intro b4 a
  ·refine AH (E _ (AD λb5 G=>AK (AG AA (zm tb 3 AA (zx DZ k AA AA AA (zm tb 3 AA (bs a λb6 H a=>zx HC H AA AA AA (zm tb 2 AA (bs a λg I a=>A8 (v':=(ow 2 0 g)) AN (hb 113) (F3 I) rfl AA ⟨(A9 λ_=>AA),mV⟩ AA AA (zz (.agg [ow 2 0 g]) (HU gZ gV Mw AA AA) rfl (Aa (Wk.Ct (L:=[(0,Df p0),(3,ow 0 0 d),(4,i64 i),(6,i64 h),(25,ow 1 0 f),(36,.agg [ls eI g])]) (st':=[bT d,ro 0 106 1 BR f,⟨1,3,1,[]⟩]) (id:=2) rfl qm (Ac λ_=>AA) ⟨.rfl,.rfl,.rfl,.rfl,.rfl,.agg ⟨.Je AA,mV⟩,mV⟩ AA) (Cn (m:=3) (l:=[BN.mk g]) (enc:=BR) AN HC (by decide) rfl AA AA AA AA AA (bs a λq J a=>EI (l2:=[BN.mk g]) AN HC AA AA AA AA (MQ AA AA) (λ_=>AA) J AA (zq tb AA (dn G AA (AG AA (zm tb 3 AA ?_)))))))))))))))));exact AE (xi (Sh.w (h+1),q) a (by refine Wk.trans (CP (L:=[(0,Df p0),(3,ow 0 0 d),(4,i64 i),(5,ow 1 0 q),(6,MY h)]) (st':=[bT d,ro 0 106 1 BR q,⟨0,3,1,[]⟩,ro 0 106 1 BR [BN.mk g]]) (.pure (Ac λ_=>AA) (.pure (Ac λ_=>AA) (.pure (by intro x S;cases S) (.pure (Ac λ_=>AA) .nil)))) (.same AA)) ?_;exact Ag [0,1] AA AA (.p (.p .nil)) (.same AA)))
  ·exact Ad (R f (Sh.AF a).symm _ (AI AA))
 ·exact Ad (U d (Sh.AF c).symm _ (AI AA))
theorem R8 {N:Nat}{rN:Block->Option (Block)}(sI :∀{p0:Block} {r:Block},rN p0=some r->Ay 152 [DS p0] [] (DS r) []){p0 r:Step}(h0:IJ N rN p0=some r):Ay 213 [Od p0] [] (Od r) []:=by
 unfold IJ at h0;refine FH AA (ai Tryz.func213 AA AA AA AA (sr AA λK t=>Az (m:=0) AN AA AA AA AA AA (Aj (m:=1) AN Nk AA AA (dn t AA (sr AA λM u=>Cn (m:=2) (l:=([]:List Block)) (enc:=Bg) AN Hs (by decide) rfl AA AA AA AA AA (zq tb AA (dn u AA (AD λC y=>zr tb AA AA (bs h0 λz a h0=>?_)))))))));have D:∀d,z=d->∀s,Wk 0 s ⟨33,AM [(1,BL),(2,Ei),(3,ow 2 0 d)],[Y2 p0.op p0.num p0.A5 p0.args p0.kids,jG,ro 0 48 2 Bg d]⟩->C s:=by
  intro d O s E;subst z;refine y _ (AJ E (AD λP A=>B3 11 (by kernel_rfl) (by kernel_rfl) (by rfl) ?_));iterate 8 refine yq tb rfl ?_
  refine bs h0 λb f h0=>?_;refine CU (v:=(ls eI b)) AN (hb 113) (BJ.wk (F3 f) (by refine Wk.trans (Wk.Ct (L:=[(0,ls eI b)]) (st':=bG) (id:=0) rfl qq (Ac λ_=>AA) ⟨.Ct AA,mV⟩ AA) ?_;exact Ag [] AA AA .nil (.same AA))) rfl AA AA ?_;refine yq tb AA (yz (.agg [i64 p0.op,i64 p0.num,i64 p0.A5,ls eI b,ow 2 0 d]) (HU lZ lv Nk AA AA) rfl (BG (Aa (Wk.Ct (L:=[(2,Ei),(32,.agg (kL p0 b d))]) (st':=[Y2 p0.op p0.num p0.A5 p0.args p0.kids,jG,⟨1,48,2,[]⟩]) (id:=2) rfl qm (Ac λ_=>AA) ⟨.rfl,.agg ⟨.rfl,.rfl,.rfl,.rfl,.Je AA,mV⟩,mV⟩ AA) (Al AN LQ AA AA AA AA AA AA qi rfl (dn A AA ?_)))));cases h0;exact BB ⟨_,Wk.refl _ _,Cz (x:=.tmp 2) (off:=0) (cs:=(kL p0 b d)) (vs:=(kL p0 b d)) LQ AA AA AA qi rfl _ AA⟩
 refine AK (AT (σ:=Int×(List Block)) (λn v=>Ec p0 rN n v.1 v.2=some z) (λ(p,q)=>⟨33,AM [(1,.ptr 0 0 0 0),(2,.ptr 1 0 0 0),(3,ow 2 0 q),(4,i64 p)],[Y2 p0.op p0.num p0.A5 p0.args p0.kids,jG,ro 0 48 2 Bg q]⟩) N (0,[]) a (AI AA) (λ_ B=>by rw[Ec]at B;cases B) ?_);rintro n ⟨p,q⟩ a;rw[Ec]at a;refine AD λF g=>sr AA λG h=>zm tb 3 AA (zl tb AA AA (zq tb AA (dn h AA ?_)));refine ci a AA ?_ ?_<;>intro H a
 ·refine AH (g _ (AD λI i=>AK (AG AA (zm tb 4 AA (bs a λJ j a=>zx Hs j AA AA AA (zq tb AA (bs a λc k a=>zc (v':=(DS c)) (hb 152) (sI k) rfl AA AA (Cn (m:=3) (l:=[c]) (enc:=Bg) AN Hs (by decide) rfl AA AA AA AA AA (bs a λe o a=>EI (l2:=[c]) AN Hs AA AA AA AA (MQ AA AA) (λ_=>AA) o AA (zq tb AA (dn i AA (AG AA (zm tb 3 AA ?_)))))))))))));exact AE (xi (Sh.w (p+1),e) a (by refine Wk.trans (CP (L:=[(1,BL),(2,Ei),(3,ow 2 0 e),(4,MY p)]) (st':=[Y2 p0.op p0.num p0.A5 p0.args p0.kids,jG,ro 0 48 2 Bg e,ro 0 48 2 Bg [c]]) (.raw AA AA (.raw AA AA (.pure (Ac λ_=>AA) (.pure (Ac λ_=>AA) .nil)))) (.same AA)) ?_;exact Ag [0,1,2] AA AA (.w (.w (.p .nil))) (.same AA)))
 ·exact Ad (D q (Sh.AF a).symm _ (AI AA))
theorem PO {N:Nat}{rN:Block->Option (Block)}(sI :∀{p0:Block} {r:Block},rN p0=some r->Ay 152 [DS p0] [] (DS r) []){p0 r:Block}(h0:Hz N rN p0=some r):Ay 152 [DS p0] [] (DS r) []:=by
 unfold Hz at h0;refine FH AA (ai Tryz.func152 AA AA AA AA (sr AA λI p=>Az (m:=0) AN AA AA AA AA AA (Aj (m:=1) AN MK AA AA (dn p AA (sr AA λJ q=>?_)))));refine Cn (m:=2) (l:=([]:List Step)) (enc:=Bk) AN FM (by decide) rfl AA (by simp only[List.map,Be];rfl) rfl AA AA ?_;refine zm tb 2 AA (zz (.agg [.own 2 0 (List.length ([]:List Step)),i64 p0.result]) (HU jS jP MK AA AA) rfl (Aj (m:=3) AN MK AA AA (Al AN Jj AA AA AA AA AA AA qg rfl (dn q AA (AD λB t=>zr tb AA AA (bs h0 λu a h0=>?_))))));have C:∀b,u=b->∀s,Wk 0 s ⟨28,AM [(2,BL),(3,Jh)],[fT,ro 0 80 5 Bk b,⟨0,48,2,[[ow 1 0 b,i64 p0.result]]⟩]⟩->B s:=by
  intro b K s D;subst u;refine t _ (AJ D (sr AA λM y=>zq tb AA (Aa (Wk.Ct (L:=[(2,BL),(27,.agg (Xw b p0.result))]) (st':=[fT,⟨1,80,5,[]⟩,⟨0,48,2,[[ow 1 0 b,i64 p0.result]]⟩]) (id:=1) rfl qo (Ac Mi) ⟨.rfl,.agg ⟨.Je AA,.rfl,mV⟩,mV⟩ AA) (Al AN Jj AA AA AA AA AA AA qg rfl (dn y AA ?_)))));cases h0;exact BB ⟨_,Wk.refl _ _,Cz (x:=.tmp 2) (off:=0) (cs:=(Xw b p0.result)) (vs:=(Xw b p0.result)) Jj AA AA AA qg rfl _ AA⟩
 refine AK (AT (σ:=Int×(List Step)) (λn v=>DO N p0 rN n v.1 v.2=some u) (λ(o,c)=>⟨28,AM [(1,.ptr 0 0 0 0),(2,.ptr 1 0 0 0),(3,.ptr 3 0 0 0),(4,i64 o)],[WU p0.steps p0.result,⟨0,48,2,[[.zc,i64 0]]⟩,ro 0 80 5 Bk c,⟨0,48,2,[[ow 2 0 c,i64 p0.result]]⟩]⟩) N (0,[]) a (AI AA) (λ_ A=>by rw[DO]at A;cases A) ?_);rintro n ⟨o,c⟩ a;rw[DO]at a;refine AD λE f=>sr AA λF g=>zm tb 3 AA (zl tb AA AA (zq tb AA (dn g AA ?_)));refine ci a AA ?_ ?_<;>intro G a
 ·refine AH (f _ (AD λH h=>AK (B3 9 (by kernel_rfl) (by kernel_rfl) (by rfl) ?_)));iterate 5 refine yq tb rfl ?_
  refine bs a λz i a=>yz (Jo z) (Cp FM AA AA i (Be _) rfl) rfl (yq tb AA (bs a λd j a=>CU (v:=(Od d)) AN (hb 213) (R8 sI j) rfl AA AA ?_));refine ZX (l:=[d]) (enc:=Bk) AN FM (by decide) rfl AA AA (by simp only[List.map,Be];rfl) rfl (Ac Mi) ?_;exact BG (bs a λe k a=>EI (l2:=[d]) AN FM AA AA AA AA OV bU k AA (zq tb AA (Al AN Z0 AA AA AA AA AA AA qx rfl (dn h AA (AG AA (zm tb 3 AA (AE (xi (Sh.w (o+1),e) a (CP (L:=[(1,BL),(2,Ei),(3,SY),(4,MY o)]) (st':=[WU p0.steps p0.result,fT,ro 0 80 5 Bk e,aM e p0.result]) (.raw AA AA (.raw AA AA (.pure (Ac Mi) (.raw AA AA .nil)))) (.same AA))))))))))
 ·exact Ad (C c (Sh.AF a).symm _ (CC (L:=[(2,BL),(3,Jh)]) (st':=[fT,ro 0 80 5 Bk c,⟨0,48,2,[[ow 1 0 c,i64 p0.result]]⟩]) (st1:=[fT,ro 0 80 5 Bk c,aM c p0.result]) [1,2,3] AA AA (.w (.pure (Ac Mi) (.w .nil))) (.same AA)))
theorem PM {N:Nat}:∀(n:Nat),∀{p0:Block} {r:Block},FJ N n p0=some r->Ay 152 [DS p0] [] (DS r) []:=by
 intro n
 induction n with
 | zero=>intro p0 r a;cases a
 | succ n ih=>
  intro p0 r a;rw[FJ]at a;exact PO (λh=>ih h) a
theorem Rb {N:Nat}:∀{p0:Block} {r:Block},JF N p0=some r->Ay 152 [DS p0] [] (DS r) []:=by
 intro p0 r a;exact PM N a
theorem Bc {N:Nat}{p0:AL}{p1:(List (List Int))}{r:AL}(h0:HM N p0 p1=some r):Ay 89 [Ej p0,Jz p1] [] (Ej r) []:=by
 unfold HM at h0;refine FH AA (ai Tryz.func89 AA AA AA AA (sr AA λV D=>Az (m:=0) AN AA AA AA AA AA (Aj (m:=1) AN Gh AA AA (dn D AA (sr AA λW E=>zm tb 2 AA (bs h0 λb F h0=>A8 (v':=(ow 2 0 b)) AN (hb 71) (RA F) rfl AA ⟨(A9 λ_=>AA),mV⟩ AA AA (Cn (m:=3) (l:=([]:List AP)) (enc:=Ah) AN Ez (by decide) rfl AA AA AA AA AA (zz (.agg [ow 2 0 b,iT]) (HU cK cF Gh AA AA) rfl (Aj (m:=4) AN Gh AA AA (Aa (Wk.Ct (L:=[(1,Jz p1),(2,BL),(4,Ei),(5,dX),(12,.agg [Df b,iT])]) (st':=(PY p0 [aY,ro 0 50 5 Ah ([]:List AP),J6])) (id:=2) rfl qm (Ac λ_=>AA) ⟨.rfl,.rfl,.rfl,.rfl,.agg ⟨.Je AA,.rfl,mV⟩,mV⟩ AA) (Al AN FG AA AA AA AA AA AA qg rfl (dn E AA (AD λJ G=>zr tb AA AA (bs h0 λH a h0=>?_))))))))))))));have K:∀g,H=g->∀s,Wk 0 s ⟨45,AM [(4,BL),(5,Jh)],[J6,ro 0 50 5 Ah g,⟨0,30,2,[[Df b,ow 1 0 g]]⟩]⟩->J s:=by
  intro g X s M;subst H;refine G _ (AJ M (sr AA λO j=>zq tb AA (Aa (Wk.Ct (L:=[(4,BL),(44,.agg (YM b g))]) (st':=[J6,⟨1,50,5,[]⟩,⟨0,30,2,[[Df b,ow 1 0 g]]⟩]) (id:=1) rfl qo (Ac λ_=>AA) ⟨.rfl,.agg ⟨.rfl,.Je AA,mV⟩,mV⟩ AA) (Al AN FG AA AA AA AA AA AA qg rfl (dn j AA ?_)))));cases h0;exact BB ⟨_,Wk.refl _ _,Cz (x:=.tmp 4) (off:=0) (cs:=(YM b g)) (vs:=(YM b g)) FG AA AA AA qg rfl _ AA⟩
 refine AK (AT (σ:=Int×(List AP)) (λn v=>Dv N p0 p1 n v.1 v.2=some H) (λ(C,h)=>⟨45,AM [(1,ls (eS eI) p1),(2,.ptr 0 0 0 0),(4,.ptr 1 0 0 0),(5,.ptr 3 0 0 0),(6,i64 C)],[IU p0.decls p0.AB,J6,ro 0 50 5 Ah h,⟨0,30,2,[[ls Ak b,ow 2 0 h]]⟩]⟩) N (0,[]) a (CC (L:=[(1,ls (eS eI) p1),(2,.ptr 0 0 0 0),(4,.ptr 1 0 0 0),(5,.ptr 3 0 0 0),(6,i64 0)]) (st':=[IU p0.decls p0.AB,J6,ro 0 50 5 Ah ([]:List AP),⟨0,30,2,[[ls Ak b,.own 2 0 (List.length ([]:List AP))]]⟩]) (st1:=[IU p0.decls p0.AB,J6,ro 0 50 5 Ah ([]:List AP),⟨0,30,2,[[ls Ak b,.own 3 0 (List.length ([]:List AP))]]⟩]) [0,1,3,4] AA AA (.w (.w (.p (.w .nil)))) (.same AA)) (λ_ I=>by rw[Dv]at I;cases I) ?_);rintro n ⟨C,h⟩ a;rw[Dv]at a;refine AD λP k=>sr AA λQ o=>zm tb 3 AA (zl tb AA AA (zq tb AA (dn o AA ?_)));refine ci a AA ?_ ?_<;>intro R a
 ·refine AH (k _ (AD λS p=>AK (sr AA λT q=>zm tb 3 AA (bs a λf t a=>zx Ez t AA AA AA (zq tb AA (Aj (m:=4) AN MJ AA AA (Al AN Mo AA AA AA AA AA AA qi rfl (dn q AA (B3 17 (by kernel_rfl) (by kernel_rfl) (by rfl) ?_)))))))));iterate 4 refine yq tb rfl ?_
  refine bs a λc u a=>?_;refine CU (v:=(ls eI c)) AN (hb 113) (BJ.wk (F3 u) (by refine Wk.trans (Wk.Ct (L:=[(0,ls eI c)]) (st':=bG) (id:=0) rfl qq (Ac λ_=>AA) ⟨.Ct AA,mV⟩ AA) ?_;exact Ag [] AA AA .nil (.same AA))) rfl AA AA ?_;iterate 2 refine yq tb rfl ?_
  refine bs a λU y a=>yx I4 y AA AA AA (yq tb AA (bs a λd z a=>?_));refine CU (v:=(ls eI d)) AN (hb 113) (BJ.wk (F3 z) (by refine Wk.trans (Wk.Ct (L:=[(0,ls eI d)]) (st':=bG) (id:=0) rfl qq (Ac λ_=>AA) ⟨.Ct AA,mV⟩ AA) ?_;exact Ag [] AA AA .nil (.same AA))) rfl AA AA ?_;iterate 4 refine yq tb rfl ?_
  refine bs a λe A a=>CU (v:=(DS e)) AN (hb 152) (Rb A) rfl AA AA (yz (.agg [ls eI c,ls eI d,i64 f.result,UT e,i64 e.result]) (HU gC ef MJ AA AA) rfl (ZX (l:=[AP.mk c d f.result e]) (enc:=Ah) AN Ez (by decide) rfl AA AA AA AA (Ac λ_=>AA) (BG (bs a λi B a=>EI (l2:=[AP.mk c d f.result e]) AN Ez AA AA AA AA OV (λ_=>AA) B AA (zq tb AA (Al AN eY AA AA AA AA AA AA qu rfl (dn p AA (AG AA (zm tb 3 AA ?_)))))))));exact AE (xi (Sh.w (C+1),i) a (by refine Wk.trans (CP (L:=[(1,Jz p1),(2,BL),(4,Ei),(5,SY),(6,MY C)]) (st':=(PY p0 [ro 0 50 5 Ah i,⟨0,30,2,[[Df b,ow 2 0 i]]⟩,⟨0,50,5,[Y1 f]⟩])) (.raw AA AA (.raw AA AA (.pure (Ac λ_=>AA) (.raw AA AA (.raw AA AA .nil))))) (.same AA)) ?_;exact Ag [0,1,2,3] AA AA (.w (.w (.p (.w .nil)))) (.same AA)))
 ·exact Ad (K h (Sh.AF a).symm _ (CC (L:=[(4,BL),(5,Jh)]) (st':=[J6,ro 0 50 5 Ah h,⟨0,30,2,[[Df b,ow 1 0 h]]⟩]) (st1:=[J6,ro 0 50 5 Ah h,⟨0,30,2,[[Df b,ow 2 0 h]]⟩]) [1,2,3] AA AA (.w (.p (.w .nil))) (.same AA)))
theorem R0 {p0:Int}{r:Bool}(h0:G8 p0=some r):Ay 215 [i64 p0] [] (.bool r) []:=by
 unfold G8 at h0;refine ai Tryz.func215 AA AA AA AA (zr tb AA AA (AD λi g=>bs h0 λh a h0=>?_));have e:∀f,h=f->∀s,Wk 0 s ⟨17,AM [(2,.bool f)],[]⟩->i s:=by
  intro f k s j;subst h;try dsimp only at h0
  refine g _ (AJ j ?_);obtain rfl:=Sh.AF h0;exact rt [(2,.bool f)]
 refine AG AA (zm tb 3 AA ?_);rcases Sh.Ab a with ⟨b,a⟩|⟨b,a⟩
 ·exact zs b AA (zs b AA (zt b AA (zq tb AA (zs AA AA (zs AA AA (zt AA AA (zq tb AA (zs AA AA (zs AA AA (zt AA AA (zq tb AA (AE (e true (Sh.AF a).symm _ (AI AA))))))))))))))
 ·refine zg tb b AA (zg tb b AA (zf b AA (zq tb AA ?_)));rcases Sh.Ab a with ⟨c,a⟩|⟨c,a⟩
  ·exact zs c AA (zs c AA (zt c AA (zq tb AA (zs AA AA (zs AA AA (zt AA AA (zq tb AA (AE (e true (Sh.AF a).symm _ (AI AA))))))))))
  ·refine zg tb c AA (zg tb c AA (zf c AA (zq tb AA ?_)));rcases Sh.Ab a with ⟨d,a⟩|⟨d,a⟩
   ·exact zs d AA (zs d AA (zt d AA (zq tb AA (AE (e true (Sh.AF a).symm _ (AI AA))))))
   ·exact zg tb d AA (zg tb d AA (zf d AA (zq tb AA (AE (e (decide (p0=11)) (Sh.AF a).symm _ (AI AA))))))
theorem We {N:Nat}{p0:(List Int)}{p1:Int}{r:Bool}(h0:Kc N p0 p1=some r):Ay 131 [ls eI p0,i64 p1] [] (.bool r) []:=by
 unfold Kc at h0;refine ai Tryz.func131 AA AA AA AA (zr tb AA AA (AD λk e=>zr tb AA AA ?_));obtain⟨f,a,h0⟩:=Sh.Ar h0;have l:∀(_:Unit),f=Sum.inr ()->∀s,Wk 0 s ⟨18,AM [],[]⟩->k s:=by
  intro _ u s m;subst f;refine e _ (AJ m (zr tb AA AA ?_));cases h0;exact rt [(4,.bool false)]
 refine AK (AT (σ:=Int) (λn v=>FZ p0 p1 n v=some f) (λg=>⟨18,AM [(0,ls eI p0),(1,i64 p1),(5,i64 g)],[]⟩) N 0 a (AI AA) (λ_ j=>by rw[FZ]at j;cases j) ?_);rintro n g a;rw[FZ]at a;refine AD λx h=>sr AA λy i=>zm tb 2 AA (zl tb AA AA (zq tb AA (dn i AA ?_)));refine ci a AA ?_ ?_<;>intro z a
 ·refine AH (h _ (AD λo b=>AK (sr AA λp c=>zm tb 2 AA (bs a λq d a=>zx BH d AA AA AA (zm tb 3 AA (dn c AA ?_))))));refine ci a AA ?_ ?_<;>intro t a
  ·refine zr tb AA AA ?_;cases a;cases h0;exact rt [(4,.bool true)]
  ·exact AH (b _ (AG AA (zm tb 3 AA (AE (xi (Sh.w (g+1)) a (AI AA))))))
 ·exact Ad (l () (Sh.AF a).symm _ (AI AA))
theorem UI {N:Nat}{p0:AL}{p1:Step}{p2:Int}{r:Bool}(h0:Jx N p0 p1 p2=some r):Ay 216 [Ej p0,Od p1,i64 p2] [] (.bool r) []:=by
 unfold Jx at h0;refine ai Tryz.func216 AA AA AA AA (sr AA λo d=>Az (m:=0) AN AA AA AA AA AA (Az (m:=1) AN AA AA AA AA AA (zq tb AA (dn d AA (AD λj e=>bs h0 λh b h0=>?_)))));have i:∀c,h=c->∀s,Wk 0 s ⟨21,AM [(6,.bool c)],[]⟩->j s:=by
  intro c p s k;subst h;try dsimp only at h0
  refine e _ (AJ k ?_);obtain rfl:=Sh.AF h0;exact rt [(6,.bool c)]
 refine AG AA (zm tb 4 AA ?_);rcases Sh.Ab b with ⟨a,b⟩|⟨a,b⟩
 ·refine zg tb a AA ?_;iterate 3 refine zg tb a rfl ?_
  refine bs b λl f b=>At (v:=(.Bz (Ah l) 0)) (BI AA AA a) rfl (Bi Ez AA AA f AA) ?_;iterate 3 refine zg tb a rfl ?_
  exact bs b λn g b=>zd a (hb 131) (We g) rfl AA AA AA (zt a AA (zq tb AA (AE (i n (Sh.AF b).symm _ (BD _ AA)))))
 ·refine zs a AA ?_;iterate 8 refine zs a rfl ?_
  exact zf a AA (zq tb AA (AE (i false (Sh.AF b).symm _ (BD _ AA))))
theorem My {N:Nat}{rP:AL->Block->Int->Option (Bool)}(sn :∀{p0:AL} {p1:Block} {p2:Int} {r:Bool},rP p0 p1 p2=some r->Ay 155 [Ej p0,DS p1,i64 p2] [] (.bool r) []){p0:AL}{p1:Block}{p2:Int}{r:Bool}(h0:Gg N rP p0 p1 p2=some r):Ay 155 [Ej p0,DS p1,i64 p2] [] (.bool r) []:=by
 unfold Gg at h0;refine ai Tryz.func155 AA AA AA AA (sr AA λK1 R=>Az (m:=0) AN AA AA AA AA AA (Az (m:=1) AN AA AA AA AA AA (zq tb AA (dn R AA (AD λK2 S=>zr tb AA AA ?_)))));refine ci h0 AA ?_ ?_<;>intro b4 h0
 ·refine zr tb AA AA ?_;cases h0;exact rd [(6,.bool true)]
 ·refine AH (S _ (AD λK6 T=>zr tb AA AA ?_));obtain⟨j,c,h0⟩:=Sh.Ar h0;have U:∀(_:Unit),j=Sum.inr ()->∀s,Wk 0 s ⟨68,AM [],[]⟩->K6 s:=by
   intro _ V s k;subst j;refine T _ (AJ k (zr tb AA AA ?_));cases h0;exact rt [(6,.bool false)]
  refine AK (AT (σ:=Int) (λn v=>Br N p0 p1 p2 rP n v=some j) (λh=>⟨68,AM [(2,i64 p2),(3,.ptr 0 0 0 0),(4,.ptr 1 0 0 0),(7,i64 h)],[IU p0.decls p0.AB,WU p1.steps p1.result]⟩) N 0 c (AI AA) (λ_ i=>by rw[Br]at i;cases i) ?_);rintro n h c;rw[Br]at c;refine AD λb3 u=>sr AA λb5 x=>zm tb 3 AA (zl tb AA AA (zq tb AA (dn x AA ?_)));refine ci c AA ?_ ?_<;>intro b6 c
  ·refine AH (u _ (AD λW y=>AK (sr AA λb7 z=>zm tb 3 AA (bs c λa A c=>zz (Jo a) (Cp FM AA AA A (Be _) rfl) rfl (zq tb AA (Aj (m:=2) AN Nk AA AA (Al AN LQ AA AA AA AA AA AA qi rfl (dn z AA (AD λX B=>zr tb AA AA ?_)))))))));obtain⟨l,b,c⟩:=Sh.Ar c;have Y:∀(_:Unit),l=Sum.inr ()->∀s,Wk 0 s ⟨68,AM [(2,i64 p2),(3,BL),(4,Ei),(7,i64 h),(8,Jh)],[IU p0.decls p0.AB,WU p1.steps p1.result,Y2 a.op a.num a.A5 a.args a.kids]⟩->X s:=by
    intro _ V s k;subst l;refine B _ (AJ k (zr tb AA AA ?_));obtain⟨o,b,c⟩:=Sh.Ar c;have Z:∀(_:Unit),o=Sum.inr ()->∀s,Wk 0 s ⟨68,AM [(2,i64 p2),(3,BL),(4,Ei),(7,i64 h)],[IU p0.decls p0.AB,WU p1.steps p1.result]⟩->W s:=by
     intro _ V s k;subst o;exact y _ (AJ k (AG AA (zm tb 3 AA (AE (xi (Sh.w (h+1)) c (AI AA))))))
    refine AK (AT (σ:=Int) (λn v=>Bq a p0 p2 rP n v=some o) (λp=>⟨68,AM [(2,i64 p2),(3,.ptr 0 0 0 0),(4,.ptr 1 0 0 0),(7,i64 h),(8,.ptr 2 0 0 0),(10,i64 p)],[IU p0.decls p0.AB,WU p1.steps p1.result,Y2 a.op a.num a.A5 a.args a.kids]⟩) N 0 b (AI AA) (λ_ i=>by rw[Bq]at i;cases i) ?_);rintro n p b;rw[Bq]at b;refine AD λb8 C=>sr AA λb9 D=>zm tb 3 AA (zl tb AA AA (zq tb AA (dn D AA ?_)));refine ci b AA ?_ ?_<;>intro c0 b
    ·refine AH (C _ (AD λc1 E=>AK (AD λc2 F=>Bv (by kernel_rfl) (by kernel_rfl) (by rfl) ?_)));iterate 4 refine yq tb rfl ?_
     refine bs b λc3 G b=>yx Hs G AA AA AA ?_;iterate 2 refine yq tb rfl ?_
     refine bs b λb0 H b=>CU (v:=(.bool b0)) AN (hb 155) (sn H) rfl AA AA (BG (F _ ?_));refine ci b AA ?_ ?_<;>intro c4 b
     ·refine zr tb AA AA ?_;cases b;cases c;cases h0;exact rd [(6,.bool true)]
     ·exact AH (E _ (AG AA (zm tb 3 AA (AE (xi (Sh.w (p+1)) b (AI AA))))))
    ·exact Ad (Z () (Sh.AF b).symm _ (Ag [0,1] AA AA (.w (.w .nil)) (.same AA)))
   refine AK (AT (σ:=Int) (λn v=>Bt N a p0 p2 n v=some l) (λg=>⟨68,AM [(2,i64 p2),(3,.ptr 0 0 0 0),(4,.ptr 1 0 0 0),(7,i64 h),(8,.ptr 2 0 0 0),(9,i64 g)],[IU p0.decls p0.AB,WU p1.steps p1.result,Y2 a.op a.num a.A5 a.args a.kids]⟩) N 0 b (AI AA) (λ_ i=>by rw[Bt]at i;cases i) ?_);rintro n g b;rw[Bt]at b;refine AD λc5 I=>sr AA λc6 J=>zm tb 3 AA (zl tb AA AA (zq tb AA (dn J AA ?_)));refine ci b AA ?_ ?_<;>intro c7 b
   ·refine AH (I _ (AD λc8 K=>AK (AD λb1 L=>bs b λM f b=>?_)));have q:∀t,M=t->∀s,Wk 0 s ⟨68,AM [(2,i64 p2),(3,BL),(4,Ei),(7,i64 h),(8,Jh),(9,i64 g),(52,.bool t)],[IU p0.decls p0.AB,WU p1.steps p1.result,Y2 a.op a.num a.A5 a.args a.kids]⟩->b1 s:=by
     intro t V s k;subst M;refine L _ (AJ k ?_);refine ci b AA ?_ ?_<;>intro c9 b
     ·refine zr tb AA AA ?_;cases b;cases c;cases h0;exact rd [(6,.bool true)]
     ·exact AH (K _ (AG AA (zm tb 3 AA (AE (xi (Sh.w (g+1)) b (AI AA))))))
    refine AG AA (zm tb 3 AA (bs f λd1 O f=>zx BH O AA AA AA (zm tb 4 AA ?_)));rcases Sh.Ab f with ⟨e,f⟩|⟨e,f⟩
    ·refine zg tb e AA (zg tb e AA (bs f λd2 P f=>zd e (hb 215) (R0 P) rfl AA AA AA (zt e AA (zq tb AA ?_))));rcases Sh.Ab f with ⟨d,f⟩|⟨d,f⟩
     ·exact zg tb d AA (zg tb d AA (zg tb d AA (bs f λb2 Q f=>zd d (hb 216) (UI Q) rfl AA AA AA (zg tb d AA (zt d AA (AE (q (!b2) (Sh.AF f).symm _ (AI AA))))))))
     ·refine zs d AA ?_;iterate 4 refine zs d rfl ?_
      exact zf d AA (AE (q false (Sh.AF f).symm _ (AI AA)))
    ·refine zs e AA (zs e AA (zs e AA (zf e AA (zq tb AA ?_))));iterate 5 refine zs rfl rfl ?_
     exact zf AA AA (AE (q false (Sh.AF f).symm _ (AI AA)))
   ·exact Ad (Y () (Sh.AF b).symm _ (AI AA))
  ·exact Ad (U () (Sh.AF c).symm _ (BD _ AA))
theorem ND {N:Nat}:∀(n:Nat),∀{p0:AL} {p1:Block} {p2:Int} {r:Bool},CY N n p0 p1 p2=some r->Ay 155 [Ej p0,DS p1,i64 p2] [] (.bool r) []:=by
 intro n
 induction n with
 | zero=>intro p0 p1 p2 r a;cases a
 | succ n ih=>
  intro p0 p1 p2 r a;rw[CY]at a;exact My (λh=>ih h) a
theorem N8 {N:Nat}:∀{p0:AL} {p1:Block} {p2:Int} {r:Bool},Iz N p0 p1 p2=some r->Ay 155 [Ej p0,DS p1,i64 p2] [] (.bool r) []:=by
 intro p0 p1 p2 r a;exact ND N a
theorem SQ {N:Nat}{p0:AL}{p1:Int}{r:(List Int)}(h0:IW N p0 p1=some r):Ay 91 [Ej p0,i64 p1] [] (ow 0 0 r) [Bw r]:=by
 unfold IW at h0;refine ai Tryz.func91 AA AA AA AA (sr AA λU B=>Az (m:=0) AN AA AA AA AA AA (zq tb AA (dn B AA (sr AA λV C=>Cn (m:=1) (l:=([]:List Int)) (enc:=eI) AN BH (by decide) rfl AA AA AA AA AA (zq tb AA (dn C AA (AD λI D=>zr tb AA AA (bs h0 λE a h0=>?_))))))));have J:∀i,E=i->∀s,Wk 0 s ⟨50,AM [(5,ow 0 0 i)],[Bw i]⟩->I s:=by
  intro i K s F;subst E;try dsimp only at h0
  refine D _ (AJ F (zr tb AA AA ?_));obtain rfl:=Sh.AF h0;exact rt [(4,ow 0 0 i)]
 refine AK (AT (σ:=Int×(List Int)) (λn v=>Dw N p0 p1 n v.1 v.2=some E) (λ(j,k)=>⟨50,AM [(1,i64 p1),(2,.ptr 0 0 0 0),(5,ow 1 0 k),(6,i64 j)],[IU p0.decls p0.AB,ro 0 3 1 eI k]⟩) N (0,[]) a (AI AA) (λ_ H=>by rw[Dw]at H;cases H) ?_);rintro n ⟨j,k⟩ a;rw[Dw]at a;refine AD λM o=>sr AA λO p=>zm tb 4 AA (bs a λP b a=>zx Ez b AA AA AA (zm tb 2 AA (zl tb AA AA (zq tb AA (dn p AA ?_)))));refine ci a AA ?_ ?_<;>intro Q a
 ·refine AH (o _ (AD λG q=>bs a λt c a=>?_));have u:∀d,t=d->∀s,Wk 0 s ⟨50,AM [(1,i64 p1),(2,BL),(5,ow 1 0 d),(6,i64 j)],[IU p0.decls p0.AB,Bw d]⟩->G s:=by
   intro d K s F;subst t;exact q _ (AJ F (AG AA (zm tb 3 AA (AE (xi (Sh.w (j+1),d) a (AI AA))))))
  refine AK (AD λR x=>Bv (by kernel_rfl) (by kernel_rfl) (by rfl) ?_);iterate 4 refine yq tb rfl ?_
  refine yx Ez b AA AA AA ?_;iterate 5 refine yq tb rfl ?_
  refine yx Ez b AA AA AA ?_;iterate 3 refine yq tb rfl ?_
  refine bs c λf e c=>yx BH e AA AA AA (yq tb AA (bs c λg y c=>CU (v:=(.bool g)) AN (hb 155) (N8 y) rfl AA AA (yq tb AA (BG (x _ ?_)))));refine ci c AA ?_ ?_<;>intro z c
  ·have S:g=false:=by simpa using z
   refine AG AA (zm tb 4 AA (zx Ez b AA AA AA (zm tb 3 AA (zx BH e AA AA AA (zq tb AA (Cn (m:=2) (l:=[f]) (enc:=eI) AN BH (by decide) rfl AA AA AA AA AA (bs c λh A c=>EI (l2:=[f]) AN BH AA AA AA AA (MQ AA AA) (λ_=>AA) A AA (zq tb AA ?_))))))));exact AE (u h (Sh.AF c).symm _ (by refine Wk.trans (CP (L:=[(1,i64 p1),(2,BL),(5,ow 1 0 h),(6,i64 j)]) (st':=[IU p0.decls p0.AB,Bw h,YH f]) (.raw AA AA (.pure (Ac λ_=>AA) (.pure (Ac λ_=>AA) .nil))) (.same AA)) ?_;exact Ag [0,1] AA AA (.w (.p .nil)) (.same AA)))
  ·have T:g=true:=by simpa using z
   exact AH (u k (Sh.AF c).symm _ (AI AA))
 ·exact Ad (J k (Sh.AF a).symm _ (Ag [1] AA AA (.p .nil) (.same AA)))
theorem Rv {N:Nat}{p0 r:AL}(h0:ID N p0=some r):Ay 42 [Ej p0] [] (Ej r) []:=by
 unfold ID at h0;refine FH AA (ai Tryz.func42 AA AA AA AA (sr AA λK1 g8=>Az (m:=0) AN AA AA AA AA AA (Aj (m:=1) AN Gh AA AA (dn g8 AA (AD λK2 g9=>bs h0 λo5 a h0=>?_)))));have c:∀f3 f4,o5=(f3,f4)->∀s,Wk 0 s ⟨33,AM [(2,BL),(3,Ei)],[J6,IU f3 f4]⟩->K2 s:=by
  rintro f3 f4 rfl s R;refine g9 _ (AJ R (AD λK6 h3=>zr tb AA AA (bs h0 λp a h0=>?_)));have h4:∀f g,p=(f,g)->∀s,Wk 0 s ⟨33,AM [(2,BL),(3,Ei)],[J6,IU f g]⟩->K6 s:=by
   rintro f g rfl s R;refine h3 _ (AJ R (sr AA λh7 S=>zq tb AA (Al AN FG AA AA AA AA AA AA qg rfl (dn S AA ?_))));cases h0;exact BB ⟨_,Wk.refl _ _,Cz (x:=.tmp 2) (off:=0) (cs:=(YM f g)) (vs:=(YM f g)) FG AA AA AA qg rfl _ AA⟩
  refine AK (AT (σ:=Int×(List AR)×(List AP)) (λn v=>EW N n v.1 v.2.1 v.2.2=some p) (λ(se,k,b)=>⟨33,AM [(2,.ptr 0 0 0 0),(3,.ptr 1 0 0 0),(4,i64 se)],[J6,IU k b]⟩) N (0,f3,f4) a (AI AA) (λ_ T=>by rw[EW]at T;cases T) ?_);rintro n ⟨se,k,b⟩ a;rw[EW]at a;refine AD λh8 U=>zr tb AA AA ?_;refine ci a AA ?_ ?_<;>intro h9 a
  ·refine AH (U _ (AD λk0 V=>AK (sr AA λk1 W=>Cn (m:=2) (l:=([]:List (List Int))) (enc:=(eS eI)) AN I4 (by decide) rfl AA AA AA AA AA (zq tb AA (dn W AA (AD λh5 X=>zr tb AA AA (bs a λq d a=>?_)))))));have h6:∀h,q=h->∀s,Wk 0 s ⟨33,AM [(2,BL),(3,Ei),(4,i64 se),(5,ow 2 0 h)],[J6,IU k b,SI h]⟩->h5 s:=by
    intro h hq s R;subst q;exact X _ (AJ R (AG AA (zm tb 2 AA (Aa (Wk.Ct (L:=[(2,BL),(3,Ei),(4,i64 se),(29,.agg (YM k b)),(30,Jz h)]) (st':=[J6,IU k b,Pd]) (id:=2) rfl qm (Ac λ_=>AA) ⟨.rfl,.rfl,.rfl,.rfl,.Ct AA,mV⟩ AA) (bs a λt Y a=>zc (v':=(Ej t)) (hb 89) (Bc Y) rfl AA AA (Al AN FG AA AA AA AA AA AA qg rfl (dn V AA (AG AA (zm tb 3 AA (AE (xi (Sh.w (se+1),t.decls,t.AB) a (Ag [0,1] AA AA (.w (.w .nil)) (.same AA)))))))))))))
   refine AK (AT (σ:=Int×(List (List Int))) (λn v=>DJ N b k n v.1 v.2=some q) (λ(i,e)=>⟨33,AM [(2,.ptr 0 0 0 0),(3,.ptr 1 0 0 0),(4,i64 se),(5,ow 2 0 e),(6,i64 i)],[J6,IU k b,ro 0 45 1 (eS eI) e]⟩) N (0,[]) d (AI AA) (λ_ T=>by rw[DJ]at T;cases T) ?_);rintro n ⟨i,e⟩ d;rw[DJ]at d;refine AD λk2 Z=>sr AA λk3 b0=>zm tb 3 AA (zl tb AA AA (zq tb AA (dn b0 AA ?_)));refine ci d AA ?_ ?_<;>intro k4 d
   ·refine AH (Z _ (AD λk5 b1=>AK (AG AA (zm tb 3 AA (bs d λj b2 d=>A8 (v':=(ow 3 0 j)) AN (hb 91) (SQ b2) rfl AA ⟨(A9 λ_=>AA),mV⟩ AA AA (Aa (Wk.Ct (L:=[(2,BL),(3,Ei),(4,i64 se),(6,i64 i),(23,ow 2 0 e),(26,ls eI j)]) (st':=[J6,IU k b,SI e,⟨1,3,1,[]⟩]) (id:=3) rfl qp (Ac λ_=>AA) ⟨.rfl,.rfl,.rfl,.rfl,.rfl,.Ct AA,mV⟩ AA) (Cn (m:=4) (l:=[j]) (enc:=(eS eI)) AN I4 (by decide) rfl AA AA AA AA AA (bs d λu b3 d=>EI (l2:=[j]) AN I4 AA AA AA AA (MQ AA AA) (λ_=>AA) b3 AA (zq tb AA (dn b1 AA (AG AA (zm tb 3 AA ?_))))))))))));exact AE (xi (Sh.w (i+1),u) d (by refine Wk.trans (CP (L:=[(2,BL),(3,Ei),(4,i64 se),(5,ow 2 0 u),(6,MY i)]) (st':=[J6,IU k b,SI u,⟨0,3,1,[]⟩,ro 0 45 1 (eS eI) [j]]) (.raw AA AA (.raw AA AA (.pure (Ac λ_=>AA) (.pure (by intro x hx;cases hx) (.pure (Ac λ_=>AA) .nil))))) (.same AA)) ?_;exact Ag [0,1,2] AA AA (.w (.w (.p .nil))) (.same AA)))
   ·exact Ad (h6 e (Sh.AF d).symm _ (AI AA))
  ·exact Ad (h4 k b (Sh.AF a).symm _ (AI AA))
 refine Kv (by kernel_rfl) ?_;refine xa [0,1,4] ⟨?_,?_,?_,mV⟩
 ·refine xo 0 (zq tb AA (AE ⟨AA,?_⟩));refine xa [1,4] ⟨?_,?_,mV⟩
  ·refine xo 1 (zq tb AA (AE ⟨AA,?_⟩));refine xa [2,4] ⟨?_,?_,mV⟩
   ·refine xo 2 (bs a λy b4 a=>A8 (v':=(ow 2 0 y)) AN (hb 90) (B7 b4) rfl AA ⟨(A9 λ_=>AA),mV⟩ AA AA (AE ⟨AA,?_⟩));refine xa [3,4] ⟨?_,?_,mV⟩
    ·refine xo 3 ?_;refine Aa (Wk.Ct (L:=[(2,Ei),(7,Ej p0),(9,Jz y)]) (st':=(PY p0 [Pd])) (id:=2) rfl qm (Ac λ_=>AA) ⟨.rfl,.rfl,.Ct AA,mV⟩ AA) (bs a λz b5 a=>zc (v':=(Ej z)) (hb 89) (Bc b5) rfl AA AA (AE ⟨AA,?_⟩));refine xa [4] ⟨?_,mV⟩
     ·refine xo 4 (Aj (m:=3) AN Gh AA AA (AE ⟨AA,xa [5] ⟨?_,mV⟩⟩))
      ·refine xo 5 (Al AN FG AA AA AA AA AA AA qg rfl (AE ⟨AA,?_⟩));exact DQ AA (by kernel_rfl) (c z.decls z.AB (Sh.AF a).symm _ (by exact Ag [1,3] AA AA (.w (.w .nil)) (.same AA)))
    ·refine xo 4 (Aj (m:=3) AN Gh AA AA (AE ⟨AA,xa [3] ⟨?_,mV⟩⟩))
     ·refine xo 3 ?_;refine Aa (Wk.Ct (L:=[(2,Ei),(3,SY),(7,Ej p0),(9,Jz y)]) (st':=(PY p0 [Pd,J6])) (id:=2) rfl qm (Ac λ_=>AA) ⟨.rfl,.rfl,.rfl,.Ct AA,mV⟩ AA) (bs a λA b6 a=>zc (v':=(Ej A)) (hb 89) (Bc b6) rfl AA AA (AE ⟨AA,?_⟩));refine xa [5] ⟨?_,mV⟩
      ·refine xo 5 (Al AN FG AA AA AA AA AA AA qg rfl (AE ⟨AA,?_⟩));exact DQ AA (by kernel_rfl) (c A.decls A.AB (Sh.AF a).symm _ (by exact Ag [1,3] AA AA (.w (.w .nil)) (.same AA)))
   ·refine xo 4 (Aj (m:=2) AN Gh AA AA (AE ⟨AA,xa [2] ⟨?_,mV⟩⟩))
    ·refine xo 2 ?_;refine bs a λb7 b8 a=>A8 (v':=(ow 3 0 b7)) AN (hb 90) (B7 b8) rfl AA ⟨(A9 λ_=>AA),mV⟩ AA AA (AE ⟨AA,?_⟩);refine xa [3] ⟨?_,mV⟩
     ·refine xo 3 ?_;refine Aa (Wk.Ct (L:=(Zu p0 b7 [])) (st':=(PY p0 [J6,Pd])) (id:=3) rfl qp (Ac λ_=>AA) ⟨.rfl,.rfl,.rfl,.Ct AA,mV⟩ AA) (bs a λB b9 a=>zc (v':=(Ej B)) (hb 89) (Bc b9) rfl AA AA (AE ⟨AA,?_⟩));refine xa [5] ⟨?_,mV⟩
      ·refine xo 5 (Al AN FG AA AA AA AA AA AA qg rfl (AE ⟨AA,?_⟩));exact DQ AA (by kernel_rfl) (c B.decls B.AB (Sh.AF a).symm _ (by exact Ag [1,2] AA AA (.w (.w .nil)) (.same AA)))
  ·refine xo 4 (Aj (m:=2) AN Gh AA AA (AE ⟨AA,xa [1] ⟨?_,mV⟩⟩))
   ·refine xo 1 (zq tb AA (AE ⟨AA,xa [2] ⟨?_,mV⟩⟩))
    ·refine xo 2 ?_;refine bs a λc0 c1 a=>A8 (v':=(ow 3 0 c0)) AN (hb 90) (B7 c1) rfl AA ⟨(A9 λ_=>AA),mV⟩ AA AA (AE ⟨AA,?_⟩);refine xa [3] ⟨?_,mV⟩
     ·refine xo 3 ?_;refine Aa (Wk.Ct (L:=(Zu p0 c0 [])) (st':=(PY p0 [J6,Pd])) (id:=3) rfl qp (Ac λ_=>AA) ⟨.rfl,.rfl,.rfl,.Ct AA,mV⟩ AA) (bs a λC c2 a=>zc (v':=(Ej C)) (hb 89) (Bc c2) rfl AA AA (AE ⟨AA,?_⟩));refine xa [5] ⟨?_,mV⟩
      ·refine xo 5 (Al AN FG AA AA AA AA AA AA qg rfl (AE ⟨AA,?_⟩));exact DQ AA (by kernel_rfl) (c C.decls C.AB (Sh.AF a).symm _ (by exact Ag [1,2] AA AA (.w (.w .nil)) (.same AA)))
 ·refine xo 1 (zq tb AA (AE ⟨AA,?_⟩));refine xa [0,2,4] ⟨?_,?_,?_,mV⟩
  ·refine xo 0 (zq tb AA (AE ⟨AA,?_⟩));refine xa [2,4] ⟨?_,?_,mV⟩
   ·refine xo 2 (bs a λD c3 a=>A8 (v':=(ow 2 0 D)) AN (hb 90) (B7 c3) rfl AA ⟨(A9 λ_=>AA),mV⟩ AA AA (AE ⟨AA,?_⟩));refine xa [3,4] ⟨?_,?_,mV⟩
    ·refine xo 3 ?_;refine Aa (Wk.Ct (L:=[(2,Ei),(7,Ej p0),(9,Jz D)]) (st':=(PY p0 [Pd])) (id:=2) rfl qm (Ac λ_=>AA) ⟨.rfl,.rfl,.Ct AA,mV⟩ AA) (bs a λE c4 a=>zc (v':=(Ej E)) (hb 89) (Bc c4) rfl AA AA (AE ⟨AA,?_⟩));refine xa [4] ⟨?_,mV⟩
     ·refine xo 4 (Aj (m:=3) AN Gh AA AA (AE ⟨AA,xa [5] ⟨?_,mV⟩⟩))
      ·refine xo 5 (Al AN FG AA AA AA AA AA AA qg rfl (AE ⟨AA,?_⟩));exact DQ AA (by kernel_rfl) (c E.decls E.AB (Sh.AF a).symm _ (by exact Ag [1,3] AA AA (.w (.w .nil)) (.same AA)))
    ·refine xo 4 (Aj (m:=3) AN Gh AA AA (AE ⟨AA,xa [3] ⟨?_,mV⟩⟩))
     ·refine xo 3 ?_;refine Aa (Wk.Ct (L:=[(2,Ei),(3,SY),(7,Ej p0),(9,Jz D)]) (st':=(PY p0 [Pd,J6])) (id:=2) rfl qm (Ac λ_=>AA) ⟨.rfl,.rfl,.rfl,.Ct AA,mV⟩ AA) (bs a λF c5 a=>zc (v':=(Ej F)) (hb 89) (Bc c5) rfl AA AA (AE ⟨AA,?_⟩));refine xa [5] ⟨?_,mV⟩
      ·refine xo 5 (Al AN FG AA AA AA AA AA AA qg rfl (AE ⟨AA,?_⟩));exact DQ AA (by kernel_rfl) (c F.decls F.AB (Sh.AF a).symm _ (by exact Ag [1,3] AA AA (.w (.w .nil)) (.same AA)))
   ·refine xo 4 (Aj (m:=2) AN Gh AA AA (AE ⟨AA,xa [2] ⟨?_,mV⟩⟩))
    ·refine xo 2 ?_;refine bs a λc6 c7 a=>A8 (v':=(ow 3 0 c6)) AN (hb 90) (B7 c7) rfl AA ⟨(A9 λ_=>AA),mV⟩ AA AA (AE ⟨AA,?_⟩);refine xa [3] ⟨?_,mV⟩
     ·refine xo 3 ?_;refine Aa (Wk.Ct (L:=(Zu p0 c6 [])) (st':=(PY p0 [J6,Pd])) (id:=3) rfl qp (Ac λ_=>AA) ⟨.rfl,.rfl,.rfl,.Ct AA,mV⟩ AA) (bs a λG c8 a=>zc (v':=(Ej G)) (hb 89) (Bc c8) rfl AA AA (AE ⟨AA,?_⟩));refine xa [5] ⟨?_,mV⟩
      ·refine xo 5 (Al AN FG AA AA AA AA AA AA qg rfl (AE ⟨AA,?_⟩));exact DQ AA (by kernel_rfl) (c G.decls G.AB (Sh.AF a).symm _ (by exact Ag [1,2] AA AA (.w (.w .nil)) (.same AA)))
  ·refine xo 2 (bs a λo c9 a=>A8 (v':=(ow 2 0 o)) AN (hb 90) (B7 c9) rfl AA ⟨(A9 λ_=>AA),mV⟩ AA AA (AE ⟨AA,?_⟩));refine xa [0,4] ⟨?_,?_,mV⟩
   ·refine xo 0 (zq tb AA (AE ⟨AA,?_⟩));refine xa [3,4] ⟨?_,?_,mV⟩
    ·refine xo 3 ?_;refine Aa (Wk.Ct (L:=[(2,Ei),(7,Ej p0),(9,Jz o)]) (st':=(PY p0 [Pd])) (id:=2) rfl qm (Ac λ_=>AA) ⟨.rfl,.rfl,.Ct AA,mV⟩ AA) (bs a λH d0 a=>zc (v':=(Ej H)) (hb 89) (Bc d0) rfl AA AA (AE ⟨AA,?_⟩));refine xa [4] ⟨?_,mV⟩
     ·refine xo 4 (Aj (m:=3) AN Gh AA AA (AE ⟨AA,xa [5] ⟨?_,mV⟩⟩))
      ·refine xo 5 (Al AN FG AA AA AA AA AA AA qg rfl (AE ⟨AA,?_⟩));exact DQ AA (by kernel_rfl) (c H.decls H.AB (Sh.AF a).symm _ (by exact Ag [1,3] AA AA (.w (.w .nil)) (.same AA)))
    ·refine xo 4 (Aj (m:=3) AN Gh AA AA (AE ⟨AA,xa [3] ⟨?_,mV⟩⟩))
     ·refine xo 3 ?_;refine Aa (Wk.Ct (L:=[(2,Ei),(3,SY),(7,Ej p0),(9,Jz o)]) (st':=(PY p0 [Pd,J6])) (id:=2) rfl qm (Ac λ_=>AA) ⟨.rfl,.rfl,.rfl,.Ct AA,mV⟩ AA) (bs a λI d1 a=>zc (v':=(Ej I)) (hb 89) (Bc d1) rfl AA AA (AE ⟨AA,?_⟩));refine xa [5] ⟨?_,mV⟩
      ·refine xo 5 (Al AN FG AA AA AA AA AA AA qg rfl (AE ⟨AA,?_⟩));exact DQ AA (by kernel_rfl) (c I.decls I.AB (Sh.AF a).symm _ (by exact Ag [1,3] AA AA (.w (.w .nil)) (.same AA)))
   ·refine xo 4 (Aj (m:=3) AN Gh AA AA (AE ⟨AA,xa [0] ⟨?_,mV⟩⟩))
    ·refine xo 0 (zq tb AA (AE ⟨AA,xa [3] ⟨?_,mV⟩⟩))
     ·refine xo 3 ?_;refine Aa (Wk.Ct (L:=[(2,Ei),(3,SY),(7,Ej p0),(9,Jz o)]) (st':=(PY p0 [Pd,J6])) (id:=2) rfl qm (Ac λ_=>AA) ⟨.rfl,.rfl,.rfl,.Ct AA,mV⟩ AA) (bs a λJ d2 a=>zc (v':=(Ej J)) (hb 89) (Bc d2) rfl AA AA (AE ⟨AA,?_⟩));refine xa [5] ⟨?_,mV⟩
      ·refine xo 5 (Al AN FG AA AA AA AA AA AA qg rfl (AE ⟨AA,?_⟩));exact DQ AA (by kernel_rfl) (c J.decls J.AB (Sh.AF a).symm _ (by exact Ag [1,3] AA AA (.w (.w .nil)) (.same AA)))
  ·refine xo 4 (Aj (m:=2) AN Gh AA AA (AE ⟨AA,?_⟩));refine xa [0,2] ⟨?_,?_,mV⟩
   ·refine xo 0 (zq tb AA (AE ⟨AA,xa [2] ⟨?_,mV⟩⟩))
    ·refine xo 2 ?_;refine bs a λd3 d4 a=>A8 (v':=(ow 3 0 d3)) AN (hb 90) (B7 d4) rfl AA ⟨(A9 λ_=>AA),mV⟩ AA AA (AE ⟨AA,?_⟩);refine xa [3] ⟨?_,mV⟩
     ·refine xo 3 ?_;refine Aa (Wk.Ct (L:=(Zu p0 d3 [])) (st':=(PY p0 [J6,Pd])) (id:=3) rfl qp (Ac λ_=>AA) ⟨.rfl,.rfl,.rfl,.Ct AA,mV⟩ AA) (bs a λK d5 a=>zc (v':=(Ej K)) (hb 89) (Bc d5) rfl AA AA (AE ⟨AA,?_⟩));refine xa [5] ⟨?_,mV⟩
      ·refine xo 5 (Al AN FG AA AA AA AA AA AA qg rfl (AE ⟨AA,?_⟩));exact DQ AA (by kernel_rfl) (c K.decls K.AB (Sh.AF a).symm _ (by exact Ag [1,2] AA AA (.w (.w .nil)) (.same AA)))
   ·refine xo 2 ?_;refine bs a λd6 d7 a=>A8 (v':=(ow 3 0 d6)) AN (hb 90) (B7 d7) rfl AA ⟨(A9 λ_=>AA),mV⟩ AA AA (AE ⟨AA,?_⟩);refine xa [0] ⟨?_,mV⟩
    ·refine xo 0 (zq tb AA (AE ⟨AA,xa [3] ⟨?_,mV⟩⟩))
     ·refine xo 3 ?_;refine Aa (Wk.Ct (L:=(Zu p0 d6 [])) (st':=(PY p0 [J6,Pd])) (id:=3) rfl qp (Ac λ_=>AA) ⟨.rfl,.rfl,.rfl,.Ct AA,mV⟩ AA) (bs a λM d8 a=>zc (v':=(Ej M)) (hb 89) (Bc d8) rfl AA AA (AE ⟨AA,?_⟩));refine xa [5] ⟨?_,mV⟩
      ·refine xo 5 (Al AN FG AA AA AA AA AA AA qg rfl (AE ⟨AA,?_⟩));exact DQ AA (by kernel_rfl) (c M.decls M.AB (Sh.AF a).symm _ (by exact Ag [1,2] AA AA (.w (.w .nil)) (.same AA)))
 ·refine xo 4 (Aj (m:=2) AN Gh AA AA (AE ⟨AA,?_⟩));refine xa [0,1] ⟨?_,?_,mV⟩
  ·refine xo 0 (zq tb AA (AE ⟨AA,xa [1] ⟨?_,mV⟩⟩))
   ·refine xo 1 (zq tb AA (AE ⟨AA,xa [2] ⟨?_,mV⟩⟩))
    ·refine xo 2 ?_;refine bs a λd9 g0 a=>A8 (v':=(ow 3 0 d9)) AN (hb 90) (B7 g0) rfl AA ⟨(A9 λ_=>AA),mV⟩ AA AA (AE ⟨AA,?_⟩);refine xa [3] ⟨?_,mV⟩
     ·refine xo 3 ?_;refine Aa (Wk.Ct (L:=(Zu p0 d9 [])) (st':=(PY p0 [J6,Pd])) (id:=3) rfl qp (Ac λ_=>AA) ⟨.rfl,.rfl,.rfl,.Ct AA,mV⟩ AA) (bs a λO g1 a=>zc (v':=(Ej O)) (hb 89) (Bc g1) rfl AA AA (AE ⟨AA,?_⟩));refine xa [5] ⟨?_,mV⟩
      ·refine xo 5 (Al AN FG AA AA AA AA AA AA qg rfl (AE ⟨AA,?_⟩));exact DQ AA (by kernel_rfl) (c O.decls O.AB (Sh.AF a).symm _ (by exact Ag [1,2] AA AA (.w (.w .nil)) (.same AA)))
  ·refine xo 1 (zq tb AA (AE ⟨AA,?_⟩));refine xa [0,2] ⟨?_,?_,mV⟩
   ·refine xo 0 (zq tb AA (AE ⟨AA,xa [2] ⟨?_,mV⟩⟩))
    ·refine xo 2 ?_;refine bs a λg2 g3 a=>A8 (v':=(ow 3 0 g2)) AN (hb 90) (B7 g3) rfl AA ⟨(A9 λ_=>AA),mV⟩ AA AA (AE ⟨AA,?_⟩);refine xa [3] ⟨?_,mV⟩
     ·refine xo 3 ?_;refine Aa (Wk.Ct (L:=(Zu p0 g2 [])) (st':=(PY p0 [J6,Pd])) (id:=3) rfl qp (Ac λ_=>AA) ⟨.rfl,.rfl,.rfl,.Ct AA,mV⟩ AA) (bs a λP g4 a=>zc (v':=(Ej P)) (hb 89) (Bc g4) rfl AA AA (AE ⟨AA,?_⟩));refine xa [5] ⟨?_,mV⟩
      ·refine xo 5 (Al AN FG AA AA AA AA AA AA qg rfl (AE ⟨AA,?_⟩));exact DQ AA (by kernel_rfl) (c P.decls P.AB (Sh.AF a).symm _ (by exact Ag [1,2] AA AA (.w (.w .nil)) (.same AA)))
   ·refine xo 2 ?_;refine bs a λg5 g6 a=>A8 (v':=(ow 3 0 g5)) AN (hb 90) (B7 g6) rfl AA ⟨(A9 λ_=>AA),mV⟩ AA AA (AE ⟨AA,?_⟩);refine xa [0] ⟨?_,mV⟩
    ·refine xo 0 (zq tb AA (AE ⟨AA,xa [3] ⟨?_,mV⟩⟩))
     ·refine xo 3 ?_;refine Aa (Wk.Ct (L:=(Zu p0 g5 [])) (st':=(PY p0 [J6,Pd])) (id:=3) rfl qp (Ac λ_=>AA) ⟨.rfl,.rfl,.rfl,.Ct AA,mV⟩ AA) (bs a λQ g7 a=>zc (v':=(Ej Q)) (hb 89) (Bc g7) rfl AA AA (AE ⟨AA,?_⟩));refine xa [5] ⟨?_,mV⟩
      ·refine xo 5 (Al AN FG AA AA AA AA AA AA qg rfl (AE ⟨AA,?_⟩));exact DQ AA (by kernel_rfl) (c Q.decls Q.AB (Sh.AF a).symm _ (by exact Ag [1,2] AA AA (.w (.w .nil)) (.same AA)))
theorem UZ {N:Nat}{p0:AL}{r:AL×Bool}(h0:KE N p0=some r):Ay 14 [Ej p0] [] (.C7 [.agg (YM r.1.decls r.1.AB),.bool r.2]) []:=by
 unfold KE at h0;refine FH AA (ai Tryz.func14 AA AA AA AA (sr AA λk c=>Az (m:=0) AN AA AA AA AA AA (Aj (m:=1) AN Gh AA AA (zq tb AA (dn c AA (AD λl d=>sr AA λn e=>zq tb AA (bs h0 λi f h0=>zc (hb 27) (TG f) rfl AA AA (zq tb AA (dn e AA ?_)))))))));refine ci h0 AA ?_ ?_<;>intro j h0
 ·have o:i=false:=by simpa using j
  refine sr AA λp g=>zz (.agg [.zc,.zc]) (HU cK cF Gh AA AA) rfl (Al AN FG AA AA AA AA AA AA qg rfl (zq tb AA (dn g AA ?_)));cases h0;exact BB ⟨_,(((Iq (id:=1) (cs:=[.zc,.zc]) (cs':=[ZS,.zc]) (st':=[IU p0.decls p0.AB,⟨0,30,2,[[ZS,.zc]]⟩]) rfl ⟨le.zc,le.rfl,mV⟩ AA AA).trans (Iq (id:=1) (cs:=[ZS,.zc]) (cs':=eP) (st':=[IU p0.decls p0.AB,⟨0,30,2,[eP]⟩]) rfl ⟨le.rfl,le.zc,mV⟩ AA AA)).trans (Ag (L:=[(2,BL),(3,.bool false)]) (st':=[⟨0,30,2,[eP]⟩]) [1] AA AA (.w .nil) ⟨.rfl,.rfl,mV⟩)).trans (As (L:=[(2,BL),(3,.bool false)]) ⟨.rfl,.rfl,mV⟩),Cz (x:=.tmp 2) (off:=0) (cs:=eP) (vs:=eP) FG AA AA AA qg rfl _ AA⟩
 ·have q:i=true:=by simpa using j
  refine AH (d _ (sr AA λs h=>zq tb AA (bs h0 λa b h0=>zc (v':=(Ej a)) (hb 42) (Rv b) rfl AA AA (Al AN FG AA AA AA AA AA AA qg rfl (zq tb AA (dn h AA ?_))))));cases h0;exact BB ⟨_,(Ag (L:=[(2,BL),(3,.bool true)]) (st':=[IU a.decls a.AB]) [1] AA AA (.w .nil) ⟨.rfl,.rfl,mV⟩).trans (As (L:=[(2,BL),(3,.bool true)]) ⟨.rfl,.rfl,mV⟩),Cz (x:=.tmp 2) (off:=0) (cs:=[Df a.decls,UF a]) (vs:=[Df a.decls,UF a]) FG AA AA AA qg rfl _ AA⟩
theorem JN {p0:(List AR)}{p1:Int}{r:Bool}(h0:Gl p0 p1=some r):Ay 139 (S8 p0 p1) [] (.bool r) []:=by
 unfold Gl at h0;refine ai Tryz.func139 AA AA AA AA (zr tb AA AA (AD λg d=>bs h0 λe b h0=>?_));have f:∀c,e=c->∀s,Wk 0 s ⟨13,AM [(4,.bool c)],[]⟩->g s:=by
  intro c i s h;subst e;try dsimp only at h0
  refine d _ (AJ h ?_);obtain rfl:=Sh.AF h0;exact rt [(4,.bool c)]
 refine AG AA (zm tb 3 AA ?_);rcases Sh.Ab b with ⟨a,b⟩|⟨a,b⟩
 ·exact zg tb a AA (zg tb a AA (At (v:=(Fb p0)) (BI AA AA a) rfl (Bo Sd AA) (zg tb a AA (zt a AA (zq tb AA (AE (f (decide (p1<=(Sh.len p0))) (Sh.AF b).symm _ (AI AA))))))))
 ·refine zs a AA ?_;iterate 3 refine zs a rfl ?_
  exact zf a AA (zq tb AA (AE (f false (Sh.AF b).symm _ (AI AA))))
theorem Mp {N:Nat}{p0:(List AR)}{p1:(List Int)}{r:Bool}(h0:HF N p0 p1=some r):Ay 138 [Df p0,ls eI p1] [] (.bool r) []:=by
 unfold HF at h0;refine ai Tryz.func138 AA AA AA AA (zr tb AA AA (AD λp i=>sr AA λC j=>zq tb AA (zl tb AA AA (zq tb AA (dn j AA ?_)))));obtain⟨k,a,h0⟩:=Sh.Ar h0;have q:∀(_:Unit),k=Sum.inr ()->∀s,Wk 0 s ⟨18,AM [],[]⟩->p s:=by
  intro _ D s t;subst k;refine i _ (AJ t (zr tb AA AA ?_));cases h0;exact rt [(4,.bool true)]
 refine AK (AT (σ:=Int) (λn v=>Eg p0 p1 n v=some k) (λl=>⟨18,AM [(0,ls Ak p0),(7,ls eI p1),(8,i64 (Sh.len p1)),(9,i64 l)],[]⟩) N 0 a (AI AA) (λ_ o=>by rw[Eg]at o;cases o) ?_);rintro n l a;rw[Eg]at a;refine zr tb AA AA (AD λE m=>?_);refine ci a AA ?_ ?_<;>intro F a
 ·refine AH (m _ (AD λu b=>AK (sr AA λx c=>bs a λy d a=>zx BH d AA AA AA (zm tb 2 AA (dn c AA (sr AA λz e=>zm tb 2 AA (bs a λf g a=>zc (hb 139) (JN g) rfl AA AA (zq tb AA (dn e AA ?_)))))))));refine ci a AA ?_ ?_<;>intro h a
  ·have A:f=false:=by simpa using h
   refine zr tb AA AA ?_;cases a;cases h0;exact rt [(4,.bool false)]
  ·have B:f=true:=by simpa using h
   exact AH (b _ (AG AA (zm tb 2 AA (AE (xi (Sh.w (l+1)) a (AI AA))))))
 ·exact Ad (q () (Sh.AF a).symm _ (AI AA))
theorem Qn {N:Nat}{p0:(List AR)}{r:Bool}(h0:HN N p0=some r):Ay 137 [Df p0] [] (.bool r) []:=by
 unfold HN at h0;refine ai Tryz.func137 AA AA AA AA (zr tb AA AA (AD λK2 c3=>sr AA λK3 c4=>zq tb AA (zl tb AA AA (zq tb AA (dn c4 AA ?_)))));refine ci h0 AA ?_ ?_<;>intro b4 h0
 ·refine zr tb AA AA ?_;cases h0;exact rt [(2,.bool false)]
 ·refine AH (c3 _ (AD λK6 c5=>sr AA λK7 c6=>zq tb AA (zl tb AA AA (zq tb AA (dn c6 AA ?_)))));obtain⟨o9,d,h0⟩:=Sh.Ar h0;have M9:∀(_:Unit),o9=Sum.inr ()->∀s,Wk 0 s ⟨106,AM [],[]⟩->K6 s:=by
   intro _ I s x;subst o9;refine c5 _ (AJ x (zr tb AA AA ?_));cases h0;exact rt [(2,.bool true)]
  refine AK (AT (σ:=Int) (λn v=>Dq N p0 n v=some o9) (λu=>⟨106,AM [(0,ls Ak p0),(12,ls Ak p0),(13,i64 (Sh.len p0)),(14,i64 u)],[]⟩) N 0 d (AI AA) (λ_ C=>by rw[Dq]at C;cases C) ?_);rintro n u d;rw[Dq]at d;refine zr tb AA AA (AD λd6 J=>?_);refine ci d AA ?_ ?_<;>intro d7 d
  ·refine AH (J _ (AD λc7 K=>AK (sr AA λd8 L=>zq tb AA (bs d λb M d=>zx DZ M AA AA AA (zq tb AA (Aj (m:=0) AN Fy AA AA (zq tb AA (Al AN G0 AA AA AA AA AA AA qn rfl (dn L AA (AD λd9 O=>AD λc8 P=>bs d λQ a d=>?_))))))))));have t:∀D,Q=D->∀s,Wk 0 s ⟨106,AM (kG p0 u [(52,.bool D)]),[UC b]⟩->c8 s:=by
    intro D I s x;subst Q;refine P _ (AJ x ?_);refine ci d AA ?_ ?_<;>intro g0 d
    ·refine zr tb AA AA ?_;cases d;cases h0;exact rd [(2,.bool false)]
    ·refine AH (O _ (AD λc9 R=>sr AA λg1 S=>zm tb 2 AA (zl tb AA AA (zq tb AA (dn S AA ?_)))));obtain⟨E,a,d⟩:=Sh.Ar d;have d1:∀(_:Unit),E=Sum.inr ()->∀s,Wk 0 s ⟨106,AM (kG p0 u []),[UC b]⟩->c9 s:=by
      intro _ I s x;subst E;refine R _ (AJ x (sr AA λg2 T=>zm tb 2 AA (bs d λy U d=>Xh (i:=0) (j:=u) AN DZ AA AA AA (λ_=>AA) U (zl tb AA AA (zq tb AA (dn T AA ?_))))));obtain⟨F,a,d⟩:=Sh.Ar d;have d2:∀(_:Unit),F=Sum.inr ()->∀s,Wk 0 s ⟨106,AM [(0,Df p0),(12,Df p0),(13,Fb p0),(14,i64 u)],[]⟩->c7 s:=by
       intro _ I s x;subst F;exact K _ (AJ x (AG AA (zm tb 2 AA (AE (xi (Sh.w (u+1)) d (AI AA))))))
      refine AK (AT (σ:=Int) (λn v=>DC b y n v=some F) (λz=>⟨106,AM [(0,ls Ak p0),(4,.ptr 0 0 0 0),(12,ls Ak p0),(13,i64 (Sh.len p0)),(14,i64 u),(74,ls Ak y),(75,i64 (Sh.len y)),(76,i64 z)],[⟨0,104,3,[Ak b]⟩]⟩) N 0 a (AI AA) (λ_ C=>by rw[DC]at C;cases C) ?_);rintro n z a;rw[DC]at a;refine zr tb AA AA (AD λg3 V=>?_);refine ci a AA ?_ ?_<;>intro g4 a
      ·refine AH (V _ (AD λg5 W=>AK (sr AA λg6 X=>bs a λY Z a=>zx DZ Z AA AA AA (zq tb AA (Aj (m:=1) AN Fy AA AA (Al AN G0 AA AA AA AA AA AA qn rfl (dn X AA (AD λd3 b0=>bs a λb1 f a=>?_))))))));have A:∀G,b1=G->∀s,Wk 0 s ⟨106,AM [(0,Df p0),(4,BL),(12,Df p0),(13,Fb p0),(14,i64 u),(74,Df y),(75,Fb y),(76,i64 z),(103,.bool G)],[UC b]⟩->d3 s:=by
        intro G I s x;subst b1;refine b0 _ (AJ x ?_);refine ci a AA ?_ ?_<;>intro g7 a
        ·refine zr tb AA AA ?_;cases a;cases d;cases h0;exact rd [(2,.bool false)]
        ·exact AH (W _ (AG AA (zm tb 2 AA (AE (xi (Sh.w (z+1)) a (AI AA))))))
       refine AG AA (zm tb 2 AA (zl tb AA AA (zm tb 2 AA ?_)));rcases Sh.Ab f with ⟨k,f⟩|⟨k,f⟩
       ·refine zg tb k AA (zg tb k AA (At (v:=(ZN Y)) (BI AA AA k) rfl (Bo Mu AA) (zg tb k AA (zt k AA (zq tb AA ?_)))));rcases Sh.Ab f with ⟨p,f⟩|⟨p,f⟩
        ·refine zg tb p AA ?_;iterate 4 refine zg tb p rfl ?_
         refine zt p AA (zq tb AA ?_);rcases Sh.Ab f with ⟨q,f⟩|⟨q,f⟩
         ·refine zg tb q AA ?_;iterate 4 refine zg tb q rfl ?_
          exact zt q AA (AE (A (decide (Y.to=b.to)) (Sh.AF f).symm _ (Ag [0] AA AA (.w .nil) (.same AA))))
         ·refine zs q AA ?_;iterate 4 refine zs q rfl ?_
          exact zf q AA (AE (A false (Sh.AF f).symm _ (Ag [0] AA AA (.w .nil) (.same AA))))
        ·refine zs p AA ?_;iterate 4 refine zs p rfl ?_
         refine zf p AA (zq tb AA ?_);iterate 5 refine zs rfl rfl ?_
         exact zf AA AA (AE (A false (Sh.AF f).symm _ (Ag [0] AA AA (.w .nil) (.same AA))))
       ·refine zs k AA ?_;iterate 3 refine zs k rfl ?_
        refine zf k AA (zq tb AA ?_);iterate 5 refine zs rfl rfl ?_
        refine zf AA AA (zq tb AA ?_);iterate 5 refine zs rfl rfl ?_
        exact zf AA AA (AE (A false (Sh.AF f).symm _ (Ag [0] AA AA (.w .nil) (.same AA))))
      ·exact Ad (d2 () (Sh.AF a).symm _ (BD _ AA))
     refine AK (AT (σ:=Int) (λn v=>DA N b p0 n v=some E) (λB=>⟨106,AM [(0,ls Ak p0),(3,i64 u),(4,.ptr 0 0 0 0),(12,ls Ak p0),(13,i64 (Sh.len p0)),(14,i64 u),(54,ls BR b.cons),(55,i64 (Sh.len b.cons)),(56,i64 B)],[⟨0,104,3,[Ak b]⟩]⟩) N 0 a (AI AA) (λ_ C=>by rw[DA]at C;cases C) ?_);rintro n B a;rw[DA]at a;refine zr tb AA AA (AD λg8 b2=>?_);refine ci a AA ?_ ?_<;>intro g9 a
     ·refine AH (b2 _ (AD λh4 b3=>AK (sr AA λh5 b5=>bs a λh6 b6 a=>zx HC b6 AA AA AA (zq tb AA (Aj (m:=1) AN Mw AA AA (Al AN Ka AA AA AA AA AA AA ql rfl (dn b5 AA (AD λd4 b7=>bs a λb8 f a=>?_))))))));have b9:∀H,b8=H->∀s,Wk 0 s ⟨106,AM (kG p0 u [(54,ls BR b.cons),(55,ZN b),(56,i64 B),(70,.bool H)]),[UC b]⟩->d4 s:=by
       intro H I s x;subst b8;refine b7 _ (AJ x ?_);refine ci a AA ?_ ?_<;>intro h7 a
       ·refine zr tb AA AA ?_;cases a;cases d;cases h0;exact rd [(2,.bool false)]
       ·exact AH (b3 _ (AG AA (zm tb 2 AA (AE (xi (Sh.w (B+1)) a (AI AA))))))
      refine AG AA (zm tb 2 AA (zl tb AA AA (zm tb 2 AA ?_)));rcases Sh.Ab f with ⟨g,f⟩|⟨g,f⟩
      ·refine zs g AA ?_;iterate 4 refine zs g rfl ?_
       exact zt g AA (AE (b9 true (Sh.AF f).symm _ (Ag [0] AA AA (.w .nil) (.same AA))))
      ·exact zg tb g AA (zg tb g AA (zg tb g AA (bs f λd5 c0 f=>zd g (hb 138) (Mp c0) rfl AA AA AA (zg tb g AA (zf g AA (AE (b9 (!d5) (Sh.AF f).symm _ (Ag [0] AA AA (.w .nil) (.same AA)))))))))
     ·exact Ad (d1 () (Sh.AF a).symm _ (AI AA))
   refine AG AA (zm tb 3 AA (bs a λh8 c1 a=>zc (hb 139) (JN c1) rfl AA AA (zm tb 2 AA ?_)));rcases Sh.Ab a with ⟨h,a⟩|⟨h,a⟩
   ·refine zs h AA ?_;iterate 4 refine zs h rfl ?_
    refine zt h AA (zq tb AA ?_);iterate 4 refine zs rfl rfl ?_
    refine zt AA AA (zq tb AA ?_);iterate 5 refine zs rfl rfl ?_
    iterate 8 refine zn rfl ?_
    exact zs AA AA (zt AA AA (AE (t true (Sh.AF a).symm _ (AI AA))))
   ·refine zg tb h AA (zg tb h AA (zg tb h AA (bs a λh9 c2 a=>zd h (hb 139) (JN c2) rfl AA AA AA (zg tb h AA (zf h AA (zq tb AA ?_))))));rcases Sh.Ab a with ⟨l,a⟩|⟨l,a⟩
    ·refine zs l AA ?_;iterate 3 refine zs l rfl ?_
     refine zt l AA (zq tb AA ?_);iterate 5 refine zs rfl rfl ?_
     iterate 8 refine zn rfl ?_
     exact zs AA AA (zt AA AA (AE (t true (Sh.AF a).symm _ (AI AA))))
    ·refine zg tb l AA (zg tb l AA (At (v:=(ZN b)) (BI AA AA l) rfl (Bo Mu AA) (zg tb l AA (zf l AA (zq tb AA ?_)))));rcases Sh.Ab a with ⟨c,a⟩|⟨c,a⟩
     ·refine zs c AA ?_;iterate 4 refine zs c rfl ?_
      iterate 8 refine zn rfl ?_
      exact zs c AA (zt c AA (AE (t true (Sh.AF a).symm _ (AI AA))))
     ·refine zg tb c AA (zg tb c AA (At (v:=(ZN b)) (BI AA AA c) rfl (Bo Mu AA) (zg tb c AA (zg tb c AA ?_))));rcases Sh.Ab a with ⟨e,a⟩|⟨e,a⟩
      ·refine zg tb e AA ?_;iterate 3 refine zg tb e rfl ?_
       rcases Sh.Ab a with ⟨o,a⟩|⟨o,a⟩
       ·exact zs o AA (zs o AA (zs o AA (At (v:=(.bool true)) (BI AA AA e) rfl (Ee AA o AA) (At (v:=(.bool true)) (BI AA AA c) rfl (Ee AA e AA) (zf c AA (AE (t true (Sh.AF a).symm _ (AI AA))))))))
       ·exact zg tb o AA (zg tb o AA (zg tb o AA (At (v:=(.bool (!decide (b.to=0)))) (BI AA AA e) rfl (D6 AA o AA) (At (v:=(.bool (!decide (b.to=0)))) (BI AA AA c) rfl (Ee AA e AA) (zf c AA (AE (t (!decide (b.to=0)) (Sh.AF a).symm _ (AI AA))))))))
      ·refine zs e AA ?_;iterate 3 refine zs e rfl ?_
       iterate 3 refine zn rfl ?_
       exact zs e AA (At (v:=(.bool false)) (BI AA AA c) rfl (D6 AA e AA) (zf c AA (AE (t false (Sh.AF a).symm _ (AI AA)))))
  ·exact Ad (M9 () (Sh.AF d).symm _ (AI AA))
theorem Q6 {N:Nat}{p0:(List AR)}{p1:(List BM)}{r:Bool}(h0:Hl N p0 p1=some r):Ay 76 [Df p0,Xl p1] [] (.bool r) []:=by
 unfold Hl at h0;refine ai Tryz.func76 AA AA AA AA (zr tb AA AA (AD λK2 b3=>AD λK3 b4=>bs h0 λo5 a h0=>?_));have G:∀t4,o5=t4->∀s,Wk 0 s ⟨102,AM [(0,Df p0),(1,Xl p1),(36,.bool t4)],[]⟩->K3 s:=by
  intro t4 hq s u;subst o5;refine b4 _ (AJ u ?_);refine ci h0 AA ?_ ?_<;>intro b6 h0
  ·refine zr tb AA AA ?_;cases h0;exact rt [(4,.bool false)]
  ·refine AH (b3 _ (AD λK8 b5=>sr AA λK9 b7=>zq tb AA (zl tb AA AA (zq tb AA (dn b7 AA ?_)))));obtain⟨A,a,h0⟩:=Sh.Ar h0;have b8:∀(_:Unit),A=Sum.inr ()->∀s,Wk 0 s ⟨102,AM [],[]⟩->K8 s:=by
    intro _ hq s u;subst A;refine b5 _ (AJ u (zr tb AA AA ?_));cases h0;exact rt [(4,.bool true)]
   refine AK (AT (σ:=Int) (λn v=>DV N p0 p1 n v=some A) (λq=>⟨102,AM [(0,ls Ak p0),(37,ls Du p1),(38,i64 (Sh.len p1)),(39,i64 q)],[]⟩) N 0 a (AI AA) (λ_ H=>by rw[DV]at H;cases H) ?_);rintro n q a;rw[DV]at a;refine zr tb AA AA (AD λc5 I=>?_);refine ci a AA ?_ ?_<;>intro c6 a
   ·refine AH (I _ (AD λb9 J=>AK (sr AA λc7 K=>bs a λc L a=>zx To L AA AA AA (zq tb AA (Aj (m:=0) AN fl AA AA (Al AN kP AA AA AA AA AA AA qn rfl (dn K AA (AD λc8 M=>AD λc0 O=>bs a λP b a=>?_))))))));have B:∀C,P=C->∀s,Wk 0 s ⟨102,AM [(0,Df p0),(6,BL),(37,Xl p1),(38,Fb p1),(39,i64 q),(60,.bool C)],[⟨0,122,3,[[ls eI c.params,ls eI c.Ao,i64 c.result]]⟩]⟩->c0 s:=by
     intro C hq s u;subst P;refine O _ (AJ u ?_);refine ci a AA ?_ ?_<;>intro c9 a
     ·refine zr tb AA AA ?_;cases a;cases h0;exact rd [(4,.bool false)]
     ·refine AH (M _ (sr AA λd1 Q=>zm tb 2 AA (zl tb AA AA (zq tb AA (dn Q AA ?_)))));obtain⟨D,b,a⟩:=Sh.Ar a;have c1:∀(_:Unit),D=Sum.inr ()->∀s,Wk 0 s ⟨102,AM [(0,Df p0),(37,Xl p1),(38,Fb p1),(39,i64 q)],[]⟩->b9 s:=by
       intro _ hq s u;subst D;exact J _ (AJ u (AG AA (zm tb 2 AA (AE (xi (Sh.w (q+1)) a (AI AA))))))
      refine AK (AT (σ:=Int) (λn v=>DR c n v=some D) (λx=>⟨102,AM [(0,ls Ak p0),(6,.ptr 0 0 0 0),(37,ls Du p1),(38,i64 (Sh.len p1)),(39,i64 q),(62,ls eI c.Ao),(63,i64 (Sh.len c.Ao)),(64,i64 x)],[⟨0,122,3,[[ls eI c.params,ls eI c.Ao,i64 c.result]]⟩]⟩) N 0 b (AI AA) (λ_ H=>by rw[DR]at H;cases H) ?_);rintro n x b;rw[DR]at b;refine zr tb AA AA (AD λd2 R=>?_);refine ci b AA ?_ ?_<;>intro d3 b
      ·refine AH (R _ (AD λd4 S=>AK (sr AA λd5 T=>zq tb AA (bs b λU V b=>zx BH V AA AA AA (zm tb 3 AA (dn T AA (AD λc2 W=>bs b λX g b=>?_)))))));have t:∀E,X=E->∀s,Wk 0 s ⟨102,AM [(0,Df p0),(6,BL),(37,Xl p1),(38,Fb p1),(39,i64 q),(62,ls eI c.Ao),(63,Fb c.Ao),(64,i64 x),(99,.bool E)],[⟨0,122,3,[[ls eI c.params,ls eI c.Ao,i64 c.result]]⟩]⟩->c2 s:=by
        intro E hq s u;subst X;refine W _ (AJ u ?_);refine ci b AA ?_ ?_<;>intro d6 b
        ·refine zr tb AA AA ?_;cases b;cases a;cases h0;exact rd [(4,.bool false)]
        ·exact AH (S _ (AG AA (zm tb 2 AA (AE (xi (Sh.w (x+1)) b (AI AA))))))
       refine AG AA (zm tb 3 AA ?_);rcases Sh.Ab g with ⟨h,g⟩|⟨h,g⟩
       ·refine zs h AA ?_;iterate 4 refine zs h rfl ?_
        refine zt h AA (zq tb AA ?_);iterate 6 refine zs rfl rfl ?_
        refine zt AA AA (zq tb AA ?_);iterate 3 refine zs rfl rfl ?_
        iterate 8 refine zn rfl ?_
        exact zs AA AA (zt AA AA (AE (t true (Sh.AF g).symm _ (AI AA))))
       ·refine zg tb h AA (zg tb h AA (zg tb h AA (At (v:=(Fb c.params)) (BI AA AA h) rfl (Bo Hh AA) (zg tb h AA (zf h AA (zq tb AA ?_))))));rcases Sh.Ab g with ⟨e,g⟩|⟨e,g⟩
        ·refine zs e AA ?_;iterate 5 refine zs e rfl ?_
         refine zt e AA (zq tb AA ?_);iterate 3 refine zs rfl rfl ?_
         iterate 8 refine zn rfl ?_
         exact zs AA AA (zt AA AA (AE (t true (Sh.AF g).symm _ (AI AA))))
        ·refine zg tb e AA (zg tb e AA (zg tb e AA (bs g λc3 Y g=>At (v:=(LV c3)) (BI AA AA e) rfl (Bi BH AA AA Y AA) (zg tb e AA (zg tb e AA (zf e AA (zq tb AA ?_)))))));rcases Sh.Ab g with ⟨d,g⟩|⟨d,g⟩
         ·refine zs d AA (zs d AA (zs d AA ?_));iterate 8 refine zn rfl ?_
          exact zs d AA (zt d AA (AE (t true (Sh.AF g).symm _ (AI AA))))
         ·refine zg tb d AA (zg tb d AA (zg tb d AA ?_));rcases Sh.Ab g with ⟨i,g⟩|⟨i,g⟩
          ·refine zg tb i AA ?_;iterate 4 refine zg tb i rfl ?_
           exact bs g λF Z g=>At (v:=(LV F)) (BI AA AA i) rfl (Bi BH AA AA Z AA) (zg tb i AA (zg tb i AA (At (v:=(.bool (decide (U<=F)))) (BI AA AA d) rfl (Ee AA i AA) (zf d AA (AE (t (decide (U<=F)) (Sh.AF g).symm _ (AI AA)))))))
          ·refine zs i AA ?_;iterate 7 refine zs i rfl ?_
           exact At (v:=(.bool false)) (BI AA AA d) rfl (D6 AA i AA) (zf d AA (AE (t false (Sh.AF g).symm _ (AI AA))))
      ·exact Ad (c1 () (Sh.AF b).symm _ (BD _ AA))
    refine AG AA (zm tb 2 AA (zl tb AA AA (zm tb 2 AA ?_)));rcases Sh.Ab b with ⟨j,b⟩|⟨j,b⟩
    ·refine zs j AA ?_;iterate 4 refine zs j rfl ?_
     refine zt j AA (zq tb AA ?_);iterate 5 refine zs rfl rfl ?_
     exact zt AA AA (AE (B true (Sh.AF b).symm _ (AI AA)))
    ·refine zg tb j AA (zg tb j AA (zg tb j AA (bs b λd7 b0 b=>zd j (hb 138) (Mp b0) rfl AA AA AA (zg tb j AA (zf j AA (zq tb AA ?_))))));rcases Sh.Ab b with ⟨k,b⟩|⟨k,b⟩
     ·refine zs k AA ?_;iterate 4 refine zs k rfl ?_
      exact zt k AA (AE (B true (Sh.AF b).symm _ (AI AA)))
     ·exact zg tb k AA (zg tb k AA (zg tb k AA (bs b λc4 b1 b=>zd k (hb 139) (JN b1) rfl AA AA AA (zg tb k AA (zf k AA (AE (B (!c4) (Sh.AF b).symm _ (AI AA))))))))
   ·exact Ad (b8 () (Sh.AF a).symm _ (AI AA))
 refine AG AA (zq tb AA (bs a λd8 b2 a=>zc (hb 137) (Qn b2) rfl AA AA (zm tb 2 AA ?_)));rcases Sh.Ab a with ⟨l,a⟩|⟨l,a⟩
 ·refine zs l AA (zs l AA (zs l AA (zt l AA (zq tb AA ?_))));iterate 3 refine zs rfl rfl ?_
  refine zt AA AA (zq tb AA ?_);iterate 6 refine zs rfl rfl ?_
  refine zt AA AA (zq tb AA ?_);iterate 5 refine zs rfl rfl ?_
  exact zt AA AA (AE (G true (Sh.AF a).symm _ (AI AA)))
 ·refine zg tb l AA (At (v:=(Fb p1)) (BI AA AA l) rfl (Bo cG AA) (zg tb l AA (zf l AA (zq tb AA ?_))));rcases Sh.Ab a with ⟨o,a⟩|⟨o,a⟩
  ·refine zs o AA (zs o AA (zs o AA (zt o AA (zq tb AA ?_))));iterate 6 refine zs rfl rfl ?_
   refine zt AA AA (zq tb AA ?_);iterate 5 refine zs rfl rfl ?_
   exact zt AA AA (AE (G true (Sh.AF a).symm _ (AI AA)))
  ·refine zg tb o AA (At (v:=(Fb p1)) (BI AA AA o) rfl (Bo cG AA) (zg tb o AA (zf o AA (zq tb AA ?_))));rcases Sh.Ab a with ⟨f,a⟩|⟨f,a⟩
   ·refine zs f AA ?_;iterate 5 refine zs f rfl ?_
    refine zt f AA (zq tb AA ?_);iterate 5 refine zs rfl rfl ?_
    exact zt AA AA (AE (G true (Sh.AF a).symm _ (AI AA)))
   ·refine zg tb f AA (bs a λy z a=>At (v:=(.Bz (Du y) 0)) (BI AA AA f) rfl (Bi To AA AA z AA) (zg tb f AA (zg tb f AA (At (v:=(Fb y.params)) (BI AA AA f) rfl (Bo Hh AA) (zg tb f AA (zf f AA (zq tb AA ?_)))))));rcases Sh.Ab a with ⟨p,a⟩|⟨p,a⟩
    ·refine zs p AA ?_;iterate 4 refine zs p rfl ?_
     exact zt p AA (AE (G true (Sh.AF a).symm _ (AI AA)))
    ·refine zg tb p AA (At (v:=(.Bz (Du y) 0)) (BI AA AA p) rfl (Bi To AA AA z AA) ?_);iterate 3 refine zg tb p rfl ?_
     exact zf p AA (AE (G (!decide (y.result=0)) (Sh.AF a).symm _ (AI AA)))
theorem QZ {N:Nat}{p0:AL}{r:Aq×Bool}(h0:GK N p0=some r):Ay 32 [Ej p0] [] (.C7 [UQ r.1,.bool r.2]) []:=by
 unfold GK at h0;refine FH AA (ai Tryz.func32 AA AA AA AA (sr AA λQ y=>Az (m:=0) AN AA AA AA AA AA (Aj (m:=1) AN Z9 AA AA (zq tb AA (dn y AA (AD λR z=>sr AA λS A=>zm tb 2 AA (zl tb AA AA (zq tb AA (dn A AA ?_)))))))));refine ci h0 AA ?_ ?_<;>intro T h0
 ·refine sr AA λU B=>zz (.agg [.zc,.zc]) (HU ja jQ Z9 AA AA) rfl (Al AN XG AA AA AA AA AA AA qg rfl (zq tb AA (dn B AA ?_)));cases h0;exact BB ⟨_,(((Iq (id:=1) (cs:=[.zc,.zc]) (cs':=[ZS,.zc]) (st':=[IU p0.decls p0.AB,⟨0,65,2,[[ZS,.zc]]⟩]) rfl ⟨le.zc,le.rfl,mV⟩ AA AA).trans (Iq (id:=1) (cs:=[ZS,.zc]) (cs':=fb) (st':=[IU p0.decls p0.AB,⟨0,65,2,[fb]⟩]) rfl ⟨le.rfl,le.zc,mV⟩ AA AA)).trans (Ag (L:=[(2,BL),(3,.bool false)]) (st':=[⟨0,65,2,[fb]⟩]) [1] AA AA (.w .nil) ⟨.rfl,.rfl,mV⟩)).trans (As (L:=[(2,BL),(3,.bool false)]) ⟨.rfl,.rfl,mV⟩),Cz (x:=.tmp 2) (off:=0) (cs:=fb) (vs:=fb) XG AA AA AA qg rfl _ AA⟩
 ·refine AH (z _ (sr AA λV C=>zm tb 2 AA (zz (.agg [Df p0.decls,.zc]) (HU ja jQ Z9 AA AA) rfl (Aj (m:=2) AN Z9 AA AA (Al AN XG AA AA AA AA AA AA qg rfl (dn C AA (AD λH D=>sr AA λW E=>zm tb 2 AA (zl tb AA AA (zq tb AA (dn E AA (bs h0 λf c h0=>?_)))))))))));have F:∀b,f=b->∀s,Wk 0 s ⟨41,AM [(1,BL),(2,Ei),(4,Jh)],kN p0 b [ro 0 122 3 Du b]⟩->H s:=by
   intro b X s I;subst f;refine D _ (AJ I (AD λJ h=>B3 6 (by kernel_rfl) (by kernel_rfl) (by rfl) ?_));iterate 5 refine yq tb rfl ?_
   refine bs h0 λd i h0=>U0 (v':=(.bool d)) AN (hb 76) (Q6 i) rfl (.val AA (.own AA AA (λ_=>AA) .nil)) rfl AA (BG (Aa (Wk.Ct (L:=[(2,Ei),(35,.agg [Df p0.decls,Xl b]),(40,.bool d)]) (st':=(kN p0 b [⟨1,122,3,[]⟩])) (id:=3) rfl qp (Ac λ_=>AA) ⟨.rfl,.agg ⟨.rfl,.Je AA,mV⟩,.rfl,mV⟩ AA) (Al AN XG AA AA AA AA AA AA qg rfl (zq tb AA (dn h AA ?_)))));cases h0;exact BB ⟨_,(Ag (L:=[(2,BL),(3,.bool d)]) (st':=[⟨0,65,2,[[Df p0.decls,Xl b]]⟩]) [1] AA AA (.w .nil) ⟨.rfl,.rfl,mV⟩).trans (As (L:=[(2,BL),(3,.bool d)]) ⟨.rfl,.rfl,mV⟩),Cz (x:=.tmp 2) (off:=0) (cs:=[Df p0.decls,Xl b]) (vs:=[Df p0.decls,Xl b]) XG AA AA AA qg rfl _ AA⟩
  refine AK (AT (σ:=Int×(List BM)) (λn v=>Cc p0 n v.1 v.2=some f) (λ(u,e)=>⟨41,AM [(1,.ptr 0 0 0 0),(2,.ptr 1 0 0 0),(4,.ptr 2 0 0 0),(16,ls Ah p0.AB),(17,i64 (Sh.len p0.AB)),(18,i64 u)],[IU p0.decls p0.AB,⟨0,65,2,[[.zc,.zc]]⟩,⟨0,65,2,[[ls Ak p0.decls,ow 3 0 e]]⟩,ro 0 122 3 Du e]⟩) N (0,[]) c (by refine Wk.trans (Jn (id:=2) (st':=[IU p0.decls p0.AB,⟨0,65,2,[[.zc,.zc]]⟩,⟨0,65,2,[[ls Ak p0.decls,.own 3 0 (List.length ([]:List BM))]]⟩,ro 0 122 3 Du ([]:List BM)]) (j:=1) rfl AA 122 (size':=3) (by decide) rfl AA AA AA) ?_;exact AI AA) (λ_ G=>by rw[Cc]at G;cases G) ?_);rintro n ⟨u,e⟩ c;rw[Cc]at c;refine zr tb AA AA (AD λK k=>?_);refine ci c AA ?_ ?_<;>intro M c
  ·refine AH (k _ (AD λO o=>AK (sr AA λP p=>bs c λa q c=>zx Ez q AA AA AA (zq tb AA (Aj (m:=4) AN MJ AA AA (Al AN Mo AA AA AA AA AA AA qi rfl (dn p AA (AG AA (zm tb 8 AA (zz (.agg [ls eI a.params,ls eI a.Ao,i64 a.result]) (HU jn kR fl AA AA) rfl (Cn (m:=5) (l:=[BM.mk a.params a.Ao a.result]) (enc:=Du) AN To (by decide) rfl AA AA AA AA AA (bs c λg t c=>EI (l2:=[BM.mk a.params a.Ao a.result]) AN To AA AA AA AA (MQ AA AA) (λ_=>AA) t AA (zq tb AA (Al AN lX AA AA AA AA AA AA qu rfl (dn o AA (AG AA (zm tb 2 AA ?_)))))))))))))))));exact AE (xi (Sh.w (u+1),g) c (by refine Wk.trans (CP (L:=[(1,BL),(2,Ei),(4,Jh),(16,UF p0),(17,WJ p0),(18,MY u)]) (st':=(kN p0 g [ro 0 122 3 Du g,⟨0,50,5,[Y1 a]⟩,ro 0 122 3 Du [BM.mk a.params a.Ao a.result]])) (.raw AA AA (.raw AA AA (.raw AA AA (.pure (Ac λ_=>AA) (.raw AA AA (.pure (Ac λ_=>AA) .nil)))))) (.same AA)) ?_;exact Ag [0,1,2,3] AA AA (.w (.w (.w (.p .nil)))) (.same AA)))
  ·exact Ad (F e (Sh.AF c).symm _ (AI AA))
theorem On {N:Nat}{rS:Int->Block->Option (Bool×Int)}(tL :∀{rq:Int} {p0:Block} {r:Bool×Int},rS rq p0=some r->Ay 122 [DS p0,BL] [Ol rq] (.bool r.1) [Ol r.2]){rq:Int}{p0:Block}{r:Bool×Int}(h0:Ha N rS rq p0=some r):Ay 122 [DS p0,BL] [Ol rq] (.bool r.1) [Ol r.2]:=by
 unfold Ha at h0;refine ai Tryz.func122 AA AA AA AA (sr AA λK1 G=>Az (m:=1) AN AA AA AA AA AA (zq tb AA (dn G AA (AD λQ H=>sr AA λK3 I=>zm tb 2 AA (zl tb AA AA (zq tb AA (dn I AA ?_)))))));obtain⟨J,a,h0⟩:=Sh.Ar h0;have R:∀(K:Int),J=Sum.inr K->∀s,Wk 1 s ⟨38,AM [],[Ol K]⟩->Q s:=by
  intro K S s M;subst J;refine H _ (AJ M (zr tb AA AA ?_));cases h0;exact rt [(4,.bool true)]
 refine AK (AT (σ:=Int×Int) (λn v=>CV N p0 rS n v.1 v.2=some J) (λ(i,j)=>⟨38,AM [(1,.ptr 0 0 0 0),(10,ls Bk p0.steps),(11,i64 (Sh.len p0.steps)),(12,i64 i)],[Ol j]⟩) N (0,rq) a (Ag [0] AA AA (.w .nil) (.same AA)) (λ_ k=>by rw[CV]at k;cases k) ?_);rintro n ⟨i,j⟩ a;rw[CV]at a;refine zr tb AA AA (AD λT l=>?_);refine ci a AA ?_ ?_<;>intro U a
 ·refine AH (l _ (AD λO o=>AK (sr AA λV p=>bs a λd q a=>zz (Jo d) (Cp FM AA AA q (Be _) rfl) rfl (zq tb AA (Aj (m:=1) AN Nk AA AA (Al AN LQ AA AA AA AA AA AA qi rfl (dn p AA (AD λW t=>sr AA λX u=>zm tb 5 AA (Al AN Jy AA AA AA AA AA AA ql rfl (dn u AA (zr tb AA AA ?_)))))))))));refine ci a AA ?_ ?_<;>intro Y a
  ·refine zr tb AA AA ?_;cases a;cases h0;exact BB (xr (Ag (L:=[(4,.bool false)]) (st':=[⟨0,3,1,[[MY j]]⟩]) [0] AA AA (.w .nil) ⟨.rfl,mV⟩))
  ·refine AH (t _ (sr AA λZ x=>zm tb 2 AA (zl tb AA AA (zq tb AA (dn x AA ?_)))));obtain⟨g,b,a⟩:=Sh.Ar a;have P:∀(e:Int),g=Sum.inr e->∀s,Wk 1 s ⟨38,AM [(1,BL),(10,UT p0),(11,Vy p0),(12,i64 i)],[Ol e]⟩->O s:=by
    intro e S s M;subst g;exact o _ (AJ M (AG AA (zm tb 2 AA (AE (xi (Sh.w (i+1),e) a (AI AA))))))
   refine AK (AT (σ:=Int×Int) (λn v=>CX d rS n v.1 v.2=some g) (λ(h,f)=>⟨38,AM [(1,.ptr 0 0 0 0),(10,ls Bk p0.steps),(11,i64 (Sh.len p0.steps)),(12,i64 i),(26,ls Bg d.kids),(27,i64 (Sh.len d.kids)),(28,i64 h)],[Ol f]⟩) N (0,Sh.w (j+1)) b (Ag [0] AA AA (.w .nil) (.same AA)) (λ_ k=>by rw[CX]at k;cases k) ?_);rintro n ⟨h,f⟩ b;rw[CX]at b;refine zr tb AA AA (AD λb0 y=>?_);refine ci b AA ?_ ?_<;>intro b1 b
   ·refine AH (y _ (AD λb2 z=>AK (sr AA λb3 A=>bs b λB C b=>zx Hs C AA AA AA (zq tb AA (Aj (m:=1) AN MK AA AA (Al AN Jj AA AA AA AA AA AA qg rfl (dn A AA (sr AA λb4 D=>zm tb 2 AA (bs b λc E b=>VR (rows0:=[Ol f]) (rows1:=[Ol c.2]) (st':=[Ol c.2,WU B.steps B.result]) (v':=(.bool c.1)) [0] AN (hb 122) (tL E) rfl (by decide) rfl AA (.raw AA AA .nil) rfl AA (.raw AA AA .nil) .nil AA AA (zq tb AA (dn D AA ?_)))))))))));refine ci b AA ?_ ?_<;>intro F b
    ·have b5:c.1=false:=by simpa using F
     refine zr tb AA AA ?_;cases b;cases a;cases h0;exact BB (xr (Ag (L:=[(4,.bool false)]) (st':=[Ol c.2]) [0] AA AA (.w .nil) ⟨.rfl,mV⟩))
    ·have b6:c.1=true:=by simpa using F
     exact AH (z _ (AG AA (zm tb 2 AA (AE (xi (Sh.w (h+1),c.2) b (Ag [0] AA AA (.w .nil) (.same AA)))))))
   ·exact Ad (P f (Sh.AF b).symm _ (AI AA))
 ·exact Ad (R j (Sh.AF a).symm _ (AI AA))
theorem Oe {N:Nat}:∀(n:Nat),∀{rq:Int} {p0:Block} {r:Bool×Int},E4 N n rq p0=some r->Ay 122 [DS p0,BL] [Ol rq] (.bool r.1) [Ol r.2]:=by
 intro n
 induction n with
 | zero=>intro rq p0 r a;cases a
 | succ n ih=>
  intro rq p0 r a;rw[E4]at a;exact On (λh=>ih h) a
theorem QQ {N:Nat}:∀{rq:Int} {p0:Block} {r:Bool×Int},KN N rq p0=some r->Ay 122 [DS p0,BL] [Ol rq] (.bool r.1) [Ol r.2]:=by
 intro rq p0 r a;exact Oe N a
theorem Sy {N:Nat}{p0:Block}{r:Int}(h0:JB N p0=some r):Ay 64 [DS p0] [] (i64 r) []:=by
 unfold JB at h0;refine ai Tryz.func64 AA AA AA AA (sr AA λh b=>Az (m:=0) AN AA AA AA AA AA (zq tb AA (dn b AA (sr AA λi c=>Aj (m:=1) AN mL AA AA (Al AN Jy AA AA AA AA AA AA ql rfl (dn c AA (AD λj d=>sr AA λk e=>zq tb AA (bs h0 λa f h0=>VR (rows0:=[⟨0,3,1,[[i64 0]]⟩]) (rows1:=[Ol a.2]) (st':=[WU p0.steps p0.result,Ol a.2]) (v':=(.bool a.1)) [1] AN (hb 122) (QQ f) rfl (by decide) rfl AA (.raw AA AA .nil) rfl AA (.raw AA AA .nil) .nil AA AA (zq tb AA (dn e AA ?_))))))))));refine ci h0 AA ?_ ?_<;>intro g h0
 ·have l:a.1=false:=by simpa using g
  refine zr tb AA AA ?_;cases h0;exact rd [(2,i64 (-1))]
 ·have n:a.1=true:=by simpa using g
  refine AH (d _ (zr tb AA AA ?_));cases h0;exact rd [(2,i64 a.2)]
theorem Ba {p0:(List Int)}{r:(List Int)}(h0:Bf p0=some r):Ay 56 [ls eI p0] [] (ow 0 0 r) [Bw r]:=by
 unfold Bf at h0;refine ai Tryz.func56 AA AA AA AA (zr tb AA AA (AD λh c=>sr AA λi a=>zq tb AA ?_));refine SJ AN Hh AA (λg=>?_) ?_
 ·subst g;replace h0:some []=some r:=by rw[<- h0];first|rfl|simp[Sh.app]
  refine dn a AA (FC (b:=true) rfl (λ_=>zr tb AA AA ?_) (λq=>nomatch (show true=false from (AA:true=true).symm.trans q)));cases h0;exact BB (Exists.intro _ (And.intro (((Fk (t:=2) rfl 3 (size:=1) (by decide)).trans (As (L:=[(2,Zv)]) (.same AA))).trans (As (L:=[(2,Zv)]) (.same AA))) (And.intro AA AA)))
 ·refine dn a AA (FC (b:=false) rfl (λq=>nomatch (show false=true from (AA:false=false).symm.trans q)) (λ_=>AH (c _ (sr AA λj d=>Cn (m:=0) (l:=([]:List Int)) (enc:=eI) AN BH (by decide) rfl AA AA AA AA AA (zq tb AA (bs h0 λf e h0=>EI (l2:=p0) AN BH AA AA AA AA OV (λ_=>AA) e AA (zq tb AA (dn d AA ?_))))))));obtain rfl:=Sh.AF h0;exact BB (xr (CP (L:=[(2,ow 0 0 f)]) (st':=[Bw f]) (.pure (Ac λ_=>AA) .nil) (.same AA)))
theorem G2 {p0:Int}{r:Bool}(h0:Ch p0=some r):Ay 96 [i64 p0] [] (.bool r) []:=by
 unfold Ch at h0;refine ai Tryz.func96 AA AA AA AA (zr tb AA AA (AD λg d=>bs h0 λe b h0=>?_));have f:∀c,e=c->∀s,Wk 0 s ⟨9,AM [(2,.bool c)],[]⟩->g s:=by
  intro c i s h;subst e;try dsimp only at h0
  refine d _ (AJ h ?_);obtain rfl:=Sh.AF h0;exact rt [(2,.bool c)]
 refine AG AA (zm tb 3 AA ?_);rcases Sh.Ab b with ⟨a,b⟩|⟨a,b⟩
 ·exact zg tb a AA (zg tb a AA (zt a AA (zq tb AA (AE (f (decide (p0<=17)) (Sh.AF b).symm _ (AI AA))))))
 ·exact zs a AA (zs a AA (zf a AA (zq tb AA (AE (f false (Sh.AF b).symm _ (AI AA))))))
theorem Iu {p0:(List AR)}{p1:Int}{r:AR×Bool}(h0:Gx p0 p1=some r):Ay 187 (S8 p0 p1) [] (N2 r.1 r.2) []:=by
 unfold Gx at h0;refine FH AA (ai Tryz.func187 AA AA AA AA (sr AA λu f=>Aj (m:=0) AN Fy AA AA (zq tb AA (dn f AA (AD λw g=>AD λq h=>bs h0 λo c h0=>?_)))));have i:∀j,o=j->∀s,Wk 0 s ⟨30,AM [(0,Df p0),(1,i64 p1),(4,BL),(23,.bool j)],[dh]⟩->q s:=by
  intro j y s t;subst o;refine h _ (AJ t ?_);refine ci h0 AA ?_ ?_<;>intro z h0
  ·refine sr AA λA k=>zz (.agg [i64 0,i64 0,.zc]) (HU fC fO Fy AA AA) rfl (Al AN G0 AA AA AA AA AA AA qn rfl (zq tb AA (dn k AA ?_)));cases h0;exact BB ⟨_,(Iq (id:=0) (cs:=[i64 0,i64 0,.zc]) (cs':=gj) (st':=[⟨0,104,3,[gj]⟩]) rfl ⟨le.rfl,le.rfl,le.zc,mV⟩ AA AA).trans (As (L:=[(4,BL),(5,.bool false)]) (.same AA)),Cz (x:=.tmp 4) (off:=0) (cs:=gj) (vs:=gj) G0 AA AA AA qn rfl _ AA⟩
  ·refine AH (g _ (sr AA λB l=>zm tb 3 AA (bs h0 λp n h0=>zx DZ n AA AA AA (zq tb AA (Al AN G0 AA AA AA AA AA AA qn rfl (zq tb AA (dn l AA ?_)))))));cases h0;exact BB ⟨_,As (L:=[(4,BL),(5,.bool true)]) (.same AA),Cz (x:=.tmp 4) (off:=0) (cs:=(Ak p)) (vs:=(Ak p)) G0 AA AA AA qn rfl _ AA⟩
 refine AG AA (zm tb 3 AA ?_);rcases Sh.Ab c with ⟨b,c⟩|⟨b,c⟩
 ·refine zs b AA ?_;iterate 3 refine zs b rfl ?_
  refine zt b AA (zq tb AA ?_);iterate 8 refine zs rfl rfl ?_
  exact zt AA AA (AE (i true (Sh.AF c).symm _ (AI AA)))
 ·refine zg tb b AA (zg tb b AA (At (v:=(Fb p0)) (BI AA AA b) rfl (Bo Sd AA) (zg tb b AA (zf b AA (zq tb AA ?_)))));rcases Sh.Ab c with ⟨a,c⟩|⟨a,c⟩
  ·refine zs a AA ?_;iterate 7 refine zs a rfl ?_
   exact zt a AA (AE (i true (Sh.AF c).symm _ (AI AA)))
  ·exact zg tb a AA (zg tb a AA (zg tb a AA (bs c λd e c=>At (v:=(WN d)) (BI AA AA a) rfl (Bi DZ AA AA e AA) (zg tb a AA (zg tb a AA (At (v:=(ZN d)) (BI AA AA a) rfl (Bo Mu AA) (zg tb a AA (zf a AA (AE (i (decide (0<(Sh.len d.cons))) (Sh.AF c).symm _ (AI AA)))))))))))
theorem Nc {p1:Int}{r:(List Int)}(h0:Fg p1=some r):Ay 237 [.zc,i64 p1] [] (ow 0 0 r) [Bw r]:=by
 unfold Fg at h0;refine ai Tryz.func237 AA AA AA AA (zr tb AA AA (AD λp f=>zr tb AA AA ?_));refine ci h0 AA ?_ ?_<;>intro q h0
 ·refine AG AA ?_;cases h0
 ·refine AH (f _ (AD λn g=>bs h0 λk a h0=>?_));have l:∀c,k=c->∀s,Wk 0 s ⟨27,AM [(0,ow 0 0 c)],[Bw c]⟩->n s:=by
   intro c w s o;subst k;try dsimp only at h0
   refine g _ (AJ o (zr tb AA AA ?_));obtain rfl:=Sh.AF h0;exact rt [(4,ow 0 0 c)]
  refine sr AA λx h=>zm tb 2 AA (Z5 Hh AA (zq tb AA (zz (i64 0) (ZP Hh AA) rfl (zm tb 3 AA (dn h AA (zr tb AA AA ?_))))));refine ci a AA ?_ ?_<;>intro i a
  ·exact AG AA (zm tb 2 AA (Z5 Hh AA (gy BH AA AA (zq tb AA (bs a λj d a=>fv (u:=0) (enc:=eI) (m:=0) (st':=[Bw j]) BH mG AA AA i AA d AA AA (zq tb AA (zz (i64 0) (ZP Hh AA) rfl (bs a λb e a=>iA AN BH AA AA AA AA e AA (zq tb AA (AE (l b (Sh.AF a).symm _ (CP (L:=[(0,ow 0 0 b)]) (st':=[Bw b]) (.pure (Ac λ_=>AA) .nil) (.same AA)))))))))))))
  ·exact AH (l [] (Sh.AF a).symm _ ((Fk (t:=0) rfl 3 (size:=1) (by decide)).trans (As (L:=[(0,Zv)]) (.same AA))))
theorem MV {N:Nat}{p0:(List (List Int))}{r:(List Int)}(h0:EN N p0=some r):Ay 185 [Jz p0] [] (ow 0 0 r) [Bw r]:=by
 unfold EN at h0;refine ai Tryz.func185 AA AA AA AA ?_;iterate 2 refine zr tb rfl rfl ?_
 refine AD λO C=>sr AA λK4 D=>zq tb AA (zl tb AA AA (zq tb AA (dn D AA (bs h0 λE a h0=>?_))));have P:∀c,E=c->∀s,Wk 0 s ⟨36,AM [(0,Jz p0),(3,i64 c)],[]⟩->O s:=by
  intro c Q s F;subst E;refine C _ (AJ F (sr AA λK9 G=>zq tb AA (bs h0 λi j h0=>A8 (v':=(ow 0 0 i)) AN (hb 237) (Nc j) rfl AA ⟨(A9 λ_=>AA),mV⟩ AA AA (zq tb AA (dn G AA (AD λH k=>sr AA λR l=>zq tb AA (zl tb AA AA (zq tb AA (dn l AA (bs h0 λg a h0=>?_))))))))));have I:∀d,g=d->∀s,Wk 0 s ⟨36,AM [(6,ow 0 0 d)],[Bw d]⟩->H s:=by
   intro d Q s F;subst g;try dsimp only at h0
   refine k _ (AJ F (zr tb AA AA ?_));obtain rfl:=Sh.AF h0;exact rt [(2,ow 0 0 d)]
  refine AK (AT (σ:=Int×(List Int)) (λn v=>Bm p0 n v.1 v.2=some g) (λ(e,f)=>⟨36,AM [(6,ow 0 0 f),(25,ls (eS eI) p0),(26,i64 (Sh.len p0)),(27,i64 e)],[ro 0 3 1 eI f]⟩) N (0,i) a (AI AA) (λ_ m=>by rw[Bm]at m;cases m) ?_);rintro n ⟨e,f⟩ a;rw[Bm]at a;refine zr tb AA AA (AD λS o=>?_);refine ci a AA ?_ ?_<;>intro T a
  ·exact AH (o _ (AD λU p=>AK (sr AA λV q=>bs a λJ t a=>zx I4 t AA AA AA (zm tb 2 AA (dn q AA (AG AA (zm tb 2 AA (bs a λh u a=>EI (l2:=J) AN BH AA AA AA AA OV (λ_=>AA) u AA (zq tb AA (dn p AA (AG AA (zm tb 2 AA (AE (xi (Sh.w (e+1),h) a (CP (L:=[(6,ow 0 0 h),(25,Jz p0),(26,Fb p0),(27,MY e)]) (st':=[Bw h]) (.pure (Ac λ_=>AA) .nil) (.same AA))))))))))))))))
  ·exact Ad (I f (Sh.AF a).symm _ (AI AA))
 refine AK (AT (σ:=Int×Int) (λn v=>Bl p0 n v.1 v.2=some E) (λ(b,K)=>⟨36,AM [(0,ls (eS eI) p0),(3,i64 b),(9,ls (eS eI) p0),(10,i64 (Sh.len p0)),(11,i64 K)],[]⟩) N (0,0) a (AI AA) (λ_ m=>by rw[Bl]at m;cases m) ?_);rintro n ⟨b,K⟩ a;rw[Bl]at a;refine zr tb AA AA (AD λW x=>?_);refine ci a AA ?_ ?_<;>intro X a
 ·refine AH (x _ (AD λY y=>AK (sr AA λZ z=>bs a λM A a=>zx I4 A AA AA AA (zm tb 2 AA (dn z AA (sr AA λb0 B=>zm tb 2 AA (zl tb AA AA (zm tb 2 AA (dn B AA (zr tb AA AA ?_))))))))));refine ci a AA ?_ ?_<;>intro b1 a
  ·refine AG AA ?_;cases a
  ·exact AH (y _ (AG AA (zm tb 2 AA (AE (xi (Sh.w (b+(Sh.len M)),Sh.w (K+1)) a (AI AA))))))
 ·exact Ad (P b (Sh.AF a).symm _ (AI AA))
theorem Hj {N:Nat}{rE:Aq->(List Int)->Block->Option (Int)}(rW :∀{p0:Aq} {p1:(List Int)} {p2:Block} {r:Int},rE p0 p1 p2=some r->Ay 65 [UQ p0,ls eI p1,DS p2] [] (i64 r) []){p0:Aq}{p1:(List Int)}{p2:(List Block)}{p3:(List (List Int))}{r:Int×Bool}(h0:B6 N rE p0 p1 p2 p3=some r):Ay 188 [UQ p0,ls eI p1,ls Bg p2,Jz p3] [] (Zr r.1 r.2) []:=by
 unfold B6 at h0;refine ai Tryz.func188 AA AA AA AA (sr AA λW B=>Az (m:=0) AN AA AA AA AA AA (zm tb 2 AA (dn B AA (zr tb AA AA (AD λJ C=>sr AA λX D=>zq tb AA (zl tb AA AA (zq tb AA (dn D AA ?_))))))));obtain⟨E,b,h0⟩:=Sh.Ar h0;have K:∀(tQ:Int),E=Sum.inr tQ->∀s,Wk 0 s ⟨45,AM [(10,i64 tQ)],[]⟩->J s:=by
  intro tQ M s F;subst E;refine C _ (AJ F (zr tb AA AA ?_));cases h0;exact rt [(8,i64 tQ),(9,.bool true)]
 refine AK (AT (σ:=Int×Int) (λn v=>Bj N p0 p1 p2 p3 rE n v.1 v.2=some E) (λ(sj,A)=>⟨45,AM [(1,ls eI p1),(3,ls (eS eI) p3),(4,.ptr 0 0 0 0),(10,i64 sj),(14,ls Bg p2),(15,i64 (Sh.len p2)),(16,i64 A)],[⟨0,65,2,[FE p0]⟩]⟩) N (-1,0) b (AI AA) (λ_ I=>by rw[Bj]at I;cases I) ?_);rintro n ⟨sj,A⟩ b;rw[Bj]at b;refine zr tb AA AA (AD λO h=>?_);refine ci b AA ?_ ?_<;>intro P b
 ·refine AH (h _ (AD λQ i=>AK (sr AA λR j=>zq tb AA (bs b λS k b=>zx Hs k AA AA AA (zq tb AA (Aj (m:=1) AN MK AA AA (zq tb AA (Al AN Jj AA AA AA AA AA AA qg rfl (dn j AA (AD λT o=>B3 10 (by kernel_rfl) (by kernel_rfl) (by rfl) ?_))))))))));iterate 4 refine yq tb rfl ?_
  refine bs b λG p b=>yx I4 p AA AA AA (yq tb AA (ZX (l:=[p1,G]) (enc:=(eS eI)) AN I4 (by decide) rfl AA AA AA AA (Ac λ_=>AA) (bs b λq t b=>?_)));refine CU (v:=(ls eI q)) AN (hb 185) (BJ.wk (MV t) (by refine Wk.trans (Wk.Ct (L:=[(0,ls eI q)]) (st':=bG) (id:=0) rfl qq (Ac λ_=>AA) ⟨.Ct AA,mV⟩ AA) ?_;exact Ag [] AA AA .nil (.same AA))) rfl AA AA ?_;refine yq tb AA (bs b λd u b=>CU (v:=(i64 d)) AN (hb 65) (rW u) rfl AA AA (BG (zq tb AA (dn o AA (AD λU x=>AD λH y=>bs b λz e b=>?_)))));have f:∀g,z=g->∀s,Wk 0 s ⟨45,AM [(1,ls eI p1),(3,Jz p3),(4,BL),(13,i64 d),(14,ls Bg p2),(15,Fb p2),(16,i64 A),(41,.bool g)],[V2 p0]⟩->H s:=by
   intro g M s F;subst z;refine y _ (AJ F ?_);refine ci b AA ?_ ?_<;>intro V b
   ·refine zr tb AA AA ?_;cases b;cases h0;exact rd (gN [])
   ·exact AH (x _ (AG AA (zm tb 2 AA (dn i AA (AG AA (zm tb 2 AA (AE (xi (d,Sh.w (A+1)) b (AI AA)))))))))
  refine AG AA (zm tb 3 AA ?_);rcases Sh.Ab e with ⟨a,e⟩|⟨a,e⟩
  ·refine zs a AA (zs a AA (zs a AA ?_));iterate 3 refine zn rfl ?_
   exact zs a AA (zt a AA (AE (f true (Sh.AF e).symm _ (Ag [0] AA AA (.w .nil) (.same AA)))))
  ·refine zg tb a AA (zg tb a AA (zg tb a AA ?_));rcases Sh.Ab e with ⟨c,e⟩|⟨c,e⟩
   ·exact zg tb c AA (zg tb c AA (zg tb c AA (At (v:=(.bool (!decide (d=sj)))) (BI AA AA a) rfl (Ee AA c AA) (zf a AA (AE (f (!decide (d=sj)) (Sh.AF e).symm _ (Ag [0] AA AA (.w .nil) (.same AA))))))))
   ·exact zs c AA (zs c AA (zs c AA (At (v:=(.bool false)) (BI AA AA a) rfl (D6 AA c AA) (zf a AA (AE (f false (Sh.AF e).symm _ (Ag [0] AA AA (.w .nil) (.same AA))))))))
 ·exact Ad (K sj (Sh.AF b).symm _ (BD _ AA))
theorem Rl {N:Nat}{p0:(List AR)}{r:Int}(h0:IN N p0=some r):Ay 171 [Df p0] [] (i64 r) []:=by
 unfold IN at h0;refine ai Tryz.func171 AA AA AA AA ?_;iterate 2 refine zr tb rfl rfl ?_
 refine AD λl f=>sr AA λy g=>zq tb AA (zl tb AA AA (zq tb AA (dn g AA (bs h0 λh a h0=>?_))));have o:∀n7,h=n7->∀s,Wk 0 s ⟨19,AM [(3,i64 n7)],[]⟩->l s:=by
  intro n7 z s p;subst h;try dsimp only at h0
  refine f _ (AJ p (zr tb AA AA ?_));obtain rfl:=Sh.AF h0;exact rt [(2,i64 n7)]
 refine AK (AT (σ:=Int×Int) (λn v=>D2 p0 n v.1 v.2=some h) (λ(n5,i)=>⟨19,AM [(3,i64 n5),(6,ls Ak p0),(7,i64 (Sh.len p0)),(8,i64 i)],[]⟩) N (0,0) a (AI AA) (λ_ k=>by rw[D2]at k;cases k) ?_);rintro n ⟨n5,i⟩ a;rw[D2]at a;refine zr tb AA AA (AD λq b=>?_);refine ci a AA ?_ ?_<;>intro t a
 ·exact AH (b _ (AD λu c=>AK (sr AA λx d=>bs a λj e a=>zx DZ e AA AA AA (zq tb AA (Aj (m:=0) AN Fy AA AA (Al AN G0 AA AA AA AA AA AA qn rfl (dn d AA (AG AA (zm tb 3 AA (zl tb AA AA (zm tb 2 AA (dn c AA (AG AA (zm tb 2 AA (AE (xi (Sh.w (n5+(Sh.len j.cons)),Sh.w (i+1)) a (BD _ AA)))))))))))))))))
 ·exact Ad (o n5 (Sh.AF a).symm _ (AI AA))
theorem Ua {N:Nat}{p0:(List AR)}{p1:Int}{r:(List Int)}(h0:J9 N p0 p1=some r):Ay 104 (S8 p0 p1) [] (ow 0 0 r) [Bw r]:=by
 unfold J9 at h0;refine ai Tryz.func104 AA AA AA AA (zr tb AA AA (AD λT A=>AD λM B=>bs h0 λI b h0=>?_));have J:∀C,I=C->∀s,Wk 0 s ⟨39,AM [(0,Df p0),(1,i64 p1),(15,.bool C)],[]⟩->M s:=by
  intro C O s D;subst I;refine B _ (AJ D ?_);refine ci h0 AA ?_ ?_<;>intro U h0
  ·refine zr tb AA AA ?_;cases h0;exact BB ⟨_,(((Fk (t:=4) rfl 3 (size:=1) (by decide)).trans (As (L:=[(4,Zv)]) (.same AA))).trans (As (L:=[(4,Zv)]) (.same AA))),And.intro AA AA⟩
  ·refine AH (A _ (sr AA λV E=>zm tb 3 AA (bs h0 λW F h0=>Xh (i:=0) (j:=Sh.w (p1-1)) AN DZ AA AA AA (λ_=>AA) F (bs h0 λc o h0=>zc (hb 171) (Rl o) rfl AA AA (zq tb AA (dn E AA (zr tb AA AA (AD λG p=>sr AA λP q=>zm tb 3 AA (bs h0 λf u h0=>zx DZ u AA AA AA (zm tb 2 AA (zl tb AA AA (zq tb AA (dn q AA (bs h0 λh b h0=>?_))))))))))))));have H:∀e,h=e->∀s,Wk 0 s ⟨39,AM [(6,ow 0 0 e)],[Bw e]⟩->G s:=by
    intro e O s D;subst h;try dsimp only at h0
    refine p _ (AJ D (zr tb AA AA ?_));obtain rfl:=Sh.AF h0;exact rt [(4,ow 0 0 e)]
   refine AK (AT (σ:=Int×(List Int)) (λn v=>Eu f c n v.1 v.2=some h) (λ(d,g)=>⟨39,AM [(5,i64 c),(6,ow 0 0 g),(27,i64 (Sh.len f.cons)),(28,i64 d)],[ro 0 3 1 eI g]⟩) N (0,[]) b ((Fk (t:=6) rfl 3 (size:=1) (by decide)).trans (As (L:=[(5,i64 c),(6,.own 0 0 (List.length ([]:List Int))),(27,i64 (Sh.len f.cons)),(28,i64 0)]) (.same AA))) (λ_ K=>by rw[Eu]at K;cases K) ?_);rintro n ⟨d,g⟩ b;rw[Eu]at b;refine zr tb AA AA (AD λQ x=>?_);refine ci b AA ?_ ?_<;>intro R b
   ·refine AH (x _ (AD λS y=>AK (zr tb AA AA (AG AA (zm tb 4 AA (Cn (m:=1) (l:=[Sh.w (c+d)]) (enc:=eI) AN BH (by decide) rfl AA AA AA AA AA (bs b λk z b=>EI (l2:=[Sh.w (c+d)]) AN BH AA AA AA AA (MQ AA AA) (λ_=>AA) z AA (zq tb AA (dn y AA (AG AA (zm tb 2 AA ?_)))))))))));exact AE (xi (Sh.w (d+1),k) b (by refine Wk.trans (CP (L:=[(5,i64 c),(6,ow 0 0 k),(27,ZN f),(28,MY d)]) (st':=[Bw k,ro 0 3 1 eI [Sh.w (c+d)]]) (.pure (Ac λ_=>AA) (.pure (Ac λ_=>AA) .nil)) (.same AA)) ?_;exact Ag [0] AA AA (.p .nil) (.same AA)))
   ·exact Ad (H g (Sh.AF b).symm _ (AI AA))
 refine AG AA (zm tb 3 AA ?_);rcases Sh.Ab b with ⟨a,b⟩|⟨a,b⟩
 ·refine zs a AA ?_;iterate 3 refine zs a rfl ?_
  exact zt a AA (AE (J true (Sh.AF b).symm _ (AI AA)))
 ·exact zg tb a AA (zg tb a AA (At (v:=(Fb p0)) (BI AA AA a) rfl (Bo Sd AA) (zg tb a AA (zf a AA (AE (J (decide ((Sh.len p0)<p1)) (Sh.AF b).symm _ (AI AA)))))))
theorem Pc {N:Nat}{p0:(List AR)}{p1:Int}{r:Int×BN}(h0:HR N p0 p1=some r):Ay 172 (S8 p0 p1) [] (.C7 [i64 r.1,.agg (BR r.2)]) []:=by
 unfold HR at h0;refine FH AA (ai Tryz.func172 AA AA AA AA (sr AA λS y=>zq tb AA (Aj (m:=0) AN Mw AA AA (dn y AA (AD λH z=>sr AA λT A=>zq tb AA (zl tb AA AA (zq tb AA (dn A AA ?_))))))));obtain⟨B,b,h0⟩:=Sh.Ar h0;have I:∀(_:Unit),B=Sum.inr ()->∀s,Wk 0 s ⟨38,AM [(5,BL)],[⟨0,106,1,[[.zc]]⟩]⟩->H s:=by
  intro _ J s C;subst B;refine z _ (AJ C (sr AA λU D=>zz (.agg [.zc]) (HU gZ gV Mw AA AA) rfl (zq tb AA (Al AN Ka AA AA AA AA AA AA ql rfl (dn D AA ?_)))));cases h0;exact BB ⟨_,(Iq (id:=0) (cs:=[.zc]) (cs':=[bc]) (st':=[⟨0,106,1,[[bc]]⟩]) rfl ⟨le.zc,mV⟩ AA AA).trans (As (L:=[(4,i64 (-1)),(5,BL)]) (.same AA)),Cz (x:=.tmp 5) (off:=0) (cs:=[bc]) (vs:=[bc]) Ka AA AA AA ql rfl _ AA⟩
 refine AK (AT (σ:=Int×Int) (λn v=>Eo p0 n v.1 v.2=some B) (λ(g,d)=>⟨38,AM [(1,i64 g),(5,.ptr 0 0 0 0),(8,ls Ak p0),(9,i64 (Sh.len p0)),(10,i64 d)],[⟨0,106,1,[[.zc]]⟩]⟩) N (p1,0) b (AI AA) (λ_ G=>by rw[Eo]at G;cases G) ?_);rintro n ⟨g,d⟩ b;rw[Eo]at b;refine zr tb AA AA (AD λV E=>?_);refine ci b AA ?_ ?_<;>intro K b
 ·refine AH (E _ (AD λM h=>AK (sr AA λO i=>zq tb AA (bs b λc j b=>zx DZ j AA AA AA (zq tb AA (Aj (m:=1) AN Fy AA AA (zq tb AA (Al AN G0 AA AA AA AA AA AA qn rfl (dn i AA (AD λP k=>AD λF l=>bs b λo p b=>?_))))))))));have q:∀e,o=e->∀s,Wk 0 s ⟨38,AM [(1,i64 g),(5,BL),(6,i64 d),(7,Ei),(8,Df p0),(9,Fb p0),(10,i64 d),(23,.bool e)],[⟨0,106,1,[[.zc]]⟩,UC c]⟩->F s:=by
   intro e J s C;subst o;refine l _ (AJ C ?_);refine ci b AA ?_ ?_<;>intro Q b
   ·refine AD λR t=>B3 8 (by kernel_rfl) (by kernel_rfl) (by rfl) ?_;iterate 5 refine yq tb rfl ?_
    refine bs b λf u b=>yx HC u AA AA AA ?_;iterate 2 refine yq tb rfl ?_
    refine BG (Al AN Ka AA AA AA AA AA AA ql rfl (dn t AA ?_));cases b;cases h0;exact BB ⟨_,(Ag (L:=[(4,MY d),(5,BL)]) (st':=[⟨0,106,1,[BR f]⟩]) [0] AA AA (.w .nil) ⟨.rfl,.rfl,mV⟩).trans (As (L:=[(4,MY d),(5,BL)]) ⟨.rfl,.rfl,mV⟩),Cz (x:=.tmp 5) (off:=0) (cs:=(BR f)) (vs:=(BR f)) Ka AA AA AA ql rfl _ AA⟩
   ·exact AH (k _ (AG AA (zm tb 3 AA (zl tb AA AA (zm tb 2 AA (dn h AA (AG AA (zm tb 2 AA (AE (xi (Sh.w (g-(Sh.len c.cons)),Sh.w (d+1)) b (Ag [0] AA AA (.w .nil) (.same AA))))))))))))
  refine AG AA (zm tb 3 AA ?_);rcases Sh.Ab p with ⟨a,p⟩|⟨a,p⟩
  ·exact zg tb a AA (zg tb a AA (zg tb a AA (At (v:=(ZN c)) (BI AA AA a) rfl (Bo Mu AA) (zg tb a AA (zt a AA (AE (q (decide (g<(Sh.len c.cons))) (Sh.AF p).symm _ (AI AA))))))))
  ·refine zs a AA ?_;iterate 4 refine zs a rfl ?_
   exact zf a AA (AE (q false (Sh.AF p).symm _ (AI AA)))
 ·exact Ad (I () (Sh.AF b).symm _ (AI AA))
theorem Rw {N:Nat}{p0:(List AR)}{p1:Int}{r:(List Int)}(h0:GZ N p0 p1=some r):Ay 105 (S8 p0 p1) [] (ls eI r) []:=by
 unfold GZ at h0;refine ai Tryz.func105 AA AA AA AA (zr tb AA AA (sr AA λd a=>zm tb 2 AA (bs h0 λb c h0=>zc (v':=(.C7 [i64 b.1,.agg (BR b.2)])) (hb 172) (Pc c) rfl AA AA (zm tb 3 AA (Aj (m:=0) AN Mw AA AA (zq tb AA (Al AN Ka AA AA AA AA AA AA ql rfl (dn a AA (zr tb AA AA ?_)))))))));cases h0;exact rd [(4,ls eI b.2.fields)]
theorem K0 {N:Nat}{p0:Aq}{p1:Int}{r:(List (List Int))}(h0:CM N p0 p1=some r):Ay 117 [UQ p0,i64 p1] [] (ow 0 0 r) [SI r]:=by
 unfold CM at h0;refine ai Tryz.func117 AA AA AA AA (sr AA λJ q=>Az (m:=0) AN AA AA AA AA AA (zq tb AA (dn q AA (zr tb AA AA (AD λC u=>sr AA λK x=>zm tb 3 AA (bs h0 λb y h0=>A8 (v':=(ow 1 0 b)) AN (hb 104) (Ua y) rfl AA ⟨(A9 λ_=>AA),mV⟩ AA AA (zz (Fb b) (E9 Hh AA AA AA) rfl (zq tb AA (dn x AA (bs h0 λz a h0=>?_))))))))));have D:∀f,z=f->∀s,Wk 0 s ⟨26,AM [(5,ow 0 0 f)],[SI f]⟩->C s:=by
  intro f M s E;subst z;try dsimp only at h0
  refine u _ (AJ E (zr tb AA AA ?_));obtain rfl:=Sh.AF h0;exact rt [(4,ow 0 0 f)]
 refine AK (AT (σ:=Int×(List (List Int))) (λn v=>BX N p0 b n v.1 v.2=some z) (λ(g,p)=>⟨26,AM [(2,.ptr 0 0 0 0),(5,ow 2 0 p),(11,ow 1 0 b),(12,i64 (Sh.len b)),(13,i64 g)],[⟨0,65,2,[FE p0]⟩,ro 0 3 1 eI b,ro 0 45 1 (eS eI) p]⟩) N (0,[]) a ((Fk (t:=5) rfl 45 (size:=1) (by decide)).trans (As (L:=[(2,.ptr 0 0 0 0),(5,.own 2 0 (List.length ([]:List (List Int)))),(11,ow 1 0 b),(12,i64 (Sh.len b)),(13,i64 0)]) (.same AA))) (λ_ B=>by rw[BX]at B;cases B) ?_);rintro n ⟨g,p⟩ a;rw[BX]at a;refine zr tb AA AA (AD λF h=>?_);refine ci a AA ?_ ?_<;>intro G a
 ·refine AH (h _ (AD λH i=>AK (sr AA λI j=>bs a λA c a=>zz (.ptr 1 0 (Int.toNat g) 0) (Ca BH AA AA AA AA c) rfl (zz (i64 A) (DH Jy AA AA (GC c) rfl) rfl (zq tb AA (dn j AA (AG AA (zm tb 4 AA (bs a λd k a=>zc (hb 105) (Rw k) rfl AA AA (Cn (m:=3) (l:=[d]) (enc:=(eS eI)) AN I4 (by decide) rfl AA AA AA AA AA (bs a λe o a=>EI (l2:=[d]) AN I4 AA AA AA AA (MQ AA AA) (λ_=>AA) o AA (zq tb AA (dn i AA (AG AA (zm tb 2 AA ?_)))))))))))))));exact AE (xi (Sh.w (g+1),e) a (by refine Wk.trans (CP (L:=[(2,BL),(5,ow 2 0 e),(11,ow 1 0 b),(12,Fb b),(13,MY g)]) (st':=[V2 p0,Bw b,SI e,ro 0 45 1 (eS eI) [d]]) (.raw AA AA (.pure (Ac λ_=>AA) (.pure (Ac λ_=>AA) (.pure (Ac λ_=>AA) .nil)))) (.same AA)) ?_;exact Ag [0,1,2] AA AA (.w (.p (.p .nil))) (.same AA)))
 ·exact Ad (D p (Sh.AF a).symm _ (Ag [2] AA AA (.p .nil) (.same AA)))
theorem Fa {N:Nat}{p0:(List Int)}{p1:(List Int)}{r:Bool}(h0:CZ N p0 p1=some r):Ay 239 [ls eI p0,ls eI p1] [] (.bool r) []:=by
 unfold CZ at h0;refine ai Tryz.func239 AA AA AA AA (zr tb AA AA (AD λF l=>sr AA λG m=>zq tb AA (zl tb AA AA (zq tb AA (zl tb AA AA (zq tb AA (dn m AA ?_)))))));refine ci h0 AA ?_ ?_<;>intro t h0
 ·have H:decide ((Sh.len p0)=(Sh.len p1))=false:=by simpa using t
  refine zr tb AA AA ?_;cases h0;exact rt [(4,.bool false)]
 ·have I:decide ((Sh.len p0)=(Sh.len p1))=true:=by simpa using t
  refine AH (l _ (AD λx o=>sr AA λJ p=>zq tb AA (zl tb AA AA (zq tb AA (dn p AA ?_)))));obtain⟨b,a,h0⟩:=Sh.Ar h0;have q:∀(_:Unit),b=Sum.inr ()->∀s,Wk 0 s ⟨26,AM [],[]⟩->x s:=by
   intro _ K s y;subst b;refine o _ (AJ y (zr tb AA AA ?_));cases h0;exact rt [(4,.bool true)]
  refine AK (AT (σ:=Int) (λn v=>CE p0 p1 n v=some b) (λc=>⟨26,AM [(0,ls eI p0),(1,ls eI p1),(12,i64 (Sh.len p0)),(13,i64 c)],[]⟩) N 0 a (AI AA) (λ_ u=>by rw[CE]at u;cases u) ?_);rintro n c a;rw[CE]at a;refine zr tb AA AA (AD λz d=>?_);refine ci a AA ?_ ?_<;>intro A a
  ·refine AH (d _ (AD λB e=>AK (zr tb AA AA (AD λC f=>Bv (by kernel_rfl) (by kernel_rfl) (by rfl) ?_))));iterate 2 refine yq tb rfl ?_
   refine bs a λg h a=>yx BH h AA AA AA ?_;iterate 3 refine yq tb rfl ?_
   refine bs a λi j a=>yx BH j AA AA AA ?_;iterate 2 refine yq tb rfl ?_
   refine BG (f _ ?_);refine ci a AA ?_ ?_<;>intro k a
   ·have D:decide (g=i)=false:=by simpa using k
    refine zr tb AA AA ?_;cases a;cases h0;exact rt [(4,.bool false)]
   ·have E:decide (g=i)=true:=by simpa using k
    exact AH (e _ (AG AA (zm tb 2 AA (AE (xi (Sh.w (c+1)) a (AI AA))))))
  ·exact Ad (q () (Sh.AF a).symm _ (AI AA))
theorem TL {N:Nat}{p0:(List AR)}{p1 p2 r:Int}(h0:I7 N p0 p1 p2=some r):Ay 240 [Df p0,i64 p1,i64 p2] [] (i64 r) []:=by
 unfold I7 at h0;refine ai Tryz.func240 AA AA AA AA (zr tb AA AA (AD λA o=>sr AA λG p=>zq tb AA (zl tb AA AA (zq tb AA (dn p AA ?_)))));obtain⟨q,a,h0⟩:=Sh.Ar h0;have B:∀(_:Unit),q=Sum.inr ()->∀s,Wk 0 s ⟨35,AM [],[]⟩->A s:=by
  intro _ C s t;subst q;refine o _ (AJ t (zr tb AA AA ?_));cases h0;exact rt [(6,i64 (-1))]
 refine AK (AT (σ:=Int) (λn v=>EJ p0 p1 p2 n v=some q) (λg=>⟨35,AM [(1,i64 p1),(2,i64 p2),(9,ls Ak p0),(10,i64 (Sh.len p0)),(11,i64 g)],[]⟩) N 0 a (AI AA) (λ_ z=>by rw[EJ]at z;cases z) ?_);rintro n g a;rw[EJ]at a;refine zr tb AA AA (AD λH u=>?_);refine ci a AA ?_ ?_<;>intro I a
 ·refine AH (u _ (AD λD h=>AK (sr AA λE i=>zq tb AA (bs a λx j a=>zx DZ j AA AA AA (zq tb AA (Aj (m:=0) AN Fy AA AA (zq tb AA (Al AN G0 AA AA AA AA AA AA qn rfl (dn i AA (AD λy k=>bs a λl d a=>?_))))))))));have e:∀f,l=f->∀s,Wk 0 s ⟨35,AM [(1,i64 p1),(2,i64 p2),(7,i64 g),(9,Df p0),(10,Fb p0),(11,i64 g),(31,.bool f)],[]⟩->y s:=by
   intro f C s t;subst l;refine k _ (AJ t ?_);refine ci a AA ?_ ?_<;>intro F a
   ·refine zr tb AA AA ?_;cases a;cases h0;exact rt [(6,MY g)]
   ·exact AH (h _ (AG AA (zm tb 2 AA (AE (xi (Sh.w (g+1)) a (AI AA))))))
  refine AG AA (zm tb 2 AA (zl tb AA AA (zm tb 2 AA ?_)));rcases Sh.Ab d with ⟨b,d⟩|⟨b,d⟩
  ·refine zg tb b AA ?_;iterate 3 refine zg tb b rfl ?_
   refine zt b AA (zq tb AA ?_);rcases Sh.Ab d with ⟨c,d⟩|⟨c,d⟩
   ·refine zg tb c AA ?_;iterate 3 refine zg tb c rfl ?_
    exact zt c AA (AE (e (decide (x.to=p2)) (Sh.AF d).symm _ (BD _ AA)))
   ·refine zs c AA ?_;iterate 3 refine zs c rfl ?_
    exact zf c AA (AE (e false (Sh.AF d).symm _ (BD _ AA)))
  ·refine zs b AA ?_;iterate 3 refine zs b rfl ?_
   refine zf b AA (zq tb AA ?_);iterate 4 refine zs rfl rfl ?_
   exact zf AA AA (AE (e false (Sh.AF d).symm _ (BD _ AA)))
 ·exact Ad (B () (Sh.AF a).symm _ (AI AA))
theorem Kd {N:Nat}{p0:Aq}{p1 p2:Int}{p3:(List Int)}{r:Int×Bool}(h0:Af N p0 p1 p2 p3=some r):Ay 189 [.agg (FE p0),i64 p1,i64 p2,ls eI p3] [] (.C7 [i64 r.1,.bool r.2]) []:=by
 unfold Af at h0;refine ai Tryz.func189 AA AA AA AA (sr AA λK1 h5=>Az (m:=0) AN AA AA AA AA AA (zm tb 2 AA (dn h5 AA (zr tb AA AA (AD λK3 h6=>?_)))));obtain⟨o5,b,h0⟩:=Sh.Ar h0;have M5:∀(Y:(List Int)),o5=Sum.inr Y->∀s,Wk 0 s ⟨149,AM (NO p2 p3 [(10,ow 0 0 Y),(11,i64 0)]),[Bw Y]⟩->K3 s:=by
  intro Y hq s A;subst o5;refine h6 _ (AJ A (AD λK6 h7=>bs h0 λo8 b h0=>?_));have M8:∀t7,o8=t7->∀s,Wk 0 s ⟨149,AM [(8,i64 0),(9,.bool t7)],[]⟩->K6 s:=by
   intro t7 hq s A;subst o8;refine h7 _ (AJ A ?_);cases h0;exact rt [(8,i64 0),(9,.bool t7)]
  refine AG AA (zm tb 4 AA ?_);rcases Sh.Ab b with ⟨G,b⟩|⟨G,b⟩
  ·exact zg tb G AA (zg tb G AA (Aa (Wk.Ct (L:=[(141,i64 0),(144,.bool (decide (p2=0))),(145,ls eI p3),(146,ls eI Y)]) (st':=bG) (id:=0) rfl qq (Ac λ_=>AA) ⟨.rfl,.rfl,.rfl,.Ct AA,mV⟩ AA) (bs b λh8 Z b=>zd G (hb 239) (Fa Z) rfl AA AA AA (zt G AA (zm tb 2 AA (AE (M8 h8 (Sh.AF b).symm _ (BD _ AA))))))))
  ·exact zs G AA (zs G AA (zs G AA (zf G AA (zm tb 2 AA (AE (M8 false (Sh.AF b).symm _ (BD _ AA)))))))
 refine zr tb AA AA (AK (zr tb AA AA ?_));refine ci b AA ?_ ?_<;>intro l5 b
 ·refine AD λh9 b0=>bs b λb1 c b=>?_;have R:∀H,b1=H->∀s,Wk 0 s ⟨149,AM [(8,i64 0),(9,.bool H)],[]⟩->h9 s:=by
   intro H hq s A;subst b1;refine b0 _ (AJ A ?_);cases b;cases h0;exact rt [(8,i64 0),(9,.bool H)]
  refine AG AA (zm tb 3 AA ?_);rcases Sh.Ab c with ⟨D,c⟩|⟨D,c⟩
  ·refine zg tb D AA (zg tb D AA (zt D AA (zq tb AA ?_)));rcases Sh.Ab c with ⟨x,c⟩|⟨x,c⟩
   ·exact zg tb x AA (At (v:=(Fb p3)) (BI AA AA x) rfl (Bo Hh AA) (zg tb x AA (zt x AA (zm tb 2 AA (AE (R (decide ((Sh.len p3)=0)) (Sh.AF c).symm _ (BD _ AA)))))))
   ·exact zs x AA (zs x AA (zs x AA (zf x AA (zm tb 2 AA (AE (R false (Sh.AF c).symm _ (BD _ AA)))))))
  ·refine zs D AA (zs D AA (zf D AA (zq tb AA ?_)));iterate 3 refine zs rfl rfl ?_
   exact zf AA AA (zm tb 2 AA (AE (R false (Sh.AF c).symm _ (BD _ AA))))
 ·refine AD λk0 b2=>bs b λb3 c b=>?_;have I:∀S,b3=S->∀s,Wk 0 s ⟨149,AM ((1,i64 p1)::NO p2 p3 [(4,BL),(11,i64 0),(18,i64 p1),(32,.bool S)]),[V2 p0]⟩->k0 s:=by
   intro S hq s A;subst b3;refine b2 _ (AJ A ?_);refine ci b AA ?_ ?_<;>intro l6 b
   ·exact AG AA (Cn (m:=1) (l:=[(0:Int),0]) (enc:=eI) AN BH (by decide) rfl AA AA AA AA AA (zq tb AA (AE (M5 [(0:Int),0] (Sh.AF b).symm _ (Ag [1] AA AA (.p .nil) (.same AA))))))
   ·refine zr tb AA AA ?_;refine ci b AA ?_ ?_<;>intro l7 b
    ·refine AG AA ?_;refine Cn (m:=1) (l:=[(0:Int)]) (enc:=eI) AN BH (by decide) rfl AA AA AA AA AA ?_;refine zq tb AA ?_;exact AE (M5 [(0:Int)] (Sh.AF b).symm _ (Ag [1] AA AA (.p .nil) (.same AA)))
    ·refine zr tb AA AA ?_;refine ci b AA ?_ ?_<;>intro l8 b
     ·refine AD λl9 b4=>sr AA λm0 b5=>zq tb AA (zl tb AA AA (zq tb AA (dn b5 AA ?_)));refine ci b AA ?_ ?_<;>intro b6 b
      ·have m1:decide ((Sh.len p3)=2)=false:=by simpa using b6
       refine zr tb AA AA ?_;cases b;cases h0;exact rd (gN [])
      ·have m2:decide ((Sh.len p3)=2)=true:=by simpa using b6
       refine AH (b4 _ (AD λm3 b7=>Kv (by kernel_rfl) (bs b λT b8 b=>bs b λd P b=>P4 λwY a=>?_)));have f:wY 0 (bm 12 4095) ⟨149,AM (NO p2 p3 [(12,BL),(13,.bool d.2)]),[UC d.1]⟩:=(a _ _ _).2 (by
        refine DQ AA (by kernel_rfl) (b7 _ (AD λk1 c0=>bs b λc1 c b=>?_));have U:∀J,c1=J->∀s,Wk 0 s ⟨149,AM [(8,i64 d.1.to),(9,.bool J)],[]⟩->k1 s:=by
         intro J hq s A;subst c1;refine c0 _ (AJ A ?_);cases b;cases h0;exact rt [(8,i64 d.1.to),(9,.bool J)]
        refine Bv (by kernel_rfl) (by kernel_rfl) (by rfl) ?_;iterate 4 refine yq tb rfl ?_
        rcases Sh.Ab c with ⟨B,c⟩|⟨B,c⟩
        ·refine yg tb B AA (bs c λk2 c2 c=>JY (v:=(LV k2)) (BI AA AA B) rfl (Bi BH AA AA c2 AA) ?_);iterate 4 refine yg tb B rfl ?_
         refine yt B AA (yq tb AA ?_);rcases Sh.Ab c with ⟨E,c⟩|⟨E,c⟩
         ·refine yg tb E AA (yg tb E AA (yt E AA ?_));iterate 2 refine yq tb rfl ?_
          exact BG (U (decide (p2=0)) (Sh.AF c).symm _ (BD _ AA))
         ·refine ys E AA (ys E AA (yf E AA ?_));iterate 2 refine yq tb rfl ?_
          exact BG (U false (Sh.AF c).symm _ (BD _ AA))
        ·refine ys B AA ?_;iterate 5 refine ys B rfl ?_
         refine yf B AA (yq tb AA ?_);iterate 2 refine ys rfl rfl ?_
         refine yf AA AA ?_;iterate 2 refine yq tb rfl ?_
         exact BG (U false (Sh.AF c).symm _ (by exact Ag [] AA AA .nil (.same AA))))
       have e:wY 2 (bm 12 1023) ⟨149,AM (NO p2 p3 [(12,BL),(53,Rn d.1),(54,.bool d.2)]),[dh]⟩:=(a _ _ _).2 (by
        refine xa [10] ⟨?_,mV⟩
        ·refine xo 10 ?_;refine Al AN G0 AA AA AA AA AA AA qn rfl (AE ⟨AA,?_⟩);refine DG tb 11 AA (by kernel_rfl) rfl ?_;exact xt a f)
       have g:wY 3 (bm 12 511) ⟨149,AM (NO p2 p3 [(53,Rn d.1),(54,.bool d.2)]),[]⟩:=(a _ _ _).2 (by
        refine xa [9] ⟨?_,mV⟩
        ·refine xo 9 ?_;exact Aj (m:=0) AN Fy AA AA (xd a e))
       have o:wY 2 (bm 12 1791) ⟨149,AM (NO p2 p3 [(12,BL),(46,N2 d.1 d.2)]),[UC d.1]⟩:=(a _ _ _).2 (by
        refine xa [8] ⟨?_,mV⟩
        ·refine xo 8 ?_;refine zq tb AA (AE ⟨AA,?_⟩);refine DG tb 11 AA (by kernel_rfl) rfl ?_;exact xt a f)
       have h:wY 3 (bm 12 767) ⟨149,AM (NO p2 p3 [(12,BL),(46,N2 d.1 d.2),(53,Rn d.1)]),[dh]⟩:=(a _ _ _).2 (by
        refine xa [8,10] ⟨?_,?_,mV⟩
        ·exact xq tb a e
        ·refine xo 10 ?_;exact Al AN G0 AA AA AA AA AA AA qn rfl (xd a o))
       have p:wY 4 (bm 12 255) ⟨149,AM (NO p2 p3 [(46,N2 d.1 d.2),(53,Rn d.1)]),[]⟩:=(a _ _ _).2 (by
        refine xa [8,9] ⟨?_,?_,mV⟩
        ·exact xq tb a g
        ·refine xo 9 ?_;exact Aj (m:=0) AN Fy AA AA (xd a h))
       have k:wY 3 (bm 12 895) ⟨149,AM (NO p2 p3 [(12,BL),(46,N2 d.1 d.2),(54,.bool d.2)]),[dh]⟩:=(a _ _ _).2 (by
        refine xa [7] ⟨?_,mV⟩
        ·exact xq tb a e)
       have q:wY 4 (bm 12 383) ⟨149,AM (NO p2 p3 [(46,N2 d.1 d.2),(54,.bool d.2)]),[]⟩:=(a _ _ _).2 (by
        refine xa [7,9] ⟨?_,?_,mV⟩
        ·exact xq tb a g
        ·refine xo 9 ?_;exact Aj (m:=0) AN Fy AA AA (xd a k))
       have n:wY 4 (bm 12 639) ⟨149,AM (NO p2 p3 [(12,BL),(46,N2 d.1 d.2)]),[dh]⟩:=(a _ _ _).2 (by
        refine xa [7,8] ⟨?_,?_,mV⟩
        ·exact xq tb a h
        ·exact xq tb a k)
       have y:wY 5 (bm 12 127) ⟨149,AM (NO p2 p3 [(46,N2 d.1 d.2)]),[]⟩:=(a _ _ _).2 (by
        refine xa [7,8,9] ⟨?_,?_,?_,mV⟩
        ·exact xq tb a p
        ·exact xq tb a q
        ·refine xo 9 ?_;exact Aj (m:=0) AN Fy AA AA (xd a n))
       have C:wY 6 (bm 12 543) ⟨149,AM (NO p2 p3 [(12,BL),(48,Df p0.decls),(51,i64 T)]),[dh]⟩:=(a _ _ _).2 (by
        refine xa [5] ⟨?_,mV⟩
        ·refine xo 5 ?_;refine zc (v':=(N2 d.1 d.2)) (hb 187) (Iu P) rfl AA AA (AE ⟨AA,?_⟩);refine DG tb 6 AA (by kernel_rfl) rfl ?_;exact xt a n)
       have F:wY 7 (bm 12 31) ⟨149,AM (NO p2 p3 [(48,Df p0.decls),(51,i64 T)]),[]⟩:=(a _ _ _).2 (by
        refine xa [5,9] ⟨?_,?_,mV⟩
        ·refine xo 5 ?_;refine zc (v':=(N2 d.1 d.2)) (hb 187) (Iu P) rfl AA AA (AE ⟨AA,?_⟩);refine DG tb 6 AA (by kernel_rfl) rfl ?_;exact xt a y
        ·refine xo 9 ?_;exact Aj (m:=0) AN Fy AA AA (xd a C))
       refine (a _ _ _).2 (DG tb 0 AA (by kernel_rfl) rfl (DG tb 1 AA (by kernel_rfl) rfl (DG tb 2 AA (by kernel_rfl) rfl (Kx 3 (v:=(LV T)) rfl (by kernel_rfl) (by kernel_rfl) (Bi BH AA AA b8 AA) (DG tb 4 AA (by kernel_rfl) rfl ?_)))));exact xw a F (by exact Ag [] AA AA .nil (.same AA))
     ·refine zr tb AA AA ?_;refine ci b AA ?_ ?_<;>intro m4 b
      ·refine sr AA λm5 c3=>zm tb 3 AA (bs b λK c4 b=>zc (v':=(.C7 [i64 K.1,.agg (BR K.2)])) (hb 172) (Pc c4) rfl AA AA (zm tb 3 AA (Aj (m:=1) AN Mw AA AA (zq tb AA (Al AN Ka AA AA AA AA AA AA ql rfl (dn c3 AA (AD λk3 c5=>bs b λc6 c b=>?_)))))));have c7:∀M,c6=M->∀s,Wk 0 s ⟨149,AM [(8,i64 K.1),(9,.bool M)],[]⟩->k3 s:=by
        intro M hq s A;subst c6;refine c5 _ (AJ A ?_);cases b;cases h0;exact rt [(8,i64 K.1),(9,.bool M)]
       refine AG AA (zm tb 4 AA ?_);rcases Sh.Ab c with ⟨z,c⟩|⟨z,c⟩
       ·exact zg tb z AA (zg tb z AA (zg tb z AA (bs c λk4 c8 c=>zd z (hb 239) (Fa c8) rfl AA AA AA (zt z AA (zm tb 2 AA (AE (c7 k4 (Sh.AF c).symm _ (BD _ AA))))))))
       ·refine zs z AA ?_;iterate 3 refine zs z rfl ?_
        exact zf z AA (zm tb 2 AA (AE (c7 false (Sh.AF c).symm _ (BD _ AA))))
      ·refine AD λk5 c9=>bs b λd1 c b=>?_;have d2:∀V,d1=V->∀s,Wk 0 s ⟨149,AM ((1,i64 p1)::NO p2 p3 [(4,BL),(88,.bool V)]),[V2 p0]⟩->k5 s:=by
        intro V hq s A;subst d1;refine c9 _ (AJ A ?_);refine ci b AA ?_ ?_<;>intro m6 b
        ·refine AD λm7 d3=>AD λk6 d4=>bs b λd5 c b=>?_;have d6:∀W,d5=W->∀s,Wk 0 s ⟨149,AM ((1,i64 p1)::NO p2 p3 [(4,BL),(99,.bool W)]),[V2 p0]⟩->k6 s:=by
          intro W hq s A;subst d5;refine d4 _ (AJ A ?_);refine ci b AA ?_ ?_<;>intro m8 b
          ·refine zr tb AA AA ?_;cases b;cases h0;exact rd (gN [])
          ·refine AH (d3 _ (AD λm9 d7=>Bv (by kernel_rfl) (by kernel_rfl) (by rfl) ?_));iterate 3 refine yq tb rfl ?_
           refine bs b λd8 Q b=>yx To Q AA AA AA ?_;iterate 5 refine yq tb rfl ?_
           refine yx To Q AA AA AA ?_;iterate 4 refine yq tb rfl ?_
           refine BG (d7 _ (AD λq0 d9=>zr tb AA AA ?_));refine ci b AA ?_ ?_<;>intro q1 b
           ·refine sr AA λq2 g0=>zm tb 3 AA (bs b λk7 g1 b=>zc (hb 239) (Fa g1) rfl AA AA (zm tb 2 AA (dn g0 AA ?_)));cases b;cases h0;exact rd [(8,i64 d8.result),(9,.bool k7)]
           ·refine AH (d9 _ (sr AA λq3 g2=>zq tb AA (zl tb AA AA (zm tb 2 AA (dn g2 AA (AD λq4 g3=>zr tb AA AA ?_))))));refine ci b AA ?_ ?_<;>intro q5 b
            ·refine zr tb AA AA ?_;cases b;cases h0;exact rd (gN [])
            ·refine AH (g3 _ (AD λq6 g4=>Bv (by kernel_rfl) (by kernel_rfl) (by rfl) ?_));iterate 4 refine yq tb rfl ?_
             refine bs b λq7 g5 b=>yx BH g5 AA AA AA ?_;iterate 2 refine yq tb rfl ?_
             refine bs b λX g6 b=>CU (v:=(i64 X)) AN (hb 240) (TL g6) rfl AA AA (yq tb AA (BG (g4 _ (AD λk8 g7=>bs b λg8 c b=>?_))));have g9:∀O,g8=O->∀s,Wk 0 s ⟨149,AM [(8,i64 X),(9,.bool O)],[]⟩->k8 s:=by
              intro O hq s A;subst g8;refine g7 _ (AJ A ?_);cases b;cases h0;exact rt [(8,i64 X),(9,.bool O)]
             refine AG AA (zm tb 4 AA ?_);rcases Sh.Ab c with ⟨t,c⟩|⟨t,c⟩
             ·exact zg tb t AA (zg tb t AA (zg tb t AA (bs c λq8 h3 c=>Xh (i:=0) (j:=Sh.w ((Sh.len d8.params)-1)) (BI AA AA t) BH AA AA AA (λ_=>AA) h3 (bs c λk9 h4 c=>zd t (hb 239) (Fa h4) rfl AA AA AA (zt t AA (zm tb 2 AA (AE (g9 k9 (Sh.AF c).symm _ (BD _ AA)))))))))
             ·refine zs t AA ?_;iterate 4 refine zs t rfl ?_
              exact zf t AA (zm tb 2 AA (AE (g9 false (Sh.AF c).symm _ (BD _ AA))))
         refine AG AA (zm tb 3 AA ?_);rcases Sh.Ab c with ⟨u,c⟩|⟨u,c⟩
         ·refine zs u AA ?_;iterate 4 refine zs u rfl ?_
          exact zt u AA (AE (d6 true (Sh.AF c).symm _ (AI AA)))
         ·exact zg tb u AA (zg tb u AA (zg tb u AA (At (v:=(i64 (Sh.len p0.funcs))) (BI AA AA u) rfl (Bo cG AA) (zg tb u AA (zf u AA (AE (d6 (decide ((Sh.len p0.funcs)<=p2)) (Sh.AF c).symm _ (AI AA))))))))
        ·refine zr tb AA AA ?_;cases b;cases h0;exact rd (gN [])
       refine zr tb AA AA ?_;refine ci c AA ?_ ?_<;>intro l0 c
       ·exact AH (d2 true (Sh.AF c).symm _ (As (L:=((1,i64 p1)::NO p2 p3 [(4,BL),(88,.bool true)])) ⟨.rfl,.rfl,.rfl,.rfl,.of (nO AV.bool l0),mV⟩))
       ·exact AG AA (zm tb 2 AA (AE (d2 (decide (p1=10)) (Sh.AF c).symm _ (AI AA))))
  refine zr tb AA AA ?_;refine ci c AA ?_ ?_<;>intro l1 c
  ·exact AH (I true (Sh.AF c).symm _ (As (L:=((1,i64 p1)::NO p2 p3 [(4,BL),(11,i64 0),(18,i64 p1),(32,.bool true)])) ⟨.rfl,.rfl,.rfl,.rfl,.rfl,.rfl,.of (nO AV.bool l1),mV⟩))
  ·refine zr tb AA AA ?_;refine ci c AA ?_ ?_<;>intro l2 c
   ·exact AH (I true (Sh.AF c).symm _ (As (L:=((1,i64 p1)::NO p2 p3 [(4,BL),(11,i64 0),(18,i64 p1),(32,.bool true)])) ⟨.rfl,.rfl,.rfl,.rfl,.rfl,.rfl,.of (nO AV.bool l2),mV⟩))
   ·refine zr tb AA AA ?_;refine ci c AA ?_ ?_<;>intro l3 c
    ·exact AH (I true (Sh.AF c).symm _ (As (L:=((1,i64 p1)::NO p2 p3 [(4,BL),(11,i64 0),(18,i64 p1),(32,.bool true)])) ⟨.rfl,.rfl,.rfl,.rfl,.rfl,.rfl,.of (nO AV.bool l3),mV⟩))
    ·exact AG AA (zm tb 2 AA (AE (I (decide (p1=4)) (Sh.AF c).symm _ (AI AA))))
end Go.Proofs.YtccficmcdkcpnaaGreat
