import Derived.Test.YtfkncfjpobjbjaaProg
import Derived.Test.YtfkncfjpobjbjaaGAbsZQToAbsZW
set_option linter.all false
namespace Go.Proofs.Ytfkncfjpobjbjaa
open Go Go.Abs RC
attribute [local irreducible] Go.Abs.Bh
set_option maxRecDepth 100000
set_option maxHeartbeats 4000000
def tb:FN Try.prog where
 t:=[(22,false,1),(24,true,2),(27,true,2),(3,false,1),(35,false,1),(36,false,1),(38,true,2),(4,false,1),(54,true,3),(66,false,1)]
 f:=[(24,0,0),(24,1,1),(27,0,0),(27,1,1),(38,0,0),(38,1,1),(54,0,0),(54,1,1),(54,2,2)]
 v:=[]
 b:=[4]
 s:=[22,35,66]
 ht:=by kernel_rfl
 hf:=by kernel_rfl
 hv:=by kernel_rfl
 hb:=by kernel_rfl
 hs:=by kernel_rfl
theorem RJ:GP Try.prog 38=true:=by kernel_rfl
theorem Om:GP Try.prog 54=true:=by kernel_rfl
theorem RX:Hg Try.prog 38=some [(0,1),(1,1)]:=by kernel_rfl
theorem Ob:Hg Try.prog 54=some [(0,1),(1,1),(2,1)]:=by kernel_rfl
theorem Ak:CJ Try.prog 22=some ⟨3,1,8,[.int .i64 0]⟩:=by kernel_rfl
theorem Ce:CJ Try.prog 35=some ⟨54,3,40,[.int .i64 0,.int .i64 0,.sl []]⟩:=by kernel_rfl
theorem QC:CJ Try.prog 66=some ⟨54,3,40,[.int .i64 0,.int .i64 0,.sl []]⟩:=by kernel_rfl
theorem Nu:CJ Try.prog 69=some ⟨4,1,1,[.bool false]⟩:=by kernel_rfl
theorem QJ:AZ Try.prog 12=true:=by kernel_rfl
theorem Ra:AZ Try.prog 13=true:=by kernel_rfl
theorem QL:AZ Try.prog 14=true:=by kernel_rfl
theorem RD:AZ Try.prog 15=true:=by kernel_rfl
theorem QH:AZ Try.prog 16=true:=by kernel_rfl
theorem Qw:AZ Try.prog 18=true:=by kernel_rfl
theorem RL:AZ Try.prog 19=true:=by kernel_rfl
theorem Q6:AZ Try.prog 20=true:=by kernel_rfl
theorem Qx:AZ Try.prog 21=true:=by kernel_rfl
theorem Q4:AZ Try.prog 22=true:=by kernel_rfl
theorem RS:AZ Try.prog 23=true:=by kernel_rfl
theorem RA:AZ Try.prog 24=true:=by kernel_rfl
theorem Rb:AZ Try.prog 25=true:=by kernel_rfl
theorem QE:AZ Try.prog 26=true:=by kernel_rfl
theorem Qz:AZ Try.prog 27=true:=by kernel_rfl
theorem RT:AZ Try.prog 28=true:=by kernel_rfl
theorem QB:AZ Try.prog 29=true:=by kernel_rfl
theorem RR:AZ Try.prog 30=true:=by kernel_rfl
theorem Q7:AZ Try.prog 31=true:=by kernel_rfl
theorem Ot:AZ Try.prog 32=true:=by kernel_rfl
theorem QN:AZ Try.prog 33=true:=by kernel_rfl
theorem Nv:AZ Try.prog 34=true:=by kernel_rfl
theorem Q2:AZ Try.prog 35=true:=by kernel_rfl
theorem RN:AZ Try.prog 36=true:=by kernel_rfl
theorem RZ:AZ Try.prog 37=true:=by kernel_rfl
theorem RY:AZ Try.prog 38=true:=by kernel_rfl
theorem RP:AZ Try.prog 39=true:=by kernel_rfl
theorem RV:AZ Try.prog 40=true:=by kernel_rfl
theorem RQ:AZ Try.prog 41=true:=by kernel_rfl
theorem Qr:AZ Try.prog 42=true:=by kernel_rfl
theorem Nn:AZ Try.prog 43=true:=by kernel_rfl
theorem RH:AZ Try.prog 44=true:=by kernel_rfl
theorem Q8:AZ Try.prog 45=true:=by kernel_rfl
theorem QG:AZ Try.prog 46=true:=by kernel_rfl
theorem RB:AZ Try.prog 47=true:=by kernel_rfl
theorem Qt:AZ Try.prog 48=true:=by kernel_rfl
theorem Qv:AZ Try.prog 49=true:=by kernel_rfl
theorem Rg:AZ Try.prog 5=true:=by kernel_rfl
theorem PC:AZ Try.prog 50=true:=by kernel_rfl
theorem RF:AZ Try.prog 51=true:=by kernel_rfl
theorem Re:AZ Try.prog 6=true:=by kernel_rfl
theorem QQ:AZ Try.prog 7=true:=by kernel_rfl
theorem Rc:AZ Try.prog 8=true:=by kernel_rfl
theorem Ri:AZ Try.prog 9=true:=by kernel_rfl
theorem O7:FF Try.prog 36=some (i64 0):=by kernel_rfl
theorem OV:FF Try.prog 64=some (.bool false):=by kernel_rfl
theorem Fy:CM Try.prog 22=true:=by kernel_rfl
theorem Lt:CM Try.prog 35=true:=by kernel_rfl
theorem Ly:CE Try.prog 22=some (false,1):=by kernel_rfl
theorem O4:CE Try.prog 27=some (true,2):=by kernel_rfl
theorem HB:CE Try.prog 3=some (false,1):=by kernel_rfl
theorem Qu:CE Try.prog 35=some (false,1):=by kernel_rfl
theorem E3:CE Try.prog 38=some (true,2):=by kernel_rfl
theorem Q1:CE Try.prog 4=some (false,1):=by kernel_rfl
theorem Nq:CE Try.prog 54=some (true,3):=by kernel_rfl
theorem QD:CE Try.prog 66=some (false,1):=by kernel_rfl
theorem PU:FC Try.prog 27=some [.zc,.zc]:=by kernel_rfl
theorem Nh:FC Try.prog 38=some [.zc,.mv []]:=by kernel_rfl
theorem I3:FC Try.prog 54=some [.int .i64 0,.int .i64 0,.zc]:=by kernel_rfl
theorem RK:FC Try.prog 66=some [.zc]:=by kernel_rfl
theorem F3 {p0:(List Int)}{p1 r:Int}(h0:DI p0 p1=some r):AY Try.prog 12 [ls eI p0,i64 p1] [] (λv st=>v=(i64 r)/\st=[]):=by
 unfold DI at h0;refine ai Try.func12 U U U U ?_;refine zr tb U U ?_;refine sr U λK2 UL=>?_;refine zm tb 2 U ?_;refine zl tb U U ?_;refine zm tb 2 U ?_;refine dn UL U ?_;refine AB λK3 Uu=>?_;refine zr tb U U ?_;refine ci h0 U ?_ ?_<;>clear h0
 ·intro b5 h0;refine zr tb U U ?_;replace h0:=Sh.AA h0;subst r;exact AM (xr (AR (L:=[(4,i64 (-1))]) ⟨.rfl,Rq⟩))
 ·intro b5 h0;refine AJ (Uu _ ?_);refine zr tb U U ?_;replace h0:=Sh.AA h0;subst r;exact AM (xr (AR (L:=[(4,i64 (Sh.w (p1-(Sh.len p0))))]) ⟨.rfl,Rq⟩))
theorem Hc {p0:Al}{p1 r:Int}(h0:DF p0 p1=some r):AY Try.prog 5 [.agg (AS p0),i64 p1] [] (λv st=>v=(i64 r)/\st=[]):=by
 unfold DF at h0;refine ai Try.func5 U U U U ?_;refine sr U λK1 VU=>?_;refine Co (m:=0) Ah U U U U U ?_;refine zq tb U ?_;refine dn VU U ?_;refine sr U λK2 UL=>?_;refine zm tb 3 U ?_;obtain⟨q3,gq3,h0⟩:=Sh.bind_some h0;refine zc QJ (F3 gq3) rfl U U ?_;refine zq tb U ?_;refine dn UL U ?_;refine AB λK4 W6=>?_;refine zr tb U U ?_;refine ci h0 U ?_ ?_<;>clear h0
 ·intro b6 h0;refine zr tb U U ?_;replace h0:=Sh.AA h0;subst r;exact AM (xr (Ai [(4,i64 (-1))] U))
 ·intro b6 h0;refine AJ (W6 _ ?_);refine sr U λK8 Vd=>?_;refine zm tb 3 U ?_;obtain⟨q9,gq9,h0⟩:=Sh.bind_some h0;refine zc QJ (F3 gq9) rfl U U ?_;refine zq tb U ?_;refine dn Vd U ?_;refine AB λW7 Uc=>?_;refine zr tb U U ?_;refine ci h0 U ?_ ?_<;>clear h0
  ·intro Vi h0;refine zr tb U U ?_;replace h0:=Sh.AA h0;subst r;exact AM (xr (Ai [(4,i64 (-1))] U))
  ·intro Vi h0;refine AJ (Uc _ ?_);refine zr tb U U ?_;replace h0:=Sh.AA h0;subst r;exact AM (xr (Ai [(4,i64 q9)] U))
theorem Fx {N:Nat}{p0:(List Int)}{r:(List Int)}(h0:DJ N p0=some r):AY Try.prog 14 [ls eI p0] [] (λv st=>v=(ow 0 0 r)/\st=[ro 0 3 1 eI r]):=by
 unfold DJ at h0;refine ai Try.func14 U U U U ?_;refine zr tb U U ?_;refine sr U λK2 UL=>?_;refine zq tb U ?_;refine zl tb U U ?_;obtain⟨l3,gl3,h0⟩:=Sh.bind_some h0;refine Hr (m:=0) (enc:=eI) (u:=0) Ah Ak U U U gl3 U U ?_;refine zq tb U ?_;refine dn UL U ?_;refine AB λK4 W6=>?_;refine zr tb U U ?_;obtain⟨o9,h1,h0⟩:=Sh.bind_some h0;have M9:∀(l8:(List Int)),o9=l8->∀s,Wk 0 s ⟨22,AX [(3,ow 0 0 l8)],[ro 0 3 1 eI l8]⟩->K4 s:=by
  intro l8 hq s hw;subst o9;try dsimp only at h0
  refine W6 _ (AH hw ?_);refine zr tb U U ?_;replace h0:=Sh.AA h0;subst r;exact AM (xr (AR (L:=[(2,ow 0 0 l8)]) ⟨.rfl,Rq⟩))
 refine AN (Ae (σ:=Int×(List Int)) (λn v=>Bc p0 n v.1 v.2=some o9) (λ(i6,l7)=>⟨22,AX [(0,ls eI p0),(3,ow 0 0 l7),(4,i64 i6)],[ro 0 3 1 eI l7]⟩) N (0,l3) h1 (AD U) (λ_ hv=>by rw[Bc]at hv;cases hv) ?_);rintro n ⟨i6,l7⟩ h1;try dsimp only at h1⊢
 rw[Bc]at h1;refine AB λXM Uk=>?_;refine sr U λaR VV=>?_;refine zm tb 2 U ?_;refine zl tb U U ?_;refine zq tb U ?_;refine dn VV U ?_;refine ci h1 U ?_ ?_<;>clear h1
 ·intro XN h1;refine AJ (Uk _ ?_);refine AB λXx U6=>?_;refine AN ?_;refine AG (by rfl) ?_;refine zm tb 4 U ?_;obtain⟨Yc,gc15,h1⟩:=Sh.bind_some h1;refine zx Ak gc15 U U U ?_;refine zq tb U ?_;obtain⟨aM,gc16,h1⟩:=Sh.bind_some h1;refine zz (.ptr 0 0 (Int.toNat i6) 0) (CT Ak U U U U gc16) rfl ?_;refine Gp (u':=Yc) Ah HB U U gc16 U U U UC rfl U ?_;refine dn U6 U ?_;refine AG (by rfl) ?_;refine zm tb 3 U ?_;exact AE (xi (Sh.w (i6+1),Sh.put l7 i6 Yc) h1 (AR (L:=[(0,.sl (List.map eI p0)),(3,.own 0 0 (List.length (Sh.put l7 i6 Yc))),(4,i64 (Sh.w (i6+1)))]) ⟨.rfl,(.len (by simp only[Sh.DC])),.rfl,Rq⟩))
 ·intro XN h1;exact Ag (M9 l7 (Sh.AA h1).symm _ (AD U))
theorem Ds {N:Nat}{p0 r:Al}(h0:CG N p0=some r):AY Try.prog 7 [.agg (AS p0)] [] (λv st=>v=(.agg [ow 0 0 r.words,ow 1 0 r.free])/\st=[ro 0 3 1 eI r.words,ro 0 3 1 eI r.free]):=by
 unfold CG at h0;refine AY.wk (r0:=(.agg [ow 0 0 r.words,ow 1 0 r.free])) (st0:=[ro 0 3 1 eI r.words,ro 0 3 1 eI r.free,⟨0,27,2,[[ow 0 0 r.words,ow 1 0 r.free]]⟩]) ?_ (Kf (L:=[(0,.agg [ow 0 0 r.words,ow 1 0 r.free])]) (st':=[ro 0 3 1 eI r.words,ro 0 3 1 eI r.free]) [0,1] U (by decide) rfl U (.pure (AK λ_=>U) (.pure (AK λ_=>U) Rq)) ⟨.rfl,Rq⟩);refine ai Try.func7 U U U U ?_;refine sr U λK1 VU=>?_;refine Co (m:=0) Ah U U U U U ?_;refine Cf (m:=1) Ah PU U U ?_;refine dn VU U ?_;refine sr U λK2 UL=>?_;refine Cf (m:=2) Ah PU U U ?_;refine dn UL U ?_;refine sr U λK3 Uu=>?_;refine zm tb 2 U ?_;obtain⟨q4,gq4,h0⟩:=Sh.bind_some h0;refine DG (v':=(ow 3 0 q4)) Ah QL (Fx gq4) rfl U ⟨(CI λ_=>U),Rq⟩ U U ?_;refine zq tb U ?_;refine Bs Ah Ly U U U U U U (show 0+1<=2 by decide) rfl ?_;refine dn Uu U ?_;refine sr U λK5 Xg=>?_;refine zm tb 2 U ?_;obtain⟨q6,gq6,h0⟩:=Sh.bind_some h0;refine DG (v':=(ow 4 0 q6)) Ah QL (Fx gq6) rfl U ⟨(CI λ_=>U),Rq⟩ U U ?_;refine zq tb U ?_;refine Bs Ah Ly U U U U U U (show 1+1<=2 by decide) rfl ?_;refine dn Xg U ?_;refine sr U λK7 Xh=>?_;refine zq tb U ?_;refine Bs Ah O4 U U U U U U UA rfl ?_;refine dn Xh U ?_;replace h0:=Sh.AA h0;subst r;exact AM (Exists.intro _ (And.intro ((Ab (L:=[(2,.ptr 2 0 0 0)]) (st':=[ro 0 3 1 eI q4,ro 0 3 1 eI q6,⟨0,27,2,[[ow 0 0 q4,ow 1 0 q6]]⟩]) (st1:=[ro 0 3 1 eI q4,ro 0 3 1 eI q6,⟨0,27,2,[[ow 3 0 q4,ow 4 0 q6]]⟩]) [3,4,1] U .nil (by decide) rfl U (.pure (AK λ_=>U) (.pure (AK λ_=>U) (.raw U U .nil))) ⟨.rfl,Rq⟩).trans (AR (L:=[(2,.ptr 2 0 0 0)]) ⟨.rfl,Rq⟩)) (EM (x:=.tmp 2) (off:=0) (cs:=[ow 0 0 q4,ow 1 0 q6]) (vs:=[ow 0 0 q4,ow 1 0 q6]) O4 U U U UA rfl _ ⟨U,U⟩)))
theorem Dd {p0:(List Int)}{p1 r:Int}(h0:CA p0 p1=some r):AY Try.prog 34 [ls eI p0,i64 p1] [] (λv st=>v=(i64 r)/\st=[]):=by
 unfold CA at h0;refine ai Try.func34 U U U U ?_;refine zr tb U U ?_;refine sr U λK2 UL=>?_;refine zm tb 3 U ?_;obtain⟨c3,gc3,h0⟩:=Sh.bind_some h0;refine zx Ak gc3 U U U ?_;refine zq tb U ?_;refine zz (i64 (Int.tmod c3 4)) (LL U U (by decide)) rfl ?_;refine zq tb U ?_;refine dn UL U ?_;replace h0:=Sh.AA h0;subst r;exact AM (xr (AR (L:=[(4,i64 (Int.tmod c3 4))]) ⟨.rfl,Rq⟩))
theorem GV {N:Nat}{p0:(List Int)}{r:(List Int)×Bool}(h0:CO N p0=some r):AY Try.prog 18 [ls eI p0] [] (λv st=>v=(.BK [ow 0 0 r.1,.bool r.2])/\st=[ro 0 3 1 eI r.1]):=by
 unfold CO at h0;refine ai Try.func18 U U U U ?_;refine zr tb U U ?_;refine sr U λK2 UL=>?_;refine DS (m:=0) (l:=([]:List Int)) (enc:=eI) Ah Ak (by decide) rfl U U U U U ?_;refine zq tb U ?_;refine dn UL U ?_;refine zr tb U U ?_;refine AB λK4 W6=>?_;obtain⟨o8,h1,h0⟩:=Sh.An h0;have M8:∀(l7:(List Int)),o8=Sum.inr l7->∀s,Wk 0 s ⟨53,AX [(4,ow 0 0 l7)],[ro 0 3 1 eI l7]⟩->K4 s:=by
  intro l7 hq s hw;subst o8;try dsimp only at h0
  refine W6 _ (AH hw ?_);refine zr tb U U ?_;replace h0:=Sh.AA h0;subst r;exact AM (xr (AR (L:=[(2,ow 0 0 l7),(3,.bool true)]) ⟨.rfl,.rfl,Rq⟩))
 refine AN (Ae (σ:=Int×(List Int)) (λn v=>BU p0 n v.1 v.2=some o8) (λ(WD,l6)=>⟨53,AX [(0,ls eI p0),(4,ow 0 0 l6),(5,i64 WD)],[ro 0 3 1 eI l6]⟩) N (0,[]) h1 (AD U) (λ_ hv=>by rw[BU]at hv;cases hv) ?_);rintro n ⟨WD,l6⟩ h1;try dsimp only at h1⊢
 rw[BU]at h1;refine AB λW7 Uc=>?_;refine sr U λXM Uk=>?_;refine zm tb 2 U ?_;refine zl tb U U ?_;refine zq tb U ?_;refine dn Uk U ?_;refine ci h1 U ?_ ?_<;>clear h1
 ·intro Vi h1;refine AJ (Uc _ ?_);refine AN ?_;refine AB λYw VW=>?_;refine AB λXx U6=>?_;obtain⟨bL,h2,h1⟩:=Sh.bind_some h1;have Zv:∀(t15:Bool),bL=t15->∀s,Wk 0 s ⟨53,AX [(0,ls eI p0),(4,ow 0 0 l6),(5,i64 WD),(41,.bool t15)],[ro 0 3 1 eI l6]⟩->Xx s:=by
   intro t15 hq s hw;subst bL;try dsimp only at h1
   refine U6 _ (AH hw ?_);refine ci h1 U ?_ ?_<;>clear h1
   ·intro Xi h1;refine zr tb U U ?_;replace h1:=Sh.AA h1;subst o8;try dsimp only[id]at h0
    replace h0:=Sh.AA h0;subst r;exact AM (Exists.intro _ (And.intro ((((Cl (t:=2) rfl 3 (size:=1) (by decide)).trans (AR (L:=[(2,.own 1 0 (List.length ([]:List Int))),(3,.bool false)]) ⟨.rfl,.rfl,Rq⟩)).trans (Ab (L:=[(2,.own 0 0 (List.length ([]:List Int))),(3,.bool false)]) (st':=[ro 0 3 1 eI ([]:List Int)]) (st1:=[ro 0 3 1 eI ([]:List Int)]) [1] U .nil (by decide) rfl U (.pure (AK λ_=>U) .nil) ⟨.rfl,.rfl,Rq⟩)).trans (AR (L:=[(2,.own 0 0 (List.length ([]:List Int))),(3,.bool false)]) ⟨.rfl,.rfl,Rq⟩)) (And.intro U U)))
   ·intro Xi h1;refine AJ (VW _ ?_);refine sr U λdM YH=>?_;refine zm tb 2 U ?_;refine DS (m:=1) (l:=[WD]) (enc:=eI) Ah Ak (by decide) rfl U U U U U ?_;obtain⟨We,gl20,h1⟩:=Sh.bind_some h1;refine EA (l2:=[WD]) Ah Ak U U U U (Ic U U) (λ_=>U) gl20 U ?_;refine zq tb U ?_;refine dn YH U ?_;refine AG (by rfl) ?_;refine zm tb 4 U ?_;obtain⟨bI,gq21,h1⟩:=Sh.bind_some h1;refine zc Nv (Dd gq21) rfl U U ?_;refine zm tb 2 U ?_;exact AE (xi (Sh.w ((Sh.w (WD+2))+bI),We) h1 (by refine Wk.trans (Cc (L:=[(0,ls eI p0),(4,ow 0 0 We),(5,i64 (Sh.w ((Sh.w (WD+2))+bI)))]) (st':=[ro 0 3 1 eI We,ro 0 3 1 eI [WD]]) (.pure (AK λ_=>U) (.pure (AK λ_=>U) .nil)) ⟨.rfl,.rfl,.rfl,Rq⟩) ?_;exact Ab (L:=[(0,ls eI p0),(4,ow 0 0 We),(5,i64 (Sh.w ((Sh.w (WD+2))+bI)))]) (st':=[ro 0 3 1 eI We]) (st1:=[ro 0 3 1 eI We]) [0] U .nil (by decide) rfl U (.pure (AK λ_=>U) .nil) ⟨.rfl,.rfl,.rfl,Rq⟩))
  refine AG (by rfl) ?_;refine zm tb 3 U ?_;refine zl tb U U ?_;refine zm tb 2 U ?_;rcases Sh.Ac h2 with ⟨YI,h2⟩|⟨YI,h2⟩
  ·refine zs YI U ?_;iterate 4 refine zs YI rfl ?_
   refine zt YI U ?_;refine zq tb U ?_;iterate 6 refine zs rfl rfl ?_
   refine zt U U ?_;refine zq tb U ?_;iterate 9 refine zs rfl rfl ?_
   refine zt U U ?_;exact AE (Zv true (Sh.AA h2).symm _ (AD U))
  ·refine zg tb YI U ?_;refine zg tb YI U ?_;obtain⟨ZK,gc23,h2⟩:=Sh.bind_some h2;refine BZ (v:=(.A6 (eI ZK) 0)) (B8 U U YI) rfl (B0 Ak U U gc23 U) ?_;iterate 2 refine zg tb YI rfl ?_
   refine zf YI U ?_;refine zq tb U ?_;rcases Sh.Ac h2 with ⟨Ve,h2⟩|⟨Ve,h2⟩
   ·refine zs Ve U ?_;iterate 5 refine zs Ve rfl ?_
    refine zt Ve U ?_;refine zq tb U ?_;iterate 9 refine zs rfl rfl ?_
    refine zt U U ?_;exact AE (Zv true (Sh.AA h2).symm _ (AD U))
   ·refine zg tb Ve U ?_;iterate 2 refine zg tb Ve rfl ?_
    obtain⟨bG,gc25,h2⟩:=Sh.bind_some h2;refine BZ (v:=(.A6 (eI bG) 0)) (B8 U U Ve) rfl (B0 Ak U U gc25 U) ?_;iterate 2 refine zg tb Ve rfl ?_
    refine zf Ve U ?_;refine zq tb U ?_;rcases Sh.Ac h2 with ⟨Xj,h2⟩|⟨Xj,h2⟩
    ·refine zs Xj U ?_;iterate 8 refine zs Xj rfl ?_
     refine zt Xj U ?_;exact AE (Zv true (Sh.AA h2).symm _ (AD U))
    ·refine zg tb Xj U ?_;iterate 3 refine zg tb Xj rfl ?_
     obtain⟨bH,gq27,h2⟩:=Sh.bind_some h2;refine zd Xj Nv (Dd gq27) rfl U U U ?_;iterate 2 refine zg tb Xj rfl ?_
     refine BZ (v:=(i64 (Sh.len p0))) (B8 U U Xj) rfl (DV Fy U) ?_;refine zg tb Xj U ?_;refine zf Xj U ?_;exact AE (Zv (decide ((Sh.len p0)<(Sh.w ((Sh.w (WD+2))+bH)))) (Sh.AA h2).symm _ (AD U))
 ·intro Vi h1;exact Ag (M8 l6 (Sh.AA h1).symm _ (AD U))
theorem Df {p0:Int}{r:Bool}(h0:Bo p0=some r):AY Try.prog 32 [i64 p0] [] (λv st=>v=(.bool r)/\st=[]):=by
 unfold Bo at h0;refine ai Try.func32 U U U U ?_;iterate 2 refine zr tb rfl rfl ?_
 replace h0:=Sh.AA h0;subst r;exact AM (xr (AR (L:=[(2,.bool (decide (1000<=p0)))]) ⟨.rfl,Rq⟩))
theorem IA {N:Nat}{p0:(List Int)}{p1 r:Int}(h0:DY N p0 p1=some r):AY Try.prog 19 [ls eI p0,i64 p1] [] (λv st=>v=(i64 r)/\st=[]):=by
 unfold DY at h0;refine ai Try.func19 U U U U ?_;refine zr tb U U ?_;refine AB λK2 UL=>?_;refine zr tb U U ?_;obtain⟨o5,h1,h0⟩:=Sh.An h0;have M5:∀(_:Unit),o5=Sum.inr ()->∀s,Wk 0 s ⟨19,AX [],[]⟩->K2 s:=by
  intro _ hq s hw;subst o5;try dsimp only at h0
  refine UL _ (AH hw ?_);refine zr tb U U ?_;replace h0:=Sh.AA h0;subst r;exact AM (xr (AR (L:=[(4,i64 (-1))]) ⟨.rfl,Rq⟩))
 refine AN (Ae (σ:=Int) (λn v=>Bx p0 p1 n v=some o5) (λi4=>⟨19,AX [(0,ls eI p0),(1,i64 p1),(5,i64 i4)],[]⟩) N 0 h1 (AD U) (λ_ hv=>by rw[Bx]at hv;cases hv) ?_);rintro n i4 h1;try dsimp only at h1⊢
 rw[Bx]at h1;refine AB λK7 Xh=>?_;refine sr U λK8 Vd=>?_;refine zm tb 2 U ?_;refine zl tb U U ?_;refine zq tb U ?_;refine dn Vd U ?_;refine ci h1 U ?_ ?_<;>clear h1
 ·intro b9 h1;refine AJ (Xh _ ?_);refine AB λW7 Uc=>?_;refine AN ?_;refine sr U λXM Uk=>?_;refine zm tb 2 U ?_;obtain⟨W1,gc12,h1⟩:=Sh.bind_some h1;refine zx Ak gc12 U U U ?_;refine zm tb 3 U ?_;refine dn Uk U ?_;refine ci h1 U ?_ ?_<;>clear h1
  ·intro XN h1;refine zr tb U U ?_;replace h1:=Sh.AA h1;subst o5;try dsimp only[id]at h0
   replace h0:=Sh.AA h0;subst r;exact AM (xr (AR (L:=[(4,i64 i4)]) ⟨.rfl,Rq⟩))
  ·intro XN h1;refine AJ (Uc _ ?_);refine AG (by rfl) ?_;refine zm tb 3 U ?_;exact AE (xi (Sh.w (i4+1)) h1 (AD U))
 ·intro b9 h1;exact Ag (M5 () (Sh.AA h1).symm _ (AD U))
theorem Ij {N:Nat}{p0:(List Int)}{p1:Int}{r:Int×Bool}(h0:Dy N p0 p1=some r):AY Try.prog 35 [ls eI p0,i64 p1] [] (λv st=>v=(.BK [i64 r.1,.bool r.2])/\st=[]):=by
 unfold Dy at h0;refine ai Try.func35 U U U U ?_;refine zr tb U U ?_;refine AB λK2 UL=>?_;refine sr U λK3 Uu=>?_;refine zq tb U ?_;obtain⟨q4,gq4,h0⟩:=Sh.bind_some h0;refine zc Ot (Df gq4) rfl U U ?_;refine zq tb U ?_;refine dn Uu U ?_;refine ci h0 U ?_ ?_<;>clear h0
 ·intro b5 h0;have b6:q4=false:=by simpa using b5
  refine zr tb U U ?_;replace h0:=Sh.AA h0;subst r;exact AM (xr (AR (L:=[(4,i64 p1),(5,.bool true)]) ⟨.rfl,.rfl,Rq⟩))
 ·intro b5 h0;have b8:q4=true:=by simpa using b5
  refine AJ (UL _ ?_);refine sr U λK9 YJ=>?_;refine zm tb 3 U ?_;obtain⟨XL,gq10,h0⟩:=Sh.bind_some h0;refine zc RL (IA gq10) rfl U U ?_;refine zq tb U ?_;refine dn YJ U ?_;refine zr tb U U ?_;replace h0:=Sh.AA h0;subst r;exact AM (xr (AR (L:=[(4,i64 (Sh.w (1000+XL))),(5,.bool (decide (0<=XL)))]) ⟨.rfl,.rfl,Rq⟩))
theorem IS {N:Nat}{p0:(List Int)}{p1:(List Int)}{r:(List Cell)×Bool}(h0:DW N p0 p1=some r):AY Try.prog 21 [ls eI p0,ls eI p1] [] (λv st=>v=(.BK [ow 0 0 r.1,.bool r.2])/\st=[ro 0 54 3 AI r.1]):=by
 unfold DW at h0;refine ai Try.func21 U U U U ?_;refine zr tb U U ?_;refine sr U λK2 UL=>?_;refine DS (m:=0) (l:=([]:List Cell)) (enc:=AI) Ah Ce (by decide) rfl U U U U U ?_;refine zq tb U ?_;refine dn UL U ?_;refine AB λK3 Uu=>?_;refine zr tb U U ?_;obtain⟨o8,h1,h0⟩:=Sh.An h0;have M8:∀(l7:(List Cell)),o8=Sum.inr l7->∀s,Wk 0 s ⟨87,AX [(6,ow 0 0 l7)],[ro 0 54 3 AI l7]⟩->K3 s:=by
  intro l7 hq s hw;subst o8;try dsimp only at h0
  refine Uu _ (AH hw ?_);refine zr tb U U ?_;replace h0:=Sh.AA h0;subst r;exact AM (xr (AR (L:=[(4,ow 0 0 l7),(5,.bool true)]) ⟨.rfl,.rfl,Rq⟩))
 refine AN (Ae (σ:=Int×(List Cell)) (λn v=>Bu N p0 p1 n v.1 v.2=some o8) (λ(i5,l6)=>⟨87,AX [(0,ls eI p0),(1,ls eI p1),(6,ow 0 0 l6),(7,i64 i5)],[ro 0 54 3 AI l6]⟩) N (0,[]) h1 (AD U) (λ_ hv=>by rw[Bu]at hv;cases hv) ?_);rintro n ⟨i5,l6⟩ h1;try dsimp only at h1⊢
 rw[Bu]at h1;refine AB λW7 Uc=>?_;refine sr U λXM Uk=>?_;refine zm tb 2 U ?_;refine zl tb U U ?_;refine zq tb U ?_;refine dn Uk U ?_;refine ci h1 U ?_ ?_<;>clear h1
 ·intro Vi h1;refine AJ (Uc _ ?_);refine AB λYw VW=>?_;obtain⟨XO,h2,h1⟩:=Sh.An h1;have Yf:∀(VN:(List Cell)),XO=Sum.inr VN->∀s,Wk 0 s ⟨87,AX [(0,ls eI p0),(1,ls eI p1),(6,ow 0 0 VN),(7,i64 i5)],[ro 0 54 3 AI VN]⟩->Yw s:=by
   intro VN hq s hw;subst XO;try dsimp only at h1
   refine VW _ (AH hw ?_);refine AG (by rfl) ?_;refine zm tb 3 U ?_;exact AE (xi (Sh.w (i5+1),VN) h1 (AD U))
  refine AN ?_;refine sr U λZM VX=>?_;refine zm tb 2 U ?_;obtain⟨Wr,gc17,h2⟩:=Sh.bind_some h2;refine zx Ak gc17 U U U ?_;refine zm tb 2 U ?_;refine dn VX U ?_;refine sr U λbM W8=>?_;refine DS (m:=1) (l:=([]:List Int)) (enc:=eI) Ah Ak (by decide) rfl U U U U U ?_;refine zq tb U ?_;refine dn W8 U ?_;refine AB λdM YH=>?_;refine zr tb U U ?_;obtain⟨cF,h3,h2⟩:=Sh.An h2;have hX:∀(U0:(List Int)),cF=Sum.inr U0->∀s,Wk 0 s ⟨87,AX [(0,ls eI p0),(1,ls eI p1),(6,ow 0 0 l6),(7,i64 i5),(8,i64 Wr),(9,ow 1 0 U0)],[ro 0 54 3 AI l6,ro 0 3 1 eI U0]⟩->dM s:=by
   intro U0 hq s hw;subst cF;try dsimp only at h2
   refine YH _ (AH hw ?_);refine sr U λcG W9=>?_;refine zm tb 2 U ?_;obtain⟨YF,gc26,h2⟩:=Sh.bind_some h2;refine zx Ak gc26 U U U ?_;refine zm tb 2 U ?_;refine dn W9 U ?_;refine ci h2 U ?_ ?_<;>clear h2
   ·intro cH h2;refine AG (by rfl) ?_;refine zq tb U ?_;refine DS (m:=2) (l:=([]:List Int)) (enc:=eI) Ah Ak (by decide) rfl U U U U U ?_;refine zz (.agg [i64 0,i64 0,.own 2 0 (List.length ([]:List Int))]) (LW Om Ob I3 U U) rfl ?_;refine BG (Wk.Dw (L:=[(0,ls eI p0),(1,ls eI p1),(7,i64 i5),(66,ow 0 0 l6),(68,.agg [i64 0,i64 0,.sl (List.map eI [])])]) (st':=[ro 0 54 3 AI l6,ro 0 3 1 eI U0,⟨1,3,1,[]⟩]) (id:=2) rfl UB (AK λ_=>U) ⟨.rfl,.rfl,.rfl,.rfl,.agg ⟨.rfl,.rfl,.Dm U,Rq⟩,Rq⟩ U) ?_;refine DS (m:=3) (l:=([Cell.mk 0 0 []])) (enc:=AI) Ah Ce (by decide) rfl U U U U U ?_;obtain⟨WB,gl28,h2⟩:=Sh.bind_some h2;refine EA (l2:=([Cell.mk 0 0 []])) Ah Ce U U U U (Ic U U) (λ_=>U) gl28 U ?_;refine zq tb U ?_;exact AE (Yf WB (Sh.AA h2).symm _ (by refine Wk.trans (Cc (L:=[(0,ls eI p0),(1,ls eI p1),(6,ow 0 0 WB),(7,i64 i5)]) (st':=[ro 0 54 3 AI WB,ro 0 3 1 eI U0,⟨0,3,1,[]⟩,ro 0 54 3 AI ([Cell.mk 0 0 []])]) (.pure (AK λ_=>U) (.pure (AK λ_=>U) (.pure (by intro x hx;cases hx) (.pure (AK λ_=>U) .nil)))) ⟨.rfl,.rfl,.rfl,.rfl,Rq⟩) ?_;exact Ab (L:=[(0,ls eI p0),(1,ls eI p1),(6,ow 0 0 WB),(7,i64 i5)]) (st':=[ro 0 54 3 AI WB]) (st1:=[ro 0 54 3 AI WB]) [0] U .nil (by decide) rfl U (.pure (AK λ_=>U) .nil) ⟨.rfl,.rfl,.rfl,.rfl,Rq⟩))
   ·intro cH h2;refine AH (Wk.Dw (L:=[(0,ls eI p0),(1,ls eI p1),(6,ow 0 0 l6),(7,i64 i5),(8,i64 Wr),(9,ls eI U0)]) (st':=[ro 0 54 3 AI l6,⟨1,3,1,[]⟩]) (id:=1) rfl UD (AK λ_=>U) ⟨.rfl,.rfl,.rfl,.rfl,.rfl,.Dw U,Rq⟩ U) ?_;refine ES 14 (by kernel_rfl) (by kernel_rfl) (by rfl) ?_;iterate 3 refine yq tb rfl ?_
    refine yx Ak gc26 U U U ?_;iterate 4 refine yq tb rfl ?_
    obtain⟨W2,gc29,h2⟩:=Sh.bind_some h2;refine yx Ak gc29 U U U ?_;refine yq tb U ?_;refine yz (i64 (Sh.w (Int.tdiv W2 4))) (It U U (by decide)) rfl ?_;refine yq tb U ?_;refine yz (.agg [i64 YF,i64 (Sh.w (Int.tdiv W2 4)),ls eI U0]) (LW Om Ob I3 U U) rfl ?_;refine Qp (l:=[Cell.mk YF (Sh.w (Int.tdiv W2 4)) U0]) (enc:=AI) Ah Ce (by decide) rfl U U U U (AK λ_=>U) ?_;refine C5 ?_;obtain⟨ZL,gl30,h2⟩:=Sh.bind_some h2;refine EA (l2:=[Cell.mk YF (Sh.w (Int.tdiv W2 4)) U0]) Ah Ce U U U U QI (λ_=>U) gl30 U ?_;refine zq tb U ?_;exact AE (Yf ZL (Sh.AA h2).symm _ (by refine Wk.trans (Cc (L:=[(0,ls eI p0),(1,ls eI p1),(6,ow 0 0 ZL),(7,i64 i5)]) (st':=[ro 0 54 3 AI ZL,⟨0,3,1,[]⟩]) (.pure (AK λ_=>U) (.pure (by intro x hx;cases hx) .nil)) ⟨.rfl,.rfl,.rfl,.rfl,Rq⟩) ?_;exact Ab (L:=[(0,ls eI p0),(1,ls eI p1),(6,ow 0 0 ZL),(7,i64 i5)]) (st':=[ro 0 54 3 AI ZL]) (st1:=[ro 0 54 3 AI ZL]) [0] U .nil (by decide) rfl U (.pure (AK λ_=>U) .nil) ⟨.rfl,.rfl,.rfl,.rfl,Rq⟩))
  refine AN (Ae (σ:=Int×(List Int)) (λn v=>By N Wr p0 p1 n v.1 v.2=some cF) (λ(Yd,l22)=>⟨87,AX [(0,ls eI p0),(1,ls eI p1),(6,ow 0 0 l6),(7,i64 i5),(8,i64 Wr),(9,ow 1 0 l22),(10,i64 Yd)],[ro 0 54 3 AI l6,ro 0 3 1 eI l22]⟩) N (0,[]) h3 (AD U) (λ_ hv=>by rw[By]at hv;cases hv) ?_);rintro n ⟨Yd,l22⟩ h3;try dsimp only at h3⊢
  rw[By]at h3;refine AB λhY Zw=>?_;refine sr U λdN XA=>?_;refine zm tb 3 U ?_;obtain⟨fW,gq33,h3⟩:=Sh.bind_some h3;refine zc Nv (Dd gq33) rfl U U ?_;refine zq tb U ?_;refine dn XA U ?_;refine ci h3 U ?_ ?_<;>clear h3
  ·intro Wg h3;refine AJ (Zw _ ?_);refine AB λfY YK=>?_;refine AN ?_;refine sr U λcI XB=>?_;refine zm tb 6 U ?_;obtain⟨UK,gc37,h3⟩:=Sh.bind_some h3;refine zx Ak gc37 U U U ?_;refine zq tb U ?_;obtain⟨Wd,gq38,h3⟩:=Sh.bind_some h3;refine zc (v':=(.BK [i64 Wd.1,.bool Wd.2])) Q2 (Ij gq38) rfl U U ?_;refine zm tb 5 U ?_;refine dn XB U ?_;refine AB λjZ dO=>?_;refine AB λfZ Zx=>?_;obtain⟨fa,h4,h3⟩:=Sh.bind_some h3;have dP:∀(t41:Bool),fa=t41->∀s,Wk 0 s ⟨87,AX [(0,ls eI p0),(1,ls eI p1),(6,ow 0 0 l6),(7,i64 i5),(8,i64 Wr),(9,ow 1 0 l22),(10,i64 Yd),(11,i64 Wd.1),(56,.bool t41)],[ro 0 54 3 AI l6,ro 0 3 1 eI l22]⟩->fZ s:=by
    intro t41 hq s hw;subst fa;try dsimp only at h3
    refine Zx _ (AH hw ?_);refine ci h3 U ?_ ?_<;>clear h3
    ·intro Xk h3;refine zr tb U U ?_;replace h3:=Sh.AA h3;subst cF;try dsimp only[id]at h2
     replace h2:=Sh.AA h2;subst XO;try dsimp only[id]at h1
     replace h1:=Sh.AA h1;subst o8;try dsimp only[id]at h0
     replace h0:=Sh.AA h0;subst r;exact AM (Exists.intro _ (And.intro ((((Cl (t:=4) rfl 54 (size:=3) (by decide)).trans (AR (L:=[(4,.own 2 0 (List.length ([]:List Cell))),(5,.bool false)]) ⟨.rfl,.rfl,Rq⟩)).trans (Ab (L:=[(4,.own 0 0 (List.length ([]:List Cell))),(5,.bool false)]) (st':=[ro 0 54 3 AI ([]:List Cell)]) (st1:=[ro 0 54 3 AI ([]:List Cell)]) [2] U .nil (by decide) rfl U (.pure (AK λ_=>U) .nil) ⟨.rfl,.rfl,Rq⟩)).trans (AR (L:=[(4,.own 0 0 (List.length ([]:List Cell))),(5,.bool false)]) ⟨.rfl,.rfl,Rq⟩)) (And.intro U U)))
    ·intro Xk h3;refine AJ (dO _ ?_);refine AG (by rfl) ?_;refine zm tb 2 U ?_;refine DS (m:=2) (l:=[Wd.1]) (enc:=eI) Ah Ak (by decide) rfl U U U U U ?_;obtain⟨V5,gl45,h3⟩:=Sh.bind_some h3;refine EA (l2:=[Wd.1]) Ah Ak U U U U (Ic U U) (λ_=>U) gl45 U ?_;refine zq tb U ?_;refine dn YK U ?_;refine AG (by rfl) ?_;refine zm tb 3 U ?_;exact AE (xi (Sh.w (Yd+1),V5) h3 (by refine Wk.trans (Cc (L:=[(0,ls eI p0),(1,ls eI p1),(6,ow 0 0 l6),(7,i64 i5),(8,i64 Wr),(9,ow 1 0 V5),(10,i64 (Sh.w (Yd+1)))]) (st':=[ro 0 54 3 AI l6,ro 0 3 1 eI V5,ro 0 3 1 eI [Wd.1]]) (.pure (AK λ_=>U) (.pure (AK λ_=>U) (.pure (AK λ_=>U) .nil))) ⟨.rfl,.rfl,.rfl,.rfl,.rfl,.rfl,.rfl,Rq⟩) ?_;exact Ab (L:=[(0,ls eI p0),(1,ls eI p1),(6,ow 0 0 l6),(7,i64 i5),(8,i64 Wr),(9,ow 1 0 V5),(10,i64 (Sh.w (Yd+1)))]) (st':=[ro 0 54 3 AI l6,ro 0 3 1 eI V5]) (st1:=[ro 0 54 3 AI l6,ro 0 3 1 eI V5]) [0,1] U .nil (by decide) rfl U (.pure (AK λ_=>U) (.pure (AK λ_=>U) .nil)) ⟨.rfl,.rfl,.rfl,.rfl,.rfl,.rfl,.rfl,Rq⟩))
   refine AG (by rfl) ?_;refine zm tb 3 U ?_;rcases Sh.Ac h4 with ⟨Wh,h4⟩|⟨Wh,h4⟩
   ·refine zs Wh U ?_;iterate 5 refine zs Wh rfl ?_
    iterate 2 refine zn rfl ?_
    refine zs Wh U ?_;refine zt Wh U ?_;exact AE (dP true (Sh.AA h4).symm _ (AD U))
   ·refine zg tb Wh U ?_;refine zg tb Wh U ?_;obtain⟨dH,gc47,h4⟩:=Sh.bind_some h4;refine BZ (v:=(.A6 (eI dH) 0)) (B8 U U Wh) rfl (B0 Ak U U gc47 U) ?_;iterate 3 refine zg tb Wh rfl ?_
    rcases Sh.Ac h4 with ⟨b48,h4⟩|⟨b48,h4⟩
    ·refine zg tb b48 U ?_;refine zg tb b48 U ?_;refine BZ (v:=(.bool (!decide (Wd.1=0)))) (B8 U U Wh) rfl (E6 U b48 U) ?_;refine zf Wh U ?_;exact AE (dP (!decide (Wd.1=0)) (Sh.AA h4).symm _ (AD U))
    ·refine zs b48 U ?_;refine zs b48 U ?_;refine BZ (v:=(.bool false)) (B8 U U Wh) rfl (E2 U b48 U) ?_;refine zf Wh U ?_;exact AE (dP false (Sh.AA h4).symm _ (AD U))
  ·intro Wg h3;exact Ag (hX l22 (Sh.AA h3).symm _ (AD U))
 ·intro Vi h1;exact Ag (M8 l6 (Sh.AA h1).symm _ (AD U))
theorem KC {N:Nat}{p0:(List Cell)}{r:(List Cell)}(h0:Ev N p0=some r):AY Try.prog 23 [ls AI p0] [] (λv st=>v=(ls AI r)/\st=[]):=by
 unfold Ev at h0;refine ai Try.func23 U U U U ?_;refine zr tb U U ?_;refine sr U λK2 UL=>?_;refine zq tb U ?_;refine zl tb U U ?_;refine zq tb U ?_;refine dn UL U ?_;refine AB λK3 Uu=>?_;obtain⟨o6,h1,h0⟩:=Sh.bind_some h0;have M6:∀(n5:Int),o6=n5->∀s,Wk 0 s ⟨22,AX [(0,ls AI p0),(3,i64 n5)],[]⟩->K3 s:=by
  intro n5 hq s hw;subst o6;try dsimp only at h0
  refine Uu _ (AH hw ?_);refine sr U λK7 Xh=>?_;refine zm tb 2 U ?_;obtain⟨l8,gl8,h0⟩:=Sh.bind_some h0;refine Iv (i:=0) (j:=n5) Ah Ce U U U (λ_=>U) gl8 ?_;refine zq tb U ?_;refine dn Xh U ?_;replace h0:=Sh.AA h0;subst r;exact AM (xr (AR (L:=[(2,ls AI l8)]) ⟨.rfl,Rq⟩))
 refine AN (Ae (σ:=Int) (λn v=>CB p0 n v=some o6) (λn4=>⟨22,AX [(0,ls AI p0),(3,i64 n4)],[]⟩) N (Sh.len p0) h1 (AD U) (λ_ hv=>by rw[CB]at hv;cases hv) ?_);rintro n n4 h1;try dsimp only at h1⊢
 rw[CB]at h1;refine AB λK9 YJ=>?_;refine AB λW7 Uc=>?_;obtain⟨fb,h2,h1⟩:=Sh.bind_some h1;have fc:∀(t11:Bool),fb=t11->∀s,Wk 0 s ⟨22,AX [(0,ls AI p0),(3,i64 n4),(16,.bool t11)],[]⟩->W7 s:=by
  intro t11 hq s hw;subst fb;try dsimp only at h1
  refine Uc _ (AH hw ?_);refine ci h1 U ?_ ?_<;>clear h1
  ·intro XN h1;refine AJ (YJ _ ?_);refine AN ?_;refine AG (by rfl) ?_;refine zm tb 3 U ?_;exact AE (xi (Sh.w (n4-1)) h1 (AD U))
  ·intro XN h1;exact Ag (M6 n4 (Sh.AA h1).symm _ (AD U))
 refine AG (by rfl) ?_;refine zm tb 3 U ?_;rcases Sh.Ac h2 with ⟨Vr,h2⟩|⟨Vr,h2⟩
 ·refine zg tb Vr U ?_;iterate 2 refine zg tb Vr rfl ?_
  obtain⟨Yc,gc15,h2⟩:=Sh.bind_some h2;refine BZ (v:=(.A6 (AI Yc) 0)) (B8 U U Vr) rfl (B0 Ce U U gc15 U) ?_;iterate 3 refine zg tb Vr rfl ?_
  refine zt Vr U ?_;exact AE (fc (decide (Yc.count=0)) (Sh.AA h2).symm _ (AD U))
 ·refine zs Vr U ?_;iterate 6 refine zs Vr rfl ?_
  refine zf Vr U ?_;exact AE (fc false (Sh.AA h2).symm _ (AD U))
theorem DP {p0 p1 p2:Int}{r:Bool}(h0:CC p0 p1 p2=some r):AY Try.prog 43 [i64 p0,i64 p1,i64 p2] [] (λv st=>v=(.bool r)/\st=[]):=by
 unfold CC at h0;refine ai Try.func43 U U U U ?_;refine zr tb U U ?_;refine AB λK2 UL=>?_;obtain⟨o4,h1,h0⟩:=Sh.bind_some h0;have M4:∀(t3:Bool),o4=t3->∀s,Wk 0 s ⟨15,AX [(6,.bool t3)],[]⟩->K2 s:=by
  intro t3 hq s hw;subst o4;try dsimp only at h0
  refine UL _ (AH hw ?_);replace h0:=Sh.AA h0;subst r;exact AM (xr (AR (L:=[(6,.bool t3)]) ⟨.rfl,Rq⟩))
 refine AG (by rfl) ?_;refine zm tb 4 U ?_;rcases Sh.Ac h1 with ⟨b5,h1⟩|⟨b5,h1⟩
 ·refine zg tb b5 U ?_;iterate 2 refine zg tb b5 rfl ?_
  refine zt b5 U ?_;refine zq tb U ?_;exact AE (M4 (decide (p0<=p2)) (Sh.AA h1).symm _ (AD U))
 ·refine zs b5 U ?_;iterate 2 refine zs b5 rfl ?_
  refine zf b5 U ?_;refine zq tb U ?_;exact AE (M4 false (Sh.AA h1).symm _ (AD U))
theorem IF {N:Nat}{p0:(List Int)}{r:Bool}(h0:DT N p0=some r):AY Try.prog 44 [ls eI p0] [] (λv st=>v=(.bool r)/\st=[]):=by
 unfold DT at h0;refine ai Try.func44 U U U U ?_;refine zr tb U U ?_;refine AB λK2 UL=>?_;refine zr tb U U ?_;obtain⟨o5,h1,h0⟩:=Sh.An h0;have M5:∀(_:Unit),o5=Sum.inr ()->∀s,Wk 0 s ⟨15,AX [],[]⟩->K2 s:=by
  intro _ hq s hw;subst o5;try dsimp only at h0
  refine UL _ (AH hw ?_);refine zr tb U U ?_;replace h0:=Sh.AA h0;subst r;exact AM (xr (AR (L:=[(2,.bool true)]) ⟨.rfl,Rq⟩))
 refine AN (Ae (σ:=Int) (λn v=>BX p0 n v=some o5) (λi4=>⟨15,AX [(0,ls eI p0),(3,i64 i4)],[]⟩) N 0 h1 (AD U) (λ_ hv=>by rw[BX]at hv;cases hv) ?_);rintro n i4 h1;try dsimp only at h1⊢
 rw[BX]at h1;refine AB λK7 Xh=>?_;refine sr U λK8 Vd=>?_;refine zm tb 2 U ?_;refine zl tb U U ?_;refine zq tb U ?_;refine dn Vd U ?_;refine ci h1 U ?_ ?_<;>clear h1
 ·intro b9 h1;refine AJ (Xh _ ?_);refine AB λW7 Uc=>?_;refine AN ?_;refine sr U λXM Uk=>?_;refine zm tb 2 U ?_;obtain⟨W1,gc12,h1⟩:=Sh.bind_some h1;refine zx Ak gc12 U U U ?_;refine zm tb 2 U ?_;refine dn Uk U ?_;refine ci h1 U ?_ ?_<;>clear h1
  ·intro XN h1;have Vr:decide (W1=0)=false:=by simpa using XN
   refine zr tb U U ?_;replace h1:=Sh.AA h1;subst o5;try dsimp only[id]at h0
   replace h0:=Sh.AA h0;subst r;exact AM (xr (AR (L:=[(2,.bool false)]) ⟨.rfl,Rq⟩))
  ·intro XN h1;have XP:decide (W1=0)=true:=by simpa using XN
   refine AJ (Uc _ ?_);refine AG (by rfl) ?_;refine zm tb 3 U ?_;exact AE (xi (Sh.w (i4+1)) h1 (AD U))
 ·intro b9 h1;exact Ag (M5 () (Sh.AA h1).symm _ (AD U))
theorem Fz {p0:(List Cell)}{p1:Int}{r:Bool}(h0:DO p0 p1=some r):AY Try.prog 46 [ls AI p0,i64 p1] [] (λv st=>v=(.bool r)/\st=[]):=by
 unfold DO at h0;refine ai Try.func46 U U U U ?_;refine zr tb U U ?_;refine AB λK2 UL=>?_;obtain⟨o4,h1,h0⟩:=Sh.bind_some h0;have M4:∀(t3:Bool),o4=t3->∀s,Wk 0 s ⟨24,AX [(4,.bool t3)],[]⟩->K2 s:=by
  intro t3 hq s hw;subst o4;try dsimp only at h0
  refine UL _ (AH hw ?_);replace h0:=Sh.AA h0;subst r;exact AM (xr (AR (L:=[(4,.bool t3)]) ⟨.rfl,Rq⟩))
 refine AG (by rfl) ?_;refine zm tb 3 U ?_;refine zl tb U U ?_;refine zq tb U ?_;obtain⟨q5,gq5,h1⟩:=Sh.bind_some h1;refine zc Nn (DP gq5) rfl U U ?_;refine zq tb U ?_;rcases Sh.Ac h1 with ⟨b6,h1⟩|⟨b6,h1⟩
 ·refine zg tb b6 U ?_;obtain⟨q7,gq7,h1⟩:=Sh.bind_some h1;refine zd b6 Ot (Df gq7) rfl U U U ?_;refine zt b6 U ?_;refine zq tb U ?_;rcases Sh.Ac h1 with ⟨b8,h1⟩|⟨b8,h1⟩
  ·refine zg tb b8 U ?_;iterate 2 refine zg tb b8 rfl ?_
   obtain⟨c9,gc9,h1⟩:=Sh.bind_some h1;refine BZ (v:=(.A6 (AI c9) 0)) (B8 U U b8) rfl (B0 Ce U U gc9 U) ?_;iterate 3 refine zg tb b8 rfl ?_
   refine zt b8 U ?_;refine zq tb U ?_;exact AE (M4 (decide (0<c9.count)) (Sh.AA h1).symm _ (AD U))
  ·refine zs b8 U ?_;iterate 6 refine zs b8 rfl ?_
   refine zf b8 U ?_;refine zq tb U ?_;exact AE (M4 false (Sh.AA h1).symm _ (AD U))
 ·refine zs b6 U ?_;refine zs b6 U ?_;refine zf b6 U ?_;refine zq tb U ?_;iterate 7 refine zs rfl rfl ?_
  refine zf U U ?_;refine zq tb U ?_;exact AE (M4 false (Sh.AA h1).symm _ (AD U))
theorem Io {p0:(List Cell)}{p1:Int}{r:Bool}(h0:Dz p0 p1=some r):AY Try.prog 45 [ls AI p0,i64 p1] [] (λv st=>v=(.bool r)/\st=[]):=by
 unfold Dz at h0;refine ai Try.func45 U U U U ?_;refine zr tb U U ?_;refine AB λK2 UL=>?_;obtain⟨o4,h1,h0⟩:=Sh.bind_some h0;have M4:∀(t3:Bool),o4=t3->∀s,Wk 0 s ⟨12,AX [(4,.bool t3)],[]⟩->K2 s:=by
  intro t3 hq s hw;subst o4;try dsimp only at h0
  refine UL _ (AH hw ?_);replace h0:=Sh.AA h0;subst r;exact AM (xr (AR (L:=[(4,.bool t3)]) ⟨.rfl,Rq⟩))
 refine AG (by rfl) ?_;refine zq tb U ?_;obtain⟨q5,gq5,h1⟩:=Sh.bind_some h1;refine zc Nn (DP gq5) rfl U U ?_;refine zq tb U ?_;rcases Sh.Ac h1 with ⟨b6,h1⟩|⟨b6,h1⟩
 ·refine zs b6 U ?_;iterate 2 refine zs b6 rfl ?_
  refine zt b6 U ?_;refine zq tb U ?_;exact AE (M4 true (Sh.AA h1).symm _ (AD U))
 ·refine zg tb b6 U ?_;refine zg tb b6 U ?_;obtain⟨q7,gq7,h1⟩:=Sh.bind_some h1;refine zd b6 QG (Fz gq7) rfl U U U ?_;refine zf b6 U ?_;refine zq tb U ?_;exact AE (M4 q7 (Sh.AA h1).symm _ (AD U))
theorem HV {N:Nat}{p0:(List Cell)}{p1:Cell}{r:Bool}(h0:Cy N p0 p1=some r):AY Try.prog 36 [ls AI p0,.agg (AI p1)] [] (λv st=>v=(.bool r)/\st=[]):=by
 unfold Cy at h0;refine ai Try.func36 U U U U ?_;refine sr U λK1 VU=>?_;refine Co (m:=0) Ah U U U U U ?_;refine zq tb U ?_;refine dn VU U ?_;refine AB λK2 UL=>?_;refine AB λK3 Uu=>?_;obtain⟨o5,h1,h0⟩:=Sh.bind_some h0;have M5:∀(t4:Bool),o5=t4->∀s,Wk 0 s ⟨56,AX [(0,ls AI p0),(3,.ptr 0 0 0 0),(15,.bool t4)],[⟨0,54,3,[AI p1]⟩]⟩->K3 s:=by
  intro t4 hq s hw;subst o5;try dsimp only at h0
  refine Uu _ (AH hw ?_);refine ci h0 U ?_ ?_<;>clear h0
  ·intro b6 h0;refine zr tb U U ?_;replace h0:=Sh.AA h0;subst r;exact AM (xr (Ai [(4,.bool false)] U))
  ·intro b6 h0;refine AJ (UL _ ?_);refine AB λK8 Vd=>?_;refine zr tb U U ?_;refine ci h0 U ?_ ?_<;>clear h0
   ·intro Yx h0;refine AB λXM Uk=>?_;obtain⟨ZN,h1,h0⟩:=Sh.bind_some h0;have Yg:∀(t12:Bool),ZN=t12->∀s,Wk 0 s ⟨56,AX [(4,.bool t12)],[]⟩->XM s:=by
     intro t12 hq s hw;subst ZN;try dsimp only at h0
     refine Uk _ (AH hw ?_);replace h0:=Sh.AA h0;subst r;exact AM (xr (AR (L:=[(4,.bool t12)]) ⟨.rfl,Rq⟩))
    refine AG (by rfl) ?_;refine zm tb 4 U ?_;rcases Sh.Ac h1 with ⟨Vr,h1⟩|⟨Vr,h1⟩
    ·refine zg tb Vr U ?_;refine zg tb Vr U ?_;obtain⟨bD,gq15,h1⟩:=Sh.bind_some h1;refine zd Vr RH (IF gq15) rfl U U U ?_;refine zt Vr U ?_;refine zq tb U ?_;rcases Sh.Ac h1 with ⟨XP,h1⟩|⟨XP,h1⟩
     ·refine zg tb XP U ?_;iterate 3 refine zg tb XP rfl ?_
      rcases Sh.Ac h1 with ⟨Xi,h1⟩|⟨Xi,h1⟩
      ·refine zs Xi U ?_;iterate 3 refine zs Xi rfl ?_
       refine BZ (v:=(.bool true)) (B8 U U XP) rfl (E6 U Xi U) ?_;refine zt XP U ?_;refine zq tb U ?_;exact AE (Yg true (Sh.AA h1).symm _ (Ai _ U))
      ·refine zg tb Xi U ?_;refine zg tb Xi U ?_;refine BZ (v:=(i64 (Sh.len p1.fields))) (B8 U U Xi) rfl (DV Fy U) ?_;refine zg tb Xi U ?_;refine BZ (v:=(.bool (decide ((Sh.len p1.fields)=0)))) (B8 U U XP) rfl (E2 U Xi U) ?_;refine zt XP U ?_;refine zq tb U ?_;exact AE (Yg (decide ((Sh.len p1.fields)=0)) (Sh.AA h1).symm _ (Ai _ U))
     ·refine zs XP U ?_;iterate 3 refine zs XP rfl ?_
      iterate 4 refine zn rfl ?_
      refine zs XP U ?_;refine zf XP U ?_;refine zq tb U ?_;exact AE (Yg false (Sh.AA h1).symm _ (Ai _ U))
    ·refine zs Vr U ?_;iterate 2 refine zs Vr rfl ?_
     refine zf Vr U ?_;refine zq tb U ?_;iterate 4 refine zs rfl rfl ?_
     iterate 4 refine zn rfl ?_
     refine zs U U ?_;refine zf U U ?_;refine zq tb U ?_;exact AE (Yg false (Sh.AA h1).symm _ (Ai _ U))
   ·intro Yx h0;refine AJ (Vd _ ?_);refine AB λbM W8=>?_;refine zr tb U U ?_;obtain⟨Yy,h1,h0⟩:=Sh.An h0;have dQ:∀(_:Unit),Yy=Sum.inr ()->∀s,Wk 0 s ⟨56,AX [(3,.ptr 0 0 0 0)],[⟨0,54,3,[AI p1]⟩]⟩->bM s:=by
     intro _ hq s hw;subst Yy;try dsimp only at h0
     refine W8 _ (AH hw ?_);refine sr U λcJ XC=>?_;refine zm tb 2 U ?_;obtain⟨Yq,gq23,h0⟩:=Sh.bind_some h0;refine zc Nn (DP gq23) rfl U U ?_;refine zq tb U ?_;refine dn XC U ?_;replace h0:=Sh.AA h0;subst r;exact AM (xr (Ai [(4,.bool Yq)] U))
    refine AN (Ae (σ:=Int) (λn v=>A8 p0 p1 n v=some Yy) (λi20=>⟨56,AX [(0,ls AI p0),(3,.ptr 0 0 0 0),(5,i64 i20)],[⟨0,54,3,[AI p1]⟩]⟩) N 0 h1 (AD U) (λ_ hv=>by rw[A8]at hv;cases hv) ?_);rintro n i20 h1;try dsimp only at h1⊢
    rw[A8]at h1;refine AB λbN XD=>?_;refine sr U λcG W9=>?_;refine zm tb 3 U ?_;refine zl tb U U ?_;refine zq tb U ?_;refine dn W9 U ?_;refine ci h1 U ?_ ?_<;>clear h1
    ·intro Xj h1;refine AJ (XD _ ?_);refine AB λbO WO=>?_;refine AN ?_;refine sr U λhZ Zy=>?_;refine zm tb 4 U ?_;obtain⟨W2,gc29,h1⟩:=Sh.bind_some h1;refine zx Ak gc29 U U U ?_;refine zq tb U ?_;obtain⟨WL,gq30,h1⟩:=Sh.bind_some h1;refine zc Q8 (Io gq30) rfl U U ?_;refine zq tb U ?_;refine dn Zy U ?_;refine ci h1 U ?_ ?_<;>clear h1
     ·intro WQ h1;have Yz:WL=false:=by simpa using WQ
      refine zr tb U U ?_;replace h1:=Sh.AA h1;subst Yy;try dsimp only[id]at h0
      replace h0:=Sh.AA h0;subst r;exact AM (xr (Ai [(4,.bool false)] U))
     ·intro WQ h1;have Wg:WL=true:=by simpa using WQ
      refine AJ (WO _ ?_);refine AG (by rfl) ?_;refine zm tb 3 U ?_;exact AE (xi (Sh.w (i20+1)) h1 (AD U))
    ·intro Xj h1;exact Ag (dQ () (Sh.AA h1).symm _ (AD U))
 refine AG (by rfl) ?_;refine zm tb 2 U ?_;refine zl tb U U ?_;refine zm tb 2 U ?_;rcases Sh.Ac h1 with ⟨U7,h1⟩|⟨U7,h1⟩
 ·refine zs U7 U ?_;iterate 3 refine zs U7 rfl ?_
  refine zt U7 U ?_;exact AE (M5 true (Sh.AA h1).symm _ (AD U))
 ·refine zg tb U7 U ?_;refine zg tb U7 U ?_;obtain⟨aN,gq36,h1⟩:=Sh.bind_some h1;refine zd U7 Nn (DP gq36) rfl U U U ?_;refine zg tb U7 U ?_;refine zf U7 U ?_;exact AE (M5 (!aN) (Sh.AA h1).symm _ (AD U))
theorem Ik {N:Nat}{p0:(List Cell)}{r:(List Int)}(h0:Du N p0=some r):AY Try.prog 37 [ls AI p0] [] (λv st=>v=(ow 0 0 r)/\st=[ro 0 3 1 eI r]):=by
 unfold Du at h0;refine ai Try.func37 U U U U ?_;refine zr tb U U ?_;refine sr U λK2 UL=>?_;refine zq tb U ?_;refine zl tb U U ?_;obtain⟨l3,gl3,h0⟩:=Sh.bind_some h0;refine Hr (m:=0) (enc:=eI) (u:=0) Ah Ak U U U gl3 U U ?_;refine zq tb U ?_;refine dn UL U ?_;refine AB λK4 W6=>?_;refine zr tb U U ?_;obtain⟨o9,h1,h0⟩:=Sh.bind_some h0;have M9:∀(l8:(List Int)),o9=l8->∀s,Wk 0 s ⟨54,AX [(3,ow 0 0 l8)],[ro 0 3 1 eI l8]⟩->K4 s:=by
  intro l8 hq s hw;subst o9;try dsimp only at h0
  refine W6 _ (AH hw ?_);refine zr tb U U ?_;replace h0:=Sh.AA h0;subst r;exact AM (xr (AR (L:=[(2,ow 0 0 l8)]) ⟨.rfl,Rq⟩))
 refine AN (Ae (σ:=Int×(List Int)) (λn v=>Bb N p0 n v.1 v.2=some o9) (λ(i6,l7)=>⟨54,AX [(0,ls AI p0),(3,ow 0 0 l7),(4,i64 i6)],[ro 0 3 1 eI l7]⟩) N (0,l3) h1 (AD U) (λ_ hv=>by rw[Bb]at hv;cases hv) ?_);rintro n ⟨i6,l7⟩ h1;try dsimp only at h1⊢
 rw[Bb]at h1;refine AB λXM Uk=>?_;refine sr U λaR VV=>?_;refine zm tb 2 U ?_;refine zl tb U U ?_;refine zq tb U ?_;refine dn VV U ?_;refine ci h1 U ?_ ?_<;>clear h1
 ·intro XN h1;refine AJ (Uk _ ?_);refine AB λXx U6=>?_;refine AN ?_;refine zr tb U U ?_;obtain⟨ZO,h2,h1⟩:=Sh.bind_some h1;have dR:∀(Zm:(List Int)),ZO=Zm->∀s,Wk 0 s ⟨54,AX [(0,ls AI p0),(3,ow 0 0 Zm),(4,i64 i6)],[ro 0 3 1 eI Zm]⟩->Xx s:=by
   intro Zm hq s hw;subst ZO;try dsimp only at h1
   refine U6 _ (AH hw ?_);refine AG (by rfl) ?_;refine zm tb 3 U ?_;exact AE (xi (Sh.w (i6+1),Zm) h1 (AD U))
  refine AN (Ae (σ:=Int×(List Int)) (λn v=>Ba i6 p0 n v.1 v.2=some ZO) (λ(Yr,l17)=>⟨54,AX [(0,ls AI p0),(3,ow 0 0 l17),(4,i64 i6),(5,i64 Yr)],[ro 0 3 1 eI l17]⟩) N (0,l7) h2 (AD U) (λ_ hv=>by rw[Ba]at hv;cases hv) ?_);rintro n ⟨Yr,l17⟩ h2;try dsimp only at h2⊢
  rw[Ba]at h2;refine AB λaS Vs=>?_;refine sr U λdS XE=>?_;refine zm tb 3 U ?_;obtain⟨ZJ,gc22,h2⟩:=Sh.bind_some h2;refine zx Ce gc22 U U U ?_;refine zm tb 2 U ?_;refine zl tb U U ?_;refine zq tb U ?_;refine dn XE U ?_;refine ci h2 U ?_ ?_<;>clear h2
  ·intro Xl h2;refine AJ (Vs _ ?_);refine AB λbN XD=>?_;obtain⟨bP,h3,h2⟩:=Sh.bind_some h2;have bQ:∀(Ua:(List Int)),bP=Ua->∀s,Wk 0 s ⟨54,AX [(0,ls AI p0),(3,ow 0 0 Ua),(4,i64 i6),(5,i64 Yr)],[ro 0 3 1 eI Ua]⟩->bN s:=by
    intro Ua hq s hw;subst bP;try dsimp only at h2
    refine XD _ (AH hw ?_);refine AG (by rfl) ?_;refine zm tb 3 U ?_;exact AE (xi (Sh.w (Yr+1),Ua) h2 (AD U))
   refine AN ?_;refine sr U λbO WO=>?_;refine zm tb 3 U ?_;refine zx Ce gc22 U U U ?_;refine zm tb 3 U ?_;obtain⟨YE,gc28,h3⟩:=Sh.bind_some h3;refine zx Ak gc28 U U U ?_;refine zq tb U ?_;obtain⟨Xa,gq29,h3⟩:=Sh.bind_some h3;refine zc QG (Fz gq29) rfl U U ?_;refine dn WO U ?_;refine ci h3 U ?_ ?_<;>clear h3
   ·intro Ws h3;refine sr U λhY Zw=>?_;refine zm tb 2 U ?_;refine zx Ce gc22 U U U ?_;refine zm tb 3 U ?_;refine zx Ak gc28 U U U ?_;refine zm tb 3 U ?_;refine dn Zw U ?_;refine AG (by rfl) ?_;refine zm tb 4 U ?_;obtain⟨Ys,gc32,h3⟩:=Sh.bind_some h3;refine zz (.ptr 0 0 (Int.toNat (Sh.w (YE-1000))) 0) (CT Ak U U U U gc32) rfl ?_;refine zz (i64 Ys) (DN HB U U (CN gc32) rfl) rfl ?_;refine zq tb U ?_;refine zz (.ptr 0 0 (Int.toNat (Sh.w (YE-1000))) 0) (CT Ak U U U U gc32) rfl ?_;refine Gp (u':=Sh.w (Ys+1)) Ah HB U U gc32 U U U UC rfl U ?_;exact AE (bQ (Sh.put l17 (Sh.w (YE-1000)) (Sh.w (Ys+1))) (Sh.AA h3).symm _ (AR (L:=[(0,.sl (List.map AI p0)),(3,.own 0 0 (List.length (Sh.put l17 (Sh.w (YE-1000)) (Sh.w (Ys+1))))),(4,i64 i6),(5,i64 Yr)]) ⟨.rfl,(.len (by simp only[Sh.DC])),.rfl,.rfl,Rq⟩))
   ·intro Ws h3;exact AJ (bQ l17 (Sh.AA h3).symm _ (AD U))
  ·intro Xl h2;exact Ag (dR l17 (Sh.AA h2).symm _ (AD U))
 ·intro XN h1;exact Ag (M9 l7 (Sh.AA h1).symm _ (AD U))
theorem HP {N:Nat}{p0:(List Bool)}{p1:(List Int)}{r:Bool}(h0:Cw N p0 p1=some r):AY Try.prog 47 [ls eB p0,ls eI p1] [] (λv st=>v=(.bool r)/\st=[]):=by
 unfold Cw at h0;refine ai Try.func47 U U U U ?_;refine zr tb U U ?_;refine AB λK2 UL=>?_;refine zr tb U U ?_;obtain⟨o5,h1,h0⟩:=Sh.An h0;have M5:∀(_:Unit),o5=Sum.inr ()->∀s,Wk 0 s ⟨28,AX [],[]⟩->K2 s:=by
  intro _ hq s hw;subst o5;try dsimp only at h0
  refine UL _ (AH hw ?_);refine zr tb U U ?_;replace h0:=Sh.AA h0;subst r;exact AM (xr (AR (L:=[(4,.bool true)]) ⟨.rfl,Rq⟩))
 refine AN (Ae (σ:=Int) (λn v=>BF p0 p1 n v=some o5) (λi4=>⟨28,AX [(0,ls eB p0),(1,ls eI p1),(5,i64 i4)],[]⟩) N 0 h1 (AD U) (λ_ hv=>by rw[BF]at hv;cases hv) ?_);rintro n i4 h1;try dsimp only at h1⊢
 rw[BF]at h1;refine AB λK7 Xh=>?_;refine sr U λK8 Vd=>?_;refine zm tb 2 U ?_;refine zl tb U U ?_;refine zq tb U ?_;refine dn Vd U ?_;refine ci h1 U ?_ ?_<;>clear h1
 ·intro b9 h1;refine AJ (Xh _ ?_);refine AB λW7 Uc=>?_;refine AN ?_;refine AB λXM Uk=>?_;obtain⟨ZN,h2,h1⟩:=Sh.bind_some h1;have Yg:∀(t12:Bool),ZN=t12->∀s,Wk 0 s ⟨28,AX [(0,ls eB p0),(1,ls eI p1),(5,i64 i4),(27,.bool t12)],[]⟩->XM s:=by
   intro t12 hq s hw;subst ZN;try dsimp only at h1
   refine Uk _ (AH hw ?_);refine ci h1 U ?_ ?_<;>clear h1
   ·intro Vr h1;refine zr tb U U ?_;replace h1:=Sh.AA h1;subst o5;try dsimp only[id]at h0
    replace h0:=Sh.AA h0;subst r;exact AM (xr (AR (L:=[(4,.bool false)]) ⟨.rfl,Rq⟩))
   ·intro Vr h1;refine AJ (Uc _ ?_);refine AG (by rfl) ?_;refine zm tb 3 U ?_;exact AE (xi (Sh.w (i4+1)) h1 (AD U))
  refine AG (by rfl) ?_;refine zm tb 2 U ?_;obtain⟨aM,gc16,h2⟩:=Sh.bind_some h2;refine zx Ak gc16 U U U ?_;refine zq tb U ?_;obtain⟨Ux,gq17,h2⟩:=Sh.bind_some h2;refine zc Ot (Df gq17) rfl U U ?_;refine zq tb U ?_;rcases Sh.Ac h2 with ⟨Wi,h2⟩|⟨Wi,h2⟩
  ·refine zg tb Wi U ?_;iterate 2 refine zg tb Wi rfl ?_
   refine BZ (v:=(.A6 (eI aM) 0)) (B8 U U Wi) rfl (B0 Ak U U gc16 U) ?_;iterate 2 refine zg tb Wi rfl ?_
   obtain⟨Yt,gc19,h2⟩:=Sh.bind_some h2;refine BZ (v:=(.A6 (eB Yt) 0)) (B8 U U Wi) rfl (B0 Nu U U gc19 U) ?_;iterate 2 refine zg tb Wi rfl ?_
   refine zt Wi U ?_;exact AE (Yg (!Yt) (Sh.AA h2).symm _ (AD U))
  ·refine zs Wi U ?_;iterate 8 refine zs Wi rfl ?_
   refine zf Wi U ?_;exact AE (Yg false (Sh.AA h2).symm _ (AD U))
 ·intro b9 h1;exact Ag (M5 () (Sh.AA h1).symm _ (AD U))
theorem HS {N:Nat}{p0:(List Cell)}{r:Bool}(h0:Cx N p0=some r):AY Try.prog 38 [ls AI p0] [] (λv st=>v=(.bool r)/\st=[]):=by
 unfold Cx at h0;refine ai Try.func38 U U U U ?_;refine zr tb U U ?_;refine sr U λK2 UL=>?_;refine zq tb U ?_;refine zl tb U U ?_;obtain⟨l3,gl3,h0⟩:=Sh.bind_some h0;refine Hr (m:=0) (enc:=eB) (u:=false) Ah Nu U U U gl3 U U ?_;refine zq tb U ?_;refine dn UL U ?_;refine zr tb U U ?_;refine AB λK5 Xg=>?_;refine zr tb U U ?_;obtain⟨Wj,h1,h0⟩:=Sh.bind_some h0;have YL:∀(VT:Int),Wj=VT->∀s,Wk 0 s ⟨40,AX [(0,ls AI p0),(4,i64 VT)],[]⟩->K5 s:=by
  intro VT hq s hw;subst Wj;try dsimp only at h0
  refine Xg _ (AH hw ?_);refine sr U λaR VV=>?_;refine zm tb 2 U ?_;refine zl tb U U ?_;refine zm tb 2 U ?_;refine dn VV U ?_;replace h0:=Sh.AA h0;subst r;exact AM (xr (AR (L:=[(2,.bool (decide (VT=(Sh.len p0))))]) ⟨.rfl,Rq⟩))
 refine AN (Ae (σ:=Int×Bool×(List Bool)) (λn v=>A9 N p0 n v.1 v.2.1 v.2.2=some Wj) (λ(VI,more8,l9)=>⟨40,AX [(0,ls AI p0),(3,ow 0 0 l9),(4,i64 VI),(5,.bool more8)],[ro 0 4 1 eB l9]⟩) N (0,true,l3) h1 (AD U) (λ_ hv=>by rw[A9]at hv;cases hv) ?_);rintro n ⟨VI,more8,l9⟩ h1;try dsimp only at h1⊢
 rw[A9]at h1;refine AB λYw VW=>?_;refine zr tb U U ?_;refine ci h1 U ?_ ?_<;>clear h1
 ·intro aT h1;refine AJ (VW _ ?_);refine AN ?_;iterate 2 refine zr tb rfl rfl ?_
  obtain⟨ZP,h2,h1⟩:=Sh.bind_some h1;have dT:∀(U4:Int) (U5:Bool) (Wo:(List Bool)),ZP=(U4,U5,Wo)->∀s,Wk 0 s ⟨40,AX [(0,ls AI p0),(3,ow 0 0 Wo),(4,i64 U4),(5,.bool U5)],[ro 0 4 1 eB Wo]⟩->(∃v,A9 N p0 n v.1 v.2.1 v.2.2=some Wj/\Wk 0 s ((λ(VI,more8,l9)=>⟨40,AX [(0,ls AI p0),(3,ow 0 0 l9),(4,i64 VI),(5,.bool more8)],[ro 0 4 1 eB l9]⟩) v)):=by
   intro U4 U5 Wo hq s hw;subst ZP;try dsimp only at h1
   exact Exists.intro (U4,U5,Wo) (And.intro h1 (hw.trans (AR (L:=[(0,ls AI p0),(3,ow 0 0 Wo),(4,i64 U4),(5,.bool U5)]) ⟨.rfl,.rfl,.rfl,.rfl,Rq⟩)))
  refine AN (Ae (σ:=Int×Bool×Int×(List Bool)) (λn v=>BH N p0 n v.1 v.2.1 v.2.2.1 v.2.2.2=some ZP) (λ(Uj,more19,i20,Vc)=>⟨40,AX [(0,ls AI p0),(3,ow 0 0 Vc),(4,i64 Uj),(5,.bool more19),(6,i64 i20)],[ro 0 4 1 eB Vc]⟩) N (VI,false,0,l9) h2 (AD U) (λ_ hv=>by rw[BH]at hv;cases hv) ?_);rintro n ⟨Uj,more19,i20,Vc⟩ h2;try dsimp only at h2⊢
  rw[BH]at h2;refine AB λdU YM=>?_;refine sr U λbO WO=>?_;refine zm tb 2 U ?_;refine zl tb U U ?_;refine zq tb U ?_;refine dn WO U ?_;refine ci h2 U ?_ ?_<;>clear h2
  ·intro dV h2;refine AJ (YM _ ?_);refine AB λiA dW=>?_;obtain⟨fe,h3,h2⟩:=Sh.bind_some h2;have ff:∀(Ub:Int) (VS:Bool) (Zn:(List Bool)),fe=(Ub,VS,Zn)->∀s,Wk 0 s ⟨40,AX [(0,ls AI p0),(3,ow 0 0 Zn),(4,i64 Ub),(5,.bool VS),(6,i64 i20)],[ro 0 4 1 eB Zn]⟩->iA s:=by
    intro Ub VS Zn hq s hw;subst fe;try dsimp only at h2
    refine dW _ (AH hw ?_);refine AG (by rfl) ?_;refine zm tb 3 U ?_;exact AE (xi (Ub,VS,Sh.w (i20+1),Zn) h2 (AD U))
   refine AN ?_;refine AB λcK YN=>?_;obtain⟨fg,h4,h3⟩:=Sh.bind_some h3;have fh:∀(t35:Bool),fg=t35->∀s,Wk 0 s ⟨40,AX [(0,ls AI p0),(3,ow 0 0 Vc),(4,i64 Uj),(5,.bool more19),(6,i64 i20),(30,.bool t35)],[ro 0 4 1 eB Vc]⟩->cK s:=by
    intro t35 hq s hw;subst fg;try dsimp only at h3
    refine YN _ (AH hw ?_);refine ci h3 U ?_ ?_<;>clear h3
    ·intro Y0 h3;refine sr U λiB Zz=>?_;refine zm tb 2 U ?_;obtain⟨VB,gc39,h3⟩:=Sh.bind_some h3;refine zz (.ptr 0 0 (Int.toNat i20) 0) (CT Nu U U U U gc39) rfl ?_;refine Gp (u':=true) Ah Q1 U U gc39 U U U UC rfl U ?_;refine dn Zz U ?_;refine zr tb U U ?_;refine AG (by rfl) ?_;refine zq tb U ?_;exact AE (ff (Sh.w (Uj+1)) true (Sh.put Vc i20 true) (Sh.AA h3).symm _ (AR (L:=[(0,.sl (List.map AI p0)),(3,.own 0 0 (List.length (Sh.put Vc i20 true))),(4,i64 (Sh.w (Uj+1))),(5,.bool true),(6,i64 i20)]) ⟨.rfl,(.len (by simp only[Sh.DC])),.rfl,.rfl,.rfl,Rq⟩))
    ·intro Y0 h3;exact AJ (ff Uj more19 Vc (Sh.AA h3).symm _ (AD U))
   refine AG (by rfl) ?_;refine zm tb 2 U ?_;obtain⟨dA,gc41,h4⟩:=Sh.bind_some h4;refine zz (.ptr 0 0 (Int.toNat i20) 0) (CT Nu U U U U gc41) rfl ?_;refine zz (.bool dA) (DN Q1 U U (CN gc41) rfl) rfl ?_;refine zm tb 2 U ?_;rcases Sh.Ac h4 with ⟨YO,h4⟩|⟨YO,h4⟩
   ·refine zg tb YO U ?_;iterate 2 refine zg tb YO rfl ?_
    obtain⟨dB,gc43,h4⟩:=Sh.bind_some h4;refine BZ (v:=(.A6 (AI dB) 0)) (B8 U U YO) rfl (B0 Ce U U gc43 U) ?_;iterate 2 refine zg tb YO rfl ?_
    obtain⟨bp,gq44,h4⟩:=Sh.bind_some h4;refine Gr (v':=(.bool bp)) (B8 U U YO) RB (HP gq44) rfl (.own U U (λ_=>U) (.val U .nil)) rfl Rq U U ?_;refine zt YO U ?_;exact AE (fh bp (Sh.AA h4).symm _ (AD U))
   ·refine zs YO U ?_;iterate 6 refine zs YO rfl ?_
    refine zf YO U ?_;exact AE (fh false (Sh.AA h4).symm _ (AD U))
  ·intro dV h2;exact Ag (dT Uj more19 Vc (Sh.AA h2).symm _ (AD U))
 ·intro aT h1;exact Ag (YL VI (Sh.AA h1).symm _ (Ai _ U))
theorem HL {N:Nat}{p0:(List Cell)}{r:Bool}(h0:B6 N p0=some r):AY Try.prog 22 [ls AI p0] [] (λv st=>v=(.bool r)/\st=[]):=by
 unfold B6 at h0;refine ai Try.func22 U U U U ?_;refine zr tb U U ?_;refine AB λK2 UL=>?_;refine AB λK3 Uu=>?_;obtain⟨o5,h1,h0⟩:=Sh.bind_some h0;have M5:∀(t4:Bool),o5=t4->∀s,Wk 0 s ⟨60,AX [(0,ls AI p0),(18,.bool t4)],[]⟩->K3 s:=by
  intro t4 hq s hw;subst o5;try dsimp only at h0
  refine Uu _ (AH hw ?_);refine ci h0 U ?_ ?_<;>clear h0
  ·intro b6 h0;refine zr tb U U ?_;replace h0:=Sh.AA h0;subst r;exact AM (xr (AR (L:=[(2,.bool false)]) ⟨.rfl,Rq⟩))
  ·intro b6 h0;refine AJ (UL _ ?_);refine AB λK8 Vd=>?_;refine zr tb U U ?_;obtain⟨Wj,h1,h0⟩:=Sh.An h0;have YL:∀(_:Unit),Wj=Sum.inr ()->∀s,Wk 0 s ⟨60,AX [(0,ls AI p0)],[]⟩->K8 s:=by
    intro _ hq s hw;subst Wj;try dsimp only at h0
    refine Vd _ (AH hw ?_);refine sr U λaR VV=>?_;refine zq tb U ?_;obtain⟨V4,gq13,h0⟩:=Sh.bind_some h0;refine DG (v':=(ow 0 0 V4)) Ah RZ (Ik gq13) rfl U ⟨(CI λ_=>U),Rq⟩ U U ?_;refine zq tb U ?_;refine dn VV U ?_;refine AB λXx U6=>?_;refine zr tb U U ?_;obtain⟨Y1,h1,h0⟩:=Sh.An h0;have dX:∀(_:Unit),Y1=Sum.inr ()->∀s,Wk 0 s ⟨60,AX [(0,ls AI p0)],[]⟩->Xx s:=by
     intro _ hq s hw;subst Y1;try dsimp only at h0
     refine U6 _ (AH hw ?_);refine sr U λbM W8=>?_;refine zq tb U ?_;obtain⟨dC,gq19,h0⟩:=Sh.bind_some h0;refine zc RY (HS gq19) rfl U U ?_;refine zq tb U ?_;refine dn W8 U ?_;replace h0:=Sh.AA h0;subst r;exact AM (xr (AR (L:=[(2,.bool dC)]) ⟨.rfl,Rq⟩))
    refine AN (Ae (σ:=Int) (λn v=>BE p0 V4 n v=some Y1) (λi16=>⟨60,AX [(0,ls AI p0),(4,ow 0 0 V4),(5,i64 i16)],[ro 0 3 1 eI V4]⟩) N 0 h1 (AD U) (λ_ hv=>by rw[BE]at hv;cases hv) ?_);rintro n i16 h1;try dsimp only at h1⊢
    rw[BE]at h1;refine AB λaS Vs=>?_;refine sr U λdS XE=>?_;refine zm tb 2 U ?_;refine zl tb U U ?_;refine zq tb U ?_;refine dn XE U ?_;refine ci h1 U ?_ ?_<;>clear h1
    ·intro YI h1;refine AJ (Vs _ ?_);refine AB λdY XF=>?_;refine AN ?_;refine AB λbN XD=>?_;obtain⟨bP,h2,h1⟩:=Sh.bind_some h1;have bQ:∀(t25:Bool),bP=t25->∀s,Wk 0 s ⟨60,AX [(0,ls AI p0),(4,ow 0 0 V4),(5,i64 i16),(57,.bool t25)],[ro 0 3 1 eI V4]⟩->bN s:=by
      intro t25 hq s hw;subst bP;try dsimp only at h1
      refine XD _ (AH hw ?_);refine ci h1 U ?_ ?_<;>clear h1
      ·intro cH h1;refine zr tb U U ?_;replace h1:=Sh.AA h1;subst Y1;try dsimp only[id]at h0
       replace h0:=Sh.AA h0;subst r;exact AM (xr (Ai [(2,.bool false)] U))
      ·intro cH h1;refine AJ (XF _ ?_);refine AG (by rfl) ?_;refine zm tb 3 U ?_;exact AE (xi (Sh.w (i16+1)) h1 (AD U))
     refine D5 (by kernel_rfl) (by kernel_rfl) (by rfl) ?_;iterate 2 refine yq tb rfl ?_
     obtain⟨W2,gc29,h2⟩:=Sh.bind_some h2;refine yx Ce gc29 U U U ?_;iterate 4 refine yq tb rfl ?_
     rcases Sh.Ac h2 with ⟨Ws,h2⟩|⟨Ws,h2⟩
     ·refine yg tb Ws U ?_;refine yg tb Ws U ?_;refine G8 (v:=(.A6 (AI W2) 0)) (B8 U U Ws) rfl (B0 Ce U U gc29 U) ?_;iterate 4 refine yg tb Ws rfl ?_
      obtain⟨bq,gc31,h2⟩:=Sh.bind_some h2;refine G8 (v:=(.ptr 0 0 (Int.toNat i16) 0)) (B8 U U Ws) rfl (CT Ak U U U U gc31) ?_;refine G8 (v:=(i64 bq)) (B8 U U Ws) rfl (DN HB U U (CN gc31) rfl) ?_;refine yg tb Ws U ?_;refine yt Ws U ?_;exact C5 (bQ (decide (W2.count<bq)) (Sh.AA h2).symm _ (AD U))
     ·refine ys Ws U ?_;iterate 9 refine ys Ws rfl ?_
      refine yf Ws U ?_;exact C5 (bQ false (Sh.AA h2).symm _ (AD U))
    ·intro YI h1;exact Ag (dX () (Sh.AA h1).symm _ (Ai _ U))
   refine AN (Ae (σ:=Int) (λn v=>BB N p0 n v=some Wj) (λi10=>⟨60,AX [(0,ls AI p0),(3,i64 i10)],[]⟩) N 0 h1 (AD U) (λ_ hv=>by rw[BB]at hv;cases hv) ?_);rintro n i10 h1;try dsimp only at h1⊢
   rw[BB]at h1;refine AB λdN XA=>?_;refine sr U λiC Z0=>?_;refine zm tb 2 U ?_;refine zl tb U U ?_;refine zq tb U ?_;refine dn Z0 U ?_;refine ci h1 U ?_ ?_<;>clear h1
   ·intro Wg h1;refine AJ (XA _ ?_);refine AB λfY YK=>?_;refine AN ?_;refine sr U λcI XB=>?_;refine zm tb 3 U ?_;obtain⟨UK,gc37,h1⟩:=Sh.bind_some h1;refine zx Ce gc37 U U U ?_;refine zq tb U ?_;obtain⟨Wd,gq38,h1⟩:=Sh.bind_some h1;refine zc RN (HV gq38) rfl U U ?_;refine zq tb U ?_;refine dn XB U ?_;refine ci h1 U ?_ ?_<;>clear h1
    ·intro Xm h1;have ja:Wd=false:=by simpa using Xm
     refine zr tb U U ?_;replace h1:=Sh.AA h1;subst Wj;try dsimp only[id]at h0
     replace h0:=Sh.AA h0;subst r;exact AM (xr (AR (L:=[(2,.bool false)]) ⟨.rfl,Rq⟩))
    ·intro Xm h1;have YO:Wd=true:=by simpa using Xm
     refine AJ (YK _ ?_);refine AG (by rfl) ?_;refine zm tb 3 U ?_;exact AE (xi (Sh.w (i10+1)) h1 (AD U))
   ·intro Wg h1;exact Ag (YL () (Sh.AA h1).symm _ (AD U))
 refine AG (by rfl) ?_;refine zq tb U ?_;refine zl tb U U ?_;refine zm tb 2 U ?_;rcases Sh.Ac h1 with ⟨Xk,h1⟩|⟨Xk,h1⟩
 ·refine zg tb Xk U ?_;refine zg tb Xk U ?_;refine BZ (v:=(i64 (Sh.len p0))) (B8 U U Xk) rfl (DV Lt U) ?_;refine zg tb Xk U ?_;obtain⟨br,gc44,h1⟩:=Sh.bind_some h1;refine BZ (v:=(.A6 (AI br) 0)) (B8 U U Xk) rfl (B0 Ce U U gc44 U) ?_;iterate 3 refine zg tb Xk rfl ?_
  refine zt Xk U ?_;exact AE (M5 (decide (br.count=0)) (Sh.AA h1).symm _ (AD U))
 ·refine zs Xk U ?_;iterate 7 refine zs Xk rfl ?_
  refine zf Xk U ?_;exact AE (M5 false (Sh.AA h1).symm _ (AD U))
theorem Ir {N:Nat}{p0:(List Int)}{p1:(List Int)}{p2:Int}{r:(List Int)}(h0:Dq N p0 p1 p2=some r):AY Try.prog 25 [ls eI p0,ls eI p1,i64 p2] [] (λv st=>v=(ow 0 0 r)/\st=[ro 0 3 1 eI r]):=by
 unfold Dq at h0;refine ai Try.func25 U U U U ?_;refine zr tb U U ?_;refine sr U λK2 UL=>?_;refine DS (m:=0) (l:=([]:List Int)) (enc:=eI) Ah Ak (by decide) rfl U U U U U ?_;refine zq tb U ?_;refine dn UL U ?_;refine AB λK3 Uu=>?_;refine zr tb U U ?_;obtain⟨o8,h1,h0⟩:=Sh.bind_some h0;have M8:∀(l7:(List Int)),o8=l7->∀s,Wk 0 s ⟨42,AX [(7,ow 0 0 l7)],[ro 0 3 1 eI l7]⟩->K3 s:=by
  intro l7 hq s hw;subst o8;try dsimp only at h0
  refine Uu _ (AH hw ?_);refine zr tb U U ?_;replace h0:=Sh.AA h0;subst r;exact AM (xr (AR (L:=[(6,ow 0 0 l7)]) ⟨.rfl,Rq⟩))
 refine AN (Ae (σ:=Int×(List Int)) (λn v=>B7 p0 p1 p2 n v.1 v.2=some o8) (λ(i5,l6)=>⟨42,AX [(0,ls eI p0),(1,ls eI p1),(2,i64 p2),(7,ow 0 0 l6),(8,i64 i5)],[ro 0 3 1 eI l6]⟩) N (0,[]) h1 (AD U) (λ_ hv=>by rw[B7]at hv;cases hv) ?_);rintro n ⟨i5,l6⟩ h1;try dsimp only at h1⊢
 rw[B7]at h1;refine AB λW7 Uc=>?_;refine sr U λXM Uk=>?_;refine zm tb 2 U ?_;refine zl tb U U ?_;refine zq tb U ?_;refine dn Uk U ?_;refine ci h1 U ?_ ?_<;>clear h1
 ·intro Vi h1;refine AJ (Uc _ ?_);refine AB λYw VW=>?_;obtain⟨XO,h2,h1⟩:=Sh.bind_some h1;have Yf:∀(VN:(List Int)),XO=VN->∀s,Wk 0 s ⟨42,AX [(0,ls eI p0),(1,ls eI p1),(2,i64 p2),(7,ow 0 0 VN),(8,i64 i5)],[ro 0 3 1 eI VN]⟩->Yw s:=by
   intro VN hq s hw;subst XO;try dsimp only at h1
   refine VW _ (AH hw ?_);refine AG (by rfl) ?_;refine zm tb 3 U ?_;exact AE (xi (Sh.w (i5+1),VN) h1 (AD U))
  refine AN ?_;refine AB λZM VX=>?_;obtain⟨fj,h3,h2⟩:=Sh.bind_some h2;have fk:∀(t17:Bool),fj=t17->∀s,Wk 0 s ⟨42,AX [(0,ls eI p0),(1,ls eI p1),(2,i64 p2),(7,ow 0 0 l6),(8,i64 i5),(33,.bool t17)],[ro 0 3 1 eI l6]⟩->ZM s:=by
   intro t17 hq s hw;subst fj;try dsimp only at h2
   refine VX _ (AH hw ?_);refine ci h2 U ?_ ?_<;>clear h2
   ·intro fm h2;refine AG (by rfl) ?_;refine zm tb 3 U ?_;obtain⟨bJ,gc20,h2⟩:=Sh.bind_some h2;refine zx Ak gc20 U U U ?_;refine zq tb U ?_;refine DS (m:=1) (l:=[bJ]) (enc:=eI) Ah Ak (by decide) rfl U U U U U ?_;obtain⟨Vc,gl21,h2⟩:=Sh.bind_some h2;refine EA (l2:=[bJ]) Ah Ak U U U U (Ic U U) (λ_=>U) gl21 U ?_;refine zq tb U ?_;exact AE (Yf Vc (Sh.AA h2).symm _ (by refine Wk.trans (Cc (L:=[(0,ls eI p0),(1,ls eI p1),(2,i64 p2),(7,ow 0 0 Vc),(8,i64 i5)]) (st':=[ro 0 3 1 eI Vc,ro 0 3 1 eI [bJ]]) (.pure (AK λ_=>U) (.pure (AK λ_=>U) .nil)) ⟨.rfl,.rfl,.rfl,.rfl,.rfl,Rq⟩) ?_;exact Ab (L:=[(0,ls eI p0),(1,ls eI p1),(2,i64 p2),(7,ow 0 0 Vc),(8,i64 i5)]) (st':=[ro 0 3 1 eI Vc]) (st1:=[ro 0 3 1 eI Vc]) [0] U .nil (by decide) rfl U (.pure (AK λ_=>U) .nil) ⟨.rfl,.rfl,.rfl,.rfl,.rfl,Rq⟩))
   ·intro fm h2;exact AJ (Yf l6 (Sh.AA h2).symm _ (AD U))
  refine AG (by rfl) ?_;refine zm tb 3 U ?_;obtain⟨ZJ,gc22,h3⟩:=Sh.bind_some h3;refine zx Ak gc22 U U U ?_;refine zq tb U ?_;obtain⟨ZK,gc23,h3⟩:=Sh.bind_some h3;refine zx Ak gc23 U U U ?_;refine zm tb 3 U ?_;rcases Sh.Ac h3 with ⟨Ve,h3⟩|⟨Ve,h3⟩
  ·refine zg tb Ve U ?_;iterate 2 refine zg tb Ve rfl ?_
   refine BZ (v:=(.A6 (eI ZJ) 0)) (B8 U U Ve) rfl (B0 Ak U U gc22 U) ?_;refine zg tb Ve U ?_;obtain⟨dI,gq25,h3⟩:=Sh.bind_some h3;refine zd Ve Nv (Dd gq25) rfl U U U ?_;iterate 2 refine zg tb Ve rfl ?_
   refine zt Ve U ?_;exact AE (fk (decide (dI=p2)) (Sh.AA h3).symm _ (AD U))
  ·refine zs Ve U ?_;iterate 7 refine zs Ve rfl ?_
   refine zf Ve U ?_;exact AE (fk false (Sh.AA h3).symm _ (AD U))
 ·intro Vi h1;exact Ag (M8 l6 (Sh.AA h1).symm _ (AD U))
theorem G5 {N:Nat}{p0:(List Int)}{p1:Int}{r:Bool}(h0:D7 N p0 p1=some r):AY Try.prog 33 [ls eI p0,i64 p1] [] (λv st=>v=(.bool r)/\st=[]):=by
 unfold D7 at h0;refine ai Try.func33 U U U U ?_;refine zr tb U U ?_;refine AB λK2 UL=>?_;refine zr tb U U ?_;obtain⟨o5,h1,h0⟩:=Sh.An h0;have M5:∀(_:Unit),o5=Sum.inr ()->∀s,Wk 0 s ⟨18,AX [],[]⟩->K2 s:=by
  intro _ hq s hw;subst o5;try dsimp only at h0
  refine UL _ (AH hw ?_);refine zr tb U U ?_;replace h0:=Sh.AA h0;subst r;exact AM (xr (AR (L:=[(4,.bool false)]) ⟨.rfl,Rq⟩))
 refine AN (Ae (σ:=Int) (λn v=>CX p0 p1 n v=some o5) (λi4=>⟨18,AX [(0,ls eI p0),(1,i64 p1),(5,i64 i4)],[]⟩) N 0 h1 (AD U) (λ_ hv=>by rw[CX]at hv;cases hv) ?_);rintro n i4 h1;try dsimp only at h1⊢
 rw[CX]at h1;refine AB λK7 Xh=>?_;refine sr U λK8 Vd=>?_;refine zm tb 2 U ?_;refine zl tb U U ?_;refine zq tb U ?_;refine dn Vd U ?_;refine ci h1 U ?_ ?_<;>clear h1
 ·intro b9 h1;refine AJ (Xh _ ?_);refine AB λW7 Uc=>?_;refine AN ?_;refine sr U λXM Uk=>?_;refine zm tb 2 U ?_;obtain⟨W1,gc12,h1⟩:=Sh.bind_some h1;refine zx Ak gc12 U U U ?_;refine zm tb 3 U ?_;refine dn Uk U ?_;refine ci h1 U ?_ ?_<;>clear h1
  ·intro XN h1;refine zr tb U U ?_;replace h1:=Sh.AA h1;subst o5;try dsimp only[id]at h0
   replace h0:=Sh.AA h0;subst r;exact AM (xr (AR (L:=[(4,.bool true)]) ⟨.rfl,Rq⟩))
  ·intro XN h1;refine AJ (Uc _ ?_);refine AG (by rfl) ?_;refine zm tb 3 U ?_;exact AE (xi (Sh.w (i4+1)) h1 (AD U))
 ·intro b9 h1;exact Ag (M5 () (Sh.AA h1).symm _ (AD U))
theorem IL {N:Nat}{p0:(List Int)}{p1:Int}{p2:(List Int)}{r:Bool}(h0:DZ N p0 p1 p2=some r):AY Try.prog 24 [ls eI p0,i64 p1,ls eI p2] [] (λv st=>v=(.bool r)/\st=[]):=by
 unfold DZ at h0;refine ai Try.func24 U U U U ?_;refine zr tb U U ?_;refine sr U λK2 UL=>?_;refine DS (m:=0) (l:=([]:List Int)) (enc:=eI) Ah Ak (by decide) rfl U U U U U ?_;refine zq tb U ?_;refine dn UL U ?_;refine AB λK3 Uu=>?_;obtain⟨o7,h1,h0⟩:=Sh.An h0;have M7:∀(l6:(List Int)),o7=Sum.inr l6->∀s,Wk 0 s ⟨37,AX [(2,ls eI p2),(7,ow 0 0 l6)],[ro 0 3 1 eI l6]⟩->K3 s:=by
  intro l6 hq s hw;subst o7;try dsimp only at h0
  refine Uu _ (AH hw ?_);refine sr U λK8 Vd=>?_;refine zq tb U ?_;refine zz (i64 (Sh.len l6)) (Ef Fy U U U) rfl ?_;refine zq tb U ?_;refine zl tb U U ?_;refine zm tb 2 U ?_;refine dn Vd U ?_;replace h0:=Sh.AA h0;subst r;exact AM (xr (Ai [(6,.bool (decide ((Sh.len l6)=(Sh.len p2))))] U))
 refine AN (Ae (σ:=Int×(List Int)) (λn v=>Bw N p0 p2 n v.1 v.2=some o7) (λ(Uo,l5)=>⟨37,AX [(0,ls eI p0),(1,i64 Uo),(2,ls eI p2),(7,ow 0 0 l5)],[ro 0 3 1 eI l5]⟩) N (p1,[]) h1 (AD U) (λ_ hv=>by rw[Bw]at hv;cases hv) ?_);rintro n ⟨Uo,l5⟩ h1;try dsimp only at h1⊢
 rw[Bw]at h1;refine AB λK9 YJ=>?_;refine zr tb U U ?_;refine ci h1 U ?_ ?_<;>clear h1
 ·intro XG h1;have Vi:decide (Uo=0)=false:=by simpa using XG
  refine AJ (YJ _ ?_);refine AN ?_;refine AB λYw VW=>?_;refine AB λXx U6=>?_;obtain⟨bL,h2,h1⟩:=Sh.bind_some h1;have Zv:∀(t15:Bool),bL=t15->∀s,Wk 0 s ⟨37,AX [(0,ls eI p0),(1,i64 Uo),(2,ls eI p2),(7,ow 0 0 l5),(21,.bool t15)],[ro 0 3 1 eI l5]⟩->Xx s:=by
   intro t15 hq s hw;subst bL;try dsimp only at h1
   refine U6 _ (AH hw ?_);refine ci h1 U ?_ ?_<;>clear h1
   ·intro Xi h1;refine zr tb U U ?_;replace h1:=Sh.AA h1;subst o7;try dsimp only[id]at h0
    replace h0:=Sh.AA h0;subst r;exact AM (xr (Ai [(6,.bool false)] U))
   ·intro Xi h1;refine AJ (VW _ ?_);refine sr U λdM YH=>?_;refine zm tb 3 U ?_;refine DS (m:=1) (l:=[Sh.w (Uo-1)]) (enc:=eI) Ah Ak (by decide) rfl U U U U U ?_;obtain⟨We,gl20,h1⟩:=Sh.bind_some h1;refine EA (l2:=[Sh.w (Uo-1)]) Ah Ak U U U U (Ic U U) (λ_=>U) gl20 U ?_;refine zq tb U ?_;refine dn YH U ?_;refine AG (by rfl) ?_;refine zm tb 2 U ?_;obtain⟨aO,gc21,h1⟩:=Sh.bind_some h1;refine zx Ak gc21 U U U ?_;refine zq tb U ?_;refine zz (i64 (Sh.w (Int.tdiv aO 4))) (It U U (by decide)) rfl ?_;refine zq tb U ?_;exact AE (xi (Sh.w (Int.tdiv aO 4),We) h1 (by refine Wk.trans (Cc (L:=[(0,ls eI p0),(1,i64 (Sh.w (Int.tdiv aO 4))),(2,ls eI p2),(7,ow 0 0 We)]) (st':=[ro 0 3 1 eI We,ro 0 3 1 eI [Sh.w (Uo-1)]]) (.pure (AK λ_=>U) (.pure (AK λ_=>U) .nil)) ⟨.rfl,.rfl,.rfl,.rfl,Rq⟩) ?_;exact Ab (L:=[(0,ls eI p0),(1,i64 (Sh.w (Int.tdiv aO 4))),(2,ls eI p2),(7,ow 0 0 We)]) (st':=[ro 0 3 1 eI We]) (st1:=[ro 0 3 1 eI We]) [0] U .nil (by decide) rfl U (.pure (AK λ_=>U) .nil) ⟨.rfl,.rfl,.rfl,.rfl,Rq⟩))
  refine AG (by rfl) ?_;refine zm tb 3 U ?_;obtain⟨Xt,gq22,h2⟩:=Sh.bind_some h2;refine zc QN (G5 gq22) rfl U U ?_;refine zm tb 2 U ?_;rcases Sh.Ac h2 with ⟨Xl,h2⟩|⟨Xl,h2⟩
  ·refine zs Xl U ?_;iterate 3 refine zs Xl rfl ?_
   refine zt Xl U ?_;exact AE (Zv true (Sh.AA h2).symm _ (AD U))
  ·refine zg tb Xl U ?_;iterate 2 refine zg tb Xl rfl ?_
   obtain⟨bx,gq24,h2⟩:=Sh.bind_some h2;refine Gr (v':=(.bool bx)) (B8 U U Xl) QN (G5 gq24) rfl (.own U U (λ_=>U) (.val U .nil)) rfl Rq U U ?_;refine zf Xl U ?_;exact AE (Zv bx (Sh.AA h2).symm _ (AD U))
 ·intro XG h1;have dZ:decide (Uo=0)=true:=by simpa using XG
  exact Ag (M7 l5 (Sh.AA h1).symm _ (AD U))
theorem GU {N:Nat}{p0:Al}{r:Bool}(h0:CP N p0=some r):AY Try.prog 13 [.agg (AS p0)] [] (λv st=>v=(.bool r)/\st=[]):=by
 unfold CP at h0;refine ai Try.func13 U U U U ?_;refine sr U λK1 VU=>?_;refine Co (m:=0) Ah U U U U U ?_;refine zq tb U ?_;refine dn VU U ?_;refine sr U λK2 UL=>?_;refine zm tb 2 U ?_;obtain⟨q3,gq3,h0⟩:=Sh.bind_some h0;refine DG (v':=(.BK [ow 1 0 q3.1,.bool q3.2])) Ah Qw (GV gq3) rfl U ⟨(CI λ_=>U),Rq⟩ U U ?_;refine zm tb 5 U ?_;refine dn UL U ?_;refine AB λK4 W6=>?_;refine AB λK5 Xg=>?_;obtain⟨o7,h1,h0⟩:=Sh.bind_some h0;have M7:∀(t6:Bool),o7=t6->∀s,Wk 0 s ⟨55,AX [(1,.ptr 0 0 0 0),(3,ow 1 0 q3.1),(21,.bool t6)],[⟨0,27,2,[AS p0]⟩,ro 0 3 1 eI q3.1]⟩->K5 s:=by
  intro t6 hq s hw;subst o7;try dsimp only at h0
  refine Xg _ (AH hw ?_);refine ci h0 U ?_ ?_<;>clear h0
  ·intro b8 h0;refine zr tb U U ?_;replace h0:=Sh.AA h0;subst r;exact AM (xr (Ai [(2,.bool false)] U))
  ·intro b8 h0;refine AJ (W6 _ ?_);refine sr U λW7 Uc=>?_;refine zm tb 3 U ?_;refine BG (Wk.Dw (L:=[(1,.ptr 0 0 0 0),(3,ls eI q3.1),(24,ls eI p0.words),(25,ls eI q3.1)]) (st':=[⟨0,27,2,[AS p0]⟩,⟨1,3,1,[]⟩]) (id:=1) rfl UD (AK λ_=>U) ⟨.rfl,.Dw U,.rfl,.Dw U,Rq⟩ U) ?_;obtain⟨Wf,gq11,h0⟩:=Sh.bind_some h0;refine DG (v':=(.BK [ow 2 0 Wf.1,.bool Wf.2])) Ah Qx (IS gq11) rfl U ⟨(CI λ_=>U),Rq⟩ U U ?_;refine zm tb 5 U ?_;refine dn Uc U ?_;refine AB λaR VV=>?_;refine AB λYw VW=>?_;obtain⟨XO,h1,h0⟩:=Sh.bind_some h0;have Yf:∀(t14:Bool),XO=t14->∀s,Wk 0 s ⟨55,AX [(1,.ptr 0 0 0 0),(3,ls eI q3.1),(36,.bool t14)],[⟨0,27,2,[AS p0]⟩]⟩->Yw s:=by
    intro t14 hq s hw;subst XO;try dsimp only at h0
    refine VW _ (AH hw ?_);refine ci h0 U ?_ ?_<;>clear h0
    ·intro XP h0;refine zr tb U U ?_;replace h0:=Sh.AA h0;subst r;exact AM (xr (Ai [(2,.bool false)] U))
    ·intro XP h0;refine AJ (VV _ ?_);refine AB λbM W8=>?_;refine zr tb U U ?_;obtain⟨Yy,h1,h0⟩:=Sh.An h0;have dQ:∀(_:Unit),Yy=Sum.inr ()->∀s,Wk 0 s ⟨55,AX [],[]⟩->bM s:=by
      intro _ hq s hw;subst Yy;try dsimp only at h0
      refine W8 _ (AH hw ?_);refine zr tb U U ?_;replace h0:=Sh.AA h0;subst r;exact AM (xr (AR (L:=[(2,.bool true)]) ⟨.rfl,Rq⟩))
     refine AN (Ae (σ:=Int) (λn v=>BS N p0 q3 n v=some Yy) (λUz=>⟨55,AX [(1,.ptr 0 0 0 0),(3,ls eI q3.1),(7,i64 Uz)],[⟨0,27,2,[AS p0]⟩]⟩) N 0 h1 (AD U) (λ_ hv=>by rw[BS]at hv;cases hv) ?_);rintro n Uz h1;try dsimp only at h1⊢
     rw[BS]at h1;refine AB λdY XF=>?_;refine zr tb U U ?_;refine ci h1 U ?_ ?_<;>clear h1
     ·intro dZ h1;refine AJ (XF _ ?_);refine AB λdU YM=>?_;refine AN ?_;refine AB λbO WO=>?_;refine ES 13 (by kernel_rfl) (by kernel_rfl) (by rfl) ?_;iterate 5 refine yq tb rfl ?_
      obtain⟨YE,gc28,h1⟩:=Sh.bind_some h1;refine yx Ak gc28 U U U ?_;iterate 5 refine yq tb rfl ?_
      obtain⟨Xa,gq29,h1⟩:=Sh.bind_some h1;refine Gu (v:=(ls eI Xa)) Ah Rb (AY.wk (Ir gq29) (by refine Wk.trans (Wk.Dw (L:=[(0,ls eI Xa)]) (st':=[⟨1,3,1,[]⟩]) (id:=0) rfl (show 0<=0 by decide) (AK λ_=>U) ⟨.Dw U,Rq⟩ U) ?_;refine Wk.trans (Ab (L:=[(0,ls eI Xa)]) (st':=[]) (st1:=[]) [] U .nil (by decide) rfl U .nil ⟨.rfl,Rq⟩) ?_;exact AR (L:=[(0,ls eI Xa)]) ⟨.rfl,Rq⟩)) rfl U U ?_;obtain⟨WL,gq30,h1⟩:=Sh.bind_some h1;refine Gu (v:=(.bool WL)) Ah RA (IL gq30) rfl U U ?_;refine C5 ?_;refine zq tb U ?_;refine dn WO U ?_;refine ci h1 U ?_ ?_<;>clear h1
      ·intro WQ h1;have Yz:WL=false:=by simpa using WQ
       refine zr tb U U ?_;replace h1:=Sh.AA h1;subst Yy;try dsimp only[id]at h0
       replace h0:=Sh.AA h0;subst r;exact AM (xr (Ai [(2,.bool false)] U))
      ·intro WQ h1;have Wg:WL=true:=by simpa using WQ
       refine AJ (YM _ ?_);refine AG (by rfl) ?_;refine zm tb 3 U ?_;exact AE (xi (Sh.w (Uz+1)) h1 (AD U))
     ·intro dZ h1;exact Ag (dQ () (Sh.AA h1).symm _ (Ai _ U))
   refine AG (by rfl) ?_;refine zm tb 3 U ?_;rcases Sh.Ac h1 with ⟨U7,h1⟩|⟨U7,h1⟩
   ·refine zs U7 U ?_;iterate 3 refine zs U7 rfl ?_
    refine zt U7 U ?_;exact AE (Yf true (Sh.AA h1).symm _ (Ab (L:=[(1,.ptr 0 0 0 0),(3,ls eI q3.1),(36,.bool true)]) (st':=[⟨0,27,2,[AS p0]⟩]) (st1:=[⟨0,27,2,[AS p0]⟩]) [0] U .nil (by decide) rfl U (.raw U U .nil) ⟨.rfl,.rfl,.rfl,Rq⟩))
   ·refine zg tb U7 U ?_;refine BG (Wk.Dw (L:=[(1,.ptr 0 0 0 0),(3,ls eI q3.1),(31,.bool (!Wf.2)),(32,ls AI Wf.1)]) (st':=[⟨0,27,2,[AS p0]⟩,⟨1,3,1,[]⟩,⟨1,54,3,[]⟩]) (id:=2) rfl UB (AK λ_=>U) ⟨.rfl,.rfl,.rfl,.Dw U,Rq⟩ U) ?_;obtain⟨aN,gq36,h1⟩:=Sh.bind_some h1;refine zd U7 RS (KC gq36) rfl U U U ?_;obtain⟨bz,gq37,h1⟩:=Sh.bind_some h1;refine zd U7 Q4 (HL gq37) rfl U U U ?_;refine zg tb U7 U ?_;refine zf U7 U ?_;exact AE (Yf (!bz) (Sh.AA h1).symm _ (Ab (L:=[(1,.ptr 0 0 0 0),(3,ls eI q3.1),(36,.bool (!bz))]) (st':=[⟨0,27,2,[AS p0]⟩]) (st1:=[⟨0,27,2,[AS p0]⟩]) [0] U .nil (by decide) rfl U (.raw U U .nil) ⟨.rfl,.rfl,.rfl,Rq⟩))
 refine AG (by rfl) ?_;refine zm tb 3 U ?_;rcases Sh.Ac h1 with ⟨b38,h1⟩|⟨b38,h1⟩
 ·refine zs b38 U ?_;iterate 3 refine zs b38 rfl ?_
  refine zt b38 U ?_;exact AE (M7 true (Sh.AA h1).symm _ (AD U))
 ·refine zg tb b38 U ?_;refine zg tb b38 U ?_;refine BZ (v:=(i64 (Sh.len p0.free))) (B8 U U b38) rfl (DV Fy U) ?_;refine zg tb b38 U ?_;refine zf b38 U ?_;exact AE (M7 (!decide ((Sh.len p0.free)=4)) (Sh.AA h1).symm _ (AD U))
theorem GQ {N:Nat}{p0:Al}{r:Bool}(h0:C7 N p0=some r):AY Try.prog 6 [.agg (AS p0)] [] (λv st=>v=(.bool r)/\st=[]):=by
 unfold C7 at h0;refine ai Try.func6 U U U U ?_;refine sr U λK1 VU=>?_;refine Co (m:=0) Ah U U U U U ?_;refine zq tb U ?_;refine dn VU U ?_;refine sr U λK2 UL=>?_;refine zq tb U ?_;obtain⟨q3,gq3,h0⟩:=Sh.bind_some h0;refine zc Ra (GU gq3) rfl U U ?_;refine zq tb U ?_;refine dn UL U ?_;replace h0:=Sh.AA h0;subst r;exact AM (xr (Ai [(2,.bool q3)] U))
theorem DX {p0:(List Int)}{r:(List Int)}(h0:BO p0=some r):AY Try.prog 26 [ls eI p0] [] (λv st=>v=(ow 0 0 r)/\st=[ro 0 3 1 eI r]):=by
 unfold BO at h0;refine ai Try.func26 U U U U ?_;refine zr tb U U ?_;refine AB λK2 UL=>?_;refine sr U λK3 Uu=>?_;refine zq tb U ?_;refine Pp Ah Fy U (λhn=>?_) ?_
 ·subst hn;replace h0:some []=some r:=by rw[<- h0];first|rfl|simp[Sh.app]
  refine dn Uu U ?_;refine GX (b:=true) rfl (λ_=>?_) (λq=>nomatch (show true=false from (U:true=true).symm.trans q));refine zr tb U U ?_;replace h0:=Sh.AA h0;subst r;exact AM (Exists.intro _ (And.intro (((Cl (t:=2) rfl 3 (size:=1) (by decide)).trans (AR (L:=[(2,.own 0 0 (List.length ([]:List Int)))]) ⟨.rfl,Rq⟩)).trans (AR (L:=[(2,.own 0 0 (List.length ([]:List Int)))]) ⟨.rfl,Rq⟩)) (And.intro U U)))
 ·refine dn Uu U ?_;refine GX (b:=false) rfl (λq=>nomatch (show false=true from (U:false=false).symm.trans q)) (λ_=>?_);refine AJ (UL _ ?_);refine sr U λK5 Xg=>?_;refine DS (m:=0) (l:=([]:List Int)) (enc:=eI) Ah Ak (by decide) rfl U U U U U ?_;refine zq tb U ?_;obtain⟨l6,gl6,h0⟩:=Sh.bind_some h0;refine EA (l2:=p0) Ah Ak U U U U QI (λ_=>U) gl6 U ?_;refine zq tb U ?_;refine dn Xg U ?_;replace h0:=Sh.AA h0;subst r;exact AM (xr (Cc (L:=[(2,ow 0 0 l6)]) (st':=[ro 0 3 1 eI l6]) (.pure (AK λ_=>U) .nil) ⟨.rfl,Rq⟩))
theorem HK {p0:Int}{r:Bool}(h0:Dc p0=some r):AY Try.prog 40 [i64 p0] [] (λv st=>v=(.bool r)/\st=[]):=by
 unfold Dc at h0;refine ai Try.func40 U U U U ?_;iterate 2 refine zr tb rfl rfl ?_
 replace h0:=Sh.AA h0;subst r;exact AM (xr (AR (L:=[(2,.bool (!decide (p0=0)))]) ⟨.rfl,Rq⟩))
theorem ET {N:Nat}{p0:(List Int)}{r:Int}(h0:Br N p0=some r):AY Try.prog 48 [ls eI p0,.fn 40 []] [] (λv st=>v=(i64 r)/\st=[]):=by
 unfold Br at h0;refine ai Try.func48 U U U U ?_;refine zr tb U U ?_;refine AB λK2 UL=>?_;refine sr U λK3 Uu=>?_;refine zq tb U ?_;refine zl tb U U ?_;refine zq tb U ?_;refine dn Uu U ?_;obtain⟨o5,h1,h0⟩:=Sh.An h0;have M5:∀(_:Unit),o5=Sum.inr ()->∀s,Wk 0 s ⟨19,AX [],[]⟩->K2 s:=by
  intro _ hq s hw;subst o5;try dsimp only at h0
  refine UL _ (AH hw ?_);refine zr tb U U ?_;replace h0:=Sh.AA h0;subst r;exact AM (xr (AR (L:=[(4,i64 (-1))]) ⟨.rfl,Rq⟩))
 refine AN (Ae (σ:=Int) (λn v=>Am p0 n v=some o5) (λt4=>⟨19,AX [(0,ls eI p0),(1,.fn 40 []),(7,i64 (Sh.len p0)),(8,i64 t4)],[]⟩) N 0 h1 (AD U) (λ_ hv=>by rw[Am]at hv;cases hv) ?_);rintro n t4 h1;try dsimp only at h1⊢
 rw[Am]at h1;refine zr tb U U ?_;refine AB λK8 Vd=>?_;refine ci h1 U ?_ ?_<;>clear h1
 ·intro b9 h1;refine AJ (Vd _ ?_);refine AB λW7 Uc=>?_;refine AN ?_;refine zr tb U U ?_;refine sr U λaR VV=>?_;refine zm tb 3 U ?_;obtain⟨Zu,gc13,h1⟩:=Sh.bind_some h1;refine zx Ak gc13 U U U ?_;refine zq tb U ?_;obtain⟨dJ,gq14,h1⟩:=Sh.bind_some h1;refine N8 (v':=(.bool dJ)) (st':=[]) Ah U RV (HK gq14) rfl U Rq U U ?_;refine dn VV U ?_;refine ci h1 U ?_ ?_<;>clear h1
  ·intro aT h1;refine zr tb U U ?_;replace h1:=Sh.AA h1;subst o5;try dsimp only[id]at h0
   replace h0:=Sh.AA h0;subst r;exact AM (xr (AR (L:=[(4,i64 t4)]) ⟨.rfl,Rq⟩))
  ·intro aT h1;refine AJ (Uc _ ?_);refine AG (by rfl) ?_;refine zm tb 2 U ?_;exact AE (xi (Sh.w (t4+1)) h1 (AD U))
 ·intro b9 h1;exact Ag (M5 () (Sh.AA h1).symm _ (AD U))
theorem D2 {N:Nat}{p0:(List Int)}{r:Bool}(h0:Be N p0=some r):AY Try.prog 39 [ls eI p0,.fn 40 []] [] (λv st=>v=(.bool r)/\st=[]):=by
 unfold Be at h0;refine ai Try.func39 U U U U ?_;refine zr tb U U ?_;refine sr U λK2 UL=>?_;refine zm tb 2 U ?_;obtain⟨q3,gq3,h0⟩:=Sh.bind_some h0;refine zc Qt (ET gq3) rfl U U ?_;refine zm tb 2 U ?_;refine dn UL U ?_;replace h0:=Sh.AA h0;subst r;exact AM (xr (AR (L:=[(4,.bool (decide (0<=q3)))]) ⟨.rfl,Rq⟩))
theorem H3 {N:Nat}{p0:(List Int)}{r:Bool}(h0:C0 N p0=some r):AY Try.prog 27 [ls eI p0] [] (λv st=>v=(.bool r)/\st=[]):=by
 unfold C0 at h0;refine ai Try.func27 U U U U ?_;refine zr tb U U ?_;refine sr U λK2 UL=>?_;refine zq tb U ?_;obtain⟨q3,gq3,h0⟩:=Sh.bind_some h0;refine zc RP (D2 gq3) rfl U U ?_;refine zm tb 2 U ?_;refine dn UL U ?_;replace h0:=Sh.AA h0;subst r;exact AM (xr (AR (L:=[(2,.bool (!q3))]) ⟨.rfl,Rq⟩))
theorem Ey {N:Nat}{p0:Al}{p1:Af}{p2:(List Int)}{r:Bool}(h0:Bm N p0 p1 p2=some r):AY Try.prog 28 [.agg (AS p0),.agg [ls AI p1.cells,.mv (List.map (eM i64) p1.index)],ls eI p2] [] (λv st=>v=(.bool r)/\st=[]):=by
 unfold Bm at h0;refine ai Try.func28 U U U U ?_;refine sr U λK1 VU=>?_;refine Co (m:=0) Ah U U U U U ?_;refine Co (m:=1) Ah U U U U U ?_;refine zq tb U ?_;refine dn VU U ?_;refine AB λK2 UL=>?_;refine sr U λK3 Uu=>?_;refine zm tb 2 U ?_;refine zl tb U U ?_;refine zq tb U ?_;refine dn Uu U ?_;refine ci h0 U ?_ ?_<;>clear h0
 ·intro b4 h0;have b5:decide ((Sh.len p0.free)=4)=false:=by simpa using b4
  refine zr tb U U ?_;replace h0:=Sh.AA h0;subst r;exact AM (xr (Ai [(6,.bool false)] U))
 ·intro b4 h0;have b7:decide ((Sh.len p0.free)=4)=true:=by simpa using b4
  refine AJ (UL _ ?_);refine sr U λK8 Vd=>?_;refine PK λWU=>?_;refine zq tb U ?_;refine dn Vd U ?_;refine AB λW7 Uc=>?_;refine sr U λXM Uk=>?_;refine zm tb 2 U ?_;refine zl tb U U ?_;refine zq tb U ?_;refine dn Uk U ?_;obtain⟨XO,h1,h0⟩:=Sh.An h0;have Yf:∀(VN:(List (Int×Bool))),XO=Sum.inr VN->∀s,Wk 0 s ⟨95,AX [(2,ls eI p2),(3,.ptr 0 0 0 0),(7,.mp WU)],[⟨0,27,2,[AS p0]⟩,⟨0,64,1,[[.dv WU 0 (List.map (eM AV.bool) VN)]]⟩]⟩->W7 s:=by
   intro VN hq s hw;subst XO;try dsimp only at h0
   refine Uc _ (AH hw ?_);refine AB λZM VX=>?_;refine sr U λiD Z1=>?_;refine zq tb U ?_;refine zl tb U U ?_;refine zq tb U ?_;refine dn Z1 U ?_;obtain⟨ZO,h1,h0⟩:=Sh.An h0;have dR:∀(_:Unit),ZO=Sum.inr ()->∀s,Wk 0 s ⟨95,AX [],[]⟩->ZM s:=by
    intro _ hq s hw;subst ZO;try dsimp only at h0
    refine VX _ (AH hw ?_);refine zr tb U U ?_;replace h0:=Sh.AA h0;subst r;exact AM (xr (AR (L:=[(6,.bool true)]) ⟨.rfl,Rq⟩))
   refine AN (Ae (σ:=Int) (λn v=>Av VN p0 p2 n v=some ZO) (λt18=>⟨95,AX [(3,.ptr 0 0 0 0),(7,.mp WU),(76,ls eI p2),(77,i64 (Sh.len p2)),(78,i64 t18)],[⟨0,27,2,[AS p0]⟩,⟨0,64,1,[[.dv WU 0 (List.map (eM AV.bool) VN)]]⟩]⟩) N 0 h1 (AD U) (λ_ hv=>by rw[Av]at hv;cases hv) ?_);rintro n t18 h1;try dsimp only at h1⊢
   rw[Av]at h1;refine zr tb U U ?_;refine AB λcJ XC=>?_;refine ci h1 U ?_ ?_<;>clear h1
   ·intro Xl h1;refine AJ (XC _ ?_);refine AB λbN XD=>?_;refine AN ?_;refine sr U λcG W9=>?_;obtain⟨YF,gc26,h1⟩:=Sh.bind_some h1;refine zx Ak gc26 U U U ?_;refine zm tb 2 U ?_;refine dn W9 U ?_;refine AB λbO WO=>?_;obtain⟨fp,h2,h1⟩:=Sh.bind_some h1;have fq:∀(t28:Bool),fp=t28->∀s,Wk 0 s ⟨95,AX [(3,.ptr 0 0 0 0),(7,.mp WU),(76,ls eI p2),(77,i64 (Sh.len p2)),(78,i64 t18),(93,.bool t28)],[⟨0,27,2,[AS p0]⟩,⟨0,64,1,[[.dv WU 0 (List.map (eM AV.bool) VN)]]⟩]⟩->bO s:=by
     intro t28 hq s hw;subst fp;try dsimp only at h1
     refine WO _ (AH hw ?_);refine ci h1 U ?_ ?_<;>clear h1
     ·intro Ws h1;refine zr tb U U ?_;replace h1:=Sh.AA h1;subst ZO;try dsimp only[id]at h0
      replace h0:=Sh.AA h0;subst r;exact AM (xr (Ai [(6,.bool false)] U))
     ·intro Ws h1;refine AJ (XD _ ?_);refine AG (by rfl) ?_;refine zm tb 2 U ?_;exact AE (xi (Sh.w (t18+1)) h1 (AD U))
    refine AG (by rfl) ?_;refine zm tb 3 U ?_;obtain⟨Ys,gc32,h2⟩:=Sh.bind_some h2;refine zx Ak gc32 U U U ?_;refine zm tb 3 U ?_;rcases Sh.Ac h2 with ⟨WR,h2⟩|⟨WR,h2⟩
    ·refine zg tb WR U ?_;refine zg tb WR U ?_;refine Ng (id:=1) (ev:=AV.bool) (z0:=false) false (B8 U U WR) OV (λ_=>U) rfl U U U ?_;refine zg tb WR U ?_;refine zt WR U ?_;exact AE (fq (!((Sh.BJ VN YF).getD false)) (Sh.AA h2).symm _ (AD U))
    ·refine zs WR U ?_;iterate 3 refine zs WR rfl ?_
     refine zf WR U ?_;exact AE (fq false (Sh.AA h2).symm _ (AD U))
   ·intro Xl h1;exact Ag (dR () (Sh.AA h1).symm _ (Ai _ U))
  refine AN (Ae (σ:=Int×(List (Int×Bool))) (λn v=>Aq N p0 p1 n v.1 v.2=some XO) (λ(t12,US)=>⟨95,AX [(2,ls eI p2),(3,.ptr 0 0 0 0),(4,.ptr 1 0 0 0),(7,.mp WU),(21,ls eI p0.free),(22,i64 (Sh.len p0.free)),(23,i64 t12)],[⟨0,27,2,[AS p0]⟩,⟨0,38,2,[[ls AI p1.cells,.mv (List.map (eM i64) p1.index)]]⟩,⟨0,64,1,[[.dv WU 0 (List.map (eM AV.bool) US)]]⟩]⟩) N (0,[]) h1 (AD U) (λ_ hv=>by rw[Aq]at hv;cases hv) ?_);rintro n ⟨t12,US⟩ h1;try dsimp only at h1⊢
  rw[Aq]at h1;refine zr tb U U ?_;refine AB λfY YK=>?_;refine ci h1 U ?_ ?_<;>clear h1
  ·intro YP h1;refine AJ (YK _ ?_);refine AB λfr Z2=>?_;refine AN ?_;refine sr U λiB Zz=>?_;refine zq tb U ?_;obtain⟨VB,gc39,h1⟩:=Sh.bind_some h1;refine zx Ak gc39 U U U ?_;refine zm tb 3 U ?_;refine dn Zz U ?_;obtain⟨cL,h2,h1⟩:=Sh.An h1;have iE:∀(aP:(List (Int×Bool))),cL=Sum.inr aP->∀s,Wk 0 s ⟨95,AX [(2,ls eI p2),(3,.ptr 0 0 0 0),(4,.ptr 1 0 0 0),(7,.mp WU),(21,ls eI p0.free),(22,i64 (Sh.len p0.free)),(23,i64 t12)],[⟨0,27,2,[AS p0]⟩,⟨0,38,2,[[ls AI p1.cells,.mv (List.map (eM i64) p1.index)]]⟩,⟨0,64,1,[[.dv WU 0 (List.map (eM AV.bool) aP)]]⟩]⟩->fr s:=by
    intro aP hq s hw;subst cL;try dsimp only at h1
    refine Z2 _ (AH hw ?_);refine AG (by rfl) ?_;refine zm tb 2 U ?_;exact AE (xi (Sh.w (t12+1),aP) h1 (AD U))
   refine AN (Ae (σ:=Int×(List (Int×Bool))) (λn v=>Ar p0 p1 t12 n v.1 v.2=some cL) (λ(UR,WC)=>⟨95,AX [(2,ls eI p2),(3,.ptr 0 0 0 0),(4,.ptr 1 0 0 0),(7,.mp WU),(8,i64 t12),(9,i64 UR),(21,ls eI p0.free),(22,i64 (Sh.len p0.free)),(23,i64 t12)],[⟨0,27,2,[AS p0]⟩,⟨0,38,2,[[ls AI p1.cells,.mv (List.map (eM i64) p1.index)]]⟩,⟨0,64,1,[[.dv WU 0 (List.map (eM AV.bool) WC)]]⟩]⟩) N (VB,US) h2 (AD U) (λ_ hv=>by rw[Ar]at hv;cases hv) ?_);rintro n ⟨UR,WC⟩ h2;try dsimp only at h2⊢
   rw[Ar]at h2;refine AB λjb da=>?_;refine zr tb U U ?_;refine ci h2 U ?_ ?_<;>clear h2
   ·intro Wh h2;have jc:decide (UR=0)=false:=by simpa using Wh
    refine AJ (da _ ?_);refine AN ?_;refine zr tb U U ?_;refine sr U λjd db=>?_;refine zm tb 3 U ?_;refine Nr (ev:=i64) (z0:=0) true Ah O7 (λ_=>U) rfl U U ?_;refine zm tb 5 U ?_;refine dn db U ?_;refine AB λft YQ=>?_;refine AB λfu Z3=>?_;obtain⟨fv,h3,h2⟩:=Sh.bind_some h2;have cM:∀(t52:Bool),fv=t52->∀s,Wk 0 s ⟨95,AX [(2,ls eI p2),(3,.ptr 0 0 0 0),(4,.ptr 1 0 0 0),(7,.mp WU),(8,i64 t12),(10,i64 (Sh.w (UR-1))),(21,ls eI p0.free),(22,i64 (Sh.len p0.free)),(23,i64 t12),(65,.bool t52)],[⟨0,27,2,[AS p0]⟩,⟨0,38,2,[[ls AI p1.cells,.mv (List.map (eM i64) p1.index)]]⟩,⟨0,64,1,[[.dv WU 0 (List.map (eM AV.bool) WC)]]⟩]⟩->fu s:=by
     intro t52 hq s hw;subst fv;try dsimp only at h2
     refine Z3 _ (AH hw ?_);refine ci h2 U ?_ ?_<;>clear h2
     ·intro iF h2;refine zr tb U U ?_;replace h2:=Sh.AA h2;subst cL;try dsimp only[id]at h1
      replace h1:=Sh.AA h1;subst XO;try dsimp only[id]at h0
      replace h0:=Sh.AA h0;subst r;exact AM (xr (Ai [(6,.bool false)] U))
     ·intro iF h2;refine AJ (YQ _ ?_);refine sr U λfw YR=>?_;refine zm tb 2 U ?_;refine Oy (id:=2) (ev:=AV.bool) (st':=[⟨0,27,2,[AS p0]⟩,⟨0,38,2,[[ls AI p1.cells,.mv (List.map (eM i64) p1.index)]]⟩,⟨0,64,1,[[.dv WU 0 (List.map (eM AV.bool) (Sh.BW WC (Sh.w (UR-1)) true))]]⟩]) Ah OV (λ_=>U) rfl U U U U ?_;refine dn YR U ?_;refine AG (by rfl) ?_;refine zm tb 4 U ?_;obtain⟨Zo,gc57,h2⟩:=Sh.bind_some h2;refine zx Ak gc57 U U U ?_;refine zq tb U ?_;refine zz (i64 (Sh.w (Int.tdiv Zo 4))) (It U U (by decide)) rfl ?_;refine zq tb U ?_;exact AE (xi (Sh.w (Int.tdiv Zo 4),Sh.BW WC (Sh.w (UR-1)) true) h2 (AD U))
    refine AG (by rfl) ?_;refine zm tb 3 U ?_;rcases Sh.Ac h3 with ⟨Xn,h3⟩|⟨Xn,h3⟩
    ·refine zs Xn U ?_;iterate 6 refine zs Xn rfl ?_
     refine zt Xn U ?_;refine zq tb U ?_;iterate 9 refine zs rfl rfl ?_
     refine zt U U ?_;refine zq tb U ?_;iterate 3 refine zs rfl rfl ?_
     refine zt U U ?_;exact AE (cM true (Sh.AA h3).symm _ (AD U))
    ·refine zg tb Xn U ?_;iterate 2 refine zg tb Xn rfl ?_
     obtain⟨dK,gc59,h3⟩:=Sh.bind_some h3;refine BZ (v:=(.A6 (AI dK) 0)) (B8 U U Xn) rfl (B0 Ce U U gc59 U) ?_;iterate 3 refine zg tb Xn rfl ?_
     refine zf Xn U ?_;refine zq tb U ?_;rcases Sh.Ac h3 with ⟨b60,h3⟩|⟨b60,h3⟩
     ·refine zs b60 U ?_;iterate 8 refine zs b60 rfl ?_
      refine zt b60 U ?_;refine zq tb U ?_;iterate 3 refine zs rfl rfl ?_
      refine zt U U ?_;exact AE (cM true (Sh.AA h3).symm _ (AD U))
     ·refine zg tb b60 U ?_;iterate 3 refine zg tb b60 rfl ?_
      obtain⟨cA,gc61,h3⟩:=Sh.bind_some h3;refine BZ (v:=(.A6 (eI cA) 0)) (B8 U U b60) rfl (B0 Ak U U gc61 U) ?_;refine zg tb b60 U ?_;refine BZ (v:=(i64 (Int.tmod cA 4))) (B8 U U b60) rfl (LL U U (by decide)) ?_;iterate 2 refine zg tb b60 rfl ?_
      refine zf b60 U ?_;refine zq tb U ?_;rcases Sh.Ac h3 with ⟨b62,h3⟩|⟨b62,h3⟩
      ·refine zs b62 U ?_;iterate 2 refine zs b62 rfl ?_
       refine zt b62 U ?_;exact AE (cM true (Sh.AA h3).symm _ (AD U))
      ·refine zg tb b62 U ?_;refine zg tb b62 U ?_;refine Ng (id:=2) (ev:=AV.bool) (z0:=false) false (B8 U U b62) OV (λ_=>U) rfl U U U ?_;refine zf b62 U ?_;exact AE (cM ((Sh.BJ WC (Sh.w (UR-1))).getD false) (Sh.AA h3).symm _ (AD U))
   ·intro Wh h2;have je:decide (UR=0)=true:=by simpa using Wh
    exact Ag (iE WC (Sh.AA h2).symm _ (AD U))
  ·intro YP h1;exact Ag (Yf US (Sh.AA h1).symm _ (Ab (L:=[(2,ls eI p2),(3,.ptr 0 0 0 0),(7,.mp WU)]) (st':=[⟨0,27,2,[AS p0]⟩,⟨0,64,1,[[.dv WU 0 (List.map (eM AV.bool) US)]]⟩]) (st1:=[⟨0,27,2,[AS p0]⟩,⟨0,64,1,[[.dv WU 0 (List.map (eM AV.bool) US)]]⟩]) [0,2] U .nil (by decide) rfl U (.raw U U (.deep HO .nil)) ⟨.rfl,.rfl,.rfl,Rq⟩))
theorem Gh {p0:Int}{r:Bool}(h0:Di p0=some r):AY Try.prog 29 [i64 p0] [] (λv st=>v=(.bool r)/\st=[]):=by
 unfold Di at h0;refine ai Try.func29 U U U U ?_;refine zr tb U U ?_;refine AB λK2 UL=>?_;obtain⟨o4,h1,h0⟩:=Sh.bind_some h0;have M4:∀(t3:Bool),o4=t3->∀s,Wk 0 s ⟨9,AX [(2,.bool t3)],[]⟩->K2 s:=by
  intro t3 hq s hw;subst o4;try dsimp only at h0
  refine UL _ (AH hw ?_);replace h0:=Sh.AA h0;subst r;exact AM (xr (AR (L:=[(2,.bool t3)]) ⟨.rfl,Rq⟩))
 refine AG (by rfl) ?_;refine zm tb 3 U ?_;rcases Sh.Ac h1 with ⟨b5,h1⟩|⟨b5,h1⟩
 ·refine zg tb b5 U ?_;refine zg tb b5 U ?_;refine zt b5 U ?_;refine zq tb U ?_;exact AE (M4 (decide (p0<=999)) (Sh.AA h1).symm _ (AD U))
 ·refine zs b5 U ?_;refine zs b5 U ?_;refine zf b5 U ?_;refine zq tb U ?_;exact AE (M4 false (Sh.AA h1).symm _ (AD U))
theorem D1 {p0:Af}{p1:Int}{r:Int×Bool}(h0:BI p0 p1=some r):AY Try.prog 20 [.agg [ls AI p0.cells,.mv (List.map (eM i64) p0.index)],i64 p1] [] (λv st=>v=(.BK [i64 r.1,.bool r.2])/\st=[]):=by
 unfold BI at h0;refine ai Try.func20 U U U U ?_;refine sr U λK1 VU=>?_;refine Co (m:=0) Ah U U U U U ?_;refine zm tb 2 U ?_;refine dn VU U ?_;refine sr U λK2 UL=>?_;refine zm tb 4 U ?_;refine Nr (ev:=i64) (z0:=0) true Ah O7 (λ_=>U) rfl U U ?_;refine zm tb 5 U ?_;refine dn UL U ?_;refine AB λK3 Uu=>?_;refine AB λK4 W6=>?_;obtain⟨o6,h1,h0⟩:=Sh.bind_some h0;have M6:∀(t5:Bool),o6=t5->∀s,Wk 0 s ⟨32,AX [(6,i64 ((Sh.BJ p0.index (Sh.w (p1-1000))).getD 0)),(30,.bool t5)],[]⟩->K4 s:=by
  intro t5 hq s hw;subst o6;try dsimp only at h0
  refine W6 _ (AH hw ?_);refine ci h0 U ?_ ?_<;>clear h0
  ·intro b7 h0;refine zr tb U U ?_;replace h0:=Sh.AA h0;subst r;exact AM (xr (AR (L:=[(4,i64 0),(5,.bool false)]) ⟨.rfl,.rfl,Rq⟩))
  ·intro b7 h0;refine AJ (Uu _ ?_);refine zr tb U U ?_;replace h0:=Sh.AA h0;subst r;exact AM (xr (AR (L:=[(4,i64 ((Sh.BJ p0.index (Sh.w (p1-1000))).getD 0)),(5,.bool true)]) ⟨.rfl,.rfl,Rq⟩))
 refine AG (by rfl) ?_;refine zm tb 3 U ?_;rcases Sh.Ac h1 with ⟨Yx,h1⟩|⟨Yx,h1⟩
 ·refine zs Yx U ?_;refine zs Yx U ?_;refine zt Yx U ?_;refine zq tb U ?_;iterate 7 refine zs rfl rfl ?_
  refine zt U U ?_;exact AE (M6 true (Sh.AA h1).symm _ (Ai _ U))
 ·refine zg tb Yx U ?_;refine zg tb Yx U ?_;refine zf Yx U ?_;refine zq tb U ?_;rcases Sh.Ac h1 with ⟨XG,h1⟩|⟨XG,h1⟩
  ·refine zs XG U ?_;iterate 6 refine zs XG rfl ?_
   refine zt XG U ?_;exact AE (M6 true (Sh.AA h1).symm _ (Ai _ U))
  ·refine zg tb XG U ?_;iterate 2 refine zg tb XG rfl ?_
   obtain⟨W1,gc12,h1⟩:=Sh.bind_some h1;refine BZ (v:=(.A6 (AI W1) 0)) (B8 U U XG) rfl (B0 Ce U U gc12 U) ?_;iterate 3 refine zg tb XG rfl ?_
   refine zf XG U ?_;exact AE (M6 (decide (W1.count=0)) (Sh.AA h1).symm _ (Ai _ U))
theorem HF {N:Nat}{VJ:(List Cell)}{r:(List Cell)}(h0:Db N VJ=some r):AY Try.prog 42 [.ptr 0 0 0 0] [⟨0,66,1,[[ls AI VJ]]⟩] (λv st=>v=(.BK [])/\st=[⟨0,66,1,[[ls AI r]]⟩]):=by
 unfold Db at h0;refine ai Try.func42 U U U U ?_;refine sr U λK1 VU=>?_;refine zm tb 3 U ?_;refine zl tb U U ?_;refine zq tb U ?_;refine dn VU U ?_;refine AB λK2 UL=>?_;obtain⟨o5,h1,h0⟩:=Sh.bind_some h0;have M5:∀(n4:Int),o5=n4->∀s,Wk 1 s ⟨29,AX [(0,.ptr 0 0 0 0),(2,i64 n4)],[⟨0,66,1,[[ls AI VJ]]⟩]⟩->K2 s:=by
  intro n4 hq s hw;subst o5;try dsimp only at h0
  refine UL _ (AH hw ?_);refine AG (by rfl) ?_;refine zm tb 5 U ?_;obtain⟨l6,gl6,h0⟩:=Sh.bind_some h0;refine Iv (i:=0) (j:=n4) Ah QC U U U (λ_=>U) gl6 ?_;refine zq tb U ?_;refine Bs Ah QD U U U U U U UC rfl ?_;replace h0:=Sh.AA h0;subst r;exact AE (xr (AR (L:=[]) Rq))
 refine AN (Ae (σ:=Int) (λn v=>BT VJ n v=some o5) (λn3=>⟨29,AX [(0,.ptr 0 0 0 0),(2,i64 n3)],[⟨0,66,1,[[ls AI VJ]]⟩]⟩) N (Sh.len VJ) h1 (AD U) (λ_ hv=>by rw[BT]at hv;cases hv) ?_);rintro n n3 h1;try dsimp only at h1⊢
 rw[BT]at h1;refine AB λK7 Xh=>?_;refine AB λK8 Vd=>?_;obtain⟨fx,h2,h1⟩:=Sh.bind_some h1;have fy:∀(t9:Bool),fx=t9->∀s,Wk 1 s ⟨29,AX [(0,.ptr 0 0 0 0),(2,i64 n3),(19,.bool t9)],[⟨0,66,1,[[ls AI VJ]]⟩]⟩->K8 s:=by
  intro t9 hq s hw;subst fx;try dsimp only at h1
  refine Vd _ (AH hw ?_);refine ci h1 U ?_ ?_<;>clear h1
  ·intro XG h1;refine AJ (Xh _ ?_);refine AN ?_;refine AG (by rfl) ?_;refine zm tb 3 U ?_;exact AE (xi (Sh.w (n3-1)) h1 (AD U))
  ·intro XG h1;exact Ag (M5 n3 (Sh.AA h1).symm _ (AD U))
 refine AG (by rfl) ?_;refine zm tb 3 U ?_;rcases Sh.Ac h2 with ⟨Vi,h2⟩|⟨Vi,h2⟩
 ·refine zg tb Vi U ?_;iterate 4 refine zg tb Vi rfl ?_
  obtain⟨Zu,gc13,h2⟩:=Sh.bind_some h2;refine BZ (v:=(.A6 (AI Zu) 0)) (B8 U U Vi) rfl (B0 QC U U gc13 U) ?_;iterate 3 refine zg tb Vi rfl ?_
  refine zt Vi U ?_;exact AE (fy (decide (Zu.count=0)) (Sh.AA h2).symm _ (AD U))
 ·refine zs Vi U ?_;iterate 8 refine zs Vi rfl ?_
  refine zf Vi U ?_;exact AE (fy false (Sh.AA h2).symm _ (AD U))
theorem EK {N:Nat}{p0:Af}{r:(List Cell)}(h0:BR N p0=some r):AY Try.prog 31 [.agg [ls AI p0.cells,.mv (List.map (eM i64) p0.index)]] [] (λv st=>v=(ls AI r)/\st=[]):=by
 unfold BR at h0;refine ai Try.func31 U U U U ?_;refine sr U λK1 VU=>?_;refine Co (m:=0) Ah U U U U U ?_;refine zq tb U ?_;refine dn VU U ?_;refine sr U λK2 UL=>?_;refine zm tb 2 U ?_;refine Cf (m:=1) Ah RK U U ?_;refine Bs Ah QD U U U U U U UC rfl ?_;refine dn UL U ?_;refine sr U λK3 Uu=>?_;obtain⟨q4,gq4,h0⟩:=Sh.bind_some h0;refine OK (rowsP:=[⟨0,66,1,[[ls AI p0.cells]]⟩]) (rows0:=[⟨0,66,1,[[ls AI p0.cells]]⟩]) (rows1:=[⟨0,66,1,[[ls AI q4]]⟩]) (rows2:=[]) (rows1':=[⟨0,66,1,[[ls AI q4]]⟩]) (rows2':=[]) (st':=[⟨0,38,2,[[ls AI p0.cells,.mv (List.map (eM i64) p0.index)]]⟩,⟨0,66,1,[[ls AI q4]]⟩]) (v':=(.BK [])) [1] Ah Qr (HF gq4) rfl (by decide) rfl U (.raw U U .nil) rfl U (.raw U U .nil) .nil U U ?_;refine dn Uu U ?_;refine zr tb U U ?_;replace h0:=Sh.AA h0;subst r;exact AM (xr (Ai [(2,ls AI q4)] U))
theorem EV {p0:(List Cell)}{p1:Int}{r:Int×Bool}(h0:Cp p0 p1=some r):AY Try.prog 50 [ls AI p0,i64 p1] [] (λv st=>v=(.BK [i64 r.1,.bool r.2])/\st=[]):=by
 unfold Cp at h0;refine ai Try.func50 U U U U ?_;iterate 2 refine zr tb rfl rfl ?_
 refine AB λK3 Uu=>?_;obtain⟨o5,h1,h0⟩:=Sh.bind_some h0;have M5:∀(t4:Bool),o5=t4->∀s,Wk 0 s ⟨26,AX [(4,i64 (Sh.w (p1-1000))),(5,.bool t4)],[]⟩->K3 s:=by
  intro t4 hq s hw;subst o5;try dsimp only at h0
  refine Uu _ (AH hw ?_);replace h0:=Sh.AA h0;subst r;exact AM (xr (AR (L:=[(4,i64 (Sh.w (p1-1000))),(5,.bool t4)]) ⟨.rfl,.rfl,Rq⟩))
 refine D5 (by kernel_rfl) (by kernel_rfl) (by rfl) ?_;iterate 4 refine yq tb rfl ?_
 rcases Sh.Ac h1 with ⟨b6,h1⟩|⟨b6,h1⟩
 ·refine yg tb b6 U ?_;refine yg tb b6 U ?_;refine G8 (v:=(i64 (Sh.len p0))) (B8 U U b6) rfl (DV Lt U) ?_;refine yg tb b6 U ?_;refine yt b6 U ?_;refine yq tb U ?_;rcases Sh.Ac h1 with ⟨b7,h1⟩|⟨b7,h1⟩
  ·refine yg tb b7 U ?_;refine yg tb b7 U ?_;obtain⟨c8,gc8,h1⟩:=Sh.bind_some h1;refine G8 (v:=(.A6 (AI c8) 0)) (B8 U U b7) rfl (B0 Ce U U gc8 U) ?_;iterate 3 refine yg tb b7 rfl ?_
   refine yt b7 U ?_;iterate 2 refine yq tb rfl ?_
   exact C5 (M5 (decide (0<c8.count)) (Sh.AA h1).symm _ (AD U))
  ·refine ys b7 U ?_;iterate 5 refine ys b7 rfl ?_
   refine yf b7 U ?_;iterate 2 refine yq tb rfl ?_
   exact C5 (M5 false (Sh.AA h1).symm _ (AD U))
 ·refine ys b6 U ?_;iterate 3 refine ys b6 rfl ?_
  refine yf b6 U ?_;refine yq tb U ?_;iterate 6 refine ys rfl rfl ?_
  refine yf U U ?_;iterate 2 refine yq tb rfl ?_
  exact C5 (M5 false (Sh.AA h1).symm _ (AD U))
theorem HY {p0:(List Cell)}{p1:Int}{r:Bool}(h0:Cv p0 p1=some r):AY Try.prog 51 [ls AI p0,i64 p1] [] (λv st=>v=(.bool r)/\st=[]):=by
 unfold Cv at h0;refine ai Try.func51 U U U U ?_;refine zr tb U U ?_;refine sr U λK2 UL=>?_;refine zm tb 2 U ?_;obtain⟨q3,gq3,h0⟩:=Sh.bind_some h0;refine zc (v':=(.BK [i64 q3.1,.bool q3.2])) PC (EV gq3) rfl U U ?_;refine zm tb 5 U ?_;refine dn UL U ?_;refine AB λK4 W6=>?_;obtain⟨o6,h1,h0⟩:=Sh.bind_some h0;have M6:∀(t5:Bool),o6=t5->∀s,Wk 0 s ⟨18,AX [(4,.bool t5)],[]⟩->K4 s:=by
  intro t5 hq s hw;subst o6;try dsimp only at h0
  refine W6 _ (AH hw ?_);replace h0:=Sh.AA h0;subst r;exact AM (xr (AR (L:=[(4,.bool t5)]) ⟨.rfl,Rq⟩))
 refine AG (by rfl) ?_;refine zm tb 2 U ?_;rcases Sh.Ac h1 with ⟨b7,h1⟩|⟨b7,h1⟩
 ·refine zs b7 U ?_;refine zs b7 U ?_;refine zt b7 U ?_;refine zq tb U ?_;exact AE (M6 true (Sh.AA h1).symm _ (AD U))
 ·refine zg tb b7 U ?_;obtain⟨q8,gq8,h1⟩:=Sh.bind_some h1;refine zd b7 QB (Gh gq8) rfl U U U ?_;refine zf b7 U ?_;refine zq tb U ?_;exact AE (M6 q8 (Sh.AA h1).symm _ (AD U))
theorem HW {N:Nat}{p0:(List Cell)}{p1:Cell}{r:Bool}(h0:Cz N p0 p1=some r):AY Try.prog 49 [ls AI p0,.agg (AI p1)] [] (λv st=>v=(.bool r)/\st=[]):=by
 unfold Cz at h0;refine ai Try.func49 U U U U ?_;refine sr U λK1 VU=>?_;refine Co (m:=0) Ah U U U U U ?_;refine zq tb U ?_;refine dn VU U ?_;refine AB λK2 UL=>?_;refine AB λK3 Uu=>?_;obtain⟨o5,h1,h0⟩:=Sh.bind_some h0;have M5:∀(t4:Bool),o5=t4->∀s,Wk 0 s ⟨66,AX [(0,ls AI p0),(3,.ptr 0 0 0 0),(25,.bool t4)],[⟨0,54,3,[AI p1]⟩]⟩->K3 s:=by
  intro t4 hq s hw;subst o5;try dsimp only at h0
  refine Uu _ (AH hw ?_);refine ci h0 U ?_ ?_<;>clear h0
  ·intro b6 h0;refine zr tb U U ?_;replace h0:=Sh.AA h0;subst r;exact AM (xr (Ai [(4,.bool false)] U))
  ·intro b6 h0;refine AJ (UL _ ?_);refine AB λK8 Vd=>?_;refine AB λK9 YJ=>?_;obtain⟨Wj,h1,h0⟩:=Sh.bind_some h0;have YL:∀(t10:Bool),Wj=t10->∀s,Wk 0 s ⟨66,AX [(0,ls AI p0),(3,.ptr 0 0 0 0),(44,.bool t10)],[⟨0,54,3,[AI p1]⟩]⟩->K9 s:=by
    intro t10 hq s hw;subst Wj;try dsimp only at h0
    refine YJ _ (AH hw ?_);refine ci h0 U ?_ ?_<;>clear h0
    ·intro Vi h0;refine zr tb U U ?_;replace h0:=Sh.AA h0;subst r;exact AM (xr (Ai [(4,.bool false)] U))
    ·intro Vi h0;refine AJ (Vd _ ?_);refine AB λXx U6=>?_;refine sr U λiG Z4=>?_;refine zm tb 2 U ?_;refine zl tb U U ?_;refine zq tb U ?_;refine dn Z4 U ?_;obtain⟨Y1,h1,h0⟩:=Sh.An h0;have dX:∀(_:Unit),Y1=Sum.inr ()->∀s,Wk 0 s ⟨66,AX [],[]⟩->Xx s:=by
      intro _ hq s hw;subst Y1;try dsimp only at h0
      refine U6 _ (AH hw ?_);refine zr tb U U ?_;replace h0:=Sh.AA h0;subst r;exact AM (xr (AR (L:=[(4,.bool true)]) ⟨.rfl,Rq⟩))
     refine AN (Ae (σ:=Int) (λn v=>BD p0 p1 n v=some Y1) (λt16=>⟨66,AX [(0,ls AI p0),(3,.ptr 0 0 0 0),(46,ls eI p1.fields),(47,i64 (Sh.len p1.fields)),(48,i64 t16)],[⟨0,54,3,[AI p1]⟩]⟩) N 0 h1 (AD U) (λ_ hv=>by rw[BD]at hv;cases hv) ?_);rintro n t16 h1;try dsimp only at h1⊢
     rw[BD]at h1;refine zr tb U U ?_;refine AB λaS Vs=>?_;refine ci h1 U ?_ ?_<;>clear h1
     ·intro dc h1;refine AJ (Vs _ ?_);refine AB λcJ XC=>?_;refine AN ?_;refine sr U λdY XF=>?_;obtain⟨bE,gc24,h1⟩:=Sh.bind_some h1;refine zx Ak gc24 U U U ?_;refine zm tb 2 U ?_;refine dn XF U ?_;refine AB λcG W9=>?_;obtain⟨Z5,h2,h1⟩:=Sh.bind_some h1;have bR:∀(t26:Bool),Z5=t26->∀s,Wk 0 s ⟨66,AX [(0,ls AI p0),(3,.ptr 0 0 0 0),(46,ls eI p1.fields),(47,i64 (Sh.len p1.fields)),(48,i64 t16),(64,.bool t26)],[⟨0,54,3,[AI p1]⟩]⟩->cG s:=by
       intro t26 hq s hw;subst Z5;try dsimp only at h1
       refine W9 _ (AH hw ?_);refine ci h1 U ?_ ?_<;>clear h1
       ·intro dV h1;refine zr tb U U ?_;replace h1:=Sh.AA h1;subst Y1;try dsimp only[id]at h0
        replace h0:=Sh.AA h0;subst r;exact AM (xr (Ai [(4,.bool false)] U))
       ·intro dV h1;refine AJ (XC _ ?_);refine AG (by rfl) ?_;refine zm tb 2 U ?_;exact AE (xi (Sh.w (t16+1)) h1 (AD U))
      refine AG (by rfl) ?_;refine zm tb 2 U ?_;obtain⟨WL,gq30,h2⟩:=Sh.bind_some h2;refine zc RF (HY gq30) rfl U U ?_;refine zm tb 2 U ?_;rcases Sh.Ac h2 with ⟨WQ,h2⟩|⟨WQ,h2⟩
      ·refine zs WQ U ?_;iterate 3 refine zs WQ rfl ?_
       iterate 2 refine zn rfl ?_
       refine zs WQ U ?_;refine zt WQ U ?_;exact AE (bR true (Sh.AA h2).symm _ (AD U))
      ·refine zg tb WQ U ?_;iterate 3 refine zg tb WQ rfl ?_
       rcases Sh.Ac h2 with ⟨Yz,h2⟩|⟨Yz,h2⟩
       ·refine zg tb Yz U ?_;refine zg tb Yz U ?_;refine BZ (v:=(.bool (!decide (bE=0)))) (B8 U U WQ) rfl (E6 U Yz U) ?_;refine zf WQ U ?_;exact AE (bR (!decide (bE=0)) (Sh.AA h2).symm _ (AD U))
       ·refine zs Yz U ?_;refine zs Yz U ?_;refine BZ (v:=(.bool false)) (B8 U U WQ) rfl (E2 U Yz U) ?_;refine zf WQ U ?_;exact AE (bR false (Sh.AA h2).symm _ (AD U))
     ·intro dc h1;exact Ag (dX () (Sh.AA h1).symm _ (Ai _ U))
   refine AG (by rfl) ?_;refine zm tb 4 U ?_;rcases Sh.Ac h1 with ⟨WR,h1⟩|⟨WR,h1⟩
   ·refine zg tb WR U ?_;iterate 2 refine zg tb WR rfl ?_
    refine zt WR U ?_;refine zq tb U ?_;rcases Sh.Ac h1 with ⟨Wg,h1⟩|⟨Wg,h1⟩
    ·refine zs Wg U ?_;iterate 3 refine zs Wg rfl ?_
     iterate 4 refine zn rfl ?_
     refine zs Wg U ?_;refine zt Wg U ?_;exact AE (YL true (Sh.AA h1).symm _ (AD U))
    ·refine zg tb Wg U ?_;iterate 3 refine zg tb Wg rfl ?_
     rcases Sh.Ac h1 with ⟨U7,h1⟩|⟨U7,h1⟩
     ·refine zg tb U7 U ?_;refine zg tb U7 U ?_;refine BZ (v:=(i64 (Sh.len p1.fields))) (B8 U U U7) rfl (DV Fy U) ?_;refine zg tb U7 U ?_;refine BZ (v:=(.bool (decide (0<(Sh.len p1.fields))))) (B8 U U Wg) rfl (E6 U U7 U) ?_;refine zf Wg U ?_;exact AE (YL (decide (0<(Sh.len p1.fields))) (Sh.AA h1).symm _ (AD U))
     ·refine zs U7 U ?_;iterate 3 refine zs U7 rfl ?_
      refine BZ (v:=(.bool false)) (B8 U U Wg) rfl (E2 U U7 U) ?_;refine zf Wg U ?_;exact AE (YL false (Sh.AA h1).symm _ (AD U))
   ·refine zs WR U ?_;iterate 2 refine zs WR rfl ?_
    refine zf WR U ?_;refine zq tb U ?_;iterate 4 refine zg tb rfl rfl ?_
    rcases Sh.Ac h1 with ⟨YP,h1⟩|⟨YP,h1⟩
    ·refine zg tb YP U ?_;refine zg tb YP U ?_;refine BZ (v:=(i64 (Sh.len p1.fields))) (B8 U U YP) rfl (DV Fy U) ?_;refine zg tb YP U ?_;refine BZ (v:=(.bool (decide (0<(Sh.len p1.fields))))) (B8 U U U) rfl (E6 U YP U) ?_;refine zf U U ?_;exact AE (YL (decide (0<(Sh.len p1.fields))) (Sh.AA h1).symm _ (AD U))
    ·refine zs YP U ?_;iterate 3 refine zs YP rfl ?_
     refine BZ (v:=(.bool false)) (B8 U U U) rfl (E2 U YP U) ?_;refine zf U U ?_;exact AE (YL false (Sh.AA h1).symm _ (AD U))
 refine AG (by rfl) ?_;refine zm tb 4 U ?_;rcases Sh.Ac h1 with ⟨Y0,h1⟩|⟨Y0,h1⟩
 ·refine zs Y0 U ?_;iterate 2 refine zs Y0 rfl ?_
  refine zt Y0 U ?_;refine zq tb U ?_;iterate 3 refine zs rfl rfl ?_
  refine zt U U ?_;refine zq tb U ?_;iterate 4 refine zs rfl rfl ?_
  refine zt U U ?_;exact AE (M5 true (Sh.AA h1).symm _ (AD U))
 ·refine zg tb Y0 U ?_;iterate 2 refine zg tb Y0 rfl ?_
  refine zf Y0 U ?_;refine zq tb U ?_;rcases Sh.Ac h1 with ⟨b38,h1⟩|⟨b38,h1⟩
  ·refine zs b38 U ?_;iterate 2 refine zs b38 rfl ?_
   refine zt b38 U ?_;refine zq tb U ?_;iterate 4 refine zs rfl rfl ?_
   refine zt U U ?_;exact AE (M5 true (Sh.AA h1).symm _ (AD U))
  ·refine zg tb b38 U ?_;iterate 2 refine zg tb b38 rfl ?_
   refine zf b38 U ?_;refine zq tb U ?_;rcases Sh.Ac h1 with ⟨Xm,h1⟩|⟨Xm,h1⟩
   ·refine zs Xm U ?_;iterate 3 refine zs Xm rfl ?_
    refine zt Xm U ?_;exact AE (M5 true (Sh.AA h1).symm _ (AD U))
   ·refine zg tb Xm U ?_;refine zg tb Xm U ?_;refine BZ (v:=(i64 (Sh.len p1.fields))) (B8 U U Xm) rfl (DV Fy U) ?_;refine zg tb Xm U ?_;refine zf Xm U ?_;exact AE (M5 (decide (3<(Sh.len p1.fields))) (Sh.AA h1).symm _ (AD U))
theorem Gb {N:Nat}{p0:(List Cell)}{r:(List Int)×Bool}(h0:B5 N p0=some r):AY Try.prog 41 [ls AI p0] [] (λv st=>v=(.BK [ow 0 0 r.1,.bool r.2])/\st=[ro 0 3 1 eI r.1]):=by
 unfold B5 at h0;refine ai Try.func41 U U U U ?_;refine zr tb U U ?_;refine sr U λK2 UL=>?_;refine zq tb U ?_;refine zl tb U U ?_;obtain⟨l3,gl3,h0⟩:=Sh.bind_some h0;refine Hr (m:=0) (enc:=eI) (u:=0) Ah Ak U U U gl3 U U ?_;refine zq tb U ?_;refine dn UL U ?_;refine AB λK4 W6=>?_;refine sr U λK5 Xg=>?_;refine zq tb U ?_;refine zl tb U U ?_;refine zq tb U ?_;refine dn Xg U ?_;obtain⟨o9,h1,h0⟩:=Sh.An h0;have M9:∀(l8:(List Int)),o9=Sum.inr l8->∀s,Wk 0 s ⟨159,AX [(0,ls AI p0),(4,ow 0 0 l8)],[ro 0 3 1 eI l8]⟩->K4 s:=by
  intro l8 hq s hw;subst o9;try dsimp only at h0
  refine W6 _ (AH hw ?_);refine AB λW7 Uc=>?_;refine AB λXM Uk=>?_;obtain⟨ZN,h1,h0⟩:=Sh.bind_some h0;have Yg:∀(t12:Bool),ZN=t12->∀s,Wk 0 s ⟨159,AX [(0,ls AI p0),(4,ow 0 0 l8),(68,.bool t12)],[ro 0 3 1 eI l8]⟩->XM s:=by
   intro t12 hq s hw;subst ZN;try dsimp only at h0
   refine Uk _ (AH hw ?_);refine ci h0 U ?_ ?_<;>clear h0
   ·intro Vr h0;refine zr tb U U ?_;replace h0:=Sh.AA h0;subst r;exact AM (Exists.intro _ (And.intro ((((Cl (t:=2) rfl 3 (size:=1) (by decide)).trans (AR (L:=[(2,.own 1 0 (List.length ([]:List Int))),(3,.bool false)]) ⟨.rfl,.rfl,Rq⟩)).trans (Ab (L:=[(2,.own 0 0 (List.length ([]:List Int))),(3,.bool false)]) (st':=[ro 0 3 1 eI ([]:List Int)]) (st1:=[ro 0 3 1 eI ([]:List Int)]) [1] U .nil (by decide) rfl U (.pure (AK λ_=>U) .nil) ⟨.rfl,.rfl,Rq⟩)).trans (AR (L:=[(2,.own 0 0 (List.length ([]:List Int))),(3,.bool false)]) ⟨.rfl,.rfl,Rq⟩)) (And.intro U U)))
   ·intro Vr h0;refine AJ (Uc _ ?_);refine sr U λZM VX=>?_;refine zq tb U ?_;obtain⟨Ux,gq17,h0⟩:=Sh.bind_some h0;refine Gr (v':=(ow 1 0 Ux)) Ah QE (DX gq17) rfl (.own U U (λ_=>U) .nil) rfl (Qy (λ_=>U) Rq) rfl U ?_;refine zq tb U ?_;refine dn VX U ?_;iterate 2 refine zr tb rfl rfl ?_
    refine AB λaS Vs=>?_;refine sr U λdS XE=>?_;refine zq tb U ?_;refine zl tb U U ?_;refine zq tb U ?_;refine dn XE U ?_;obtain⟨ZP,h1,h0⟩:=Sh.An h0;have dT:∀(Wo:(List Int)),ZP=Sum.inr Wo->∀s,Wk 0 s ⟨159,AX [(0,ls AI p0),(4,ow 0 0 l8),(11,ow 1 0 Ux),(12,ow 2 0 Wo),(13,i64 0)],[ro 0 3 1 eI l8,ro 0 3 1 eI Ux,ro 0 3 1 eI Wo]⟩->aS s:=by
     intro Wo hq s hw;subst ZP;try dsimp only at h0
     refine Vs _ (AH hw ?_);refine AB λdU YM=>?_;obtain⟨dd,h1,h0⟩:=Sh.bind_some h0;have iH:∀(Ub:Int),dd=Ub->∀s,Wk 0 s ⟨159,AX [(0,ls AI p0),(4,ow 0 0 l8),(13,i64 Ub)],[ro 0 3 1 eI l8]⟩->dU s:=by
      intro Ub hq s hw;subst dd;try dsimp only at h0
      refine YM _ (AH hw ?_);refine sr U λdN XA=>?_;refine zm tb 3 U ?_;refine zl tb U U ?_;refine zm tb 3 U ?_;refine dn XA U ?_;replace h0:=Sh.AA h0;subst r;exact AM (xr (AR (L:=[(2,ow 0 0 l8),(3,.bool (decide (Ub=(Sh.len p0))))]) ⟨.rfl,.rfl,Rq⟩))
     refine AN (Ae (σ:=Int×(List Int)×(List Int)) (λn v=>Ay N p0 n v.1 v.2.1 v.2.2=some dd) (λ(UP,WB,l29)=>⟨159,AX [(0,ls AI p0),(4,ow 0 0 l8),(11,ow 1 0 WB),(12,ow 2 0 l29),(13,i64 UP)],[ro 0 3 1 eI l8,ro 0 3 1 eI WB,ro 0 3 1 eI l29]⟩) N (0,Ux,Wo) h1 (AD U) (λ_ hv=>by rw[Ay]at hv;cases hv) ?_);rintro n ⟨UP,WB,l29⟩ h1;try dsimp only at h1⊢
     rw[Ay]at h1;refine AB λiC Z0=>?_;refine sr U λcK YN=>?_;refine zq tb U ?_;refine zz (i64 (Sh.len l29)) (Ef Fy U U U) rfl ?_;refine zq tb U ?_;refine dn YN U ?_;refine ci h1 U ?_ ?_<;>clear h1
     ·intro U7 h1;refine AJ (Z0 _ ?_);refine AB λcI XB=>?_;refine AN ?_;refine sr U λfr Z2=>?_;refine zm tb 3 U ?_;refine zz (i64 (Sh.len l29)) (Ef Fy U U U) rfl ?_;refine zq tb U ?_;obtain⟨dE,gc38,h1⟩:=Sh.bind_some h1;refine zz (.ptr 2 0 (Int.toNat (Sh.w ((Sh.len l29)-1))) 0) (CT Ak U U U U gc38) rfl ?_;refine zz (i64 dE) (DN HB U U (CN gc38) rfl) rfl ?_;obtain⟨VB,gc39,h1⟩:=Sh.bind_some h1;refine zx Ce gc39 U U U ?_;refine zq tb U ?_;refine Cf (m:=3) Ah I3 U U ?_;refine Bs Ah Nq U U U U U U UE rfl ?_;refine dn Z2 U ?_;refine sr U λfZ Zx=>?_;refine zm tb 2 U ?_;refine zz (i64 (Sh.len l29)) (Ef Fy U U U) rfl ?_;refine zq tb U ?_;obtain⟨WC,gl41,h1⟩:=Sh.bind_some h1;refine Ph Ah Ak U U U U gl41 U ?_;refine zq tb U ?_;refine dn Zx U ?_;refine sr U λjf de=>?_;refine zm tb 2 U ?_;refine zl tb U U ?_;refine zq tb U ?_;refine dn de U ?_;obtain⟨df,h2,h1⟩:=Sh.bind_some h1;have iI:∀(Wp:(List Int)) (Zr:(List Int)),df=(Wp,Zr)->∀s,Wk 0 s ⟨159,AX [(0,ls AI p0),(4,ow 0 0 l8),(11,ow 1 0 Wp),(12,ow 2 0 Zr),(13,i64 UP)],[ro 0 3 1 eI l8,ro 0 3 1 eI Wp,ro 0 3 1 eI Zr]⟩->cI s:=by
       intro Wp Zr hq s hw;subst df;try dsimp only at h1
       refine XB _ (AH hw ?_);refine AG (by rfl) ?_;refine zm tb 3 U ?_;exact AE (xi (Sh.w (UP+1),Wp,Zr) h1 (AD U))
      refine AN (Ae (σ:=Int×(List Int)×(List Int)) (λn v=>Ax VB p0 n v.1 v.2.1 v.2.2=some df) (λ(t43,l44,V5)=>⟨159,AX [(0,ls AI p0),(4,ow 0 0 l8),(11,ow 1 0 l44),(12,ow 2 0 V5),(13,i64 UP),(125,ls eI VB.fields),(126,i64 (Sh.len VB.fields)),(127,i64 t43)],[ro 0 3 1 eI l8,ro 0 3 1 eI l44,ro 0 3 1 eI V5]⟩) N (0,WB,WC) h2 (by refine Wk.trans (Cc (L:=[(0,ls AI p0),(4,ow 0 0 l8),(11,ow 1 0 WB),(12,ow 2 0 WC),(13,i64 UP),(125,ls eI VB.fields),(126,i64 (Sh.len VB.fields)),(127,i64 0)]) (st':=[ro 0 3 1 eI l8,ro 0 3 1 eI WB,ro 0 3 1 eI WC,⟨0,54,3,[AI VB]⟩]) (.pure (AK λ_=>U) (.pure (AK λ_=>U) (.pure (AK λ_=>U) (.raw U U .nil)))) ⟨.rfl,.rfl,.rfl,.rfl,.rfl,.rfl,.rfl,.rfl,Rq⟩) ?_;exact Ab (L:=[(0,ls AI p0),(4,ow 0 0 l8),(11,ow 1 0 WB),(12,ow 2 0 WC),(13,i64 UP),(125,ls eI VB.fields),(126,i64 (Sh.len VB.fields)),(127,i64 0)]) (st':=[ro 0 3 1 eI l8,ro 0 3 1 eI WB,ro 0 3 1 eI WC]) (st1:=[ro 0 3 1 eI l8,ro 0 3 1 eI WB,ro 0 3 1 eI WC]) [0,1,2] U .nil (by decide) rfl U (.pure (AK λ_=>U) (.pure (AK λ_=>U) (.pure (AK λ_=>U) .nil))) ⟨.rfl,.rfl,.rfl,.rfl,.rfl,.rfl,.rfl,.rfl,Rq⟩) (λ_ hv=>by rw[Ax]at hv;cases hv) ?_);rintro n ⟨t43,l44,V5⟩ h2;try dsimp only at h2⊢
      rw[Ax]at h2;refine zr tb U U ?_;refine AB λft YQ=>?_;refine ci h2 U ?_ ?_<;>clear h2
      ·intro iJ h2;refine AJ (YQ _ ?_);refine AB λiK dg=>?_;obtain⟨gA,h3,h2⟩:=Sh.bind_some h2;have dh:∀(Zp:(List Int)) (Zq:(List Int)),gA=(Zp,Zq)->∀s,Wk 0 s ⟨159,AX [(0,ls AI p0),(4,ow 0 0 l8),(11,ow 1 0 Zp),(12,ow 2 0 Zq),(13,i64 UP),(125,ls eI VB.fields),(126,i64 (Sh.len VB.fields)),(127,i64 t43)],[ro 0 3 1 eI l8,ro 0 3 1 eI Zp,ro 0 3 1 eI Zq]⟩->iK s:=by
        intro Zp Zq hq s hw;subst gA;try dsimp only at h2
        refine dg _ (AH hw ?_);refine AG (by rfl) ?_;refine zm tb 2 U ?_;exact AE (xi (Sh.w (t43+1),Zp,Zq) h2 (AD U))
       refine AN ?_;refine sr U λfw YR=>?_;obtain⟨Zo,gc57,h3⟩:=Sh.bind_some h3;refine zx Ak gc57 U U U ?_;refine zm tb 2 U ?_;refine dn YR U ?_;refine sr U λjg di=>?_;refine zm tb 2 U ?_;obtain⟨Vq,gq59,h3⟩:=Sh.bind_some h3;refine zc (v':=(.BK [i64 Vq.1,.bool Vq.2])) PC (EV gq59) rfl U U ?_;refine zm tb 5 U ?_;refine dn di U ?_;refine zr tb U U ?_;refine ci h3 U ?_ ?_<;>clear h3
       ·intro gB h3;refine sr U λiL Z6=>?_;refine zm tb 2 U ?_;obtain⟨Xb,gc63,h3⟩:=Sh.bind_some h3;refine zz (.ptr 1 0 (Int.toNat Vq.1) 0) (CT Ak U U U U gc63) rfl ?_;refine zz (i64 Xb) (DN HB U U (CN gc63) rfl) rfl ?_;refine zq tb U ?_;refine zz (.ptr 1 0 (Int.toNat Vq.1) 0) (CT Ak U U U U gc63) rfl ?_;refine Gp (u':=Sh.w (Xb-1)) Ah HB U U gc63 U U U UC rfl U ?_;refine dn Z6 U ?_;refine sr U λjh dj=>?_;refine zm tb 2 U ?_;obtain⟨dD,gc65,h3⟩:=Sh.bind_some h3;refine zz (.ptr 1 0 (Int.toNat Vq.1) 0) (CT Ak U U U (by simp only[Sh.DC]) gc65) rfl ?_;refine zz (i64 dD) (DN HB U U (CN gc65) rfl) rfl ?_;refine zq tb U ?_;refine dn dj U ?_;refine ci h3 U ?_ ?_<;>clear h3
        ·intro iM h3;refine AG (by rfl) ?_;refine zm tb 2 U ?_;refine DS (m:=3) (l:=[Vq.1]) (enc:=eI) Ah Ak (by decide) rfl U U U U U ?_;obtain⟨Yu,gl67,h3⟩:=Sh.bind_some h3;refine EA (l2:=[Vq.1]) Ah Ak U U U U (Ic U U) (λ_=>U) gl67 U ?_;refine zq tb U ?_;exact AE (dh (Sh.put l44 Vq.1 (Sh.w (Xb-1))) Yu (Sh.AA h3).symm _ (by refine Wk.trans (Cc (L:=[(0,.sl (List.map AI p0)),(4,.own 0 0 (List.length l8)),(11,.own 1 0 (List.length l44)),(12,.own 2 0 (List.length Yu)),(13,i64 UP),(125,.sl (List.map eI VB.fields)),(126,i64 (Sh.len VB.fields)),(127,i64 t43)]) (st':=[⟨0,3,1,List.map eI l8⟩,⟨0,3,1,List.map eI (Sh.put l44 Vq.1 (Sh.w (Xb-1)))⟩,⟨0,3,1,List.map eI Yu⟩,⟨0,3,1,List.map eI [Vq.1]⟩]) (.pure (AK λ_=>U) (.pure (AK λ_=>U) (.pure (AK λ_=>U) (.pure (AK λ_=>U) .nil)))) ⟨.rfl,.rfl,.rfl,.rfl,.rfl,.rfl,.rfl,.rfl,Rq⟩) ?_;refine Wk.trans (Ab (L:=[(0,.sl (List.map AI p0)),(4,.own 0 0 (List.length l8)),(11,.own 1 0 (List.length l44)),(12,.own 2 0 (List.length Yu)),(13,i64 UP),(125,.sl (List.map eI VB.fields)),(126,i64 (Sh.len VB.fields)),(127,i64 t43)]) (st':=[⟨0,3,1,List.map eI l8⟩,⟨0,3,1,List.map eI (Sh.put l44 Vq.1 (Sh.w (Xb-1)))⟩,⟨0,3,1,List.map eI Yu⟩]) (st1:=[⟨0,3,1,List.map eI l8⟩,⟨0,3,1,List.map eI (Sh.put l44 Vq.1 (Sh.w (Xb-1)))⟩,⟨0,3,1,List.map eI Yu⟩]) [0,1,2] U .nil (by decide) rfl U (.pure (AK λ_=>U) (.pure (AK λ_=>U) (.pure (AK λ_=>U) .nil))) ⟨.rfl,.rfl,.rfl,.rfl,.rfl,.rfl,.rfl,.rfl,Rq⟩) ?_;exact AR (L:=[(0,.sl (List.map AI p0)),(4,.own 0 0 (List.length l8)),(11,.own 1 0 (List.length (Sh.put l44 Vq.1 (Sh.w (Xb-1))))),(12,.own 2 0 (List.length Yu)),(13,i64 UP),(125,.sl (List.map eI VB.fields)),(126,i64 (Sh.len VB.fields)),(127,i64 t43)]) ⟨.rfl,.rfl,(.len (by simp only[Sh.DC])),.rfl,.rfl,.rfl,.rfl,.rfl,Rq⟩))
        ·intro iM h3;exact AJ (dh (Sh.put l44 Vq.1 (Sh.w (Xb-1))) V5 (Sh.AA h3).symm _ (AR (L:=[(0,.sl (List.map AI p0)),(4,.own 0 0 (List.length l8)),(11,.own 1 0 (List.length (Sh.put l44 Vq.1 (Sh.w (Xb-1))))),(12,.own 2 0 (List.length V5)),(13,i64 UP),(125,.sl (List.map eI VB.fields)),(126,i64 (Sh.len VB.fields)),(127,i64 t43)]) ⟨.rfl,.rfl,(.len (by simp only[Sh.DC])),.rfl,.rfl,.rfl,.rfl,.rfl,Rq⟩))
       ·intro gB h3;exact AJ (dh l44 V5 (Sh.AA h3).symm _ (AD U))
      ·intro iJ h2;exact Ag (iI l44 V5 (Sh.AA h2).symm _ (AD U))
     ·intro U7 h1;exact Ag (iH UP (Sh.AA h1).symm _ (Ab (L:=[(0,ls AI p0),(4,ow 0 0 l8),(13,i64 UP)]) (st':=[ro 0 3 1 eI l8]) (st1:=[ro 0 3 1 eI l8]) [0] U .nil (by decide) rfl U (.pure (AK λ_=>U) .nil) ⟨.rfl,.rfl,.rfl,Rq⟩))
    refine AN (Ae (σ:=Int×(List Int)) (λn v=>Aw l8 p0 n v.1 v.2=some ZP) (λ(t22,U0)=>⟨159,AX [(0,ls AI p0),(4,ow 0 0 l8),(11,ow 1 0 Ux),(12,ow 2 0 U0),(13,i64 0),(71,ls AI p0),(72,i64 (Sh.len p0)),(73,i64 t22)],[ro 0 3 1 eI l8,ro 0 3 1 eI Ux,ro 0 3 1 eI U0]⟩) N (0,[]) h1 ((Cl (t:=12) rfl 3 (size:=1) (by decide)).trans (AR (L:=[(0,ls AI p0),(4,ow 0 0 l8),(11,ow 1 0 Ux),(12,.own 2 0 (List.length ([]:List Int))),(13,i64 0),(71,ls AI p0),(72,i64 (Sh.len p0)),(73,i64 0)]) ⟨.rfl,.rfl,.rfl,.rfl,.rfl,.rfl,.rfl,.rfl,Rq⟩)) (λ_ hv=>by rw[Aw]at hv;cases hv) ?_);rintro n ⟨t22,U0⟩ h1;try dsimp only at h1⊢
    rw[Aw]at h1;refine zr tb U U ?_;refine AB λji dk=>?_;refine ci h1 U ?_ ?_<;>clear h1
    ·intro iN h1;refine AJ (dk _ ?_);refine AB λgC Z7=>?_;obtain⟨dm,h2,h1⟩:=Sh.An h1;have gD:∀(Zt:(List Int)),dm=Sum.inr Zt->∀s,Wk 0 s ⟨159,AX [(0,ls AI p0),(4,ow 0 0 l8),(11,ow 1 0 Ux),(12,ow 2 0 Zt),(13,i64 0),(71,ls AI p0),(72,i64 (Sh.len p0)),(73,i64 t22)],[ro 0 3 1 eI l8,ro 0 3 1 eI Ux,ro 0 3 1 eI Zt]⟩->gC s:=by
      intro Zt hq s hw;subst dm;try dsimp only at h1
      refine Z7 _ (AH hw ?_);refine AG (by rfl) ?_;refine zm tb 2 U ?_;exact AE (xi (Sh.w (t22+1),Zt) h1 (AD U))
     refine AN ?_;refine sr U λiO Z8=>?_;refine zq tb U ?_;obtain⟨Zs,gc75,h2⟩:=Sh.bind_some h2;refine zx Ce gc75 U U U ?_;refine zq tb U ?_;refine Cf (m:=3) Ah I3 U U ?_;refine zq tb U ?_;refine Bs Ah Nq U U U U U U UE rfl ?_;refine dn Z8 U ?_;refine AB λiP Z9=>?_;refine AB λiQ dp=>?_;obtain⟨gF,h3,h2⟩:=Sh.bind_some h2;have dq:∀(t78:Bool),gF=t78->∀s,Wk 0 s ⟨159,AX [(0,ls AI p0),(4,ow 0 0 l8),(11,ow 1 0 Ux),(12,ow 2 0 U0),(13,i64 0),(14,i64 t22),(71,ls AI p0),(72,i64 (Sh.len p0)),(73,i64 t22),(94,.bool t78)],[ro 0 3 1 eI l8,ro 0 3 1 eI Ux,ro 0 3 1 eI U0]⟩->iQ s:=by
      intro t78 hq s hw;subst gF;try dsimp only at h2
      refine dp _ (AH hw ?_);refine ci h2 U ?_ ?_<;>clear h2
      ·intro iR h2;refine zr tb U U ?_;replace h2:=Sh.AA h2;subst dm;try dsimp only[id]at h1
       replace h1:=Sh.AA h1;subst ZP;try dsimp only[id]at h0
       replace h0:=Sh.AA h0;subst r;exact AM (Exists.intro _ (And.intro ((((Cl (t:=2) rfl 3 (size:=1) (by decide)).trans (AR (L:=[(2,.own 3 0 (List.length ([]:List Int))),(3,.bool false)]) ⟨.rfl,.rfl,Rq⟩)).trans (Ab (L:=[(2,.own 0 0 (List.length ([]:List Int))),(3,.bool false)]) (st':=[ro 0 3 1 eI ([]:List Int)]) (st1:=[ro 0 3 1 eI ([]:List Int)]) [3] U .nil (by decide) rfl U (.pure (AK λ_=>U) .nil) ⟨.rfl,.rfl,Rq⟩)).trans (AR (L:=[(2,.own 0 0 (List.length ([]:List Int))),(3,.bool false)]) ⟨.rfl,.rfl,Rq⟩)) (And.intro U U)))
      ·intro iR h2;refine AJ (Z9 _ ?_);refine sr U λiS aA=>?_;refine zm tb 2 U ?_;obtain⟨dG,gc83,h2⟩:=Sh.bind_some h2;refine zz (.ptr 0 0 (Int.toNat t22) 0) (CT Ak U U U U gc83) rfl ?_;refine zz (i64 dG) (DN HB U U (CN gc83) rfl) rfl ?_;refine zq tb U ?_;refine dn aA U ?_;refine ci h2 U ?_ ?_<;>clear h2
       ·intro iT h2;refine AG (by rfl) ?_;refine zm tb 2 U ?_;refine DS (m:=3) (l:=[t22]) (enc:=eI) Ah Ak (by decide) rfl U U U U U ?_;obtain⟨Vg,gl85,h2⟩:=Sh.bind_some h2;refine EA (l2:=[t22]) Ah Ak U U U U (Ic U U) (λ_=>U) gl85 U ?_;refine zq tb U ?_;exact AE (gD Vg (Sh.AA h2).symm _ (by refine Wk.trans (Cc (L:=[(0,ls AI p0),(4,ow 0 0 l8),(11,ow 1 0 Ux),(12,ow 2 0 Vg),(13,i64 0),(71,ls AI p0),(72,i64 (Sh.len p0)),(73,i64 t22)]) (st':=[ro 0 3 1 eI l8,ro 0 3 1 eI Ux,ro 0 3 1 eI Vg,ro 0 3 1 eI [t22]]) (.pure (AK λ_=>U) (.pure (AK λ_=>U) (.pure (AK λ_=>U) (.pure (AK λ_=>U) .nil)))) ⟨.rfl,.rfl,.rfl,.rfl,.rfl,.rfl,.rfl,.rfl,Rq⟩) ?_;exact Ab (L:=[(0,ls AI p0),(4,ow 0 0 l8),(11,ow 1 0 Ux),(12,ow 2 0 Vg),(13,i64 0),(71,ls AI p0),(72,i64 (Sh.len p0)),(73,i64 t22)]) (st':=[ro 0 3 1 eI l8,ro 0 3 1 eI Ux,ro 0 3 1 eI Vg]) (st1:=[ro 0 3 1 eI l8,ro 0 3 1 eI Ux,ro 0 3 1 eI Vg]) [0,1,2] U .nil (by decide) rfl U (.pure (AK λ_=>U) (.pure (AK λ_=>U) (.pure (AK λ_=>U) .nil))) ⟨.rfl,.rfl,.rfl,.rfl,.rfl,.rfl,.rfl,.rfl,Rq⟩))
       ·intro iT h2;exact AJ (gD U0 (Sh.AA h2).symm _ (AD U))
     refine D5 (by kernel_rfl) (by kernel_rfl) (by rfl) ?_;iterate 4 refine yq tb rfl ?_
     rcases Sh.Ac h3 with ⟨b86,h3⟩|⟨b86,h3⟩
     ·refine yg tb b86 U ?_;iterate 3 refine yg tb b86 rfl ?_
      obtain⟨dF,gc87,h3⟩:=Sh.bind_some h3;refine G8 (v:=(.ptr 0 0 (Int.toNat t22) 0)) (B8 U U b86) rfl (CT Ak U U U U gc87) ?_;refine G8 (v:=(i64 dF)) (B8 U U b86) rfl (DN HB U U (CN gc87) rfl) ?_;iterate 2 refine yg tb b86 rfl ?_
      rcases Sh.Ac h3 with ⟨b88,h3⟩|⟨b88,h3⟩
      ·refine ys b88 U ?_;iterate 2 refine ys b88 rfl ?_
       refine G8 (v:=(.bool true)) (B8 U U b86) rfl (E6 U b88 U) ?_;refine yt b86 U ?_;exact C5 (dq true (Sh.AA h3).symm _ (Ab (L:=[(0,ls AI p0),(4,ow 0 0 l8),(11,ow 1 0 Ux),(12,ow 2 0 U0),(13,i64 0),(14,i64 t22),(71,ls AI p0),(72,i64 (Sh.len p0)),(73,i64 t22),(94,.bool true)]) (st':=[ro 0 3 1 eI l8,ro 0 3 1 eI Ux,ro 0 3 1 eI U0]) (st1:=[ro 0 3 1 eI l8,ro 0 3 1 eI Ux,ro 0 3 1 eI U0]) [0,1,2] U .nil (by decide) rfl U (.pure (AK λ_=>U) (.pure (AK λ_=>U) (.pure (AK λ_=>U) .nil))) ⟨.rfl,.rfl,.rfl,.rfl,.rfl,.rfl,.rfl,.rfl,.rfl,.rfl,Rq⟩))
      ·refine yg tb b88 U ?_;iterate 2 refine yg tb b88 rfl ?_
       refine G8 (v:=(.bool (decide (999999<Zs.count)))) (B8 U U b86) rfl (E2 U b88 U) ?_;refine yt b86 U ?_;exact C5 (dq (decide (999999<Zs.count)) (Sh.AA h3).symm _ (Ab (L:=[(0,ls AI p0),(4,ow 0 0 l8),(11,ow 1 0 Ux),(12,ow 2 0 U0),(13,i64 0),(14,i64 t22),(71,ls AI p0),(72,i64 (Sh.len p0)),(73,i64 t22),(94,.bool (decide (999999<Zs.count)))]) (st':=[ro 0 3 1 eI l8,ro 0 3 1 eI Ux,ro 0 3 1 eI U0]) (st1:=[ro 0 3 1 eI l8,ro 0 3 1 eI Ux,ro 0 3 1 eI U0]) [0,1,2] U .nil (by decide) rfl U (.pure (AK λ_=>U) (.pure (AK λ_=>U) (.pure (AK λ_=>U) .nil))) ⟨.rfl,.rfl,.rfl,.rfl,.rfl,.rfl,.rfl,.rfl,.rfl,.rfl,Rq⟩))
     ·refine ys b86 U ?_;iterate 7 refine ys b86 rfl ?_
      iterate 3 refine yn rfl ?_
      refine ys b86 U ?_;refine yf b86 U ?_;exact C5 (dq false (Sh.AA h3).symm _ (Ab (L:=[(0,ls AI p0),(4,ow 0 0 l8),(11,ow 1 0 Ux),(12,ow 2 0 U0),(13,i64 0),(14,i64 t22),(71,ls AI p0),(72,i64 (Sh.len p0)),(73,i64 t22),(94,.bool false)]) (st':=[ro 0 3 1 eI l8,ro 0 3 1 eI Ux,ro 0 3 1 eI U0]) (st1:=[ro 0 3 1 eI l8,ro 0 3 1 eI Ux,ro 0 3 1 eI U0]) [0,1,2] U .nil (by decide) rfl U (.pure (AK λ_=>U) (.pure (AK λ_=>U) (.pure (AK λ_=>U) .nil))) ⟨.rfl,.rfl,.rfl,.rfl,.rfl,.rfl,.rfl,.rfl,.rfl,.rfl,Rq⟩))
    ·intro iN h1;exact Ag (dT U0 (Sh.AA h1).symm _ (AD U))
  refine AG (by rfl) ?_;refine zq tb U ?_;refine zl tb U U ?_;refine zm tb 2 U ?_;rcases Sh.Ac h1 with ⟨b89,h1⟩|⟨b89,h1⟩
  ·refine zg tb b89 U ?_;refine zg tb b89 U ?_;refine BZ (v:=(i64 (Sh.len p0))) (B8 U U b89) rfl (DV Lt U) ?_;refine zg tb b89 U ?_;obtain⟨bu,gc90,h1⟩:=Sh.bind_some h1;refine BZ (v:=(.A6 (AI bu) 0)) (B8 U U b89) rfl (B0 Ce U U gc90 U) ?_;iterate 3 refine zg tb b89 rfl ?_
   refine zt b89 U ?_;exact AE (Yg (decide (bu.count=0)) (Sh.AA h1).symm _ (AD U))
  ·refine zs b89 U ?_;iterate 7 refine zs b89 rfl ?_
   refine zf b89 U ?_;exact AE (Yg false (Sh.AA h1).symm _ (AD U))
 refine AN (Ae (σ:=Int×(List Int)) (λn v=>A0 N p0 n v.1 v.2=some o9) (λ(t6,l7)=>⟨159,AX [(0,ls AI p0),(4,ow 0 0 l7),(24,ls AI p0),(25,i64 (Sh.len p0)),(26,i64 t6)],[ro 0 3 1 eI l7]⟩) N (0,l3) h1 (AD U) (λ_ hv=>by rw[A0]at hv;cases hv) ?_);rintro n ⟨t6,l7⟩ h1;try dsimp only at h1⊢
 rw[A0]at h1;refine zr tb U U ?_;refine AB λjk dr=>?_;refine ci h1 U ?_ ?_<;>clear h1
 ·intro iU h1;refine AJ (dr _ ?_);refine AB λgG aB=>?_;refine AN ?_;refine sr U λjl dt=>?_;obtain⟨Wq,gc96,h1⟩:=Sh.bind_some h1;refine zx Ce gc96 U U U ?_;refine zq tb U ?_;refine Cf (m:=1) Ah I3 U U ?_;refine Bs Ah Nq U U U U U U UE rfl ?_;refine dn dt U ?_;refine AB λjm du=>?_;refine sr U λjn dw=>?_;refine zm tb 2 U ?_;obtain⟨bt,gq99,h1⟩:=Sh.bind_some h1;refine zc Qv (HW gq99) rfl U U ?_;refine zq tb U ?_;refine dn dw U ?_;refine ci h1 U ?_ ?_<;>clear h1
  ·intro Y2 h1;have V8:bt=false:=by simpa using Y2
   refine zr tb U U ?_;replace h1:=Sh.AA h1;subst o9;try dsimp only[id]at h0
   replace h0:=Sh.AA h0;subst r;exact AM (Exists.intro _ (And.intro ((((Cl (t:=2) rfl 3 (size:=1) (by decide)).trans (AR (L:=[(2,.own 2 0 (List.length ([]:List Int))),(3,.bool false)]) ⟨.rfl,.rfl,Rq⟩)).trans (Ab (L:=[(2,.own 0 0 (List.length ([]:List Int))),(3,.bool false)]) (st':=[ro 0 3 1 eI ([]:List Int)]) (st1:=[ro 0 3 1 eI ([]:List Int)]) [2] U .nil (by decide) rfl U (.pure (AK λ_=>U) .nil) ⟨.rfl,.rfl,Rq⟩)).trans (AR (L:=[(2,.own 0 0 (List.length ([]:List Int))),(3,.bool false)]) ⟨.rfl,.rfl,Rq⟩)) (And.intro U U)))
  ·intro Y2 h1;have V9:bt=true:=by simpa using Y2
   refine AJ (du _ ?_);refine sr U λiV bS=>?_;refine zm tb 2 U ?_;refine zl tb U U ?_;refine zq tb U ?_;refine dn bS U ?_;obtain⟨aC,h2,h1⟩:=Sh.bind_some h1;have dx:∀(W4:(List Int)),aC=W4->∀s,Wk 0 s ⟨159,AX [(0,ls AI p0),(4,ow 0 0 W4),(24,ls AI p0),(25,i64 (Sh.len p0)),(26,i64 t6)],[ro 0 3 1 eI W4]⟩->gG s:=by
    intro W4 hq s hw;subst aC;try dsimp only at h1
    refine aB _ (AH hw ?_);refine AG (by rfl) ?_;refine zm tb 2 U ?_;exact AE (xi (Sh.w (t6+1),W4) h1 (AD U))
   refine AN (Ae (σ:=Int×(List Int)) (λn v=>Az Wq p0 n v.1 v.2=some aC) (λ(WM,l106)=>⟨159,AX [(0,ls AI p0),(4,ow 0 0 l106),(24,ls AI p0),(25,i64 (Sh.len p0)),(26,i64 t6),(35,ls eI Wq.fields),(36,i64 (Sh.len Wq.fields)),(37,i64 WM)],[ro 0 3 1 eI l106]⟩) N (0,l7) h2 (Ab (L:=[(0,ls AI p0),(4,ow 0 0 l7),(24,ls AI p0),(25,i64 (Sh.len p0)),(26,i64 t6),(35,ls eI Wq.fields),(36,i64 (Sh.len Wq.fields)),(37,i64 0)]) (st':=[ro 0 3 1 eI l7]) (st1:=[ro 0 3 1 eI l7]) [0] U .nil (by decide) rfl U (.pure (AK λ_=>U) .nil) ⟨.rfl,.rfl,.rfl,.rfl,.rfl,.rfl,.rfl,.rfl,Rq⟩) (λ_ hv=>by rw[Az]at hv;cases hv) ?_);rintro n ⟨WM,l106⟩ h2;try dsimp only at h2⊢
   rw[Az]at h2;refine zr tb U U ?_;refine AB λiW bT=>?_;refine ci h2 U ?_ ?_<;>clear h2
   ·intro dy h2;refine AJ (bT _ ?_);refine AB λdz bU=>?_;obtain⟨bV,h3,h2⟩:=Sh.bind_some h2;have bW:∀(W3:(List Int)),bV=W3->∀s,Wk 0 s ⟨159,AX [(0,ls AI p0),(4,ow 0 0 W3),(24,ls AI p0),(25,i64 (Sh.len p0)),(26,i64 t6),(35,ls eI Wq.fields),(36,i64 (Sh.len Wq.fields)),(37,i64 WM)],[ro 0 3 1 eI W3]⟩->dz s:=by
     intro W3 hq s hw;subst bV;try dsimp only at h2
     refine bU _ (AH hw ?_);refine AG (by rfl) ?_;refine zm tb 2 U ?_;exact AE (xi (Sh.w (WM+1),W3) h2 (AD U))
    refine AN ?_;refine sr U λiX bX=>?_;obtain⟨bF,gc116,h3⟩:=Sh.bind_some h3;refine zx Ak gc116 U U U ?_;refine zm tb 2 U ?_;refine dn bX U ?_;refine sr U λiY bY=>?_;refine zm tb 2 U ?_;obtain⟨V6,gq118,h3⟩:=Sh.bind_some h3;refine zc (v':=(.BK [i64 V6.1,.bool V6.2])) PC (EV gq118) rfl U U ?_;refine zm tb 5 U ?_;refine dn bY U ?_;refine zr tb U U ?_;refine ci h3 U ?_ ?_<;>clear h3
    ·intro eA h3;refine AG (by rfl) ?_;refine zm tb 2 U ?_;obtain⟨Xc,gc121,h3⟩:=Sh.bind_some h3;refine zz (.ptr 0 0 (Int.toNat V6.1) 0) (CT Ak U U U U gc121) rfl ?_;refine zz (i64 Xc) (DN HB U U (CN gc121) rfl) rfl ?_;refine zq tb U ?_;refine zz (.ptr 0 0 (Int.toNat V6.1) 0) (CT Ak U U U U gc121) rfl ?_;refine Gp (u':=Sh.w (Xc+1)) Ah HB U U gc121 U U U UC rfl U ?_;exact AE (bW (Sh.put l106 V6.1 (Sh.w (Xc+1))) (Sh.AA h3).symm _ (AR (L:=[(0,.sl (List.map AI p0)),(4,.own 0 0 (List.length (Sh.put l106 V6.1 (Sh.w (Xc+1))))),(24,.sl (List.map AI p0)),(25,i64 (Sh.len p0)),(26,i64 t6),(35,.sl (List.map eI Wq.fields)),(36,i64 (Sh.len Wq.fields)),(37,i64 WM)]) ⟨.rfl,(.len (by simp only[Sh.DC])),.rfl,.rfl,.rfl,.rfl,.rfl,.rfl,Rq⟩))
    ·intro eA h3;exact AJ (bW l106 (Sh.AA h3).symm _ (AD U))
   ·intro dy h2;exact Ag (dx l106 (Sh.AA h2).symm _ (AD U))
 ·intro iU h1;exact Ag (M9 l7 (Sh.AA h1).symm _ (AD U))
theorem HZ {N:Nat}{p0:(List Cell)}{r:Bool}(h0:Ct N p0=some r):AY Try.prog 30 [ls AI p0] [] (λv st=>v=(.bool r)/\st=[]):=by
 unfold Ct at h0;refine ai Try.func30 U U U U ?_;refine zr tb U U ?_;refine sr U λK2 UL=>?_;refine zq tb U ?_;obtain⟨q3,gq3,h0⟩:=Sh.bind_some h0;refine DG (v':=(.BK [ow 0 0 q3.1,.bool q3.2])) Ah RQ (Gb gq3) rfl U ⟨(CI λ_=>U),Rq⟩ U U ?_;refine zm tb 5 U ?_;refine dn UL U ?_;refine zr tb U U ?_;replace h0:=Sh.AA h0;subst r;exact AM (xr (Ai [(2,.bool q3.2)] U))
theorem Gw {N:Nat}{p0:Al}{r:Af×Bool}(h0:Cb N p0=some r):AY Try.prog 15 [.agg (AS p0)] [] (λv st=>v=(.BK [.agg [ls AI r.1.cells,.mv (List.map (eM i64) r.1.index)],.bool r.2])/\st=[]):=by
 unfold Cb at h0;refine AY.flat U ?_;refine ai Try.func15 U U U U ?_;refine sr U λK1 VU=>?_;refine Co (m:=0) Ah U U U U U ?_;refine Cf (m:=1) Ah Nh U U ?_;refine zq tb U ?_;refine dn VU U ?_;refine sr U λK2 UL=>?_;refine PK λUr=>?_;refine zz (.agg [.zc,.mp Ur]) (LW RJ RX Nh U U) rfl ?_;refine Cf (m:=3) Ah Nh U U ?_;refine Bs Ah E3 U U U U U U UA rfl ?_;refine dn UL U ?_;refine zr tb U U ?_;refine AB λK5 Xg=>?_;refine zr tb U U ?_;obtain⟨aU,h1,h0⟩:=Sh.An h0;have iZ:∀(Yv:(List Int)) (Uw:(List Cell)) (US:(List (Int×Int))),aU=Sum.inr (Yv,Uw,US)->∀s,Wk 0 s ⟨161,AX [(1,.ptr 0 0 0 0),(2,.ptr 1 0 0 0),(4,.ptr 3 0 0 0),(5,ow 4 0 Yv)],[⟨0,27,2,[AS p0]⟩,⟨0,38,2,[[.zc,.mv (List.map (eM i64) ([]:List (Int×Int)))]]⟩,⟨0,36,1,[[.dv Ur 0 (List.map (eM i64) US)]]⟩,⟨0,38,2,[[ow 5 0 Uw,.mp Ur]]⟩,ro 0 3 1 eI Yv,ro 0 54 3 (Ap 3) Uw]⟩->K5 s:=by
  intro Yv Uw US hq s hw;subst aU;try dsimp only at h0
  refine Xg _ (AH hw ?_);refine AB λiG Z4=>?_;refine sr U λZM VX=>?_;refine zq tb U ?_;refine BG (Fu (L:=[(2,.ptr 1 0 0 0),(4,.ptr 3 0 0 0),(5,ow 4 0 Yv),(110,.agg (AS p0))]) (st':=[⟨0,27,2,[AS p0]⟩,⟨0,38,2,[[.zc,.mv (List.map (eM i64) ([]:List (Int×Int)))]]⟩,⟨1,36,1,[]⟩,⟨0,38,2,[[ow 5 0 Uw,.mv (List.map (eM i64) US)]]⟩,ro 0 3 1 eI Yv,ro 0 54 3 (Ap 3) Uw]) (id:=2) (b:=Ur) (D:=List.map (eM i64) US) rfl UB ⟨.rfl,.rfl,.rfl,.rfl,Rq⟩ (.raw U (.raw U (.pure (by intro x hx;cases hx) (.raw (by simp[Fs]) (.pure (AK λ_=>U) (.deep (Bg λ_=>U) .nil))))))) ?_;refine zm tb 2 U ?_;refine BG (Wk.Dw (L:=[(2,.ptr 1 0 0 0),(4,.ptr 3 0 0 0),(110,.agg (AS p0)),(111,.agg [ow 5 0 Uw,.mv (List.map (eM i64) US)]),(112,ls eI Yv)]) (st':=[⟨0,27,2,[AS p0]⟩,⟨0,38,2,[[.zc,.mv (List.map (eM i64) ([]:List (Int×Int)))]]⟩,⟨1,36,1,[]⟩,⟨0,38,2,[[ow 5 0 Uw,.mv (List.map (eM i64) US)]]⟩,⟨1,3,1,[]⟩,ro 0 54 3 (Ap 3) Uw]) (id:=4) rfl (show 0<=4 by decide) (AK λ_=>U) ⟨.rfl,.rfl,.rfl,.agg ⟨.rfl,.rfl,Rq⟩,.Dw U,Rq⟩ U) ?_;obtain⟨Ux,gq17,h0⟩:=Sh.bind_some h0;refine Gr (v':=(.bool Ux)) Ah RT (Ey gq17) rfl (.val U (.agg (.ownD U U (λ_=>U) (λx=>Cj x) (.val U .nil)) (.val U .nil))) rfl Rq U U ?_;refine zq tb U ?_;refine dn VX U ?_;refine ci h0 U ?_ ?_<;>clear h0
  ·intro Wi h0;have fm:Ux=false:=by simpa using Wi
   refine sr U λaS Vs=>?_;refine zq tb U ?_;refine Bs Ah E3 U U U U U U UA rfl ?_;refine zq tb U ?_;refine dn Vs U ?_;replace h0:=Sh.AA h0;subst r;exact AM (Exists.intro _ (And.intro ((((AR (L:=[(2,.ptr 1 0 0 0),(3,.bool false)]) ⟨.rfl,.rfl,Rq⟩).trans (DK (id:=1) (m:=5) (j:=0) (enc':=AI) (st':=[⟨0,27,2,[AS p0]⟩,⟨0,38,2,[[ls AI Uw,.mv (List.map (eM i64) US)]]⟩,⟨1,36,1,[]⟩,⟨0,38,2,[[ow 5 0 Uw,.mv (List.map (eM i64) US)]]⟩,⟨1,3,1,[]⟩,⟨1,54,3,[]⟩]) rfl U U U (by decide) UF (λ_=>U) (λx=>Cj x) rfl)).trans (Ab (L:=[(2,.ptr 0 0 0 0),(3,.bool false)]) (st':=[⟨0,38,2,[[ls AI Uw,.mv (List.map (eM i64) US)]]⟩]) (st1:=[⟨0,38,2,[[ls AI Uw,.mv (List.map (eM i64) US)]]⟩]) [1] U .nil (by decide) rfl U (.raw U U .nil) ⟨.rfl,.rfl,Rq⟩)).trans (AR (L:=[(2,.ptr 0 0 0 0),(3,.bool false)]) ⟨.rfl,.rfl,Rq⟩)) (EM (x:=.tmp 2) (off:=0) (cs:=[ls AI Uw,.mv (List.map (eM i64) US)]) (vs:=[ls AI Uw,.mv (List.map (eM i64) US)]) E3 U U U UA rfl _ U)))
  ·intro Wi h0;have dc:Ux=true:=by simpa using Wi
   refine AJ (Z4 _ ?_);refine AB λcJ XC=>?_;refine sr U λdY XF=>?_;refine zm tb 2 U ?_;refine zz (i64 (Sh.len Uw)) (Ef Lt U U U) rfl ?_;refine zq tb U ?_;refine dn XF U ?_;obtain⟨Z5,h1,h0⟩:=Sh.An h0;have bR:∀(Xw:(List Cell)),Z5=Sum.inr Xw->∀s,Wk 0 s ⟨161,AX [(2,.ptr 0 0 0 0),(4,.ptr 1 0 0 0)],[⟨0,38,2,[[.zc,.mv (List.map (eM i64) ([]:List (Int×Int)))]]⟩,⟨0,38,2,[[ow 2 0 Xw,.mv (List.map (eM i64) US)]]⟩,ro 0 54 3 (Ap 3) Xw]⟩->cJ s:=by
    intro Xw hq s hw;subst Z5;try dsimp only at h0
    refine XC _ (AH hw ?_);refine AB λhZ Zy=>?_;refine AH ((DK (id:=1) (m:=2) (j:=0) (enc':=AI) (st':=[⟨0,38,2,[[.zc,.mv (List.map (eM i64) ([]:List (Int×Int)))]]⟩,⟨0,38,2,[[ls AI Xw,.mv (List.map (eM i64) US)]]⟩,⟨1,54,3,[]⟩]) rfl U U U (by decide) UB (λ_=>U) (λx=>Cj x) rfl).trans (AR (L:=[(2,.ptr 0 0 0 0),(4,.ptr 1 0 0 0)]) ⟨.rfl,.rfl,Rq⟩)) ?_;refine ES 4 (by kernel_rfl) (by kernel_rfl) (by rfl) ?_;iterate 2 refine yq tb rfl ?_
    obtain⟨Xa,gq29,h0⟩:=Sh.bind_some h0;refine Gu (v:=(ls AI Xa)) Ah Q7 (EK gq29) rfl U U ?_;obtain⟨WL,gq30,h0⟩:=Sh.bind_some h0;refine Gu (v:=(.bool WL)) Ah RR (HZ gq30) rfl U U ?_;refine C5 ?_;refine Bs Ah E3 U U U U U U UA rfl ?_;refine zq tb U ?_;refine dn Zy U ?_;replace h0:=Sh.AA h0;subst r;exact AM (Exists.intro _ (And.intro ((Ab (L:=[(2,.ptr 0 0 0 0),(3,.bool WL)]) (st':=[⟨0,38,2,[[ls AI Xw,.mv (List.map (eM i64) US)]]⟩]) (st1:=[⟨0,38,2,[[ls AI Xw,.mv (List.map (eM i64) US)]]⟩]) [0] U .nil (by decide) rfl U (.raw U U .nil) ⟨.rfl,.rfl,Rq⟩).trans (AR (L:=[(2,.ptr 0 0 0 0),(3,.bool WL)]) ⟨.rfl,.rfl,Rq⟩)) (EM (x:=.tmp 2) (off:=0) (cs:=[ls AI Xw,.mv (List.map (eM i64) US)]) (vs:=[ls AI Xw,.mv (List.map (eM i64) US)]) E3 U U U UA rfl _ U)))
   refine AN (Ae (σ:=Int×(List Cell)) (λn v=>A3 N Uw US n v.1 v.2=some Z5) (λ(t24,Ua)=>⟨161,AX [(2,.ptr 0 0 0 0),(4,.ptr 1 0 0 0),(118,i64 (Sh.len Uw)),(119,i64 t24)],[⟨0,38,2,[[.zc,.mv (List.map (eM i64) ([]:List (Int×Int)))]]⟩,⟨0,38,2,[[ow 2 0 Ua,.mv (List.map (eM i64) US)]]⟩,ro 0 54 3 (Ap 3) Ua]⟩) N (0,Uw) h1 (Ab (L:=[(2,.ptr 0 0 0 0),(4,.ptr 1 0 0 0),(118,i64 (Sh.len Uw)),(119,i64 0)]) (st':=[⟨0,38,2,[[.zc,.mv (List.map (eM i64) ([]:List (Int×Int)))]]⟩,⟨0,38,2,[[ow 2 0 Uw,.mv (List.map (eM i64) US)]]⟩,ro 0 54 3 (Ap 3) Uw]) (st1:=[⟨0,38,2,[[.zc,.mv (List.map (eM i64) ([]:List (Int×Int)))]]⟩,⟨0,38,2,[[ow 5 0 Uw,.mv (List.map (eM i64) US)]]⟩,ro 0 54 3 (Ap 3) Uw]) [1,3,5] U .nil (by decide) rfl U (.raw U U (.raw U U (.deep (Bg λ_=>U) .nil))) ⟨.rfl,.rfl,.rfl,.rfl,Rq⟩) (λ_ hv=>by rw[A3]at hv;cases hv) ?_);rintro n ⟨t24,Ua⟩ h1;try dsimp only at h1⊢
   rw[A3]at h1;refine zr tb U U ?_;refine AB λdN XA=>?_;refine ci h1 U ?_ ?_<;>clear h1
   ·intro WR h1;refine AJ (XA _ ?_);refine AB λcK YN=>?_;refine AN ?_;refine zr tb U U ?_;refine sr U λcI XB=>?_;refine zm tb 3 U ?_;obtain⟨UK,gc37,h1⟩:=Sh.bind_some h1;refine zz (.ptr 2 0 (Int.toNat t24) 0) (CT Ce U U U U gc37) rfl ?_;refine zq tb U ?_;refine BG (Wk.Qk (id:=2) (j:=2) (i:=t24) (c:=UK) (ys:=UK.fields) (encY:=eI) rfl gc37 U U U U U) ?_;refine zz (ow 3 0 UK.fields) (DN Ly U U (IC gc37) rfl) rfl ?_;refine zz (i64 (Sh.len UK.fields)) (Ef Fy U U U) rfl ?_;refine zq tb U ?_;refine dn XB U ?_;obtain⟨cN,h2,h1⟩:=Sh.An h1;have ia:∀(WN:(List Int)),cN=Sum.inr WN->∀s,Wk 0 s ⟨161,AX [(2,.ptr 0 0 0 0),(4,.ptr 1 0 0 0),(118,i64 (Sh.len Uw)),(119,i64 t24)],[⟨0,38,2,[[.zc,.mv (List.map (eM i64) ([]:List (Int×Int)))]]⟩,⟨0,38,2,[[ow 2 0 Ua,.mv (List.map (eM i64) US)]]⟩,⟨0,54,3,hole Ua (Ap 3) t24 [i64 UK.count,i64 UK.tag,ow 3 0 WN]⟩,ro 0 3 1 eI WN]⟩->cK s:=by
     intro WN hq s hw;subst cN;try dsimp only at h1
     refine YN _ (AH hw ?_);refine AH (Wk.take (id:=2) (m:=3) (j:=2) (i:=t24) (c:=UK) (ys:=WN) (encY:=eI) (x':=[i64 UK.count,i64 UK.tag,.dv 3 1 (List.map eI WN)]) (st':=[⟨0,38,2,[[.zc,.mv (List.map (eM i64) ([]:List (Int×Int)))]]⟩,⟨0,38,2,[[ow 2 0 Ua,.mv (List.map (eM i64) US)]]⟩,⟨0,54,3,hole Ua (Ap 3) t24 [i64 UK.count,i64 UK.tag,.dv 3 1 (List.map eI WN)]⟩,⟨1,3,1,[]⟩]) rfl gc37 U U U (by decide) UG (λ_=>U) rfl U) ?_;refine AH (Hb (id:=2) (i:=t24) (u:=(Cell.mk UK.count UK.tag WN)) (st':=[⟨0,38,2,[[.zc,.mv (List.map (eM i64) ([]:List (Int×Int)))]]⟩,⟨0,38,2,[[ow 2 0 Ua,.mv (List.map (eM i64) US)]]⟩,ro 0 54 3 (Ap 3) (Sh.put Ua t24 (Cell.mk UK.count UK.tag WN)),⟨1,3,1,[]⟩]) rfl U U) ?_;refine AG (by rfl) ?_;refine zm tb 2 U ?_;exact AE (xi (Sh.w (t24+1),Sh.put Ua t24 (Cell.mk UK.count UK.tag WN)) h1 (by refine Wk.trans (Fq (st:=[⟨0,38,2,[[.zc,.mv (List.map (eM i64) ([]:List (Int×Int)))]]⟩,⟨0,38,2,[[.own 2 0 (List.length Ua),.mv (List.map (eM i64) US)]]⟩,⟨0,54,3,List.map (Ap 3) (Sh.put Ua t24 (Cell.mk UK.count UK.tag WN))⟩,⟨1,3,1,[]⟩]) (st':=[⟨0,38,2,[[.zc,.mv (List.map (eM i64) ([]:List (Int×Int)))]]⟩,⟨0,38,2,[[.own 2 0 (List.length (Sh.put Ua t24 (Cell.mk UK.count UK.tag WN))),.mv (List.map (eM i64) US)]]⟩,⟨0,54,3,List.map (Ap 3) (Sh.put Ua t24 (Cell.mk UK.count UK.tag WN))⟩,⟨1,3,1,[]⟩]) (by simp only[Sh.DC])) ?_;exact Ab (L:=[(2,.ptr 0 0 0 0),(4,.ptr 1 0 0 0),(118,i64 (Sh.len Uw)),(119,i64 (Sh.w (t24+1)))]) (st':=[⟨0,38,2,[[.zc,.mv (List.map (eM i64) ([]:List (Int×Int)))]]⟩,⟨0,38,2,[[.own 2 0 (List.length (Sh.put Ua t24 (Cell.mk UK.count UK.tag WN))),.mv (List.map (eM i64) US)]]⟩,⟨0,54,3,List.map (Ap 3) (Sh.put Ua t24 (Cell.mk UK.count UK.tag WN))⟩]) (st1:=[⟨0,38,2,[[.zc,.mv (List.map (eM i64) ([]:List (Int×Int)))]]⟩,⟨0,38,2,[[.own 2 0 (List.length (Sh.put Ua t24 (Cell.mk UK.count UK.tag WN))),.mv (List.map (eM i64) US)]]⟩,⟨0,54,3,List.map (Ap 3) (Sh.put Ua t24 (Cell.mk UK.count UK.tag WN))⟩]) [0,1,2] U .nil (by decide) rfl U (.raw U U (.raw U U (.deep (Bg λ_=>U) .nil))) ⟨.rfl,.rfl,.rfl,.rfl,Rq⟩))
    refine AN (Ae (σ:=Int×(List Int)) (λn v=>A4 UK US Ua t24 n v.1 v.2=some cN) (λ(t38,l39)=>⟨161,AX [(2,.ptr 0 0 0 0),(4,.ptr 1 0 0 0),(11,i64 t24),(118,i64 (Sh.len Uw)),(119,i64 t24),(127,ow 3 0 l39),(128,i64 (Sh.len UK.fields)),(129,i64 t38)],[⟨0,38,2,[[.zc,.mv (List.map (eM i64) ([]:List (Int×Int)))]]⟩,⟨0,38,2,[[ow 2 0 Ua,.mv (List.map (eM i64) US)]]⟩,⟨0,54,3,hole Ua (Ap 3) t24 [i64 UK.count,i64 UK.tag,ow 3 0 l39]⟩,ro 0 3 1 eI l39]⟩) N (0,UK.fields) h2 (AD U) (λ_ hv=>by rw[A4]at hv;cases hv) ?_);rintro n ⟨t38,l39⟩ h2;try dsimp only at h2⊢
    rw[A4]at h2;refine zr tb U U ?_;refine AB λjo eC=>?_;refine ci h2 U ?_ ?_<;>clear h2
    ·intro ib h2;refine AJ (eC _ ?_);refine AB λic eD=>?_;obtain⟨eE,h3,h2⟩:=Sh.An h2;have gH:∀(Wp:(List Int)),eE=Sum.inr Wp->∀s,Wk 0 s ⟨161,AX [(2,.ptr 0 0 0 0),(4,.ptr 1 0 0 0),(11,i64 t24),(118,i64 (Sh.len Uw)),(119,i64 t24),(127,ow 3 0 Wp),(128,i64 (Sh.len UK.fields)),(129,i64 t38)],[⟨0,38,2,[[.zc,.mv (List.map (eM i64) ([]:List (Int×Int)))]]⟩,⟨0,38,2,[[ow 2 0 Ua,.mv (List.map (eM i64) US)]]⟩,⟨0,54,3,hole Ua (Ap 3) t24 [i64 UK.count,i64 UK.tag,ow 3 0 Wp]⟩,ro 0 3 1 eI Wp]⟩->ic s:=by
      intro Wp hq s hw;subst eE;try dsimp only at h2
      refine eD _ (AH hw ?_);refine AG (by rfl) ?_;refine zm tb 2 U ?_;exact AE (xi (Sh.w (t38+1),Wp) h2 (AD U))
     refine AN ?_;refine sr U λjq eF=>?_;refine zq tb U ?_;obtain⟨cB,gc49,h3⟩:=Sh.bind_some h3;refine zz (.ptr 3 0 (Int.toNat t38) 0) (CT Ak U U U U gc49) rfl ?_;refine zz (i64 cB) (DN HB U U (CN gc49) rfl) rfl ?_;refine zm tb 2 U ?_;refine dn eF U ?_;refine AB λft YQ=>?_;refine sr U λfu Z3=>?_;refine zq tb U ?_;obtain⟨fX,gq52,h3⟩:=Sh.bind_some h3;refine zc QB (Gh gq52) rfl U U ?_;refine dn Z3 U ?_;refine ci h3 U ?_ ?_<;>clear h3
     ·intro ie h3;exact Ag (gH l39 (Sh.AA h3).symm _ (AD U))
     ·intro ie h3;refine AJ (YQ _ ?_);refine sr U λjr eG=>?_;refine zm tb 2 U ?_;obtain⟨Xd,gq55,h3⟩:=Sh.bind_some h3;refine OG (v':=(.BK [i64 Xd.1,.bool Xd.2])) (st':=[⟨0,38,2,[[.zc,.mv (List.map (eM i64) ([]:List (Int×Int)))]]⟩,⟨0,38,2,[[ow 2 0 Ua,.mv (List.map (eM i64) US)]]⟩,⟨0,54,3,hole Ua (Ap 3) t24 [i64 UK.count,i64 UK.tag,ow 3 0 l39]⟩,ro 0 3 1 eI l39]) Ah Q6 (D1 gq55) rfl (.agg (.cons (.hol U U (λ_=>U) (λx=>Cj x) gc37 U (.val U (.val U (.own U U (λ_=>U) .nil)))) (.cons (.val U) .nil)) (.one (.val U) .nil)) rfl Rq U U ?_;refine zm tb 5 U ?_;refine dn eG U ?_;refine AB λfw YR=>?_;refine zr tb U U ?_;refine ci h3 U ?_ ?_<;>clear h3
      ·intro Xn h3;have js:Xd.2=false:=by simpa using Xn
       refine AB λjt eH=>?_;refine AH (Wk.take (id:=2) (m:=3) (j:=2) (i:=t24) (c:=UK) (ys:=l39) (encY:=eI) (x':=[i64 UK.count,i64 UK.tag,.dv 3 1 (List.map eI l39)]) (st':=[⟨0,38,2,[[.zc,.mv (List.map (eM i64) ([]:List (Int×Int)))]]⟩,⟨0,38,2,[[ow 2 0 Ua,.mv (List.map (eM i64) US)]]⟩,⟨0,54,3,hole Ua (Ap 3) t24 [i64 UK.count,i64 UK.tag,.dv 3 1 (List.map eI l39)]⟩,⟨1,3,1,[]⟩]) rfl gc37 U U U (by decide) UG (λ_=>U) rfl U) ?_;refine AH (Hb (id:=2) (i:=t24) (u:=(Cell.mk UK.count UK.tag l39)) (st':=[⟨0,38,2,[[.zc,.mv (List.map (eM i64) ([]:List (Int×Int)))]]⟩,⟨0,38,2,[[ow 2 0 Ua,.mv (List.map (eM i64) US)]]⟩,ro 0 54 3 (Ap 3) (Sh.put Ua t24 (Cell.mk UK.count UK.tag l39)),⟨1,3,1,[]⟩]) rfl U U) ?_;refine AG (by rfl) ?_;refine zq tb U ?_;refine Bs Ah E3 U U U U U U UA rfl ?_;refine zq tb U ?_;refine dn eH U ?_;replace h3:=Sh.AA h3;subst eE;try dsimp only[id]at h2
       replace h2:=Sh.AA h2;subst cN;try dsimp only[id]at h1
       replace h1:=Sh.AA h1;subst Z5;try dsimp only[id]at h0
       replace h0:=Sh.AA h0;subst r;exact AM (Exists.intro _ (And.intro ((((AR (L:=[(2,.ptr 0 0 0 0),(3,.bool false)]) ⟨.rfl,.rfl,Rq⟩).trans (DK (id:=0) (m:=2) (j:=0) (enc':=AI) (st':=[⟨0,38,2,[[.sl (List.map AI (Sh.put Ua t24 (Cell.mk UK.count UK.tag l39))),.mv (List.map (eM i64) US)]]⟩,⟨0,38,2,[[.own 2 0 (List.length Ua),.mv (List.map (eM i64) US)]]⟩,⟨1,54,3,[]⟩,⟨1,3,1,[]⟩]) rfl U U (by simp only[Sh.DC]) (by decide) UB (λ_=>U) (λx=>Cj x) rfl)).trans (Ab (L:=[(2,.ptr 0 0 0 0),(3,.bool false)]) (st':=[⟨0,38,2,[[.sl (List.map AI (Sh.put Ua t24 (Cell.mk UK.count UK.tag l39))),.mv (List.map (eM i64) US)]]⟩]) (st1:=[⟨0,38,2,[[.sl (List.map AI (Sh.put Ua t24 (Cell.mk UK.count UK.tag l39))),.mv (List.map (eM i64) US)]]⟩]) [0] U .nil (by decide) rfl U (.raw U U .nil) ⟨.rfl,.rfl,Rq⟩)).trans (AR (L:=[(2,.ptr 0 0 0 0),(3,.bool false)]) ⟨.rfl,.rfl,Rq⟩)) (EM (x:=.tmp 2) (off:=0) (cs:=[.sl (List.map AI (Sh.put Ua t24 (Cell.mk UK.count UK.tag l39))),.mv (List.map (eM i64) US)]) (vs:=[.sl (List.map AI (Sh.put Ua t24 (Cell.mk UK.count UK.tag l39))),.mv (List.map (eM i64) US)]) E3 U U U UA rfl _ U)))
      ·intro Xn h3;have gB:Xd.2=true:=by simpa using Xn
       refine AJ (YR _ ?_);refine AG (by rfl) ?_;refine zm tb 3 U ?_;refine zz (.ptr 2 0 (Int.toNat t24) 0) (Pj Ce U U U U gc37) rfl ?_;refine zq tb U ?_;refine zz (ow 3 0 l39) (DN Ly U U (IC gc37) rfl) rfl ?_;refine zm tb 3 U ?_;refine zz (.ptr 3 0 (Int.toNat t38) 0) (CT Ak U U U U gc49) rfl ?_;refine Gp (u':=Sh.w (1000+Xd.1)) Ah HB U U gc49 U U U UC rfl U ?_;exact AE (gH (Sh.put l39 t38 (Sh.w (1000+Xd.1))) (Sh.AA h3).symm _ (by refine Wk.trans (Fq (st:=[⟨0,38,2,[[.zc,.mv (List.map (eM i64) ([]:List (Int×Int)))]]⟩,⟨0,38,2,[[.own 2 0 (List.length Ua),.mv (List.map (eM i64) US)]]⟩,⟨0,54,3,hole Ua (Ap 3) t24 [i64 UK.count,i64 UK.tag,.own 3 0 (List.length l39)]⟩,⟨0,3,1,List.map eI (Sh.put l39 t38 (Sh.w (1000+Xd.1)))⟩]) (st':=[⟨0,38,2,[[.zc,.mv (List.map (eM i64) ([]:List (Int×Int)))]]⟩,⟨0,38,2,[[.own 2 0 (List.length Ua),.mv (List.map (eM i64) US)]]⟩,⟨0,54,3,hole Ua (Ap 3) t24 [i64 UK.count,i64 UK.tag,.own 3 0 (List.length (Sh.put l39 t38 (Sh.w (1000+Xd.1))))]⟩,⟨0,3,1,List.map eI (Sh.put l39 t38 (Sh.w (1000+Xd.1)))⟩]) (by simp only[Sh.DC])) ?_;exact AR (L:=[(2,.ptr 0 0 0 0),(4,.ptr 1 0 0 0),(11,i64 t24),(118,i64 (Sh.len Uw)),(119,i64 t24),(127,.own 3 0 (List.length (Sh.put l39 t38 (Sh.w (1000+Xd.1))))),(128,i64 (Sh.len UK.fields)),(129,i64 t38)]) ⟨.rfl,.rfl,.rfl,.rfl,.rfl,(.len (by simp only[Sh.DC])),.rfl,.rfl,Rq⟩))
    ·intro ib h2;exact Ag (ia l39 (Sh.AA h2).symm _ (AD U))
   ·intro WR h1;exact Ag (bR Ua (Sh.AA h1).symm _ (AD U))
 refine AN (Ae (σ:=Int×(List Int)×(List Cell)×(List (Int×Int))) (λn v=>A2 N p0 n v.1 v.2.1 v.2.2.1 v.2.2.2=some aU) (λ(UY,l8,l9,l10)=>⟨161,AX [(1,.ptr 0 0 0 0),(2,.ptr 1 0 0 0),(4,.ptr 3 0 0 0),(5,ow 4 0 l8),(6,i64 UY)],[⟨0,27,2,[AS p0]⟩,⟨0,38,2,[[.zc,.mv (List.map (eM i64) ([]:List (Int×Int)))]]⟩,⟨0,36,1,[[.dv Ur 0 (List.map (eM i64) l10)]]⟩,⟨0,38,2,[[ow 5 0 l9,.mp Ur]]⟩,ro 0 3 1 eI l8,ro 0 54 3 (Ap 3) l9]⟩) N (0,[],[],[]) h1 (by refine Wk.trans ((Cl (t:=5) rfl 3 (size:=1) (by decide)).trans (AR (L:=[(1,.ptr 0 0 0 0),(2,.ptr 1 0 0 0),(4,.ptr 3 0 0 0),(5,.own 4 0 (List.length ([]:List Int))),(6,i64 0)]) ⟨.rfl,.rfl,.rfl,.rfl,.rfl,Rq⟩)) ?_;refine Wk.trans (Hu (id:=3) (st':=[⟨0,27,2,[AS p0]⟩,⟨0,38,2,[[.zc,.mv (List.map (eM i64) ([]:List (Int×Int)))]]⟩,⟨0,36,1,[[.dv Ur 0 (List.map (eM i64) ([]:List (Int×Int)))]]⟩,⟨0,38,2,[[.own 5 0 (List.length ([]:List Cell)),.mp Ur]]⟩,ro 0 3 1 eI ([]:List Int),ro 0 54 3 (Ap 3) ([]:List Cell)]) (j:=0) rfl U 54 (size':=3) (by decide) rfl U U U) ?_;exact AD U) (λ_ hv=>by rw[A2]at hv;cases hv) ?_);rintro n ⟨UY,l8,l9,l10⟩ h1;try dsimp only at h1⊢
 rw[A2]at h1;refine AB λiL Z6=>?_;refine sr U λju eJ=>?_;refine zm tb 3 U ?_;refine zl tb U U ?_;refine zq tb U ?_;refine dn eJ U ?_;refine ci h1 U ?_ ?_<;>clear h1
 ·intro ig h1;refine AJ (Z6 _ ?_);refine AN ?_;refine AB λjv eK=>?_;refine AB λij eL=>?_;obtain⟨gI,h2,h1⟩:=Sh.bind_some h1;have eN:∀(t67:Bool),gI=t67->∀s,Wk 0 s ⟨161,AX [(1,.ptr 0 0 0 0),(2,.ptr 1 0 0 0),(4,.ptr 3 0 0 0),(5,ow 4 0 l8),(6,i64 UY),(45,.bool t67)],[⟨0,27,2,[AS p0]⟩,⟨0,38,2,[[.zc,.mv (List.map (eM i64) ([]:List (Int×Int)))]]⟩,⟨0,36,1,[[.dv Ur 0 (List.map (eM i64) l10)]]⟩,⟨0,38,2,[[ow 5 0 l9,.mp Ur]]⟩,ro 0 3 1 eI l8,ro 0 54 3 (Ap 3) l9]⟩->ij s:=by
   intro t67 hq s hw;subst gI;try dsimp only at h1
   refine eL _ (AH hw ?_);refine ci h1 U ?_ ?_<;>clear h1
   ·intro ik h1;refine sr U λjw eO=>?_;refine BG (Fu (L:=[(2,.ptr 1 0 0 0),(4,.ptr 3 0 0 0)]) (st':=[⟨0,27,2,[AS p0]⟩,⟨0,38,2,[[.zc,.mv (List.map (eM i64) ([]:List (Int×Int)))]]⟩,⟨1,36,1,[]⟩,⟨0,38,2,[[ow 5 0 l9,.mv (List.map (eM i64) l10)]]⟩,ro 0 3 1 eI l8,ro 0 54 3 (Ap 3) l9]) (id:=2) (b:=Ur) (D:=List.map (eM i64) l10) rfl UB ⟨.rfl,.rfl,Rq⟩ (.raw U (.raw U (.pure (by intro x hx;cases hx) (.raw (by simp[Fs]) (.pure (AK λ_=>U) (.deep (Bg λ_=>U) .nil))))))) ?_;refine zq tb U ?_;refine Bs Ah E3 U U U U U U UA rfl ?_;refine zq tb U ?_;refine dn eO U ?_;replace h1:=Sh.AA h1;subst aU;try dsimp only[id]at h0
    replace h0:=Sh.AA h0;subst r;exact AM (Exists.intro _ (And.intro ((((AR (L:=[(2,.ptr 1 0 0 0),(3,.bool false)]) ⟨.rfl,.rfl,Rq⟩).trans (DK (id:=1) (m:=5) (j:=0) (enc':=AI) (st':=[⟨0,27,2,[AS p0]⟩,⟨0,38,2,[[ls AI l9,.mv (List.map (eM i64) l10)]]⟩,⟨1,36,1,[]⟩,⟨0,38,2,[[ow 5 0 l9,.mv (List.map (eM i64) l10)]]⟩,ro 0 3 1 eI l8,⟨1,54,3,[]⟩]) rfl U U U (by decide) UF (λ_=>U) (λx=>Cj x) rfl)).trans (Ab (L:=[(2,.ptr 0 0 0 0),(3,.bool false)]) (st':=[⟨0,38,2,[[ls AI l9,.mv (List.map (eM i64) l10)]]⟩]) (st1:=[⟨0,38,2,[[ls AI l9,.mv (List.map (eM i64) l10)]]⟩]) [1] U .nil (by decide) rfl U (.raw U U .nil) ⟨.rfl,.rfl,Rq⟩)).trans (AR (L:=[(2,.ptr 0 0 0 0),(3,.bool false)]) ⟨.rfl,.rfl,Rq⟩)) (EM (x:=.tmp 2) (off:=0) (cs:=[ls AI l9,.mv (List.map (eM i64) l10)]) (vs:=[ls AI l9,.mv (List.map (eM i64) l10)]) E3 U U U UA rfl _ U)))
   ·intro ik h1;refine AJ (eK _ ?_);refine AB λgC Z7=>?_;refine D5 (by kernel_rfl) (by kernel_rfl) (by rfl) ?_;iterate 3 refine yq tb rfl ?_
    obtain⟨V7,gc72,h1⟩:=Sh.bind_some h1;refine yx Ak gc72 U U U ?_;iterate 5 refine yq tb rfl ?_
    obtain⟨Vv,gc73,h1⟩:=Sh.bind_some h1;refine yx Ak gc73 U U U ?_;iterate 3 refine yq tb rfl ?_
    refine C5 (Z7 _ ?_);refine sr U λiO Z8=>?_;refine zm tb 3 U ?_;refine zz (i64 (Int.tmod Vv 4)) (LL U U (by decide)) rfl ?_;refine zm tb 2 U ?_;refine dn Z8 U ?_;refine AB λjx eP=>?_;refine sr U λiP Z9=>?_;refine zm tb 3 U ?_;refine zl tb U U ?_;refine zq tb U ?_;refine dn Z9 U ?_;refine ci h1 U ?_ ?_<;>clear h1
    ·intro il h1;refine sr U λjy eQ=>?_;refine BG (Fu (L:=[(2,.ptr 1 0 0 0),(4,.ptr 3 0 0 0)]) (st':=[⟨0,27,2,[AS p0]⟩,⟨0,38,2,[[.zc,.mv (List.map (eM i64) ([]:List (Int×Int)))]]⟩,⟨1,36,1,[]⟩,⟨0,38,2,[[ow 5 0 l9,.mv (List.map (eM i64) l10)]]⟩,ro 0 3 1 eI l8,ro 0 54 3 (Ap 3) l9]) (id:=2) (b:=Ur) (D:=List.map (eM i64) l10) rfl UB ⟨.rfl,.rfl,Rq⟩ (.raw U (.raw U (.pure (by intro x hx;cases hx) (.raw (by simp[Fs]) (.pure (AK λ_=>U) (.deep (Bg λ_=>U) .nil))))))) ?_;refine zq tb U ?_;refine Bs Ah E3 U U U U U U UA rfl ?_;refine zq tb U ?_;refine dn eQ U ?_;replace h1:=Sh.AA h1;subst aU;try dsimp only[id]at h0
     replace h0:=Sh.AA h0;subst r;exact AM (Exists.intro _ (And.intro ((((AR (L:=[(2,.ptr 1 0 0 0),(3,.bool false)]) ⟨.rfl,.rfl,Rq⟩).trans (DK (id:=1) (m:=5) (j:=0) (enc':=AI) (st':=[⟨0,27,2,[AS p0]⟩,⟨0,38,2,[[ls AI l9,.mv (List.map (eM i64) l10)]]⟩,⟨1,36,1,[]⟩,⟨0,38,2,[[ow 5 0 l9,.mv (List.map (eM i64) l10)]]⟩,ro 0 3 1 eI l8,⟨1,54,3,[]⟩]) rfl U U U (by decide) UF (λ_=>U) (λx=>Cj x) rfl)).trans (Ab (L:=[(2,.ptr 0 0 0 0),(3,.bool false)]) (st':=[⟨0,38,2,[[ls AI l9,.mv (List.map (eM i64) l10)]]⟩]) (st1:=[⟨0,38,2,[[ls AI l9,.mv (List.map (eM i64) l10)]]⟩]) [1] U .nil (by decide) rfl U (.raw U U .nil) ⟨.rfl,.rfl,Rq⟩)).trans (AR (L:=[(2,.ptr 0 0 0 0),(3,.bool false)]) ⟨.rfl,.rfl,Rq⟩)) (EM (x:=.tmp 2) (off:=0) (cs:=[ls AI l9,.mv (List.map (eM i64) l10)]) (vs:=[ls AI l9,.mv (List.map (eM i64) l10)]) E3 U U U UA rfl _ U)))
    ·intro il h1;refine AJ (eP _ ?_);refine sr U λjz eR=>?_;refine zm tb 5 U ?_;refine zz (i64 (Sh.len l9)) (Ef Lt U U U) rfl ?_;refine Oy (id:=2) (ev:=i64) (st':=[⟨0,27,2,[AS p0]⟩,⟨0,38,2,[[.zc,.mv (List.map (eM i64) ([]:List (Int×Int)))]]⟩,⟨0,36,1,[[.dv Ur 0 (List.map (eM i64) (Sh.BW l10 UY (Sh.len l9)))]]⟩,⟨0,38,2,[[ow 5 0 l9,.mp Ur]]⟩,ro 0 3 1 eI l8,ro 0 54 3 (Ap 3) l9]) Ah O7 (λ_=>U) rfl U U U U ?_;refine dn eR U ?_;refine sr U λkA eT=>?_;refine zm tb 2 U ?_;refine DS (m:=6) (l:=[UY]) (enc:=eI) Ah Ak (by decide) rfl U U U U U ?_;obtain⟨Vh,gl81,h1⟩:=Sh.bind_some h1;refine EA (l2:=[UY]) Ah Ak U U U U (Ic U U) (λ_=>U) gl81 U ?_;refine zq tb U ?_;refine dn eT U ?_;refine sr U λiS aA=>?_;refine zq tb U ?_;refine zz (.agg [i64 V7,i64 0,.zc]) (LW Om Ob I3 U U) rfl ?_;refine Cf (m:=7) Ah I3 U U ?_;refine Bs Ah Nq U U U U U U UE rfl ?_;refine dn aA U ?_;refine AB λim eU=>?_;obtain⟨eV,h2,h1⟩:=Sh.An h1;have gJ:∀(Xv:Int) (Vg:(List Int)),eV=Sum.inr (Xv,Vg)->∀s,Wk 0 s ⟨161,AX [(1,.ptr 0 0 0 0),(2,.ptr 1 0 0 0),(4,.ptr 3 0 0 0),(5,ow 4 0 Vh),(9,i64 (Sh.w ((Sh.w (UY+2))+(Int.tmod Vv 4)))),(10,.ptr 6 0 0 0)],[⟨0,27,2,[AS p0]⟩,⟨0,38,2,[[.zc,.mv (List.map (eM i64) ([]:List (Int×Int)))]]⟩,⟨0,36,1,[[.dv Ur 0 (List.map (eM i64) (Sh.BW l10 UY (Sh.len l9)))]]⟩,⟨0,38,2,[[ow 5 0 l9,.mp Ur]]⟩,ro 0 3 1 eI Vh,ro 0 54 3 (Ap 3) l9,⟨0,54,3,[[i64 V7,i64 Xv,ow 7 0 Vg]]⟩,ro 0 3 1 eI Vg]⟩->im s:=by
      intro Xv Vg hq s hw;subst eV;try dsimp only at h1
      refine eU _ (AH hw ?_);refine sr U λkB eW=>?_;refine zm tb 3 U ?_;refine DS (m:=8) (l:=[()]) (enc:=λ_=>[i64 V7,i64 Xv,ow 7 0 Vg]) Ah Ce (by decide) rfl U U U U U ?_;obtain⟨Ye,gl88,h1⟩:=Sh.bind_some h1;have gK:=Oi gl88;refine Pa (st':=[⟨0,27,2,[AS p0]⟩,⟨0,38,2,[[.zc,.mv (List.map (eM i64) ([]:List (Int×Int)))]]⟩,⟨0,36,1,[[.dv Ur 0 (List.map (eM i64) (Sh.BW l10 UY (Sh.len l9)))]]⟩,⟨0,38,2,[[ow 5 0 l9,.mp Ur]]⟩,ro 0 3 1 eI Vh,⟨1,54,3,hole Ye (Ap 3) (Sh.len l9) [i64 V7,i64 Xv,ow 7 0 Vg]⟩,⟨0,54,3,[[i64 V7,i64 Xv,ow 7 0 Vg]]⟩,ro 0 3 1 eI Vg,⟨0,54,3,[[i64 V7,i64 Xv,ow 7 0 Vg]]⟩]) (c:=(Cell.mk V7 Xv Vg)) Ah Ce U U U U U U U gl88 U ?_;refine BG (Wk.take (id:=5) (m:=7) (j:=2) (i:=Sh.len l9) (c:=(Cell.mk V7 Xv Vg)) (ys:=Vg) (encY:=eI) rfl gK U U U (by decide) (show 0<=7 by decide) (λ_=>U) rfl U) ?_;refine BG (Wk.OC (id:=5) (i:=Sh.len l9) (c:=(Cell.mk V7 Xv Vg)) rfl gK U U) ?_;refine zq tb U ?_;refine Bs Ah Qu U U U U U U (show 0+1<=2 by decide) rfl ?_;refine dn eW U ?_;refine AG (by rfl) ?_;refine zm tb 2 U ?_;exact AE (xi (Sh.w ((Sh.w (UY+2))+(Int.tmod Vv 4)),Vh,Ye,Sh.BW l10 UY (Sh.len l9)) h1 (by refine Wk.trans (Ab (L:=[(1,.ptr 0 0 0 0),(2,.ptr 1 0 0 0),(4,.ptr 3 0 0 0),(5,ow 4 0 Vh),(6,i64 (Sh.w ((Sh.w (UY+2))+(Int.tmod Vv 4))))]) (st':=[⟨0,27,2,[AS p0]⟩,⟨0,38,2,[[.zc,.mv (List.map (eM i64) ([]:List (Int×Int)))]]⟩,⟨0,36,1,[[.dv Ur 0 (List.map (eM i64) (Sh.BW l10 UY (Sh.len l9)))]]⟩,⟨0,38,2,[[ow 5 1 Ye,.mp Ur]]⟩,ro 0 3 1 eI Vh,ro 1 54 3 (Ap 3) Ye]) (st1:=[⟨0,27,2,[AS p0]⟩,⟨0,38,2,[[.zc,.mv (List.map (eM i64) ([]:List (Int×Int)))]]⟩,⟨0,36,1,[[.dv Ur 0 (List.map (eM i64) (Sh.BW l10 UY (Sh.len l9)))]]⟩,⟨0,38,2,[[ow 5 1 Ye,.mp Ur]]⟩,ro 0 3 1 eI Vh,ro 1 54 3 (Ap 3) Ye]) [0,1,2,3,4,5] U .nil (by decide) rfl U (.raw U U (.raw U U (.deep HO (.raw U U (.pure (AK λ_=>U) (.deep (Bg λ_=>U) .nil)))))) ⟨.rfl,.rfl,.rfl,.rfl,.rfl,Rq⟩) ?_;exact Cc (L:=[(1,.ptr 0 0 0 0),(2,.ptr 1 0 0 0),(4,.ptr 3 0 0 0),(5,ow 4 0 Vh),(6,i64 (Sh.w ((Sh.w (UY+2))+(Int.tmod Vv 4))))]) (st':=[⟨0,27,2,[AS p0]⟩,⟨0,38,2,[[.zc,.mv (List.map (eM i64) ([]:List (Int×Int)))]]⟩,⟨0,36,1,[[.dv Ur 0 (List.map (eM i64) (Sh.BW l10 UY (Sh.len l9)))]]⟩,⟨0,38,2,[[ow 5 0 Ye,.mp Ur]]⟩,ro 0 3 1 eI Vh,ro 0 54 3 (Ap 3) Ye]) (.raw U U (.raw U U (.deep HO (.raw U U (.pure (AK λ_=>U) (.deep (Bg λ_=>U) .nil)))))) ⟨.rfl,.rfl,.rfl,.rfl,.rfl,Rq⟩))
     refine zr tb U U ?_;refine ci h2 U ?_ ?_<;>clear h2
     ·intro iq h2;refine AG (by rfl) ?_;refine zq tb U ?_;refine zz (i64 (Sh.w (Int.tdiv Vv 4))) (It U U (by decide)) rfl ?_;refine zm tb 5 U ?_;obtain⟨cC,gl92,h2⟩:=Sh.bind_some h2;refine Iv (i:=Sh.w (UY+2)) (j:=Sh.w ((Sh.w (UY+2))+(Int.tmod Vv 4))) Ah Ak U U U (λ_=>U) gl92 ?_;obtain⟨Xu,gq93,h2⟩:=Sh.bind_some h2;refine DG (v':=(ow 8 0 Xu)) Ah QE (DX gq93) rfl U ⟨(CI λ_=>U),Rq⟩ U U ?_;refine zq tb U ?_;refine Bs Ah HB U U U U U U (show 1+1<=3 by decide) rfl ?_;refine zq tb U ?_;refine Bs Ah Ly U U U U U U (show 2+1<=3 by decide) rfl ?_;exact AE (gJ (Sh.w (Int.tdiv Vv 4)) Xu (Sh.AA h2).symm _ (by refine Wk.trans (Cc (L:=[(1,.ptr 0 0 0 0),(2,.ptr 1 0 0 0),(4,.ptr 3 0 0 0),(5,ow 4 0 Vh),(9,i64 (Sh.w ((Sh.w (UY+2))+(Int.tmod Vv 4)))),(10,.ptr 7 0 0 0)]) (st':=[⟨0,27,2,[AS p0]⟩,⟨0,38,2,[[.zc,.mv (List.map (eM i64) ([]:List (Int×Int)))]]⟩,⟨0,36,1,[[.dv Ur 0 (List.map (eM i64) (Sh.BW l10 UY (Sh.len l9)))]]⟩,⟨0,38,2,[[ow 5 0 l9,.mp Ur]]⟩,ro 0 3 1 eI Vh,ro 0 54 3 (Ap 3) l9,ro 0 3 1 eI [UY],⟨0,54,3,[[i64 V7,i64 (Sh.w (Int.tdiv Vv 4)),ow 8 0 Xu]]⟩,ro 0 3 1 eI Xu]) (.raw U U (.raw U U (.deep HO (.raw U U (.pure (AK λ_=>U) (.deep (Bg λ_=>U) (.pure (AK λ_=>U) (.raw U U (.pure (AK λ_=>U) .nil))))))))) ⟨.rfl,.rfl,.rfl,.rfl,.rfl,.rfl,Rq⟩) ?_;exact Ab (L:=[(1,.ptr 0 0 0 0),(2,.ptr 1 0 0 0),(4,.ptr 3 0 0 0),(5,ow 4 0 Vh),(9,i64 (Sh.w ((Sh.w (UY+2))+(Int.tmod Vv 4)))),(10,.ptr 6 0 0 0)]) (st':=[⟨0,27,2,[AS p0]⟩,⟨0,38,2,[[.zc,.mv (List.map (eM i64) ([]:List (Int×Int)))]]⟩,⟨0,36,1,[[.dv Ur 0 (List.map (eM i64) (Sh.BW l10 UY (Sh.len l9)))]]⟩,⟨0,38,2,[[ow 5 0 l9,.mp Ur]]⟩,ro 0 3 1 eI Vh,ro 0 54 3 (Ap 3) l9,⟨0,54,3,[[i64 V7,i64 (Sh.w (Int.tdiv Vv 4)),ow 7 0 Xu]]⟩,ro 0 3 1 eI Xu]) (st1:=[⟨0,27,2,[AS p0]⟩,⟨0,38,2,[[.zc,.mv (List.map (eM i64) ([]:List (Int×Int)))]]⟩,⟨0,36,1,[[.dv Ur 0 (List.map (eM i64) (Sh.BW l10 UY (Sh.len l9)))]]⟩,⟨0,38,2,[[ow 5 0 l9,.mp Ur]]⟩,ro 0 3 1 eI Vh,ro 0 54 3 (Ap 3) l9,⟨0,54,3,[[i64 V7,i64 (Sh.w (Int.tdiv Vv 4)),ow 8 0 Xu]]⟩,ro 0 3 1 eI Xu]) [0,1,2,3,4,5,7,8] U .nil (by decide) rfl U (.raw U U (.raw U U (.deep HO (.raw U U (.pure (AK λ_=>U) (.deep (Bg λ_=>U) (.raw U U (.pure (AK λ_=>U) .nil)))))))) ⟨.rfl,.rfl,.rfl,.rfl,.rfl,.rfl,Rq⟩))
     ·intro iq h2;refine sr U λgG aB=>?_;refine zm tb 5 U ?_;obtain⟨cD,gl95,h2⟩:=Sh.bind_some h2;refine Iv (i:=Sh.w (UY+2)) (j:=Sh.w ((Sh.w (UY+2))+(Int.tmod Vv 4))) Ah Ak U U U (λ_=>U) gl95 ?_;obtain⟨aQ,gq96,h2⟩:=Sh.bind_some h2;refine zc Qz (H3 gq96) rfl U U ?_;refine zq tb U ?_;refine dn aB U ?_;refine ci h2 U ?_ ?_<;>clear h2
      ·intro eX h2;have kC:aQ=false:=by simpa using eX
       refine sr U λkD eY=>?_;refine BG (Fu (L:=[(2,.ptr 1 0 0 0),(4,.ptr 3 0 0 0)]) (st':=[⟨0,27,2,[AS p0]⟩,⟨0,38,2,[[.zc,.mv (List.map (eM i64) ([]:List (Int×Int)))]]⟩,⟨1,36,1,[]⟩,⟨0,38,2,[[ow 5 0 l9,.mv (List.map (eM i64) (Sh.BW l10 UY (Sh.len l9)))]]⟩,ro 1 3 1 eI Vh,ro 0 54 3 (Ap 3) l9,ro 0 3 1 eI [UY],⟨0,54,3,[[i64 V7,i64 0,.zc]]⟩]) (id:=2) (b:=Ur) (D:=List.map (eM i64) (Sh.BW l10 UY (Sh.len l9))) rfl UB ⟨.rfl,.rfl,Rq⟩ (.raw U (.raw U (.pure (by intro x hx;cases hx) (.raw (by simp[Fs]) (.pure (AK λ_=>U) (.deep (Bg λ_=>U) (.pure (AK λ_=>U) (.raw U .nil))))))))) ?_;refine zq tb U ?_;refine Bs Ah E3 U U U U U U UA rfl ?_;refine zq tb U ?_;refine dn eY U ?_;replace h2:=Sh.AA h2;subst eV;try dsimp only[id]at h1
       replace h1:=Sh.AA h1;subst aU;try dsimp only[id]at h0
       replace h0:=Sh.AA h0;subst r;exact AM (Exists.intro _ (And.intro ((((AR (L:=[(2,.ptr 1 0 0 0),(3,.bool false)]) ⟨.rfl,.rfl,Rq⟩).trans (DK (id:=1) (m:=5) (j:=0) (enc':=AI) (st':=[⟨0,27,2,[AS p0]⟩,⟨0,38,2,[[ls AI l9,.mv (List.map (eM i64) (Sh.BW l10 UY (Sh.len l9)))]]⟩,⟨1,36,1,[]⟩,⟨0,38,2,[[ow 5 0 l9,.mv (List.map (eM i64) (Sh.BW l10 UY (Sh.len l9)))]]⟩,ro 1 3 1 eI Vh,⟨1,54,3,[]⟩,ro 0 3 1 eI [UY],⟨0,54,3,[[i64 V7,i64 0,.zc]]⟩]) rfl U U U (by decide) UF (λ_=>U) (λx=>Cj x) rfl)).trans (Ab (L:=[(2,.ptr 0 0 0 0),(3,.bool false)]) (st':=[⟨0,38,2,[[ls AI l9,.mv (List.map (eM i64) (Sh.BW l10 UY (Sh.len l9)))]]⟩]) (st1:=[⟨0,38,2,[[ls AI l9,.mv (List.map (eM i64) (Sh.BW l10 UY (Sh.len l9)))]]⟩]) [1] U .nil (by decide) rfl U (.raw U U .nil) ⟨.rfl,.rfl,Rq⟩)).trans (AR (L:=[(2,.ptr 0 0 0 0),(3,.bool false)]) ⟨.rfl,.rfl,Rq⟩)) (EM (x:=.tmp 2) (off:=0) (cs:=[ls AI l9,.mv (List.map (eM i64) (Sh.BW l10 UY (Sh.len l9)))]) (vs:=[ls AI l9,.mv (List.map (eM i64) (Sh.BW l10 UY (Sh.len l9)))]) E3 U U U UA rfl _ U)))
      ·intro eX h2;have Y2:aQ=true:=by simpa using eX
       exact AJ (gJ 0 [] (Sh.AA h2).symm _ (by refine Wk.trans (Hu (id:=7) (st':=[⟨0,27,2,[AS p0]⟩,⟨0,38,2,[[.zc,.mv (List.map (eM i64) ([]:List (Int×Int)))]]⟩,⟨0,36,1,[[.dv Ur 0 (List.map (eM i64) (Sh.BW l10 UY (Sh.len l9)))]]⟩,⟨0,38,2,[[ow 5 0 l9,.mp Ur]]⟩,ro 1 3 1 eI Vh,ro 0 54 3 (Ap 3) l9,ro 0 3 1 eI [UY],⟨0,54,3,[[i64 V7,i64 0,.own 8 0 (List.length ([]:List Int))]]⟩,ro 0 3 1 eI ([]:List Int)]) (j:=2) rfl U 3 (size':=1) (by decide) rfl U U U) ?_;refine Wk.trans (Cc (L:=[(1,.ptr 0 0 0 0),(2,.ptr 1 0 0 0),(4,.ptr 3 0 0 0),(5,ow 4 0 Vh),(9,i64 (Sh.w ((Sh.w (UY+2))+(Int.tmod Vv 4)))),(10,.ptr 7 0 0 0)]) (st':=[⟨0,27,2,[AS p0]⟩,⟨0,38,2,[[.zc,.mv (List.map (eM i64) ([]:List (Int×Int)))]]⟩,⟨0,36,1,[[.dv Ur 0 (List.map (eM i64) (Sh.BW l10 UY (Sh.len l9)))]]⟩,⟨0,38,2,[[ow 5 0 l9,.mp Ur]]⟩,ro 0 3 1 eI Vh,ro 0 54 3 (Ap 3) l9,ro 0 3 1 eI [UY],⟨0,54,3,[[i64 V7,i64 0,.own 8 0 (List.length ([]:List Int))]]⟩,ro 0 3 1 eI ([]:List Int)]) (.raw U U (.raw U U (.deep HO (.raw U U (.pure (AK λ_=>U) (.deep (Bg λ_=>U) (.pure (AK λ_=>U) (.raw U U (.pure (AK λ_=>U) .nil))))))))) ⟨.rfl,.rfl,.rfl,.rfl,.rfl,.rfl,Rq⟩) ?_;exact Ab (L:=[(1,.ptr 0 0 0 0),(2,.ptr 1 0 0 0),(4,.ptr 3 0 0 0),(5,ow 4 0 Vh),(9,i64 (Sh.w ((Sh.w (UY+2))+(Int.tmod Vv 4)))),(10,.ptr 6 0 0 0)]) (st':=[⟨0,27,2,[AS p0]⟩,⟨0,38,2,[[.zc,.mv (List.map (eM i64) ([]:List (Int×Int)))]]⟩,⟨0,36,1,[[.dv Ur 0 (List.map (eM i64) (Sh.BW l10 UY (Sh.len l9)))]]⟩,⟨0,38,2,[[ow 5 0 l9,.mp Ur]]⟩,ro 0 3 1 eI Vh,ro 0 54 3 (Ap 3) l9,⟨0,54,3,[[i64 V7,i64 0,.own 7 0 (List.length ([]:List Int))]]⟩,ro 0 3 1 eI ([]:List Int)]) (st1:=[⟨0,27,2,[AS p0]⟩,⟨0,38,2,[[.zc,.mv (List.map (eM i64) ([]:List (Int×Int)))]]⟩,⟨0,36,1,[[.dv Ur 0 (List.map (eM i64) (Sh.BW l10 UY (Sh.len l9)))]]⟩,⟨0,38,2,[[ow 5 0 l9,.mp Ur]]⟩,ro 0 3 1 eI Vh,ro 0 54 3 (Ap 3) l9,⟨0,54,3,[[i64 V7,i64 0,.own 8 0 (List.length ([]:List Int))]]⟩,ro 0 3 1 eI ([]:List Int)]) [0,1,2,3,4,5,7,8] U .nil (by decide) rfl U (.raw U U (.raw U U (.deep HO (.raw U U (.pure (AK λ_=>U) (.deep (Bg λ_=>U) (.raw U U (.pure (AK λ_=>U) .nil)))))))) ⟨.rfl,.rfl,.rfl,.rfl,.rfl,.rfl,Rq⟩))
  refine AG (by rfl) ?_;refine zm tb 2 U ?_;refine zl tb U U ?_;refine zm tb 4 U ?_;rcases Sh.Ac h2 with ⟨V8,h2⟩|⟨V8,h2⟩
  ·refine zs V8 U ?_;iterate 5 refine zs V8 rfl ?_
   refine zt V8 U ?_;refine zq tb U ?_;iterate 7 refine zs rfl rfl ?_
   refine zt U U ?_;exact AE (eN true (Sh.AA h2).symm _ (AD U))
  ·refine zg tb V8 U ?_;iterate 2 refine zg tb V8 rfl ?_
   obtain⟨YG,gc102,h2⟩:=Sh.bind_some h2;refine BZ (v:=(.A6 (eI YG) 0)) (B8 U U V8) rfl (B0 Ak U U gc102 U) ?_;iterate 2 refine zg tb V8 rfl ?_
   refine zf V8 U ?_;refine zq tb U ?_;rcases Sh.Ac h2 with ⟨V9,h2⟩|⟨V9,h2⟩
   ·refine zs V9 U ?_;iterate 6 refine zs V9 rfl ?_
    refine zt V9 U ?_;exact AE (eN true (Sh.AA h2).symm _ (AD U))
   ·refine zg tb V9 U ?_;iterate 3 refine zg tb V9 rfl ?_
    obtain⟨Xe,gc104,h2⟩:=Sh.bind_some h2;refine BZ (v:=(.A6 (eI Xe) 0)) (B8 U U V9) rfl (B0 Ak U U gc104 U) ?_;iterate 2 refine zg tb V9 rfl ?_
    refine zf V9 U ?_;exact AE (eN (decide (Xe<0)) (Sh.AA h2).symm _ (AD U))
 ·intro ig h1;exact Ag (iZ l8 l9 l10 (Sh.AA h1).symm _ (AD U))
theorem Gf {N:Nat}{p0:Al}{r:Bool}(h0:C3 N p0=some r):AY Try.prog 8 [.agg (AS p0)] [] (λv st=>v=(.bool r)/\st=[]):=by
 unfold C3 at h0;refine ai Try.func8 U U U U ?_;refine sr U λK1 VU=>?_;refine Co (m:=0) Ah U U U U U ?_;refine zq tb U ?_;refine dn VU U ?_;refine sr U λK2 UL=>?_;refine zq tb U ?_;obtain⟨q3,gq3,h0⟩:=Sh.bind_some h0;refine zc (v':=(.BK [.agg [ls AI q3.1.cells,.mv (List.map (eM i64) q3.1.index)],.bool q3.2])) RD (Gw gq3) rfl U U ?_;refine zm tb 3 U ?_;refine Cf (m:=1) Ah Nh U U ?_;refine Bs Ah E3 U U U U U U UA rfl ?_;refine zq tb U ?_;refine dn UL U ?_;refine zr tb U U ?_;replace h0:=Sh.AA h0;subst r;exact AM (xr (Ai [(2,.bool q3.2)] U))
theorem F5 {N:Nat}{p0:(List Int)}{p1:(List Int)}{r:Bool}(h0:DL N p0 p1=some r):AY Try.prog 16 [ls eI p0,ls eI p1] [] (λv st=>v=(.bool r)/\st=[]):=by
 unfold DL at h0;refine ai Try.func16 U U U U ?_;refine zr tb U U ?_;refine AB λK2 UL=>?_;refine sr U λK3 Uu=>?_;refine zq tb U ?_;refine zl tb U U ?_;refine zq tb U ?_;refine zl tb U U ?_;refine zq tb U ?_;refine dn Uu U ?_;refine ci h0 U ?_ ?_<;>clear h0
 ·intro b4 h0;have b5:decide ((Sh.len p0)=(Sh.len p1))=false:=by simpa using b4
  refine zr tb U U ?_;replace h0:=Sh.AA h0;subst r;exact AM (xr (AR (L:=[(4,.bool false)]) ⟨.rfl,Rq⟩))
 ·intro b4 h0;have b7:decide ((Sh.len p0)=(Sh.len p1))=true:=by simpa using b4
  refine AJ (UL _ ?_);refine AB λK8 Vd=>?_;refine zr tb U U ?_;obtain⟨Wj,h1,h0⟩:=Sh.An h0;have YL:∀(_:Unit),Wj=Sum.inr ()->∀s,Wk 0 s ⟨26,AX [],[]⟩->K8 s:=by
   intro _ hq s hw;subst Wj;try dsimp only at h0
   refine Vd _ (AH hw ?_);refine zr tb U U ?_;replace h0:=Sh.AA h0;subst r;exact AM (xr (AR (L:=[(4,.bool true)]) ⟨.rfl,Rq⟩))
  refine AN (Ae (σ:=Int) (λn v=>Bf p0 p1 n v=some Wj) (λi10=>⟨26,AX [(0,ls eI p0),(1,ls eI p1),(5,i64 i10)],[]⟩) N 0 h1 (AD U) (λ_ hv=>by rw[Bf]at hv;cases hv) ?_);rintro n i10 h1;try dsimp only at h1⊢
  rw[Bf]at h1;refine AB λYw VW=>?_;refine sr U λXx U6=>?_;refine zm tb 2 U ?_;refine zl tb U U ?_;refine zq tb U ?_;refine dn U6 U ?_;refine ci h1 U ?_ ?_<;>clear h1
  ·intro aT h1;refine AJ (VW _ ?_);refine AB λZM VX=>?_;refine AN ?_;refine AB λiD Z1=>?_;refine D5 (by kernel_rfl) (by kernel_rfl) (by rfl) ?_;iterate 2 refine yq tb rfl ?_
   obtain⟨bw,gc18,h1⟩:=Sh.bind_some h1;refine yx Ak gc18 U U U ?_;iterate 3 refine yq tb rfl ?_
   obtain⟨Yt,gc19,h1⟩:=Sh.bind_some h1;refine yx Ak gc19 U U U ?_;iterate 2 refine yq tb rfl ?_
   refine C5 (Z1 _ ?_);refine ci h1 U ?_ ?_<;>clear h1
   ·intro eZ h1;have dc:decide (bw=Yt)=false:=by simpa using eZ
    refine zr tb U U ?_;replace h1:=Sh.AA h1;subst Wj;try dsimp only[id]at h0
    replace h0:=Sh.AA h0;subst r;exact AM (xr (AR (L:=[(4,.bool false)]) ⟨.rfl,Rq⟩))
   ·intro eZ h1;have Xl:decide (bw=Yt)=true:=by simpa using eZ
    refine AJ (VX _ ?_);refine AG (by rfl) ?_;refine zm tb 3 U ?_;exact AE (xi (Sh.w (i10+1)) h1 (AD U))
  ·intro aT h1;exact Ag (YL () (Sh.AA h1).symm _ (AD U))
theorem Ho {N:Nat}{p0 p1:Al}{r:Bool}(h0:DE N p0 p1=some r):AY Try.prog 9 [.agg (AS p0),.agg (AS p1)] [] (λv st=>v=(.bool r)/\st=[]):=by
 unfold DE at h0;refine ai Try.func9 U U U U ?_;refine sr U λK1 VU=>?_;refine Co (m:=0) Ah U U U U U ?_;refine Co (m:=1) Ah U U U U U ?_;refine zq tb U ?_;refine dn VU U ?_;refine AB λK2 UL=>?_;refine sr U λK3 Uu=>?_;refine zm tb 4 U ?_;obtain⟨q4,gq4,h0⟩:=Sh.bind_some h0;refine zc QH (F5 gq4) rfl U U ?_;refine zq tb U ?_;refine dn Uu U ?_;refine ci h0 U ?_ ?_<;>clear h0
 ·intro b5 h0;have b6:q4=false:=by simpa using b5
  refine zr tb U U ?_;replace h0:=Sh.AA h0;subst r;exact AM (xr (Ai [(4,.bool false)] U))
 ·intro b5 h0;have b8:q4=true:=by simpa using b5
  refine AJ (UL _ ?_);refine AB λK9 YJ=>?_;refine sr U λW7 Uc=>?_;refine zm tb 4 U ?_;obtain⟨Wf,gq11,h0⟩:=Sh.bind_some h0;refine zc QH (F5 gq11) rfl U U ?_;refine zq tb U ?_;refine dn Uc U ?_;refine ci h0 U ?_ ?_<;>clear h0
  ·intro Vi h0;have XN:Wf=false:=by simpa using Vi
   refine zr tb U U ?_;replace h0:=Sh.AA h0;subst r;exact AM (xr (Ai [(4,.bool false)] U))
  ·intro Vi h0;have aT:Wf=true:=by simpa using Vi
   refine AJ (YJ _ ?_);refine zr tb U U ?_;replace h0:=Sh.AA h0;subst r;exact AM (xr (Ai [(4,.bool true)] U))
theorem Ea {N:Nat}{p0:Al}{r:Bool}(h0:B1 N p0=some r):AY Try.prog 3 [.agg (AS p0)] [] (λv st=>v=(.bool r)/\st=[]):=by
 unfold B1 at h0;refine ai Try.func3 U U U U ?_;refine sr U λK1 VU=>?_;refine Co (m:=0) Ah U U U U U ?_;refine zq tb U ?_;refine dn VU U ?_;refine zr tb U U ?_;refine sr U λK3 Uu=>?_;refine zm tb 2 U ?_;obtain⟨q4,gq4,h0⟩:=Sh.bind_some h0;refine zc Rg (Hc gq4) rfl U U ?_;refine zq tb U ?_;refine dn Uu U ?_;refine AB λK5 Xg=>?_;refine zr tb U U ?_;refine ci h0 U ?_ ?_<;>clear h0
 ·intro b7 h0;refine zr tb U U ?_;replace h0:=Sh.AA h0;subst r;exact AM (xr (Ai [(2,.bool true)] U))
 ·intro b7 h0;refine AJ (Xg _ ?_);refine sr U λK9 YJ=>?_;refine zq tb U ?_;obtain⟨XL,gq10,h0⟩:=Sh.bind_some h0;refine DG (v':=(.agg [ow 1 0 XL.words,ow 2 0 XL.free])) Ah QQ (Ds gq10) rfl U ⟨(CI λ_=>U),⟨(CI λ_=>U),Rq⟩⟩ U U ?_;refine BG (Wk.Dw (L:=[(1,.ptr 0 0 0 0),(13,.agg [ls eI XL.words,ow 2 0 XL.free])]) (st':=[⟨0,24,2,[AS p0]⟩,⟨1,3,1,[]⟩,ro 0 3 1 eI XL.free]) (id:=1) rfl UD (AK λ_=>U) ⟨.rfl,.agg ⟨.Dm U,.rfl,Rq⟩,Rq⟩ U) ?_;refine BG (Wk.Dw (L:=[(1,.ptr 0 0 0 0),(13,.agg (AS XL))]) (st':=[⟨0,24,2,[AS p0]⟩,⟨1,3,1,[]⟩,⟨1,3,1,[]⟩]) (id:=2) rfl UB (AK λ_=>U) ⟨.rfl,.agg ⟨.rfl,.Dm U,Rq⟩,Rq⟩ U) ?_;obtain⟨Wf,gq11,h0⟩:=Sh.bind_some h0;refine zc Re (GQ gq11) rfl U U ?_;refine zq tb U ?_;refine dn YJ U ?_;refine sr U λaR VV=>?_;refine zq tb U ?_;obtain⟨V4,gq13,h0⟩:=Sh.bind_some h0;refine DG (v':=(.agg [ow 3 0 V4.words,ow 4 0 V4.free])) Ah QQ (Ds gq13) rfl U ⟨(CI λ_=>U),⟨(CI λ_=>U),Rq⟩⟩ U U ?_;refine Cf (m:=5) Ah PU U U ?_;refine BG (Wk.Dw (L:=[(1,.ptr 0 0 0 0),(4,.bool Wf),(5,.ptr 5 0 0 0),(16,.agg [ls eI V4.words,ow 4 0 V4.free])]) (st':=[⟨0,24,2,[AS p0]⟩,⟨1,3,1,[]⟩,⟨1,3,1,[]⟩,⟨1,3,1,[]⟩,ro 0 3 1 eI V4.free,⟨0,27,2,[[.zc,.zc]]⟩]) (id:=3) rfl UG (AK λ_=>U) ⟨.rfl,.rfl,.rfl,.agg ⟨.Dm U,.rfl,Rq⟩,Rq⟩ U) ?_;refine BG (Wk.Dw (L:=[(1,.ptr 0 0 0 0),(4,.bool Wf),(5,.ptr 5 0 0 0),(16,.agg (AS V4))]) (st':=[⟨0,24,2,[AS p0]⟩,⟨1,3,1,[]⟩,⟨1,3,1,[]⟩,⟨1,3,1,[]⟩,⟨1,3,1,[]⟩,⟨0,27,2,[[.zc,.zc]]⟩]) (id:=4) rfl (show 0<=4 by decide) (AK λ_=>U) ⟨.rfl,.rfl,.rfl,.agg ⟨.rfl,.Dm U,Rq⟩,Rq⟩ U) ?_;refine Bs Ah O4 U U U U U U UA rfl ?_;refine dn VV U ?_;refine sr U λXx U6=>?_;refine zq tb U ?_;obtain⟨bD,gq15,h0⟩:=Sh.bind_some h0;refine zc Rc (Gf gq15) rfl U U ?_;refine zq tb U ?_;refine dn U6 U ?_;refine AB λZM VX=>?_;refine zr tb U U ?_;refine ci h0 U ?_ ?_<;>clear h0
  ·intro Wi h0;refine zr tb U U ?_;replace h0:=Sh.AA h0;subst r;exact AM (xr (Ai [(2,.bool false)] U))
  ·intro Wi h0;refine AJ (VX _ ?_);refine AB λaS Vs=>?_;refine AB λdS XE=>?_;refine D5 (by kernel_rfl) (by kernel_rfl) (by rfl) ?_;iterate 2 refine yq tb rfl ?_
   obtain⟨Xt,gq22,h0⟩:=Sh.bind_some h0;refine Gu (v:=(.agg (AS Xt))) Ah QQ (AY.wk (Ds gq22) (by refine Wk.trans (Wk.Dw (L:=[(0,.agg [ls eI Xt.words,ow 1 0 Xt.free])]) (st':=[⟨1,3,1,[]⟩,ro 0 3 1 eI Xt.free]) (id:=0) rfl (show 0<=0 by decide) (AK λ_=>U) ⟨.agg ⟨.Dm U,.rfl,Rq⟩,Rq⟩ U) ?_;refine Wk.trans (Wk.Dw (L:=[(0,.agg (AS Xt))]) (st':=[⟨1,3,1,[]⟩,⟨1,3,1,[]⟩]) (id:=1) rfl UD (AK λ_=>U) ⟨.agg ⟨.rfl,.Dm U,Rq⟩,Rq⟩ U) ?_;refine Wk.trans (Ab (L:=[(0,.agg (AS Xt))]) (st':=[]) (st1:=[]) [] U .nil (by decide) rfl U .nil ⟨.rfl,Rq⟩) ?_;exact AR (L:=[(0,.agg (AS Xt))]) ⟨.rfl,Rq⟩)) rfl U U ?_;obtain⟨Yq,gq23,h0⟩:=Sh.bind_some h0;refine Gu (v:=(.bool Yq)) Ah Ri (Ho gq23) rfl U U ?_;refine yq tb U ?_;refine C5 (XE _ ?_);refine ci h0 U ?_ ?_<;>clear h0
   ·intro Ve h0;have dZ:Yq=false:=by simpa using Ve
    refine zr tb U U ?_;replace h0:=Sh.AA h0;subst r;exact AM (xr (Ai [(2,.bool false)] U))
   ·intro Ve h0;have cH:Yq=true:=by simpa using Ve
    refine AJ (Vs _ ?_);refine zr tb U U ?_;replace h0:=Sh.AA h0;subst r;exact AM (xr (Ai [(2,.bool true)] U))
end Go.Proofs.Ytfkncfjpobjbjaa
