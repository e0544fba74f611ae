import Derived.Test.YtfkncfjpobjbjaaProg
import Derived.Test.YtfkncfjpobjbjaaGAbsZQToAbsZW
set_option linter.all false
namespace Go.Proofs.Ytfkncfjpobjbjaa
open Go Go.Abs RC
attribute [local irreducible] Go.Abs.Bj
set_option maxRecDepth 100000
set_option maxHeartbeats 4000000
def tb:FJ Try.prog where
 t:=[(22,false,1),(24,true,2),(27,true,2),(3,false,1),(35,false,1),(36,false,1),(38,true,2),(4,false,1),(54,true,3),(66,false,1)]
 f:=[(24,0,0),(24,1,1),(27,0,0),(27,1,1),(38,0,0),(38,1,1),(54,0,0),(54,1,1),(54,2,2)]
 v:=[]
 b:=[]
 s:=[22,35,66]
 ht:=by kernel_rfl
 hf:=by kernel_rfl
 hv:=by kernel_rfl
 hb:=by kernel_rfl
 hs:=by kernel_rfl
theorem RX:Gb Try.prog 38=true:=by kernel_rfl
theorem PM:Gb Try.prog 54=true:=by kernel_rfl
theorem RS:Hs Try.prog 38=some [(0,1),(1,1)]:=by kernel_rfl
theorem O3:Hs Try.prog 54=some [(0,1),(1,1),(2,1)]:=by kernel_rfl
theorem Ak:CG Try.prog 22=some ⟨3,1,8,[.int .i64 0]⟩:=by kernel_rfl
theorem Ce:CG Try.prog 35=some ⟨54,3,40,[.int .i64 0,.int .i64 0,.sl []]⟩:=by kernel_rfl
theorem QP:CG Try.prog 66=some ⟨54,3,40,[.int .i64 0,.int .i64 0,.sl []]⟩:=by kernel_rfl
theorem Nx:CG Try.prog 69=some ⟨4,1,1,[.bool false]⟩:=by kernel_rfl
theorem RJ:AZ Try.prog 10=true:=by kernel_rfl
theorem Qv:AZ Try.prog 11=true:=by kernel_rfl
theorem QO:AZ Try.prog 12=true:=by kernel_rfl
theorem RK:AZ Try.prog 13=true:=by kernel_rfl
theorem QI:AZ Try.prog 14=true:=by kernel_rfl
theorem Q4:AZ Try.prog 15=true:=by kernel_rfl
theorem QF:AZ Try.prog 16=true:=by kernel_rfl
theorem RT:AZ Try.prog 17=true:=by kernel_rfl
theorem PO:AZ Try.prog 18=true:=by kernel_rfl
theorem QM:AZ Try.prog 19=true:=by kernel_rfl
theorem QN:AZ Try.prog 20=true:=by kernel_rfl
theorem RF:AZ Try.prog 21=true:=by kernel_rfl
theorem RA:AZ Try.prog 22=true:=by kernel_rfl
theorem Re:AZ Try.prog 23=true:=by kernel_rfl
theorem Qz:AZ Try.prog 24=true:=by kernel_rfl
theorem Rg:AZ Try.prog 25=true:=by kernel_rfl
theorem QQ:AZ Try.prog 26=true:=by kernel_rfl
theorem Ra:AZ Try.prog 27=true:=by kernel_rfl
theorem Rj:AZ Try.prog 28=true:=by kernel_rfl
theorem QJ:AZ Try.prog 29=true:=by kernel_rfl
theorem Q0:AZ Try.prog 30=true:=by kernel_rfl
theorem Rc:AZ Try.prog 31=true:=by kernel_rfl
theorem Nj:AZ Try.prog 32=true:=by kernel_rfl
theorem Oa:AZ Try.prog 33=true:=by kernel_rfl
theorem Nz:AZ Try.prog 34=true:=by kernel_rfl
theorem RU:AZ Try.prog 35=true:=by kernel_rfl
theorem Rf:AZ Try.prog 36=true:=by kernel_rfl
theorem Qu:AZ Try.prog 37=true:=by kernel_rfl
theorem RV:AZ Try.prog 38=true:=by kernel_rfl
theorem Q5:AZ Try.prog 39=true:=by kernel_rfl
theorem RR:AZ Try.prog 40=true:=by kernel_rfl
theorem RB:AZ Try.prog 41=true:=by kernel_rfl
theorem RQ:AZ Try.prog 42=true:=by kernel_rfl
theorem Ni:AZ Try.prog 43=true:=by kernel_rfl
theorem RH:AZ Try.prog 44=true:=by kernel_rfl
theorem Qy:AZ Try.prog 45=true:=by kernel_rfl
theorem QT:AZ Try.prog 46=true:=by kernel_rfl
theorem RI:AZ Try.prog 47=true:=by kernel_rfl
theorem RL:AZ Try.prog 48=true:=by kernel_rfl
theorem RZ:AZ Try.prog 49=true:=by kernel_rfl
theorem Rn:AZ Try.prog 5=true:=by kernel_rfl
theorem Oj:AZ Try.prog 50=true:=by kernel_rfl
theorem RW:AZ Try.prog 51=true:=by kernel_rfl
theorem Qo:AZ Try.prog 7=true:=by kernel_rfl
theorem Rl:AZ Try.prog 9=true:=by kernel_rfl
theorem Oz:FE Try.prog 36=some (i64 0):=by kernel_rfl
theorem PN:FE Try.prog 64=some (.bool false):=by kernel_rfl
theorem F6:CM Try.prog 22=true:=by kernel_rfl
theorem MP:CM Try.prog 35=true:=by kernel_rfl
theorem MU:CI Try.prog 22=some (false,1):=by kernel_rfl
theorem Oi:CI Try.prog 27=some (true,2):=by kernel_rfl
theorem Ha:CI Try.prog 3=some (false,1):=by kernel_rfl
theorem RN:CI Try.prog 35=some (false,1):=by kernel_rfl
theorem E6:CI Try.prog 38=some (true,2):=by kernel_rfl
theorem Q8:CI Try.prog 4=some (false,1):=by kernel_rfl
theorem Nq:CI Try.prog 54=some (true,3):=by kernel_rfl
theorem QR:CI Try.prog 66=some (false,1):=by kernel_rfl
theorem PS:FG Try.prog 27=some [.zc,.zc]:=by kernel_rfl
theorem Nv:FG Try.prog 38=some [.zc,.mv []]:=by kernel_rfl
theorem JH:FG Try.prog 54=some [.int .i64 0,.int .i64 0,.zc]:=by kernel_rfl
theorem Rh:FG Try.prog 66=some [.zc]:=by kernel_rfl
theorem F9 {p0:(List Int)}{p1 r:Int}(h0:DR p0 p1=some r):AY Try.prog 12 [ls eI p0,i64 p1] [] (λv st=>v=(i64 r)/\st=[]):=by
 unfold DR at h0;refine ai Try.func12 U U U U ?_;refine zr tb U U ?_;refine sr U λK2 UQ=>?_;refine zm tb 2 U ?_;refine zl tb U U ?_;refine zm tb 2 U ?_;refine dn UQ U ?_;refine AB λK3 Uv=>?_;refine zr tb U U ?_;refine ci h0 U ?_ ?_<;>clear h0
 ·intro b5 h0;refine zr tb U U ?_;replace h0:=Sh.AA h0;subst r;exact AM (xr (AR (L:=[(4,i64 (-1))]) ⟨.rfl,Ru⟩))
 ·intro b5 h0;refine AJ (Uv _ ?_);refine zr tb U U ?_;replace h0:=Sh.AA h0;subst r;exact AM (xr (AR (L:=[(4,i64 (Sh.w (p1-(Sh.len p0))))]) ⟨.rfl,Ru⟩))
theorem Hr {p0:Aj}{p1 r:Int}(h0:DH p0 p1=some r):AY Try.prog 5 [.agg (AS p0),i64 p1] [] (λv st=>v=(i64 r)/\st=[]):=by
 unfold DH at h0;refine ai Try.func5 U U U U ?_;refine sr U λK1 VQ=>?_;refine Ca (m:=0) Ai U U U U U ?_;refine zq tb U ?_;refine dn VQ U ?_;refine sr U λK2 UQ=>?_;refine zm tb 3 U ?_;obtain⟨q3,gq3,h0⟩:=Sh.bind_some h0;refine zc QO (F9 gq3) rfl U U ?_;refine zq tb U ?_;refine dn UQ U ?_;refine AB λK4 WT=>?_;refine zr tb U U ?_;refine ci h0 U ?_ ?_<;>clear h0
 ·intro b6 h0;refine zr tb U U ?_;replace h0:=Sh.AA h0;subst r;exact AM (xr (Ag [(4,i64 (-1))] U))
 ·intro b6 h0;refine AJ (WT _ ?_);refine sr U λK8 Vb=>?_;refine zm tb 3 U ?_;obtain⟨q9,gq9,h0⟩:=Sh.bind_some h0;refine zc QO (F9 gq9) rfl U U ?_;refine zq tb U ?_;refine dn Vb U ?_;refine AB λWq Ub=>?_;refine zr tb U U ?_;refine ci h0 U ?_ ?_<;>clear h0
  ·intro Vn h0;refine zr tb U U ?_;replace h0:=Sh.AA h0;subst r;exact AM (xr (Ag [(4,i64 (-1))] U))
  ·intro Vn h0;refine AJ (Ub _ ?_);refine zr tb U U ?_;replace h0:=Sh.AA h0;subst r;exact AM (xr (Ag [(4,i64 q9)] U))
theorem F5 {N:Nat}{p0:(List Int)}{r:(List Int)}(h0:DM N p0=some r):AY Try.prog 14 [ls eI p0] [] (λv st=>v=(ow 0 0 r)/\st=[ro 0 3 1 eI r]):=by
 unfold DM at h0;refine ai Try.func14 U U U U ?_;refine zr tb U U ?_;refine sr U λK2 UQ=>?_;refine zq tb U ?_;refine zl tb U U ?_;obtain⟨l3,gl3,h0⟩:=Sh.bind_some h0;refine H3 (m:=0) (enc:=eI) (u:=0) Ai Ak U U U gl3 U U ?_;refine zq tb U ?_;refine dn UQ U ?_;refine AB λK4 WT=>?_;refine zr tb U U ?_;obtain⟨o9,h1,h0⟩:=Sh.bind_some h0;have M9:∀(l8:(List Int)),o9=l8->∀s,Wk 0 s ⟨22,AX [(3,ow 0 0 l8)],[ro 0 3 1 eI l8]⟩->K4 s:=by
  intro l8 hq s hw;subst o9;try dsimp only at h0
  refine WT _ (AH hw ?_);refine zr tb U U ?_;replace h0:=Sh.AA h0;subst r;exact AM (xr (AR (L:=[(2,ow 0 0 l8)]) ⟨.rfl,Ru⟩))
 refine AN (Ae (σ:=Int×(List Int)) (λn v=>Bg p0 n v.1 v.2=some o9) (λ(i6,l7)=>⟨22,AX [(0,ls eI p0),(3,ow 0 0 l7),(4,i64 i6)],[ro 0 3 1 eI l7]⟩) N (0,l3) h1 (AE U) (λ_ hv=>by rw[Bg]at hv;cases hv) ?_);rintro n ⟨i6,l7⟩ h1;try dsimp only at h1⊢
 rw[Bg]at h1;refine AB λXS Uo=>?_;refine sr U λZ0 VD=>?_;refine zm tb 2 U ?_;refine zl tb U U ?_;refine zq tb U ?_;refine dn VD U ?_;refine ci h1 U ?_ ?_<;>clear h1
 ·intro Vo h1;refine AJ (Uo _ ?_);refine AB λX1 VE=>?_;refine AN ?_;refine AG (by rfl) ?_;refine zm tb 4 U ?_;obtain⟨Yi,gc15,h1⟩:=Sh.bind_some h1;refine zx Ak gc15 U U U ?_;refine zq tb U ?_;obtain⟨aU,gc16,h1⟩:=Sh.bind_some h1;refine zz (.ptr 0 0 (Int.toNat i6) 0) (CT Ak U U U U gc16) rfl ?_;refine Gl (u':=Yi) Ai Ha U U gc16 U U U UC rfl U ?_;refine dn VE U ?_;refine AG (by rfl) ?_;refine zm tb 3 U ?_;exact AD (xi (Sh.w (i6+1),Sh.put l7 i6 Yi) h1 (AR (L:=[(0,.sl (List.map eI p0)),(3,.own 0 0 (List.length (Sh.put l7 i6 Yi))),(4,i64 (Sh.w (i6+1)))]) ⟨.rfl,(.len (by simp only[Sh.DI])),.rfl,Ru⟩))
 ·intro Vo h1;exact Ah (M9 l7 (Sh.AA h1).symm _ (AE U))
theorem Dt {N:Nat}{p0 r:Aj}(h0:CF N p0=some r):AY Try.prog 7 [.agg (AS p0)] [] (λv st=>v=(.agg [ow 0 0 r.words,ow 1 0 r.free])/\st=[ro 0 3 1 eI r.words,ro 0 3 1 eI r.free]):=by
 unfold CF at h0;refine AY.wk (r0:=(.agg [ow 0 0 r.words,ow 1 0 r.free])) (st0:=[ro 0 3 1 eI r.words,ro 0 3 1 eI r.free,⟨0,27,2,[[ow 0 0 r.words,ow 1 0 r.free]]⟩]) ?_ (KR (L:=[(0,.agg [ow 0 0 r.words,ow 1 0 r.free])]) (st':=[ro 0 3 1 eI r.words,ro 0 3 1 eI r.free]) [0,1] U (by decide) rfl U (.pure (AK λ_=>U) (.pure (AK λ_=>U) Ru)) ⟨.rfl,Ru⟩);refine ai Try.func7 U U U U ?_;refine sr U λK1 VQ=>?_;refine Ca (m:=0) Ai U U U U U ?_;refine Ch (m:=1) Ai PS U U ?_;refine dn VQ U ?_;refine sr U λK2 UQ=>?_;refine Ch (m:=2) Ai PS U U ?_;refine dn UQ U ?_;refine sr U λK3 Uv=>?_;refine zm tb 2 U ?_;obtain⟨q4,gq4,h0⟩:=Sh.bind_some h0;refine Cd (v':=(ow 3 0 q4)) Ai QI (F5 gq4) rfl U ⟨(By λ_=>U),Ru⟩ U U ?_;refine zq tb U ?_;refine Bu Ai MU U U U U U U (show 0+1<=2 by decide) rfl ?_;refine dn Uv U ?_;refine sr U λK5 Xn=>?_;refine zm tb 2 U ?_;obtain⟨q6,gq6,h0⟩:=Sh.bind_some h0;refine Cd (v':=(ow 4 0 q6)) Ai QI (F5 gq6) rfl U ⟨(By λ_=>U),Ru⟩ U U ?_;refine zq tb U ?_;refine Bu Ai MU U U U U U U (show 1+1<=2 by decide) rfl ?_;refine dn Xn U ?_;refine sr U λK7 Xo=>?_;refine zq tb U ?_;refine Bu Ai Oi U U U U U U UA rfl ?_;refine dn Xo U ?_;replace h0:=Sh.AA h0;subst r;exact AM (Exists.intro _ (And.intro ((Ac (L:=[(2,.ptr 2 0 0 0)]) (st':=[ro 0 3 1 eI q4,ro 0 3 1 eI q6,⟨0,27,2,[[ow 0 0 q4,ow 1 0 q6]]⟩]) (st1:=[ro 0 3 1 eI q4,ro 0 3 1 eI q6,⟨0,27,2,[[ow 3 0 q4,ow 4 0 q6]]⟩]) [3,4,1] U .nil (by decide) rfl U (.pure (AK λ_=>U) (.pure (AK λ_=>U) (.raw U U .nil))) ⟨.rfl,Ru⟩).trans (AR (L:=[(2,.ptr 2 0 0 0)]) ⟨.rfl,Ru⟩)) (EH (x:=.tmp 2) (off:=0) (cs:=[ow 0 0 q4,ow 1 0 q6]) (vs:=[ow 0 0 q4,ow 1 0 q6]) Oi U U U UA rfl _ ⟨U,U⟩)))
theorem Dd {p0:(List Int)}{p1 r:Int}(h0:CB p0 p1=some r):AY Try.prog 34 [ls eI p0,i64 p1] [] (λv st=>v=(i64 r)/\st=[]):=by
 unfold CB at h0;refine ai Try.func34 U U U U ?_;refine zr tb U U ?_;refine sr U λK2 UQ=>?_;refine zm tb 3 U ?_;obtain⟨c3,gc3,h0⟩:=Sh.bind_some h0;refine zx Ak gc3 U U U ?_;refine zq tb U ?_;refine zz (i64 (Int.tmod c3 4)) (La U U (by decide)) rfl ?_;refine zq tb U ?_;refine dn UQ U ?_;replace h0:=Sh.AA h0;subst r;exact AM (xr (AR (L:=[(4,i64 (Int.tmod c3 4))]) ⟨.rfl,Ru⟩))
theorem DB {N:Nat}{p0:(List Int)}{r:(List Int)×Bool}(h0:Bm N p0=some r):AY Try.prog 18 [ls eI p0] [] (λv st=>v=(.BB [ow 0 0 r.1,.bool r.2])/\st=[ro 0 3 1 eI r.1]):=by
 unfold Bm at h0;refine ai Try.func18 U U U U ?_;refine zr tb U U ?_;refine sr U λK2 UQ=>?_;refine DU (m:=0) (l:=([]:List Int)) (enc:=eI) Ai Ak (by decide) rfl U U U U U ?_;refine zq tb U ?_;refine dn UQ U ?_;refine zr tb U U ?_;refine AB λK4 WT=>?_;obtain⟨o8,h1,h0⟩:=Sh.An h0;have M8:∀(l7:(List Int)),o8=Sum.inr l7->∀s,Wk 0 s ⟨53,AX [(4,ow 0 0 l7)],[ro 0 3 1 eI l7]⟩->K4 s:=by
  intro l7 hq s hw;subst o8;try dsimp only at h0
  refine WT _ (AH hw ?_);refine zr tb U U ?_;replace h0:=Sh.AA h0;subst r;exact AM (xr (AR (L:=[(2,ow 0 0 l7),(3,.bool true)]) ⟨.rfl,.rfl,Ru⟩))
 refine AN (Ae (σ:=Int×(List Int)) (λn v=>BU p0 n v.1 v.2=some o8) (λ(WI,l6)=>⟨53,AX [(0,ls eI p0),(4,ow 0 0 l6),(5,i64 WI)],[ro 0 3 1 eI l6]⟩) N (0,[]) h1 (AE U) (λ_ hv=>by rw[BU]at hv;cases hv) ?_);rintro n ⟨WI,l6⟩ h1;try dsimp only at h1⊢
 rw[BU]at h1;refine AB λWq Ub=>?_;refine sr U λXS Uo=>?_;refine zm tb 2 U ?_;refine zl tb U U ?_;refine zq tb U ?_;refine dn Uo U ?_;refine ci h1 U ?_ ?_<;>clear h1
 ·intro Vn h1;refine AJ (Ub _ ?_);refine AN ?_;refine AB λY1 Vc=>?_;refine AB λX1 VE=>?_;obtain⟨bP,h2,h1⟩:=Sh.bind_some h1;have Z1:∀(t15:Bool),bP=t15->∀s,Wk 0 s ⟨53,AX [(0,ls eI p0),(4,ow 0 0 l6),(5,i64 WI),(41,.bool t15)],[ro 0 3 1 eI l6]⟩->X1 s:=by
   intro t15 hq s hw;subst bP;try dsimp only at h1
   refine VE _ (AH hw ?_);refine ci h1 U ?_ ?_<;>clear h1
   ·intro XT h1;refine zr tb U U ?_;replace h1:=Sh.AA h1;subst o8;try dsimp only[id]at h0
    replace h0:=Sh.AA h0;subst r;exact AM (Exists.intro _ (And.intro ((((Co (t:=2) rfl 3 (size:=1) (by decide)).trans (AR (L:=[(2,.own 1 0 (List.length ([]:List Int))),(3,.bool false)]) ⟨.rfl,.rfl,Ru⟩)).trans (Ac (L:=[(2,.own 0 0 (List.length ([]:List Int))),(3,.bool false)]) (st':=[ro 0 3 1 eI ([]:List Int)]) (st1:=[ro 0 3 1 eI ([]:List Int)]) [1] U .nil (by decide) rfl U (.pure (AK λ_=>U) .nil) ⟨.rfl,.rfl,Ru⟩)).trans (AR (L:=[(2,.own 0 0 (List.length ([]:List Int))),(3,.bool false)]) ⟨.rfl,.rfl,Ru⟩)) (And.intro U U)))
   ·intro XT h1;refine AJ (Vc _ ?_);refine sr U λdS YN=>?_;refine zm tb 2 U ?_;refine DU (m:=1) (l:=[WI]) (enc:=eI) Ai Ak (by decide) rfl U U U U U ?_;obtain⟨Wp,gl20,h1⟩:=Sh.bind_some h1;refine ED (l2:=[WI]) Ai Ak U U U U (Ip U U) (λ_=>U) gl20 U ?_;refine zq tb U ?_;refine dn YN U ?_;refine AG (by rfl) ?_;refine zm tb 4 U ?_;obtain⟨bM,gq21,h1⟩:=Sh.bind_some h1;refine zc Nz (Dd gq21) rfl U U ?_;refine zm tb 2 U ?_;exact AD (xi (Sh.w ((Sh.w (WI+2))+bM),Wp) h1 (by refine Wk.trans (Ci (L:=[(0,ls eI p0),(4,ow 0 0 Wp),(5,i64 (Sh.w ((Sh.w (WI+2))+bM)))]) (st':=[ro 0 3 1 eI Wp,ro 0 3 1 eI [WI]]) (.pure (AK λ_=>U) (.pure (AK λ_=>U) .nil)) ⟨.rfl,.rfl,.rfl,Ru⟩) ?_;exact Ac (L:=[(0,ls eI p0),(4,ow 0 0 Wp),(5,i64 (Sh.w ((Sh.w (WI+2))+bM)))]) (st':=[ro 0 3 1 eI Wp]) (st1:=[ro 0 3 1 eI Wp]) [0] U .nil (by decide) rfl U (.pure (AK λ_=>U) .nil) ⟨.rfl,.rfl,.rfl,Ru⟩))
  refine AG (by rfl) ?_;refine zm tb 3 U ?_;refine zl tb U U ?_;refine zm tb 2 U ?_;rcases Sh.Aa h2 with ⟨YO,h2⟩|⟨YO,h2⟩
  ·refine zs YO U ?_;iterate 4 refine zs YO rfl ?_
   refine zt YO U ?_;refine zq tb U ?_;iterate 6 refine zs rfl rfl ?_
   refine zt U U ?_;refine zq tb U ?_;iterate 9 refine zs rfl rfl ?_
   refine zt U U ?_;exact AD (Z1 true (Sh.AA h2).symm _ (AE U))
  ·refine zg tb YO U ?_;refine zg tb YO U ?_;obtain⟨ZN,gc23,h2⟩:=Sh.bind_some h2;refine BZ (v:=(.A4 (eI ZN) 0)) (B8 U U YO) rfl (Bt Ak U U gc23 U) ?_;iterate 2 refine zg tb YO rfl ?_
   refine zf YO U ?_;refine zq tb U ?_;rcases Sh.Aa h2 with ⟨b24,h2⟩|⟨b24,h2⟩
   ·refine zs b24 U ?_;iterate 5 refine zs b24 rfl ?_
    refine zt b24 U ?_;refine zq tb U ?_;iterate 9 refine zs rfl rfl ?_
    refine zt U U ?_;exact AD (Z1 true (Sh.AA h2).symm _ (AE U))
   ·refine zg tb b24 U ?_;iterate 2 refine zg tb b24 rfl ?_
    obtain⟨bK,gc25,h2⟩:=Sh.bind_some h2;refine BZ (v:=(.A4 (eI bK) 0)) (B8 U U b24) rfl (Bt Ak U U gc25 U) ?_;iterate 2 refine zg tb b24 rfl ?_
    refine zf b24 U ?_;refine zq tb U ?_;rcases Sh.Aa h2 with ⟨Wr,h2⟩|⟨Wr,h2⟩
    ·refine zs Wr U ?_;iterate 8 refine zs Wr rfl ?_
     refine zt Wr U ?_;exact AD (Z1 true (Sh.AA h2).symm _ (AE U))
    ·refine zg tb Wr U ?_;iterate 3 refine zg tb Wr rfl ?_
     obtain⟨bL,gq27,h2⟩:=Sh.bind_some h2;refine zd Wr Nz (Dd gq27) rfl U U U ?_;iterate 2 refine zg tb Wr rfl ?_
     refine BZ (v:=(i64 (Sh.len p0))) (B8 U U Wr) rfl (Db F6 U) ?_;refine zg tb Wr U ?_;refine zf Wr U ?_;exact AD (Z1 (decide ((Sh.len p0)<(Sh.w ((Sh.w (WI+2))+bL)))) (Sh.AA h2).symm _ (AE U))
 ·intro Vn h1;exact Ah (M8 l6 (Sh.AA h1).symm _ (AE U))
theorem Ct {p0:Int}{r:Bool}(h0:BV p0=some r):AY Try.prog 32 [i64 p0] [] (λv st=>v=(.bool r)/\st=[]):=by
 unfold BV at h0;refine ai Try.func32 U U U U ?_;iterate 2 refine zr tb rfl rfl ?_
 replace h0:=Sh.AA h0;subst r;exact AM (xr (AR (L:=[(2,.bool (decide (1000<=p0)))]) ⟨.rfl,Ru⟩))
theorem FI {N:Nat}{p0:(List Int)}{p1 r:Int}(h0:C5 N p0 p1=some r):AY Try.prog 19 [ls eI p0,i64 p1] [] (λv st=>v=(i64 r)/\st=[]):=by
 unfold C5 at h0;refine ai Try.func19 U U U U ?_;refine zr tb U U ?_;refine AB λK2 UQ=>?_;refine zr tb U U ?_;obtain⟨o5,h1,h0⟩:=Sh.An h0;have M5:∀(_:Unit),o5=Sum.inr ()->∀s,Wk 0 s ⟨19,AX [],[]⟩->K2 s:=by
  intro _ hq s hw;subst o5;try dsimp only at h0
  refine UQ _ (AH hw ?_);refine zr tb U U ?_;replace h0:=Sh.AA h0;subst r;exact AM (xr (AR (L:=[(4,i64 (-1))]) ⟨.rfl,Ru⟩))
 refine AN (Ae (σ:=Int) (λn v=>Bv p0 p1 n v=some o5) (λi4=>⟨19,AX [(0,ls eI p0),(1,i64 p1),(5,i64 i4)],[]⟩) N 0 h1 (AE U) (λ_ hv=>by rw[Bv]at hv;cases hv) ?_);rintro n i4 h1;try dsimp only at h1⊢
 rw[Bv]at h1;refine AB λK7 Xo=>?_;refine sr U λK8 Vb=>?_;refine zm tb 2 U ?_;refine zl tb U U ?_;refine zq tb U ?_;refine dn Vb U ?_;refine ci h1 U ?_ ?_<;>clear h1
 ·intro b9 h1;refine AJ (Xo _ ?_);refine AB λWq Ub=>?_;refine AN ?_;refine sr U λXS Uo=>?_;refine zm tb 2 U ?_;obtain⟨XB,gc12,h1⟩:=Sh.bind_some h1;refine zx Ak gc12 U U U ?_;refine zm tb 3 U ?_;refine dn Uo U ?_;refine ci h1 U ?_ ?_<;>clear h1
  ·intro Vo h1;refine zr tb U U ?_;replace h1:=Sh.AA h1;subst o5;try dsimp only[id]at h0
   replace h0:=Sh.AA h0;subst r;exact AM (xr (AR (L:=[(4,i64 i4)]) ⟨.rfl,Ru⟩))
  ·intro Vo h1;refine AJ (Ub _ ?_);refine AG (by rfl) ?_;refine zm tb 3 U ?_;exact AD (xi (Sh.w (i4+1)) h1 (AE U))
 ·intro b9 h1;exact Ah (M5 () (Sh.AA h1).symm _ (AE U))
theorem Iz {N:Nat}{p0:(List Int)}{p1:Int}{r:Int×Bool}(h0:Dq N p0 p1=some r):AY Try.prog 35 [ls eI p0,i64 p1] [] (λv st=>v=(.BB [i64 r.1,.bool r.2])/\st=[]):=by
 unfold Dq at h0;refine ai Try.func35 U U U U ?_;refine zr tb U U ?_;refine AB λK2 UQ=>?_;refine sr U λK3 Uv=>?_;refine zq tb U ?_;obtain⟨q4,gq4,h0⟩:=Sh.bind_some h0;refine zc Nj (Ct gq4) rfl U U ?_;refine zq tb U ?_;refine dn Uv U ?_;refine ci h0 U ?_ ?_<;>clear h0
 ·intro b5 h0;have b6:q4=false:=by simpa using b5
  refine zr tb U U ?_;replace h0:=Sh.AA h0;subst r;exact AM (xr (AR (L:=[(4,i64 p1),(5,.bool true)]) ⟨.rfl,.rfl,Ru⟩))
 ·intro b5 h0;have b8:q4=true:=by simpa using b5
  refine AJ (UQ _ ?_);refine sr U λK9 YP=>?_;refine zm tb 3 U ?_;obtain⟨XQ,gq10,h0⟩:=Sh.bind_some h0;refine zc QM (FI gq10) rfl U U ?_;refine zq tb U ?_;refine dn YP U ?_;refine zr tb U U ?_;replace h0:=Sh.AA h0;subst r;exact AM (xr (AR (L:=[(4,i64 (Sh.w (1000+XQ))),(5,.bool (decide (0<=XQ)))]) ⟨.rfl,.rfl,Ru⟩))
theorem IM {N:Nat}{p0:(List Int)}{p1:(List Int)}{r:(List Cell)×Bool}(h0:DX N p0 p1=some r):AY Try.prog 21 [ls eI p0,ls eI p1] [] (λv st=>v=(.BB [ow 0 0 r.1,.bool r.2])/\st=[ro 0 54 3 AI r.1]):=by
 unfold DX at h0;refine ai Try.func21 U U U U ?_;refine zr tb U U ?_;refine sr U λK2 UQ=>?_;refine DU (m:=0) (l:=([]:List Cell)) (enc:=AI) Ai Ce (by decide) rfl U U U U U ?_;refine zq tb U ?_;refine dn UQ U ?_;refine AB λK3 Uv=>?_;refine zr tb U U ?_;obtain⟨o8,h1,h0⟩:=Sh.An h0;have M8:∀(l7:(List Cell)),o8=Sum.inr l7->∀s,Wk 0 s ⟨87,AX [(6,ow 0 0 l7)],[ro 0 54 3 AI l7]⟩->K3 s:=by
  intro l7 hq s hw;subst o8;try dsimp only at h0
  refine Uv _ (AH hw ?_);refine zr tb U U ?_;replace h0:=Sh.AA h0;subst r;exact AM (xr (AR (L:=[(4,ow 0 0 l7),(5,.bool true)]) ⟨.rfl,.rfl,Ru⟩))
 refine AN (Ae (σ:=Int×(List Cell)) (λn v=>Bx N p0 p1 n v.1 v.2=some o8) (λ(i5,l6)=>⟨87,AX [(0,ls eI p0),(1,ls eI p1),(6,ow 0 0 l6),(7,i64 i5)],[ro 0 54 3 AI l6]⟩) N (0,[]) h1 (AE U) (λ_ hv=>by rw[Bx]at hv;cases hv) ?_);rintro n ⟨i5,l6⟩ h1;try dsimp only at h1⊢
 rw[Bx]at h1;refine AB λWq Ub=>?_;refine sr U λXS Uo=>?_;refine zm tb 2 U ?_;refine zl tb U U ?_;refine zq tb U ?_;refine dn Uo U ?_;refine ci h1 U ?_ ?_<;>clear h1
 ·intro Vn h1;refine AJ (Ub _ ?_);refine AB λY1 Vc=>?_;obtain⟨XU,h2,h1⟩:=Sh.An h1;have Ym:∀(VU:(List Cell)),XU=Sum.inr VU->∀s,Wk 0 s ⟨87,AX [(0,ls eI p0),(1,ls eI p1),(6,ow 0 0 VU),(7,i64 i5)],[ro 0 54 3 AI VU]⟩->Y1 s:=by
   intro VU hq s hw;subst XU;try dsimp only at h1
   refine Vc _ (AH hw ?_);refine AG (by rfl) ?_;refine zm tb 3 U ?_;exact AD (xi (Sh.w (i5+1),VU) h1 (AE U))
  refine AN ?_;refine sr U λZP Vd=>?_;refine zm tb 2 U ?_;obtain⟨W1,gc17,h2⟩:=Sh.bind_some h2;refine zx Ak gc17 U U U ?_;refine zm tb 2 U ?_;refine dn Vd U ?_;refine sr U λbQ XG=>?_;refine DU (m:=1) (l:=([]:List Int)) (enc:=eI) Ai Ak (by decide) rfl U U U U U ?_;refine zq tb U ?_;refine dn XG U ?_;refine AB λdS YN=>?_;refine zr tb U U ?_;obtain⟨cL,h3,h2⟩:=Sh.An h2;have iG:∀(U4:(List Int)),cL=Sum.inr U4->∀s,Wk 0 s ⟨87,AX [(0,ls eI p0),(1,ls eI p1),(6,ow 0 0 l6),(7,i64 i5),(8,i64 W1),(9,ow 1 0 U4)],[ro 0 54 3 AI l6,ro 0 3 1 eI U4]⟩->dS s:=by
   intro U4 hq s hw;subst cL;try dsimp only at h2
   refine YN _ (AH hw ?_);refine sr U λcM XH=>?_;refine zm tb 2 U ?_;obtain⟨YL,gc26,h2⟩:=Sh.bind_some h2;refine zx Ak gc26 U U U ?_;refine zm tb 2 U ?_;refine dn XH U ?_;refine ci h2 U ?_ ?_<;>clear h2
   ·intro cN h2;refine AG (by rfl) ?_;refine zq tb U ?_;refine DU (m:=2) (l:=([]:List Int)) (enc:=eI) Ai Ak (by decide) rfl U U U U U ?_;refine zz (.agg [i64 0,i64 0,.own 2 0 (List.length ([]:List Int))]) (LR PM O3 JH U U) rfl ?_;refine A0 (Wk.DT (L:=[(0,ls eI p0),(1,ls eI p1),(7,i64 i5),(66,ow 0 0 l6),(68,.agg [i64 0,i64 0,.sl (List.map eI [])])]) (st':=[ro 0 54 3 AI l6,ro 0 3 1 eI U4,⟨1,3,1,[]⟩]) (id:=2) rfl UB (AK λ_=>U) ⟨.rfl,.rfl,.rfl,.rfl,.agg ⟨.rfl,.rfl,.Dk U,Ru⟩,Ru⟩ U) ?_;refine DU (m:=3) (l:=([Cell.mk 0 0 []])) (enc:=AI) Ai Ce (by decide) rfl U U U U U ?_;obtain⟨WG,gl28,h2⟩:=Sh.bind_some h2;refine ED (l2:=([Cell.mk 0 0 []])) Ai Ce U U U U (Ip U U) (λ_=>U) gl28 U ?_;refine zq tb U ?_;exact AD (Ym WG (Sh.AA h2).symm _ (by refine Wk.trans (Ci (L:=[(0,ls eI p0),(1,ls eI p1),(6,ow 0 0 WG),(7,i64 i5)]) (st':=[ro 0 54 3 AI WG,ro 0 3 1 eI U4,⟨0,3,1,[]⟩,ro 0 54 3 AI ([Cell.mk 0 0 []])]) (.pure (AK λ_=>U) (.pure (AK λ_=>U) (.pure (by intro x hx;cases hx) (.pure (AK λ_=>U) .nil)))) ⟨.rfl,.rfl,.rfl,.rfl,Ru⟩) ?_;exact Ac (L:=[(0,ls eI p0),(1,ls eI p1),(6,ow 0 0 WG),(7,i64 i5)]) (st':=[ro 0 54 3 AI WG]) (st1:=[ro 0 54 3 AI WG]) [0] U .nil (by decide) rfl U (.pure (AK λ_=>U) .nil) ⟨.rfl,.rfl,.rfl,.rfl,Ru⟩))
   ·intro cN h2;refine AH (Wk.DT (L:=[(0,ls eI p0),(1,ls eI p1),(6,ow 0 0 l6),(7,i64 i5),(8,i64 W1),(9,ls eI U4)]) (st':=[ro 0 54 3 AI l6,⟨1,3,1,[]⟩]) (id:=1) rfl UD (AK λ_=>U) ⟨.rfl,.rfl,.rfl,.rfl,.rfl,.DT U,Ru⟩ U) ?_;refine ET 14 (by kernel_rfl) (by kernel_rfl) (by rfl) ?_;iterate 3 refine yq tb rfl ?_
    refine yx Ak gc26 U U U ?_;iterate 4 refine yq tb rfl ?_
    obtain⟨XC,gc29,h2⟩:=Sh.bind_some h2;refine yx Ak gc29 U U U ?_;refine yq tb U ?_;refine yz (i64 (Sh.w (Int.tdiv XC 4))) (I5 U U (by decide)) rfl ?_;refine yq tb U ?_;refine yz (.agg [i64 YL,i64 (Sh.w (Int.tdiv XC 4)),ls eI U4]) (LR PM O3 JH U U) rfl ?_;refine RD (l:=[Cell.mk YL (Sh.w (Int.tdiv XC 4)) U4]) (enc:=AI) Ai Ce (by decide) rfl U U U U (AK λ_=>U) ?_;refine DA ?_;obtain⟨ZO,gl30,h2⟩:=Sh.bind_some h2;refine ED (l2:=[Cell.mk YL (Sh.w (Int.tdiv XC 4)) U4]) Ai Ce U U U U QG (λ_=>U) gl30 U ?_;refine zq tb U ?_;exact AD (Ym ZO (Sh.AA h2).symm _ (by refine Wk.trans (Ci (L:=[(0,ls eI p0),(1,ls eI p1),(6,ow 0 0 ZO),(7,i64 i5)]) (st':=[ro 0 54 3 AI ZO,⟨0,3,1,[]⟩]) (.pure (AK λ_=>U) (.pure (by intro x hx;cases hx) .nil)) ⟨.rfl,.rfl,.rfl,.rfl,Ru⟩) ?_;exact Ac (L:=[(0,ls eI p0),(1,ls eI p1),(6,ow 0 0 ZO),(7,i64 i5)]) (st':=[ro 0 54 3 AI ZO]) (st1:=[ro 0 54 3 AI ZO]) [0] U .nil (by decide) rfl U (.pure (AK λ_=>U) .nil) ⟨.rfl,.rfl,.rfl,.rfl,Ru⟩))
  refine AN (Ae (σ:=Int×(List Int)) (λn v=>Bw N W1 p0 p1 n v.1 v.2=some cL) (λ(Yj,l22)=>⟨87,AX [(0,ls eI p0),(1,ls eI p1),(6,ow 0 0 l6),(7,i64 i5),(8,i64 W1),(9,ow 1 0 l22),(10,i64 Yj)],[ro 0 54 3 AI l6,ro 0 3 1 eI l22]⟩) N (0,[]) h3 (AE U) (λ_ hv=>by rw[Bw]at hv;cases hv) ?_);rintro n ⟨Yj,l22⟩ h3;try dsimp only at h3⊢
  rw[Bw]at h3;refine AB λiH Z2=>?_;refine sr U λdT XI=>?_;refine zm tb 3 U ?_;obtain⟨fc,gq33,h3⟩:=Sh.bind_some h3;refine zc Nz (Dd gq33) rfl U U ?_;refine zq tb U ?_;refine dn XI U ?_;refine ci h3 U ?_ ?_<;>clear h3
  ·intro Ws h3;refine AJ (Z2 _ ?_);refine AB λfh YQ=>?_;refine AN ?_;refine sr U λcO XJ=>?_;refine zm tb 6 U ?_;obtain⟨UP,gc37,h3⟩:=Sh.bind_some h3;refine zx Ak gc37 U U U ?_;refine zq tb U ?_;obtain⟨Wo,gq38,h3⟩:=Sh.bind_some h3;refine zc (v':=(.BB [i64 Wo.1,.bool Wo.2])) RU (Iz gq38) rfl U U ?_;refine zm tb 5 U ?_;refine dn XJ U ?_;refine AB λjk dU=>?_;refine AB λfj Z3=>?_;obtain⟨fk,h4,h3⟩:=Sh.bind_some h3;have dV:∀(t41:Bool),fk=t41->∀s,Wk 0 s ⟨87,AX [(0,ls eI p0),(1,ls eI p1),(6,ow 0 0 l6),(7,i64 i5),(8,i64 W1),(9,ow 1 0 l22),(10,i64 Yj),(11,i64 Wo.1),(56,.bool t41)],[ro 0 54 3 AI l6,ro 0 3 1 eI l22]⟩->fj s:=by
    intro t41 hq s hw;subst fk;try dsimp only at h3
    refine Z3 _ (AH hw ?_);refine ci h3 U ?_ ?_<;>clear h3
    ·intro Xp h3;refine zr tb U U ?_;replace h3:=Sh.AA h3;subst cL;try dsimp only[id]at h2
     replace h2:=Sh.AA h2;subst XU;try dsimp only[id]at h1
     replace h1:=Sh.AA h1;subst o8;try dsimp only[id]at h0
     replace h0:=Sh.AA h0;subst r;exact AM (Exists.intro _ (And.intro ((((Co (t:=4) rfl 54 (size:=3) (by decide)).trans (AR (L:=[(4,.own 2 0 (List.length ([]:List Cell))),(5,.bool false)]) ⟨.rfl,.rfl,Ru⟩)).trans (Ac (L:=[(4,.own 0 0 (List.length ([]:List Cell))),(5,.bool false)]) (st':=[ro 0 54 3 AI ([]:List Cell)]) (st1:=[ro 0 54 3 AI ([]:List Cell)]) [2] U .nil (by decide) rfl U (.pure (AK λ_=>U) .nil) ⟨.rfl,.rfl,Ru⟩)).trans (AR (L:=[(4,.own 0 0 (List.length ([]:List Cell))),(5,.bool false)]) ⟨.rfl,.rfl,Ru⟩)) (And.intro U U)))
    ·intro Xp h3;refine AJ (dU _ ?_);refine AG (by rfl) ?_;refine zm tb 2 U ?_;refine DU (m:=2) (l:=[Wo.1]) (enc:=eI) Ai Ak (by decide) rfl U U U U U ?_;obtain⟨V9,gl45,h3⟩:=Sh.bind_some h3;refine ED (l2:=[Wo.1]) Ai Ak U U U U (Ip U U) (λ_=>U) gl45 U ?_;refine zq tb U ?_;refine dn YQ U ?_;refine AG (by rfl) ?_;refine zm tb 3 U ?_;exact AD (xi (Sh.w (Yj+1),V9) h3 (by refine Wk.trans (Ci (L:=[(0,ls eI p0),(1,ls eI p1),(6,ow 0 0 l6),(7,i64 i5),(8,i64 W1),(9,ow 1 0 V9),(10,i64 (Sh.w (Yj+1)))]) (st':=[ro 0 54 3 AI l6,ro 0 3 1 eI V9,ro 0 3 1 eI [Wo.1]]) (.pure (AK λ_=>U) (.pure (AK λ_=>U) (.pure (AK λ_=>U) .nil))) ⟨.rfl,.rfl,.rfl,.rfl,.rfl,.rfl,.rfl,Ru⟩) ?_;exact Ac (L:=[(0,ls eI p0),(1,ls eI p1),(6,ow 0 0 l6),(7,i64 i5),(8,i64 W1),(9,ow 1 0 V9),(10,i64 (Sh.w (Yj+1)))]) (st':=[ro 0 54 3 AI l6,ro 0 3 1 eI V9]) (st1:=[ro 0 54 3 AI l6,ro 0 3 1 eI V9]) [0,1] U .nil (by decide) rfl U (.pure (AK λ_=>U) (.pure (AK λ_=>U) .nil)) ⟨.rfl,.rfl,.rfl,.rfl,.rfl,.rfl,.rfl,Ru⟩))
   refine AG (by rfl) ?_;refine zm tb 3 U ?_;rcases Sh.Aa h4 with ⟨Wt,h4⟩|⟨Wt,h4⟩
   ·refine zs Wt U ?_;iterate 5 refine zs Wt rfl ?_
    iterate 2 refine zn rfl ?_
    refine zs Wt U ?_;refine zt Wt U ?_;exact AD (dV true (Sh.AA h4).symm _ (AE U))
   ·refine zg tb Wt U ?_;refine zg tb Wt U ?_;obtain⟨dP,gc47,h4⟩:=Sh.bind_some h4;refine BZ (v:=(.A4 (eI dP) 0)) (B8 U U Wt) rfl (Bt Ak U U gc47 U) ?_;iterate 3 refine zg tb Wt rfl ?_
    rcases Sh.Aa h4 with ⟨b48,h4⟩|⟨b48,h4⟩
    ·refine zg tb b48 U ?_;refine zg tb b48 U ?_;refine BZ (v:=(.bool (!decide (Wo.1=0)))) (B8 U U Wt) rfl (E5 U b48 U) ?_;refine zf Wt U ?_;exact AD (dV (!decide (Wo.1=0)) (Sh.AA h4).symm _ (AE U))
    ·refine zs b48 U ?_;refine zs b48 U ?_;refine BZ (v:=(.bool false)) (B8 U U Wt) rfl (E7 U b48 U) ?_;refine zf Wt U ?_;exact AD (dV false (Sh.AA h4).symm _ (AE U))
  ·intro Ws h3;exact Ah (iG l22 (Sh.AA h3).symm _ (AE U))
 ·intro Vn h1;exact Ah (M8 l6 (Sh.AA h1).symm _ (AE U))
theorem KJ {N:Nat}{p0:(List Cell)}{r:(List Cell)}(h0:Ew N p0=some r):AY Try.prog 23 [ls AI p0] [] (λv st=>v=(ls AI r)/\st=[]):=by
 unfold Ew at h0;refine ai Try.func23 U U U U ?_;refine zr tb U U ?_;refine sr U λK2 UQ=>?_;refine zq tb U ?_;refine zl tb U U ?_;refine zq tb U ?_;refine dn UQ U ?_;refine AB λK3 Uv=>?_;obtain⟨o6,h1,h0⟩:=Sh.bind_some h0;have M6:∀(n5:Int),o6=n5->∀s,Wk 0 s ⟨22,AX [(0,ls AI p0),(3,i64 n5)],[]⟩->K3 s:=by
  intro n5 hq s hw;subst o6;try dsimp only at h0
  refine Uv _ (AH hw ?_);refine sr U λK7 Xo=>?_;refine zm tb 2 U ?_;obtain⟨l8,gl8,h0⟩:=Sh.bind_some h0;refine I6 (i:=0) (j:=n5) Ai Ce U U U (λ_=>U) gl8 ?_;refine zq tb U ?_;refine dn Xo U ?_;replace h0:=Sh.AA h0;subst r;exact AM (xr (AR (L:=[(2,ls AI l8)]) ⟨.rfl,Ru⟩))
 refine AN (Ae (σ:=Int) (λn v=>CD p0 n v=some o6) (λn4=>⟨22,AX [(0,ls AI p0),(3,i64 n4)],[]⟩) N (Sh.len p0) h1 (AE U) (λ_ hv=>by rw[CD]at hv;cases hv) ?_);rintro n n4 h1;try dsimp only at h1⊢
 rw[CD]at h1;refine AB λK9 YP=>?_;refine AB λWq Ub=>?_;obtain⟨fm,h2,h1⟩:=Sh.bind_some h1;have fp:∀(t11:Bool),fm=t11->∀s,Wk 0 s ⟨22,AX [(0,ls AI p0),(3,i64 n4),(16,.bool t11)],[]⟩->Wq s:=by
  intro t11 hq s hw;subst fm;try dsimp only at h1
  refine Ub _ (AH hw ?_);refine ci h1 U ?_ ?_<;>clear h1
  ·intro Vo h1;refine AJ (YP _ ?_);refine AN ?_;refine AG (by rfl) ?_;refine zm tb 3 U ?_;exact AD (xi (Sh.w (n4-1)) h1 (AE U))
  ·intro Vo h1;exact Ah (M6 n4 (Sh.AA h1).symm _ (AE U))
 refine AG (by rfl) ?_;refine zm tb 3 U ?_;rcases Sh.Aa h2 with ⟨Ve,h2⟩|⟨Ve,h2⟩
 ·refine zg tb Ve U ?_;iterate 2 refine zg tb Ve rfl ?_
  obtain⟨Yi,gc15,h2⟩:=Sh.bind_some h2;refine BZ (v:=(.A4 (AI Yi) 0)) (B8 U U Ve) rfl (Bt Ce U U gc15 U) ?_;iterate 3 refine zg tb Ve rfl ?_
  refine zt Ve U ?_;exact AD (fp (decide (Yi.count=0)) (Sh.AA h2).symm _ (AE U))
 ·refine zs Ve U ?_;iterate 6 refine zs Ve rfl ?_
  refine zf Ve U ?_;exact AD (fp false (Sh.AA h2).symm _ (AE U))
theorem DP {p0 p1 p2:Int}{r:Bool}(h0:CC p0 p1 p2=some r):AY Try.prog 43 [i64 p0,i64 p1,i64 p2] [] (λv st=>v=(.bool r)/\st=[]):=by
 unfold CC at h0;refine ai Try.func43 U U U U ?_;refine zr tb U U ?_;refine AB λK2 UQ=>?_;obtain⟨o4,h1,h0⟩:=Sh.bind_some h0;have M4:∀(t3:Bool),o4=t3->∀s,Wk 0 s ⟨15,AX [(6,.bool t3)],[]⟩->K2 s:=by
  intro t3 hq s hw;subst o4;try dsimp only at h0
  refine UQ _ (AH hw ?_);replace h0:=Sh.AA h0;subst r;exact AM (xr (AR (L:=[(6,.bool t3)]) ⟨.rfl,Ru⟩))
 refine AG (by rfl) ?_;refine zm tb 4 U ?_;rcases Sh.Aa h1 with ⟨b5,h1⟩|⟨b5,h1⟩
 ·refine zg tb b5 U ?_;iterate 2 refine zg tb b5 rfl ?_
  refine zt b5 U ?_;refine zq tb U ?_;exact AD (M4 (decide (p0<=p2)) (Sh.AA h1).symm _ (AE U))
 ·refine zs b5 U ?_;iterate 2 refine zs b5 rfl ?_
  refine zf b5 U ?_;refine zq tb U ?_;exact AD (M4 false (Sh.AA h1).symm _ (AE U))
theorem IK {N:Nat}{p0:(List Int)}{r:Bool}(h0:DZ N p0=some r):AY Try.prog 44 [ls eI p0] [] (λv st=>v=(.bool r)/\st=[]):=by
 unfold DZ at h0;refine ai Try.func44 U U U U ?_;refine zr tb U U ?_;refine AB λK2 UQ=>?_;refine zr tb U U ?_;obtain⟨o5,h1,h0⟩:=Sh.An h0;have M5:∀(_:Unit),o5=Sum.inr ()->∀s,Wk 0 s ⟨15,AX [],[]⟩->K2 s:=by
  intro _ hq s hw;subst o5;try dsimp only at h0
  refine UQ _ (AH hw ?_);refine zr tb U U ?_;replace h0:=Sh.AA h0;subst r;exact AM (xr (AR (L:=[(2,.bool true)]) ⟨.rfl,Ru⟩))
 refine AN (Ae (σ:=Int) (λn v=>BY p0 n v=some o5) (λi4=>⟨15,AX [(0,ls eI p0),(3,i64 i4)],[]⟩) N 0 h1 (AE U) (λ_ hv=>by rw[BY]at hv;cases hv) ?_);rintro n i4 h1;try dsimp only at h1⊢
 rw[BY]at h1;refine AB λK7 Xo=>?_;refine sr U λK8 Vb=>?_;refine zm tb 2 U ?_;refine zl tb U U ?_;refine zq tb U ?_;refine dn Vb U ?_;refine ci h1 U ?_ ?_<;>clear h1
 ·intro b9 h1;refine AJ (Xo _ ?_);refine AB λWq Ub=>?_;refine AN ?_;refine sr U λXS Uo=>?_;refine zm tb 2 U ?_;obtain⟨XB,gc12,h1⟩:=Sh.bind_some h1;refine zx Ak gc12 U U U ?_;refine zm tb 2 U ?_;refine dn Uo U ?_;refine ci h1 U ?_ ?_<;>clear h1
  ·intro Vo h1;have Ve:decide (XB=0)=false:=by simpa using Vo
   refine zr tb U U ?_;replace h1:=Sh.AA h1;subst o5;try dsimp only[id]at h0
   replace h0:=Sh.AA h0;subst r;exact AM (xr (AR (L:=[(2,.bool false)]) ⟨.rfl,Ru⟩))
  ·intro Vo h1;have XV:decide (XB=0)=true:=by simpa using Vo
   refine AJ (Ub _ ?_);refine AG (by rfl) ?_;refine zm tb 3 U ?_;exact AD (xi (Sh.w (i4+1)) h1 (AE U))
 ·intro b9 h1;exact Ah (M5 () (Sh.AA h1).symm _ (AE U))
theorem F7 {p0:(List Cell)}{p1:Int}{r:Bool}(h0:DJ p0 p1=some r):AY Try.prog 46 [ls AI p0,i64 p1] [] (λv st=>v=(.bool r)/\st=[]):=by
 unfold DJ at h0;refine ai Try.func46 U U U U ?_;refine zr tb U U ?_;refine AB λK2 UQ=>?_;obtain⟨o4,h1,h0⟩:=Sh.bind_some h0;have M4:∀(t3:Bool),o4=t3->∀s,Wk 0 s ⟨24,AX [(4,.bool t3)],[]⟩->K2 s:=by
  intro t3 hq s hw;subst o4;try dsimp only at h0
  refine UQ _ (AH hw ?_);replace h0:=Sh.AA h0;subst r;exact AM (xr (AR (L:=[(4,.bool t3)]) ⟨.rfl,Ru⟩))
 refine AG (by rfl) ?_;refine zm tb 3 U ?_;refine zl tb U U ?_;refine zq tb U ?_;obtain⟨q5,gq5,h1⟩:=Sh.bind_some h1;refine zc Ni (DP gq5) rfl U U ?_;refine zq tb U ?_;rcases Sh.Aa h1 with ⟨b6,h1⟩|⟨b6,h1⟩
 ·refine zg tb b6 U ?_;obtain⟨q7,gq7,h1⟩:=Sh.bind_some h1;refine zd b6 Nj (Ct gq7) rfl U U U ?_;refine zt b6 U ?_;refine zq tb U ?_;rcases Sh.Aa h1 with ⟨b8,h1⟩|⟨b8,h1⟩
  ·refine zg tb b8 U ?_;iterate 2 refine zg tb b8 rfl ?_
   obtain⟨c9,gc9,h1⟩:=Sh.bind_some h1;refine BZ (v:=(.A4 (AI c9) 0)) (B8 U U b8) rfl (Bt Ce U U gc9 U) ?_;iterate 3 refine zg tb b8 rfl ?_
   refine zt b8 U ?_;refine zq tb U ?_;exact AD (M4 (decide (0<c9.count)) (Sh.AA h1).symm _ (AE U))
  ·refine zs b8 U ?_;iterate 6 refine zs b8 rfl ?_
   refine zf b8 U ?_;refine zq tb U ?_;exact AD (M4 false (Sh.AA h1).symm _ (AE U))
 ·refine zs b6 U ?_;refine zs b6 U ?_;refine zf b6 U ?_;refine zq tb U ?_;iterate 7 refine zs rfl rfl ?_
  refine zf U U ?_;refine zq tb U ?_;exact AD (M4 false (Sh.AA h1).symm _ (AE U))
theorem It {p0:(List Cell)}{p1:Int}{r:Bool}(h0:Du p0 p1=some r):AY Try.prog 45 [ls AI p0,i64 p1] [] (λv st=>v=(.bool r)/\st=[]):=by
 unfold Du at h0;refine ai Try.func45 U U U U ?_;refine zr tb U U ?_;refine AB λK2 UQ=>?_;obtain⟨o4,h1,h0⟩:=Sh.bind_some h0;have M4:∀(t3:Bool),o4=t3->∀s,Wk 0 s ⟨12,AX [(4,.bool t3)],[]⟩->K2 s:=by
  intro t3 hq s hw;subst o4;try dsimp only at h0
  refine UQ _ (AH hw ?_);replace h0:=Sh.AA h0;subst r;exact AM (xr (AR (L:=[(4,.bool t3)]) ⟨.rfl,Ru⟩))
 refine AG (by rfl) ?_;refine zq tb U ?_;obtain⟨q5,gq5,h1⟩:=Sh.bind_some h1;refine zc Ni (DP gq5) rfl U U ?_;refine zq tb U ?_;rcases Sh.Aa h1 with ⟨b6,h1⟩|⟨b6,h1⟩
 ·refine zs b6 U ?_;iterate 2 refine zs b6 rfl ?_
  refine zt b6 U ?_;refine zq tb U ?_;exact AD (M4 true (Sh.AA h1).symm _ (AE U))
 ·refine zg tb b6 U ?_;refine zg tb b6 U ?_;obtain⟨q7,gq7,h1⟩:=Sh.bind_some h1;refine zd b6 QT (F7 gq7) rfl U U U ?_;refine zf b6 U ?_;refine zq tb U ?_;exact AD (M4 q7 (Sh.AA h1).symm _ (AE U))
theorem HH {N:Nat}{p0:(List Cell)}{p1:Cell}{r:Bool}(h0:Cy N p0 p1=some r):AY Try.prog 36 [ls AI p0,.agg (AI p1)] [] (λv st=>v=(.bool r)/\st=[]):=by
 unfold Cy at h0;refine ai Try.func36 U U U U ?_;refine sr U λK1 VQ=>?_;refine Ca (m:=0) Ai U U U U U ?_;refine zq tb U ?_;refine dn VQ U ?_;refine AB λK2 UQ=>?_;refine AB λK3 Uv=>?_;obtain⟨o5,h1,h0⟩:=Sh.bind_some h0;have M5:∀(t4:Bool),o5=t4->∀s,Wk 0 s ⟨56,AX [(0,ls AI p0),(3,.ptr 0 0 0 0),(15,.bool t4)],[⟨0,54,3,[AI p1]⟩]⟩->K3 s:=by
  intro t4 hq s hw;subst o5;try dsimp only at h0
  refine Uv _ (AH hw ?_);refine ci h0 U ?_ ?_<;>clear h0
  ·intro b6 h0;refine zr tb U U ?_;replace h0:=Sh.AA h0;subst r;exact AM (xr (Ag [(4,.bool false)] U))
  ·intro b6 h0;refine AJ (UQ _ ?_);refine AB λK8 Vb=>?_;refine zr tb U U ?_;refine ci h0 U ?_ ?_<;>clear h0
   ·intro WU h0;refine AB λXS Uo=>?_;obtain⟨ZQ,h1,h0⟩:=Sh.bind_some h0;have Yn:∀(t12:Bool),ZQ=t12->∀s,Wk 0 s ⟨56,AX [(4,.bool t12)],[]⟩->XS s:=by
     intro t12 hq s hw;subst ZQ;try dsimp only at h0
     refine Uo _ (AH hw ?_);replace h0:=Sh.AA h0;subst r;exact AM (xr (AR (L:=[(4,.bool t12)]) ⟨.rfl,Ru⟩))
    refine AG (by rfl) ?_;refine zm tb 4 U ?_;rcases Sh.Aa h1 with ⟨Ve,h1⟩|⟨Ve,h1⟩
    ·refine zg tb Ve U ?_;refine zg tb Ve U ?_;obtain⟨Zp,gq15,h1⟩:=Sh.bind_some h1;refine zd Ve RH (IK gq15) rfl U U U ?_;refine zt Ve U ?_;refine zq tb U ?_;rcases Sh.Aa h1 with ⟨XV,h1⟩|⟨XV,h1⟩
     ·refine zg tb XV U ?_;iterate 3 refine zg tb XV rfl ?_
      rcases Sh.Aa h1 with ⟨XT,h1⟩|⟨XT,h1⟩
      ·refine zs XT U ?_;iterate 3 refine zs XT rfl ?_
       refine BZ (v:=(.bool true)) (B8 U U XV) rfl (E5 U XT U) ?_;refine zt XV U ?_;refine zq tb U ?_;exact AD (Yn true (Sh.AA h1).symm _ (Ag _ U))
      ·refine zg tb XT U ?_;refine zg tb XT U ?_;refine BZ (v:=(i64 (Sh.len p1.fields))) (B8 U U XT) rfl (Db F6 U) ?_;refine zg tb XT U ?_;refine BZ (v:=(.bool (decide ((Sh.len p1.fields)=0)))) (B8 U U XV) rfl (E7 U XT U) ?_;refine zt XV U ?_;refine zq tb U ?_;exact AD (Yn (decide ((Sh.len p1.fields)=0)) (Sh.AA h1).symm _ (Ag _ U))
     ·refine zs XV U ?_;iterate 3 refine zs XV rfl ?_
      iterate 4 refine zn rfl ?_
      refine zs XV U ?_;refine zf XV U ?_;refine zq tb U ?_;exact AD (Yn false (Sh.AA h1).symm _ (Ag _ U))
    ·refine zs Ve U ?_;iterate 2 refine zs Ve rfl ?_
     refine zf Ve U ?_;refine zq tb U ?_;iterate 4 refine zs rfl rfl ?_
     iterate 4 refine zn rfl ?_
     refine zs U U ?_;refine zf U U ?_;refine zq tb U ?_;exact AD (Yn false (Sh.AA h1).symm _ (Ag _ U))
   ·intro WU h0;refine AJ (Vb _ ?_);refine AB λbQ XG=>?_;refine zr tb U U ?_;obtain⟨Y2,h1,h0⟩:=Sh.An h0;have dW:∀(_:Unit),Y2=Sum.inr ()->∀s,Wk 0 s ⟨56,AX [(3,.ptr 0 0 0 0)],[⟨0,54,3,[AI p1]⟩]⟩->bQ s:=by
     intro _ hq s hw;subst Y2;try dsimp only at h0
     refine XG _ (AH hw ?_);refine sr U λbR WV=>?_;refine zm tb 2 U ?_;obtain⟨dH,gq23,h0⟩:=Sh.bind_some h0;refine zc Ni (DP gq23) rfl U U ?_;refine zq tb U ?_;refine dn WV U ?_;replace h0:=Sh.AA h0;subst r;exact AM (xr (Ag [(4,.bool dH)] U))
    refine AN (Ae (σ:=Int) (λn v=>BI p0 p1 n v=some Y2) (λi20=>⟨56,AX [(0,ls AI p0),(3,.ptr 0 0 0 0),(5,i64 i20)],[⟨0,54,3,[AI p1]⟩]⟩) N 0 h1 (AE U) (λ_ hv=>by rw[BI]at hv;cases hv) ?_);rintro n i20 h1;try dsimp only at h1⊢
    rw[BI]at h1;refine AB λbS XK=>?_;refine sr U λcM XH=>?_;refine zm tb 3 U ?_;refine zl tb U U ?_;refine zq tb U ?_;refine dn XH U ?_;refine ci h1 U ?_ ?_<;>clear h1
    ·intro Wr h1;refine AJ (XK _ ?_);refine AB λbT WW=>?_;refine AN ?_;refine sr U λiI Z4=>?_;refine zm tb 4 U ?_;obtain⟨XC,gc29,h1⟩:=Sh.bind_some h1;refine zx Ak gc29 U U U ?_;refine zq tb U ?_;obtain⟨WQ,gq30,h1⟩:=Sh.bind_some h1;refine zc Qy (It gq30) rfl U U ?_;refine zq tb U ?_;refine dn Z4 U ?_;refine ci h1 U ?_ ?_<;>clear h1
     ·intro WX h1;have Y3:WQ=false:=by simpa using WX
      refine zr tb U U ?_;replace h1:=Sh.AA h1;subst Y2;try dsimp only[id]at h0
      replace h0:=Sh.AA h0;subst r;exact AM (xr (Ag [(4,.bool false)] U))
     ·intro WX h1;have Ws:WQ=true:=by simpa using WX
      refine AJ (WW _ ?_);refine AG (by rfl) ?_;refine zm tb 3 U ?_;exact AD (xi (Sh.w (i20+1)) h1 (AE U))
    ·intro Wr h1;exact Ah (dW () (Sh.AA h1).symm _ (AE U))
 refine AG (by rfl) ?_;refine zm tb 2 U ?_;refine zl tb U U ?_;refine zm tb 2 U ?_;rcases Sh.Aa h1 with ⟨VF,h1⟩|⟨VF,h1⟩
 ·refine zs VF U ?_;iterate 3 refine zs VF rfl ?_
  refine zt VF U ?_;exact AD (M5 true (Sh.AA h1).symm _ (AE U))
 ·refine zg tb VF U ?_;refine zg tb VF U ?_;obtain⟨aV,gq36,h1⟩:=Sh.bind_some h1;refine zd VF Ni (DP gq36) rfl U U U ?_;refine zg tb VF U ?_;refine zf VF U ?_;exact AD (M5 (!aV) (Sh.AA h1).symm _ (AE U))
theorem Iq {N:Nat}{p0:(List Cell)}{r:(List Int)}(h0:Dw N p0=some r):AY Try.prog 37 [ls AI p0] [] (λv st=>v=(ow 0 0 r)/\st=[ro 0 3 1 eI r]):=by
 unfold Dw at h0;refine ai Try.func37 U U U U ?_;refine zr tb U U ?_;refine sr U λK2 UQ=>?_;refine zq tb U ?_;refine zl tb U U ?_;obtain⟨l3,gl3,h0⟩:=Sh.bind_some h0;refine H3 (m:=0) (enc:=eI) (u:=0) Ai Ak U U U gl3 U U ?_;refine zq tb U ?_;refine dn UQ U ?_;refine AB λK4 WT=>?_;refine zr tb U U ?_;obtain⟨o9,h1,h0⟩:=Sh.bind_some h0;have M9:∀(l8:(List Int)),o9=l8->∀s,Wk 0 s ⟨54,AX [(3,ow 0 0 l8)],[ro 0 3 1 eI l8]⟩->K4 s:=by
  intro l8 hq s hw;subst o9;try dsimp only at h0
  refine WT _ (AH hw ?_);refine zr tb U U ?_;replace h0:=Sh.AA h0;subst r;exact AM (xr (AR (L:=[(2,ow 0 0 l8)]) ⟨.rfl,Ru⟩))
 refine AN (Ae (σ:=Int×(List Int)) (λn v=>Bf N p0 n v.1 v.2=some o9) (λ(i6,l7)=>⟨54,AX [(0,ls AI p0),(3,ow 0 0 l7),(4,i64 i6)],[ro 0 3 1 eI l7]⟩) N (0,l3) h1 (AE U) (λ_ hv=>by rw[Bf]at hv;cases hv) ?_);rintro n ⟨i6,l7⟩ h1;try dsimp only at h1⊢
 rw[Bf]at h1;refine AB λXS Uo=>?_;refine sr U λZ0 VD=>?_;refine zm tb 2 U ?_;refine zl tb U U ?_;refine zq tb U ?_;refine dn VD U ?_;refine ci h1 U ?_ ?_<;>clear h1
 ·intro Vo h1;refine AJ (Uo _ ?_);refine AB λX1 VE=>?_;refine AN ?_;refine zr tb U U ?_;obtain⟨ZR,h2,h1⟩:=Sh.bind_some h1;have dX:∀(Zq:(List Int)),ZR=Zq->∀s,Wk 0 s ⟨54,AX [(0,ls AI p0),(3,ow 0 0 Zq),(4,i64 i6)],[ro 0 3 1 eI Zq]⟩->X1 s:=by
   intro Zq hq s hw;subst ZR;try dsimp only at h1
   refine VE _ (AH hw ?_);refine AG (by rfl) ?_;refine zm tb 3 U ?_;exact AD (xi (Sh.w (i6+1),Zq) h1 (AE U))
  refine AN (Ae (σ:=Int×(List Int)) (λn v=>Bc i6 p0 n v.1 v.2=some ZR) (λ(Yv,l17)=>⟨54,AX [(0,ls AI p0),(3,ow 0 0 l17),(4,i64 i6),(5,i64 Yv)],[ro 0 3 1 eI l17]⟩) N (0,l7) h2 (AE U) (λ_ hv=>by rw[Bc]at hv;cases hv) ?_);rintro n ⟨Yv,l17⟩ h2;try dsimp only at h2⊢
  rw[Bc]at h2;refine AB λbU WY=>?_;refine sr U λfq YR=>?_;refine zm tb 3 U ?_;obtain⟨ZM,gc22,h2⟩:=Sh.bind_some h2;refine zx Ce gc22 U U U ?_;refine zm tb 2 U ?_;refine zl tb U U ?_;refine zq tb U ?_;refine dn YR U ?_;refine ci h2 U ?_ ?_<;>clear h2
  ·intro Xq h2;refine AJ (WY _ ?_);refine AB λbS XK=>?_;obtain⟨bV,h3,h2⟩:=Sh.bind_some h2;have bW:∀(Uf:(List Int)),bV=Uf->∀s,Wk 0 s ⟨54,AX [(0,ls AI p0),(3,ow 0 0 Uf),(4,i64 i6),(5,i64 Yv)],[ro 0 3 1 eI Uf]⟩->bS s:=by
    intro Uf hq s hw;subst bV;try dsimp only at h2
    refine XK _ (AH hw ?_);refine AG (by rfl) ?_;refine zm tb 3 U ?_;exact AD (xi (Sh.w (Yv+1),Uf) h2 (AE U))
   refine AN ?_;refine sr U λbT WW=>?_;refine zm tb 3 U ?_;refine zx Ce gc22 U U U ?_;refine zm tb 3 U ?_;obtain⟨YK,gc28,h3⟩:=Sh.bind_some h3;refine zx Ak gc28 U U U ?_;refine zq tb U ?_;obtain⟨Xh,gq29,h3⟩:=Sh.bind_some h3;refine zc QT (F7 gq29) rfl U U ?_;refine dn WW U ?_;refine ci h3 U ?_ ?_<;>clear h3
   ·intro W2 h3;refine sr U λiH Z2=>?_;refine zm tb 2 U ?_;refine zx Ce gc22 U U U ?_;refine zm tb 3 U ?_;refine zx Ak gc28 U U U ?_;refine zm tb 3 U ?_;refine dn Z2 U ?_;refine AG (by rfl) ?_;refine zm tb 4 U ?_;obtain⟨Yw,gc32,h3⟩:=Sh.bind_some h3;refine zz (.ptr 0 0 (Int.toNat (Sh.w (YK-1000))) 0) (CT Ak U U U U gc32) rfl ?_;refine zz (i64 Yw) (DO Ha U U (CN gc32) rfl) rfl ?_;refine zq tb U ?_;refine zz (.ptr 0 0 (Int.toNat (Sh.w (YK-1000))) 0) (CT Ak U U U U gc32) rfl ?_;refine Gl (u':=Sh.w (Yw+1)) Ai Ha U U gc32 U U U UC rfl U ?_;exact AD (bW (Sh.put l17 (Sh.w (YK-1000)) (Sh.w (Yw+1))) (Sh.AA h3).symm _ (AR (L:=[(0,.sl (List.map AI p0)),(3,.own 0 0 (List.length (Sh.put l17 (Sh.w (YK-1000)) (Sh.w (Yw+1))))),(4,i64 i6),(5,i64 Yv)]) ⟨.rfl,(.len (by simp only[Sh.DI])),.rfl,.rfl,Ru⟩))
   ·intro W2 h3;exact AJ (bW l17 (Sh.AA h3).symm _ (AE U))
  ·intro Xq h2;exact Ah (dX l17 (Sh.AA h2).symm _ (AE U))
 ·intro Vo h1;exact Ah (M9 l7 (Sh.AA h1).symm _ (AE U))
theorem HT {N:Nat}{p0:(List Bool)}{p1:(List Int)}{r:Bool}(h0:Cw N p0 p1=some r):AY Try.prog 47 [ls eB p0,ls eI p1] [] (λv st=>v=(.bool r)/\st=[]):=by
 unfold Cw at h0;refine ai Try.func47 U U U U ?_;refine zr tb U U ?_;refine AB λK2 UQ=>?_;refine zr tb U U ?_;obtain⟨o5,h1,h0⟩:=Sh.An h0;have M5:∀(_:Unit),o5=Sum.inr ()->∀s,Wk 0 s ⟨28,AX [],[]⟩->K2 s:=by
  intro _ hq s hw;subst o5;try dsimp only at h0
  refine UQ _ (AH hw ?_);refine zr tb U U ?_;replace h0:=Sh.AA h0;subst r;exact AM (xr (AR (L:=[(4,.bool true)]) ⟨.rfl,Ru⟩))
 refine AN (Ae (σ:=Int) (λn v=>BE p0 p1 n v=some o5) (λi4=>⟨28,AX [(0,ls eB p0),(1,ls eI p1),(5,i64 i4)],[]⟩) N 0 h1 (AE U) (λ_ hv=>by rw[BE]at hv;cases hv) ?_);rintro n i4 h1;try dsimp only at h1⊢
 rw[BE]at h1;refine AB λK7 Xo=>?_;refine sr U λK8 Vb=>?_;refine zm tb 2 U ?_;refine zl tb U U ?_;refine zq tb U ?_;refine dn Vb U ?_;refine ci h1 U ?_ ?_<;>clear h1
 ·intro b9 h1;refine AJ (Xo _ ?_);refine AB λWq Ub=>?_;refine AN ?_;refine AB λXS Uo=>?_;obtain⟨ZQ,h2,h1⟩:=Sh.bind_some h1;have Yn:∀(t12:Bool),ZQ=t12->∀s,Wk 0 s ⟨28,AX [(0,ls eB p0),(1,ls eI p1),(5,i64 i4),(27,.bool t12)],[]⟩->XS s:=by
   intro t12 hq s hw;subst ZQ;try dsimp only at h1
   refine Uo _ (AH hw ?_);refine ci h1 U ?_ ?_<;>clear h1
   ·intro Ve h1;refine zr tb U U ?_;replace h1:=Sh.AA h1;subst o5;try dsimp only[id]at h0
    replace h0:=Sh.AA h0;subst r;exact AM (xr (AR (L:=[(4,.bool false)]) ⟨.rfl,Ru⟩))
   ·intro Ve h1;refine AJ (Ub _ ?_);refine AG (by rfl) ?_;refine zm tb 3 U ?_;exact AD (xi (Sh.w (i4+1)) h1 (AE U))
  refine AG (by rfl) ?_;refine zm tb 2 U ?_;obtain⟨aU,gc16,h2⟩:=Sh.bind_some h2;refine zx Ak gc16 U U U ?_;refine zq tb U ?_;obtain⟨U1,gq17,h2⟩:=Sh.bind_some h2;refine zc Nj (Ct gq17) rfl U U ?_;refine zq tb U ?_;rcases Sh.Aa h2 with ⟨WZ,h2⟩|⟨WZ,h2⟩
  ·refine zg tb WZ U ?_;iterate 2 refine zg tb WZ rfl ?_
   refine BZ (v:=(.A4 (eI aU) 0)) (B8 U U WZ) rfl (Bt Ak U U gc16 U) ?_;iterate 2 refine zg tb WZ rfl ?_
   obtain⟨Yx,gc19,h2⟩:=Sh.bind_some h2;refine BZ (v:=(.A4 (eB Yx) 0)) (B8 U U WZ) rfl (Bt Nx U U gc19 U) ?_;iterate 2 refine zg tb WZ rfl ?_
   refine zt WZ U ?_;exact AD (Yn (!Yx) (Sh.AA h2).symm _ (AE U))
  ·refine zs WZ U ?_;iterate 8 refine zs WZ rfl ?_
   refine zf WZ U ?_;exact AD (Yn false (Sh.AA h2).symm _ (AE U))
 ·intro b9 h1;exact Ah (M5 () (Sh.AA h1).symm _ (AE U))
theorem HL {N:Nat}{p0:(List Cell)}{r:Bool}(h0:Cz N p0=some r):AY Try.prog 38 [ls AI p0] [] (λv st=>v=(.bool r)/\st=[]):=by
 unfold Cz at h0;refine ai Try.func38 U U U U ?_;refine zr tb U U ?_;refine sr U λK2 UQ=>?_;refine zq tb U ?_;refine zl tb U U ?_;obtain⟨l3,gl3,h0⟩:=Sh.bind_some h0;refine H3 (m:=0) (enc:=eB) (u:=false) Ai Nx U U U gl3 U U ?_;refine zq tb U ?_;refine dn UQ U ?_;refine zr tb U U ?_;refine AB λK5 Xn=>?_;refine zr tb U U ?_;obtain⟨Wu,h1,h0⟩:=Sh.bind_some h0;have YS:∀(Va:Int),Wu=Va->∀s,Wk 0 s ⟨40,AX [(0,ls AI p0),(4,i64 Va)],[]⟩->K5 s:=by
  intro Va hq s hw;subst Wu;try dsimp only at h0
  refine Xn _ (AH hw ?_);refine sr U λZ0 VD=>?_;refine zm tb 2 U ?_;refine zl tb U U ?_;refine zm tb 2 U ?_;refine dn VD U ?_;replace h0:=Sh.AA h0;subst r;exact AM (xr (AR (L:=[(2,.bool (decide (Va=(Sh.len p0))))]) ⟨.rfl,Ru⟩))
 refine AN (Ae (σ:=Int×Bool×(List Bool)) (λn v=>BG N p0 n v.1 v.2.1 v.2.2=some Wu) (λ(VO,more8,l9)=>⟨40,AX [(0,ls AI p0),(3,ow 0 0 l9),(4,i64 VO),(5,.bool more8)],[ro 0 4 1 eB l9]⟩) N (0,true,l3) h1 (AE U) (λ_ hv=>by rw[BG]at hv;cases hv) ?_);rintro n ⟨VO,more8,l9⟩ h1;try dsimp only at h1⊢
 rw[BG]at h1;refine AB λY1 Vc=>?_;refine zr tb U U ?_;refine ci h1 U ?_ ?_<;>clear h1
 ·intro Z5 h1;refine AJ (Vc _ ?_);refine AN ?_;iterate 2 refine zr tb rfl rfl ?_
  obtain⟨ZS,h2,h1⟩:=Sh.bind_some h1;have dY:∀(VB:Int) (VC:Bool) (Wy:(List Bool)),ZS=(VB,VC,Wy)->∀s,Wk 0 s ⟨40,AX [(0,ls AI p0),(3,ow 0 0 Wy),(4,i64 VB),(5,.bool VC)],[ro 0 4 1 eB Wy]⟩->(∃v,BG N p0 n v.1 v.2.1 v.2.2=some Wu/\Wk 0 s ((λ(VO,more8,l9)=>⟨40,AX [(0,ls AI p0),(3,ow 0 0 l9),(4,i64 VO),(5,.bool more8)],[ro 0 4 1 eB l9]⟩) v)):=by
   intro VB VC Wy hq s hw;subst ZS;try dsimp only at h1
   exact Exists.intro (VB,VC,Wy) (And.intro h1 (hw.trans (AR (L:=[(0,ls AI p0),(3,ow 0 0 Wy),(4,i64 VB),(5,.bool VC)]) ⟨.rfl,.rfl,.rfl,.rfl,Ru⟩)))
  refine AN (Ae (σ:=Int×Bool×Int×(List Bool)) (λn v=>BH N p0 n v.1 v.2.1 v.2.2.1 v.2.2.2=some ZS) (λ(Un,more19,i20,Vj)=>⟨40,AX [(0,ls AI p0),(3,ow 0 0 Vj),(4,i64 Un),(5,.bool more19),(6,i64 i20)],[ro 0 4 1 eB Vj]⟩) N (VO,false,0,l9) h2 (AE U) (λ_ hv=>by rw[BH]at hv;cases hv) ?_);rintro n ⟨Un,more19,i20,Vj⟩ h2;try dsimp only at h2⊢
  rw[BH]at h2;refine AB λdZ YT=>?_;refine sr U λbT WW=>?_;refine zm tb 2 U ?_;refine zl tb U U ?_;refine zq tb U ?_;refine dn WW U ?_;refine ci h2 U ?_ ?_<;>clear h2
  ·intro da h2;refine AJ (YT _ ?_);refine AB λiJ db=>?_;obtain⟨fr,h3,h2⟩:=Sh.bind_some h2;have ft:∀(Ug:Int) (VZ:Bool) (Zr:(List Bool)),fr=(Ug,VZ,Zr)->∀s,Wk 0 s ⟨40,AX [(0,ls AI p0),(3,ow 0 0 Zr),(4,i64 Ug),(5,.bool VZ),(6,i64 i20)],[ro 0 4 1 eB Zr]⟩->iJ s:=by
    intro Ug VZ Zr hq s hw;subst fr;try dsimp only at h2
    refine db _ (AH hw ?_);refine AG (by rfl) ?_;refine zm tb 3 U ?_;exact AD (xi (Ug,VZ,Sh.w (i20+1),Zr) h2 (AE U))
   refine AN ?_;refine AB λcP YU=>?_;obtain⟨fu,h4,h3⟩:=Sh.bind_some h3;have fv:∀(t35:Bool),fu=t35->∀s,Wk 0 s ⟨40,AX [(0,ls AI p0),(3,ow 0 0 Vj),(4,i64 Un),(5,.bool more19),(6,i64 i20),(30,.bool t35)],[ro 0 4 1 eB Vj]⟩->cP s:=by
    intro t35 hq s hw;subst fu;try dsimp only at h3
    refine YU _ (AH hw ?_);refine ci h3 U ?_ ?_<;>clear h3
    ·intro Y4 h3;refine sr U λiK Z6=>?_;refine zm tb 2 U ?_;obtain⟨VI,gc39,h3⟩:=Sh.bind_some h3;refine zz (.ptr 0 0 (Int.toNat i20) 0) (CT Nx U U U U gc39) rfl ?_;refine Gl (u':=true) Ai Q8 U U gc39 U U U UC rfl U ?_;refine dn Z6 U ?_;refine zr tb U U ?_;refine AG (by rfl) ?_;refine zq tb U ?_;exact AD (ft (Sh.w (Un+1)) true (Sh.put Vj i20 true) (Sh.AA h3).symm _ (AR (L:=[(0,.sl (List.map AI p0)),(3,.own 0 0 (List.length (Sh.put Vj i20 true))),(4,i64 (Sh.w (Un+1))),(5,.bool true),(6,i64 i20)]) ⟨.rfl,(.len (by simp only[Sh.DI])),.rfl,.rfl,.rfl,Ru⟩))
    ·intro Y4 h3;exact AJ (ft Un more19 Vj (Sh.AA h3).symm _ (AE U))
   refine AG (by rfl) ?_;refine zm tb 2 U ?_;obtain⟨dI,gc41,h4⟩:=Sh.bind_some h4;refine zz (.ptr 0 0 (Int.toNat i20) 0) (CT Nx U U U U gc41) rfl ?_;refine zz (.bool dI) (DO Q8 U U (CN gc41) rfl) rfl ?_;refine zm tb 2 U ?_;rcases Sh.Aa h4 with ⟨YV,h4⟩|⟨YV,h4⟩
   ·refine zg tb YV U ?_;iterate 2 refine zg tb YV rfl ?_
    obtain⟨dJ,gc43,h4⟩:=Sh.bind_some h4;refine BZ (v:=(.A4 (AI dJ) 0)) (B8 U U YV) rfl (Bt Ce U U gc43 U) ?_;iterate 2 refine zg tb YV rfl ?_
    obtain⟨bx,gq44,h4⟩:=Sh.bind_some h4;refine Gm (v':=(.bool bx)) (B8 U U YV) RI (HT gq44) rfl (.own U U (λ_=>U) (.val U .nil)) rfl Ru U U ?_;refine zt YV U ?_;exact AD (fv bx (Sh.AA h4).symm _ (AE U))
   ·refine zs YV U ?_;iterate 6 refine zs YV rfl ?_
    refine zf YV U ?_;exact AD (fv false (Sh.AA h4).symm _ (AE U))
  ·intro da h2;exact Ah (dY Un more19 Vj (Sh.AA h2).symm _ (AE U))
 ·intro Z5 h1;exact Ah (YS VO (Sh.AA h1).symm _ (Ag _ U))
theorem HD {N:Nat}{p0:(List Cell)}{r:Bool}(h0:B7 N p0=some r):AY Try.prog 22 [ls AI p0] [] (λv st=>v=(.bool r)/\st=[]):=by
 unfold B7 at h0;refine ai Try.func22 U U U U ?_;refine zr tb U U ?_;refine AB λK2 UQ=>?_;refine AB λK3 Uv=>?_;obtain⟨o5,h1,h0⟩:=Sh.bind_some h0;have M5:∀(t4:Bool),o5=t4->∀s,Wk 0 s ⟨60,AX [(0,ls AI p0),(18,.bool t4)],[]⟩->K3 s:=by
  intro t4 hq s hw;subst o5;try dsimp only at h0
  refine Uv _ (AH hw ?_);refine ci h0 U ?_ ?_<;>clear h0
  ·intro b6 h0;refine zr tb U U ?_;replace h0:=Sh.AA h0;subst r;exact AM (xr (AR (L:=[(2,.bool false)]) ⟨.rfl,Ru⟩))
  ·intro b6 h0;refine AJ (UQ _ ?_);refine AB λK8 Vb=>?_;refine zr tb U U ?_;obtain⟨Wu,h1,h0⟩:=Sh.An h0;have YS:∀(_:Unit),Wu=Sum.inr ()->∀s,Wk 0 s ⟨60,AX [(0,ls AI p0)],[]⟩->K8 s:=by
    intro _ hq s hw;subst Wu;try dsimp only at h0
    refine Vb _ (AH hw ?_);refine sr U λZ0 VD=>?_;refine zq tb U ?_;obtain⟨V8,gq13,h0⟩:=Sh.bind_some h0;refine Cd (v':=(ow 0 0 V8)) Ai Qu (Iq gq13) rfl U ⟨(By λ_=>U),Ru⟩ U U ?_;refine zq tb U ?_;refine dn VD U ?_;refine AB λX1 VE=>?_;refine zr tb U U ?_;obtain⟨Y5,h1,h0⟩:=Sh.An h0;have dc:∀(_:Unit),Y5=Sum.inr ()->∀s,Wk 0 s ⟨60,AX [(0,ls AI p0)],[]⟩->X1 s:=by
     intro _ hq s hw;subst Y5;try dsimp only at h0
     refine VE _ (AH hw ?_);refine sr U λbQ XG=>?_;refine zq tb U ?_;obtain⟨dK,gq19,h0⟩:=Sh.bind_some h0;refine zc RV (HL gq19) rfl U U ?_;refine zq tb U ?_;refine dn XG U ?_;replace h0:=Sh.AA h0;subst r;exact AM (xr (AR (L:=[(2,.bool dK)]) ⟨.rfl,Ru⟩))
    refine AN (Ae (σ:=Int) (λn v=>BJ p0 V8 n v=some Y5) (λi16=>⟨60,AX [(0,ls AI p0),(4,ow 0 0 V8),(5,i64 i16)],[ro 0 3 1 eI V8]⟩) N 0 h1 (AE U) (λ_ hv=>by rw[BJ]at hv;cases hv) ?_);rintro n i16 h1;try dsimp only at h1⊢
    rw[BJ]at h1;refine AB λbU WY=>?_;refine sr U λfq YR=>?_;refine zm tb 2 U ?_;refine zl tb U U ?_;refine zq tb U ?_;refine dn YR U ?_;refine ci h1 U ?_ ?_<;>clear h1
    ·intro YO h1;refine AJ (WY _ ?_);refine AB λcQ Wa=>?_;refine AN ?_;refine AB λbS XK=>?_;obtain⟨bV,h2,h1⟩:=Sh.bind_some h1;have bW:∀(t25:Bool),bV=t25->∀s,Wk 0 s ⟨60,AX [(0,ls AI p0),(4,ow 0 0 V8),(5,i64 i16),(57,.bool t25)],[ro 0 3 1 eI V8]⟩->bS s:=by
      intro t25 hq s hw;subst bV;try dsimp only at h1
      refine XK _ (AH hw ?_);refine ci h1 U ?_ ?_<;>clear h1
      ·intro cN h1;refine zr tb U U ?_;replace h1:=Sh.AA h1;subst Y5;try dsimp only[id]at h0
       replace h0:=Sh.AA h0;subst r;exact AM (xr (Ag [(2,.bool false)] U))
      ·intro cN h1;refine AJ (Wa _ ?_);refine AG (by rfl) ?_;refine zm tb 3 U ?_;exact AD (xi (Sh.w (i16+1)) h1 (AE U))
     refine D6 (by kernel_rfl) (by kernel_rfl) (by rfl) ?_;iterate 2 refine yq tb rfl ?_
     obtain⟨XC,gc29,h2⟩:=Sh.bind_some h2;refine yx Ce gc29 U U U ?_;iterate 4 refine yq tb rfl ?_
     rcases Sh.Aa h2 with ⟨W2,h2⟩|⟨W2,h2⟩
     ·refine yg tb W2 U ?_;refine yg tb W2 U ?_;refine Hb (v:=(.A4 (AI XC) 0)) (B8 U U W2) rfl (Bt Ce U U gc29 U) ?_;iterate 4 refine yg tb W2 rfl ?_
      obtain⟨bz,gc31,h2⟩:=Sh.bind_some h2;refine Hb (v:=(.ptr 0 0 (Int.toNat i16) 0)) (B8 U U W2) rfl (CT Ak U U U U gc31) ?_;refine Hb (v:=(i64 bz)) (B8 U U W2) rfl (DO Ha U U (CN gc31) rfl) ?_;refine yg tb W2 U ?_;refine yt W2 U ?_;exact DA (bW (decide (XC.count<bz)) (Sh.AA h2).symm _ (AE U))
     ·refine ys W2 U ?_;iterate 9 refine ys W2 rfl ?_
      refine yf W2 U ?_;exact DA (bW false (Sh.AA h2).symm _ (AE U))
    ·intro YO h1;exact Ah (dc () (Sh.AA h1).symm _ (Ag _ U))
   refine AN (Ae (σ:=Int) (λn v=>BF N p0 n v=some Wu) (λi10=>⟨60,AX [(0,ls AI p0),(3,i64 i10)],[]⟩) N 0 h1 (AE U) (λ_ hv=>by rw[BF]at hv;cases hv) ?_);rintro n i10 h1;try dsimp only at h1⊢
   rw[BF]at h1;refine AB λdT XI=>?_;refine sr U λiL Z7=>?_;refine zm tb 2 U ?_;refine zl tb U U ?_;refine zq tb U ?_;refine dn Z7 U ?_;refine ci h1 U ?_ ?_<;>clear h1
   ·intro Ws h1;refine AJ (XI _ ?_);refine AB λfh YQ=>?_;refine AN ?_;refine sr U λcO XJ=>?_;refine zm tb 3 U ?_;obtain⟨UP,gc37,h1⟩:=Sh.bind_some h1;refine zx Ce gc37 U U U ?_;refine zq tb U ?_;obtain⟨Wo,gq38,h1⟩:=Sh.bind_some h1;refine zc Rf (HH gq38) rfl U U ?_;refine zq tb U ?_;refine dn XJ U ?_;refine ci h1 U ?_ ?_<;>clear h1
    ·intro Xr h1;have jl:Wo=false:=by simpa using Xr
     refine zr tb U U ?_;replace h1:=Sh.AA h1;subst Wu;try dsimp only[id]at h0
     replace h0:=Sh.AA h0;subst r;exact AM (xr (AR (L:=[(2,.bool false)]) ⟨.rfl,Ru⟩))
    ·intro Xr h1;have YV:Wo=true:=by simpa using Xr
     refine AJ (YQ _ ?_);refine AG (by rfl) ?_;refine zm tb 3 U ?_;exact AD (xi (Sh.w (i10+1)) h1 (AE U))
   ·intro Ws h1;exact Ah (YS () (Sh.AA h1).symm _ (AE U))
 refine AG (by rfl) ?_;refine zq tb U ?_;refine zl tb U U ?_;refine zm tb 2 U ?_;rcases Sh.Aa h1 with ⟨Xp,h1⟩|⟨Xp,h1⟩
 ·refine zg tb Xp U ?_;refine zg tb Xp U ?_;refine BZ (v:=(i64 (Sh.len p0))) (B8 U U Xp) rfl (Db MP U) ?_;refine zg tb Xp U ?_;obtain⟨cA,gc44,h1⟩:=Sh.bind_some h1;refine BZ (v:=(.A4 (AI cA) 0)) (B8 U U Xp) rfl (Bt Ce U U gc44 U) ?_;iterate 3 refine zg tb Xp rfl ?_
  refine zt Xp U ?_;exact AD (M5 (decide (cA.count=0)) (Sh.AA h1).symm _ (AE U))
 ·refine zs Xp U ?_;iterate 7 refine zs Xp rfl ?_
  refine zf Xp U ?_;exact AD (M5 false (Sh.AA h1).symm _ (AE U))
theorem Iy {N:Nat}{p0:(List Int)}{p1:(List Int)}{p2:Int}{r:(List Int)}(h0:Dv N p0 p1 p2=some r):AY Try.prog 25 [ls eI p0,ls eI p1,i64 p2] [] (λv st=>v=(ow 0 0 r)/\st=[ro 0 3 1 eI r]):=by
 unfold Dv at h0;refine ai Try.func25 U U U U ?_;refine zr tb U U ?_;refine sr U λK2 UQ=>?_;refine DU (m:=0) (l:=([]:List Int)) (enc:=eI) Ai Ak (by decide) rfl U U U U U ?_;refine zq tb U ?_;refine dn UQ U ?_;refine AB λK3 Uv=>?_;refine zr tb U U ?_;obtain⟨o8,h1,h0⟩:=Sh.bind_some h0;have M8:∀(l7:(List Int)),o8=l7->∀s,Wk 0 s ⟨42,AX [(7,ow 0 0 l7)],[ro 0 3 1 eI l7]⟩->K3 s:=by
  intro l7 hq s hw;subst o8;try dsimp only at h0
  refine Uv _ (AH hw ?_);refine zr tb U U ?_;replace h0:=Sh.AA h0;subst r;exact AM (xr (AR (L:=[(6,ow 0 0 l7)]) ⟨.rfl,Ru⟩))
 refine AN (Ae (σ:=Int×(List Int)) (λn v=>B9 p0 p1 p2 n v.1 v.2=some o8) (λ(i5,l6)=>⟨42,AX [(0,ls eI p0),(1,ls eI p1),(2,i64 p2),(7,ow 0 0 l6),(8,i64 i5)],[ro 0 3 1 eI l6]⟩) N (0,[]) h1 (AE U) (λ_ hv=>by rw[B9]at hv;cases hv) ?_);rintro n ⟨i5,l6⟩ h1;try dsimp only at h1⊢
 rw[B9]at h1;refine AB λWq Ub=>?_;refine sr U λXS Uo=>?_;refine zm tb 2 U ?_;refine zl tb U U ?_;refine zq tb U ?_;refine dn Uo U ?_;refine ci h1 U ?_ ?_<;>clear h1
 ·intro Vn h1;refine AJ (Ub _ ?_);refine AB λY1 Vc=>?_;obtain⟨XU,h2,h1⟩:=Sh.bind_some h1;have Ym:∀(VU:(List Int)),XU=VU->∀s,Wk 0 s ⟨42,AX [(0,ls eI p0),(1,ls eI p1),(2,i64 p2),(7,ow 0 0 VU),(8,i64 i5)],[ro 0 3 1 eI VU]⟩->Y1 s:=by
   intro VU hq s hw;subst XU;try dsimp only at h1
   refine Vc _ (AH hw ?_);refine AG (by rfl) ?_;refine zm tb 3 U ?_;exact AD (xi (Sh.w (i5+1),VU) h1 (AE U))
  refine AN ?_;refine AB λZP Vd=>?_;obtain⟨fw,h3,h2⟩:=Sh.bind_some h2;have fx:∀(t17:Bool),fw=t17->∀s,Wk 0 s ⟨42,AX [(0,ls eI p0),(1,ls eI p1),(2,i64 p2),(7,ow 0 0 l6),(8,i64 i5),(33,.bool t17)],[ro 0 3 1 eI l6]⟩->ZP s:=by
   intro t17 hq s hw;subst fw;try dsimp only at h2
   refine Vd _ (AH hw ?_);refine ci h2 U ?_ ?_<;>clear h2
   ·intro dd h2;refine AG (by rfl) ?_;refine zm tb 3 U ?_;obtain⟨bN,gc20,h2⟩:=Sh.bind_some h2;refine zx Ak gc20 U U U ?_;refine zq tb U ?_;refine DU (m:=1) (l:=[bN]) (enc:=eI) Ai Ak (by decide) rfl U U U U U ?_;obtain⟨Vj,gl21,h2⟩:=Sh.bind_some h2;refine ED (l2:=[bN]) Ai Ak U U U U (Ip U U) (λ_=>U) gl21 U ?_;refine zq tb U ?_;exact AD (Ym Vj (Sh.AA h2).symm _ (by refine Wk.trans (Ci (L:=[(0,ls eI p0),(1,ls eI p1),(2,i64 p2),(7,ow 0 0 Vj),(8,i64 i5)]) (st':=[ro 0 3 1 eI Vj,ro 0 3 1 eI [bN]]) (.pure (AK λ_=>U) (.pure (AK λ_=>U) .nil)) ⟨.rfl,.rfl,.rfl,.rfl,.rfl,Ru⟩) ?_;exact Ac (L:=[(0,ls eI p0),(1,ls eI p1),(2,i64 p2),(7,ow 0 0 Vj),(8,i64 i5)]) (st':=[ro 0 3 1 eI Vj]) (st1:=[ro 0 3 1 eI Vj]) [0] U .nil (by decide) rfl U (.pure (AK λ_=>U) .nil) ⟨.rfl,.rfl,.rfl,.rfl,.rfl,Ru⟩))
   ·intro dd h2;exact AJ (Ym l6 (Sh.AA h2).symm _ (AE U))
  refine AG (by rfl) ?_;refine zm tb 3 U ?_;obtain⟨ZM,gc22,h3⟩:=Sh.bind_some h3;refine zx Ak gc22 U U U ?_;refine zq tb U ?_;obtain⟨ZN,gc23,h3⟩:=Sh.bind_some h3;refine zx Ak gc23 U U U ?_;refine zm tb 3 U ?_;rcases Sh.Aa h3 with ⟨b24,h3⟩|⟨b24,h3⟩
  ·refine zg tb b24 U ?_;iterate 2 refine zg tb b24 rfl ?_
   refine BZ (v:=(.A4 (eI ZM) 0)) (B8 U U b24) rfl (Bt Ak U U gc22 U) ?_;refine zg tb b24 U ?_;obtain⟨Yz,gq25,h3⟩:=Sh.bind_some h3;refine zd b24 Nz (Dd gq25) rfl U U U ?_;iterate 2 refine zg tb b24 rfl ?_
   refine zt b24 U ?_;exact AD (fx (decide (Yz=p2)) (Sh.AA h3).symm _ (AE U))
  ·refine zs b24 U ?_;iterate 7 refine zs b24 rfl ?_
   refine zf b24 U ?_;exact AD (fx false (Sh.AA h3).symm _ (AE U))
 ·intro Vn h1;exact Ah (M8 l6 (Sh.AA h1).symm _ (AE U))
theorem FB {N:Nat}{p0:(List Int)}{p1:Int}{r:Bool}(h0:Dh N p0 p1=some r):AY Try.prog 33 [ls eI p0,i64 p1] [] (λv st=>v=(.bool r)/\st=[]):=by
 unfold Dh at h0;refine ai Try.func33 U U U U ?_;refine zr tb U U ?_;refine AB λK2 UQ=>?_;refine zr tb U U ?_;obtain⟨o5,h1,h0⟩:=Sh.An h0;have M5:∀(_:Unit),o5=Sum.inr ()->∀s,Wk 0 s ⟨18,AX [],[]⟩->K2 s:=by
  intro _ hq s hw;subst o5;try dsimp only at h0
  refine UQ _ (AH hw ?_);refine zr tb U U ?_;replace h0:=Sh.AA h0;subst r;exact AM (xr (AR (L:=[(4,.bool false)]) ⟨.rfl,Ru⟩))
 refine AN (Ae (σ:=Int) (λn v=>CV p0 p1 n v=some o5) (λi4=>⟨18,AX [(0,ls eI p0),(1,i64 p1),(5,i64 i4)],[]⟩) N 0 h1 (AE U) (λ_ hv=>by rw[CV]at hv;cases hv) ?_);rintro n i4 h1;try dsimp only at h1⊢
 rw[CV]at h1;refine AB λK7 Xo=>?_;refine sr U λK8 Vb=>?_;refine zm tb 2 U ?_;refine zl tb U U ?_;refine zq tb U ?_;refine dn Vb U ?_;refine ci h1 U ?_ ?_<;>clear h1
 ·intro b9 h1;refine AJ (Xo _ ?_);refine AB λWq Ub=>?_;refine AN ?_;refine sr U λXS Uo=>?_;refine zm tb 2 U ?_;obtain⟨XB,gc12,h1⟩:=Sh.bind_some h1;refine zx Ak gc12 U U U ?_;refine zm tb 3 U ?_;refine dn Uo U ?_;refine ci h1 U ?_ ?_<;>clear h1
  ·intro Vo h1;refine zr tb U U ?_;replace h1:=Sh.AA h1;subst o5;try dsimp only[id]at h0
   replace h0:=Sh.AA h0;subst r;exact AM (xr (AR (L:=[(4,.bool true)]) ⟨.rfl,Ru⟩))
  ·intro Vo h1;refine AJ (Ub _ ?_);refine AG (by rfl) ?_;refine zm tb 3 U ?_;exact AD (xi (Sh.w (i4+1)) h1 (AE U))
 ·intro b9 h1;exact Ah (M5 () (Sh.AA h1).symm _ (AE U))
theorem H6 {N:Nat}{p0:(List Int)}{p1:Int}{p2:(List Int)}{r:Bool}(h0:DW N p0 p1 p2=some r):AY Try.prog 24 [ls eI p0,i64 p1,ls eI p2] [] (λv st=>v=(.bool r)/\st=[]):=by
 unfold DW at h0;refine ai Try.func24 U U U U ?_;refine zr tb U U ?_;refine sr U λK2 UQ=>?_;refine DU (m:=0) (l:=([]:List Int)) (enc:=eI) Ai Ak (by decide) rfl U U U U U ?_;refine zq tb U ?_;refine dn UQ U ?_;refine AB λK3 Uv=>?_;obtain⟨o7,h1,h0⟩:=Sh.An h0;have M7:∀(l6:(List Int)),o7=Sum.inr l6->∀s,Wk 0 s ⟨37,AX [(2,ls eI p2),(7,ow 0 0 l6)],[ro 0 3 1 eI l6]⟩->K3 s:=by
  intro l6 hq s hw;subst o7;try dsimp only at h0
  refine Uv _ (AH hw ?_);refine sr U λK8 Vb=>?_;refine zq tb U ?_;refine zz (i64 (Sh.len l6)) (El F6 U U U) rfl ?_;refine zq tb U ?_;refine zl tb U U ?_;refine zm tb 2 U ?_;refine dn Vb U ?_;replace h0:=Sh.AA h0;subst r;exact AM (xr (Ag [(6,.bool (decide ((Sh.len l6)=(Sh.len p2))))] U))
 refine AN (Ae (σ:=Int×(List Int)) (λn v=>B1 N p0 p2 n v.1 v.2=some o7) (λ(Us,l5)=>⟨37,AX [(0,ls eI p0),(1,i64 Us),(2,ls eI p2),(7,ow 0 0 l5)],[ro 0 3 1 eI l5]⟩) N (p1,[]) h1 (AE U) (λ_ hv=>by rw[B1]at hv;cases hv) ?_);rintro n ⟨Us,l5⟩ h1;try dsimp only at h1⊢
 rw[B1]at h1;refine AB λK9 YP=>?_;refine zr tb U U ?_;refine ci h1 U ?_ ?_<;>clear h1
 ·intro XL h1;have Vn:decide (Us=0)=false:=by simpa using XL
  refine AJ (YP _ ?_);refine AN ?_;refine AB λY1 Vc=>?_;refine AB λX1 VE=>?_;obtain⟨bP,h2,h1⟩:=Sh.bind_some h1;have Z1:∀(t15:Bool),bP=t15->∀s,Wk 0 s ⟨37,AX [(0,ls eI p0),(1,i64 Us),(2,ls eI p2),(7,ow 0 0 l5),(21,.bool t15)],[ro 0 3 1 eI l5]⟩->X1 s:=by
   intro t15 hq s hw;subst bP;try dsimp only at h1
   refine VE _ (AH hw ?_);refine ci h1 U ?_ ?_<;>clear h1
   ·intro XT h1;refine zr tb U U ?_;replace h1:=Sh.AA h1;subst o7;try dsimp only[id]at h0
    replace h0:=Sh.AA h0;subst r;exact AM (xr (Ag [(6,.bool false)] U))
   ·intro XT h1;refine AJ (Vc _ ?_);refine sr U λdS YN=>?_;refine zm tb 3 U ?_;refine DU (m:=1) (l:=[Sh.w (Us-1)]) (enc:=eI) Ai Ak (by decide) rfl U U U U U ?_;obtain⟨Wp,gl20,h1⟩:=Sh.bind_some h1;refine ED (l2:=[Sh.w (Us-1)]) Ai Ak U U U U (Ip U U) (λ_=>U) gl20 U ?_;refine zq tb U ?_;refine dn YN U ?_;refine AG (by rfl) ?_;refine zm tb 2 U ?_;obtain⟨aW,gc21,h1⟩:=Sh.bind_some h1;refine zx Ak gc21 U U U ?_;refine zq tb U ?_;refine zz (i64 (Sh.w (Int.tdiv aW 4))) (I5 U U (by decide)) rfl ?_;refine zq tb U ?_;exact AD (xi (Sh.w (Int.tdiv aW 4),Wp) h1 (by refine Wk.trans (Ci (L:=[(0,ls eI p0),(1,i64 (Sh.w (Int.tdiv aW 4))),(2,ls eI p2),(7,ow 0 0 Wp)]) (st':=[ro 0 3 1 eI Wp,ro 0 3 1 eI [Sh.w (Us-1)]]) (.pure (AK λ_=>U) (.pure (AK λ_=>U) .nil)) ⟨.rfl,.rfl,.rfl,.rfl,Ru⟩) ?_;exact Ac (L:=[(0,ls eI p0),(1,i64 (Sh.w (Int.tdiv aW 4))),(2,ls eI p2),(7,ow 0 0 Wp)]) (st':=[ro 0 3 1 eI Wp]) (st1:=[ro 0 3 1 eI Wp]) [0] U .nil (by decide) rfl U (.pure (AK λ_=>U) .nil) ⟨.rfl,.rfl,.rfl,.rfl,Ru⟩))
  refine AG (by rfl) ?_;refine zm tb 3 U ?_;obtain⟨fe,gq22,h2⟩:=Sh.bind_some h2;refine zc Oa (FB gq22) rfl U U ?_;refine zm tb 2 U ?_;rcases Sh.Aa h2 with ⟨Xq,h2⟩|⟨Xq,h2⟩
  ·refine zs Xq U ?_;iterate 3 refine zs Xq rfl ?_
   refine zt Xq U ?_;exact AD (Z1 true (Sh.AA h2).symm _ (AE U))
  ·refine zg tb Xq U ?_;iterate 2 refine zg tb Xq rfl ?_
   obtain⟨XR,gq24,h2⟩:=Sh.bind_some h2;refine Gm (v':=(.bool XR)) (B8 U U Xq) Oa (FB gq24) rfl (.own U U (λ_=>U) (.val U .nil)) rfl Ru U U ?_;refine zf Xq U ?_;exact AD (Z1 XR (Sh.AA h2).symm _ (AE U))
 ·intro XL h1;have fy:decide (Us=0)=true:=by simpa using XL
  exact Ah (M7 l5 (Sh.AA h1).symm _ (AE U))
theorem GH {N:Nat}{p0:Aj}{r:Bool}(h0:CQ N p0=some r):AY Try.prog 13 [.agg (AS p0)] [] (λv st=>v=(.bool r)/\st=[]):=by
 unfold CQ at h0;refine ai Try.func13 U U U U ?_;refine sr U λK1 VQ=>?_;refine Ca (m:=0) Ai U U U U U ?_;refine zq tb U ?_;refine dn VQ U ?_;refine sr U λK2 UQ=>?_;refine zm tb 2 U ?_;obtain⟨q3,gq3,h0⟩:=Sh.bind_some h0;refine Cd (v':=(.BB [ow 1 0 q3.1,.bool q3.2])) Ai PO (DB gq3) rfl U ⟨(By λ_=>U),Ru⟩ U U ?_;refine zm tb 5 U ?_;refine dn UQ U ?_;refine AB λK4 WT=>?_;refine AB λK5 Xn=>?_;obtain⟨o7,h1,h0⟩:=Sh.bind_some h0;have M7:∀(t6:Bool),o7=t6->∀s,Wk 0 s ⟨55,AX [(1,.ptr 0 0 0 0),(3,ow 1 0 q3.1),(21,.bool t6)],[⟨0,27,2,[AS p0]⟩,ro 0 3 1 eI q3.1]⟩->K5 s:=by
  intro t6 hq s hw;subst o7;try dsimp only at h0
  refine Xn _ (AH hw ?_);refine ci h0 U ?_ ?_<;>clear h0
  ·intro b8 h0;refine zr tb U U ?_;replace h0:=Sh.AA h0;subst r;exact AM (xr (Ag [(2,.bool false)] U))
  ·intro b8 h0;refine AJ (WT _ ?_);refine sr U λWq Ub=>?_;refine zm tb 3 U ?_;refine A0 (Wk.DT (L:=[(1,.ptr 0 0 0 0),(3,ls eI q3.1),(24,ls eI p0.words),(25,ls eI q3.1)]) (st':=[⟨0,27,2,[AS p0]⟩,⟨1,3,1,[]⟩]) (id:=1) rfl UD (AK λ_=>U) ⟨.rfl,.DT U,.rfl,.DT U,Ru⟩ U) ?_;obtain⟨U9,gq11,h0⟩:=Sh.bind_some h0;refine Cd (v':=(.BB [ow 2 0 U9.1,.bool U9.2])) Ai RF (IM gq11) rfl U ⟨(By λ_=>U),Ru⟩ U U ?_;refine zm tb 5 U ?_;refine dn Ub U ?_;refine AB λZ0 VD=>?_;refine AB λY1 Vc=>?_;obtain⟨XU,h1,h0⟩:=Sh.bind_some h0;have Ym:∀(t14:Bool),XU=t14->∀s,Wk 0 s ⟨55,AX [(1,.ptr 0 0 0 0),(3,ls eI q3.1),(36,.bool t14)],[⟨0,27,2,[AS p0]⟩]⟩->Y1 s:=by
    intro t14 hq s hw;subst XU;try dsimp only at h0
    refine Vc _ (AH hw ?_);refine ci h0 U ?_ ?_<;>clear h0
    ·intro XV h0;refine zr tb U U ?_;replace h0:=Sh.AA h0;subst r;exact AM (xr (Ag [(2,.bool false)] U))
    ·intro XV h0;refine AJ (VD _ ?_);refine AB λbQ XG=>?_;refine zr tb U U ?_;obtain⟨Y2,h1,h0⟩:=Sh.An h0;have dW:∀(_:Unit),Y2=Sum.inr ()->∀s,Wk 0 s ⟨55,AX [],[]⟩->bQ s:=by
      intro _ hq s hw;subst Y2;try dsimp only at h0
      refine XG _ (AH hw ?_);refine zr tb U U ?_;replace h0:=Sh.AA h0;subst r;exact AM (xr (AR (L:=[(2,.bool true)]) ⟨.rfl,Ru⟩))
     refine AN (Ae (σ:=Int) (λn v=>BS N p0 q3 n v=some Y2) (λU3=>⟨55,AX [(1,.ptr 0 0 0 0),(3,ls eI q3.1),(7,i64 U3)],[⟨0,27,2,[AS p0]⟩]⟩) N 0 h1 (AE U) (λ_ hv=>by rw[BS]at hv;cases hv) ?_);rintro n U3 h1;try dsimp only at h1⊢
     rw[BS]at h1;refine AB λcQ Wa=>?_;refine zr tb U U ?_;refine ci h1 U ?_ ?_<;>clear h1
     ·intro fy h1;refine AJ (Wa _ ?_);refine AB λdZ YT=>?_;refine AN ?_;refine AB λbT WW=>?_;refine ET 13 (by kernel_rfl) (by kernel_rfl) (by rfl) ?_;iterate 5 refine yq tb rfl ?_
      obtain⟨YK,gc28,h1⟩:=Sh.bind_some h1;refine yx Ak gc28 U U U ?_;iterate 5 refine yq tb rfl ?_
      obtain⟨Xh,gq29,h1⟩:=Sh.bind_some h1;refine Gn (v:=(ls eI Xh)) Ai Rg (AY.wk (Iy gq29) (by refine Wk.trans (Wk.DT (L:=[(0,ls eI Xh)]) (st':=[⟨1,3,1,[]⟩]) (id:=0) rfl (show 0<=0 by decide) (AK λ_=>U) ⟨.DT U,Ru⟩ U) ?_;refine Wk.trans (Ac (L:=[(0,ls eI Xh)]) (st':=[]) (st1:=[]) [] U .nil (by decide) rfl U .nil ⟨.rfl,Ru⟩) ?_;exact AR (L:=[(0,ls eI Xh)]) ⟨.rfl,Ru⟩)) rfl U U ?_;obtain⟨WQ,gq30,h1⟩:=Sh.bind_some h1;refine Gn (v:=(.bool WQ)) Ai Qz (H6 gq30) rfl U U ?_;refine DA ?_;refine zq tb U ?_;refine dn WW U ?_;refine ci h1 U ?_ ?_<;>clear h1
      ·intro WX h1;have Y3:WQ=false:=by simpa using WX
       refine zr tb U U ?_;replace h1:=Sh.AA h1;subst Y2;try dsimp only[id]at h0
       replace h0:=Sh.AA h0;subst r;exact AM (xr (Ag [(2,.bool false)] U))
      ·intro WX h1;have Ws:WQ=true:=by simpa using WX
       refine AJ (YT _ ?_);refine AG (by rfl) ?_;refine zm tb 3 U ?_;exact AD (xi (Sh.w (U3+1)) h1 (AE U))
     ·intro fy h1;exact Ah (dW () (Sh.AA h1).symm _ (Ag _ U))
   refine AG (by rfl) ?_;refine zm tb 3 U ?_;rcases Sh.Aa h1 with ⟨VF,h1⟩|⟨VF,h1⟩
   ·refine zs VF U ?_;iterate 3 refine zs VF rfl ?_
    refine zt VF U ?_;exact AD (Ym true (Sh.AA h1).symm _ (Ac (L:=[(1,.ptr 0 0 0 0),(3,ls eI q3.1),(36,.bool true)]) (st':=[⟨0,27,2,[AS p0]⟩]) (st1:=[⟨0,27,2,[AS p0]⟩]) [0] U .nil (by decide) rfl U (.raw U U .nil) ⟨.rfl,.rfl,.rfl,Ru⟩))
   ·refine zg tb VF U ?_;refine A0 (Wk.DT (L:=[(1,.ptr 0 0 0 0),(3,ls eI q3.1),(31,.bool (!U9.2)),(32,ls AI U9.1)]) (st':=[⟨0,27,2,[AS p0]⟩,⟨1,3,1,[]⟩,⟨1,54,3,[]⟩]) (id:=2) rfl UB (AK λ_=>U) ⟨.rfl,.rfl,.rfl,.DT U,Ru⟩ U) ?_;obtain⟨aV,gq36,h1⟩:=Sh.bind_some h1;refine zd VF Re (KJ gq36) rfl U U U ?_;obtain⟨cE,gq37,h1⟩:=Sh.bind_some h1;refine zd VF RA (HD gq37) rfl U U U ?_;refine zg tb VF U ?_;refine zf VF U ?_;exact AD (Ym (!cE) (Sh.AA h1).symm _ (Ac (L:=[(1,.ptr 0 0 0 0),(3,ls eI q3.1),(36,.bool (!cE))]) (st':=[⟨0,27,2,[AS p0]⟩]) (st1:=[⟨0,27,2,[AS p0]⟩]) [0] U .nil (by decide) rfl U (.raw U U .nil) ⟨.rfl,.rfl,.rfl,Ru⟩))
 refine AG (by rfl) ?_;refine zm tb 3 U ?_;rcases Sh.Aa h1 with ⟨b38,h1⟩|⟨b38,h1⟩
 ·refine zs b38 U ?_;iterate 3 refine zs b38 rfl ?_
  refine zt b38 U ?_;exact AD (M7 true (Sh.AA h1).symm _ (AE U))
 ·refine zg tb b38 U ?_;refine zg tb b38 U ?_;refine BZ (v:=(i64 (Sh.len p0.free))) (B8 U U b38) rfl (Db F6 U) ?_;refine zg tb b38 U ?_;refine zf b38 U ?_;exact AD (M7 (!decide ((Sh.len p0.free)=4)) (Sh.AA h1).symm _ (AE U))
theorem IV {N:Nat}{p0:Aj}{p1:Int}{r:Bool}(h0:EC N p0 p1=some r):AY Try.prog 17 [.agg (AS p0),i64 p1] [] (λv st=>v=(.bool r)/\st=[]):=by
 unfold EC at h0;refine ai Try.func17 U U U U ?_;refine sr U λK1 VQ=>?_;refine Ca (m:=0) Ai U U U U U ?_;refine zq tb U ?_;refine dn VQ U ?_;refine sr U λK2 UQ=>?_;refine zm tb 2 U ?_;obtain⟨q3,gq3,h0⟩:=Sh.bind_some h0;refine Cd (v':=(.BB [ow 1 0 q3.1,.bool q3.2])) Ai PO (DB gq3) rfl U ⟨(By λ_=>U),Ru⟩ U U ?_;refine zm tb 5 U ?_;refine dn UQ U ?_;refine AB λK4 WT=>?_;obtain⟨o6,h1,h0⟩:=Sh.bind_some h0;have M6:∀(t5:Bool),o6=t5->∀s,Wk 0 s ⟨30,AX [(4,.bool t5)],[]⟩->K4 s:=by
  intro t5 hq s hw;subst o6;try dsimp only at h0
  refine WT _ (AH hw ?_);replace h0:=Sh.AA h0;subst r;exact AM (xr (AR (L:=[(4,.bool t5)]) ⟨.rfl,Ru⟩))
 refine AG (by rfl) ?_;refine zq tb U ?_;obtain⟨q7,gq7,h1⟩:=Sh.bind_some h1;refine zc Nj (Ct gq7) rfl U U ?_;refine zq tb U ?_;rcases Sh.Aa h1 with ⟨b8,h1⟩|⟨b8,h1⟩
 ·refine zg tb b8 U ?_;iterate 2 refine zg tb b8 rfl ?_
  refine A0 (Wk.DT (L:=[(1,i64 p1),(2,.ptr 0 0 0 0),(15,.bool q7),(16,ls eI q3.1),(18,i64 (Sh.w (p1-1000)))]) (st':=[⟨0,27,2,[AS p0]⟩,⟨1,3,1,[]⟩]) (id:=1) rfl UD (AK λ_=>U) ⟨.rfl,.rfl,.rfl,.DT U,.rfl,Ru⟩ U) ?_;obtain⟨q9,gq9,h1⟩:=Sh.bind_some h1;refine zd b8 Oa (FB gq9) rfl U U U ?_;refine zt b8 U ?_;refine zq tb U ?_;rcases Sh.Aa h1 with ⟨WU,h1⟩|⟨WU,h1⟩
  ·refine zg tb WU U ?_;iterate 3 refine zg tb WU rfl ?_
   obtain⟨cJ,gc11,h1⟩:=Sh.bind_some h1;refine BZ (v:=(.A4 (eI cJ) 0)) (B8 U U WU) rfl (Bt Ak U U gc11 U) ?_;iterate 2 refine zg tb WU rfl ?_
   refine zt WU U ?_;refine zq tb U ?_;exact AD (M6 (decide (0<cJ)) (Sh.AA h1).symm _ (Ag _ U))
  ·refine zs WU U ?_;iterate 6 refine zs WU rfl ?_
   refine zf WU U ?_;refine zq tb U ?_;exact AD (M6 false (Sh.AA h1).symm _ (Ag _ U))
 ·refine zs b8 U ?_;iterate 3 refine zs b8 rfl ?_
  refine zf b8 U ?_;refine zq tb U ?_;iterate 7 refine zs rfl rfl ?_
  refine zf U U ?_;refine zq tb U ?_;exact AD (M6 false (Sh.AA h1).symm _ (Ag _ U))
theorem Iv {N:Nat}{p0:Aj}{p1 r:Int}(h0:Dy N p0 p1=some r):AY Try.prog 10 [.agg (AS p0),i64 p1] [] (λv st=>v=(i64 r)/\st=[]):=by
 unfold Dy at h0;refine ai Try.func10 U U U U ?_;refine sr U λK1 VQ=>?_;refine Ca (m:=0) Ai U U U U U ?_;refine zq tb U ?_;refine dn VQ U ?_;refine AB λK2 UQ=>?_;refine AB λK3 Uv=>?_;obtain⟨o5,h1,h0⟩:=Sh.bind_some h0;have M5:∀(t4:Bool),o5=t4->∀s,Wk 0 s ⟨26,AX [(1,i64 p1),(2,.ptr 0 0 0 0),(15,.bool t4)],[⟨0,27,2,[AS p0]⟩]⟩->K3 s:=by
  intro t4 hq s hw;subst o5;try dsimp only at h0
  refine Uv _ (AH hw ?_);refine ci h0 U ?_ ?_<;>clear h0
  ·intro b6 h0;refine zr tb U U ?_;replace h0:=Sh.AA h0;subst r;exact AM (xr (Ag [(4,i64 (-1))] U))
  ·intro b6 h0;refine AJ (UQ _ ?_);refine sr U λK8 Vb=>?_;refine zm tb 2 U ?_;obtain⟨q9,gq9,h0⟩:=Sh.bind_some h0;refine Cd (v':=(.BB [ow 1 0 q9.1,.bool q9.2])) Ai PO (DB gq9) rfl U ⟨(By λ_=>U),Ru⟩ U U ?_;refine zm tb 5 U ?_;refine dn Vb U ?_;refine sr U λWq Ub=>?_;refine zm tb 3 U ?_;refine A0 (Wk.DT (L:=[(22,ls eI q9.1),(24,i64 (Sh.w (p1-1000)))]) (st':=[⟨0,27,2,[AS p0]⟩,⟨1,3,1,[]⟩]) (id:=1) rfl UD (AK λ_=>U) ⟨.DT U,.rfl,Ru⟩ U) ?_;obtain⟨U9,gq11,h0⟩:=Sh.bind_some h0;refine zc QM (FI gq11) rfl U U ?_;refine zq tb U ?_;refine dn Ub U ?_;replace h0:=Sh.AA h0;subst r;exact AM (xr (Ag [(4,i64 U9)] U))
 refine AG (by rfl) ?_;refine zq tb U ?_;obtain⟨fg,gq12,h1⟩:=Sh.bind_some h1;refine zc RK (GH gq12) rfl U U ?_;refine zm tb 2 U ?_;rcases Sh.Aa h1 with ⟨Vo,h1⟩|⟨Vo,h1⟩
 ·refine zs Vo U ?_;iterate 3 refine zs Vo rfl ?_
  refine zt Vo U ?_;exact AD (M5 true (Sh.AA h1).symm _ (AE U))
 ·refine zg tb Vo U ?_;refine zg tb Vo U ?_;obtain⟨Zz,gq14,h1⟩:=Sh.bind_some h1;refine zd Vo RT (IV gq14) rfl U U U ?_;refine zg tb Vo U ?_;refine zf Vo U ?_;exact AD (M5 (!Zz) (Sh.AA h1).symm _ (AE U))
theorem DY {p0:(List Int)}{r:(List Int)}(h0:BO p0=some r):AY Try.prog 26 [ls eI p0] [] (λv st=>v=(ow 0 0 r)/\st=[ro 0 3 1 eI r]):=by
 unfold BO at h0;refine ai Try.func26 U U U U ?_;refine zr tb U U ?_;refine AB λK2 UQ=>?_;refine sr U λK3 Uv=>?_;refine zq tb U ?_;refine Pq Ai F6 U (λhn=>?_) ?_
 ·subst hn;replace h0:some []=some r:=by rw[<- h0];first|rfl|simp[Sh.app]
  refine dn Uv U ?_;refine GF (b:=true) rfl (λ_=>?_) (λq=>nomatch (show true=false from (U:true=true).symm.trans q));refine zr tb U U ?_;replace h0:=Sh.AA h0;subst r;exact AM (Exists.intro _ (And.intro (((Co (t:=2) rfl 3 (size:=1) (by decide)).trans (AR (L:=[(2,.own 0 0 (List.length ([]:List Int)))]) ⟨.rfl,Ru⟩)).trans (AR (L:=[(2,.own 0 0 (List.length ([]:List Int)))]) ⟨.rfl,Ru⟩)) (And.intro U U)))
 ·refine dn Uv U ?_;refine GF (b:=false) rfl (λq=>nomatch (show false=true from (U:false=false).symm.trans q)) (λ_=>?_);refine AJ (UQ _ ?_);refine sr U λK5 Xn=>?_;refine DU (m:=0) (l:=([]:List Int)) (enc:=eI) Ai Ak (by decide) rfl U U U U U ?_;refine zq tb U ?_;obtain⟨l6,gl6,h0⟩:=Sh.bind_some h0;refine ED (l2:=p0) Ai Ak U U U U QG (λ_=>U) gl6 U ?_;refine zq tb U ?_;refine dn Xn U ?_;replace h0:=Sh.AA h0;subst r;exact AM (xr (Ci (L:=[(2,ow 0 0 l6)]) (st':=[ro 0 3 1 eI l6]) (.pure (AK λ_=>U) .nil) ⟨.rfl,Ru⟩))
theorem HX {p0:Int}{r:Bool}(h0:Dg p0=some r):AY Try.prog 40 [i64 p0] [] (λv st=>v=(.bool r)/\st=[]):=by
 unfold Dg at h0;refine ai Try.func40 U U U U ?_;iterate 2 refine zr tb rfl rfl ?_
 replace h0:=Sh.AA h0;subst r;exact AM (xr (AR (L:=[(2,.bool (!decide (p0=0)))]) ⟨.rfl,Ru⟩))
theorem EV {N:Nat}{p0:(List Int)}{r:Int}(h0:Bs N p0=some r):AY Try.prog 48 [ls eI p0,.fn 40 []] [] (λv st=>v=(i64 r)/\st=[]):=by
 unfold Bs at h0;refine ai Try.func48 U U U U ?_;refine zr tb U U ?_;refine AB λK2 UQ=>?_;refine sr U λK3 Uv=>?_;refine zq tb U ?_;refine zl tb U U ?_;refine zq tb U ?_;refine dn Uv U ?_;obtain⟨o5,h1,h0⟩:=Sh.An h0;have M5:∀(_:Unit),o5=Sum.inr ()->∀s,Wk 0 s ⟨19,AX [],[]⟩->K2 s:=by
  intro _ hq s hw;subst o5;try dsimp only at h0
  refine UQ _ (AH hw ?_);refine zr tb U U ?_;replace h0:=Sh.AA h0;subst r;exact AM (xr (AR (L:=[(4,i64 (-1))]) ⟨.rfl,Ru⟩))
 refine AN (Ae (σ:=Int) (λn v=>Am p0 n v=some o5) (λt4=>⟨19,AX [(0,ls eI p0),(1,.fn 40 []),(7,i64 (Sh.len p0)),(8,i64 t4)],[]⟩) N 0 h1 (AE U) (λ_ hv=>by rw[Am]at hv;cases hv) ?_);rintro n t4 h1;try dsimp only at h1⊢
 rw[Am]at h1;refine zr tb U U ?_;refine AB λK8 Vb=>?_;refine ci h1 U ?_ ?_<;>clear h1
 ·intro b9 h1;refine AJ (Vb _ ?_);refine AB λWq Ub=>?_;refine AN ?_;refine zr tb U U ?_;refine sr U λZ0 VD=>?_;refine zm tb 3 U ?_;obtain⟨Zy,gc13,h1⟩:=Sh.bind_some h1;refine zx Ak gc13 U U U ?_;refine zq tb U ?_;obtain⟨Zz,gq14,h1⟩:=Sh.bind_some h1;refine OW (v':=(.bool Zz)) (st':=[]) Ai U RR (HX gq14) rfl U Ru U U ?_;refine dn VD U ?_;refine ci h1 U ?_ ?_<;>clear h1
  ·intro Z5 h1;refine zr tb U U ?_;replace h1:=Sh.AA h1;subst o5;try dsimp only[id]at h0
   replace h0:=Sh.AA h0;subst r;exact AM (xr (AR (L:=[(4,i64 t4)]) ⟨.rfl,Ru⟩))
  ·intro Z5 h1;refine AJ (Ub _ ?_);refine AG (by rfl) ?_;refine zm tb 2 U ?_;exact AD (xi (Sh.w (t4+1)) h1 (AE U))
 ·intro b9 h1;exact Ah (M5 () (Sh.AA h1).symm _ (AE U))
theorem D4 {N:Nat}{p0:(List Int)}{r:Bool}(h0:Be N p0=some r):AY Try.prog 39 [ls eI p0,.fn 40 []] [] (λv st=>v=(.bool r)/\st=[]):=by
 unfold Be at h0;refine ai Try.func39 U U U U ?_;refine zr tb U U ?_;refine sr U λK2 UQ=>?_;refine zm tb 2 U ?_;obtain⟨q3,gq3,h0⟩:=Sh.bind_some h0;refine zc RL (EV gq3) rfl U U ?_;refine zm tb 2 U ?_;refine dn UQ U ?_;replace h0:=Sh.AA h0;subst r;exact AM (xr (AR (L:=[(4,.bool (decide (0<=q3)))]) ⟨.rfl,Ru⟩))
theorem IW {N:Nat}{p0:(List Int)}{r:Bool}(h0:C4 N p0=some r):AY Try.prog 27 [ls eI p0] [] (λv st=>v=(.bool r)/\st=[]):=by
 unfold C4 at h0;refine ai Try.func27 U U U U ?_;refine zr tb U U ?_;refine sr U λK2 UQ=>?_;refine zq tb U ?_;obtain⟨q3,gq3,h0⟩:=Sh.bind_some h0;refine zc Q5 (D4 gq3) rfl U U ?_;refine zm tb 2 U ?_;refine dn UQ U ?_;replace h0:=Sh.AA h0;subst r;exact AM (xr (AR (L:=[(2,.bool (!q3))]) ⟨.rfl,Ru⟩))
theorem E1 {N:Nat}{p0:Aj}{p1:Af}{p2:(List Int)}{r:Bool}(h0:Bn N p0 p1 p2=some r):AY Try.prog 28 [.agg (AS p0),.agg [ls AI p1.cells,.mv (List.map (eM i64) p1.index)],ls eI p2] [] (λv st=>v=(.bool r)/\st=[]):=by
 unfold Bn at h0;refine ai Try.func28 U U U U ?_;refine sr U λK1 VQ=>?_;refine Ca (m:=0) Ai U U U U U ?_;refine Ca (m:=1) Ai U U U U U ?_;refine zq tb U ?_;refine dn VQ U ?_;refine AB λK2 UQ=>?_;refine sr U λK3 Uv=>?_;refine zm tb 2 U ?_;refine zl tb U U ?_;refine zq tb U ?_;refine dn Uv U ?_;refine ci h0 U ?_ ?_<;>clear h0
 ·intro b4 h0;have b5:decide ((Sh.len p0.free)=4)=false:=by simpa using b4
  refine zr tb U U ?_;replace h0:=Sh.AA h0;subst r;exact AM (xr (Ag [(6,.bool false)] U))
 ·intro b4 h0;have b7:decide ((Sh.len p0.free)=4)=true:=by simpa using b4
  refine AJ (UQ _ ?_);refine sr U λK8 Vb=>?_;refine OY λWe=>?_;refine zq tb U ?_;refine dn Vb U ?_;refine AB λWq Ub=>?_;refine sr U λXS Uo=>?_;refine zm tb 2 U ?_;refine zl tb U U ?_;refine zq tb U ?_;refine dn Uo U ?_;obtain⟨XU,h1,h0⟩:=Sh.An h0;have Ym:∀(VU:(List (Int×Bool))),XU=Sum.inr VU->∀s,Wk 0 s ⟨95,AX [(2,ls eI p2),(3,.ptr 0 0 0 0),(7,.mp We)],[⟨0,27,2,[AS p0]⟩,⟨0,64,1,[[.dv We 0 (List.map (eM AV.bool) VU)]]⟩]⟩->Wq s:=by
   intro VU hq s hw;subst XU;try dsimp only at h0
   refine Ub _ (AH hw ?_);refine AB λZP Vd=>?_;refine sr U λiM Z8=>?_;refine zq tb U ?_;refine zl tb U U ?_;refine zq tb U ?_;refine dn Z8 U ?_;obtain⟨ZR,h1,h0⟩:=Sh.An h0;have dX:∀(_:Unit),ZR=Sum.inr ()->∀s,Wk 0 s ⟨95,AX [],[]⟩->ZP s:=by
    intro _ hq s hw;subst ZR;try dsimp only at h0
    refine Vd _ (AH hw ?_);refine zr tb U U ?_;replace h0:=Sh.AA h0;subst r;exact AM (xr (AR (L:=[(6,.bool true)]) ⟨.rfl,Ru⟩))
   refine AN (Ae (σ:=Int) (λn v=>Av VU p0 p2 n v=some ZR) (λt18=>⟨95,AX [(3,.ptr 0 0 0 0),(7,.mp We),(76,ls eI p2),(77,i64 (Sh.len p2)),(78,i64 t18)],[⟨0,27,2,[AS p0]⟩,⟨0,64,1,[[.dv We 0 (List.map (eM AV.bool) VU)]]⟩]⟩) N 0 h1 (AE U) (λ_ hv=>by rw[Av]at hv;cases hv) ?_);rintro n t18 h1;try dsimp only at h1⊢
   rw[Av]at h1;refine zr tb U U ?_;refine AB λbR WV=>?_;refine ci h1 U ?_ ?_<;>clear h1
   ·intro Xq h1;refine AJ (WV _ ?_);refine AB λbS XK=>?_;refine AN ?_;refine sr U λcM XH=>?_;obtain⟨YL,gc26,h1⟩:=Sh.bind_some h1;refine zx Ak gc26 U U U ?_;refine zm tb 2 U ?_;refine dn XH U ?_;refine AB λbT WW=>?_;obtain⟨gA,h2,h1⟩:=Sh.bind_some h1;have gB:∀(t28:Bool),gA=t28->∀s,Wk 0 s ⟨95,AX [(3,.ptr 0 0 0 0),(7,.mp We),(76,ls eI p2),(77,i64 (Sh.len p2)),(78,i64 t18),(93,.bool t28)],[⟨0,27,2,[AS p0]⟩,⟨0,64,1,[[.dv We 0 (List.map (eM AV.bool) VU)]]⟩]⟩->bT s:=by
     intro t28 hq s hw;subst gA;try dsimp only at h1
     refine WW _ (AH hw ?_);refine ci h1 U ?_ ?_<;>clear h1
     ·intro W2 h1;refine zr tb U U ?_;replace h1:=Sh.AA h1;subst ZR;try dsimp only[id]at h0
      replace h0:=Sh.AA h0;subst r;exact AM (xr (Ag [(6,.bool false)] U))
     ·intro W2 h1;refine AJ (XK _ ?_);refine AG (by rfl) ?_;refine zm tb 2 U ?_;exact AD (xi (Sh.w (t18+1)) h1 (AE U))
    refine AG (by rfl) ?_;refine zm tb 3 U ?_;obtain⟨Yw,gc32,h2⟩:=Sh.bind_some h2;refine zx Ak gc32 U U U ?_;refine zm tb 3 U ?_;rcases Sh.Aa h2 with ⟨Wb,h2⟩|⟨Wb,h2⟩
    ·refine zg tb Wb U ?_;refine zg tb Wb U ?_;refine Ns (id:=1) (ev:=AV.bool) (z0:=false) false (B8 U U Wb) PN (λ_=>U) rfl U U U ?_;refine zg tb Wb U ?_;refine zt Wb U ?_;exact AD (gB (!((Sh.BK VU YL).getD false)) (Sh.AA h2).symm _ (AE U))
    ·refine zs Wb U ?_;iterate 3 refine zs Wb rfl ?_
     refine zf Wb U ?_;exact AD (gB false (Sh.AA h2).symm _ (AE U))
   ·intro Xq h1;exact Ah (dX () (Sh.AA h1).symm _ (Ag _ U))
  refine AN (Ae (σ:=Int×(List (Int×Bool))) (λn v=>Ar N p0 p1 n v.1 v.2=some XU) (λ(t12,UX)=>⟨95,AX [(2,ls eI p2),(3,.ptr 0 0 0 0),(4,.ptr 1 0 0 0),(7,.mp We),(21,ls eI p0.free),(22,i64 (Sh.len p0.free)),(23,i64 t12)],[⟨0,27,2,[AS p0]⟩,⟨0,38,2,[[ls AI p1.cells,.mv (List.map (eM i64) p1.index)]]⟩,⟨0,64,1,[[.dv We 0 (List.map (eM AV.bool) UX)]]⟩]⟩) N (0,[]) h1 (AE U) (λ_ hv=>by rw[Ar]at hv;cases hv) ?_);rintro n ⟨t12,UX⟩ h1;try dsimp only at h1⊢
  rw[Ar]at h1;refine zr tb U U ?_;refine AB λfh YQ=>?_;refine ci h1 U ?_ ?_<;>clear h1
  ·intro YW h1;refine AJ (YQ _ ?_);refine AB λgC Z9=>?_;refine AN ?_;refine sr U λiK Z6=>?_;refine zq tb U ?_;obtain⟨VI,gc39,h1⟩:=Sh.bind_some h1;refine zx Ak gc39 U U U ?_;refine zm tb 3 U ?_;refine dn Z6 U ?_;obtain⟨cR,h2,h1⟩:=Sh.An h1;have iN:∀(aX:(List (Int×Bool))),cR=Sum.inr aX->∀s,Wk 0 s ⟨95,AX [(2,ls eI p2),(3,.ptr 0 0 0 0),(4,.ptr 1 0 0 0),(7,.mp We),(21,ls eI p0.free),(22,i64 (Sh.len p0.free)),(23,i64 t12)],[⟨0,27,2,[AS p0]⟩,⟨0,38,2,[[ls AI p1.cells,.mv (List.map (eM i64) p1.index)]]⟩,⟨0,64,1,[[.dv We 0 (List.map (eM AV.bool) aX)]]⟩]⟩->gC s:=by
    intro aX hq s hw;subst cR;try dsimp only at h1
    refine Z9 _ (AH hw ?_);refine AG (by rfl) ?_;refine zm tb 2 U ?_;exact AD (xi (Sh.w (t12+1),aX) h1 (AE U))
   refine AN (Ae (σ:=Int×(List (Int×Bool))) (λn v=>Aq p0 p1 t12 n v.1 v.2=some cR) (λ(UW,WH)=>⟨95,AX [(2,ls eI p2),(3,.ptr 0 0 0 0),(4,.ptr 1 0 0 0),(7,.mp We),(8,i64 t12),(9,i64 UW),(21,ls eI p0.free),(22,i64 (Sh.len p0.free)),(23,i64 t12)],[⟨0,27,2,[AS p0]⟩,⟨0,38,2,[[ls AI p1.cells,.mv (List.map (eM i64) p1.index)]]⟩,⟨0,64,1,[[.dv We 0 (List.map (eM AV.bool) WH)]]⟩]⟩) N (VI,UX) h2 (AE U) (λ_ hv=>by rw[Aq]at hv;cases hv) ?_);rintro n ⟨UW,WH⟩ h2;try dsimp only at h2⊢
   rw[Aq]at h2;refine AB λjm de=>?_;refine zr tb U U ?_;refine ci h2 U ?_ ?_<;>clear h2
   ·intro Wt h2;have jn:decide (UW=0)=false:=by simpa using Wt
    refine AJ (de _ ?_);refine AN ?_;refine zr tb U U ?_;refine sr U λjo df=>?_;refine zm tb 3 U ?_;refine Nl (ev:=i64) (z0:=0) true Ai Oz (λ_=>U) rfl U U ?_;refine zm tb 5 U ?_;refine dn df U ?_;refine AB λgD YX=>?_;refine AB λgF aA=>?_;obtain⟨gG,h3,h2⟩:=Sh.bind_some h2;have cS:∀(t52:Bool),gG=t52->∀s,Wk 0 s ⟨95,AX [(2,ls eI p2),(3,.ptr 0 0 0 0),(4,.ptr 1 0 0 0),(7,.mp We),(8,i64 t12),(10,i64 (Sh.w (UW-1))),(21,ls eI p0.free),(22,i64 (Sh.len p0.free)),(23,i64 t12),(65,.bool t52)],[⟨0,27,2,[AS p0]⟩,⟨0,38,2,[[ls AI p1.cells,.mv (List.map (eM i64) p1.index)]]⟩,⟨0,64,1,[[.dv We 0 (List.map (eM AV.bool) WH)]]⟩]⟩->gF s:=by
     intro t52 hq s hw;subst gG;try dsimp only at h2
     refine aA _ (AH hw ?_);refine ci h2 U ?_ ?_<;>clear h2
     ·intro iO h2;refine zr tb U U ?_;replace h2:=Sh.AA h2;subst cR;try dsimp only[id]at h1
      replace h1:=Sh.AA h1;subst XU;try dsimp only[id]at h0
      replace h0:=Sh.AA h0;subst r;exact AM (xr (Ag [(6,.bool false)] U))
     ·intro iO h2;refine AJ (YX _ ?_);refine sr U λgH YY=>?_;refine zm tb 2 U ?_;refine Oh (id:=2) (ev:=AV.bool) (st':=[⟨0,27,2,[AS p0]⟩,⟨0,38,2,[[ls AI p1.cells,.mv (List.map (eM i64) p1.index)]]⟩,⟨0,64,1,[[.dv We 0 (List.map (eM AV.bool) (Sh.BX WH (Sh.w (UW-1)) true))]]⟩]) Ai PN (λ_=>U) rfl U U U U ?_;refine dn YY U ?_;refine AG (by rfl) ?_;refine zm tb 4 U ?_;obtain⟨Zs,gc57,h2⟩:=Sh.bind_some h2;refine zx Ak gc57 U U U ?_;refine zq tb U ?_;refine zz (i64 (Sh.w (Int.tdiv Zs 4))) (I5 U U (by decide)) rfl ?_;refine zq tb U ?_;exact AD (xi (Sh.w (Int.tdiv Zs 4),Sh.BX WH (Sh.w (UW-1)) true) h2 (AE U))
    refine AG (by rfl) ?_;refine zm tb 3 U ?_;rcases Sh.Aa h3 with ⟨Xs,h3⟩|⟨Xs,h3⟩
    ·refine zs Xs U ?_;iterate 6 refine zs Xs rfl ?_
     refine zt Xs U ?_;refine zq tb U ?_;iterate 9 refine zs rfl rfl ?_
     refine zt U U ?_;refine zq tb U ?_;iterate 3 refine zs rfl rfl ?_
     refine zt U U ?_;exact AD (cS true (Sh.AA h3).symm _ (AE U))
    ·refine zg tb Xs U ?_;iterate 2 refine zg tb Xs rfl ?_
     obtain⟨dQ,gc59,h3⟩:=Sh.bind_some h3;refine BZ (v:=(.A4 (AI dQ) 0)) (B8 U U Xs) rfl (Bt Ce U U gc59 U) ?_;iterate 3 refine zg tb Xs rfl ?_
     refine zf Xs U ?_;refine zq tb U ?_;rcases Sh.Aa h3 with ⟨b60,h3⟩|⟨b60,h3⟩
     ·refine zs b60 U ?_;iterate 8 refine zs b60 rfl ?_
      refine zt b60 U ?_;refine zq tb U ?_;iterate 3 refine zs rfl rfl ?_
      refine zt U U ?_;exact AD (cS true (Sh.AA h3).symm _ (AE U))
     ·refine zg tb b60 U ?_;iterate 3 refine zg tb b60 rfl ?_
      obtain⟨cF,gc61,h3⟩:=Sh.bind_some h3;refine BZ (v:=(.A4 (eI cF) 0)) (B8 U U b60) rfl (Bt Ak U U gc61 U) ?_;refine zg tb b60 U ?_;refine BZ (v:=(i64 (Int.tmod cF 4))) (B8 U U b60) rfl (La U U (by decide)) ?_;iterate 2 refine zg tb b60 rfl ?_
      refine zf b60 U ?_;refine zq tb U ?_;rcases Sh.Aa h3 with ⟨b62,h3⟩|⟨b62,h3⟩
      ·refine zs b62 U ?_;iterate 2 refine zs b62 rfl ?_
       refine zt b62 U ?_;exact AD (cS true (Sh.AA h3).symm _ (AE U))
      ·refine zg tb b62 U ?_;refine zg tb b62 U ?_;refine Ns (id:=2) (ev:=AV.bool) (z0:=false) false (B8 U U b62) PN (λ_=>U) rfl U U U ?_;refine zf b62 U ?_;exact AD (cS ((Sh.BK WH (Sh.w (UW-1))).getD false) (Sh.AA h3).symm _ (AE U))
   ·intro Wt h2;have jq:decide (UW=0)=true:=by simpa using Wt
    exact Ah (iN WH (Sh.AA h2).symm _ (AE U))
  ·intro YW h1;exact Ah (Ym UX (Sh.AA h1).symm _ (Ac (L:=[(2,ls eI p2),(3,.ptr 0 0 0 0),(7,.mp We)]) (st':=[⟨0,27,2,[AS p0]⟩,⟨0,64,1,[[.dv We 0 (List.map (eM AV.bool) UX)]]⟩]) (st1:=[⟨0,27,2,[AS p0]⟩,⟨0,64,1,[[.dv We 0 (List.map (eM AV.bool) UX)]]⟩]) [0,2] U .nil (by decide) rfl U (.raw U U (.deep HY .nil)) ⟨.rfl,.rfl,.rfl,Ru⟩))
theorem GW {p0:Int}{r:Bool}(h0:Dj p0=some r):AY Try.prog 29 [i64 p0] [] (λv st=>v=(.bool r)/\st=[]):=by
 unfold Dj at h0;refine ai Try.func29 U U U U ?_;refine zr tb U U ?_;refine AB λK2 UQ=>?_;obtain⟨o4,h1,h0⟩:=Sh.bind_some h0;have M4:∀(t3:Bool),o4=t3->∀s,Wk 0 s ⟨9,AX [(2,.bool t3)],[]⟩->K2 s:=by
  intro t3 hq s hw;subst o4;try dsimp only at h0
  refine UQ _ (AH hw ?_);replace h0:=Sh.AA h0;subst r;exact AM (xr (AR (L:=[(2,.bool t3)]) ⟨.rfl,Ru⟩))
 refine AG (by rfl) ?_;refine zm tb 3 U ?_;rcases Sh.Aa h1 with ⟨b5,h1⟩|⟨b5,h1⟩
 ·refine zg tb b5 U ?_;refine zg tb b5 U ?_;refine zt b5 U ?_;refine zq tb U ?_;exact AD (M4 (decide (p0<=999)) (Sh.AA h1).symm _ (AE U))
 ·refine zs b5 U ?_;refine zs b5 U ?_;refine zf b5 U ?_;refine zq tb U ?_;exact AD (M4 false (Sh.AA h1).symm _ (AE U))
theorem CX {p0:Af}{p1:Int}{r:Int×Bool}(h0:Aw p0 p1=some r):AY Try.prog 20 [.agg [ls AI p0.cells,.mv (List.map (eM i64) p0.index)],i64 p1] [] (λv st=>v=(.BB [i64 r.1,.bool r.2])/\st=[]):=by
 unfold Aw at h0;refine ai Try.func20 U U U U ?_;refine sr U λK1 VQ=>?_;refine Ca (m:=0) Ai U U U U U ?_;refine zm tb 2 U ?_;refine dn VQ U ?_;refine sr U λK2 UQ=>?_;refine zm tb 4 U ?_;refine Nl (ev:=i64) (z0:=0) true Ai Oz (λ_=>U) rfl U U ?_;refine zm tb 5 U ?_;refine dn UQ U ?_;refine AB λK3 Uv=>?_;refine AB λK4 WT=>?_;obtain⟨o6,h1,h0⟩:=Sh.bind_some h0;have M6:∀(t5:Bool),o6=t5->∀s,Wk 0 s ⟨32,AX [(6,i64 ((Sh.BK p0.index (Sh.w (p1-1000))).getD 0)),(30,.bool t5)],[]⟩->K4 s:=by
  intro t5 hq s hw;subst o6;try dsimp only at h0
  refine WT _ (AH hw ?_);refine ci h0 U ?_ ?_<;>clear h0
  ·intro b7 h0;refine zr tb U U ?_;replace h0:=Sh.AA h0;subst r;exact AM (xr (AR (L:=[(4,i64 0),(5,.bool false)]) ⟨.rfl,.rfl,Ru⟩))
  ·intro b7 h0;refine AJ (Uv _ ?_);refine zr tb U U ?_;replace h0:=Sh.AA h0;subst r;exact AM (xr (AR (L:=[(4,i64 ((Sh.BK p0.index (Sh.w (p1-1000))).getD 0)),(5,.bool true)]) ⟨.rfl,.rfl,Ru⟩))
 refine AG (by rfl) ?_;refine zm tb 3 U ?_;rcases Sh.Aa h1 with ⟨WU,h1⟩|⟨WU,h1⟩
 ·refine zs WU U ?_;refine zs WU U ?_;refine zt WU U ?_;refine zq tb U ?_;iterate 7 refine zs rfl rfl ?_
  refine zt U U ?_;exact AD (M6 true (Sh.AA h1).symm _ (Ag _ U))
 ·refine zg tb WU U ?_;refine zg tb WU U ?_;refine zf WU U ?_;refine zq tb U ?_;rcases Sh.Aa h1 with ⟨XL,h1⟩|⟨XL,h1⟩
  ·refine zs XL U ?_;iterate 6 refine zs XL rfl ?_
   refine zt XL U ?_;exact AD (M6 true (Sh.AA h1).symm _ (Ag _ U))
  ·refine zg tb XL U ?_;iterate 2 refine zg tb XL rfl ?_
   obtain⟨XB,gc12,h1⟩:=Sh.bind_some h1;refine BZ (v:=(.A4 (AI XB) 0)) (B8 U U XL) rfl (Bt Ce U U gc12 U) ?_;iterate 3 refine zg tb XL rfl ?_
   refine zf XL U ?_;exact AD (M6 (decide (XB.count=0)) (Sh.AA h1).symm _ (Ag _ U))
theorem HP {N:Nat}{VP:(List Cell)}{r:(List Cell)}(h0:De N VP=some r):AY Try.prog 42 [.ptr 0 0 0 0] [⟨0,66,1,[[ls AI VP]]⟩] (λv st=>v=(.BB [])/\st=[⟨0,66,1,[[ls AI r]]⟩]):=by
 unfold De at h0;refine ai Try.func42 U U U U ?_;refine sr U λK1 VQ=>?_;refine zm tb 3 U ?_;refine zl tb U U ?_;refine zq tb U ?_;refine dn VQ U ?_;refine AB λK2 UQ=>?_;obtain⟨o5,h1,h0⟩:=Sh.bind_some h0;have M5:∀(n4:Int),o5=n4->∀s,Wk 1 s ⟨29,AX [(0,.ptr 0 0 0 0),(2,i64 n4)],[⟨0,66,1,[[ls AI VP]]⟩]⟩->K2 s:=by
  intro n4 hq s hw;subst o5;try dsimp only at h0
  refine UQ _ (AH hw ?_);refine AG (by rfl) ?_;refine zm tb 5 U ?_;obtain⟨l6,gl6,h0⟩:=Sh.bind_some h0;refine I6 (i:=0) (j:=n4) Ai QP U U U (λ_=>U) gl6 ?_;refine zq tb U ?_;refine Bu Ai QR U U U U U U UC rfl ?_;replace h0:=Sh.AA h0;subst r;exact AD (xr (AR (L:=[]) Ru))
 refine AN (Ae (σ:=Int) (λn v=>BT VP n v=some o5) (λn3=>⟨29,AX [(0,.ptr 0 0 0 0),(2,i64 n3)],[⟨0,66,1,[[ls AI VP]]⟩]⟩) N (Sh.len VP) h1 (AE U) (λ_ hv=>by rw[BT]at hv;cases hv) ?_);rintro n n3 h1;try dsimp only at h1⊢
 rw[BT]at h1;refine AB λK7 Xo=>?_;refine AB λK8 Vb=>?_;obtain⟨gI,h2,h1⟩:=Sh.bind_some h1;have gJ:∀(t9:Bool),gI=t9->∀s,Wk 1 s ⟨29,AX [(0,.ptr 0 0 0 0),(2,i64 n3),(19,.bool t9)],[⟨0,66,1,[[ls AI VP]]⟩]⟩->K8 s:=by
  intro t9 hq s hw;subst gI;try dsimp only at h1
  refine Vb _ (AH hw ?_);refine ci h1 U ?_ ?_<;>clear h1
  ·intro XL h1;refine AJ (Xo _ ?_);refine AN ?_;refine AG (by rfl) ?_;refine zm tb 3 U ?_;exact AD (xi (Sh.w (n3-1)) h1 (AE U))
  ·intro XL h1;exact Ah (M5 n3 (Sh.AA h1).symm _ (AE U))
 refine AG (by rfl) ?_;refine zm tb 3 U ?_;rcases Sh.Aa h2 with ⟨Vn,h2⟩|⟨Vn,h2⟩
 ·refine zg tb Vn U ?_;iterate 4 refine zg tb Vn rfl ?_
  obtain⟨Zy,gc13,h2⟩:=Sh.bind_some h2;refine BZ (v:=(.A4 (AI Zy) 0)) (B8 U U Vn) rfl (Bt QP U U gc13 U) ?_;iterate 3 refine zg tb Vn rfl ?_
  refine zt Vn U ?_;exact AD (gJ (decide (Zy.count=0)) (Sh.AA h2).symm _ (AE U))
 ·refine zs Vn U ?_;iterate 8 refine zs Vn rfl ?_
  refine zf Vn U ?_;exact AD (gJ false (Sh.AA h2).symm _ (AE U))
theorem EO {N:Nat}{p0:Af}{r:(List Cell)}(h0:BR N p0=some r):AY Try.prog 31 [.agg [ls AI p0.cells,.mv (List.map (eM i64) p0.index)]] [] (λv st=>v=(ls AI r)/\st=[]):=by
 unfold BR at h0;refine ai Try.func31 U U U U ?_;refine sr U λK1 VQ=>?_;refine Ca (m:=0) Ai U U U U U ?_;refine zq tb U ?_;refine dn VQ U ?_;refine sr U λK2 UQ=>?_;refine zm tb 2 U ?_;refine Ch (m:=1) Ai Rh U U ?_;refine Bu Ai QR U U U U U U UC rfl ?_;refine dn UQ U ?_;refine sr U λK3 Uv=>?_;obtain⟨q4,gq4,h0⟩:=Sh.bind_some h0;refine OK (rowsP:=[⟨0,66,1,[[ls AI p0.cells]]⟩]) (rows0:=[⟨0,66,1,[[ls AI p0.cells]]⟩]) (rows1:=[⟨0,66,1,[[ls AI q4]]⟩]) (rows2:=[]) (rows1':=[⟨0,66,1,[[ls AI q4]]⟩]) (rows2':=[]) (st':=[⟨0,38,2,[[ls AI p0.cells,.mv (List.map (eM i64) p0.index)]]⟩,⟨0,66,1,[[ls AI q4]]⟩]) (v':=(.BB [])) [1] Ai RQ (HP gq4) rfl (by decide) rfl U (.raw U U .nil) rfl U (.raw U U .nil) .nil U U ?_;refine dn Uv U ?_;refine zr tb U U ?_;replace h0:=Sh.AA h0;subst r;exact AM (xr (Ag [(2,ls AI q4)] U))
theorem EU {p0:(List Cell)}{p1:Int}{r:Int×Bool}(h0:Cs p0 p1=some r):AY Try.prog 50 [ls AI p0,i64 p1] [] (λv st=>v=(.BB [i64 r.1,.bool r.2])/\st=[]):=by
 unfold Cs at h0;refine ai Try.func50 U U U U ?_;iterate 2 refine zr tb rfl rfl ?_
 refine AB λK3 Uv=>?_;obtain⟨o5,h1,h0⟩:=Sh.bind_some h0;have M5:∀(t4:Bool),o5=t4->∀s,Wk 0 s ⟨26,AX [(4,i64 (Sh.w (p1-1000))),(5,.bool t4)],[]⟩->K3 s:=by
  intro t4 hq s hw;subst o5;try dsimp only at h0
  refine Uv _ (AH hw ?_);replace h0:=Sh.AA h0;subst r;exact AM (xr (AR (L:=[(4,i64 (Sh.w (p1-1000))),(5,.bool t4)]) ⟨.rfl,.rfl,Ru⟩))
 refine D6 (by kernel_rfl) (by kernel_rfl) (by rfl) ?_;iterate 4 refine yq tb rfl ?_
 rcases Sh.Aa h1 with ⟨b6,h1⟩|⟨b6,h1⟩
 ·refine yg tb b6 U ?_;refine yg tb b6 U ?_;refine Hb (v:=(i64 (Sh.len p0))) (B8 U U b6) rfl (Db MP U) ?_;refine yg tb b6 U ?_;refine yt b6 U ?_;refine yq tb U ?_;rcases Sh.Aa h1 with ⟨b7,h1⟩|⟨b7,h1⟩
  ·refine yg tb b7 U ?_;refine yg tb b7 U ?_;obtain⟨c8,gc8,h1⟩:=Sh.bind_some h1;refine Hb (v:=(.A4 (AI c8) 0)) (B8 U U b7) rfl (Bt Ce U U gc8 U) ?_;iterate 3 refine yg tb b7 rfl ?_
   refine yt b7 U ?_;iterate 2 refine yq tb rfl ?_
   exact DA (M5 (decide (0<c8.count)) (Sh.AA h1).symm _ (AE U))
  ·refine ys b7 U ?_;iterate 5 refine ys b7 rfl ?_
   refine yf b7 U ?_;iterate 2 refine yq tb rfl ?_
   exact DA (M5 false (Sh.AA h1).symm _ (AE U))
 ·refine ys b6 U ?_;iterate 3 refine ys b6 rfl ?_
  refine yf b6 U ?_;refine yq tb U ?_;iterate 6 refine ys rfl rfl ?_
  refine yf U U ?_;iterate 2 refine yq tb rfl ?_
  exact DA (M5 false (Sh.AA h1).symm _ (AE U))
theorem HE {p0:(List Cell)}{p1:Int}{r:Bool}(h0:C3 p0 p1=some r):AY Try.prog 51 [ls AI p0,i64 p1] [] (λv st=>v=(.bool r)/\st=[]):=by
 unfold C3 at h0;refine ai Try.func51 U U U U ?_;refine zr tb U U ?_;refine sr U λK2 UQ=>?_;refine zm tb 2 U ?_;obtain⟨q3,gq3,h0⟩:=Sh.bind_some h0;refine zc (v':=(.BB [i64 q3.1,.bool q3.2])) Oj (EU gq3) rfl U U ?_;refine zm tb 5 U ?_;refine dn UQ U ?_;refine AB λK4 WT=>?_;obtain⟨o6,h1,h0⟩:=Sh.bind_some h0;have M6:∀(t5:Bool),o6=t5->∀s,Wk 0 s ⟨18,AX [(4,.bool t5)],[]⟩->K4 s:=by
  intro t5 hq s hw;subst o6;try dsimp only at h0
  refine WT _ (AH hw ?_);replace h0:=Sh.AA h0;subst r;exact AM (xr (AR (L:=[(4,.bool t5)]) ⟨.rfl,Ru⟩))
 refine AG (by rfl) ?_;refine zm tb 2 U ?_;rcases Sh.Aa h1 with ⟨b7,h1⟩|⟨b7,h1⟩
 ·refine zs b7 U ?_;refine zs b7 U ?_;refine zt b7 U ?_;refine zq tb U ?_;exact AD (M6 true (Sh.AA h1).symm _ (AE U))
 ·refine zg tb b7 U ?_;obtain⟨q8,gq8,h1⟩:=Sh.bind_some h1;refine zd b7 QJ (GW gq8) rfl U U U ?_;refine zf b7 U ?_;refine zq tb U ?_;exact AD (M6 q8 (Sh.AA h1).symm _ (AE U))
theorem HB {N:Nat}{p0:(List Cell)}{p1:Cell}{r:Bool}(h0:Cx N p0 p1=some r):AY Try.prog 49 [ls AI p0,.agg (AI p1)] [] (λv st=>v=(.bool r)/\st=[]):=by
 unfold Cx at h0;refine ai Try.func49 U U U U ?_;refine sr U λK1 VQ=>?_;refine Ca (m:=0) Ai U U U U U ?_;refine zq tb U ?_;refine dn VQ U ?_;refine AB λK2 UQ=>?_;refine AB λK3 Uv=>?_;obtain⟨o5,h1,h0⟩:=Sh.bind_some h0;have M5:∀(t4:Bool),o5=t4->∀s,Wk 0 s ⟨66,AX [(0,ls AI p0),(3,.ptr 0 0 0 0),(25,.bool t4)],[⟨0,54,3,[AI p1]⟩]⟩->K3 s:=by
  intro t4 hq s hw;subst o5;try dsimp only at h0
  refine Uv _ (AH hw ?_);refine ci h0 U ?_ ?_<;>clear h0
  ·intro b6 h0;refine zr tb U U ?_;replace h0:=Sh.AA h0;subst r;exact AM (xr (Ag [(4,.bool false)] U))
  ·intro b6 h0;refine AJ (UQ _ ?_);refine AB λK8 Vb=>?_;refine AB λK9 YP=>?_;obtain⟨Wu,h1,h0⟩:=Sh.bind_some h0;have YS:∀(t10:Bool),Wu=t10->∀s,Wk 0 s ⟨66,AX [(0,ls AI p0),(3,.ptr 0 0 0 0),(44,.bool t10)],[⟨0,54,3,[AI p1]⟩]⟩->K9 s:=by
    intro t10 hq s hw;subst Wu;try dsimp only at h0
    refine YP _ (AH hw ?_);refine ci h0 U ?_ ?_<;>clear h0
    ·intro Vn h0;refine zr tb U U ?_;replace h0:=Sh.AA h0;subst r;exact AM (xr (Ag [(4,.bool false)] U))
    ·intro Vn h0;refine AJ (Vb _ ?_);refine AB λX1 VE=>?_;refine sr U λiP aB=>?_;refine zm tb 2 U ?_;refine zl tb U U ?_;refine zq tb U ?_;refine dn aB U ?_;obtain⟨Y5,h1,h0⟩:=Sh.An h0;have dc:∀(_:Unit),Y5=Sum.inr ()->∀s,Wk 0 s ⟨66,AX [],[]⟩->X1 s:=by
      intro _ hq s hw;subst Y5;try dsimp only at h0
      refine VE _ (AH hw ?_);refine zr tb U U ?_;replace h0:=Sh.AA h0;subst r;exact AM (xr (AR (L:=[(4,.bool true)]) ⟨.rfl,Ru⟩))
     refine AN (Ae (σ:=Int) (λn v=>BD p0 p1 n v=some Y5) (λt16=>⟨66,AX [(0,ls AI p0),(3,.ptr 0 0 0 0),(46,ls eI p1.fields),(47,i64 (Sh.len p1.fields)),(48,i64 t16)],[⟨0,54,3,[AI p1]⟩]⟩) N 0 h1 (AE U) (λ_ hv=>by rw[BD]at hv;cases hv) ?_);rintro n t16 h1;try dsimp only at h1⊢
     rw[BD]at h1;refine zr tb U U ?_;refine AB λbU WY=>?_;refine ci h1 U ?_ ?_<;>clear h1
     ·intro cT h1;refine AJ (WY _ ?_);refine AB λbR WV=>?_;refine AN ?_;refine sr U λcQ Wa=>?_;obtain⟨bI,gc24,h1⟩:=Sh.bind_some h1;refine zx Ak gc24 U U U ?_;refine zm tb 2 U ?_;refine dn Wa U ?_;refine AB λcM XH=>?_;obtain⟨aC,h2,h1⟩:=Sh.bind_some h1;have bX:∀(t26:Bool),aC=t26->∀s,Wk 0 s ⟨66,AX [(0,ls AI p0),(3,.ptr 0 0 0 0),(46,ls eI p1.fields),(47,i64 (Sh.len p1.fields)),(48,i64 t16),(64,.bool t26)],[⟨0,54,3,[AI p1]⟩]⟩->cM s:=by
       intro t26 hq s hw;subst aC;try dsimp only at h1
       refine XH _ (AH hw ?_);refine ci h1 U ?_ ?_<;>clear h1
       ·intro da h1;refine zr tb U U ?_;replace h1:=Sh.AA h1;subst Y5;try dsimp only[id]at h0
        replace h0:=Sh.AA h0;subst r;exact AM (xr (Ag [(4,.bool false)] U))
       ·intro da h1;refine AJ (WV _ ?_);refine AG (by rfl) ?_;refine zm tb 2 U ?_;exact AD (xi (Sh.w (t16+1)) h1 (AE U))
      refine AG (by rfl) ?_;refine zm tb 2 U ?_;obtain⟨WQ,gq30,h2⟩:=Sh.bind_some h2;refine zc RW (HE gq30) rfl U U ?_;refine zm tb 2 U ?_;rcases Sh.Aa h2 with ⟨WX,h2⟩|⟨WX,h2⟩
      ·refine zs WX U ?_;iterate 3 refine zs WX rfl ?_
       iterate 2 refine zn rfl ?_
       refine zs WX U ?_;refine zt WX U ?_;exact AD (bX true (Sh.AA h2).symm _ (AE U))
      ·refine zg tb WX U ?_;iterate 3 refine zg tb WX rfl ?_
       rcases Sh.Aa h2 with ⟨Y3,h2⟩|⟨Y3,h2⟩
       ·refine zg tb Y3 U ?_;refine zg tb Y3 U ?_;refine BZ (v:=(.bool (!decide (bI=0)))) (B8 U U WX) rfl (E5 U Y3 U) ?_;refine zf WX U ?_;exact AD (bX (!decide (bI=0)) (Sh.AA h2).symm _ (AE U))
       ·refine zs Y3 U ?_;refine zs Y3 U ?_;refine BZ (v:=(.bool false)) (B8 U U WX) rfl (E7 U Y3 U) ?_;refine zf WX U ?_;exact AD (bX false (Sh.AA h2).symm _ (AE U))
     ·intro cT h1;exact Ah (dc () (Sh.AA h1).symm _ (Ag _ U))
   refine AG (by rfl) ?_;refine zm tb 4 U ?_;rcases Sh.Aa h1 with ⟨Wb,h1⟩|⟨Wb,h1⟩
   ·refine zg tb Wb U ?_;iterate 2 refine zg tb Wb rfl ?_
    refine zt Wb U ?_;refine zq tb U ?_;rcases Sh.Aa h1 with ⟨Ws,h1⟩|⟨Ws,h1⟩
    ·refine zs Ws U ?_;iterate 3 refine zs Ws rfl ?_
     iterate 4 refine zn rfl ?_
     refine zs Ws U ?_;refine zt Ws U ?_;exact AD (YS true (Sh.AA h1).symm _ (AE U))
    ·refine zg tb Ws U ?_;iterate 3 refine zg tb Ws rfl ?_
     rcases Sh.Aa h1 with ⟨VF,h1⟩|⟨VF,h1⟩
     ·refine zg tb VF U ?_;refine zg tb VF U ?_;refine BZ (v:=(i64 (Sh.len p1.fields))) (B8 U U VF) rfl (Db F6 U) ?_;refine zg tb VF U ?_;refine BZ (v:=(.bool (decide (0<(Sh.len p1.fields))))) (B8 U U Ws) rfl (E5 U VF U) ?_;refine zf Ws U ?_;exact AD (YS (decide (0<(Sh.len p1.fields))) (Sh.AA h1).symm _ (AE U))
     ·refine zs VF U ?_;iterate 3 refine zs VF rfl ?_
      refine BZ (v:=(.bool false)) (B8 U U Ws) rfl (E7 U VF U) ?_;refine zf Ws U ?_;exact AD (YS false (Sh.AA h1).symm _ (AE U))
   ·refine zs Wb U ?_;iterate 2 refine zs Wb rfl ?_
    refine zf Wb U ?_;refine zq tb U ?_;iterate 4 refine zg tb rfl rfl ?_
    rcases Sh.Aa h1 with ⟨YW,h1⟩|⟨YW,h1⟩
    ·refine zg tb YW U ?_;refine zg tb YW U ?_;refine BZ (v:=(i64 (Sh.len p1.fields))) (B8 U U YW) rfl (Db F6 U) ?_;refine zg tb YW U ?_;refine BZ (v:=(.bool (decide (0<(Sh.len p1.fields))))) (B8 U U U) rfl (E5 U YW U) ?_;refine zf U U ?_;exact AD (YS (decide (0<(Sh.len p1.fields))) (Sh.AA h1).symm _ (AE U))
    ·refine zs YW U ?_;iterate 3 refine zs YW rfl ?_
     refine BZ (v:=(.bool false)) (B8 U U U) rfl (E7 U YW U) ?_;refine zf U U ?_;exact AD (YS false (Sh.AA h1).symm _ (AE U))
 refine AG (by rfl) ?_;refine zm tb 4 U ?_;rcases Sh.Aa h1 with ⟨Y4,h1⟩|⟨Y4,h1⟩
 ·refine zs Y4 U ?_;iterate 2 refine zs Y4 rfl ?_
  refine zt Y4 U ?_;refine zq tb U ?_;iterate 3 refine zs rfl rfl ?_
  refine zt U U ?_;refine zq tb U ?_;iterate 4 refine zs rfl rfl ?_
  refine zt U U ?_;exact AD (M5 true (Sh.AA h1).symm _ (AE U))
 ·refine zg tb Y4 U ?_;iterate 2 refine zg tb Y4 rfl ?_
  refine zf Y4 U ?_;refine zq tb U ?_;rcases Sh.Aa h1 with ⟨b38,h1⟩|⟨b38,h1⟩
  ·refine zs b38 U ?_;iterate 2 refine zs b38 rfl ?_
   refine zt b38 U ?_;refine zq tb U ?_;iterate 4 refine zs rfl rfl ?_
   refine zt U U ?_;exact AD (M5 true (Sh.AA h1).symm _ (AE U))
  ·refine zg tb b38 U ?_;iterate 2 refine zg tb b38 rfl ?_
   refine zf b38 U ?_;refine zq tb U ?_;rcases Sh.Aa h1 with ⟨Xr,h1⟩|⟨Xr,h1⟩
   ·refine zs Xr U ?_;iterate 3 refine zs Xr rfl ?_
    refine zt Xr U ?_;exact AD (M5 true (Sh.AA h1).symm _ (AE U))
   ·refine zg tb Xr U ?_;refine zg tb Xr U ?_;refine BZ (v:=(i64 (Sh.len p1.fields))) (B8 U U Xr) rfl (Db F6 U) ?_;refine zg tb Xr U ?_;refine zf Xr U ?_;exact AD (M5 (decide (3<(Sh.len p1.fields))) (Sh.AA h1).symm _ (AE U))
theorem GP {N:Nat}{p0:(List Cell)}{r:(List Int)×Bool}(h0:B6 N p0=some r):AY Try.prog 41 [ls AI p0] [] (λv st=>v=(.BB [ow 0 0 r.1,.bool r.2])/\st=[ro 0 3 1 eI r.1]):=by
 unfold B6 at h0;refine ai Try.func41 U U U U ?_;refine zr tb U U ?_;refine sr U λK2 UQ=>?_;refine zq tb U ?_;refine zl tb U U ?_;obtain⟨l3,gl3,h0⟩:=Sh.bind_some h0;refine H3 (m:=0) (enc:=eI) (u:=0) Ai Ak U U U gl3 U U ?_;refine zq tb U ?_;refine dn UQ U ?_;refine AB λK4 WT=>?_;refine sr U λK5 Xn=>?_;refine zq tb U ?_;refine zl tb U U ?_;refine zq tb U ?_;refine dn Xn U ?_;obtain⟨o9,h1,h0⟩:=Sh.An h0;have M9:∀(l8:(List Int)),o9=Sum.inr l8->∀s,Wk 0 s ⟨159,AX [(0,ls AI p0),(4,ow 0 0 l8)],[ro 0 3 1 eI l8]⟩->K4 s:=by
  intro l8 hq s hw;subst o9;try dsimp only at h0
  refine WT _ (AH hw ?_);refine AB λWq Ub=>?_;refine AB λXS Uo=>?_;obtain⟨ZQ,h1,h0⟩:=Sh.bind_some h0;have Yn:∀(t12:Bool),ZQ=t12->∀s,Wk 0 s ⟨159,AX [(0,ls AI p0),(4,ow 0 0 l8),(68,.bool t12)],[ro 0 3 1 eI l8]⟩->XS s:=by
   intro t12 hq s hw;subst ZQ;try dsimp only at h0
   refine Uo _ (AH hw ?_);refine ci h0 U ?_ ?_<;>clear h0
   ·intro Ve h0;refine zr tb U U ?_;replace h0:=Sh.AA h0;subst r;exact AM (Exists.intro _ (And.intro ((((Co (t:=2) rfl 3 (size:=1) (by decide)).trans (AR (L:=[(2,.own 1 0 (List.length ([]:List Int))),(3,.bool false)]) ⟨.rfl,.rfl,Ru⟩)).trans (Ac (L:=[(2,.own 0 0 (List.length ([]:List Int))),(3,.bool false)]) (st':=[ro 0 3 1 eI ([]:List Int)]) (st1:=[ro 0 3 1 eI ([]:List Int)]) [1] U .nil (by decide) rfl U (.pure (AK λ_=>U) .nil) ⟨.rfl,.rfl,Ru⟩)).trans (AR (L:=[(2,.own 0 0 (List.length ([]:List Int))),(3,.bool false)]) ⟨.rfl,.rfl,Ru⟩)) (And.intro U U)))
   ·intro Ve h0;refine AJ (Ub _ ?_);refine sr U λZP Vd=>?_;refine zq tb U ?_;obtain⟨U1,gq17,h0⟩:=Sh.bind_some h0;refine Gm (v':=(ow 1 0 U1)) Ai QQ (DY gq17) rfl (.own U U (λ_=>U) .nil) rfl (RM (λ_=>U) Ru) rfl U ?_;refine zq tb U ?_;refine dn Vd U ?_;iterate 2 refine zr tb rfl rfl ?_
    refine AB λbU WY=>?_;refine sr U λfq YR=>?_;refine zq tb U ?_;refine zl tb U U ?_;refine zq tb U ?_;refine dn YR U ?_;obtain⟨ZS,h1,h0⟩:=Sh.An h0;have dY:∀(Wy:(List Int)),ZS=Sum.inr Wy->∀s,Wk 0 s ⟨159,AX [(0,ls AI p0),(4,ow 0 0 l8),(11,ow 1 0 U1),(12,ow 2 0 Wy),(13,i64 0)],[ro 0 3 1 eI l8,ro 0 3 1 eI U1,ro 0 3 1 eI Wy]⟩->bU s:=by
     intro Wy hq s hw;subst ZS;try dsimp only at h0
     refine WY _ (AH hw ?_);refine AB λdZ YT=>?_;obtain⟨dg,h1,h0⟩:=Sh.bind_some h0;have iQ:∀(Ug:Int),dg=Ug->∀s,Wk 0 s ⟨159,AX [(0,ls AI p0),(4,ow 0 0 l8),(13,i64 Ug)],[ro 0 3 1 eI l8]⟩->dZ s:=by
      intro Ug hq s hw;subst dg;try dsimp only at h0
      refine YT _ (AH hw ?_);refine sr U λdT XI=>?_;refine zm tb 3 U ?_;refine zl tb U U ?_;refine zm tb 3 U ?_;refine dn XI U ?_;replace h0:=Sh.AA h0;subst r;exact AM (xr (AR (L:=[(2,ow 0 0 l8),(3,.bool (decide (Ug=(Sh.len p0))))]) ⟨.rfl,.rfl,Ru⟩))
     refine AN (Ae (σ:=Int×(List Int)×(List Int)) (λn v=>Az N p0 n v.1 v.2.1 v.2.2=some dg) (λ(UT,WG,l29)=>⟨159,AX [(0,ls AI p0),(4,ow 0 0 l8),(11,ow 1 0 WG),(12,ow 2 0 l29),(13,i64 UT)],[ro 0 3 1 eI l8,ro 0 3 1 eI WG,ro 0 3 1 eI l29]⟩) N (0,U1,Wy) h1 (AE U) (λ_ hv=>by rw[Az]at hv;cases hv) ?_);rintro n ⟨UT,WG,l29⟩ h1;try dsimp only at h1⊢
     rw[Az]at h1;refine AB λiL Z7=>?_;refine sr U λcP YU=>?_;refine zq tb U ?_;refine zz (i64 (Sh.len l29)) (El F6 U U U) rfl ?_;refine zq tb U ?_;refine dn YU U ?_;refine ci h1 U ?_ ?_<;>clear h1
     ·intro VF h1;refine AJ (Z7 _ ?_);refine AB λcO XJ=>?_;refine AN ?_;refine sr U λgC Z9=>?_;refine zm tb 3 U ?_;refine zz (i64 (Sh.len l29)) (El F6 U U U) rfl ?_;refine zq tb U ?_;obtain⟨dM,gc38,h1⟩:=Sh.bind_some h1;refine zz (.ptr 2 0 (Int.toNat (Sh.w ((Sh.len l29)-1))) 0) (CT Ak U U U U gc38) rfl ?_;refine zz (i64 dM) (DO Ha U U (CN gc38) rfl) rfl ?_;obtain⟨VI,gc39,h1⟩:=Sh.bind_some h1;refine zx Ce gc39 U U U ?_;refine zq tb U ?_;refine Ch (m:=3) Ai JH U U ?_;refine Bu Ai Nq U U U U U U UE rfl ?_;refine dn Z9 U ?_;refine sr U λfj Z3=>?_;refine zm tb 2 U ?_;refine zz (i64 (Sh.len l29)) (El F6 U U U) rfl ?_;refine zq tb U ?_;obtain⟨WH,gl41,h1⟩:=Sh.bind_some h1;refine Pt Ai Ak U U U U gl41 U ?_;refine zq tb U ?_;refine dn Z3 U ?_;refine sr U λjr dh=>?_;refine zm tb 2 U ?_;refine zl tb U U ?_;refine zq tb U ?_;refine dn dh U ?_;obtain⟨di,h2,h1⟩:=Sh.bind_some h1;have iR:∀(Wz:(List Int)) (Zv:(List Int)),di=(Wz,Zv)->∀s,Wk 0 s ⟨159,AX [(0,ls AI p0),(4,ow 0 0 l8),(11,ow 1 0 Wz),(12,ow 2 0 Zv),(13,i64 UT)],[ro 0 3 1 eI l8,ro 0 3 1 eI Wz,ro 0 3 1 eI Zv]⟩->cO s:=by
       intro Wz Zv hq s hw;subst di;try dsimp only at h1
       refine XJ _ (AH hw ?_);refine AG (by rfl) ?_;refine zm tb 3 U ?_;exact AD (xi (Sh.w (UT+1),Wz,Zv) h1 (AE U))
      refine AN (Ae (σ:=Int×(List Int)×(List Int)) (λn v=>A2 VI p0 n v.1 v.2.1 v.2.2=some di) (λ(t43,l44,V9)=>⟨159,AX [(0,ls AI p0),(4,ow 0 0 l8),(11,ow 1 0 l44),(12,ow 2 0 V9),(13,i64 UT),(125,ls eI VI.fields),(126,i64 (Sh.len VI.fields)),(127,i64 t43)],[ro 0 3 1 eI l8,ro 0 3 1 eI l44,ro 0 3 1 eI V9]⟩) N (0,WG,WH) h2 (by refine Wk.trans (Ci (L:=[(0,ls AI p0),(4,ow 0 0 l8),(11,ow 1 0 WG),(12,ow 2 0 WH),(13,i64 UT),(125,ls eI VI.fields),(126,i64 (Sh.len VI.fields)),(127,i64 0)]) (st':=[ro 0 3 1 eI l8,ro 0 3 1 eI WG,ro 0 3 1 eI WH,⟨0,54,3,[AI VI]⟩]) (.pure (AK λ_=>U) (.pure (AK λ_=>U) (.pure (AK λ_=>U) (.raw U U .nil)))) ⟨.rfl,.rfl,.rfl,.rfl,.rfl,.rfl,.rfl,.rfl,Ru⟩) ?_;exact Ac (L:=[(0,ls AI p0),(4,ow 0 0 l8),(11,ow 1 0 WG),(12,ow 2 0 WH),(13,i64 UT),(125,ls eI VI.fields),(126,i64 (Sh.len VI.fields)),(127,i64 0)]) (st':=[ro 0 3 1 eI l8,ro 0 3 1 eI WG,ro 0 3 1 eI WH]) (st1:=[ro 0 3 1 eI l8,ro 0 3 1 eI WG,ro 0 3 1 eI WH]) [0,1,2] U .nil (by decide) rfl U (.pure (AK λ_=>U) (.pure (AK λ_=>U) (.pure (AK λ_=>U) .nil))) ⟨.rfl,.rfl,.rfl,.rfl,.rfl,.rfl,.rfl,.rfl,Ru⟩) (λ_ hv=>by rw[A2]at hv;cases hv) ?_);rintro n ⟨t43,l44,V9⟩ h2;try dsimp only at h2⊢
      rw[A2]at h2;refine zr tb U U ?_;refine AB λgD YX=>?_;refine ci h2 U ?_ ?_<;>clear h2
      ·intro iS h2;refine AJ (YX _ ?_);refine AB λiT dj=>?_;obtain⟨gK,h3,h2⟩:=Sh.bind_some h2;have dk:∀(Zt:(List Int)) (Zu:(List Int)),gK=(Zt,Zu)->∀s,Wk 0 s ⟨159,AX [(0,ls AI p0),(4,ow 0 0 l8),(11,ow 1 0 Zt),(12,ow 2 0 Zu),(13,i64 UT),(125,ls eI VI.fields),(126,i64 (Sh.len VI.fields)),(127,i64 t43)],[ro 0 3 1 eI l8,ro 0 3 1 eI Zt,ro 0 3 1 eI Zu]⟩->iT s:=by
        intro Zt Zu hq s hw;subst gK;try dsimp only at h2
        refine dj _ (AH hw ?_);refine AG (by rfl) ?_;refine zm tb 2 U ?_;exact AD (xi (Sh.w (t43+1),Zt,Zu) h2 (AE U))
       refine AN ?_;refine sr U λgH YY=>?_;obtain⟨Zs,gc57,h3⟩:=Sh.bind_some h3;refine zx Ak gc57 U U U ?_;refine zm tb 2 U ?_;refine dn YY U ?_;refine sr U λjs dm=>?_;refine zm tb 2 U ?_;obtain⟨Vw,gq59,h3⟩:=Sh.bind_some h3;refine zc (v':=(.BB [i64 Vw.1,.bool Vw.2])) Oj (EU gq59) rfl U U ?_;refine zm tb 5 U ?_;refine dn dm U ?_;refine zr tb U U ?_;refine ci h3 U ?_ ?_<;>clear h3
       ·intro gM h3;refine sr U λiU aD=>?_;refine zm tb 2 U ?_;obtain⟨Xi,gc63,h3⟩:=Sh.bind_some h3;refine zz (.ptr 1 0 (Int.toNat Vw.1) 0) (CT Ak U U U U gc63) rfl ?_;refine zz (i64 Xi) (DO Ha U U (CN gc63) rfl) rfl ?_;refine zq tb U ?_;refine zz (.ptr 1 0 (Int.toNat Vw.1) 0) (CT Ak U U U U gc63) rfl ?_;refine Gl (u':=Sh.w (Xi-1)) Ai Ha U U gc63 U U U UC rfl U ?_;refine dn aD U ?_;refine sr U λjt dp=>?_;refine zm tb 2 U ?_;obtain⟨dL,gc65,h3⟩:=Sh.bind_some h3;refine zz (.ptr 1 0 (Int.toNat Vw.1) 0) (CT Ak U U U (by simp only[Sh.DI]) gc65) rfl ?_;refine zz (i64 dL) (DO Ha U U (CN gc65) rfl) rfl ?_;refine zq tb U ?_;refine dn dp U ?_;refine ci h3 U ?_ ?_<;>clear h3
        ·intro iV h3;refine AG (by rfl) ?_;refine zm tb 2 U ?_;refine DU (m:=3) (l:=[Vw.1]) (enc:=eI) Ai Ak (by decide) rfl U U U U U ?_;obtain⟨Yy,gl67,h3⟩:=Sh.bind_some h3;refine ED (l2:=[Vw.1]) Ai Ak U U U U (Ip U U) (λ_=>U) gl67 U ?_;refine zq tb U ?_;exact AD (dk (Sh.put l44 Vw.1 (Sh.w (Xi-1))) Yy (Sh.AA h3).symm _ (by refine Wk.trans (Ci (L:=[(0,.sl (List.map AI p0)),(4,.own 0 0 (List.length l8)),(11,.own 1 0 (List.length l44)),(12,.own 2 0 (List.length Yy)),(13,i64 UT),(125,.sl (List.map eI VI.fields)),(126,i64 (Sh.len VI.fields)),(127,i64 t43)]) (st':=[⟨0,3,1,List.map eI l8⟩,⟨0,3,1,List.map eI (Sh.put l44 Vw.1 (Sh.w (Xi-1)))⟩,⟨0,3,1,List.map eI Yy⟩,⟨0,3,1,List.map eI [Vw.1]⟩]) (.pure (AK λ_=>U) (.pure (AK λ_=>U) (.pure (AK λ_=>U) (.pure (AK λ_=>U) .nil)))) ⟨.rfl,.rfl,.rfl,.rfl,.rfl,.rfl,.rfl,.rfl,Ru⟩) ?_;refine Wk.trans (Ac (L:=[(0,.sl (List.map AI p0)),(4,.own 0 0 (List.length l8)),(11,.own 1 0 (List.length l44)),(12,.own 2 0 (List.length Yy)),(13,i64 UT),(125,.sl (List.map eI VI.fields)),(126,i64 (Sh.len VI.fields)),(127,i64 t43)]) (st':=[⟨0,3,1,List.map eI l8⟩,⟨0,3,1,List.map eI (Sh.put l44 Vw.1 (Sh.w (Xi-1)))⟩,⟨0,3,1,List.map eI Yy⟩]) (st1:=[⟨0,3,1,List.map eI l8⟩,⟨0,3,1,List.map eI (Sh.put l44 Vw.1 (Sh.w (Xi-1)))⟩,⟨0,3,1,List.map eI Yy⟩]) [0,1,2] U .nil (by decide) rfl U (.pure (AK λ_=>U) (.pure (AK λ_=>U) (.pure (AK λ_=>U) .nil))) ⟨.rfl,.rfl,.rfl,.rfl,.rfl,.rfl,.rfl,.rfl,Ru⟩) ?_;exact AR (L:=[(0,.sl (List.map AI p0)),(4,.own 0 0 (List.length l8)),(11,.own 1 0 (List.length (Sh.put l44 Vw.1 (Sh.w (Xi-1))))),(12,.own 2 0 (List.length Yy)),(13,i64 UT),(125,.sl (List.map eI VI.fields)),(126,i64 (Sh.len VI.fields)),(127,i64 t43)]) ⟨.rfl,.rfl,(.len (by simp only[Sh.DI])),.rfl,.rfl,.rfl,.rfl,.rfl,Ru⟩))
        ·intro iV h3;exact AJ (dk (Sh.put l44 Vw.1 (Sh.w (Xi-1))) V9 (Sh.AA h3).symm _ (AR (L:=[(0,.sl (List.map AI p0)),(4,.own 0 0 (List.length l8)),(11,.own 1 0 (List.length (Sh.put l44 Vw.1 (Sh.w (Xi-1))))),(12,.own 2 0 (List.length V9)),(13,i64 UT),(125,.sl (List.map eI VI.fields)),(126,i64 (Sh.len VI.fields)),(127,i64 t43)]) ⟨.rfl,.rfl,(.len (by simp only[Sh.DI])),.rfl,.rfl,.rfl,.rfl,.rfl,Ru⟩))
       ·intro gM h3;exact AJ (dk l44 V9 (Sh.AA h3).symm _ (AE U))
      ·intro iS h2;exact Ah (iR l44 V9 (Sh.AA h2).symm _ (AE U))
     ·intro VF h1;exact Ah (iQ UT (Sh.AA h1).symm _ (Ac (L:=[(0,ls AI p0),(4,ow 0 0 l8),(13,i64 UT)]) (st':=[ro 0 3 1 eI l8]) (st1:=[ro 0 3 1 eI l8]) [0] U .nil (by decide) rfl U (.pure (AK λ_=>U) .nil) ⟨.rfl,.rfl,.rfl,Ru⟩))
    refine AN (Ae (σ:=Int×(List Int)) (λn v=>A1 l8 p0 n v.1 v.2=some ZS) (λ(t22,U4)=>⟨159,AX [(0,ls AI p0),(4,ow 0 0 l8),(11,ow 1 0 U1),(12,ow 2 0 U4),(13,i64 0),(71,ls AI p0),(72,i64 (Sh.len p0)),(73,i64 t22)],[ro 0 3 1 eI l8,ro 0 3 1 eI U1,ro 0 3 1 eI U4]⟩) N (0,[]) h1 ((Co (t:=12) rfl 3 (size:=1) (by decide)).trans (AR (L:=[(0,ls AI p0),(4,ow 0 0 l8),(11,ow 1 0 U1),(12,.own 2 0 (List.length ([]:List Int))),(13,i64 0),(71,ls AI p0),(72,i64 (Sh.len p0)),(73,i64 0)]) ⟨.rfl,.rfl,.rfl,.rfl,.rfl,.rfl,.rfl,.rfl,Ru⟩)) (λ_ hv=>by rw[A1]at hv;cases hv) ?_);rintro n ⟨t22,U4⟩ h1;try dsimp only at h1⊢
    rw[A1]at h1;refine zr tb U U ?_;refine AB λju dq=>?_;refine ci h1 U ?_ ?_<;>clear h1
    ·intro iW h1;refine AJ (dq _ ?_);refine AB λgN aE=>?_;obtain⟨dr,h2,h1⟩:=Sh.An h1;have gO:∀(Zx:(List Int)),dr=Sum.inr Zx->∀s,Wk 0 s ⟨159,AX [(0,ls AI p0),(4,ow 0 0 l8),(11,ow 1 0 U1),(12,ow 2 0 Zx),(13,i64 0),(71,ls AI p0),(72,i64 (Sh.len p0)),(73,i64 t22)],[ro 0 3 1 eI l8,ro 0 3 1 eI U1,ro 0 3 1 eI Zx]⟩->gN s:=by
      intro Zx hq s hw;subst dr;try dsimp only at h1
      refine aE _ (AH hw ?_);refine AG (by rfl) ?_;refine zm tb 2 U ?_;exact AD (xi (Sh.w (t22+1),Zx) h1 (AE U))
     refine AN ?_;refine sr U λiX aF=>?_;refine zq tb U ?_;obtain⟨Zw,gc75,h2⟩:=Sh.bind_some h2;refine zx Ce gc75 U U U ?_;refine zq tb U ?_;refine Ch (m:=3) Ai JH U U ?_;refine zq tb U ?_;refine Bu Ai Nq U U U U U U UE rfl ?_;refine dn aF U ?_;refine AB λiY aH=>?_;refine AB λiZ dt=>?_;obtain⟨gP,h3,h2⟩:=Sh.bind_some h2;have du:∀(t78:Bool),gP=t78->∀s,Wk 0 s ⟨159,AX [(0,ls AI p0),(4,ow 0 0 l8),(11,ow 1 0 U1),(12,ow 2 0 U4),(13,i64 0),(14,i64 t22),(71,ls AI p0),(72,i64 (Sh.len p0)),(73,i64 t22),(94,.bool t78)],[ro 0 3 1 eI l8,ro 0 3 1 eI U1,ro 0 3 1 eI U4]⟩->iZ s:=by
      intro t78 hq s hw;subst gP;try dsimp only at h2
      refine dt _ (AH hw ?_);refine ci h2 U ?_ ?_<;>clear h2
      ·intro ia h2;refine zr tb U U ?_;replace h2:=Sh.AA h2;subst dr;try dsimp only[id]at h1
       replace h1:=Sh.AA h1;subst ZS;try dsimp only[id]at h0
       replace h0:=Sh.AA h0;subst r;exact AM (Exists.intro _ (And.intro ((((Co (t:=2) rfl 3 (size:=1) (by decide)).trans (AR (L:=[(2,.own 3 0 (List.length ([]:List Int))),(3,.bool false)]) ⟨.rfl,.rfl,Ru⟩)).trans (Ac (L:=[(2,.own 0 0 (List.length ([]:List Int))),(3,.bool false)]) (st':=[ro 0 3 1 eI ([]:List Int)]) (st1:=[ro 0 3 1 eI ([]:List Int)]) [3] U .nil (by decide) rfl U (.pure (AK λ_=>U) .nil) ⟨.rfl,.rfl,Ru⟩)).trans (AR (L:=[(2,.own 0 0 (List.length ([]:List Int))),(3,.bool false)]) ⟨.rfl,.rfl,Ru⟩)) (And.intro U U)))
      ·intro ia h2;refine AJ (aH _ ?_);refine sr U λib aI=>?_;refine zm tb 2 U ?_;obtain⟨dO,gc83,h2⟩:=Sh.bind_some h2;refine zz (.ptr 0 0 (Int.toNat t22) 0) (CT Ak U U U U gc83) rfl ?_;refine zz (i64 dO) (DO Ha U U (CN gc83) rfl) rfl ?_;refine zq tb U ?_;refine dn aI U ?_;refine ci h2 U ?_ ?_<;>clear h2
       ·intro ic h2;refine AG (by rfl) ?_;refine zm tb 2 U ?_;refine DU (m:=3) (l:=[t22]) (enc:=eI) Ai Ak (by decide) rfl U U U U U ?_;obtain⟨Vl,gl85,h2⟩:=Sh.bind_some h2;refine ED (l2:=[t22]) Ai Ak U U U U (Ip U U) (λ_=>U) gl85 U ?_;refine zq tb U ?_;exact AD (gO Vl (Sh.AA h2).symm _ (by refine Wk.trans (Ci (L:=[(0,ls AI p0),(4,ow 0 0 l8),(11,ow 1 0 U1),(12,ow 2 0 Vl),(13,i64 0),(71,ls AI p0),(72,i64 (Sh.len p0)),(73,i64 t22)]) (st':=[ro 0 3 1 eI l8,ro 0 3 1 eI U1,ro 0 3 1 eI Vl,ro 0 3 1 eI [t22]]) (.pure (AK λ_=>U) (.pure (AK λ_=>U) (.pure (AK λ_=>U) (.pure (AK λ_=>U) .nil)))) ⟨.rfl,.rfl,.rfl,.rfl,.rfl,.rfl,.rfl,.rfl,Ru⟩) ?_;exact Ac (L:=[(0,ls AI p0),(4,ow 0 0 l8),(11,ow 1 0 U1),(12,ow 2 0 Vl),(13,i64 0),(71,ls AI p0),(72,i64 (Sh.len p0)),(73,i64 t22)]) (st':=[ro 0 3 1 eI l8,ro 0 3 1 eI U1,ro 0 3 1 eI Vl]) (st1:=[ro 0 3 1 eI l8,ro 0 3 1 eI U1,ro 0 3 1 eI Vl]) [0,1,2] U .nil (by decide) rfl U (.pure (AK λ_=>U) (.pure (AK λ_=>U) (.pure (AK λ_=>U) .nil))) ⟨.rfl,.rfl,.rfl,.rfl,.rfl,.rfl,.rfl,.rfl,Ru⟩))
       ·intro ic h2;exact AJ (gO U4 (Sh.AA h2).symm _ (AE U))
     refine D6 (by kernel_rfl) (by kernel_rfl) (by rfl) ?_;iterate 4 refine yq tb rfl ?_
     rcases Sh.Aa h3 with ⟨b86,h3⟩|⟨b86,h3⟩
     ·refine yg tb b86 U ?_;iterate 3 refine yg tb b86 rfl ?_
      obtain⟨dN,gc87,h3⟩:=Sh.bind_some h3;refine Hb (v:=(.ptr 0 0 (Int.toNat t22) 0)) (B8 U U b86) rfl (CT Ak U U U U gc87) ?_;refine Hb (v:=(i64 dN)) (B8 U U b86) rfl (DO Ha U U (CN gc87) rfl) ?_;iterate 2 refine yg tb b86 rfl ?_
      rcases Sh.Aa h3 with ⟨b88,h3⟩|⟨b88,h3⟩
      ·refine ys b88 U ?_;iterate 2 refine ys b88 rfl ?_
       refine Hb (v:=(.bool true)) (B8 U U b86) rfl (E5 U b88 U) ?_;refine yt b86 U ?_;exact DA (du true (Sh.AA h3).symm _ (Ac (L:=[(0,ls AI p0),(4,ow 0 0 l8),(11,ow 1 0 U1),(12,ow 2 0 U4),(13,i64 0),(14,i64 t22),(71,ls AI p0),(72,i64 (Sh.len p0)),(73,i64 t22),(94,.bool true)]) (st':=[ro 0 3 1 eI l8,ro 0 3 1 eI U1,ro 0 3 1 eI U4]) (st1:=[ro 0 3 1 eI l8,ro 0 3 1 eI U1,ro 0 3 1 eI U4]) [0,1,2] U .nil (by decide) rfl U (.pure (AK λ_=>U) (.pure (AK λ_=>U) (.pure (AK λ_=>U) .nil))) ⟨.rfl,.rfl,.rfl,.rfl,.rfl,.rfl,.rfl,.rfl,.rfl,.rfl,Ru⟩))
      ·refine yg tb b88 U ?_;iterate 2 refine yg tb b88 rfl ?_
       refine Hb (v:=(.bool (decide (999999<Zw.count)))) (B8 U U b86) rfl (E7 U b88 U) ?_;refine yt b86 U ?_;exact DA (du (decide (999999<Zw.count)) (Sh.AA h3).symm _ (Ac (L:=[(0,ls AI p0),(4,ow 0 0 l8),(11,ow 1 0 U1),(12,ow 2 0 U4),(13,i64 0),(14,i64 t22),(71,ls AI p0),(72,i64 (Sh.len p0)),(73,i64 t22),(94,.bool (decide (999999<Zw.count)))]) (st':=[ro 0 3 1 eI l8,ro 0 3 1 eI U1,ro 0 3 1 eI U4]) (st1:=[ro 0 3 1 eI l8,ro 0 3 1 eI U1,ro 0 3 1 eI U4]) [0,1,2] U .nil (by decide) rfl U (.pure (AK λ_=>U) (.pure (AK λ_=>U) (.pure (AK λ_=>U) .nil))) ⟨.rfl,.rfl,.rfl,.rfl,.rfl,.rfl,.rfl,.rfl,.rfl,.rfl,Ru⟩))
     ·refine ys b86 U ?_;iterate 7 refine ys b86 rfl ?_
      iterate 3 refine yn rfl ?_
      refine ys b86 U ?_;refine yf b86 U ?_;exact DA (du false (Sh.AA h3).symm _ (Ac (L:=[(0,ls AI p0),(4,ow 0 0 l8),(11,ow 1 0 U1),(12,ow 2 0 U4),(13,i64 0),(14,i64 t22),(71,ls AI p0),(72,i64 (Sh.len p0)),(73,i64 t22),(94,.bool false)]) (st':=[ro 0 3 1 eI l8,ro 0 3 1 eI U1,ro 0 3 1 eI U4]) (st1:=[ro 0 3 1 eI l8,ro 0 3 1 eI U1,ro 0 3 1 eI U4]) [0,1,2] U .nil (by decide) rfl U (.pure (AK λ_=>U) (.pure (AK λ_=>U) (.pure (AK λ_=>U) .nil))) ⟨.rfl,.rfl,.rfl,.rfl,.rfl,.rfl,.rfl,.rfl,.rfl,.rfl,Ru⟩))
    ·intro iW h1;exact Ah (dY U4 (Sh.AA h1).symm _ (AE U))
  refine AG (by rfl) ?_;refine zq tb U ?_;refine zl tb U U ?_;refine zm tb 2 U ?_;rcases Sh.Aa h1 with ⟨b89,h1⟩|⟨b89,h1⟩
  ·refine zg tb b89 U ?_;refine zg tb b89 U ?_;refine BZ (v:=(i64 (Sh.len p0))) (B8 U U b89) rfl (Db MP U) ?_;refine zg tb b89 U ?_;obtain⟨cC,gc90,h1⟩:=Sh.bind_some h1;refine BZ (v:=(.A4 (AI cC) 0)) (B8 U U b89) rfl (Bt Ce U U gc90 U) ?_;iterate 3 refine zg tb b89 rfl ?_
   refine zt b89 U ?_;exact AD (Yn (decide (cC.count=0)) (Sh.AA h1).symm _ (AE U))
  ·refine zs b89 U ?_;iterate 7 refine zs b89 rfl ?_
   refine zf b89 U ?_;exact AD (Yn false (Sh.AA h1).symm _ (AE U))
 refine AN (Ae (σ:=Int×(List Int)) (λn v=>Ax N p0 n v.1 v.2=some o9) (λ(t6,l7)=>⟨159,AX [(0,ls AI p0),(4,ow 0 0 l7),(24,ls AI p0),(25,i64 (Sh.len p0)),(26,i64 t6)],[ro 0 3 1 eI l7]⟩) N (0,l3) h1 (AE U) (λ_ hv=>by rw[Ax]at hv;cases hv) ?_);rintro n ⟨t6,l7⟩ h1;try dsimp only at h1⊢
 rw[Ax]at h1;refine zr tb U U ?_;refine AB λjv dw=>?_;refine ci h1 U ?_ ?_<;>clear h1
 ·intro ie h1;refine AJ (dw _ ?_);refine AB λgQ aJ=>?_;refine AN ?_;refine sr U λjw dx=>?_;obtain⟨W0,gc96,h1⟩:=Sh.bind_some h1;refine zx Ce gc96 U U U ?_;refine zq tb U ?_;refine Ch (m:=1) Ai JH U U ?_;refine Bu Ai Nq U U U U U U UE rfl ?_;refine dn dx U ?_;refine AB λjx dy=>?_;refine sr U λjy dz=>?_;refine zm tb 2 U ?_;obtain⟨cB,gq99,h1⟩:=Sh.bind_some h1;refine zc RZ (HB gq99) rfl U U ?_;refine zq tb U ?_;refine dn dz U ?_;refine ci h1 U ?_ ?_<;>clear h1
  ·intro Y6 h1;have WC:cB=false:=by simpa using Y6
   refine zr tb U U ?_;replace h1:=Sh.AA h1;subst o9;try dsimp only[id]at h0
   replace h0:=Sh.AA h0;subst r;exact AM (Exists.intro _ (And.intro ((((Co (t:=2) rfl 3 (size:=1) (by decide)).trans (AR (L:=[(2,.own 2 0 (List.length ([]:List Int))),(3,.bool false)]) ⟨.rfl,.rfl,Ru⟩)).trans (Ac (L:=[(2,.own 0 0 (List.length ([]:List Int))),(3,.bool false)]) (st':=[ro 0 3 1 eI ([]:List Int)]) (st1:=[ro 0 3 1 eI ([]:List Int)]) [2] U .nil (by decide) rfl U (.pure (AK λ_=>U) .nil) ⟨.rfl,.rfl,Ru⟩)).trans (AR (L:=[(2,.own 0 0 (List.length ([]:List Int))),(3,.bool false)]) ⟨.rfl,.rfl,Ru⟩)) (And.intro U U)))
  ·intro Y6 h1;have WD:cB=true:=by simpa using Y6
   refine AJ (dy _ ?_);refine sr U λig bY=>?_;refine zm tb 2 U ?_;refine zl tb U U ?_;refine zq tb U ?_;refine dn bY U ?_;obtain⟨aK,h2,h1⟩:=Sh.bind_some h1;have eA:∀(XE:(List Int)),aK=XE->∀s,Wk 0 s ⟨159,AX [(0,ls AI p0),(4,ow 0 0 XE),(24,ls AI p0),(25,i64 (Sh.len p0)),(26,i64 t6)],[ro 0 3 1 eI XE]⟩->gQ s:=by
    intro XE hq s hw;subst aK;try dsimp only at h1
    refine aJ _ (AH hw ?_);refine AG (by rfl) ?_;refine zm tb 2 U ?_;exact AD (xi (Sh.w (t6+1),XE) h1 (AE U))
   refine AN (Ae (σ:=Int×(List Int)) (λn v=>Ay W0 p0 n v.1 v.2=some aK) (λ(WR,l106)=>⟨159,AX [(0,ls AI p0),(4,ow 0 0 l106),(24,ls AI p0),(25,i64 (Sh.len p0)),(26,i64 t6),(35,ls eI W0.fields),(36,i64 (Sh.len W0.fields)),(37,i64 WR)],[ro 0 3 1 eI l106]⟩) N (0,l7) h2 (Ac (L:=[(0,ls AI p0),(4,ow 0 0 l7),(24,ls AI p0),(25,i64 (Sh.len p0)),(26,i64 t6),(35,ls eI W0.fields),(36,i64 (Sh.len W0.fields)),(37,i64 0)]) (st':=[ro 0 3 1 eI l7]) (st1:=[ro 0 3 1 eI l7]) [0] U .nil (by decide) rfl U (.pure (AK λ_=>U) .nil) ⟨.rfl,.rfl,.rfl,.rfl,.rfl,.rfl,.rfl,.rfl,Ru⟩) (λ_ hv=>by rw[Ay]at hv;cases hv) ?_);rintro n ⟨WR,l106⟩ h2;try dsimp only at h2⊢
   rw[Ay]at h2;refine zr tb U U ?_;refine AB λij bZ=>?_;refine ci h2 U ?_ ?_<;>clear h2
   ·intro eC h2;refine AJ (bZ _ ?_);refine AB λeD ba=>?_;obtain⟨bc,h3,h2⟩:=Sh.bind_some h2;have bd:∀(XD:(List Int)),bc=XD->∀s,Wk 0 s ⟨159,AX [(0,ls AI p0),(4,ow 0 0 XD),(24,ls AI p0),(25,i64 (Sh.len p0)),(26,i64 t6),(35,ls eI W0.fields),(36,i64 (Sh.len W0.fields)),(37,i64 WR)],[ro 0 3 1 eI XD]⟩->eD s:=by
     intro XD hq s hw;subst bc;try dsimp only at h2
     refine ba _ (AH hw ?_);refine AG (by rfl) ?_;refine zm tb 2 U ?_;exact AD (xi (Sh.w (WR+1),XD) h2 (AE U))
    refine AN ?_;refine sr U λik bf=>?_;obtain⟨bJ,gc116,h3⟩:=Sh.bind_some h3;refine zx Ak gc116 U U U ?_;refine zm tb 2 U ?_;refine dn bf U ?_;refine sr U λil bg=>?_;refine zm tb 2 U ?_;obtain⟨WA,gq118,h3⟩:=Sh.bind_some h3;refine zc (v':=(.BB [i64 WA.1,.bool WA.2])) Oj (EU gq118) rfl U U ?_;refine zm tb 5 U ?_;refine dn bg U ?_;refine zr tb U U ?_;refine ci h3 U ?_ ?_<;>clear h3
    ·intro eE h3;refine AG (by rfl) ?_;refine zm tb 2 U ?_;obtain⟨Xj,gc121,h3⟩:=Sh.bind_some h3;refine zz (.ptr 0 0 (Int.toNat WA.1) 0) (CT Ak U U U U gc121) rfl ?_;refine zz (i64 Xj) (DO Ha U U (CN gc121) rfl) rfl ?_;refine zq tb U ?_;refine zz (.ptr 0 0 (Int.toNat WA.1) 0) (CT Ak U U U U gc121) rfl ?_;refine Gl (u':=Sh.w (Xj+1)) Ai Ha U U gc121 U U U UC rfl U ?_;exact AD (bd (Sh.put l106 WA.1 (Sh.w (Xj+1))) (Sh.AA h3).symm _ (AR (L:=[(0,.sl (List.map AI p0)),(4,.own 0 0 (List.length (Sh.put l106 WA.1 (Sh.w (Xj+1))))),(24,.sl (List.map AI p0)),(25,i64 (Sh.len p0)),(26,i64 t6),(35,.sl (List.map eI W0.fields)),(36,i64 (Sh.len W0.fields)),(37,i64 WR)]) ⟨.rfl,(.len (by simp only[Sh.DI])),.rfl,.rfl,.rfl,.rfl,.rfl,.rfl,Ru⟩))
    ·intro eE h3;exact AJ (bd l106 (Sh.AA h3).symm _ (AE U))
   ·intro eC h2;exact Ah (eA l106 (Sh.AA h2).symm _ (AE U))
 ·intro ie h1;exact Ah (M9 l7 (Sh.AA h1).symm _ (AE U))
theorem HN {N:Nat}{p0:(List Cell)}{r:Bool}(h0:Cv N p0=some r):AY Try.prog 30 [ls AI p0] [] (λv st=>v=(.bool r)/\st=[]):=by
 unfold Cv at h0;refine ai Try.func30 U U U U ?_;refine zr tb U U ?_;refine sr U λK2 UQ=>?_;refine zq tb U ?_;obtain⟨q3,gq3,h0⟩:=Sh.bind_some h0;refine Cd (v':=(.BB [ow 0 0 q3.1,.bool q3.2])) Ai RB (GP gq3) rfl U ⟨(By λ_=>U),Ru⟩ U U ?_;refine zm tb 5 U ?_;refine dn UQ U ?_;refine zr tb U U ?_;replace h0:=Sh.AA h0;subst r;exact AM (xr (Ag [(2,.bool q3.2)] U))
theorem Gz {N:Nat}{p0:Aj}{r:Af×Bool}(h0:Cj N p0=some r):AY Try.prog 15 [.agg (AS p0)] [] (λv st=>v=(.BB [.agg [ls AI r.1.cells,.mv (List.map (eM i64) r.1.index)],.bool r.2])/\st=[]):=by
 unfold Cj at h0;refine AY.flat U ?_;refine ai Try.func15 U U U U ?_;refine sr U λK1 VQ=>?_;refine Ca (m:=0) Ai U U U U U ?_;refine Ch (m:=1) Ai Nv U U ?_;refine zq tb U ?_;refine dn VQ U ?_;refine sr U λK2 UQ=>?_;refine OY λUw=>?_;refine zz (.agg [.zc,.mp Uw]) (LR RX RS Nv U U) rfl ?_;refine Ch (m:=3) Ai Nv U U ?_;refine Bu Ai E6 U U U U U U UA rfl ?_;refine dn UQ U ?_;refine zr tb U U ?_;refine AB λK5 Xn=>?_;refine zr tb U U ?_;obtain⟨aZ,h1,h0⟩:=Sh.An h0;have im:∀(Y0:(List Int)) (U0:(List Cell)) (UX:(List (Int×Int))),aZ=Sum.inr (Y0,U0,UX)->∀s,Wk 0 s ⟨161,AX [(1,.ptr 0 0 0 0),(2,.ptr 1 0 0 0),(4,.ptr 3 0 0 0),(5,ow 4 0 Y0)],[⟨0,27,2,[AS p0]⟩,⟨0,38,2,[[.zc,.mv (List.map (eM i64) ([]:List (Int×Int)))]]⟩,⟨0,36,1,[[.dv Uw 0 (List.map (eM i64) UX)]]⟩,⟨0,38,2,[[ow 5 0 U0,.mp Uw]]⟩,ro 0 3 1 eI Y0,ro 0 54 3 (Ap 3) U0]⟩->K5 s:=by
  intro Y0 U0 UX hq s hw;subst aZ;try dsimp only at h0
  refine Xn _ (AH hw ?_);refine AB λiP aB=>?_;refine sr U λZP Vd=>?_;refine zq tb U ?_;refine A0 (Fm (L:=[(2,.ptr 1 0 0 0),(4,.ptr 3 0 0 0),(5,ow 4 0 Y0),(110,.agg (AS p0))]) (st':=[⟨0,27,2,[AS p0]⟩,⟨0,38,2,[[.zc,.mv (List.map (eM i64) ([]:List (Int×Int)))]]⟩,⟨1,36,1,[]⟩,⟨0,38,2,[[ow 5 0 U0,.mv (List.map (eM i64) UX)]]⟩,ro 0 3 1 eI Y0,ro 0 54 3 (Ap 3) U0]) (id:=2) (b:=Uw) (D:=List.map (eM i64) UX) rfl UB ⟨.rfl,.rfl,.rfl,.rfl,Ru⟩ (.raw U (.raw U (.pure (by intro x hx;cases hx) (.raw (by simp[Ft]) (.pure (AK λ_=>U) (.deep (Bi λ_=>U) .nil))))))) ?_;refine zm tb 2 U ?_;refine A0 (Wk.DT (L:=[(2,.ptr 1 0 0 0),(4,.ptr 3 0 0 0),(110,.agg (AS p0)),(111,.agg [ow 5 0 U0,.mv (List.map (eM i64) UX)]),(112,ls eI Y0)]) (st':=[⟨0,27,2,[AS p0]⟩,⟨0,38,2,[[.zc,.mv (List.map (eM i64) ([]:List (Int×Int)))]]⟩,⟨1,36,1,[]⟩,⟨0,38,2,[[ow 5 0 U0,.mv (List.map (eM i64) UX)]]⟩,⟨1,3,1,[]⟩,ro 0 54 3 (Ap 3) U0]) (id:=4) rfl (show 0<=4 by decide) (AK λ_=>U) ⟨.rfl,.rfl,.rfl,.agg ⟨.rfl,.rfl,Ru⟩,.DT U,Ru⟩ U) ?_;obtain⟨U1,gq17,h0⟩:=Sh.bind_some h0;refine Gm (v':=(.bool U1)) Ai Rj (E1 gq17) rfl (.val U (.agg (.ownD U U (λ_=>U) (λx=>Cn x) (.val U .nil)) (.val U .nil))) rfl Ru U U ?_;refine zq tb U ?_;refine dn Vd U ?_;refine ci h0 U ?_ ?_<;>clear h0
  ·intro WZ h0;have dd:U1=false:=by simpa using WZ
   refine sr U λbU WY=>?_;refine zq tb U ?_;refine Bu Ai E6 U U U U U U UA rfl ?_;refine zq tb U ?_;refine dn WY U ?_;replace h0:=Sh.AA h0;subst r;exact AM (Exists.intro _ (And.intro ((((AR (L:=[(2,.ptr 1 0 0 0),(3,.bool false)]) ⟨.rfl,.rfl,Ru⟩).trans (DL (id:=1) (m:=5) (j:=0) (enc':=AI) (st':=[⟨0,27,2,[AS p0]⟩,⟨0,38,2,[[ls AI U0,.mv (List.map (eM i64) UX)]]⟩,⟨1,36,1,[]⟩,⟨0,38,2,[[ow 5 0 U0,.mv (List.map (eM i64) UX)]]⟩,⟨1,3,1,[]⟩,⟨1,54,3,[]⟩]) rfl U U U (by decide) UF (λ_=>U) (λx=>Cn x) rfl)).trans (Ac (L:=[(2,.ptr 0 0 0 0),(3,.bool false)]) (st':=[⟨0,38,2,[[ls AI U0,.mv (List.map (eM i64) UX)]]⟩]) (st1:=[⟨0,38,2,[[ls AI U0,.mv (List.map (eM i64) UX)]]⟩]) [1] U .nil (by decide) rfl U (.raw U U .nil) ⟨.rfl,.rfl,Ru⟩)).trans (AR (L:=[(2,.ptr 0 0 0 0),(3,.bool false)]) ⟨.rfl,.rfl,Ru⟩)) (EH (x:=.tmp 2) (off:=0) (cs:=[ls AI U0,.mv (List.map (eM i64) UX)]) (vs:=[ls AI U0,.mv (List.map (eM i64) UX)]) E6 U U U UA rfl _ U)))
  ·intro WZ h0;have cT:U1=true:=by simpa using WZ
   refine AJ (aB _ ?_);refine AB λbR WV=>?_;refine sr U λcQ Wa=>?_;refine zm tb 2 U ?_;refine zz (i64 (Sh.len U0)) (El MP U U U) rfl ?_;refine zq tb U ?_;refine dn Wa U ?_;obtain⟨aC,h1,h0⟩:=Sh.An h0;have bX:∀(X0:(List Cell)),aC=Sum.inr X0->∀s,Wk 0 s ⟨161,AX [(2,.ptr 0 0 0 0),(4,.ptr 1 0 0 0)],[⟨0,38,2,[[.zc,.mv (List.map (eM i64) ([]:List (Int×Int)))]]⟩,⟨0,38,2,[[ow 2 0 X0,.mv (List.map (eM i64) UX)]]⟩,ro 0 54 3 (Ap 3) X0]⟩->bR s:=by
    intro X0 hq s hw;subst aC;try dsimp only at h0
    refine WV _ (AH hw ?_);refine AB λiI Z4=>?_;refine AH ((DL (id:=1) (m:=2) (j:=0) (enc':=AI) (st':=[⟨0,38,2,[[.zc,.mv (List.map (eM i64) ([]:List (Int×Int)))]]⟩,⟨0,38,2,[[ls AI X0,.mv (List.map (eM i64) UX)]]⟩,⟨1,54,3,[]⟩]) rfl U U U (by decide) UB (λ_=>U) (λx=>Cn x) rfl).trans (AR (L:=[(2,.ptr 0 0 0 0),(4,.ptr 1 0 0 0)]) ⟨.rfl,.rfl,Ru⟩)) ?_;refine ET 4 (by kernel_rfl) (by kernel_rfl) (by rfl) ?_;iterate 2 refine yq tb rfl ?_
    obtain⟨Xh,gq29,h0⟩:=Sh.bind_some h0;refine Gn (v:=(ls AI Xh)) Ai Rc (EO gq29) rfl U U ?_;obtain⟨WQ,gq30,h0⟩:=Sh.bind_some h0;refine Gn (v:=(.bool WQ)) Ai Q0 (HN gq30) rfl U U ?_;refine DA ?_;refine Bu Ai E6 U U U U U U UA rfl ?_;refine zq tb U ?_;refine dn Z4 U ?_;replace h0:=Sh.AA h0;subst r;exact AM (Exists.intro _ (And.intro ((Ac (L:=[(2,.ptr 0 0 0 0),(3,.bool WQ)]) (st':=[⟨0,38,2,[[ls AI X0,.mv (List.map (eM i64) UX)]]⟩]) (st1:=[⟨0,38,2,[[ls AI X0,.mv (List.map (eM i64) UX)]]⟩]) [0] U .nil (by decide) rfl U (.raw U U .nil) ⟨.rfl,.rfl,Ru⟩).trans (AR (L:=[(2,.ptr 0 0 0 0),(3,.bool WQ)]) ⟨.rfl,.rfl,Ru⟩)) (EH (x:=.tmp 2) (off:=0) (cs:=[ls AI X0,.mv (List.map (eM i64) UX)]) (vs:=[ls AI X0,.mv (List.map (eM i64) UX)]) E6 U U U UA rfl _ U)))
   refine AN (Ae (σ:=Int×(List Cell)) (λn v=>A5 N U0 UX n v.1 v.2=some aC) (λ(t24,Uf)=>⟨161,AX [(2,.ptr 0 0 0 0),(4,.ptr 1 0 0 0),(118,i64 (Sh.len U0)),(119,i64 t24)],[⟨0,38,2,[[.zc,.mv (List.map (eM i64) ([]:List (Int×Int)))]]⟩,⟨0,38,2,[[ow 2 0 Uf,.mv (List.map (eM i64) UX)]]⟩,ro 0 54 3 (Ap 3) Uf]⟩) N (0,U0) h1 (Ac (L:=[(2,.ptr 0 0 0 0),(4,.ptr 1 0 0 0),(118,i64 (Sh.len U0)),(119,i64 0)]) (st':=[⟨0,38,2,[[.zc,.mv (List.map (eM i64) ([]:List (Int×Int)))]]⟩,⟨0,38,2,[[ow 2 0 U0,.mv (List.map (eM i64) UX)]]⟩,ro 0 54 3 (Ap 3) U0]) (st1:=[⟨0,38,2,[[.zc,.mv (List.map (eM i64) ([]:List (Int×Int)))]]⟩,⟨0,38,2,[[ow 5 0 U0,.mv (List.map (eM i64) UX)]]⟩,ro 0 54 3 (Ap 3) U0]) [1,3,5] U .nil (by decide) rfl U (.raw U U (.raw U U (.deep (Bi λ_=>U) .nil))) ⟨.rfl,.rfl,.rfl,.rfl,Ru⟩) (λ_ hv=>by rw[A5]at hv;cases hv) ?_);rintro n ⟨t24,Uf⟩ h1;try dsimp only at h1⊢
   rw[A5]at h1;refine zr tb U U ?_;refine AB λdT XI=>?_;refine ci h1 U ?_ ?_<;>clear h1
   ·intro Wb h1;refine AJ (XI _ ?_);refine AB λcP YU=>?_;refine AN ?_;refine zr tb U U ?_;refine sr U λcO XJ=>?_;refine zm tb 3 U ?_;obtain⟨UP,gc37,h1⟩:=Sh.bind_some h1;refine zz (.ptr 2 0 (Int.toNat t24) 0) (CT Ce U U U U gc37) rfl ?_;refine zq tb U ?_;refine A0 (Wk.Qi (id:=2) (j:=2) (i:=t24) (c:=UP) (ys:=UP.fields) (encY:=eI) rfl gc37 U U U U U) ?_;refine zz (ow 3 0 UP.fields) (DO MU U U (H9 gc37) rfl) rfl ?_;refine zz (i64 (Sh.len UP.fields)) (El F6 U U U) rfl ?_;refine zq tb U ?_;refine dn XJ U ?_;obtain⟨cU,h2,h1⟩:=Sh.An h1;have iq:∀(WS:(List Int)),cU=Sum.inr WS->∀s,Wk 0 s ⟨161,AX [(2,.ptr 0 0 0 0),(4,.ptr 1 0 0 0),(118,i64 (Sh.len U0)),(119,i64 t24)],[⟨0,38,2,[[.zc,.mv (List.map (eM i64) ([]:List (Int×Int)))]]⟩,⟨0,38,2,[[ow 2 0 Uf,.mv (List.map (eM i64) UX)]]⟩,⟨0,54,3,hole Uf (Ap 3) t24 [i64 UP.count,i64 UP.tag,ow 3 0 WS]⟩,ro 0 3 1 eI WS]⟩->cP s:=by
     intro WS hq s hw;subst cU;try dsimp only at h1
     refine YU _ (AH hw ?_);refine AH (Wk.take (id:=2) (m:=3) (j:=2) (i:=t24) (c:=UP) (ys:=WS) (encY:=eI) (x':=[i64 UP.count,i64 UP.tag,.dv 3 1 (List.map eI WS)]) (st':=[⟨0,38,2,[[.zc,.mv (List.map (eM i64) ([]:List (Int×Int)))]]⟩,⟨0,38,2,[[ow 2 0 Uf,.mv (List.map (eM i64) UX)]]⟩,⟨0,54,3,hole Uf (Ap 3) t24 [i64 UP.count,i64 UP.tag,.dv 3 1 (List.map eI WS)]⟩,⟨1,3,1,[]⟩]) rfl gc37 U U U (by decide) UG (λ_=>U) rfl U) ?_;refine AH (Hh (id:=2) (i:=t24) (u:=(Cell.mk UP.count UP.tag WS)) (st':=[⟨0,38,2,[[.zc,.mv (List.map (eM i64) ([]:List (Int×Int)))]]⟩,⟨0,38,2,[[ow 2 0 Uf,.mv (List.map (eM i64) UX)]]⟩,ro 0 54 3 (Ap 3) (Sh.put Uf t24 (Cell.mk UP.count UP.tag WS)),⟨1,3,1,[]⟩]) rfl U U) ?_;refine AG (by rfl) ?_;refine zm tb 2 U ?_;exact AD (xi (Sh.w (t24+1),Sh.put Uf t24 (Cell.mk UP.count UP.tag WS)) h1 (by refine Wk.trans (Fs (st:=[⟨0,38,2,[[.zc,.mv (List.map (eM i64) ([]:List (Int×Int)))]]⟩,⟨0,38,2,[[.own 2 0 (List.length Uf),.mv (List.map (eM i64) UX)]]⟩,⟨0,54,3,List.map (Ap 3) (Sh.put Uf t24 (Cell.mk UP.count UP.tag WS))⟩,⟨1,3,1,[]⟩]) (st':=[⟨0,38,2,[[.zc,.mv (List.map (eM i64) ([]:List (Int×Int)))]]⟩,⟨0,38,2,[[.own 2 0 (List.length (Sh.put Uf t24 (Cell.mk UP.count UP.tag WS))),.mv (List.map (eM i64) UX)]]⟩,⟨0,54,3,List.map (Ap 3) (Sh.put Uf t24 (Cell.mk UP.count UP.tag WS))⟩,⟨1,3,1,[]⟩]) (by simp only[Sh.DI])) ?_;exact Ac (L:=[(2,.ptr 0 0 0 0),(4,.ptr 1 0 0 0),(118,i64 (Sh.len U0)),(119,i64 (Sh.w (t24+1)))]) (st':=[⟨0,38,2,[[.zc,.mv (List.map (eM i64) ([]:List (Int×Int)))]]⟩,⟨0,38,2,[[.own 2 0 (List.length (Sh.put Uf t24 (Cell.mk UP.count UP.tag WS))),.mv (List.map (eM i64) UX)]]⟩,⟨0,54,3,List.map (Ap 3) (Sh.put Uf t24 (Cell.mk UP.count UP.tag WS))⟩]) (st1:=[⟨0,38,2,[[.zc,.mv (List.map (eM i64) ([]:List (Int×Int)))]]⟩,⟨0,38,2,[[.own 2 0 (List.length (Sh.put Uf t24 (Cell.mk UP.count UP.tag WS))),.mv (List.map (eM i64) UX)]]⟩,⟨0,54,3,List.map (Ap 3) (Sh.put Uf t24 (Cell.mk UP.count UP.tag WS))⟩]) [0,1,2] U .nil (by decide) rfl U (.raw U U (.raw U U (.deep (Bi λ_=>U) .nil))) ⟨.rfl,.rfl,.rfl,.rfl,Ru⟩))
    refine AN (Ae (σ:=Int×(List Int)) (λn v=>A6 UP UX Uf t24 n v.1 v.2=some cU) (λ(t38,l39)=>⟨161,AX [(2,.ptr 0 0 0 0),(4,.ptr 1 0 0 0),(11,i64 t24),(118,i64 (Sh.len U0)),(119,i64 t24),(127,ow 3 0 l39),(128,i64 (Sh.len UP.fields)),(129,i64 t38)],[⟨0,38,2,[[.zc,.mv (List.map (eM i64) ([]:List (Int×Int)))]]⟩,⟨0,38,2,[[ow 2 0 Uf,.mv (List.map (eM i64) UX)]]⟩,⟨0,54,3,hole Uf (Ap 3) t24 [i64 UP.count,i64 UP.tag,ow 3 0 l39]⟩,ro 0 3 1 eI l39]⟩) N (0,UP.fields) h2 (AE U) (λ_ hv=>by rw[A6]at hv;cases hv) ?_);rintro n ⟨t38,l39⟩ h2;try dsimp only at h2⊢
    rw[A6]at h2;refine zr tb U U ?_;refine AB λjz eF=>?_;refine ci h2 U ?_ ?_<;>clear h2
    ·intro ir h2;refine AJ (eF _ ?_);refine AB λiu eG=>?_;obtain⟨eH,h3,h2⟩:=Sh.An h2;have gR:∀(Wz:(List Int)),eH=Sum.inr Wz->∀s,Wk 0 s ⟨161,AX [(2,.ptr 0 0 0 0),(4,.ptr 1 0 0 0),(11,i64 t24),(118,i64 (Sh.len U0)),(119,i64 t24),(127,ow 3 0 Wz),(128,i64 (Sh.len UP.fields)),(129,i64 t38)],[⟨0,38,2,[[.zc,.mv (List.map (eM i64) ([]:List (Int×Int)))]]⟩,⟨0,38,2,[[ow 2 0 Uf,.mv (List.map (eM i64) UX)]]⟩,⟨0,54,3,hole Uf (Ap 3) t24 [i64 UP.count,i64 UP.tag,ow 3 0 Wz]⟩,ro 0 3 1 eI Wz]⟩->iu s:=by
      intro Wz hq s hw;subst eH;try dsimp only at h2
      refine eG _ (AH hw ?_);refine AG (by rfl) ?_;refine zm tb 2 U ?_;exact AD (xi (Sh.w (t38+1),Wz) h2 (AE U))
     refine AN ?_;refine sr U λkA eJ=>?_;refine zq tb U ?_;obtain⟨cG,gc49,h3⟩:=Sh.bind_some h3;refine zz (.ptr 3 0 (Int.toNat t38) 0) (CT Ak U U U U gc49) rfl ?_;refine zz (i64 cG) (DO Ha U U (CN gc49) rfl) rfl ?_;refine zm tb 2 U ?_;refine dn eJ U ?_;refine AB λgD YX=>?_;refine sr U λgF aA=>?_;refine zq tb U ?_;obtain⟨ff,gq52,h3⟩:=Sh.bind_some h3;refine zc QJ (GW gq52) rfl U U ?_;refine dn aA U ?_;refine ci h3 U ?_ ?_<;>clear h3
     ·intro iw h3;exact Ah (gR l39 (Sh.AA h3).symm _ (AE U))
     ·intro iw h3;refine AJ (YX _ ?_);refine sr U λkB eK=>?_;refine zm tb 2 U ?_;obtain⟨Xk,gq55,h3⟩:=Sh.bind_some h3;refine OO (v':=(.BB [i64 Xk.1,.bool Xk.2])) (st':=[⟨0,38,2,[[.zc,.mv (List.map (eM i64) ([]:List (Int×Int)))]]⟩,⟨0,38,2,[[ow 2 0 Uf,.mv (List.map (eM i64) UX)]]⟩,⟨0,54,3,hole Uf (Ap 3) t24 [i64 UP.count,i64 UP.tag,ow 3 0 l39]⟩,ro 0 3 1 eI l39]) Ai QN (CX gq55) rfl (.agg (.cons (.hol U U (λ_=>U) (λx=>Cn x) gc37 U (.val U (.val U (.own U U (λ_=>U) .nil)))) (.cons (.val U) .nil)) (.one (.val U) .nil)) rfl Ru U U ?_;refine zm tb 5 U ?_;refine dn eK U ?_;refine AB λgH YY=>?_;refine zr tb U U ?_;refine ci h3 U ?_ ?_<;>clear h3
      ·intro Xs h3;have kC:Xk.2=false:=by simpa using Xs
       refine AB λkD eL=>?_;refine AH (Wk.take (id:=2) (m:=3) (j:=2) (i:=t24) (c:=UP) (ys:=l39) (encY:=eI) (x':=[i64 UP.count,i64 UP.tag,.dv 3 1 (List.map eI l39)]) (st':=[⟨0,38,2,[[.zc,.mv (List.map (eM i64) ([]:List (Int×Int)))]]⟩,⟨0,38,2,[[ow 2 0 Uf,.mv (List.map (eM i64) UX)]]⟩,⟨0,54,3,hole Uf (Ap 3) t24 [i64 UP.count,i64 UP.tag,.dv 3 1 (List.map eI l39)]⟩,⟨1,3,1,[]⟩]) rfl gc37 U U U (by decide) UG (λ_=>U) rfl U) ?_;refine AH (Hh (id:=2) (i:=t24) (u:=(Cell.mk UP.count UP.tag l39)) (st':=[⟨0,38,2,[[.zc,.mv (List.map (eM i64) ([]:List (Int×Int)))]]⟩,⟨0,38,2,[[ow 2 0 Uf,.mv (List.map (eM i64) UX)]]⟩,ro 0 54 3 (Ap 3) (Sh.put Uf t24 (Cell.mk UP.count UP.tag l39)),⟨1,3,1,[]⟩]) rfl U U) ?_;refine AG (by rfl) ?_;refine zq tb U ?_;refine Bu Ai E6 U U U U U U UA rfl ?_;refine zq tb U ?_;refine dn eL U ?_;replace h3:=Sh.AA h3;subst eH;try dsimp only[id]at h2
       replace h2:=Sh.AA h2;subst cU;try dsimp only[id]at h1
       replace h1:=Sh.AA h1;subst aC;try dsimp only[id]at h0
       replace h0:=Sh.AA h0;subst r;exact AM (Exists.intro _ (And.intro ((((AR (L:=[(2,.ptr 0 0 0 0),(3,.bool false)]) ⟨.rfl,.rfl,Ru⟩).trans (DL (id:=0) (m:=2) (j:=0) (enc':=AI) (st':=[⟨0,38,2,[[.sl (List.map AI (Sh.put Uf t24 (Cell.mk UP.count UP.tag l39))),.mv (List.map (eM i64) UX)]]⟩,⟨0,38,2,[[.own 2 0 (List.length Uf),.mv (List.map (eM i64) UX)]]⟩,⟨1,54,3,[]⟩,⟨1,3,1,[]⟩]) rfl U U (by simp only[Sh.DI]) (by decide) UB (λ_=>U) (λx=>Cn x) rfl)).trans (Ac (L:=[(2,.ptr 0 0 0 0),(3,.bool false)]) (st':=[⟨0,38,2,[[.sl (List.map AI (Sh.put Uf t24 (Cell.mk UP.count UP.tag l39))),.mv (List.map (eM i64) UX)]]⟩]) (st1:=[⟨0,38,2,[[.sl (List.map AI (Sh.put Uf t24 (Cell.mk UP.count UP.tag l39))),.mv (List.map (eM i64) UX)]]⟩]) [0] U .nil (by decide) rfl U (.raw U U .nil) ⟨.rfl,.rfl,Ru⟩)).trans (AR (L:=[(2,.ptr 0 0 0 0),(3,.bool false)]) ⟨.rfl,.rfl,Ru⟩)) (EH (x:=.tmp 2) (off:=0) (cs:=[.sl (List.map AI (Sh.put Uf t24 (Cell.mk UP.count UP.tag l39))),.mv (List.map (eM i64) UX)]) (vs:=[.sl (List.map AI (Sh.put Uf t24 (Cell.mk UP.count UP.tag l39))),.mv (List.map (eM i64) UX)]) E6 U U U UA rfl _ U)))
      ·intro Xs h3;have gM:Xk.2=true:=by simpa using Xs
       refine AJ (YY _ ?_);refine AG (by rfl) ?_;refine zm tb 3 U ?_;refine zz (.ptr 2 0 (Int.toNat t24) 0) (Ph Ce U U U U gc37) rfl ?_;refine zq tb U ?_;refine zz (ow 3 0 l39) (DO MU U U (H9 gc37) rfl) rfl ?_;refine zm tb 3 U ?_;refine zz (.ptr 3 0 (Int.toNat t38) 0) (CT Ak U U U U gc49) rfl ?_;refine Gl (u':=Sh.w (1000+Xk.1)) Ai Ha U U gc49 U U U UC rfl U ?_;exact AD (gR (Sh.put l39 t38 (Sh.w (1000+Xk.1))) (Sh.AA h3).symm _ (by refine Wk.trans (Fs (st:=[⟨0,38,2,[[.zc,.mv (List.map (eM i64) ([]:List (Int×Int)))]]⟩,⟨0,38,2,[[.own 2 0 (List.length Uf),.mv (List.map (eM i64) UX)]]⟩,⟨0,54,3,hole Uf (Ap 3) t24 [i64 UP.count,i64 UP.tag,.own 3 0 (List.length l39)]⟩,⟨0,3,1,List.map eI (Sh.put l39 t38 (Sh.w (1000+Xk.1)))⟩]) (st':=[⟨0,38,2,[[.zc,.mv (List.map (eM i64) ([]:List (Int×Int)))]]⟩,⟨0,38,2,[[.own 2 0 (List.length Uf),.mv (List.map (eM i64) UX)]]⟩,⟨0,54,3,hole Uf (Ap 3) t24 [i64 UP.count,i64 UP.tag,.own 3 0 (List.length (Sh.put l39 t38 (Sh.w (1000+Xk.1))))]⟩,⟨0,3,1,List.map eI (Sh.put l39 t38 (Sh.w (1000+Xk.1)))⟩]) (by simp only[Sh.DI])) ?_;exact AR (L:=[(2,.ptr 0 0 0 0),(4,.ptr 1 0 0 0),(11,i64 t24),(118,i64 (Sh.len U0)),(119,i64 t24),(127,.own 3 0 (List.length (Sh.put l39 t38 (Sh.w (1000+Xk.1))))),(128,i64 (Sh.len UP.fields)),(129,i64 t38)]) ⟨.rfl,.rfl,.rfl,.rfl,.rfl,(.len (by simp only[Sh.DI])),.rfl,.rfl,Ru⟩))
    ·intro ir h2;exact Ah (iq l39 (Sh.AA h2).symm _ (AE U))
   ·intro Wb h1;exact Ah (bX Uf (Sh.AA h1).symm _ (AE U))
 refine AN (Ae (σ:=Int×(List Int)×(List Cell)×(List (Int×Int))) (λn v=>A7 N p0 n v.1 v.2.1 v.2.2.1 v.2.2.2=some aZ) (λ(Ud,l8,l9,l10)=>⟨161,AX [(1,.ptr 0 0 0 0),(2,.ptr 1 0 0 0),(4,.ptr 3 0 0 0),(5,ow 4 0 l8),(6,i64 Ud)],[⟨0,27,2,[AS p0]⟩,⟨0,38,2,[[.zc,.mv (List.map (eM i64) ([]:List (Int×Int)))]]⟩,⟨0,36,1,[[.dv Uw 0 (List.map (eM i64) l10)]]⟩,⟨0,38,2,[[ow 5 0 l9,.mp Uw]]⟩,ro 0 3 1 eI l8,ro 0 54 3 (Ap 3) l9]⟩) N (0,[],[],[]) h1 (by refine Wk.trans ((Co (t:=5) rfl 3 (size:=1) (by decide)).trans (AR (L:=[(1,.ptr 0 0 0 0),(2,.ptr 1 0 0 0),(4,.ptr 3 0 0 0),(5,.own 4 0 (List.length ([]:List Int))),(6,i64 0)]) ⟨.rfl,.rfl,.rfl,.rfl,.rfl,Ru⟩)) ?_;refine Wk.trans (Hf (id:=3) (st':=[⟨0,27,2,[AS p0]⟩,⟨0,38,2,[[.zc,.mv (List.map (eM i64) ([]:List (Int×Int)))]]⟩,⟨0,36,1,[[.dv Uw 0 (List.map (eM i64) ([]:List (Int×Int)))]]⟩,⟨0,38,2,[[.own 5 0 (List.length ([]:List Cell)),.mp Uw]]⟩,ro 0 3 1 eI ([]:List Int),ro 0 54 3 (Ap 3) ([]:List Cell)]) (j:=0) rfl U 54 (size':=3) (by decide) rfl U U U) ?_;exact AE U) (λ_ hv=>by rw[A7]at hv;cases hv) ?_);rintro n ⟨Ud,l8,l9,l10⟩ h1;try dsimp only at h1⊢
 rw[A7]at h1;refine AB λiU aD=>?_;refine sr U λkE eN=>?_;refine zm tb 3 U ?_;refine zl tb U U ?_;refine zq tb U ?_;refine dn eN U ?_;refine ci h1 U ?_ ?_<;>clear h1
 ·intro ix h1;refine AJ (aD _ ?_);refine AN ?_;refine AB λkF eO=>?_;refine AB λiy eP=>?_;obtain⟨gS,h2,h1⟩:=Sh.bind_some h1;have eQ:∀(t67:Bool),gS=t67->∀s,Wk 0 s ⟨161,AX [(1,.ptr 0 0 0 0),(2,.ptr 1 0 0 0),(4,.ptr 3 0 0 0),(5,ow 4 0 l8),(6,i64 Ud),(45,.bool t67)],[⟨0,27,2,[AS p0]⟩,⟨0,38,2,[[.zc,.mv (List.map (eM i64) ([]:List (Int×Int)))]]⟩,⟨0,36,1,[[.dv Uw 0 (List.map (eM i64) l10)]]⟩,⟨0,38,2,[[ow 5 0 l9,.mp Uw]]⟩,ro 0 3 1 eI l8,ro 0 54 3 (Ap 3) l9]⟩->iy s:=by
   intro t67 hq s hw;subst gS;try dsimp only at h1
   refine eP _ (AH hw ?_);refine ci h1 U ?_ ?_<;>clear h1
   ·intro iz h1;refine sr U λkG eR=>?_;refine A0 (Fm (L:=[(2,.ptr 1 0 0 0),(4,.ptr 3 0 0 0)]) (st':=[⟨0,27,2,[AS p0]⟩,⟨0,38,2,[[.zc,.mv (List.map (eM i64) ([]:List (Int×Int)))]]⟩,⟨1,36,1,[]⟩,⟨0,38,2,[[ow 5 0 l9,.mv (List.map (eM i64) l10)]]⟩,ro 0 3 1 eI l8,ro 0 54 3 (Ap 3) l9]) (id:=2) (b:=Uw) (D:=List.map (eM i64) l10) rfl UB ⟨.rfl,.rfl,Ru⟩ (.raw U (.raw U (.pure (by intro x hx;cases hx) (.raw (by simp[Ft]) (.pure (AK λ_=>U) (.deep (Bi λ_=>U) .nil))))))) ?_;refine zq tb U ?_;refine Bu Ai E6 U U U U U U UA rfl ?_;refine zq tb U ?_;refine dn eR U ?_;replace h1:=Sh.AA h1;subst aZ;try dsimp only[id]at h0
    replace h0:=Sh.AA h0;subst r;exact AM (Exists.intro _ (And.intro ((((AR (L:=[(2,.ptr 1 0 0 0),(3,.bool false)]) ⟨.rfl,.rfl,Ru⟩).trans (DL (id:=1) (m:=5) (j:=0) (enc':=AI) (st':=[⟨0,27,2,[AS p0]⟩,⟨0,38,2,[[ls AI l9,.mv (List.map (eM i64) l10)]]⟩,⟨1,36,1,[]⟩,⟨0,38,2,[[ow 5 0 l9,.mv (List.map (eM i64) l10)]]⟩,ro 0 3 1 eI l8,⟨1,54,3,[]⟩]) rfl U U U (by decide) UF (λ_=>U) (λx=>Cn x) rfl)).trans (Ac (L:=[(2,.ptr 0 0 0 0),(3,.bool false)]) (st':=[⟨0,38,2,[[ls AI l9,.mv (List.map (eM i64) l10)]]⟩]) (st1:=[⟨0,38,2,[[ls AI l9,.mv (List.map (eM i64) l10)]]⟩]) [1] U .nil (by decide) rfl U (.raw U U .nil) ⟨.rfl,.rfl,Ru⟩)).trans (AR (L:=[(2,.ptr 0 0 0 0),(3,.bool false)]) ⟨.rfl,.rfl,Ru⟩)) (EH (x:=.tmp 2) (off:=0) (cs:=[ls AI l9,.mv (List.map (eM i64) l10)]) (vs:=[ls AI l9,.mv (List.map (eM i64) l10)]) E6 U U U UA rfl _ U)))
   ·intro iz h1;refine AJ (eO _ ?_);refine AB λgN aE=>?_;refine D6 (by kernel_rfl) (by kernel_rfl) (by rfl) ?_;iterate 3 refine yq tb rfl ?_
    obtain⟨WB,gc72,h1⟩:=Sh.bind_some h1;refine yx Ak gc72 U U U ?_;iterate 5 refine yq tb rfl ?_
    obtain⟨Vz,gc73,h1⟩:=Sh.bind_some h1;refine yx Ak gc73 U U U ?_;iterate 3 refine yq tb rfl ?_
    refine DA (aE _ ?_);refine sr U λiX aF=>?_;refine zm tb 3 U ?_;refine zz (i64 (Int.tmod Vz 4)) (La U U (by decide)) rfl ?_;refine zm tb 2 U ?_;refine dn aF U ?_;refine AB λkH eT=>?_;refine sr U λiY aH=>?_;refine zm tb 3 U ?_;refine zl tb U U ?_;refine zq tb U ?_;refine dn aH U ?_;refine ci h1 U ?_ ?_<;>clear h1
    ·intro jA h1;refine sr U λkI eU=>?_;refine A0 (Fm (L:=[(2,.ptr 1 0 0 0),(4,.ptr 3 0 0 0)]) (st':=[⟨0,27,2,[AS p0]⟩,⟨0,38,2,[[.zc,.mv (List.map (eM i64) ([]:List (Int×Int)))]]⟩,⟨1,36,1,[]⟩,⟨0,38,2,[[ow 5 0 l9,.mv (List.map (eM i64) l10)]]⟩,ro 0 3 1 eI l8,ro 0 54 3 (Ap 3) l9]) (id:=2) (b:=Uw) (D:=List.map (eM i64) l10) rfl UB ⟨.rfl,.rfl,Ru⟩ (.raw U (.raw U (.pure (by intro x hx;cases hx) (.raw (by simp[Ft]) (.pure (AK λ_=>U) (.deep (Bi λ_=>U) .nil))))))) ?_;refine zq tb U ?_;refine Bu Ai E6 U U U U U U UA rfl ?_;refine zq tb U ?_;refine dn eU U ?_;replace h1:=Sh.AA h1;subst aZ;try dsimp only[id]at h0
     replace h0:=Sh.AA h0;subst r;exact AM (Exists.intro _ (And.intro ((((AR (L:=[(2,.ptr 1 0 0 0),(3,.bool false)]) ⟨.rfl,.rfl,Ru⟩).trans (DL (id:=1) (m:=5) (j:=0) (enc':=AI) (st':=[⟨0,27,2,[AS p0]⟩,⟨0,38,2,[[ls AI l9,.mv (List.map (eM i64) l10)]]⟩,⟨1,36,1,[]⟩,⟨0,38,2,[[ow 5 0 l9,.mv (List.map (eM i64) l10)]]⟩,ro 0 3 1 eI l8,⟨1,54,3,[]⟩]) rfl U U U (by decide) UF (λ_=>U) (λx=>Cn x) rfl)).trans (Ac (L:=[(2,.ptr 0 0 0 0),(3,.bool false)]) (st':=[⟨0,38,2,[[ls AI l9,.mv (List.map (eM i64) l10)]]⟩]) (st1:=[⟨0,38,2,[[ls AI l9,.mv (List.map (eM i64) l10)]]⟩]) [1] U .nil (by decide) rfl U (.raw U U .nil) ⟨.rfl,.rfl,Ru⟩)).trans (AR (L:=[(2,.ptr 0 0 0 0),(3,.bool false)]) ⟨.rfl,.rfl,Ru⟩)) (EH (x:=.tmp 2) (off:=0) (cs:=[ls AI l9,.mv (List.map (eM i64) l10)]) (vs:=[ls AI l9,.mv (List.map (eM i64) l10)]) E6 U U U UA rfl _ U)))
    ·intro jA h1;refine AJ (eT _ ?_);refine sr U λkJ eV=>?_;refine zm tb 5 U ?_;refine zz (i64 (Sh.len l9)) (El MP U U U) rfl ?_;refine Oh (id:=2) (ev:=i64) (st':=[⟨0,27,2,[AS p0]⟩,⟨0,38,2,[[.zc,.mv (List.map (eM i64) ([]:List (Int×Int)))]]⟩,⟨0,36,1,[[.dv Uw 0 (List.map (eM i64) (Sh.BX l10 Ud (Sh.len l9)))]]⟩,⟨0,38,2,[[ow 5 0 l9,.mp Uw]]⟩,ro 0 3 1 eI l8,ro 0 54 3 (Ap 3) l9]) Ai Oz (λ_=>U) rfl U U U U ?_;refine dn eV U ?_;refine sr U λkK eW=>?_;refine zm tb 2 U ?_;refine DU (m:=6) (l:=[Ud]) (enc:=eI) Ai Ak (by decide) rfl U U U U U ?_;obtain⟨Vm,gl81,h1⟩:=Sh.bind_some h1;refine ED (l2:=[Ud]) Ai Ak U U U U (Ip U U) (λ_=>U) gl81 U ?_;refine zq tb U ?_;refine dn eW U ?_;refine sr U λib aI=>?_;refine zq tb U ?_;refine zz (.agg [i64 WB,i64 0,.zc]) (LR PM O3 JH U U) rfl ?_;refine Ch (m:=7) Ai JH U U ?_;refine Bu Ai Nq U U U U U U UE rfl ?_;refine dn aI U ?_;refine AB λjB eX=>?_;obtain⟨eY,h2,h1⟩:=Sh.An h1;have gT:∀(Xz:Int) (Vl:(List Int)),eY=Sum.inr (Xz,Vl)->∀s,Wk 0 s ⟨161,AX [(1,.ptr 0 0 0 0),(2,.ptr 1 0 0 0),(4,.ptr 3 0 0 0),(5,ow 4 0 Vm),(9,i64 (Sh.w ((Sh.w (Ud+2))+(Int.tmod Vz 4)))),(10,.ptr 6 0 0 0)],[⟨0,27,2,[AS p0]⟩,⟨0,38,2,[[.zc,.mv (List.map (eM i64) ([]:List (Int×Int)))]]⟩,⟨0,36,1,[[.dv Uw 0 (List.map (eM i64) (Sh.BX l10 Ud (Sh.len l9)))]]⟩,⟨0,38,2,[[ow 5 0 l9,.mp Uw]]⟩,ro 0 3 1 eI Vm,ro 0 54 3 (Ap 3) l9,⟨0,54,3,[[i64 WB,i64 Xz,ow 7 0 Vl]]⟩,ro 0 3 1 eI Vl]⟩->jB s:=by
      intro Xz Vl hq s hw;subst eY;try dsimp only at h1
      refine eX _ (AH hw ?_);refine sr U λkL eZ=>?_;refine zm tb 3 U ?_;refine DU (m:=8) (l:=[()]) (enc:=λ_=>[i64 WB,i64 Xz,ow 7 0 Vl]) Ai Ce (by decide) rfl U U U U U ?_;obtain⟨Yk,gl88,h1⟩:=Sh.bind_some h1;have gU:=Ol gl88;refine P2 (st':=[⟨0,27,2,[AS p0]⟩,⟨0,38,2,[[.zc,.mv (List.map (eM i64) ([]:List (Int×Int)))]]⟩,⟨0,36,1,[[.dv Uw 0 (List.map (eM i64) (Sh.BX l10 Ud (Sh.len l9)))]]⟩,⟨0,38,2,[[ow 5 0 l9,.mp Uw]]⟩,ro 0 3 1 eI Vm,⟨1,54,3,hole Yk (Ap 3) (Sh.len l9) [i64 WB,i64 Xz,ow 7 0 Vl]⟩,⟨0,54,3,[[i64 WB,i64 Xz,ow 7 0 Vl]]⟩,ro 0 3 1 eI Vl,⟨0,54,3,[[i64 WB,i64 Xz,ow 7 0 Vl]]⟩]) (c:=(Cell.mk WB Xz Vl)) Ai Ce U U U U U U U gl88 U ?_;refine A0 (Wk.take (id:=5) (m:=7) (j:=2) (i:=Sh.len l9) (c:=(Cell.mk WB Xz Vl)) (ys:=Vl) (encY:=eI) rfl gU U U U (by decide) (show 0<=7 by decide) (λ_=>U) rfl U) ?_;refine A0 (Wk.N7 (id:=5) (i:=Sh.len l9) (c:=(Cell.mk WB Xz Vl)) rfl gU U U) ?_;refine zq tb U ?_;refine Bu Ai RN U U U U U U (show 0+1<=2 by decide) rfl ?_;refine dn eZ U ?_;refine AG (by rfl) ?_;refine zm tb 2 U ?_;exact AD (xi (Sh.w ((Sh.w (Ud+2))+(Int.tmod Vz 4)),Vm,Yk,Sh.BX l10 Ud (Sh.len l9)) h1 (by refine Wk.trans (Ac (L:=[(1,.ptr 0 0 0 0),(2,.ptr 1 0 0 0),(4,.ptr 3 0 0 0),(5,ow 4 0 Vm),(6,i64 (Sh.w ((Sh.w (Ud+2))+(Int.tmod Vz 4))))]) (st':=[⟨0,27,2,[AS p0]⟩,⟨0,38,2,[[.zc,.mv (List.map (eM i64) ([]:List (Int×Int)))]]⟩,⟨0,36,1,[[.dv Uw 0 (List.map (eM i64) (Sh.BX l10 Ud (Sh.len l9)))]]⟩,⟨0,38,2,[[ow 5 1 Yk,.mp Uw]]⟩,ro 0 3 1 eI Vm,ro 1 54 3 (Ap 3) Yk]) (st1:=[⟨0,27,2,[AS p0]⟩,⟨0,38,2,[[.zc,.mv (List.map (eM i64) ([]:List (Int×Int)))]]⟩,⟨0,36,1,[[.dv Uw 0 (List.map (eM i64) (Sh.BX l10 Ud (Sh.len l9)))]]⟩,⟨0,38,2,[[ow 5 1 Yk,.mp Uw]]⟩,ro 0 3 1 eI Vm,ro 1 54 3 (Ap 3) Yk]) [0,1,2,3,4,5] U .nil (by decide) rfl U (.raw U U (.raw U U (.deep HY (.raw U U (.pure (AK λ_=>U) (.deep (Bi λ_=>U) .nil)))))) ⟨.rfl,.rfl,.rfl,.rfl,.rfl,Ru⟩) ?_;exact Ci (L:=[(1,.ptr 0 0 0 0),(2,.ptr 1 0 0 0),(4,.ptr 3 0 0 0),(5,ow 4 0 Vm),(6,i64 (Sh.w ((Sh.w (Ud+2))+(Int.tmod Vz 4))))]) (st':=[⟨0,27,2,[AS p0]⟩,⟨0,38,2,[[.zc,.mv (List.map (eM i64) ([]:List (Int×Int)))]]⟩,⟨0,36,1,[[.dv Uw 0 (List.map (eM i64) (Sh.BX l10 Ud (Sh.len l9)))]]⟩,⟨0,38,2,[[ow 5 0 Yk,.mp Uw]]⟩,ro 0 3 1 eI Vm,ro 0 54 3 (Ap 3) Yk]) (.raw U U (.raw U U (.deep HY (.raw U U (.pure (AK λ_=>U) (.deep (Bi λ_=>U) .nil)))))) ⟨.rfl,.rfl,.rfl,.rfl,.rfl,Ru⟩))
     refine zr tb U U ?_;refine ci h2 U ?_ ?_<;>clear h2
     ·intro jC h2;refine AG (by rfl) ?_;refine zq tb U ?_;refine zz (i64 (Sh.w (Int.tdiv Vz 4))) (I5 U U (by decide)) rfl ?_;refine zm tb 5 U ?_;obtain⟨cH,gl92,h2⟩:=Sh.bind_some h2;refine I6 (i:=Sh.w (Ud+2)) (j:=Sh.w ((Sh.w (Ud+2))+(Int.tmod Vz 4))) Ai Ak U U U (λ_=>U) gl92 ?_;obtain⟨Xy,gq93,h2⟩:=Sh.bind_some h2;refine Cd (v':=(ow 8 0 Xy)) Ai QQ (DY gq93) rfl U ⟨(By λ_=>U),Ru⟩ U U ?_;refine zq tb U ?_;refine Bu Ai Ha U U U U U U (show 1+1<=3 by decide) rfl ?_;refine zq tb U ?_;refine Bu Ai MU U U U U U U (show 2+1<=3 by decide) rfl ?_;exact AD (gT (Sh.w (Int.tdiv Vz 4)) Xy (Sh.AA h2).symm _ (by refine Wk.trans (Ci (L:=[(1,.ptr 0 0 0 0),(2,.ptr 1 0 0 0),(4,.ptr 3 0 0 0),(5,ow 4 0 Vm),(9,i64 (Sh.w ((Sh.w (Ud+2))+(Int.tmod Vz 4)))),(10,.ptr 7 0 0 0)]) (st':=[⟨0,27,2,[AS p0]⟩,⟨0,38,2,[[.zc,.mv (List.map (eM i64) ([]:List (Int×Int)))]]⟩,⟨0,36,1,[[.dv Uw 0 (List.map (eM i64) (Sh.BX l10 Ud (Sh.len l9)))]]⟩,⟨0,38,2,[[ow 5 0 l9,.mp Uw]]⟩,ro 0 3 1 eI Vm,ro 0 54 3 (Ap 3) l9,ro 0 3 1 eI [Ud],⟨0,54,3,[[i64 WB,i64 (Sh.w (Int.tdiv Vz 4)),ow 8 0 Xy]]⟩,ro 0 3 1 eI Xy]) (.raw U U (.raw U U (.deep HY (.raw U U (.pure (AK λ_=>U) (.deep (Bi λ_=>U) (.pure (AK λ_=>U) (.raw U U (.pure (AK λ_=>U) .nil))))))))) ⟨.rfl,.rfl,.rfl,.rfl,.rfl,.rfl,Ru⟩) ?_;exact Ac (L:=[(1,.ptr 0 0 0 0),(2,.ptr 1 0 0 0),(4,.ptr 3 0 0 0),(5,ow 4 0 Vm),(9,i64 (Sh.w ((Sh.w (Ud+2))+(Int.tmod Vz 4)))),(10,.ptr 6 0 0 0)]) (st':=[⟨0,27,2,[AS p0]⟩,⟨0,38,2,[[.zc,.mv (List.map (eM i64) ([]:List (Int×Int)))]]⟩,⟨0,36,1,[[.dv Uw 0 (List.map (eM i64) (Sh.BX l10 Ud (Sh.len l9)))]]⟩,⟨0,38,2,[[ow 5 0 l9,.mp Uw]]⟩,ro 0 3 1 eI Vm,ro 0 54 3 (Ap 3) l9,⟨0,54,3,[[i64 WB,i64 (Sh.w (Int.tdiv Vz 4)),ow 7 0 Xy]]⟩,ro 0 3 1 eI Xy]) (st1:=[⟨0,27,2,[AS p0]⟩,⟨0,38,2,[[.zc,.mv (List.map (eM i64) ([]:List (Int×Int)))]]⟩,⟨0,36,1,[[.dv Uw 0 (List.map (eM i64) (Sh.BX l10 Ud (Sh.len l9)))]]⟩,⟨0,38,2,[[ow 5 0 l9,.mp Uw]]⟩,ro 0 3 1 eI Vm,ro 0 54 3 (Ap 3) l9,⟨0,54,3,[[i64 WB,i64 (Sh.w (Int.tdiv Vz 4)),ow 8 0 Xy]]⟩,ro 0 3 1 eI Xy]) [0,1,2,3,4,5,7,8] U .nil (by decide) rfl U (.raw U U (.raw U U (.deep HY (.raw U U (.pure (AK λ_=>U) (.deep (Bi λ_=>U) (.raw U U (.pure (AK λ_=>U) .nil)))))))) ⟨.rfl,.rfl,.rfl,.rfl,.rfl,.rfl,Ru⟩))
     ·intro jC h2;refine sr U λgQ aJ=>?_;refine zm tb 5 U ?_;obtain⟨cI,gl95,h2⟩:=Sh.bind_some h2;refine I6 (i:=Sh.w (Ud+2)) (j:=Sh.w ((Sh.w (Ud+2))+(Int.tmod Vz 4))) Ai Ak U U U (λ_=>U) gl95 ?_;obtain⟨aY,gq96,h2⟩:=Sh.bind_some h2;refine zc Ra (IW gq96) rfl U U ?_;refine zq tb U ?_;refine dn aJ U ?_;refine ci h2 U ?_ ?_<;>clear h2
      ·intro ec h2;have kM:aY=false:=by simpa using ec
       refine sr U λkN ee=>?_;refine A0 (Fm (L:=[(2,.ptr 1 0 0 0),(4,.ptr 3 0 0 0)]) (st':=[⟨0,27,2,[AS p0]⟩,⟨0,38,2,[[.zc,.mv (List.map (eM i64) ([]:List (Int×Int)))]]⟩,⟨1,36,1,[]⟩,⟨0,38,2,[[ow 5 0 l9,.mv (List.map (eM i64) (Sh.BX l10 Ud (Sh.len l9)))]]⟩,ro 1 3 1 eI Vm,ro 0 54 3 (Ap 3) l9,ro 0 3 1 eI [Ud],⟨0,54,3,[[i64 WB,i64 0,.zc]]⟩]) (id:=2) (b:=Uw) (D:=List.map (eM i64) (Sh.BX l10 Ud (Sh.len l9))) rfl UB ⟨.rfl,.rfl,Ru⟩ (.raw U (.raw U (.pure (by intro x hx;cases hx) (.raw (by simp[Ft]) (.pure (AK λ_=>U) (.deep (Bi λ_=>U) (.pure (AK λ_=>U) (.raw U .nil))))))))) ?_;refine zq tb U ?_;refine Bu Ai E6 U U U U U U UA rfl ?_;refine zq tb U ?_;refine dn ee U ?_;replace h2:=Sh.AA h2;subst eY;try dsimp only[id]at h1
       replace h1:=Sh.AA h1;subst aZ;try dsimp only[id]at h0
       replace h0:=Sh.AA h0;subst r;exact AM (Exists.intro _ (And.intro ((((AR (L:=[(2,.ptr 1 0 0 0),(3,.bool false)]) ⟨.rfl,.rfl,Ru⟩).trans (DL (id:=1) (m:=5) (j:=0) (enc':=AI) (st':=[⟨0,27,2,[AS p0]⟩,⟨0,38,2,[[ls AI l9,.mv (List.map (eM i64) (Sh.BX l10 Ud (Sh.len l9)))]]⟩,⟨1,36,1,[]⟩,⟨0,38,2,[[ow 5 0 l9,.mv (List.map (eM i64) (Sh.BX l10 Ud (Sh.len l9)))]]⟩,ro 1 3 1 eI Vm,⟨1,54,3,[]⟩,ro 0 3 1 eI [Ud],⟨0,54,3,[[i64 WB,i64 0,.zc]]⟩]) rfl U U U (by decide) UF (λ_=>U) (λx=>Cn x) rfl)).trans (Ac (L:=[(2,.ptr 0 0 0 0),(3,.bool false)]) (st':=[⟨0,38,2,[[ls AI l9,.mv (List.map (eM i64) (Sh.BX l10 Ud (Sh.len l9)))]]⟩]) (st1:=[⟨0,38,2,[[ls AI l9,.mv (List.map (eM i64) (Sh.BX l10 Ud (Sh.len l9)))]]⟩]) [1] U .nil (by decide) rfl U (.raw U U .nil) ⟨.rfl,.rfl,Ru⟩)).trans (AR (L:=[(2,.ptr 0 0 0 0),(3,.bool false)]) ⟨.rfl,.rfl,Ru⟩)) (EH (x:=.tmp 2) (off:=0) (cs:=[ls AI l9,.mv (List.map (eM i64) (Sh.BX l10 Ud (Sh.len l9)))]) (vs:=[ls AI l9,.mv (List.map (eM i64) (Sh.BX l10 Ud (Sh.len l9)))]) E6 U U U UA rfl _ U)))
      ·intro ec h2;have Y6:aY=true:=by simpa using ec
       exact AJ (gT 0 [] (Sh.AA h2).symm _ (by refine Wk.trans (Hf (id:=7) (st':=[⟨0,27,2,[AS p0]⟩,⟨0,38,2,[[.zc,.mv (List.map (eM i64) ([]:List (Int×Int)))]]⟩,⟨0,36,1,[[.dv Uw 0 (List.map (eM i64) (Sh.BX l10 Ud (Sh.len l9)))]]⟩,⟨0,38,2,[[ow 5 0 l9,.mp Uw]]⟩,ro 1 3 1 eI Vm,ro 0 54 3 (Ap 3) l9,ro 0 3 1 eI [Ud],⟨0,54,3,[[i64 WB,i64 0,.own 8 0 (List.length ([]:List Int))]]⟩,ro 0 3 1 eI ([]:List Int)]) (j:=2) rfl U 3 (size':=1) (by decide) rfl U U U) ?_;refine Wk.trans (Ci (L:=[(1,.ptr 0 0 0 0),(2,.ptr 1 0 0 0),(4,.ptr 3 0 0 0),(5,ow 4 0 Vm),(9,i64 (Sh.w ((Sh.w (Ud+2))+(Int.tmod Vz 4)))),(10,.ptr 7 0 0 0)]) (st':=[⟨0,27,2,[AS p0]⟩,⟨0,38,2,[[.zc,.mv (List.map (eM i64) ([]:List (Int×Int)))]]⟩,⟨0,36,1,[[.dv Uw 0 (List.map (eM i64) (Sh.BX l10 Ud (Sh.len l9)))]]⟩,⟨0,38,2,[[ow 5 0 l9,.mp Uw]]⟩,ro 0 3 1 eI Vm,ro 0 54 3 (Ap 3) l9,ro 0 3 1 eI [Ud],⟨0,54,3,[[i64 WB,i64 0,.own 8 0 (List.length ([]:List Int))]]⟩,ro 0 3 1 eI ([]:List Int)]) (.raw U U (.raw U U (.deep HY (.raw U U (.pure (AK λ_=>U) (.deep (Bi λ_=>U) (.pure (AK λ_=>U) (.raw U U (.pure (AK λ_=>U) .nil))))))))) ⟨.rfl,.rfl,.rfl,.rfl,.rfl,.rfl,Ru⟩) ?_;exact Ac (L:=[(1,.ptr 0 0 0 0),(2,.ptr 1 0 0 0),(4,.ptr 3 0 0 0),(5,ow 4 0 Vm),(9,i64 (Sh.w ((Sh.w (Ud+2))+(Int.tmod Vz 4)))),(10,.ptr 6 0 0 0)]) (st':=[⟨0,27,2,[AS p0]⟩,⟨0,38,2,[[.zc,.mv (List.map (eM i64) ([]:List (Int×Int)))]]⟩,⟨0,36,1,[[.dv Uw 0 (List.map (eM i64) (Sh.BX l10 Ud (Sh.len l9)))]]⟩,⟨0,38,2,[[ow 5 0 l9,.mp Uw]]⟩,ro 0 3 1 eI Vm,ro 0 54 3 (Ap 3) l9,⟨0,54,3,[[i64 WB,i64 0,.own 7 0 (List.length ([]:List Int))]]⟩,ro 0 3 1 eI ([]:List Int)]) (st1:=[⟨0,27,2,[AS p0]⟩,⟨0,38,2,[[.zc,.mv (List.map (eM i64) ([]:List (Int×Int)))]]⟩,⟨0,36,1,[[.dv Uw 0 (List.map (eM i64) (Sh.BX l10 Ud (Sh.len l9)))]]⟩,⟨0,38,2,[[ow 5 0 l9,.mp Uw]]⟩,ro 0 3 1 eI Vm,ro 0 54 3 (Ap 3) l9,⟨0,54,3,[[i64 WB,i64 0,.own 8 0 (List.length ([]:List Int))]]⟩,ro 0 3 1 eI ([]:List Int)]) [0,1,2,3,4,5,7,8] U .nil (by decide) rfl U (.raw U U (.raw U U (.deep HY (.raw U U (.pure (AK λ_=>U) (.deep (Bi λ_=>U) (.raw U U (.pure (AK λ_=>U) .nil)))))))) ⟨.rfl,.rfl,.rfl,.rfl,.rfl,.rfl,Ru⟩))
  refine AG (by rfl) ?_;refine zm tb 2 U ?_;refine zl tb U U ?_;refine zm tb 4 U ?_;rcases Sh.Aa h2 with ⟨WC,h2⟩|⟨WC,h2⟩
  ·refine zs WC U ?_;iterate 5 refine zs WC rfl ?_
   refine zt WC U ?_;refine zq tb U ?_;iterate 7 refine zs rfl rfl ?_
   refine zt U U ?_;exact AD (eQ true (Sh.AA h2).symm _ (AE U))
  ·refine zg tb WC U ?_;iterate 2 refine zg tb WC rfl ?_
   obtain⟨YM,gc102,h2⟩:=Sh.bind_some h2;refine BZ (v:=(.A4 (eI YM) 0)) (B8 U U WC) rfl (Bt Ak U U gc102 U) ?_;iterate 2 refine zg tb WC rfl ?_
   refine zf WC U ?_;refine zq tb U ?_;rcases Sh.Aa h2 with ⟨WD,h2⟩|⟨WD,h2⟩
   ·refine zs WD U ?_;iterate 6 refine zs WD rfl ?_
    refine zt WD U ?_;exact AD (eQ true (Sh.AA h2).symm _ (AE U))
   ·refine zg tb WD U ?_;iterate 3 refine zg tb WD rfl ?_
    obtain⟨Xl,gc104,h2⟩:=Sh.bind_some h2;refine BZ (v:=(.A4 (eI Xl) 0)) (B8 U U WD) rfl (Bt Ak U U gc104 U) ?_;iterate 2 refine zg tb WD rfl ?_
    refine zf WD U ?_;exact AD (eQ (decide (Xl<0)) (Sh.AA h2).symm _ (AE U))
 ·intro ix h1;exact Ah (im l8 l9 l10 (Sh.AA h1).symm _ (AE U))
theorem Is {N:Nat}{p0:Aj}{p1 r:Int}(h0:Dx N p0 p1=some r):AY Try.prog 11 [.agg (AS p0),i64 p1] [] (λv st=>v=(i64 r)/\st=[]):=by
 unfold Dx at h0;refine ai Try.func11 U U U U ?_;refine sr U λK1 VQ=>?_;refine Ca (m:=0) Ai U U U U U ?_;refine zq tb U ?_;refine dn VQ U ?_;refine sr U λK2 UQ=>?_;refine zq tb U ?_;obtain⟨q3,gq3,h0⟩:=Sh.bind_some h0;refine zc (v':=(.BB [.agg [ls AI q3.1.cells,.mv (List.map (eM i64) q3.1.index)],.bool q3.2])) Q4 (Gz gq3) rfl U U ?_;refine zm tb 3 U ?_;refine Ch (m:=1) Ai Nv U U ?_;refine Bu Ai E6 U U U U U U UA rfl ?_;refine zq tb U ?_;refine dn UQ U ?_;refine AB λK4 WT=>?_;refine zr tb U U ?_;refine ci h0 U ?_ ?_<;>clear h0
 ·intro b6 h0;have b7:q3.2=false:=by simpa using b6
  refine zr tb U U ?_;replace h0:=Sh.AA h0;subst r;exact AM (xr (Ag [(4,i64 (-1))] U))
 ·intro b6 h0;have b9:q3.2=true:=by simpa using b6
  refine AJ (WT _ ?_);refine sr U λWq Ub=>?_;refine zm tb 2 U ?_;obtain⟨U9,gq11,h0⟩:=Sh.bind_some h0;refine zc (v':=(.BB [i64 U9.1,.bool U9.2])) QN (CX gq11) rfl U U ?_;refine zm tb 5 U ?_;refine dn Ub U ?_;refine AB λZ0 VD=>?_;refine zr tb U U ?_;refine ci h0 U ?_ ?_<;>clear h0
  ·intro Ve h0;have Z5:U9.2=false:=by simpa using Ve
   refine zr tb U U ?_;replace h0:=Sh.AA h0;subst r;exact AM (xr (Ag [(4,i64 (-1))] U))
  ·intro Ve h0;have XT:U9.2=true:=by simpa using Ve
   refine AJ (VD _ ?_);refine zr tb U U ?_;replace h0:=Sh.AA h0;subst r;exact AM (xr (Ag [(4,i64 U9.1)] U))
theorem F8 {N:Nat}{p0:(List Int)}{p1:(List Int)}{r:Bool}(h0:DK N p0 p1=some r):AY Try.prog 16 [ls eI p0,ls eI p1] [] (λv st=>v=(.bool r)/\st=[]):=by
 unfold DK at h0;refine ai Try.func16 U U U U ?_;refine zr tb U U ?_;refine AB λK2 UQ=>?_;refine sr U λK3 Uv=>?_;refine zq tb U ?_;refine zl tb U U ?_;refine zq tb U ?_;refine zl tb U U ?_;refine zq tb U ?_;refine dn Uv U ?_;refine ci h0 U ?_ ?_<;>clear h0
 ·intro b4 h0;have b5:decide ((Sh.len p0)=(Sh.len p1))=false:=by simpa using b4
  refine zr tb U U ?_;replace h0:=Sh.AA h0;subst r;exact AM (xr (AR (L:=[(4,.bool false)]) ⟨.rfl,Ru⟩))
 ·intro b4 h0;have b7:decide ((Sh.len p0)=(Sh.len p1))=true:=by simpa using b4
  refine AJ (UQ _ ?_);refine AB λK8 Vb=>?_;refine zr tb U U ?_;obtain⟨Wu,h1,h0⟩:=Sh.An h0;have YS:∀(_:Unit),Wu=Sum.inr ()->∀s,Wk 0 s ⟨26,AX [],[]⟩->K8 s:=by
   intro _ hq s hw;subst Wu;try dsimp only at h0
   refine Vb _ (AH hw ?_);refine zr tb U U ?_;replace h0:=Sh.AA h0;subst r;exact AM (xr (AR (L:=[(4,.bool true)]) ⟨.rfl,Ru⟩))
  refine AN (Ae (σ:=Int) (λn v=>Bb p0 p1 n v=some Wu) (λi10=>⟨26,AX [(0,ls eI p0),(1,ls eI p1),(5,i64 i10)],[]⟩) N 0 h1 (AE U) (λ_ hv=>by rw[Bb]at hv;cases hv) ?_);rintro n i10 h1;try dsimp only at h1⊢
  rw[Bb]at h1;refine AB λY1 Vc=>?_;refine sr U λX1 VE=>?_;refine zm tb 2 U ?_;refine zl tb U U ?_;refine zq tb U ?_;refine dn VE U ?_;refine ci h1 U ?_ ?_<;>clear h1
  ·intro Z5 h1;refine AJ (Vc _ ?_);refine AB λZP Vd=>?_;refine AN ?_;refine AB λiM Z8=>?_;refine D6 (by kernel_rfl) (by kernel_rfl) (by rfl) ?_;iterate 2 refine yq tb rfl ?_
   obtain⟨cD,gc18,h1⟩:=Sh.bind_some h1;refine yx Ak gc18 U U U ?_;iterate 3 refine yq tb rfl ?_
   obtain⟨Yx,gc19,h1⟩:=Sh.bind_some h1;refine yx Ak gc19 U U U ?_;iterate 2 refine yq tb rfl ?_
   refine DA (Z8 _ ?_);refine ci h1 U ?_ ?_<;>clear h1
   ·intro ef h1;have cT:decide (cD=Yx)=false:=by simpa using ef
    refine zr tb U U ?_;replace h1:=Sh.AA h1;subst Wu;try dsimp only[id]at h0
    replace h0:=Sh.AA h0;subst r;exact AM (xr (AR (L:=[(4,.bool false)]) ⟨.rfl,Ru⟩))
   ·intro ef h1;have Xq:decide (cD=Yx)=true:=by simpa using ef
    refine AJ (Vd _ ?_);refine AG (by rfl) ?_;refine zm tb 3 U ?_;exact AD (xi (Sh.w (i10+1)) h1 (AE U))
  ·intro Z5 h1;exact Ah (YS () (Sh.AA h1).symm _ (AE U))
theorem Hm {N:Nat}{p0 p1:Aj}{r:Bool}(h0:DF N p0 p1=some r):AY Try.prog 9 [.agg (AS p0),.agg (AS p1)] [] (λv st=>v=(.bool r)/\st=[]):=by
 unfold DF at h0;refine ai Try.func9 U U U U ?_;refine sr U λK1 VQ=>?_;refine Ca (m:=0) Ai U U U U U ?_;refine Ca (m:=1) Ai U U U U U ?_;refine zq tb U ?_;refine dn VQ U ?_;refine AB λK2 UQ=>?_;refine sr U λK3 Uv=>?_;refine zm tb 4 U ?_;obtain⟨q4,gq4,h0⟩:=Sh.bind_some h0;refine zc QF (F8 gq4) rfl U U ?_;refine zq tb U ?_;refine dn Uv U ?_;refine ci h0 U ?_ ?_<;>clear h0
 ·intro b5 h0;have b6:q4=false:=by simpa using b5
  refine zr tb U U ?_;replace h0:=Sh.AA h0;subst r;exact AM (xr (Ag [(4,.bool false)] U))
 ·intro b5 h0;have b8:q4=true:=by simpa using b5
  refine AJ (UQ _ ?_);refine AB λK9 YP=>?_;refine sr U λWq Ub=>?_;refine zm tb 4 U ?_;obtain⟨U9,gq11,h0⟩:=Sh.bind_some h0;refine zc QF (F8 gq11) rfl U U ?_;refine zq tb U ?_;refine dn Ub U ?_;refine ci h0 U ?_ ?_<;>clear h0
  ·intro Vn h0;have Vo:U9=false:=by simpa using Vn
   refine zr tb U U ?_;replace h0:=Sh.AA h0;subst r;exact AM (xr (Ag [(4,.bool false)] U))
  ·intro Vn h0;have Z5:U9=true:=by simpa using Vn
   refine AJ (YP _ ?_);refine zr tb U U ?_;replace h0:=Sh.AA h0;subst r;exact AM (xr (Ag [(4,.bool true)] U))
theorem Fw {N:Nat}{p0:Aj}{p1:Int}{r:Bool}(h0:Cb N p0 p1=some r):AY Try.prog 4 [.agg (AS p0),i64 p1] [] (λv st=>v=(.bool r)/\st=[]):=by
 unfold Cb at h0;refine ai Try.func4 U U U U ?_;refine sr U λK1 VQ=>?_;refine Ca (m:=0) Ai U U U U U ?_;refine zq tb U ?_;refine dn VQ U ?_;refine zr tb U U ?_;refine sr U λK3 Uv=>?_;refine zm tb 2 U ?_;obtain⟨q4,gq4,h0⟩:=Sh.bind_some h0;refine zc Rn (Hr gq4) rfl U U ?_;refine zq tb U ?_;refine dn Uv U ?_;refine AB λK5 Xn=>?_;refine zr tb U U ?_;refine ci h0 U ?_ ?_<;>clear h0
 ·intro b7 h0;refine zr tb U U ?_;replace h0:=Sh.AA h0;subst r;exact AM (xr (Ag [(4,.bool true)] U))
 ·intro b7 h0;refine AJ (Xn _ ?_);refine sr U λK9 YP=>?_;refine zq tb U ?_;obtain⟨XQ,gq10,h0⟩:=Sh.bind_some h0;refine Cd (v':=(.agg [ow 1 0 XQ.words,ow 2 0 XQ.free])) Ai Qo (Dt gq10) rfl U ⟨(By λ_=>U),⟨(By λ_=>U),Ru⟩⟩ U U ?_;refine zq tb U ?_;refine A0 (Wk.DT (L:=[(1,i64 p1),(2,.ptr 0 0 0 0),(15,.agg [ls eI XQ.words,ow 2 0 XQ.free]),(16,i64 p1)]) (st':=[⟨0,24,2,[AS p0]⟩,⟨1,3,1,[]⟩,ro 0 3 1 eI XQ.free]) (id:=1) rfl UD (AK λ_=>U) ⟨.rfl,.rfl,.agg ⟨.Dk U,.rfl,Ru⟩,.rfl,Ru⟩ U) ?_;refine A0 (Wk.DT (L:=[(1,i64 p1),(2,.ptr 0 0 0 0),(15,.agg (AS XQ)),(16,i64 p1)]) (st':=[⟨0,24,2,[AS p0]⟩,⟨1,3,1,[]⟩,⟨1,3,1,[]⟩]) (id:=2) rfl UB (AK λ_=>U) ⟨.rfl,.rfl,.agg ⟨.rfl,.Dk U,Ru⟩,.rfl,Ru⟩ U) ?_;obtain⟨U9,gq11,h0⟩:=Sh.bind_some h0;refine zc RJ (Iv gq11) rfl U U ?_;refine zq tb U ?_;refine dn YP U ?_;refine sr U λZ0 VD=>?_;refine zq tb U ?_;obtain⟨V8,gq13,h0⟩:=Sh.bind_some h0;refine Cd (v':=(.agg [ow 3 0 V8.words,ow 4 0 V8.free])) Ai Qo (Dt gq13) rfl U ⟨(By λ_=>U),⟨(By λ_=>U),Ru⟩⟩ U U ?_;refine Ch (m:=5) Ai PS U U ?_;refine A0 (Wk.DT (L:=[(1,i64 p1),(2,.ptr 0 0 0 0),(6,i64 U9),(7,.ptr 5 0 0 0),(19,.agg [ls eI V8.words,ow 4 0 V8.free])]) (st':=[⟨0,24,2,[AS p0]⟩,⟨1,3,1,[]⟩,⟨1,3,1,[]⟩,⟨1,3,1,[]⟩,ro 0 3 1 eI V8.free,⟨0,27,2,[[.zc,.zc]]⟩]) (id:=3) rfl UG (AK λ_=>U) ⟨.rfl,.rfl,.rfl,.rfl,.agg ⟨.Dk U,.rfl,Ru⟩,Ru⟩ U) ?_;refine A0 (Wk.DT (L:=[(1,i64 p1),(2,.ptr 0 0 0 0),(6,i64 U9),(7,.ptr 5 0 0 0),(19,.agg (AS V8))]) (st':=[⟨0,24,2,[AS p0]⟩,⟨1,3,1,[]⟩,⟨1,3,1,[]⟩,⟨1,3,1,[]⟩,⟨1,3,1,[]⟩,⟨0,27,2,[[.zc,.zc]]⟩]) (id:=4) rfl (show 0<=4 by decide) (AK λ_=>U) ⟨.rfl,.rfl,.rfl,.rfl,.agg ⟨.rfl,.Dk U,Ru⟩,Ru⟩ U) ?_;refine Bu Ai Oi U U U U U U UA rfl ?_;refine dn VD U ?_;refine sr U λX1 VE=>?_;refine zm tb 2 U ?_;obtain⟨Zp,gq15,h0⟩:=Sh.bind_some h0;refine zc Qv (Is gq15) rfl U U ?_;refine zq tb U ?_;refine dn VE U ?_;refine AB λZP Vd=>?_;refine zr tb U U ?_;refine ci h0 U ?_ ?_<;>clear h0
  ·intro WZ h0;have dd:decide (Zp=U9)=false:=by simpa using WZ
   refine zr tb U U ?_;replace h0:=Sh.AA h0;subst r;exact AM (xr (Ag [(4,.bool false)] U))
  ·intro WZ h0;have cT:decide (Zp=U9)=true:=by simpa using WZ
   refine AJ (Vd _ ?_);refine AB λbR WV=>?_;refine AB λcQ Wa=>?_;refine D6 (by kernel_rfl) (by kernel_rfl) (by rfl) ?_;iterate 2 refine yq tb rfl ?_
   obtain⟨XR,gq24,h0⟩:=Sh.bind_some h0;refine Gn (v:=(.agg (AS XR))) Ai Qo (AY.wk (Dt gq24) (by refine Wk.trans (Wk.DT (L:=[(0,.agg [ls eI XR.words,ow 1 0 XR.free])]) (st':=[⟨1,3,1,[]⟩,ro 0 3 1 eI XR.free]) (id:=0) rfl (show 0<=0 by decide) (AK λ_=>U) ⟨.agg ⟨.Dk U,.rfl,Ru⟩,Ru⟩ U) ?_;refine Wk.trans (Wk.DT (L:=[(0,.agg (AS XR))]) (st':=[⟨1,3,1,[]⟩,⟨1,3,1,[]⟩]) (id:=1) rfl UD (AK λ_=>U) ⟨.agg ⟨.rfl,.Dk U,Ru⟩,Ru⟩ U) ?_;refine Wk.trans (Ac (L:=[(0,.agg (AS XR))]) (st':=[]) (st1:=[]) [] U .nil (by decide) rfl U .nil ⟨.rfl,Ru⟩) ?_;exact AR (L:=[(0,.agg (AS XR))]) ⟨.rfl,Ru⟩)) rfl U U ?_;obtain⟨Yz,gq25,h0⟩:=Sh.bind_some h0;refine Gn (v:=(.bool Yz)) Ai Rl (Hm gq25) rfl U U ?_;refine yq tb U ?_;refine DA (Wa _ ?_);refine ci h0 U ?_ ?_<;>clear h0
   ·intro Wr h0;have cN:Yz=false:=by simpa using Wr
    refine zr tb U U ?_;replace h0:=Sh.AA h0;subst r;exact AM (xr (Ag [(4,.bool false)] U))
   ·intro Wr h0;have kO:Yz=true:=by simpa using Wr
    refine AJ (WV _ ?_);refine zr tb U U ?_;replace h0:=Sh.AA h0;subst r;exact AM (xr (Ag [(4,.bool true)] U))
end Go.Proofs.Ytfkncfjpobjbjaa
