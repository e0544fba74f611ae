import Derived.Test.YtccficmcdkcpnaaGreatCNWalkP3
set_option linter.all false
namespace Go.Proofs.YtccficmcdkcpnaaGreat
open Go Go.Abs RC
attribute [local irreducible] Go.Abs.DX
set_option maxRecDepth 100000
set_option maxHeartbeats 4000000
theorem TK {p0:Int}{r:Bool}(h0:Iz p0=some r):BH 95 [i64 p0] [] (.bool r) []:=by
 unfold Iz at h0;refine Bb Tryz.func95 AA (AS AA (AB λi g=>bs h0 λh a h0=>?_));have e:∀{f},JJ h f ⟨17,AJ [(2,.bool f)],[]⟩ i:=by
  rintro _ ⟨⟩ s j;try dsimp only at h0
  refine g _ (AH j ?_);obtain rfl:=Sh.Av h0;exact rt [(2,.bool h)]
 refine AE AA (AM 3 AA ?_);rcases Sh.Aa a with ⟨b,a⟩|⟨b,a⟩
 ·exact zs b AA (zs b AA (zt b AA (AK AA (zs AA AA (zs AA AA (zt AA AA (AK AA (zs AA AA (zs AA AA (zt AA AA (AK AA (AD (e a Ag)))))))))))))
 ·refine Aj b AA (Aj b AA (zf b AA (AK AA ?_)));rcases Sh.Aa a with ⟨c,a⟩|⟨c,a⟩
  ·exact zs c AA (zs c AA (zt c AA (AK AA (zs AA AA (zs AA AA (zt AA AA (AK AA (AD (e a Ag)))))))))
  ·refine Aj c AA (Aj c AA (zf c AA (AK AA ?_)));rcases Sh.Aa a with ⟨d,a⟩|⟨d,a⟩
   ·exact zs d AA (zs d AA (zt d AA (AK AA (AD (e a Ag)))))
   ·exact Aj d AA (Aj d AA (zf d AA (AK AA (AD (e a Ag)))))
theorem Pu {N:Nat}{s0:(List Int)}{p0:Ap}{p2:Step}{r:(List Int)×(List Int)}(h0:Gn N s0 p0 p2=some r):BH 116 [NY p0,ow 0 0 s0,Hu p2] [As s0] (.CW [ow 1 0 r.1,ls eI r.2]) (YF s0 r.1):=by
 unfold Gn at h0;refine Bb Tryz.func116 AA (Ab λK1 Q=>CY 1 AA (CY 2 AA (AM 2 AA (AR Q (AB λK2 R=>Ab λK3 S=>AM 2 AA (bs h0 λq4 T h0=>CR (hb 95) (TK T) rfl (AK AA (AR S ?_))))))));refine An h0 ?_ ?_<;>intro b5 h0
 ·have b6:q4=false:=by simpa using b5
  refine AS AA ?_;cases h0;exact BP (Exists.intro ⟨53,AJ [(6,rI),(7,SY)],[As s0,iI]⟩ (And.intro (by refine Wk.trans ((ER (t:=6) rfl 3 (size:=1) (by decide)).trans (DY [(6,.own 3 0 (List.length ([]:List Int))),(7,.zc)] ⟨.rfl,.rfl,uM⟩)) ?_;refine Wk.trans (Bf (L:=[(6,rI),(7,.zc)]) (st':=[As s0,iI]) [0,3] (.p (.p .nil)) ⟨.rfl,.rfl,uM⟩) ?_;exact DY [(6,rI),(7,SY)] ⟨.rfl,.zc,uM⟩) (And.intro AA AA)))
 ·have b8:q4=true:=by simpa using b5
  refine AG (R _ (AB λK9 U=>Ab λb2 y=>AM 2 AA (Bd AA (AK AA (AR y (bs h0 λp h h0=>?_))))));have V:∀b i,p=(b,i)->∀s,Wk 1 s ⟨53,AJ [(6,ow 1 0 i),(7,HQ b)],YF s0 i⟩->K9 s:=by
   rintro b i rfl s z;refine U _ (AH z (AS AA ?_));cases h0;exact rt [(6,ow 1 0 i),(7,HQ b)]
  refine AI (Vl (Cy N s0 p0 p2) (λa d g=>⟨53,AJ [(1,ow 0 0 s0),(3,.ptr 1 0 0 0),(5,.ptr 2 0 0 0),(6,ow 3 0 g),(7,ls eI a),(15,ls eI p2.args),(16,i64 (Sh.len p2.args)),(17,i64 d)],[ro 0 3 1 eI s0,⟨0,65,2,[Cp p0]⟩,pX p2.op p2.num p2.BF p2.args p2.kids,ro 0 3 1 eI g]⟩) N [] 0 [] h (by refine Wk.trans ((ER (t:=6) rfl 3 (size:=1) (by decide)).trans (DY [(1,ow 0 0 s0),(3,.ptr 1 0 0 0),(5,.ptr 2 0 0 0),(6,.own 3 0 (List.length ([]:List Int))),(7,.zc),(15,ls eI p2.args),(16,i64 (Sh.len p2.args)),(17,i64 0)] (.same AA))) ?_;exact DY [(1,ow 0 0 s0),(3,.ptr 1 0 0 0),(5,.ptr 2 0 0 0),(6,.own 3 0 (List.length ([]:List Int))),(7,.sl (List.map eI [])),(15,ls eI p2.args),(16,i64 (Sh.len p2.args)),(17,i64 0)] ⟨.rfl,.rfl,.rfl,.rfl,.zc,.rfl,.rfl,.rfl,uM⟩) ?_);intro n a d g h;rw[Cy]at h;refine AS AA (AB λb3 A=>?_);refine An h ?_ ?_<;>intro b4 h
  ·refine AG (A _ (AB λW B=>bs h λC f h=>?_));have q:∀c j,C=(c,j)->∀s,Wk 1 s ⟨53,AJ [(1,ow 0 0 s0),(3,HI),(5,E4),(6,ow 3 0 j),(7,HQ c),(15,ls eI p2.args),(16,i64 (Sh.len p2.args)),(17,i64 d)],[As s0,UH p0,pX p2.op p2.num p2.BF p2.args p2.kids,As j]⟩->W s:=by
    rintro c j rfl s z;exact B _ (AH z (AE AA (AM 2 AA (AD (xi (c,Sh.w (d+1),j) h Ag)))))
   refine AI (Ab λb7 D=>AK AA (bs f λE F f=>DI Ay F AA (AM 3 AA (AR D (AI (Ab λb9 G=>AM 2 AA (bs f λX o f=>zz (Vk E) (Ls Ay AA o) rfl (zz (i64 X) (De JR AA AA (Ef o) rfl) rfl (AM 2 AA (AR G ?_))))))))));refine An f ?_ ?_<;>intro c0 f
   ·exact AG (q a g (Bm f) _ Ag)
   ·refine AB λY H=>bs f λI k f=>?_;have J:∀u,I=u->∀s,Wk 1 s ⟨53,AJ [(1,ow 0 0 s0),(3,HI),(5,E4),(6,ow 3 0 g),(7,HQ a),(8,i64 d),(9,i64 E),(15,ls eI p2.args),(16,i64 (Sh.len p2.args)),(17,i64 d),(32,.bool u)],[As s0,UH p0,pX p2.op p2.num p2.BF p2.args p2.kids,As g]⟩->Y s:=by
     intro u hq s z;subst I;refine H _ (AH z ?_);refine An f ?_ ?_<;>intro c1 f
     ·exact AE AA (AM 2 AA (bs f λZ K f=>CR (hb 43) (Hj K) rfl (AK AA (AD (q Z g (Bm f) _ Ag)))))
     ·refine AE AA (AM 2 AA (D9 4 [d] eI Ay AA (bs f λx M f=>KA [d] Ay AA (GY AA AA) M (AK AA ?_))));exact AD (q a x (Bm f) _ (by refine Wk.trans (EO (L:=[(1,ow 0 0 s0),(3,HI),(5,E4),(6,ow 3 0 x),(7,HQ a),(15,ls eI p2.args),(16,i64 (Sh.len p2.args)),(17,i64 d)]) (st':=[As s0,UH p0,pX p2.op p2.num p2.BF p2.args p2.kids,As x,Ml d]) (.pure AA BB (.raw AA AA AA (.raw AA AA AA (.pure AA BB (.pure AA BB .nil))))) (.same AA)) ?_;exact Bf [0,1,2,3] (.p (.w (.w (.p .nil)))) (.same AA)))
    refine AE AA (AM 4 AA ?_);rcases Sh.Aa k with ⟨e,k⟩|⟨e,k⟩
    ·refine Aj e AA ?_;iterate 3 refine Aj e rfl ?_
     refine bs k λb0 O k=>CP (.Bj (BI b0) 0) e (Hl WD AA O) ?_;iterate 3 refine Aj e rfl ?_
     exact bs k λb1 P k=>Iy e (H9 P) rfl (zt e AA (AK AA (AD (J b1 (Bm k) _ Ag))))
    ·refine zs e AA ?_;iterate 8 refine zs e rfl ?_
     exact zf e AA (AK AA (AD (J false (Bm k) _ Ag)))
  ·exact Af (V a g (Bm h) _ (Bf [0,3] (.p (.p .nil)) (.same AA)))
theorem Pv {zR p0:Int}{r:Bool}(h0:IB zR p0=some r):BH 265 [i64 p0,Ax] [SX zR] (.bool r) [SX zR]:=by
 unfold IB at h0;refine Bb Tryz.func265 AA ?_;iterate 2 refine AS rfl ?_
 cases h0;exact rt [(3,.bool (!decide (p0=zR)))]
theorem RS {N:Nat}{zR:Int}{p0:(List Int)}{r:(List Int)}(h0:I3 N zR p0=some r):BH 46 [ls eI p0,.fn 265 [Ax]] [SX zR] (ow 1 0 r) [SX zR,As r]:=by
 unfold I3 at h0;refine Bb Tryz.func46 AA ?_;iterate 2 refine AS rfl ?_
 refine AB λG z=>Ab λQ A=>AK AA (Bd AA (AK AA (AR A (bs h0 λB a h0=>?_))));have H:∀g,B=g->∀s,Wk 1 s ⟨23,AJ [(5,ow 1 0 g)],[SX zR,As g]⟩->G s:=by
  intro g I s C;subst B;try dsimp only at h0
  refine z _ (AH C (AS AA ?_));obtain rfl:=Sh.Av h0;exact rt [(4,ow 1 0 g)]
 refine AI (Fh (ED zR p0) (λh f=>⟨23,AJ [(1,.fn 265 [.ptr 0 0 0 0]),(5,ow 1 0 f),(8,ls eI p0),(9,i64 (Sh.len p0)),(10,i64 h)],[SX zR,ro 0 3 1 eI f]⟩) N 0 [] a ((ER (t:=5) rfl 3 (size:=1) (by decide)).trans (DY [(1,.fn 265 [.ptr 0 0 0 0]),(5,.own 1 0 (List.length ([]:List Int))),(8,ls eI p0),(9,i64 (Sh.len p0)),(10,i64 0)] (.same AA))) ?_);intro n h f a;rw[ED]at a;refine AS AA (AB λJ i=>?_);refine An a ?_ ?_<;>intro K a
 ·refine AG (i _ (AB λD j=>bs a λk b a=>?_));have o:∀c,k=c->∀s,Wk 1 s ⟨23,AJ ((1,.fn 265 [Ax])::(5,ow 1 0 c)::mW p0 h []),[SX zR,As c]⟩->D s:=by
   intro c I s C;subst k;exact j _ (AH C (AE AA (AM 2 AA (AD (xi (Sh.w (h+1),c) a Ag)))))
  refine AI (Ab λM p=>bs b λd q b=>DI Na q AA (AM 2 AA (AR p (Ab λO u=>AM 2 AA (bs b λE x b=>Ib (rowsP:=[SX zR]) (rows0:=[SX zR]) (rows1:=[SX zR]) (rows2:=[]) (rows1':=[SX zR]) (rows2':=[]) (st':=[SX zR,As f]) (v':=(.bool E)) [0] BJ AA (hb 265) (Pv x) rfl (by decide) rfl AA (.raw AA AA .nil) rfl AA (.raw AA AA .nil) .nil AA AA (AR u ?_))))));refine An b ?_ ?_<;>intro P b
  ·refine AE AA (AM 2 AA (D9 2 [d] eI Na AA (bs b λe y b=>KA [d] Na AA (GY AA AA) y (AK AA ?_))));exact AD (o e (Bm b) _ (by refine Wk.trans (EO (L:=((1,.fn 265 [Ax])::(5,ow 1 0 e)::mW p0 h [])) (st':=[SX zR,As e,Ml d]) (.raw AA AA AA (.pure AA BB (.pure AA BB .nil))) (.same AA)) ?_;exact Bf [0,1] (.w (.p .nil)) (.same AA)))
  ·exact AG (o f (Bm b) _ Ag)
 ·exact Af (H f (Bm a) _ Ag)
theorem Mk {N:Nat}{p0:(List Int)}{p1:Int}{r:(List Int)}(h0:GN N p0 p1=some r):BH 210 (Yd p0 p1) [] (ow 0 0 r) [As r]:=by
 unfold GN at h0;refine Bb Tryz.func210 AA (Ab λe b=>CY 0 AA (AK AA (AR b (Ab λf c=>AK AA (zz (.fn 265 [Ax]) (Yx AA) rfl (bs h0 λa d h0=>HG (rowsP:=[SX p1]) (rows0:=[SX p1]) (rows1:=[SX p1]) (rows2:=[As a]) (rows1':=[SX p1]) (rows2':=[As a]) (st':=[SX p1,As a]) (v':=(ow 1 0 a)) [0] BJ (hb 46) (RS d) rfl (by decide) rfl AA (.raw AA AA .nil) rfl AA (.raw AA AA .nil) (.pure BB .nil) rfl AA (AK AA (AR c ?_))))))));obtain rfl:=Sh.Av h0;exact BP (xr (Bf (L:=[(4,ow 0 0 a)]) (st':=[As a]) [1] (.p .nil) ⟨.rfl,uM⟩))
theorem Ly {p0 r:Step}(h0:Io p0=some r):BH 119 [Hu p0,.zc] [] (.agg (YQ r)) (Jy r []):=by
 unfold Io at h0;refine BW.wk (r0:=(.agg (YQ r))) (st0:=(Jy r [⟨0,80,5,[YQ r]⟩])) (Bb Tryz.func119 AA (Ab λf b=>CY 0 AA (Cm 1 Ot AA (AR b (Ab λg c=>AM 2 AA (bs h0 λa d h0=>Dx (ow 2 0 a) (Bg d) ⟨(Ar λ_=>AA),uM⟩ (AM 2 AA (CF Kl AA (AK AA (CF fz AA (AR c (Ab λh e=>AK AA (CF LP AA (AR e ?_)))))))))))))) (Gy (L:=[(0,.agg (YQ r))]) (st':=(Jy r [])) [0,1] AA (by decide) rfl AA (.pure BB (.deep Bi uM)) (.same AA));cases h0;exact BP ⟨_,(((HU (id:=1) (st':=[⟨0,80,5,[[i64 p0.op,i64 p0.num,i64 p0.BF,ow 2 0 a,.zc]]⟩,⟨0,80,5,[[i64 p0.op,i64 p0.num,i64 p0.BF,ow 2 0 a,.own 3 0 (List.length ([]:List Block))]]⟩,As a,ml]) (j:=4) rfl AA 48 (size':=2) (by decide) rfl AA AA AA).trans (Da (L:=[(4,E4)]) (st':=[As a,ml,⟨0,80,5,[tC p0 a]⟩]) (st1:=[As a,ml,⟨0,80,5,[[i64 p0.op,i64 p0.num,i64 p0.BF,ow 2 0 a,.own 3 0 (List.length ([]:List Block))]]⟩]) [2,3,1] (.p (.deep Bi (.w .nil))) (.same AA))).trans (DY [(4,E4)] (.same AA))),Lk (.tmp 4) (tC p0 a) LP AA _ ⟨AA,AA⟩⟩
theorem QW {N:Nat}{zR:(List AP)}{zS:(List Aw)}{zW:(List Int)}{zT:(List Int)}{s1:(List Int)}{s2:(List Step)}{s4:(List Int)}{p1:Step}{r:(List Int)×(List Int)×(List Step)×(List Int)}(h0:Fu N zR zS zW zT s1 s2 s4 p1=some r):BH 146 [Ax,Hu p1,.fn 144 gO] ((bY zR zS s1 zW zT s2)::Ez s1 s2 [aq s4,As s4,Ir]) (.CW []) (Mn zR zS r.1 r.2.1 zT r.2.2.1 r.2.2.2):=by
 unfold Fu at h0;refine Bb Tryz.func146 AA ?_;refine AH (Wk.move (id:=1) (p:=0) (j:=2) (st':=[⟨0,127,6,[[DH zR,RY zS,ow 6 0 s1,ls eI zW,ls eI zT,ow 2 0 s2]]⟩,⟨1,3,1,[]⟩,I0 s2,aq s4,As s4,Ir,As s1]) rfl AA (by decide) rfl AA) ?_;refine AH (Wk.move (id:=2) (p:=0) (j:=5) (st':=((YL zR zS s1 zW zT s2)::KE ((aq s4)::(As s4)::Ir::Ez s1 s2 []))) rfl AA (by decide) rfl AA) ?_;refine AH (Wk.move (id:=4) (p:=3) (j:=0) (st':=(Mn zR zS s1 zW zT s2 s4)) rfl AA (by decide) rfl AA) ?_;refine Ab λK1 m5=>CY 9 AA (Ac (Wk.Db (L:=(Pn [(4,H4 p1)])) (st':=(CA zR zS s1 zW zT s2 s4 [Qd])) (id:=9) rfl (show 6<=9 by decide) (HL AA) (.same AA) rfl) (AR m5 (AB λK2 m6=>?_)));refine Ci (by kernel_rfl) ?_;refine bs h0 λa m7 h0=>?_;refine FQ (f':=15) (listed':=(bm 15 0)) rfl (by kernel_rfl) ?_;refine hZ 0 Ax AA (Au (BY AA)) ?_;refine hZ 1 Ax AA (Au (Bk AA AA)) ?_;refine hZ 2 Ax AA (Au (Gj Zz AA AA zO rfl)) ?_;refine hZ 4 Ax AA (Au (BY AA)) ?_;refine hZ 5 Ax AA (Au (Bk AA AA)) ?_;refine hZ 6 (.ptr 0 0 0 2) rfl (Au (Gj fJ AA AA (show 0+2<=6 by decide) rfl)) ?_;refine hZ 8 (Hu p1) rfl (Hc LP AA zF rfl) ?_;refine FE (D7 λA4 S=>?_);have e:A4 0 (bm 15 32767) ⟨134,AJ (Pn [(4,H4 p1),(6,ow 9 0 a.1),(7,ls eI a.2)]),CA zR zS s1 zW zT s2 s4 [As a.1]⟩:=(S _ _ _).2 (by
  refine DQ AA (by kernel_rfl) ?_;refine m6 _ (AB λK5 m8=>Ab λK6 m9=>AK AA (zz (Dc a.1) (Ec Hq AA AA AA) rfl (AK AA (AR m9 (bs h0 λd8 T h0=>?_)))));have q0:∀A o,d8=(A,o)->∀s,Wk 6 s ⟨134,AJ (Pn [(4,H4 p1),(7,ls eI a.2)]),Mn zR zS s1 A zT o s4⟩->K5 s:=by
   rintro A o rfl s hw;refine m8 _ (AH hw (AB λt0 g7=>Ci (by kernel_rfl) (bs h0 λq d1 h0=>bs h0 λb2 d2 h0=>FQ (f':=12) (listed':=(bm 12 0)) rfl (by kernel_rfl) (hZ 0 Ax AA (Au (BY AA)) (hZ 1 Ax AA (Au (BY AA)) (hZ 2 Ax AA (Au (Bk AA AA)) (hZ 3 OX AA (Au (Gj Qi AA AA zB rfl)) (hZ 5 (Hu p1) rfl (Hc LP AA zF rfl) (FE (D7 λA17 g=>?_))))))))));have D:A17 0 (bm 12 4095) ⟨134,AJ (Pn [(7,ls eI a.2)]),Mn zR zS s1 A zT b2 s4⟩:=(g _ _ _).2 (by
    refine DQ AA (by kernel_rfl) (g7 _ (Ab λt1 g8=>AK AA (Bd AA (AK AA (AR g8 (Wx λq1 g9=>bs h0 λd9 T h0=>?_))))));have q2:∀g0 g1,d9=(g0,g1)->∀s,Wk 6 s ⟨134,AJ [],Mn zR zS s1 g0 zT g1 s4⟩->q1 s:=by
     rintro g0 g1 rfl s hw;refine g9 _ ?_;cases h0;exact Exists.intro _ (And.intro (hw.trans (DY [] uM)) (And.intro AA AA))
    refine AI (Vl (Dq N zR zS zT s1 s4 a) (λB f d=>⟨134,AJ [(0,.ptr 0 0 0 0),(2,.fn 144 [.ptr 3 0 0 0,.ptr 5 0 0 0]),(95,ls eI a.2),(96,i64 (Sh.len a.2)),(97,i64 B)],[⟨0,127,6,[[ls Ai zR,ls BI zS,ow 6 0 s1,ls eI f,ls eI zT,ow 7 0 d]]⟩,⟨1,3,1,[]⟩,⟨1,80,5,[]⟩,⟨0,75,1,[[ow 8 0 s4]]⟩,⟨1,3,1,[]⟩,⟨0,178,1,[[.ptr 0 0 0 0]]⟩,ro 0 3 1 eI s1,ro 0 80 5 (BV 3 48 80) d,ro 0 3 1 eI s4]⟩) N 0 A b2 T Ag ?_);intro n B f d T;rw[Dq]at T;refine AS AA (AB λt2 h4=>?_);refine An T ?_ ?_<;>intro t3 T
    ·refine AG (h4 _ (AB λq4 h5=>bs T λh6 y T=>?_));have h7:∀c5 c6,h6=(c5,c6)->∀s,Wk 6 s ⟨134,AJ (Pn [(95,ls eI a.2),(96,Dc a.2),(97,i64 B)]),Mn zR zS s1 c5 zT c6 s4⟩->q4 s:=by
      rintro c5 c6 rfl s hw;exact h5 _ (AH hw (AE AA (AM 2 AA (AD (xi (Sh.w (B+1),c5,c6) T Ag)))))
     refine AI (Ab λt4 h8=>bs y λM h9 y=>DI Na h9 AA (AM 2 AA (AR h8 (AB λq5 k0=>bs y λk1 C y=>?_))));have k2:∀g2,k1=g2->∀s,Wk 6 s ⟨134,AJ (bO M a.2 B [(112,.bool g2)]),Mn zR zS s1 f zT d s4⟩->q5 s:=by
      intro g2 hq s hw;subst k1;refine k0 _ (AH hw ?_);refine An y ?_ ?_<;>intro t5 y
      ·refine AB λt6 k3=>?_;refine Ci (by kernel_rfl) ?_;refine bs y λt d3 y=>bs y λU d4 y=>?_;refine FQ (f':=12) (listed':=(bm 12 0)) rfl (by kernel_rfl) ?_;refine hZ 0 Ax AA (Au (BY AA)) ?_;refine hZ 1 Ax AA (Au (BY AA)) ?_;refine hZ 2 Ax AA (Au (Bk AA AA)) ?_;refine hZ 3 OX AA (Au (Gj Qi AA AA zB rfl)) ?_;refine hZ 5 (i64 M) rfl (Au (BY AA)) ?_;refine FE (D7 λA43 h=>?_);have E:A43 0 (bm 12 4095) ⟨134,AJ (bO M a.2 B []),Mn zR zS s1 f zT U s4⟩:=(h _ _ _).2 (by
        refine DQ AA (by kernel_rfl) (k3 _ (AE AA (AM 6 AA (bs y λc3 k4 y=>Dx (ow 9 0 c3) (Mk k4) ⟨(Ar λ_=>AA),uM⟩ (AM 2 AA (JT (Pn [(95,ls eI a.2),(96,Dc a.2),(97,i64 B),(130,ls eI c3),(132,.ptr 0 0 0 3)]) (CA zR zS s1 f zT U s4 [⟨1,3,1,[]⟩]) 9 AA ⟨.rfl,.rfl,.rfl,.rfl,.rfl,.Db AA,.rfl,uM⟩ DA AA (CF X1 AA ?_)))))));exact AD (h7 c3 U (Bm y) _ (by exact Da (L:=(Pn [(95,ls eI a.2),(96,Dc a.2),(97,i64 B)])) (st':=(Mn zR zS s1 c3 zT U s4)) (st1:=(Mn zR zS s1 c3 zT U s4)) [0,1,2,3,4,5,6,7,8] (.w (.pure nN (.pure nN (.w (.pure nN (.w (.p (.deep (AT AN) (.p .nil))))))))) (.same AA))))
       have O:A43 1 (bm 12 2047) ⟨134,AJ (bO M a.2 B [(121,ow 7 1 U),(123,OX)]),UW zR zS s1 f zT d s4 [RJ U,As s4]⟩:=(h _ _ _).2 (by
        refine ya [11] ⟨?_,uM⟩
        ·refine yo 11 ?_;exact CF R8 AA (JY h E (by exact EO (L:=(bO M a.2 B [])) (st':=(Mn zR zS s1 f zT U s4)) (.raw AA AA AA (.pure AA nN (.pure AA nN (.raw AA AA AA (.pure AA nN (.raw AA AA AA (.pure AA BB (.deep AA (AT AN) (.pure AA BB .nil))))))))) (.same AA))))
       have X:A43 4 (bm 12 255) ⟨134,AJ (bO M a.2 B [(113,Ax),(117,ow 7 0 d),(120,.own 9 0 1)]),CA zR zS s1 f zT d s4 ((ie t)::Jy t [])⟩:=(h _ _ _).2 (by
        refine ya [8] ⟨?_,uM⟩
        ·refine yo 8 ?_;have g3:=Jg d4;refine LX (st':=(UW zR zS s1 f zT d s4 (⟨1,80,5,hole U (BV 3 48 80) (Sh.len d) (jV t)⟩::(As s4)::(ie t)::Jy t []))) (c:=t) BJ Cb AA AA AA AA AA AA AA d4 AA (Ac (Wk.take (id:=7) (m:=10) (j:=3) (i:=Sh.len d) (c:=t) (ys:=t.args) (encY:=eI) rfl g3 AA AA AA (by decide) zN DA AA AA) (Ac (Wk.take (id:=7) (m:=11) (j:=4) (i:=Sh.len d) (c:=t) (ys:=t.kids) (encY:=(Bv 3 48 80)) rfl g3 AA AA AA (by decide) zI DA AA AA) (Ac (EB (id:=7) (i:=Sh.len d) (c:=t) rfl g3 (CV t).symm AA) (AD ⟨AA,hY 9 Ax AA (Bk AA AA) (qY tb 10 AA AA ?_)⟩))));exact yw h O (by exact Da (L:=(bO M a.2 B [(121,ow 7 1 U),(123,OX)])) (st':=(UW zR zS s1 f zT d s4 [RJ U,As s4])) (st1:=(UW zR zS s1 f zT d s4 [RJ U,As s4])) [0,1,2,3,4,5,6,7,8] (.w (.pure nN (.pure nN (.w (.pure nN (.w (.p (.deep (AT AN) (.p .nil))))))))) (.same AA)))
       have G:A43 5 (bm 12 127) ⟨134,AJ (bO M a.2 B [(113,Ax),(117,ow 7 0 d),(119,.agg (bC t))]),CA zR zS s1 f zT d s4 (Jy t [])⟩:=(h _ _ _).2 (by
        refine ya [7] ⟨?_,uM⟩
        ·refine yo 7 (D9 11 [()] (λ_=>(bC t)) Cb AA ?_);exact JY h X (by exact Da (L:=(bO M a.2 B [(113,Ax),(117,ow 7 0 d),(120,.own 9 0 1)])) (st':=(CA zR zS s1 f zT d s4 ((ie t)::Jy t []))) (st1:=(CA zR zS s1 f zT d s4 (⟨0,80,5,[bC t]⟩::Jy t []))) [0,1,2,3,4,5,6,7,8,11,9,10] (.w (.pure nN (.pure nN (.w (.pure nN (.w (.p (.deep (AT AN) (.p (.w (.p (.deep Bi .nil)))))))))))) (.same AA)))
       have b7:A43 6 (bm 12 63) ⟨134,AJ (bO M a.2 B [(113,Ax),(117,ow 7 0 d),(118,i64 M)]),Mn zR zS s1 f zT d s4⟩:=(h _ _ _).2 (by
        refine ya [6] ⟨?_,uM⟩
        ·refine yo 6 ?_;exact Dx (.agg (bC t)) (Be d3) ⟨(Ar λ_=>AA),⟨Bi,uM⟩⟩ (yd h G))
       have c0:A43 7 (bm 12 47) ⟨134,AJ (bO M a.2 B [(113,Ax),(116,OX),(118,i64 M)]),Mn zR zS s1 f zT d s4⟩:=(h _ _ _).2 (by
        refine ya [4,6] ⟨?_,?_,uM⟩
        ·exact Lq tb h b7
        ·refine yo 6 ?_;refine Dx (.agg (bC t)) (Be d3) ⟨(Ar λ_=>AA),⟨Bi,uM⟩⟩ (AD ⟨AA,?_⟩);refine qY tb 4 AA AA ?_;exact I6 h G)
       exact (h _ _ _).2 (I6 h c0)
      ·exact AG (h7 f d (Bm y) _ Ag)
     refine AE AA (AM 5 AA (bs C λt8 k5 C=>CR (hb 78) (Cz k5) rfl (AK AA ?_)));rcases Sh.Aa C with ⟨b3,C⟩|⟨b3,C⟩
     ·exact Aj b3 AA (Aj b3 AA (bs C λk6 k7 C=>Ib (rowsP:=(gP s4 zR zS s1 f zT d)) (rows0:=(RD s4 zR zS s1 f zT d)) (rows1:=(RD s4 zR zS s1 f zT d)) (rows2:=[]) (rows1':=(gP s4 zR zS s1 f zT d)) (rows2':=[]) (st':=(Mn zR zS s1 f zT d s4)) (v':=(.bool k6)) [3,8,5,0,6,7] (Is AA AA b3) rfl (hb 144) (Eh k7) rfl (by decide) rfl AA (.raw AA AA (.pure BB (.raw AA AA (.raw AA AA (.pure BB (.deep (AT AN) .nil)))))) rfl AA (.raw AA AA (.pure BB (.raw AA AA (.raw AA AA (.pure BB (.deep (AT AN) .nil)))))) .nil AA AA (Aj b3 AA (zt b3 AA (AD (k2 (!k6) (Bm C) _ Ag))))))
     ·refine zs b3 AA ?_;iterate 3 refine zs b3 rfl ?_
      exact zf b3 AA (AD (k2 false (Bm C) _ Ag))
    ·exact Af (q2 f d (Bm T) _ (DY [] uM)))
   have P:A17 1 (bm 12 2047) ⟨134,AJ (Pn [(7,ls eI a.2),(92,ow 7 1 b2),(94,OX)]),UW zR zS s1 A zT o s4 [RJ b2,As s4]⟩:=(g _ _ _).2 (by
    refine ya [11] ⟨?_,uM⟩
    ·refine yo 11 ?_;exact CF R8 AA (JY g D (by exact EO (L:=(Pn [(7,ls eI a.2)])) (st':=(Mn zR zS s1 A zT b2 s4)) (.raw AA AA AA (.pure AA nN (.pure AA nN (.raw AA AA AA (.pure AA nN (.raw AA AA AA (.pure AA BB (.deep AA (AT AN) (.pure AA BB .nil))))))))) (.same AA))))
   have Y:A17 4 (bm 12 255) ⟨134,AJ (Pn [(7,ls eI a.2),(84,Ax),(88,ow 7 0 o),(91,.own 9 0 1)]),CA zR zS s1 A zT o s4 ((ie q)::Jy q [])⟩:=(g _ _ _).2 (by
    refine ya [8] ⟨?_,uM⟩
    ·refine yo 8 ?_;have g4:=Jg d2;refine LX (st':=(UW zR zS s1 A zT o s4 (⟨1,80,5,hole b2 (BV 3 48 80) (Sh.len o) (jV q)⟩::(As s4)::(ie q)::Jy q []))) (c:=q) BJ Cb AA AA AA AA AA AA AA d2 AA (Ac (Wk.take (id:=7) (m:=10) (j:=3) (i:=Sh.len o) (c:=q) (ys:=q.args) (encY:=eI) rfl g4 AA AA AA (by decide) zN DA AA AA) (Ac (Wk.take (id:=7) (m:=11) (j:=4) (i:=Sh.len o) (c:=q) (ys:=q.kids) (encY:=(Bv 3 48 80)) rfl g4 AA AA AA (by decide) zI DA AA AA) (Ac (EB (id:=7) (i:=Sh.len o) (c:=q) rfl g4 (CV q).symm AA) (AD ⟨AA,hY 9 Ax AA (Bk AA AA) (qY tb 10 AA AA ?_)⟩))));exact yw g P (by exact Da (L:=(Pn [(7,ls eI a.2),(92,ow 7 1 b2),(94,OX)])) (st':=(UW zR zS s1 A zT o s4 [RJ b2,As s4])) (st1:=(UW zR zS s1 A zT o s4 [RJ b2,As s4])) [0,1,2,3,4,5,6,7,8] (.w (.pure nN (.pure nN (.w (.pure nN (.w (.p (.deep (AT AN) (.p .nil))))))))) (.same AA)))
   have H:A17 5 (bm 12 127) ⟨134,AJ (Pn [(7,ls eI a.2),(84,Ax),(88,ow 7 0 o),(90,.agg (bC q))]),CA zR zS s1 A zT o s4 (Jy q [])⟩:=(g _ _ _).2 (by
    refine ya [7] ⟨?_,uM⟩
    ·refine yo 7 (D9 11 [()] (λ_=>(bC q)) Cb AA ?_);exact JY g Y (by exact Da (L:=(Pn [(7,ls eI a.2),(84,Ax),(88,ow 7 0 o),(91,.own 9 0 1)])) (st':=(CA zR zS s1 A zT o s4 ((ie q)::Jy q []))) (st1:=(CA zR zS s1 A zT o s4 (⟨0,80,5,[bC q]⟩::Jy q []))) [0,1,2,3,4,5,6,7,8,11,9,10] (.w (.pure nN (.pure nN (.w (.pure nN (.w (.p (.deep (AT AN) (.p (.w (.p (.deep Bi .nil)))))))))))) (.same AA)))
   have b8:A17 6 (bm 12 63) ⟨134,AJ (Pn [(7,ls eI a.2),(84,Ax),(88,ow 7 0 o),(89,Hu p1)]),Mn zR zS s1 A zT o s4⟩:=(g _ _ _).2 (by
    refine ya [6] ⟨?_,uM⟩
    ·refine yo 6 ?_;exact Dx (.agg (bC q)) (Ly d1) ⟨(Ar λ_=>AA),⟨Bi,uM⟩⟩ (yd g H))
   have c1:A17 7 (bm 12 47) ⟨134,AJ (Pn [(7,ls eI a.2),(84,Ax),(87,OX),(89,Hu p1)]),Mn zR zS s1 A zT o s4⟩:=(g _ _ _).2 (by
    refine ya [4,6] ⟨?_,?_,uM⟩
    ·exact Lq tb g b8
    ·refine yo 6 ?_;refine Dx (.agg (bC q)) (Ly d1) ⟨(Ar λ_=>AA),⟨Bi,uM⟩⟩ (AD ⟨AA,?_⟩);refine qY tb 4 AA AA ?_;exact I6 g H)
   exact (g _ _ _).2 (I6 g c1)
  refine AI (Vl (Dv N zR zS zT s1 s4 p1 a) (λt7 V z=>⟨134,AJ [(0,.ptr 0 0 0 0),(2,.fn 144 [.ptr 3 0 0 0,.ptr 5 0 0 0]),(4,.Bj [i64 p1.op,i64 p1.num,i64 p1.BF,ls eI p1.args,ls BS p1.kids] 0),(7,ls eI a.2),(26,ow 9 0 a.1),(27,i64 (Sh.len a.1)),(28,i64 t7)],[⟨0,127,6,[[ls Ai zR,ls BI zS,ow 6 0 s1,ls eI V,ls eI zT,ow 7 0 z]]⟩,⟨1,3,1,[]⟩,⟨1,80,5,[]⟩,⟨0,75,1,[[ow 8 0 s4]]⟩,⟨1,3,1,[]⟩,⟨0,178,1,[[.ptr 0 0 0 0]]⟩,ro 0 3 1 eI s1,ro 0 80 5 (BV 3 48 80) z,ro 0 3 1 eI s4,ro 0 3 1 eI a.1]⟩) N 0 zW s2 T Ag ?_);intro n t7 V z T;rw[Dv]at T;refine AS AA (AB λt9 k8=>?_);refine An T ?_ ?_<;>intro v0 T
  ·refine AG (k8 _ (AB λq6 k9=>bs T λl0 y T=>?_));have l1:∀c7 c8,l0=(c7,c8)->∀s,Wk 6 s ⟨134,AJ (Wu p1 a.2 a.1 t7 []),CA zR zS s1 c7 zT c8 s4 [As a.1]⟩->q6 s:=by
    rintro c7 c8 rfl s hw;exact k9 _ (AH hw (AE AA (AM 2 AA (AD (xi (Sh.w (t7+1),c7,c8) T Ag)))))
   refine AI (Ab λv1 l2=>bs y λl3 d5 y=>zz (.ptr 9 0 (Int.toNat t7) 0) (Ls Ay AA d5) rfl (zz (i64 l3) (De JR AA AA (Ef d5) rfl) rfl (AK AA (AR l2 (Ab λv2 l4=>AM 3 AA (bs y λc9 l5 y=>DI Ay l5 AA (AM 2 AA (AR l4 (AB λq7 l6=>bs y λl7 C y=>?_)))))))));have d0:∀g5,l7=g5->∀s,Wk 6 s ⟨134,AJ (Pn [(4,H4 p1),(7,ls eI a.2),(10,i64 c9),(26,ow 9 0 a.1),(27,Dc a.1),(28,i64 t7),(62,.bool g5)]),CA zR zS s1 V zT z s4 [As a.1]⟩->q7 s:=by
    intro g5 hq s hw;subst l7;refine l6 _ (AH hw ?_);refine An y ?_ ?_<;>intro v3 y
    ·refine Ci (by kernel_rfl) ?_;refine bs y λu d6 y=>bs y λb4 d7 y=>?_;refine FQ (f':=12) (listed':=(bm 12 0)) rfl (by kernel_rfl) ?_;refine hZ 0 Ax AA (Au (BY AA)) ?_;refine hZ 1 Ax AA (Au (BY AA)) ?_;refine hZ 2 Ax AA (Au (Bk AA AA)) ?_;refine hZ 3 OX AA (Au (Gj Qi AA AA zB rfl)) ?_;refine hZ 5 (i64 c9) rfl (Au (BY AA)) ?_;refine FE (D7 λA68 k=>?_);have I:A68 0 (bm 12 4095) ⟨134,AJ (Wu p1 a.2 a.1 t7 []),CA zR zS s1 V zT b4 s4 [As a.1]⟩:=(k _ _ _).2 (by
      exact DQ AA (by kernel_rfl) (l1 V b4 (Bm y) _ (DY (Wu p1 a.2 a.1 t7 []) (.same AA))))
     have Q:A68 1 (bm 12 2047) ⟨134,AJ (Wu p1 a.2 a.1 t7 [(71,ow 7 1 b4),(73,OX)]),UW zR zS s1 V zT z s4 ((RJ b4)::Cf s4 a.1 [])⟩:=(k _ _ _).2 (by
      refine ya [11] ⟨?_,uM⟩
      ·refine yo 11 ?_;exact CF R8 AA (JY k I (by exact EO (L:=(Wu p1 a.2 a.1 t7 [])) (st':=(CA zR zS s1 V zT b4 s4 [As a.1])) (.raw AA AA AA (.pure AA nN (.pure AA nN (.raw AA AA AA (.pure AA nN (.raw AA AA AA (.pure AA BB (.deep AA (AT AN) (.pure AA BB (.pure AA BB .nil)))))))))) (.same AA))))
     have Z:A68 4 (bm 12 255) ⟨134,AJ (Wu p1 a.2 a.1 t7 [(63,Ax),(67,ow 7 0 z),(70,.own 10 0 1)]),CA zR zS s1 V zT z s4 ((As a.1)::⟨0,80,5,[pV u]⟩::Jy u [])⟩:=(k _ _ _).2 (by
      refine ya [8] ⟨?_,uM⟩
      ·refine yo 8 ?_;have g6:=Jg d7;refine LX (st':=(UW zR zS s1 V zT z s4 (⟨1,80,5,hole b4 (BV 3 48 80) (Sh.len z) (pV u)⟩::Cf s4 a.1 (⟨0,80,5,[pV u]⟩::Jy u [])))) (c:=u) BJ Cb AA AA AA AA AA AA AA d7 AA (Ac (Wk.take (id:=7) (m:=11) (j:=3) (i:=Sh.len z) (c:=u) (ys:=u.args) (encY:=eI) rfl g6 AA AA AA (by decide) zI DA AA AA) (Ac (Wk.take (id:=7) (m:=12) (j:=4) (i:=Sh.len z) (c:=u) (ys:=u.kids) (encY:=(Bv 3 48 80)) rfl g6 AA AA AA (by decide) zM DA AA AA) (Ac (EB (id:=7) (i:=Sh.len z) (c:=u) rfl g6 (CV u).symm AA) (AD ⟨AA,hY 9 Ax AA (Bk AA AA) (qY tb 10 AA AA ?_)⟩))));exact yw k Q (by exact Da (L:=(Wu p1 a.2 a.1 t7 [(71,ow 7 1 b4),(73,OX)])) (st':=(UW zR zS s1 V zT z s4 ((RJ b4)::Cf s4 a.1 []))) (st1:=(UW zR zS s1 V zT z s4 ((RJ b4)::Cf s4 a.1 []))) [0,1,2,3,4,5,6,7,8,9] (.w (.pure nN (.pure nN (.w (.pure nN (.w (.p (.deep (AT AN) (.p (.p .nil)))))))))) (.same AA)))
     have J:A68 5 (bm 12 127) ⟨134,AJ (Wu p1 a.2 a.1 t7 [(63,Ax),(67,ow 7 0 z),(69,.agg (jV u))]),CA zR zS s1 V zT z s4 ((As a.1)::Jy u [])⟩:=(k _ _ _).2 (by
      refine ya [7] ⟨?_,uM⟩
      ·refine yo 7 (D9 12 [()] (λ_=>(jV u)) Cb AA ?_);exact JY k Z (by exact Da (L:=(Wu p1 a.2 a.1 t7 [(63,Ax),(67,ow 7 0 z),(70,.own 10 0 1)])) (st':=(CA zR zS s1 V zT z s4 ((As a.1)::⟨0,80,5,[pV u]⟩::Jy u []))) (st1:=(CA zR zS s1 V zT z s4 ((As a.1)::(ie u)::Jy u []))) [0,1,2,3,4,5,6,7,8,9,12,10,11] (.w (.pure nN (.pure nN (.w (.pure nN (.w (.p (.deep (AT AN) (.p (.p (.w (.p (.deep Bi .nil))))))))))))) (.same AA)))
     have b9:A68 6 (bm 12 63) ⟨134,AJ (Wu p1 a.2 a.1 t7 [(63,Ax),(67,ow 7 0 z),(68,i64 c9)]),CA zR zS s1 V zT z s4 [As a.1]⟩:=(k _ _ _).2 (by
      refine ya [6] ⟨?_,uM⟩
      ·refine yo 6 ?_;exact Dx (.agg (jV u)) (Be d6) ⟨(Ar λ_=>AA),⟨Bi,uM⟩⟩ (yd k J))
     have c2:A68 7 (bm 12 47) ⟨134,AJ (Wu p1 a.2 a.1 t7 [(63,Ax),(66,OX),(68,i64 c9)]),CA zR zS s1 V zT z s4 [As a.1]⟩:=(k _ _ _).2 (by
      refine ya [4,6] ⟨?_,?_,uM⟩
      ·exact Lq tb k b9
      ·refine yo 6 ?_;refine Dx (.agg (jV u)) (Be d6) ⟨(Ar λ_=>AA),⟨Bi,uM⟩⟩ (AD ⟨AA,?_⟩);refine qY tb 4 AA AA ?_;exact I6 k J)
     exact (k _ _ _).2 (I6 k c2)
    ·refine AE AA (AM 6 AA (bs y λc4 l8 y=>Dx (ow 10 0 c4) (Mk l8) ⟨(Ar λ_=>AA),uM⟩ (AM 2 AA (JT (Wu p1 a.2 a.1 t7 [(80,ls eI c4),(82,.ptr 0 0 0 3)]) (CA zR zS s1 V zT z s4 (bV a.1 [])) 10 AA ⟨.rfl,.rfl,.rfl,.rfl,.rfl,.rfl,.rfl,.Db AA,.rfl,uM⟩ DA AA (CF X1 AA ?_)))));exact AD (l1 c4 z (Bm y) _ (by refine Wk.trans (Da (L:=(Wu p1 a.2 a.1 t7 [])) (st':=(CA zR zS s1 c4 zT z s4 [As a.1])) (st1:=(CA zR zS s1 c4 zT z s4 [As a.1])) [0,1,2,3,4,5,6,7,8,9] (.w (.pure nN (.pure nN (.w (.pure nN (.w (.p (.deep (AT AN) (.p (.p .nil)))))))))) (.same AA)) ?_;exact F3 AA))
   refine AE AA (AM 2 AA (bs C λq8 m0 C=>Ib (rowsP:=(gP s4 zR zS s1 V zT z)) (rows0:=(RD s4 zR zS s1 V zT z)) (rows1:=(RD s4 zR zS s1 V zT z)) (rows2:=[]) (rows1':=(gP s4 zR zS s1 V zT z)) (rows2':=[]) (st':=(CA zR zS s1 V zT z s4 [As a.1])) (v':=(.bool q8)) [3,8,5,0,6,7] BJ AA (hb 144) (Eh m0) rfl (by decide) rfl AA (.raw AA AA (.pure BB (.raw AA AA (.raw AA AA (.pure BB (.deep (AT AN) .nil)))))) rfl AA (.raw AA AA (.pure BB (.raw AA AA (.raw AA AA (.pure BB (.deep (AT AN) .nil)))))) .nil AA AA (AK AA ?_)));rcases Sh.Aa C with ⟨b5,C⟩|⟨b5,C⟩
   ·refine zs b5 AA ?_;iterate 6 refine zs b5 rfl ?_
    refine zt b5 AA (AK AA ?_);iterate 7 refine zs rfl rfl ?_
    refine zt AA AA (AK AA ?_);iterate 3 refine zs rfl rfl ?_
    exact zt AA AA (AD (d0 true (Bm C) _ Ag))
   ·refine Aj b5 AA ?_;iterate 4 refine Aj b5 rfl ?_
    refine bs C λv4 m1 C=>Iy b5 (Cz m1) rfl (Aj b5 AA (zf b5 AA (AK AA ?_)));rcases Sh.Aa C with ⟨b0,C⟩|⟨b0,C⟩
    ·refine zs b0 AA ?_;iterate 6 refine zs b0 rfl ?_
     refine zt b0 AA (AK AA ?_);iterate 3 refine zs rfl rfl ?_
     exact zt AA AA (AD (d0 true (Bm C) _ Ag))
    ·refine Aj b0 AA ?_;iterate 3 refine Aj b0 rfl ?_
     refine bs C λv5 m2 C=>WE (i:=Sh.w (l3+1)) (j:=Sh.len p1.args) (Is AA AA b0) Ay AA AA AA DA m2 (Aj b0 AA (bs C λv6 m3 C=>Iy b0 (H9 m3) rfl (zf b0 AA (AK AA ?_))));rcases Sh.Aa C with ⟨b6,C⟩|⟨b6,C⟩
     ·exact zs b6 AA (zs b6 AA (zs b6 AA (zt b6 AA (AD (d0 true (Bm C) _ Ag)))))
     ·exact Aj b6 AA (Aj b6 AA (bs C λq9 m4 C=>Iy b6 (Cz m4) rfl (zf b6 AA (AD (d0 q9 (Bm C) _ Ag)))))
  ·exact Af (q0 V z (Bm T) _ (by exact Da (L:=(Pn [(4,H4 p1),(7,ls eI a.2)])) (st':=(Mn zR zS s1 V zT z s4)) (st1:=(Mn zR zS s1 V zT z s4)) [0,1,2,3,4,5,6,7,8] (.w (.pure nN (.pure nN (.w (.pure nN (.w (.p (.deep (AT AN) (.p .nil))))))))) (.same AA))))
 have K:A4 2 (bm 15 12287) ⟨134,AJ (Pn [(4,H4 p1),(6,ow 9 0 a.1),(13,.CW [ow 9 0 a.1,ls eI a.2])]),CA zR zS s1 zW zT s2 s4 [As a.1]⟩:=(S _ _ _).2 (by
  refine ya [12] ⟨?_,uM⟩
  ·refine yo 12 ?_;refine AK AA (AD ⟨AA,?_⟩);refine qY tb 14 AA AA ?_;exact I6 S e)
 have R:A4 3 (bm 15 6143) ⟨134,AJ (Pn [(4,H4 p1),(13,.CW [ow 9 0 a.1,ls eI a.2]),(25,ls eI a.2)]),CA zR zS s1 zW zT s2 s4 [As a.1]⟩:=(S _ _ _).2 (by
  refine ya [11] ⟨?_,uM⟩
  ·refine yo 11 ?_;refine AK AA (AD ⟨AA,?_⟩);refine qY tb 13 AA AA ?_;refine qY tb 14 AA AA ?_;exact I6 S e)
 have W:A4 4 (bm 15 2047) ⟨134,AJ (Pn [(4,H4 p1),(13,.CW [ow 9 0 a.1,ls eI a.2])]),CA zR zS s1 zW zT s2 s4 [As a.1]⟩:=(S _ _ _).2 (by
  refine ya [11,12] ⟨?_,?_,uM⟩
  ·refine yo 11 ?_;refine AK AA (AD ⟨AA,?_⟩);refine qY tb 13 AA AA ?_;exact I6 S K
  ·exact Lq tb S R)
 have b1:A4 6 (bm 15 511) ⟨134,AJ (Pn [(4,H4 p1),(17,Sd zR zS),(21,ow 6 0 s1),(22,Hu p1)]),Mn zR zS s1 zW zT s2 s4⟩:=(S _ _ _).2 (by
  refine ya [9] ⟨?_,uM⟩
  ·refine yo 9 ?_;refine HG (rowsP:=[As s1]) (rows0:=[As s1]) (rows1:=[As s1]) (rows2:=[As a.1]) (rows1':=[As s1]) (rows2':=[As a.1]) (st':=(CA zR zS s1 zW zT s2 s4 [As a.1])) (v':=(.CW [ow 9 0 a.1,ls eI a.2])) [6] BJ (hb 116) (Pu m7) rfl (by decide) rfl AA (.pure BB .nil) rfl AA (.pure BB .nil) (.pure BB .nil) rfl AA ?_;refine AD ⟨AA,?_⟩;refine qY tb 10 AA AA ?_;exact I6 S W)
 refine (S _ _ _).2 (qY tb 3 AA AA (qY tb 7 AA AA ?_));exact yw S b1 (by exact Da (L:=(Pn [(4,H4 p1),(17,Sd zR zS),(21,ow 6 0 s1),(22,Hu p1)])) (st':=(Mn zR zS s1 zW zT s2 s4)) (st1:=(Mn zR zS s1 zW zT s2 s4)) [0,1,2,3,4,5,6,7,8] (.w (.pure nN (.pure nN (.w (.pure nN (.w (.p (.deep (AT AN) (.p .nil))))))))) (.same AA))
end Go.Proofs.YtccficmcdkcpnaaGreat
