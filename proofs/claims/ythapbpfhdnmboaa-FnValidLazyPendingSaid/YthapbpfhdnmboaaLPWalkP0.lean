import Derived.Test.YthapbpfhdnmboaaProg
import Derived.Test.YthapbpfhdnmboaaGHADefsToLPDefs
import Derived.Test.YthapbpfhdnmboaaAbsQ
namespace Go.Proofs.Ythapbpfhdnmboaa
open Go Go.Abs RC
attribute [local irreducible] Go.Abs.B6
set_option maxRecDepth 100000
set_option maxHeartbeats 4000000

def tb:E4 Try.prog where
 t:=[(22,false,1),(23,false,1),(24,false,1),(26,true,2),(3,false,1),(30,true,3),(4,false,1),(5,false,1)]
 f:=[(26,0,0),(26,1,1),(30,0,0),(30,1,1),(30,2,2),(43,0,0),(43,1,1)]
 v:=[]
 b:=[4]
 s:=[22,23,24]
 ht:=by kernel_rfl
 hf:=by kernel_rfl
 hv:=by kernel_rfl
 hb:=by kernel_rfl
 hs:=by kernel_rfl

theorem NV:Gg Try.prog 26=true:=by kernel_rfl
theorem L5:Gg Try.prog 30=true:=by kernel_rfl
theorem Ss:Gg Try.prog 43=true:=by kernel_rfl
theorem Nf:Hw Try.prog 26=some [(0,1),(1,1)]:=by kernel_rfl
theorem Ma:Hw Try.prog 30=some [(0,1),(1,1),(2,1)]:=by kernel_rfl
theorem Sv:Hw Try.prog 43=some [(0,1),(1,1)]:=by kernel_rfl
theorem Oi:Ox Try.prog 5 3=some .i64:=by kernel_rfl
theorem PS:DT Try.prog 22=some ⟨5,1,1,[.int .u8 0]⟩:=by kernel_rfl
theorem A3:DT Try.prog 23=some ⟨30,3,40,[.int .i64 0,.int .i64 0,.sl []]⟩:=by kernel_rfl
theorem Av:DT Try.prog 24=some ⟨3,1,8,[.int .i64 0]⟩:=by kernel_rfl
theorem PD:DT Try.prog 67=some ⟨4,1,1,[.bool false]⟩:=by kernel_rfl
theorem Dw:Al Try.prog 16=true:=by kernel_rfl
theorem EU:Al Try.prog 17=true:=by kernel_rfl
theorem SW:Al Try.prog 21=true:=by kernel_rfl
theorem PH:Al Try.prog 22=true:=by kernel_rfl
theorem Ep:Al Try.prog 23=true:=by kernel_rfl
theorem ET:Al Try.prog 24=true:=by kernel_rfl
theorem Nd:Al Try.prog 32=true:=by kernel_rfl
theorem Rt:Al Try.prog 33=true:=by kernel_rfl
theorem S4:Al Try.prog 34=true:=by kernel_rfl
theorem TL:Al Try.prog 35=true:=by kernel_rfl
theorem KW:Al Try.prog 36=true:=by kernel_rfl
theorem Rn:Al Try.prog 37=true:=by kernel_rfl
theorem Sf:Al Try.prog 39=true:=by kernel_rfl
theorem Sq:Al Try.prog 40=true:=by kernel_rfl
theorem Sn:Al Try.prog 41=true:=by kernel_rfl
theorem PR:Al Try.prog 42=true:=by kernel_rfl
theorem L8:Al Try.prog 44=true:=by kernel_rfl
theorem MQ:Al Try.prog 46=true:=by kernel_rfl
theorem Sa:Al Try.prog 48=true:=by kernel_rfl
theorem Sj:Al Try.prog 49=true:=by kernel_rfl
theorem Su:Al Try.prog 51=true:=by kernel_rfl
theorem S6:Al Try.prog 52=true:=by kernel_rfl
theorem Sz:Al Try.prog 53=true:=by kernel_rfl
theorem Sr:Al Try.prog 54=true:=by kernel_rfl
theorem Sg:C8 Try.prog 22=true:=by kernel_rfl
theorem Ec:C8 Try.prog 23=true:=by kernel_rfl
theorem GH:C8 Try.prog 24=true:=by kernel_rfl
theorem Jq:DX Try.prog 24=some (false,1):=by kernel_rfl
theorem DU:DX Try.prog 26=some (true,2):=by kernel_rfl
theorem CM:DX Try.prog 3=some (false,1):=by kernel_rfl
theorem I6:DX Try.prog 30=some (true,3):=by kernel_rfl
theorem Si:DX Try.prog 4=some (false,1):=by kernel_rfl
theorem C5:Ga Try.prog 26=some [.zc,.zc]:=by kernel_rfl
theorem Hu:Ga Try.prog 30=some [.int .i64 0,.int .i64 0,.zc]:=by kernel_rfl
theorem TF:Ga Try.prog 43=some [.zc,.int .i64 0]:=by kernel_rfl

theorem IS {p0:(List Int)} {r:(List Int)×Int} (h0:Ds p0=some r):Ag Try.prog 11 [(ls AI p0)] [] (fun v st=>v=(.ptr 0 0 0 0)∧st=[⟨0,43,2,[[(ls AI r.1),(i64 r.2)]]⟩]):=by
 unfold Ds at h0
 refine ai Try.func11 U U U U ?_
 refine zr tb U U ?_
 refine AN fun K2 hK2=>?_
 obtain⟨o4,h1,h0⟩:=Sh.bind_some h0
 have M4 :∀(code3:(List Int)),o4=code3→∀s,Wk 0 s ⟨11,AM [(0,(ls AI code3))],[]⟩→K2 s:=by
  intro code3 hq s hw
  subst o4
  try dsimp only at h0
  refine hK2 _ (AS hw ?_)
  refine sr U fun K5 hK5=>?_
  refine zq tb U ?_
  refine zz (.agg [(ls AI code3),(i64 0)]) (FY Ss Sv TF U U) rfl ?_
  refine Df (m:=0) (st':=[⟨0,43,2,[[(ls AI code3),(i64 0)]]⟩]) Ae U U U U U ?_
  refine zq tb U ?_
  refine dn hK5 U ?_
  replace h0:=Sh.AK h0
  subst r
  exact AZ (xr (AF (L:=[(2,(.ptr 0 0 0 0))]) ⟨.rfl,trivial⟩))
 refine sr U fun K6 hK6=>?_
 refine zq tb U ?_
 refine zl tb U U ?_
 refine zq tb U ?_
 refine dn hK6 U ?_
 refine ci h1 U ?_ ?_ <;> clear h1
 ·intro b7 h1
  refine AR (by rfl) ?_
  refine zq tb U ?_
  obtain⟨l8,gl8,h1⟩:=Sh.bind_some h1
  refine KD (i:=0) (j:=2000) Ae PS U U U (fun _=>U) gl8 ?_
  refine zq tb U ?_
  exact AE (M4 l8 (Sh.AK h1).symm _ (AP U))
 ·intro b7 h1
  exact AU (M4 p0 (Sh.AK h1).symm _ (AP U))
theorem Aj {s0_0:(List Int)} {s0_1:Int} {p1:Int} {r:Int×Int} (h0:Aq s0_0 s0_1 p1=some r):Ag Try.prog 16 [(.ptr 0 0 0 0),(i64 p1)] [⟨0,43,2,[[(ls AI s0_0),(i64 s0_1)]]⟩] (fun v st=>v=(i64 r.1)∧st=[⟨0,43,2,[[(ls AI s0_0),(i64 r.2)]]⟩]):=by
 unfold Aq at h0
 refine ai Try.func16 U U U U ?_
 refine zr tb U U ?_
 refine sr U fun K2 hK2=>?_
 refine zm tb 8 U ?_
 refine Bt (st':=[⟨0,43,2,[[(ls AI s0_0),(i64 (Sh.w (s0_1+1)))]]⟩]) Ae CM U U U U U U (show 1+1≤2 by decide) rfl ?_
 refine dn hK2 U ?_
 refine AN fun K3 hK3=>?_
 refine AN fun K4 hK4=>?_
 obtain⟨o6,h1,h0⟩:=Sh.bind_some h0
 have M6 :∀(t5:Bool),o6=t5→∀s,Wk 1 s ⟨99,AM [(0,(.ptr 0 0 0 0)),(1,(i64 p1)),(24,(.bool t5))],[⟨0,43,2,[[(ls AI s0_0),(i64 (Sh.w (s0_1+1)))]]⟩]⟩→K4 s:=by
  intro t5 hq s hw
  subst o6
  try dsimp only at h0
  refine hK4 _ (AS hw ?_)
  refine ci h0 U ?_ ?_ <;> clear h0
  ·intro b7 h0
   refine zr tb U U ?_
   replace h0:=Sh.AK h0
   subst r
   exact AZ (xr (AF (L:=[(4,(i64 0))]) ⟨.rfl,trivial⟩))
  ·intro b7 h0
   refine AU (hK3 _ ?_)
   refine zr tb U U ?_
   refine AN fun K10 hK10=>?_
   refine sr U fun K11 hK11=>?_
   refine zm tb 5 U ?_
   refine zl tb U U ?_
   refine zq tb U ?_
   refine dn hK11 U ?_
   refine ci h0 U ?_ ?_ <;> clear h0
   ·intro b12 h0
    refine sr U fun K13 hK13=>?_
    refine zm tb 5 U ?_
    obtain⟨c14,gc14,h0⟩:=Sh.bind_some h0
    refine zx PS gc14 U U U ?_
    refine zq tb U ?_
    refine zz (i64 (Sh.wk .i64 c14)) (O2 Oi U) rfl ?_
    refine zq tb U ?_
    obtain⟨d15,gd15,h0⟩:=Sh.bind_some h0
    refine zz (i64 d15) (I5 U U gd15) rfl ?_
    refine zq tb U ?_
    refine dn hK13 U ?_
    replace h0:=Sh.AK h0
    subst r
    exact AZ (xr (AF (L:=[(4,(i64 d15))]) ⟨.rfl,trivial⟩))
   ·intro b12 h0
    refine AU (hK10 _ ?_)
    refine AN fun K16 hK16=>?_
    refine E9 (by kernel_rfl) (by kernel_rfl) (by rfl) ?_
    iterate 9 refine yq tb rfl ?_
    refine yl tb U U ?_
    obtain⟨d17,gd17,h0⟩:=Sh.bind_some h0
    refine yz (i64 d17) (I5 U U gd17) rfl ?_
    obtain⟨c18,gc18,h0⟩:=Sh.bind_some h0
    refine yx PS gc18 U U U ?_
    refine yq tb U ?_
    refine yz (i64 (Sh.wk .i64 c18)) (O2 Oi U) rfl ?_
    iterate 12 refine yq tb rfl ?_
    refine yl tb U U ?_
    obtain⟨d19,gd19,h0⟩:=Sh.bind_some h0
    refine yz (i64 d19) (I5 U U gd19) rfl ?_
    obtain⟨c20,gc20,h0⟩:=Sh.bind_some h0
    refine yx PS gc20 U U U ?_
    refine yq tb U ?_
    refine yz (i64 (Sh.wk .i64 c20)) (O2 Oi U) rfl ?_
    iterate 10 refine yq tb rfl ?_
    refine yl tb U U ?_
    obtain⟨d21,gd21,h0⟩:=Sh.bind_some h0
    refine yz (i64 d21) (QV U U gd21) rfl ?_
    iterate 3 refine yq tb rfl ?_
    refine DN (hK16 _ ?_)
    refine sr U fun K22 hK22=>?_
    refine zm tb 2 U ?_
    refine zz (i64 (Sh.w (Int.tdiv (Sh.w ((Sh.w ((Sh.w ((Sh.w ((Sh.wk .i64 c18) * 131)) + (Sh.w ((Sh.wk .i64 c20) * 1117)))) + (Sh.w ((Sh.w ((Sh.w (s0_1+1)) - 1)) * 29)))) + (Sh.w (d21 * 53)))) 64))) (RN U U (by decide)) rfl ?_
    refine zz (i64 (Sh.xor (Sh.w ((Sh.w ((Sh.w ((Sh.w ((Sh.wk .i64 c18) * 131)) + (Sh.w ((Sh.wk .i64 c20) * 1117)))) + (Sh.w ((Sh.w ((Sh.w (s0_1+1)) - 1)) * 29)))) + (Sh.w (d21 * 53)))) (Sh.w (Int.tdiv (Sh.w ((Sh.w ((Sh.w ((Sh.w ((Sh.wk .i64 c18) * 131)) + (Sh.w ((Sh.wk .i64 c20) * 1117)))) + (Sh.w ((Sh.w ((Sh.w (s0_1+1)) - 1)) * 29)))) + (Sh.w (d21 * 53)))) 64)))) (Q9 U U) rfl ?_
    refine zq tb U ?_
    refine dn hK22 U ?_
    refine sr U fun K23 hK23=>?_
    refine zm tb 2 U ?_
    obtain⟨d24,gd24,h0⟩:=Sh.bind_some h0
    refine zz (i64 d24) (I5 U U gd24) rfl ?_
    refine zq tb U ?_
    refine dn hK23 U ?_
    replace h0:=Sh.AK h0
    subst r
    exact AZ (xr (AF (L:=[(4,(i64 d24))]) ⟨.rfl,trivial⟩))
 refine AR (by rfl) ?_
 refine zm tb 3 U ?_
 rcases Sh.Ar h1 with ⟨b25,h1⟩ | ⟨b25,h1⟩
 ·refine zs b25 U ?_
  iterate 5 refine zs b25 rfl ?_
  refine zt b25 U ?_
  exact AE (M6 true (Sh.AK h1).symm _ (AP U))
 ·refine zg tb b25 U ?_
  iterate 3 refine zg tb b25 rfl ?_
  refine CY (v:=(i64 (Sh.len s0_0))) (Ce U U b25) rfl (Ea Sg U) ?_
  refine zg tb b25 U ?_
  refine zf b25 U ?_
  exact AE (M6 (decide ((Sh.len s0_0)=0)) (Sh.AK h1).symm _ (AP U))
theorem DY {p0:Int} {p1:Int} {p2:Int} {r:Bool} (h0:Cn p0 p1 p2=some r):Ag Try.prog 32 [(i64 p0),(i64 p1),(i64 p2)] [] (fun v st=>v=(.bool r)∧st=[]):=by
 unfold Cn at h0
 refine ai Try.func32 U U U U ?_
 refine zr tb U U ?_
 refine AN fun K2 hK2=>?_
 obtain⟨o4,h1,h0⟩:=Sh.bind_some h0
 have M4 :∀(t3:Bool),o4=t3→∀s,Wk 0 s ⟨15,AM [(6,(.bool t3))],[]⟩→K2 s:=by
  intro t3 hq s hw
  subst o4
  try dsimp only at h0
  refine hK2 _ (AS hw ?_)
  replace h0:=Sh.AK h0
  subst r
  exact AZ (xr (AF (L:=[(6,(.bool t3))]) ⟨.rfl,trivial⟩))
 refine AR (by rfl) ?_
 refine zm tb 4 U ?_
 rcases Sh.Ar h1 with ⟨b5,h1⟩ | ⟨b5,h1⟩
 ·refine zg tb b5 U ?_
  iterate 2 refine zg tb b5 rfl ?_
  refine zt b5 U ?_
  refine zq tb U ?_
  exact AE (M4 (decide (p0≤p2)) (Sh.AK h1).symm _ (AP U))
 ·refine zs b5 U ?_
  iterate 2 refine zs b5 rfl ?_
  refine zf b5 U ?_
  refine zq tb U ?_
  exact AE (M4 false (Sh.AK h1).symm _ (AP U))
theorem Ch {p0:Int} {r:Bool} (h0:BL p0=some r):Ag Try.prog 44 [(i64 p0)] [] (fun v st=>v=(.bool r)∧st=[]):=by
 unfold BL at h0
 refine ai Try.func44 U U U U ?_
 iterate 2 refine zr tb rfl rfl ?_
 replace h0:=Sh.AK h0
 subst r
 exact AZ (xr (AF (L:=[(2,(.bool (decide (1000≤p0))))]) ⟨.rfl,trivial⟩))
theorem HE {p0:(List Cell)} {p1:Int} {r:Bool} (h0:EJ p0 p1=some r):Ag Try.prog 37 [(ls AA p0),(i64 p1)] [] (fun v st=>v=(.bool r)∧st=[]):=by
 unfold EJ at h0
 refine ai Try.func37 U U U U ?_
 refine zr tb U U ?_
 refine AN fun K2 hK2=>?_
 obtain⟨o4,h1,h0⟩:=Sh.bind_some h0
 have M4 :∀(t3:Bool),o4=t3→∀s,Wk 0 s ⟨24,AM [(4,(.bool t3))],[]⟩→K2 s:=by
  intro t3 hq s hw
  subst o4
  try dsimp only at h0
  refine hK2 _ (AS hw ?_)
  replace h0:=Sh.AK h0
  subst r
  exact AZ (xr (AF (L:=[(4,(.bool t3))]) ⟨.rfl,trivial⟩))
 refine AR (by rfl) ?_
 refine zm tb 3 U ?_
 refine zl tb U U ?_
 refine zq tb U ?_
 obtain⟨q5,gq5,h1⟩:=Sh.bind_some h1
 refine zc Nd (DY gq5) rfl U U ?_
 refine zq tb U ?_
 rcases Sh.Ar h1 with ⟨b6,h1⟩ | ⟨b6,h1⟩
 ·refine zg tb b6 U ?_
  obtain⟨q7,gq7,h1⟩:=Sh.bind_some h1
  refine zd b6 L8 (Ch gq7) rfl U U U ?_
  refine zt b6 U ?_
  refine zq tb U ?_
  rcases Sh.Ar h1 with ⟨b8,h1⟩ | ⟨b8,h1⟩
  ·refine zg tb b8 U ?_
   iterate 2 refine zg tb b8 rfl ?_
   obtain⟨c9,gc9,h1⟩:=Sh.bind_some h1
   refine CY (v:=(.B4 (AA c9) 0)) (Ce U U b8) rfl (Ei A3 U U gc9 U) ?_
   iterate 3 refine zg tb b8 rfl ?_
   refine zt b8 U ?_
   refine zq tb U ?_
   exact AE (M4 (decide (0 < c9.count)) (Sh.AK h1).symm _ (AP U))
  ·refine zs b8 U ?_
   iterate 6 refine zs b8 rfl ?_
   refine zf b8 U ?_
   refine zq tb U ?_
   exact AE (M4 false (Sh.AK h1).symm _ (AP U))
 ·refine zs b6 U ?_
  refine zs b6 U ?_
  refine zf b6 U ?_
  refine zq tb U ?_
  iterate 7 refine zs rfl rfl ?_
  refine zf U U ?_
  refine zq tb U ?_
  exact AE (M4 false (Sh.AK h1).symm _ (AP U))
theorem Ax {N:Nat} {p0:(List Cell)} {r:(List Int)} (h0:C3 N p0=some r):Ag Try.prog 24 [(ls AA p0)] [] (fun v st=>v=(ow 0 0 r)∧st=[(ro 0 3 1 eI r)]):=by
 unfold C3 at h0
 refine ai Try.func24 U U U U ?_
 refine zr tb U U ?_
 refine sr U fun K2 hK2=>?_
 refine zq tb U ?_
 refine zl tb U U ?_
 obtain⟨l3,gl3,h0⟩:=Sh.bind_some h0
 refine Iw (m:=0) (st':=[(ro 0 3 1 eI l3)]) (enc:=eI) (u:=0) Ae Av U U U gl3 U U ?_
 refine zq tb U ?_
 refine dn hK2 U ?_
 refine AN fun K4 hK4=>?_
 refine zr tb U U ?_
 obtain⟨o9,h1,h0⟩:=Sh.bind_some h0
 have M9 :∀(l8:(List Int)),o9=l8→∀s,Wk 0 s ⟨54,AM [(3,(ow 0 0 l8))],[(ro 0 3 1 eI l8)]⟩→K4 s:=by
  intro l8 hq s hw
  subst o9
  try dsimp only at h0
  refine hK4 _ (AS hw ?_)
  refine zr tb U U ?_
  replace h0:=Sh.AK h0
  subst r
  exact AZ (xr (AF (L:=[(2,(ow 0 0 l8))]) ⟨.rfl,trivial⟩))
 refine AY (Ap (σ:=Int×(List Int)) (fun n v=>CQ N p0 n v.1 v.2=some o9) (fun (i6,l7)=>⟨54,AM [(0,(ls AA p0)),(3,(ow 0 0 l7)),(4,(i64 i6))],[(ro 0 3 1 eI l7)]⟩) N (0,l3) h1 (AP U) (fun _ hv=>by rw[CQ] at hv;cases hv) ?_)
 rintro n ⟨i6,l7⟩ h1
 try dsimp only at h1 ⊢
 rw[CQ] at h1
 refine AN fun K11 hK11=>?_
 refine sr U fun K12 hK12=>?_
 refine zm tb 2 U ?_
 refine zl tb U U ?_
 refine zq tb U ?_
 refine dn hK12 U ?_
 refine ci h1 U ?_ ?_ <;> clear h1
 ·intro b13 h1
  refine AU (hK11 _ ?_)
  refine AN fun K14 hK14=>?_
  refine AY ?_
  refine zr tb U U ?_
  obtain⟨o19,h2,h1⟩:=Sh.bind_some h1
  have M19 :∀(l18:(List Int)),o19=l18→∀s,Wk 0 s ⟨54,AM [(0,(ls AA p0)),(3,(ow 0 0 l18)),(4,(i64 i6))],[(ro 0 3 1 eI l18)]⟩→K14 s:=by
   intro l18 hq s hw
   subst o19
   try dsimp only at h1
   refine hK14 _ (AS hw ?_)
   refine AR (by rfl) ?_
   refine zm tb 3 U ?_
   exact AE (xi (Sh.w (i6+1),l18) h1 (AP U))
  refine AY (Ap (σ:=Int×(List Int)) (fun n v=>CT i6 p0 n v.1 v.2=some o19) (fun (k16,l17)=>⟨54,AM [(0,(ls AA p0)),(3,(ow 0 0 l17)),(4,(i64 i6)),(5,(i64 k16))],[(ro 0 3 1 eI l17)]⟩) N (0,l7) h2 (AP U) (fun _ hv=>by rw[CT] at hv;cases hv) ?_)
  rintro n ⟨k16,l17⟩ h2
  try dsimp only at h2 ⊢
  rw[CT] at h2
  refine AN fun K20 hK20=>?_
  refine sr U fun K21 hK21=>?_
  refine zm tb 3 U ?_
  obtain⟨c22,gc22,h2⟩:=Sh.bind_some h2
  refine zx A3 gc22 U U U ?_
  refine zm tb 2 U ?_
  refine zl tb U U ?_
  refine zq tb U ?_
  refine dn hK21 U ?_
  refine ci h2 U ?_ ?_ <;> clear h2
  ·intro b23 h2
   refine AU (hK20 _ ?_)
   refine AN fun K24 hK24=>?_
   obtain⟨o26,h3,h2⟩:=Sh.bind_some h2
   have M26 :∀(l25:(List Int)),o26=l25→∀s,Wk 0 s ⟨54,AM [(0,(ls AA p0)),(3,(ow 0 0 l25)),(4,(i64 i6)),(5,(i64 k16))],[(ro 0 3 1 eI l25)]⟩→K24 s:=by
    intro l25 hq s hw
    subst o26
    try dsimp only at h2
    refine hK24 _ (AS hw ?_)
    refine AR (by rfl) ?_
    refine zm tb 3 U ?_
    exact AE (xi (Sh.w (k16+1),l25) h2 (AP U))
   refine AY ?_
   refine sr U fun K27 hK27=>?_
   refine zm tb 3 U ?_
   refine zx A3 gc22 U U U ?_
   refine zm tb 3 U ?_
   obtain⟨c28,gc28,h3⟩:=Sh.bind_some h3
   refine zx Av gc28 U U U ?_
   refine zq tb U ?_
   obtain⟨q29,gq29,h3⟩:=Sh.bind_some h3
   refine zc Rn (HE gq29) rfl U U ?_
   refine dn hK27 U ?_
   refine ci h3 U ?_ ?_ <;> clear h3
   ·intro b30 h3
    refine sr U fun K31 hK31=>?_
    refine zm tb 2 U ?_
    refine zx A3 gc22 U U U ?_
    refine zm tb 3 U ?_
    refine zx Av gc28 U U U ?_
    refine zm tb 3 U ?_
    refine dn hK31 U ?_
    refine AR (by rfl) ?_
    refine zm tb 4 U ?_
    obtain⟨c32,gc32,h3⟩:=Sh.bind_some h3
    refine zz (.ptr 0 0 (Int.toNat (Sh.w (c28 - 1000))) 0) (An Av U U U U gc32) rfl ?_
    refine zz (i64 c32) (Aw CM U U (Am gc32) rfl) rfl ?_
    refine zq tb U ?_
    refine zz (.ptr 0 0 (Int.toNat (Sh.w (c28 - 1000))) 0) (An Av U U U U gc32) rfl ?_
    refine Dy (st':=[(ro 0 3 1 eI (Sh.put l17 (Sh.w (c28 - 1000)) (Sh.w (c32+1))))]) (u':=Sh.w (c32+1)) Ae CM U U gc32 U U U (show 0+1≤1 by decide) rfl U ?_
    exact AE (M26 (Sh.put l17 (Sh.w (c28 - 1000)) (Sh.w (c32+1))) (Sh.AK h3).symm _ (AF (L:=[(0,(.sl (List.map AA p0))),(3,(.own 0 0 (List.length (Sh.put l17 (Sh.w (c28 - 1000)) (Sh.w (c32+1)))))),(4,(i64 i6)),(5,(i64 k16))]) ⟨.rfl,(.len (by simp only[Sh.CO])),.rfl,.rfl,trivial⟩))
   ·intro b30 h3
    exact AU (M26 l17 (Sh.AK h3).symm _ (AP U))
  ·intro b23 h2
   exact Au (M19 l17 (Sh.AK h2).symm _ (AP U))
 ·intro b13 h1
  exact Au (M9 l7 (Sh.AK h1).symm _ (AP U))
theorem Ak {s0_0:(List Int)} {s0_1:Int} {p1:(List Int)} {r:Int×Int} (h0:Cl s0_0 s0_1 p1=some r):Ag Try.prog 17 [(.ptr 0 0 0 0),(ls eI p1)] [⟨0,43,2,[[(ls AI s0_0),(i64 s0_1)]]⟩] (fun v st=>v=(i64 r.1)∧st=[⟨0,43,2,[[(ls AI s0_0),(i64 r.2)]]⟩]):=by
 unfold Cl at h0
 refine ai Try.func17 U U U U ?_
 refine zr tb U U ?_
 refine sr U fun K2 hK2=>?_
 refine zm tb 3 U ?_
 refine zl tb U U ?_
 obtain⟨q3,gq3,h0⟩:=Sh.bind_some h0
 refine Ad (rowsP:=[⟨0,43,2,[[(ls AI s0_0),(i64 s0_1)]]⟩]) (rows0:=[⟨0,43,2,[[(ls AI s0_0),(i64 s0_1)]]⟩]) (rows1:=[⟨0,43,2,[[(ls AI s0_0),(i64 q3.2)]]⟩]) (rows2:=[]) (rows1':=[⟨0,43,2,[[(ls AI s0_0),(i64 q3.2)]]⟩]) (rows2':=[]) (st':=[⟨0,43,2,[[(ls AI s0_0),(i64 q3.2)]]⟩]) (v':=(i64 q3.1)) [0] Ae Dw (Aj gq3) rfl (by decide) rfl U (.raw U U .nil) rfl U (.raw U U .nil) .nil U U ?_
 obtain⟨c4,gc4,h0⟩:=Sh.bind_some h0
 refine zx Av gc4 U U U ?_
 refine zm tb 2 U ?_
 refine dn hK2 U ?_
 replace h0:=Sh.AK h0
 subst r
 exact AZ (xr (AF (L:=[(4,(i64 c4))]) ⟨.rfl,trivial⟩))
theorem JT {N:Nat} {p0:(List Int)} {r:Bool} (h0:Eb N p0=some r):Ag Try.prog 48 [(ls eI p0)] [] (fun v st=>v=(.bool r)∧st=[]):=by
 unfold Eb at h0
 refine ai Try.func48 U U U U ?_
 refine zr tb U U ?_
 refine AN fun K2 hK2=>?_
 refine zr tb U U ?_
 obtain⟨o5,h1,h0⟩:=Sh.BP h0
 have M5 :∀(_:Unit),o5=Sum.inr ()→∀s,Wk 0 s ⟨15,AM [],[]⟩→K2 s:=by
  intro _ hq s hw
  subst o5
  try dsimp only at h0
  refine hK2 _ (AS hw ?_)
  refine zr tb U U ?_
  replace h0:=Sh.AK h0
  subst r
  exact AZ (xr (AF (L:=[(2,(.bool true))]) ⟨.rfl,trivial⟩))
 refine AY (Ap (σ:=Int) (fun n v=>CD p0 n v=some o5) (fun i4=>⟨15,AM [(0,(ls eI p0)),(3,(i64 i4))],[]⟩) N 0 h1 (AP U) (fun _ hv=>by rw[CD] at hv;cases hv) ?_)
 rintro n i4 h1
 try dsimp only at h1 ⊢
 rw[CD] at h1
 refine AN fun K7 hK7=>?_
 refine sr U fun K8 hK8=>?_
 refine zm tb 2 U ?_
 refine zl tb U U ?_
 refine zq tb U ?_
 refine dn hK8 U ?_
 refine ci h1 U ?_ ?_ <;> clear h1
 ·intro b9 h1
  refine AU (hK7 _ ?_)
  refine AN fun K10 hK10=>?_
  refine AY ?_
  refine sr U fun K11 hK11=>?_
  refine zm tb 2 U ?_
  obtain⟨c12,gc12,h1⟩:=Sh.bind_some h1
  refine zx Av gc12 U U U ?_
  refine zm tb 2 U ?_
  refine dn hK11 U ?_
  refine ci h1 U ?_ ?_ <;> clear h1
  ·intro b13 h1
   have b14:decide (c12=0)=false:=by simpa using b13
   refine zr tb U U ?_
   replace h1:=Sh.AK h1
   subst o5
   try dsimp only[id] at h0
   replace h0:=Sh.AK h0
   subst r
   exact AZ (xr (AF (L:=[(2,(.bool false))]) ⟨.rfl,trivial⟩))
  ·intro b13 h1
   have b16:decide (c12=0)=true:=by simpa using b13
   refine AU (hK10 _ ?_)
   refine AR (by rfl) ?_
   refine zm tb 3 U ?_
   exact AE (xi (Sh.w (i4+1)) h1 (AP U))
 ·intro b9 h1
  exact Au (M5 () (Sh.AK h1).symm _ (AP U))
theorem Eg {p0:(List Cell)} {p1:Int} {r:Bool} (h0:DQ p0 p1=some r):Ag Try.prog 42 [(ls AA p0),(i64 p1)] [] (fun v st=>v=(.bool r)∧st=[]):=by
 unfold DQ at h0
 refine ai Try.func42 U U U U ?_
 refine zr tb U U ?_
 refine AN fun K2 hK2=>?_
 obtain⟨o4,h1,h0⟩:=Sh.bind_some h0
 have M4 :∀(t3:Bool),o4=t3→∀s,Wk 0 s ⟨12,AM [(4,(.bool t3))],[]⟩→K2 s:=by
  intro t3 hq s hw
  subst o4
  try dsimp only at h0
  refine hK2 _ (AS hw ?_)
  replace h0:=Sh.AK h0
  subst r
  exact AZ (xr (AF (L:=[(4,(.bool t3))]) ⟨.rfl,trivial⟩))
 refine AR (by rfl) ?_
 refine zq tb U ?_
 obtain⟨q5,gq5,h1⟩:=Sh.bind_some h1
 refine zc Nd (DY gq5) rfl U U ?_
 refine zq tb U ?_
 rcases Sh.Ar h1 with ⟨b6,h1⟩ | ⟨b6,h1⟩
 ·refine zs b6 U ?_
  iterate 2 refine zs b6 rfl ?_
  refine zt b6 U ?_
  refine zq tb U ?_
  exact AE (M4 true (Sh.AK h1).symm _ (AP U))
 ·refine zg tb b6 U ?_
  refine zg tb b6 U ?_
  obtain⟨q7,gq7,h1⟩:=Sh.bind_some h1
  refine zd b6 Rn (HE gq7) rfl U U U ?_
  refine zf b6 U ?_
  refine zq tb U ?_
  exact AE (M4 q7 (Sh.AK h1).symm _ (AP U))
theorem Ie {N:Nat} {p0:(List Cell)} {p1:Cell} {r:Bool} (h0:Dn N p0 p1=some r):Ag Try.prog 34 [(ls AA p0),(.agg (AA p1))] [] (fun v st=>v=(.bool r)∧st=[]):=by
 unfold Dn at h0
 refine ai Try.func34 U U U U ?_
 refine sr U fun K1 hK1=>?_
 refine Df (m:=0) (st':=[⟨0,30,3,[(AA p1)]⟩]) Ae U U U U U ?_
 refine zq tb U ?_
 refine dn hK1 U ?_
 refine AN fun K2 hK2=>?_
 refine AN fun K3 hK3=>?_
 obtain⟨o5,h1,h0⟩:=Sh.bind_some h0
 have M5 :∀(t4:Bool),o5=t4→∀s,Wk 0 s ⟨56,AM [(0,(ls AA p0)),(3,(.ptr 0 0 0 0)),(15,(.bool t4))],[⟨0,30,3,[(AA p1)]⟩]⟩→K3 s:=by
  intro t4 hq s hw
  subst o5
  try dsimp only at h0
  refine hK3 _ (AS hw ?_)
  refine ci h0 U ?_ ?_ <;> clear h0
  ·intro b6 h0
   refine zr tb U U ?_
   replace h0:=Sh.AK h0
   subst r
   exact AZ (xr (Be [(4,(.bool false))] U))
  ·intro b6 h0
   refine AU (hK2 _ ?_)
   refine AN fun K8 hK8=>?_
   refine zr tb U U ?_
   refine ci h0 U ?_ ?_ <;> clear h0
   ·intro b10 h0
    refine AN fun K11 hK11=>?_
    obtain⟨o13,h1,h0⟩:=Sh.bind_some h0
    have M13 :∀(t12:Bool),o13=t12→∀s,Wk 0 s ⟨56,AM [(4,(.bool t12))],[]⟩→K11 s:=by
     intro t12 hq s hw
     subst o13
     try dsimp only at h0
     refine hK11 _ (AS hw ?_)
     replace h0:=Sh.AK h0
     subst r
     exact AZ (xr (AF (L:=[(4,(.bool t12))]) ⟨.rfl,trivial⟩))
    refine AR (by rfl) ?_
    refine zm tb 4 U ?_
    rcases Sh.Ar h1 with ⟨b14,h1⟩ | ⟨b14,h1⟩
    ·refine zg tb b14 U ?_
     refine zg tb b14 U ?_
     obtain⟨q15,gq15,h1⟩:=Sh.bind_some h1
     refine zd b14 Sa (JT gq15) rfl U U U ?_
     refine zt b14 U ?_
     refine zq tb U ?_
     rcases Sh.Ar h1 with ⟨b16,h1⟩ | ⟨b16,h1⟩
     ·refine zg tb b16 U ?_
      iterate 3 refine zg tb b16 rfl ?_
      rcases Sh.Ar h1 with ⟨b17,h1⟩ | ⟨b17,h1⟩
      ·refine zs b17 U ?_
       iterate 3 refine zs b17 rfl ?_
       refine CY (v:=(.bool true)) (Ce U U b16) rfl (Gx U b17 U) ?_
       refine zt b16 U ?_
       refine zq tb U ?_
       exact AE (M13 true (Sh.AK h1).symm _ (Be _ U))
      ·refine zg tb b17 U ?_
       refine zg tb b17 U ?_
       refine CY (v:=(i64 (Sh.len p1.fields))) (Ce U U b17) rfl (Ea GH U) ?_
       refine zg tb b17 U ?_
       refine CY (v:=(.bool (decide ((Sh.len p1.fields)=0)))) (Ce U U b16) rfl (Gs U b17 U) ?_
       refine zt b16 U ?_
       refine zq tb U ?_
       exact AE (M13 (decide ((Sh.len p1.fields)=0)) (Sh.AK h1).symm _ (Be _ U))
     ·refine zs b16 U ?_
      iterate 3 refine zs b16 rfl ?_
      iterate 4 refine zn rfl ?_
      refine zs b16 U ?_
      refine zf b16 U ?_
      refine zq tb U ?_
      exact AE (M13 false (Sh.AK h1).symm _ (Be _ U))
    ·refine zs b14 U ?_
     iterate 2 refine zs b14 rfl ?_
     refine zf b14 U ?_
     refine zq tb U ?_
     iterate 4 refine zs rfl rfl ?_
     iterate 4 refine zn rfl ?_
     refine zs U U ?_
     refine zf U U ?_
     refine zq tb U ?_
     exact AE (M13 false (Sh.AK h1).symm _ (Be _ U))
   ·intro b10 h0
    refine AU (hK8 _ ?_)
    refine AN fun K18 hK18=>?_
    refine zr tb U U ?_
    obtain⟨o21,h1,h0⟩:=Sh.BP h0
    have M21 :∀(_:Unit),o21=Sum.inr ()→∀s,Wk 0 s ⟨56,AM [(3,(.ptr 0 0 0 0))],[⟨0,30,3,[(AA p1)]⟩]⟩→K18 s:=by
     intro _ hq s hw
     subst o21
     try dsimp only at h0
     refine hK18 _ (AS hw ?_)
     refine sr U fun K22 hK22=>?_
     refine zm tb 2 U ?_
     obtain⟨q23,gq23,h0⟩:=Sh.bind_some h0
     refine zc Nd (DY gq23) rfl U U ?_
     refine zq tb U ?_
     refine dn hK22 U ?_
     replace h0:=Sh.AK h0
     subst r
     exact AZ (xr (Be [(4,(.bool q23))] U))
    refine AY (Ap (σ:=Int) (fun n v=>Bm p0 p1 n v=some o21) (fun i20=>⟨56,AM [(0,(ls AA p0)),(3,(.ptr 0 0 0 0)),(5,(i64 i20))],[⟨0,30,3,[(AA p1)]⟩]⟩) N 0 h1 (AP U) (fun _ hv=>by rw[Bm] at hv;cases hv) ?_)
    rintro n i20 h1
    try dsimp only at h1 ⊢
    rw[Bm] at h1
    refine AN fun K24 hK24=>?_
    refine sr U fun K25 hK25=>?_
    refine zm tb 3 U ?_
    refine zl tb U U ?_
    refine zq tb U ?_
    refine dn hK25 U ?_
    refine ci h1 U ?_ ?_ <;> clear h1
    ·intro b26 h1
     refine AU (hK24 _ ?_)
     refine AN fun K27 hK27=>?_
     refine AY ?_
     refine sr U fun K28 hK28=>?_
     refine zm tb 4 U ?_
     obtain⟨c29,gc29,h1⟩:=Sh.bind_some h1
     refine zx Av gc29 U U U ?_
     refine zq tb U ?_
     obtain⟨q30,gq30,h1⟩:=Sh.bind_some h1
     refine zc PR (Eg gq30) rfl U U ?_
     refine zq tb U ?_
     refine dn hK28 U ?_
     refine ci h1 U ?_ ?_ <;> clear h1
     ·intro b31 h1
      have b32:q30=false:=by simpa using b31
      refine zr tb U U ?_
      replace h1:=Sh.AK h1
      subst o21
      try dsimp only[id] at h0
      replace h0:=Sh.AK h0
      subst r
      exact AZ (xr (Be [(4,(.bool false))] U))
     ·intro b31 h1
      have b34:q30=true:=by simpa using b31
      refine AU (hK27 _ ?_)
      refine AR (by rfl) ?_
      refine zm tb 3 U ?_
      exact AE (xi (Sh.w (i20+1)) h1 (AP U))
    ·intro b26 h1
     exact Au (M21 () (Sh.AK h1).symm _ (AP U))
 refine AR (by rfl) ?_
 refine zm tb 2 U ?_
 refine zl tb U U ?_
 refine zm tb 2 U ?_
 rcases Sh.Ar h1 with ⟨b35,h1⟩ | ⟨b35,h1⟩
 ·refine zs b35 U ?_
  iterate 3 refine zs b35 rfl ?_
  refine zt b35 U ?_
  exact AE (M5 true (Sh.AK h1).symm _ (AP U))
 ·refine zg tb b35 U ?_
  refine zg tb b35 U ?_
  obtain⟨q36,gq36,h1⟩:=Sh.bind_some h1
  refine zd b35 Nd (DY gq36) rfl U U U ?_
  refine zg tb b35 U ?_
  refine zf b35 U ?_
  exact AE (M5 (!q36) (Sh.AK h1).symm _ (AP U))
theorem IW {N:Nat} {p0:(List Bool)} {p1:(List Int)} {r:Bool} (h0:Dj N p0 p1=some r):Ag Try.prog 49 [(ls eB p0),(ls eI p1)] [] (fun v st=>v=(.bool r)∧st=[]):=by
 unfold Dj at h0
 refine ai Try.func49 U U U U ?_
 refine zr tb U U ?_
 refine AN fun K2 hK2=>?_
 refine zr tb U U ?_
 obtain⟨o5,h1,h0⟩:=Sh.BP h0
 have M5 :∀(_:Unit),o5=Sum.inr ()→∀s,Wk 0 s ⟨28,AM [],[]⟩→K2 s:=by
  intro _ hq s hw
  subst o5
  try dsimp only at h0
  refine hK2 _ (AS hw ?_)
  refine zr tb U U ?_
  replace h0:=Sh.AK h0
  subst r
  exact AZ (xr (AF (L:=[(4,(.bool true))]) ⟨.rfl,trivial⟩))
 refine AY (Ap (σ:=Int) (fun n v=>Bo p0 p1 n v=some o5) (fun i4=>⟨28,AM [(0,(ls eB p0)),(1,(ls eI p1)),(5,(i64 i4))],[]⟩) N 0 h1 (AP U) (fun _ hv=>by rw[Bo] at hv;cases hv) ?_)
 rintro n i4 h1
 try dsimp only at h1 ⊢
 rw[Bo] at h1
 refine AN fun K7 hK7=>?_
 refine sr U fun K8 hK8=>?_
 refine zm tb 2 U ?_
 refine zl tb U U ?_
 refine zq tb U ?_
 refine dn hK8 U ?_
 refine ci h1 U ?_ ?_ <;> clear h1
 ·intro b9 h1
  refine AU (hK7 _ ?_)
  refine AN fun K10 hK10=>?_
  refine AY ?_
  refine AN fun K11 hK11=>?_
  obtain⟨o13,h2,h1⟩:=Sh.bind_some h1
  have M13 :∀(t12:Bool),o13=t12→∀s,Wk 0 s ⟨28,AM [(0,(ls eB p0)),(1,(ls eI p1)),(5,(i64 i4)),(27,(.bool t12))],[]⟩→K11 s:=by
   intro t12 hq s hw
   subst o13
   try dsimp only at h1
   refine hK11 _ (AS hw ?_)
   refine ci h1 U ?_ ?_ <;> clear h1
   ·intro b14 h1
    refine zr tb U U ?_
    replace h1:=Sh.AK h1
    subst o5
    try dsimp only[id] at h0
    replace h0:=Sh.AK h0
    subst r
    exact AZ (xr (AF (L:=[(4,(.bool false))]) ⟨.rfl,trivial⟩))
   ·intro b14 h1
    refine AU (hK10 _ ?_)
    refine AR (by rfl) ?_
    refine zm tb 3 U ?_
    exact AE (xi (Sh.w (i4+1)) h1 (AP U))
  refine AR (by rfl) ?_
  refine zm tb 2 U ?_
  obtain⟨c16,gc16,h2⟩:=Sh.bind_some h2
  refine zx Av gc16 U U U ?_
  refine zq tb U ?_
  obtain⟨q17,gq17,h2⟩:=Sh.bind_some h2
  refine zc L8 (Ch gq17) rfl U U ?_
  refine zq tb U ?_
  rcases Sh.Ar h2 with ⟨b18,h2⟩ | ⟨b18,h2⟩
  ·refine zg tb b18 U ?_
   iterate 2 refine zg tb b18 rfl ?_
   refine CY (v:=(.B4 (eI c16) 0)) (Ce U U b18) rfl (Ei Av U U gc16 U) ?_
   iterate 2 refine zg tb b18 rfl ?_
   obtain⟨c19,gc19,h2⟩:=Sh.bind_some h2
   refine CY (v:=(.B4 (eB c19) 0)) (Ce U U b18) rfl (Ei PD U U gc19 U) ?_
   iterate 2 refine zg tb b18 rfl ?_
   refine zt b18 U ?_
   exact AE (M13 (!c19) (Sh.AK h2).symm _ (AP U))
  ·refine zs b18 U ?_
   iterate 8 refine zs b18 rfl ?_
   refine zf b18 U ?_
   exact AE (M13 false (Sh.AK h2).symm _ (AP U))
 ·intro b9 h1
  exact Au (M5 () (Sh.AK h1).symm _ (AP U))
theorem IQ {N:Nat} {p0:(List Cell)} {r:Bool} (h0:Dp N p0=some r):Ag Try.prog 35 [(ls AA p0)] [] (fun v st=>v=(.bool r)∧st=[]):=by
 unfold Dp at h0
 refine ai Try.func35 U U U U ?_
 refine zr tb U U ?_
 refine sr U fun K2 hK2=>?_
 refine zq tb U ?_
 refine zl tb U U ?_
 obtain⟨l3,gl3,h0⟩:=Sh.bind_some h0
 refine Iw (m:=0) (st':=[(ro 0 4 1 eB l3)]) (enc:=eB) (u:=false) Ae PD U U U gl3 U U ?_
 refine zq tb U ?_
 refine dn hK2 U ?_
 refine zr tb U U ?_
 refine AN fun K5 hK5=>?_
 refine zr tb U U ?_
 obtain⟨o11,h1,h0⟩:=Sh.bind_some h0
 have M11 :∀(many10:Int),o11=many10→∀s,Wk 0 s ⟨40,AM [(0,(ls AA p0)),(4,(i64 many10))],[]⟩→K5 s:=by
  intro many10 hq s hw
  subst o11
  try dsimp only at h0
  refine hK5 _ (AS hw ?_)
  refine sr U fun K12 hK12=>?_
  refine zm tb 2 U ?_
  refine zl tb U U ?_
  refine zm tb 2 U ?_
  refine dn hK12 U ?_
  replace h0:=Sh.AK h0
  subst r
  exact AZ (xr (AF (L:=[(2,(.bool (decide (many10=(Sh.len p0)))))]) ⟨.rfl,trivial⟩))
 refine AY (Ap (σ:=Int×Bool×(List Bool)) (fun n v=>Bv N p0 n v.1 v.2.1 v.2.2=some o11) (fun (many7,more8,l9)=>⟨40,AM [(0,(ls AA p0)),(3,(ow 0 0 l9)),(4,(i64 many7)),(5,(.bool more8))],[(ro 0 4 1 eB l9)]⟩) N (0,true,l3) h1 (AP U) (fun _ hv=>by rw[Bv] at hv;cases hv) ?_)
 rintro n ⟨many7,more8,l9⟩ h1
 try dsimp only at h1 ⊢
 rw[Bv] at h1
 refine AN fun K13 hK13=>?_
 refine zr tb U U ?_
 refine ci h1 U ?_ ?_ <;> clear h1
 ·intro b15 h1
  refine AU (hK13 _ ?_)
  refine AY ?_
  iterate 2 refine zr tb rfl rfl ?_
  obtain⟨o25,h2,h1⟩:=Sh.bind_some h1
  have M25 :∀(many22:Int) (more23:Bool) (l24:(List Bool)),o25=(many22,more23,l24)→∀s,Wk 0 s ⟨40,AM [(0,(ls AA p0)),(3,(ow 0 0 l24)),(4,(i64 many22)),(5,(.bool more23))],[(ro 0 4 1 eB l24)]⟩→(∃v,Bv N p0 n v.1 v.2.1 v.2.2=some o11∧Wk 0 s ((fun (many7,more8,l9)=>⟨40,AM [(0,(ls AA p0)),(3,(ow 0 0 l9)),(4,(i64 many7)),(5,(.bool more8))],[(ro 0 4 1 eB l9)]⟩) v)):=by
   intro many22 more23 l24 hq s hw
   subst o25
   try dsimp only at h1
   exact Exists.intro (many22,more23,l24) (And.intro h1 (hw.trans (AF (L:=[(0,(ls AA p0)),(3,(ow 0 0 l24)),(4,(i64 many22)),(5,(.bool more23))]) ⟨.rfl,.rfl,.rfl,.rfl,trivial⟩)))
  refine AY (Ap (σ:=Int×Bool×Int×(List Bool)) (fun n v=>Br N p0 n v.1 v.2.1 v.2.2.1 v.2.2.2=some o25) (fun (many18,more19,i20,l21)=>⟨40,AM [(0,(ls AA p0)),(3,(ow 0 0 l21)),(4,(i64 many18)),(5,(.bool more19)),(6,(i64 i20))],[(ro 0 4 1 eB l21)]⟩) N (many7,false,0,l9) h2 (AP U) (fun _ hv=>by rw[Br] at hv;cases hv) ?_)
  rintro n ⟨many18,more19,i20,l21⟩ h2
  try dsimp only at h2 ⊢
  rw[Br] at h2
  refine AN fun K26 hK26=>?_
  refine sr U fun K27 hK27=>?_
  refine zm tb 2 U ?_
  refine zl tb U U ?_
  refine zq tb U ?_
  refine dn hK27 U ?_
  refine ci h2 U ?_ ?_ <;> clear h2
  ·intro b28 h2
   refine AU (hK26 _ ?_)
   refine AN fun K29 hK29=>?_
   obtain⟨o33,h3,h2⟩:=Sh.bind_some h2
   have M33 :∀(many30:Int) (more31:Bool) (l32:(List Bool)),o33=(many30,more31,l32)→∀s,Wk 0 s ⟨40,AM [(0,(ls AA p0)),(3,(ow 0 0 l32)),(4,(i64 many30)),(5,(.bool more31)),(6,(i64 i20))],[(ro 0 4 1 eB l32)]⟩→K29 s:=by
    intro many30 more31 l32 hq s hw
    subst o33
    try dsimp only at h2
    refine hK29 _ (AS hw ?_)
    refine AR (by rfl) ?_
    refine zm tb 3 U ?_
    exact AE (xi (many30,more31,Sh.w (i20+1),l32) h2 (AP U))
   refine AY ?_
   refine AN fun K34 hK34=>?_
   obtain⟨o36,h4,h3⟩:=Sh.bind_some h3
   have M36 :∀(t35:Bool),o36=t35→∀s,Wk 0 s ⟨40,AM [(0,(ls AA p0)),(3,(ow 0 0 l21)),(4,(i64 many18)),(5,(.bool more19)),(6,(i64 i20)),(30,(.bool t35))],[(ro 0 4 1 eB l21)]⟩→K34 s:=by
    intro t35 hq s hw
    subst o36
    try dsimp only at h3
    refine hK34 _ (AS hw ?_)
    refine ci h3 U ?_ ?_ <;> clear h3
    ·intro b37 h3
     refine sr U fun K38 hK38=>?_
     refine zm tb 2 U ?_
     obtain⟨c39,gc39,h3⟩:=Sh.bind_some h3
     refine zz (.ptr 0 0 (Int.toNat i20) 0) (An PD U U U U gc39) rfl ?_
     refine Dy (st':=[(ro 0 4 1 eB (Sh.put l21 i20 true))]) (u':=true) Ae Si U U gc39 U U U (show 0+1≤1 by decide) rfl U ?_
     refine dn hK38 U ?_
     refine zr tb U U ?_
     refine AR (by rfl) ?_
     refine zq tb U ?_
     exact AE (M33 (Sh.w (many18+1)) true (Sh.put l21 i20 true) (Sh.AK h3).symm _ (AF (L:=[(0,(.sl (List.map AA p0))),(3,(.own 0 0 (List.length (Sh.put l21 i20 true)))),(4,(i64 (Sh.w (many18+1)))),(5,(.bool true)),(6,(i64 i20))]) ⟨.rfl,(.len (by simp only[Sh.CO])),.rfl,.rfl,.rfl,trivial⟩))
    ·intro b37 h3
     exact AU (M33 many18 more19 l21 (Sh.AK h3).symm _ (AP U))
   refine AR (by rfl) ?_
   refine zm tb 2 U ?_
   obtain⟨c41,gc41,h4⟩:=Sh.bind_some h4
   refine zz (.ptr 0 0 (Int.toNat i20) 0) (An PD U U U U gc41) rfl ?_
   refine zz (.bool c41) (Aw Si U U (Am gc41) rfl) rfl ?_
   refine zm tb 2 U ?_
   rcases Sh.Ar h4 with ⟨b42,h4⟩ | ⟨b42,h4⟩
   ·refine zg tb b42 U ?_
    iterate 2 refine zg tb b42 rfl ?_
    obtain⟨c43,gc43,h4⟩:=Sh.bind_some h4
    refine CY (v:=(.B4 (AA c43) 0)) (Ce U U b42) rfl (Ei A3 U U gc43 U) ?_
    iterate 2 refine zg tb b42 rfl ?_
    obtain⟨q44,gq44,h4⟩:=Sh.bind_some h4
    refine DJ (v':=(.bool q44)) (st':=[(ro 0 4 1 eB l21)]) (Ce U U b42) Sj (IW gq44) rfl (.own U U (fun _=>U) (.val U .nil)) rfl trivial U U ?_
    refine zt b42 U ?_
    exact AE (M36 q44 (Sh.AK h4).symm _ (AP U))
   ·refine zs b42 U ?_
    iterate 6 refine zs b42 rfl ?_
    refine zf b42 U ?_
    exact AE (M36 false (Sh.AK h4).symm _ (AP U))
  ·intro b28 h2
   exact Au (M25 many18 more19 l21 (Sh.AK h2).symm _ (AP U))
 ·intro b15 h1
  exact Au (M11 many7 (Sh.AK h1).symm _ (Be _ U))
theorem De {N:Nat} {p0:(List Cell)} {r:Bool} (h0:CA N p0=some r):Ag Try.prog 22 [(ls AA p0)] [] (fun v st=>v=(.bool r)∧st=[]):=by
 unfold CA at h0
 refine ai Try.func22 U U U U ?_
 refine zr tb U U ?_
 refine AN fun K2 hK2=>?_
 refine AN fun K3 hK3=>?_
 obtain⟨o5,h1,h0⟩:=Sh.bind_some h0
 have M5 :∀(t4:Bool),o5=t4→∀s,Wk 0 s ⟨60,AM [(0,(ls AA p0)),(18,(.bool t4))],[]⟩→K3 s:=by
  intro t4 hq s hw
  subst o5
  try dsimp only at h0
  refine hK3 _ (AS hw ?_)
  refine ci h0 U ?_ ?_ <;> clear h0
  ·intro b6 h0
   refine zr tb U U ?_
   replace h0:=Sh.AK h0
   subst r
   exact AZ (xr (AF (L:=[(2,(.bool false))]) ⟨.rfl,trivial⟩))
  ·intro b6 h0
   refine AU (hK2 _ ?_)
   refine AN fun K8 hK8=>?_
   refine zr tb U U ?_
   obtain⟨o11,h1,h0⟩:=Sh.BP h0
   have M11 :∀(_:Unit),o11=Sum.inr ()→∀s,Wk 0 s ⟨60,AM [(0,(ls AA p0))],[]⟩→K8 s:=by
    intro _ hq s hw
    subst o11
    try dsimp only at h0
    refine hK8 _ (AS hw ?_)
    refine sr U fun K12 hK12=>?_
    refine zq tb U ?_
    obtain⟨q13,gq13,h0⟩:=Sh.bind_some h0
    refine BJ (v':=(ow 0 0 q13)) (st':=[(ro 0 3 1 eI q13)]) Ae ET (Ax gq13) rfl U ⟨(BD fun _=>U),trivial⟩ U U ?_
    refine zq tb U ?_
    refine dn hK12 U ?_
    refine AN fun K14 hK14=>?_
    refine zr tb U U ?_
    obtain⟨o17,h1,h0⟩:=Sh.BP h0
    have M17 :∀(_:Unit),o17=Sum.inr ()→∀s,Wk 0 s ⟨60,AM [(0,(ls AA p0))],[]⟩→K14 s:=by
     intro _ hq s hw
     subst o17
     try dsimp only at h0
     refine hK14 _ (AS hw ?_)
     refine sr U fun K18 hK18=>?_
     refine zq tb U ?_
     obtain⟨q19,gq19,h0⟩:=Sh.bind_some h0
     refine zc TL (IQ gq19) rfl U U ?_
     refine zq tb U ?_
     refine dn hK18 U ?_
     replace h0:=Sh.AK h0
     subst r
     exact AZ (xr (AF (L:=[(2,(.bool q19))]) ⟨.rfl,trivial⟩))
    refine AY (Ap (σ:=Int) (fun n v=>Bp p0 q13 n v=some o17) (fun i16=>⟨60,AM [(0,(ls AA p0)),(4,(ow 0 0 q13)),(5,(i64 i16))],[(ro 0 3 1 eI q13)]⟩) N 0 h1 (AP U) (fun _ hv=>by rw[Bp] at hv;cases hv) ?_)
    rintro n i16 h1
    try dsimp only at h1 ⊢
    rw[Bp] at h1
    refine AN fun K20 hK20=>?_
    refine sr U fun K21 hK21=>?_
    refine zm tb 2 U ?_
    refine zl tb U U ?_
    refine zq tb U ?_
    refine dn hK21 U ?_
    refine ci h1 U ?_ ?_ <;> clear h1
    ·intro b22 h1
     refine AU (hK20 _ ?_)
     refine AN fun K23 hK23=>?_
     refine AY ?_
     refine AN fun K24 hK24=>?_
     obtain⟨o26,h2,h1⟩:=Sh.bind_some h1
     have M26 :∀(t25:Bool),o26=t25→∀s,Wk 0 s ⟨60,AM [(0,(ls AA p0)),(4,(ow 0 0 q13)),(5,(i64 i16)),(57,(.bool t25))],[(ro 0 3 1 eI q13)]⟩→K24 s:=by
      intro t25 hq s hw
      subst o26
      try dsimp only at h1
      refine hK24 _ (AS hw ?_)
      refine ci h1 U ?_ ?_ <;> clear h1
      ·intro b27 h1
       refine zr tb U U ?_
       replace h1:=Sh.AK h1
       subst o17
       try dsimp only[id] at h0
       replace h0:=Sh.AK h0
       subst r
       exact AZ (xr (Be [(2,(.bool false))] U))
      ·intro b27 h1
       refine AU (hK23 _ ?_)
       refine AR (by rfl) ?_
       refine zm tb 3 U ?_
       exact AE (xi (Sh.w (i16+1)) h1 (AP U))
     refine E9 (by kernel_rfl) (by kernel_rfl) (by rfl) ?_
     iterate 2 refine yq tb rfl ?_
     obtain⟨c29,gc29,h2⟩:=Sh.bind_some h2
     refine yx A3 gc29 U U U ?_
     iterate 4 refine yq tb rfl ?_
     rcases Sh.Ar h2 with ⟨b30,h2⟩ | ⟨b30,h2⟩
     ·refine yg tb b30 U ?_
      refine yg tb b30 U ?_
      refine Gu (v:=(.B4 (AA c29) 0)) (Ce U U b30) rfl (Ei A3 U U gc29 U) ?_
      iterate 4 refine yg tb b30 rfl ?_
      obtain⟨c31,gc31,h2⟩:=Sh.bind_some h2
      refine Gu (v:=(.ptr 0 0 (Int.toNat i16) 0)) (Ce U U b30) rfl (An Av U U U U gc31) ?_
      refine Gu (v:=(i64 c31)) (Ce U U b30) rfl (Aw CM U U (Am gc31) rfl) ?_
      refine yg tb b30 U ?_
      refine yt b30 U ?_
      exact DN (M26 (decide (c29.count < c31)) (Sh.AK h2).symm _ (AP U))
     ·refine ys b30 U ?_
      iterate 9 refine ys b30 rfl ?_
      refine yf b30 U ?_
      exact DN (M26 false (Sh.AK h2).symm _ (AP U))
    ·intro b22 h1
     exact Au (M17 () (Sh.AK h1).symm _ (Be _ U))
   refine AY (Ap (σ:=Int) (fun n v=>Bu N p0 n v=some o11) (fun i10=>⟨60,AM [(0,(ls AA p0)),(3,(i64 i10))],[]⟩) N 0 h1 (AP U) (fun _ hv=>by rw[Bu] at hv;cases hv) ?_)
   rintro n i10 h1
   try dsimp only at h1 ⊢
   rw[Bu] at h1
   refine AN fun K32 hK32=>?_
   refine sr U fun K33 hK33=>?_
   refine zm tb 2 U ?_
   refine zl tb U U ?_
   refine zq tb U ?_
   refine dn hK33 U ?_
   refine ci h1 U ?_ ?_ <;> clear h1
   ·intro b34 h1
    refine AU (hK32 _ ?_)
    refine AN fun K35 hK35=>?_
    refine AY ?_
    refine sr U fun K36 hK36=>?_
    refine zm tb 3 U ?_
    obtain⟨c37,gc37,h1⟩:=Sh.bind_some h1
    refine zx A3 gc37 U U U ?_
    refine zq tb U ?_
    obtain⟨q38,gq38,h1⟩:=Sh.bind_some h1
    refine zc S4 (Ie gq38) rfl U U ?_
    refine zq tb U ?_
    refine dn hK36 U ?_
    refine ci h1 U ?_ ?_ <;> clear h1
    ·intro b39 h1
     have b40:q38=false:=by simpa using b39
     refine zr tb U U ?_
     replace h1:=Sh.AK h1
     subst o11
     try dsimp only[id] at h0
     replace h0:=Sh.AK h0
     subst r
     exact AZ (xr (AF (L:=[(2,(.bool false))]) ⟨.rfl,trivial⟩))
    ·intro b39 h1
     have b42:q38=true:=by simpa using b39
     refine AU (hK35 _ ?_)
     refine AR (by rfl) ?_
     refine zm tb 3 U ?_
     exact AE (xi (Sh.w (i10+1)) h1 (AP U))
   ·intro b34 h1
    exact Au (M11 () (Sh.AK h1).symm _ (AP U))
 refine AR (by rfl) ?_
 refine zq tb U ?_
 refine zl tb U U ?_
 refine zm tb 2 U ?_
 rcases Sh.Ar h1 with ⟨b43,h1⟩ | ⟨b43,h1⟩
 ·refine zg tb b43 U ?_
  refine zg tb b43 U ?_
  refine CY (v:=(i64 (Sh.len p0))) (Ce U U b43) rfl (Ea Ec U) ?_
  refine zg tb b43 U ?_
  obtain⟨c44,gc44,h1⟩:=Sh.bind_some h1
  refine CY (v:=(.B4 (AA c44) 0)) (Ce U U b43) rfl (Ei A3 U U gc44 U) ?_
  iterate 3 refine zg tb b43 rfl ?_
  refine zt b43 U ?_
  exact AE (M5 (decide (c44.count=0)) (Sh.AK h1).symm _ (AP U))
 ·refine zs b43 U ?_
  iterate 7 refine zs b43 rfl ?_
  refine zf b43 U ?_
  exact AE (M5 false (Sh.AK h1).symm _ (AP U))
theorem IN {N:Nat} {p0:(List Cell)} {r:Int} (h0:Dl N p0=some r):Ag Try.prog 51 [(ls AA p0)] [] (fun v st=>v=(i64 r)∧st=[]):=by
 unfold Dl at h0
 refine ai Try.func51 U U U U ?_
 refine zr tb U U ?_
 refine AN fun K2 hK2=>?_
 refine zr tb U U ?_
 obtain⟨o5,h1,h0⟩:=Sh.BP h0
 have M5 :∀(_:Unit),o5=Sum.inr ()→∀s,Wk 0 s ⟨19,AM [(0,(ls AA p0))],[]⟩→K2 s:=by
  intro _ hq s hw
  subst o5
  try dsimp only at h0
  refine hK2 _ (AS hw ?_)
  refine sr U fun K6 hK6=>?_
  refine zq tb U ?_
  refine zl tb U U ?_
  refine zq tb U ?_
  refine dn hK6 U ?_
  replace h0:=Sh.AK h0
  subst r
  exact AZ (xr (AF (L:=[(2,(i64 (Sh.len p0)))]) ⟨.rfl,trivial⟩))
 refine AY (Ap (σ:=Int) (fun n v=>By p0 n v=some o5) (fun i4=>⟨19,AM [(0,(ls AA p0)),(3,(i64 i4))],[]⟩) N 0 h1 (AP U) (fun _ hv=>by rw[By] at hv;cases hv) ?_)
 rintro n i4 h1
 try dsimp only at h1 ⊢
 rw[By] at h1
 refine AN fun K7 hK7=>?_
 refine sr U fun K8 hK8=>?_
 refine zm tb 2 U ?_
 refine zl tb U U ?_
 refine zq tb U ?_
 refine dn hK8 U ?_
 refine ci h1 U ?_ ?_ <;> clear h1
 ·intro b9 h1
  refine AU (hK7 _ ?_)
  refine AN fun K10 hK10=>?_
  refine AY ?_
  refine sr U fun K11 hK11=>?_
  refine zm tb 2 U ?_
  obtain⟨c12,gc12,h1⟩:=Sh.bind_some h1
  refine zx A3 gc12 U U U ?_
  refine zm tb 3 U ?_
  refine dn hK11 U ?_
  refine ci h1 U ?_ ?_ <;> clear h1
  ·intro b13 h1
   refine zr tb U U ?_
   replace h1:=Sh.AK h1
   subst o5
   try dsimp only[id] at h0
   replace h0:=Sh.AK h0
   subst r
   exact AZ (xr (AF (L:=[(2,(i64 i4))]) ⟨.rfl,trivial⟩))
  ·intro b13 h1
   refine AU (hK10 _ ?_)
   refine AR (by rfl) ?_
   refine zm tb 3 U ?_
   exact AE (xi (Sh.w (i4+1)) h1 (AP U))
 ·intro b9 h1
  exact Au (M5 () (Sh.AK h1).symm _ (AP U))
theorem Cv {p0:(List Int)} {r:(List Int)} (h0:Ca p0=some r):Ag Try.prog 46 [(ls eI p0)] [] (fun v st=>v=(ow 0 0 r)∧st=[(ro 0 3 1 eI r)]):=by
 unfold Ca at h0
 refine ai Try.func46 U U U U ?_
 refine zr tb U U ?_
 refine sr U fun K2 hK2=>?_
 refine Bc (m:=0) (st':=[(ro 0 3 1 eI ([]:List Int))]) (l:=([]:List Int)) (enc:=eI) Ae Av (by decide) rfl U U U U U ?_
 refine zq tb U ?_
 obtain⟨l3,gl3,h0⟩:=Sh.bind_some h0
 refine EP (st':=[(ro 1 3 1 eI l3)]) (l2:=p0) Ae Av U U U U MF (fun _=>U) gl3 U ?_
 refine zq tb U ?_
 refine dn hK2 U ?_
 replace h0:=Sh.AK h0
 subst r
 exact AZ (xr (Fy (L:=[(2,(ow 0 0 l3))]) (st':=[(ro 0 3 1 eI l3)]) (.pure (AB fun _=>U) .nil) ⟨.rfl,trivial⟩))
theorem Cu {N:Nat} {s0:(List Cell)} {r:(List Cell)} (h0:B8 N s0=some r):Ag Try.prog 36 [(ow 0 0 s0)] [(ro 0 30 3 AA s0)] (fun v st=>v=(ow 1 0 r)∧st=[(ro 0 30 3 AA s0),(ro 0 30 3 AA r)]):=by
 unfold B8 at h0
 refine ai Try.func36 U U U U ?_
 refine zr tb U U ?_
 refine sr U fun K2 hK2=>?_
 refine Bc (m:=1) (st':=[(ro 0 30 3 AA s0),(ro 0 30 3 AA ([]:List Cell))]) (l:=([]:List Cell)) (enc:=AA) Ae A3 (by decide) rfl U U U U U ?_
 refine zq tb U ?_
 refine dn hK2 U ?_
 refine AN fun K3 hK3=>?_
 refine zr tb U U ?_
 obtain⟨o8,h1,h0⟩:=Sh.bind_some h0
 have M8 :∀(l7:(List Cell)),o8=l7→∀s,Wk 1 s ⟨33,AM [(3,(ow 1 0 l7))],[(ro 0 30 3 AA s0),(ro 0 30 3 AA l7)]⟩→K3 s:=by
  intro l7 hq s hw
  subst o8
  try dsimp only at h0
  refine hK3 _ (AS hw ?_)
  refine zr tb U U ?_
  replace h0:=Sh.AK h0
  subst r
  exact AZ (xr (AF (L:=[(2,(ow 1 0 l7))]) ⟨.rfl,trivial⟩))
 refine AY (Ap (σ:=Int×(List Cell)) (fun n v=>BN s0 n v.1 v.2=some o8) (fun (i5,l6)=>⟨33,AM [(0,(ow 0 0 s0)),(3,(ow 1 0 l6)),(4,(i64 i5))],[(ro 0 30 3 AA s0),(ro 0 30 3 AA l6)]⟩) N (0,[]) h1 (AP U) (fun _ hv=>by rw[BN] at hv;cases hv) ?_)
 rintro n ⟨i5,l6⟩ h1
 try dsimp only at h1 ⊢
 rw[BN] at h1
 refine AN fun K10 hK10=>?_
 refine sr U fun K11 hK11=>?_
 refine zm tb 2 U ?_
 refine zz (i64 (Sh.len s0)) (Bj Ec U U U) rfl ?_
 refine zq tb U ?_
 refine dn hK11 U ?_
 refine ci h1 U ?_ ?_ <;> clear h1
 ·intro b12 h1
  refine AU (hK10 _ ?_)
  refine AN fun K13 hK13=>?_
  refine AY ?_
  refine Ef 19 (by kernel_rfl) (by kernel_rfl) (by rfl) ?_
  iterate 3 refine yq tb rfl ?_
  obtain⟨c14,gc14,h1⟩:=Sh.bind_some h1
  refine yz (.ptr 0 0 (Int.toNat i5) 0) (An A3 U U U U gc14) rfl ?_
  refine yq tb U ?_
  refine yz (i64 c14.count) (Aw CM U U (Am gc14) rfl) rfl ?_
  iterate 2 refine yq tb rfl ?_
  refine yz (.ptr 0 0 (Int.toNat i5) 0) (An A3 U U U U gc14) rfl ?_
  refine yq tb U ?_
  refine yz (i64 c14.tag) (Aw CM U U (Am gc14) rfl) rfl ?_
  iterate 2 refine yq tb rfl ?_
  refine yz (.ptr 0 0 (Int.toNat i5) 0) (An A3 U U U U gc14) rfl ?_
  refine yq tb U ?_
  refine yz (ls eI c14.fields) (Aw Jq U U (Am gc14) rfl) rfl ?_
  obtain⟨q15,gq15,h1⟩:=Sh.bind_some h1
  refine KE (v:=(ls eI q15)) Ae MQ (Ag.wk (Cv gq15) (by refine Wk.trans (Wk.A2 (L:=[(0,(ls eI q15))]) (st':=[⟨1,3,1,[]⟩]) (id:=0) rfl (show 0≤0 by decide) (AB fun _=>U) ⟨(.A2 U),trivial⟩ U) ?_;refine Wk.trans (AL (L:=[(0,(ls eI q15))]) (st':=[]) (st1:=[]) [] U .nil (by decide) rfl U .nil ⟨.rfl,trivial⟩) ?_;exact AF (L:=[(0,(ls eI q15))]) ⟨.rfl,trivial⟩)) rfl U U ?_
  refine yz (.agg [(i64 c14.count),(i64 c14.tag),(ls eI q15)]) (FY L5 Ma Hu U U) rfl ?_
  refine Ru (l:=[(Cell.mk c14.count c14.tag q15)]) (enc:=AA) Ae A3 (by decide) rfl U U U U (AB fun _=>U) ?_
  refine DN ?_
  obtain⟨l16,gl16,h1⟩:=Sh.bind_some h1
  refine EP (st':=[(ro 0 30 3 AA s0),(ro 1 30 3 AA l16)]) (l2:=[(Cell.mk c14.count c14.tag q15)]) Ae A3 U U U U MF (fun _=>U) gl16 U ?_
  refine zq tb U ?_
  refine dn hK13 U ?_
  refine AR (by rfl) ?_
  refine zm tb 3 U ?_
  exact AE (xi (Sh.w (i5+1),l16) h1 (Dc (L:=[(0,(ow 0 0 s0)),(3,(ow 1 0 l16)),(4,(i64 (Sh.w (i5+1))))]) (st':=[(ro 0 30 3 AA s0),(ro 0 30 3 AA l16)]) (.pure U (AB fun _=>U) (.pure U (AB fun _=>U) .nil)) ⟨.rfl,.rfl,.rfl,trivial⟩))
 ·intro b12 h1
  exact Au (M8 l6 (Sh.AK h1).symm _ (AP U))
theorem Kp {s0:(List Cell)} {p1:Int} {p2:Int} {p3:(List Int)} {r:(List Cell)} (h0:FJ s0 p1 p2 p3=some r):Ag Try.prog 52 [(ow 0 0 s0),(i64 p1),(i64 p2),(ls eI p3)] [(ro 0 30 3 AA s0)] (fun v st=>v=(ow 0 1 r)∧st=[(ro 1 30 3 AA r)]):=by
 unfold FJ at h0
 refine ai Try.func52 U U U U ?_
 refine zr tb U U ?_
 refine sr U fun K2 hK2=>?_
 refine zm tb 2 U ?_
 obtain⟨q3,gq3,h0⟩:=Sh.bind_some h0
 refine BJ (v':=(ow 1 0 q3)) (st':=[(ro 0 30 3 AA s0),(ro 0 3 1 eI q3)]) Ae MQ (Cv gq3) rfl U ⟨(BD fun _=>U),trivial⟩ U U ?_
 refine zz (.agg [(i64 1),(i64 p2),(ow 1 0 q3)]) (FY L5 Ma Hu U U) rfl ?_
 refine BF (m:=2) (st':=[(ro 0 30 3 AA s0),(ro 0 3 1 eI q3),⟨0,30,3,[[(i64 0),(i64 0),.zc]]⟩]) Ae Hu U U ?_
 refine Af (Wk.A2 (L:=[(0,(ow 0 0 s0)),(1,(i64 p1)),(9,(.ptr 2 0 0 0)),(13,(.agg [(i64 1),(i64 p2),(ls eI q3)]))]) (st':=[(ro 0 30 3 AA s0),⟨1,3,1,[]⟩,⟨0,30,3,[[(i64 0),(i64 0),.zc]]⟩]) (id:=1) rfl (show 1≤1 by decide) (AB fun _=>U) ⟨.rfl,.rfl,.rfl,(.agg ⟨.rfl,.rfl,(.E6 U),trivial⟩),trivial⟩ U) ?_
 refine Bt (st':=[(ro 0 30 3 AA s0),⟨1,3,1,[]⟩,⟨0,30,3,[[(i64 1),(i64 p2),(ls eI q3)]]⟩]) Ae I6 U U U U U U (show 0+3≤3 by decide) rfl ?_
 refine dn hK2 U ?_
 refine AN fun K4 hK4=>?_
 refine sr U fun K5 hK5=>?_
 refine zm tb 2 U ?_
 refine zz (i64 (Sh.len s0)) (Bj Ec U U U) rfl ?_
 refine zq tb U ?_
 refine dn hK5 U ?_
 refine ci h0 U ?_ ?_ <;> clear h0
 ·intro b6 h0
  refine sr U fun K7 hK7=>?_
  refine zm tb 2 U ?_
  refine Bc (m:=3) (st':=[(ro 0 30 3 AA s0),⟨1,3,1,[]⟩,⟨0,30,3,[[(i64 1),(i64 p2),(ls eI q3)]]⟩,(ro 0 30 3 AA [(Cell.mk 1 p2 q3)])]) (l:=[(Cell.mk 1 p2 q3)]) (enc:=AA) Ae A3 (by decide) rfl U U U U U ?_
  obtain⟨l8,gl8,h0⟩:=Sh.bind_some h0
  refine EP (st':=[(ro 1 30 3 AA l8),⟨1,3,1,[]⟩,⟨0,30,3,[[(i64 1),(i64 p2),(ls eI q3)]]⟩,(ro 0 30 3 AA [(Cell.mk 1 p2 q3)])]) (l2:=[(Cell.mk 1 p2 q3)]) Ae A3 U U U U (LN U U) (fun _=>U) gl8 U ?_
  refine zq tb U ?_
  refine dn hK7 U ?_
  replace h0:=Sh.AK h0
  subst r
  exact AZ (xr (AL (L:=[(8,(ow 0 1 l8))]) (st':=[(ro 1 30 3 AA l8)]) (st1:=[(ro 1 30 3 AA l8)]) [0] U (.pure (AB fun _=>U) .nil) (by decide) rfl U (.pure (AB fun _=>U) .nil) ⟨.rfl,trivial⟩))
 ·intro b6 h0
  refine AU (hK4 _ ?_)
  refine sr U fun K9 hK9=>?_
  refine zm tb 3 U ?_
  obtain⟨c10,gc10,h0⟩:=Sh.bind_some h0
  refine zz (.ptr 0 0 (Int.toNat p1) 0) (An A3 U U U U gc10) rfl ?_
  refine Dy (st':=[(ro 0 30 3 AA (Sh.put s0 p1 (Cell.mk 1 p2 q3))),⟨1,3,1,[]⟩,⟨0,30,3,[[(i64 1),(i64 p2),(ls eI q3)]]⟩]) (u':=(Cell.mk 1 p2 q3)) Ae I6 U U gc10 U U U (show 0+3≤3 by decide) rfl U ?_
  refine dn hK9 U ?_
  refine zr tb U U ?_
  replace h0:=Sh.AK h0
  subst r
  exact AZ (Exists.intro _ (And.intro (((LJ (L:=[(8,(.own 0 1 (List.length s0)))]) (st':=[⟨1,30,3,List.map AA (Sh.put s0 p1 (Cell.mk 1 p2 q3))⟩,⟨1,3,1,[]⟩,⟨0,30,3,[[(i64 1),(i64 p2),(.sl (List.map eI q3))]]⟩]) (st1:=[⟨0,30,3,List.map AA (Sh.put s0 p1 (Cell.mk 1 p2 q3))⟩,⟨1,3,1,[]⟩,⟨0,30,3,[[(i64 1),(i64 p2),(.sl (List.map eI q3))]]⟩]) 0 U (.pure (AB fun _=>U) (.pure (by intro x hx;cases hx) (.raw U U .nil))) rfl ⟨.rfl,trivial⟩).trans (AL (L:=[(8,(.own 0 1 (List.length s0)))]) (st':=[⟨1,30,3,List.map AA (Sh.put s0 p1 (Cell.mk 1 p2 q3))⟩]) (st1:=[⟨1,30,3,List.map AA (Sh.put s0 p1 (Cell.mk 1 p2 q3))⟩]) [0] U (.pure (AB fun _=>U) .nil) (by decide) rfl U (.pure (AB fun _=>U) .nil) ⟨.rfl,trivial⟩)).trans (AF (L:=[(8,(.own 0 1 (List.length (Sh.put s0 p1 (Cell.mk 1 p2 q3)))))]) ⟨(.len (by simp only[Sh.CO])),trivial⟩)) (And.intro U U)))
theorem IX {N:Nat} {s0:(List Cell)} {p1:Int} {p2:(List Int)} {r:(List Cell)×Int} (h0:Dt N s0 p1 p2=some r):Ag Try.prog 39 [(ow 0 0 s0),(i64 p1),(ls eI p2)] [(ro 0 30 3 AA s0)] (fun v st=>v=(.BI [(ow 1 0 r.1),(i64 r.2)])∧st=[(ro 0 30 3 AA s0),(ro 0 30 3 AA r.1)]):=by
 unfold Dt at h0
 refine ai Try.func39 U U U U ?_
 refine zr tb U U ?_
 refine AN fun K2 hK2=>?_
 refine sr U fun K3 hK3=>?_
 refine zq tb U ?_
 obtain⟨q4,gq4,h0⟩:=Sh.bind_some h0
 refine DJ (v':=(.bool q4)) (st':=[(ro 0 30 3 AA s0)]) Ae PH (De gq4) rfl (.own U U (fun _=>U) .nil) rfl trivial U U ?_
 refine zq tb U ?_
 refine dn hK3 U ?_
 refine ci h0 U ?_ ?_ <;> clear h0
 ·intro b5 h0
  have b6:q4=false:=by simpa using b5
  refine zr tb U U ?_
  replace h0:=Sh.AK h0
  subst r
  exact AZ (Exists.intro _ (And.intro (((Ct (t:=6) rfl 30 (size:=3) (by decide)).trans (AF (L:=[(6,(.own 1 0 (List.length ([]:List Cell)))),(7,(i64 0))]) ⟨.rfl,.rfl,trivial⟩)).trans (AF (L:=[(6,(.own 1 0 (List.length ([]:List Cell)))),(7,(i64 0))]) ⟨.rfl,.rfl,trivial⟩)) (And.intro U U)))
 ·intro b5 h0
  have b8:q4=true:=by simpa using b5
  refine AU (hK2 _ ?_)
  refine sr U fun K9 hK9=>?_
  refine zq tb U ?_
  obtain⟨q10,gq10,h0⟩:=Sh.bind_some h0
  refine DJ (v':=(i64 q10)) (st':=[(ro 0 30 3 AA s0)]) Ae Su (IN gq10) rfl (.own U U (fun _=>U) .nil) rfl trivial U U ?_
  refine zq tb U ?_
  refine dn hK9 U ?_
  refine AN fun K11 hK11=>?_
  refine zr tb U U ?_
  obtain⟨o14,h1,h0⟩:=Sh.BP h0
  have M14 :∀(_:Unit),o14=Sum.inr ()→∀s,Wk 1 s ⟨41,AM [(0,(ow 0 0 s0)),(1,(i64 p1)),(2,(ls eI p2)),(8,(i64 q10))],[(ro 0 30 3 AA s0)]⟩→K11 s:=by
   intro _ hq s hw
   subst o14
   try dsimp only at h0
   refine hK11 _ (AS hw ?_)
   refine sr U fun K15 hK15=>?_
   refine zq tb U ?_
   obtain⟨q16,gq16,h0⟩:=Sh.bind_some h0
   refine Ad (rowsP:=[(ro 0 30 3 AA s0)]) (rows0:=[(ro 0 30 3 AA s0)]) (rows1:=[(ro 0 30 3 AA s0)]) (rows2:=[(ro 0 30 3 AA q16)]) (rows1':=[(ro 0 30 3 AA s0)]) (rows2':=[(ro 0 30 3 AA q16)]) (st':=[(ro 0 30 3 AA s0),(ro 0 30 3 AA q16)]) (v':=(ow 1 0 q16)) [0] Ae KW (Cu gq16) rfl (by decide) rfl U (.pure (AB fun _=>U) .nil) rfl U (.pure (AB fun _=>U) .nil) (.pure (AB fun _=>U) .nil) rfl U ?_
   refine zm tb 3 U ?_
   obtain⟨q17,gq17,h0⟩:=Sh.bind_some h0
   refine Ad (rowsP:=[(ro 0 30 3 AA q16)]) (rows0:=[(ro 0 30 3 AA q16)]) (rows1:=[(ro 1 30 3 AA q17)]) (rows2:=[]) (rows1':=[(ro 1 30 3 AA q17)]) (rows2':=[]) (st':=[(ro 0 30 3 AA s0),(ro 1 30 3 AA q17)]) (v':=(ow 1 1 q17)) [1] Ae S6 (Kp gq17) rfl (by decide) rfl U (.pure (AB fun _=>U) .nil) rfl U (.pure (AB fun _=>U) .nil) .nil U U ?_
   refine zq tb U ?_
   refine dn hK15 U ?_
   refine AN fun K18 hK18=>?_
   refine sr U fun K19 hK19=>?_
   refine zq tb U ?_
   obtain⟨q20,gq20,h0⟩:=Sh.bind_some h0
   refine DJ (v':=(.bool q20)) (st':=[(ro 0 30 3 AA s0),(ro 1 30 3 AA q17)]) Ae PH (De gq20) rfl (.own U U (fun _=>U) .nil) rfl trivial U U ?_
   refine zq tb U ?_
   refine dn hK19 U ?_
   refine ci h0 U ?_ ?_ <;> clear h0
   ·intro b21 h0
    have b22:q20=false:=by simpa using b21
    refine zr tb U U ?_
    replace h0:=Sh.AK h0
    subst r
    exact AZ (Exists.intro _ (And.intro ((((Ct (t:=6) rfl 30 (size:=3) (by decide)).trans (AF (L:=[(6,(.own 2 0 (List.length ([]:List Cell)))),(7,(i64 0))]) ⟨.rfl,.rfl,trivial⟩)).trans (AL (L:=[(6,(.own 1 0 (List.length ([]:List Cell)))),(7,(i64 0))]) (st':=[(ro 0 30 3 AA s0),(ro 0 30 3 AA ([]:List Cell))]) (st1:=[(ro 0 30 3 AA s0),(ro 0 30 3 AA ([]:List Cell))]) [0,2] U (.pure (AB fun _=>U) .nil) (by decide) rfl U (.pure (AB fun _=>U) (.pure (AB fun _=>U) .nil)) ⟨.rfl,.rfl,trivial⟩)).trans (AF (L:=[(6,(.own 1 0 (List.length ([]:List Cell)))),(7,(i64 0))]) ⟨.rfl,.rfl,trivial⟩)) (And.intro U U)))
   ·intro b21 h0
    have b24:q20=true:=by simpa using b21
    refine AU (hK18 _ ?_)
    refine zr tb U U ?_
    replace h0:=Sh.AK h0
    subst r
    exact AZ (xr (Dc (L:=[(6,(ow 1 0 q17)),(7,(i64 (Sh.w (1000+q10))))]) (st':=[(ro 0 30 3 AA s0),(ro 0 30 3 AA q17)]) (.pure U (AB fun _=>U) (.pure U (AB fun _=>U) .nil)) ⟨.rfl,.rfl,trivial⟩))
  refine AY (Ap (σ:=Int) (fun n v=>Bx s0 p2 n v=some o14) (fun i13=>⟨41,AM [(0,(ow 0 0 s0)),(1,(i64 p1)),(2,(ls eI p2)),(8,(i64 q10)),(9,(i64 i13))],[(ro 0 30 3 AA s0)]⟩) N 0 h1 (AP U) (fun _ hv=>by rw[Bx] at hv;cases hv) ?_)
  rintro n i13 h1
  try dsimp only at h1 ⊢
  rw[Bx] at h1
  refine AN fun K26 hK26=>?_
  refine sr U fun K27 hK27=>?_
  refine zm tb 2 U ?_
  refine zl tb U U ?_
  refine zq tb U ?_
  refine dn hK27 U ?_
  refine ci h1 U ?_ ?_ <;> clear h1
  ·intro b28 h1
   refine AU (hK26 _ ?_)
   refine AN fun K29 hK29=>?_
   refine AY ?_
   refine sr U fun K30 hK30=>?_
   refine zm tb 3 U ?_
   obtain⟨c31,gc31,h1⟩:=Sh.bind_some h1
   refine zx Av gc31 U U U ?_
   refine zq tb U ?_
   obtain⟨q32,gq32,h1⟩:=Sh.bind_some h1
   refine DJ (v':=(.bool q32)) (st':=[(ro 0 30 3 AA s0)]) Ae PR (Eg gq32) rfl (.own U U (fun _=>U) (.val U .nil)) rfl trivial U U ?_
   refine zq tb U ?_
   refine dn hK30 U ?_
   refine ci h1 U ?_ ?_ <;> clear h1
   ·intro b33 h1
    have b34:q32=false:=by simpa using b33
    refine zr tb U U ?_
    replace h1:=Sh.AK h1
    subst o14
    try dsimp only[id] at h0
    replace h0:=Sh.AK h0
    subst r
    exact AZ (Exists.intro _ (And.intro (((Ct (t:=6) rfl 30 (size:=3) (by decide)).trans (AF (L:=[(6,(.own 1 0 (List.length ([]:List Cell)))),(7,(i64 0))]) ⟨.rfl,.rfl,trivial⟩)).trans (AF (L:=[(6,(.own 1 0 (List.length ([]:List Cell)))),(7,(i64 0))]) ⟨.rfl,.rfl,trivial⟩)) (And.intro U U)))
   ·intro b33 h1
    have b36:q32=true:=by simpa using b33
    refine AU (hK29 _ ?_)
    refine AR (by rfl) ?_
    refine zm tb 3 U ?_
    exact AE (xi (Sh.w (i13+1)) h1 (AP U))
  ·intro b28 h1
   exact Au (M14 () (Sh.AK h1).symm _ (AP U))
theorem L0 {N:Nat} {s0:(List Cell)} {r:(List Cell)} (h0:Fo N s0=some r):Ag Try.prog 54 [(ow 0 0 s0)] [(ro 0 30 3 AA s0)] (fun v st=>v=(ow 0 1 r)∧st=[(ro 1 30 3 AA r)]):=by
 unfold Fo at h0
 refine ai Try.func54 U U U U ?_
 refine zr tb U U ?_
 refine sr U fun K2 hK2=>?_
 refine zq tb U ?_
 refine zz (i64 (Sh.len s0)) (Bj Ec U U U) rfl ?_
 refine zq tb U ?_
 refine dn hK2 U ?_
 refine AN fun K3 hK3=>?_
 obtain⟨o6,h1,h0⟩:=Sh.bind_some h0
 have M6 :∀(n5:Int),o6=n5→∀s,Wk 1 s ⟨22,AM [(0,(ow 0 0 s0)),(3,(i64 n5))],[(ro 0 30 3 AA s0)]⟩→K3 s:=by
  intro n5 hq s hw
  subst o6
  try dsimp only at h0
  refine hK3 _ (AS hw ?_)
  refine sr U fun K7 hK7=>?_
  refine zm tb 2 U ?_
  obtain⟨l8,gl8,h0⟩:=Sh.bind_some h0
  refine KC (st':=[(ro 1 30 3 AA l8)]) Ae A3 U U U U gl8 U ?_
  refine zq tb U ?_
  refine dn hK7 U ?_
  replace h0:=Sh.AK h0
  subst r
  exact AZ (xr (AF (L:=[(2,(ow 0 1 l8))]) ⟨.rfl,trivial⟩))
 refine AY (Ap (σ:=Int) (fun n v=>C6 s0 n v=some o6) (fun n4=>⟨22,AM [(0,(ow 0 0 s0)),(3,(i64 n4))],[(ro 0 30 3 AA s0)]⟩) N (Sh.len s0) h1 (AP U) (fun _ hv=>by rw[C6] at hv;cases hv) ?_)
 rintro n n4 h1
 try dsimp only at h1 ⊢
 rw[C6] at h1
 refine AN fun K9 hK9=>?_
 refine AN fun K10 hK10=>?_
 obtain⟨o12,h2,h1⟩:=Sh.bind_some h1
 have M12 :∀(t11:Bool),o12=t11→∀s,Wk 1 s ⟨22,AM [(0,(ow 0 0 s0)),(3,(i64 n4)),(16,(.bool t11))],[(ro 0 30 3 AA s0)]⟩→K10 s:=by
  intro t11 hq s hw
  subst o12
  try dsimp only at h1
  refine hK10 _ (AS hw ?_)
  refine ci h1 U ?_ ?_ <;> clear h1
  ·intro b13 h1
   refine AU (hK9 _ ?_)
   refine AY ?_
   refine AR (by rfl) ?_
   refine zm tb 3 U ?_
   exact AE (xi (Sh.w (n4 - 1)) h1 (AP U))
  ·intro b13 h1
   exact Au (M6 n4 (Sh.AK h1).symm _ (AP U))
 refine AR (by rfl) ?_
 refine zm tb 3 U ?_
 rcases Sh.Ar h2 with ⟨b14,h2⟩ | ⟨b14,h2⟩
 ·refine zg tb b14 U ?_
  iterate 2 refine zg tb b14 rfl ?_
  obtain⟨c15,gc15,h2⟩:=Sh.bind_some h2
  refine CY (v:=(.ptr 0 0 (Int.toNat (Sh.w (n4 - 1))) 0)) (Ce U U b14) rfl (An A3 U U U U gc15) ?_
  refine zg tb b14 U ?_
  refine CY (v:=(i64 c15.count)) (Ce U U b14) rfl (Aw CM U U (Am gc15) rfl) ?_
  refine zg tb b14 U ?_
  refine zt b14 U ?_
  exact AE (M12 (decide (c15.count=0)) (Sh.AK h2).symm _ (AP U))
 ·refine zs b14 U ?_
  iterate 6 refine zs b14 rfl ?_
  refine zf b14 U ?_
  exact AE (M12 false (Sh.AK h2).symm _ (AP U))
theorem Ij {N:Nat} {s0:(List Cell)} {p1:(List Int)} {r:(List Cell)} (h0:Dq N s0 p1=some r):Ag Try.prog 53 [(ow 0 0 s0),(ls eI p1)] [(ro 0 30 3 AA s0)] (fun v st=>v=(ow 0 1 r)∧st=[(ro 1 30 3 AA r)]):=by
 unfold Dq at h0
 refine ai Try.func53 U U U U ?_
 refine zr tb U U ?_
 refine sr U fun K2 hK2=>?_
 refine zq tb U ?_
 obtain⟨q3,gq3,h0⟩:=Sh.bind_some h0
 refine BJ (v':=(ow 1 0 q3)) (st':=[(ro 0 30 3 AA s0),(ro 0 3 1 eI q3)]) Ae MQ (Cv gq3) rfl U ⟨(BD fun _=>U),trivial⟩ U U ?_
 refine zq tb U ?_
 refine dn hK2 U ?_
 refine AN fun K4 hK4=>?_
 obtain⟨o8,h1,h0⟩:=Sh.bind_some h0
 have M8 :∀(l7:(List Cell)),o8=l7→∀s,Wk 1 s ⟨58,AM [(0,(ow 0 0 l7))],[(ro 0 30 3 AA l7)]⟩→K4 s:=by
  intro l7 hq s hw
  subst o8
  try dsimp only at h0
  refine hK4 _ (AS hw ?_)
  refine sr U fun K9 hK9=>?_
  refine zq tb U ?_
  obtain⟨q10,gq10,h0⟩:=Sh.bind_some h0
  refine Ad (rowsP:=[(ro 0 30 3 AA l7)]) (rows0:=[(ro 0 30 3 AA l7)]) (rows1:=[(ro 1 30 3 AA q10)]) (rows2:=[]) (rows1':=[(ro 1 30 3 AA q10)]) (rows2':=[]) (st':=[(ro 1 30 3 AA q10)]) (v':=(ow 0 1 q10)) [0] Ae Sr (L0 gq10) rfl (by decide) rfl U (.pure (AB fun _=>U) .nil) rfl U (.pure (AB fun _=>U) .nil) .nil U U ?_
  refine zq tb U ?_
  refine dn hK9 U ?_
  replace h0:=Sh.AK h0
  subst r
  exact AZ (xr (AF (L:=[(4,(ow 0 1 q10))]) ⟨.rfl,trivial⟩))
 refine AY (Ap (σ:=(List Cell)×(List Int)) (fun n v=>BO  n v.1 v.2=some o8) (fun (l5,l6)=>⟨58,AM [(0,(ow 0 0 l5)),(5,(ow 1 0 l6))],[(ro 0 30 3 AA l5),(ro 0 3 1 eI l6)]⟩) N (s0,q3) h1 (AP U) (fun _ hv=>by rw[BO] at hv;cases hv) ?_)
 rintro n ⟨l5,l6⟩ h1
 try dsimp only at h1 ⊢
 rw[BO] at h1
 refine AN fun K11 hK11=>?_
 refine sr U fun K12 hK12=>?_
 refine zq tb U ?_
 refine zz (i64 (Sh.len l6)) (Bj GH U U U) rfl ?_
 refine zq tb U ?_
 refine dn hK12 U ?_
 refine ci h1 U ?_ ?_ <;> clear h1
 ·intro b13 h1
  refine AU (hK11 _ ?_)
  refine AY ?_
  refine sr U fun K14 hK14=>?_
  refine zm tb 2 U ?_
  refine zz (i64 (Sh.len l6)) (Bj GH U U U) rfl ?_
  refine zq tb U ?_
  obtain⟨c15,gc15,h1⟩:=Sh.bind_some h1
  refine zz (.ptr 1 0 (Int.toNat (Sh.w ((Sh.len l6) - 1))) 0) (An Av U U U U gc15) rfl ?_
  refine zz (i64 c15) (Aw CM U U (Am gc15) rfl) rfl ?_
  refine zq tb U ?_
  refine dn hK14 U ?_
  refine sr U fun K16 hK16=>?_
  refine zm tb 2 U ?_
  refine zz (i64 (Sh.len l6)) (Bj GH U U U) rfl ?_
  refine zq tb U ?_
  obtain⟨l17,gl17,h1⟩:=Sh.bind_some h1
  refine KC (st':=[(ro 0 30 3 AA l5),(ro 1 3 1 eI l17)]) Ae Av U U U U gl17 U ?_
  refine zq tb U ?_
  refine dn hK16 U ?_
  refine sr U fun K18 hK18=>?_
  refine zq tb U ?_
  obtain⟨q19,gq19,h1⟩:=Sh.bind_some h1
  refine zc L8 (Ch gq19) rfl U U ?_
  refine dn hK18 U ?_
  refine ci h1 U ?_ ?_ <;> clear h1
  ·intro b20 h1
   refine zr tb U U ?_
   refine sr U fun K22 hK22=>?_
   refine zm tb 4 U ?_
   obtain⟨c23,gc23,h1⟩:=Sh.bind_some h1
   refine zz (.ptr 0 0 (Int.toNat (Sh.w (c15 - 1000))) 0) (An A3 U U U U gc23) rfl ?_
   refine zq tb U ?_
   refine zz (i64 c23.count) (Aw CM U U (Am gc23) rfl) rfl ?_
   refine zq tb U ?_
   refine zz (.ptr 0 0 (Int.toNat (Sh.w (c15 - 1000))) 0) (An A3 U U U U gc23) rfl ?_
   refine zq tb U ?_
   refine Dy (st':=[(ro 0 30 3 AA (Sh.put l5 (Sh.w (c15 - 1000)) (Cell.mk (Sh.w (c23.count - 1)) c23.tag c23.fields))),(ro 1 3 1 eI l17)]) (u':=(Cell.mk (Sh.w (c23.count - 1)) c23.tag c23.fields)) Ae CM U U gc23 U U U (show 0+1≤3 by decide) rfl U ?_
   refine dn hK22 U ?_
   refine sr U fun K24 hK24=>?_
   refine zm tb 2 U ?_
   obtain⟨c25,gc25,h1⟩:=Sh.bind_some h1
   refine zz (.ptr 0 0 (Int.toNat (Sh.w (c15 - 1000))) 0) (An A3 U U U (by simp only[Sh.CO]) gc25) rfl ?_
   refine zq tb U ?_
   refine zz (i64 c25.count) (Aw CM U U (Am gc25) rfl) rfl ?_
   refine zq tb U ?_
   refine dn hK24 U ?_
   refine ci h1 U ?_ ?_ <;> clear h1
   ·intro b26 h1
    refine sr U fun K27 hK27=>?_
    refine zm tb 3 U ?_
    refine zz (.ptr 0 0 (Int.toNat (Sh.w (c15 - 1000))) 0) (An A3 U U U (by simp only[Sh.CO]) gc25) rfl ?_
    refine zq tb U ?_
    refine zz (ls eI c25.fields) (Aw Jq U U (Am gc25) rfl) rfl ?_
    obtain⟨l28,gl28,h1⟩:=Sh.bind_some h1
    refine EP (st':=[(ro 0 30 3 AA (Sh.put l5 (Sh.w (c15 - 1000)) (Cell.mk (Sh.w (c23.count - 1)) c23.tag c23.fields))),(ro 2 3 1 eI l28)]) (l2:=c25.fields) Ae Av U U U U MF (fun _=>U) gl28 U ?_
    refine zq tb U ?_
    refine dn hK27 U ?_
    refine AR (by rfl) ?_
    refine zm tb 2 U ?_
    refine Bc (m:=2) (st':=[(ro 0 30 3 AA (Sh.put l5 (Sh.w (c15 - 1000)) (Cell.mk (Sh.w (c23.count - 1)) c23.tag c23.fields))),(ro 2 3 1 eI l28),(ro 0 3 1 eI ([]:List Int))]) (l:=([]:List Int)) (enc:=eI) Ae Av (by decide) rfl U U U U U ?_
    refine zz (.agg [(i64 0),(i64 0),(.own 2 0 (List.length ([]:List Int)))]) (FY L5 Ma Hu U U) rfl ?_
    refine zz (.ptr 0 0 (Int.toNat (Sh.w (c15 - 1000))) 0) (An A3 U U U (by simp only[Sh.CO]) gc25) rfl ?_
    refine Af (Wk.A2 (L:=[(0,(ow 0 0 l5)),(5,(ow 1 2 l28)),(54,(.agg [(i64 0),(i64 0),(.sl (List.map eI []))])),(55,(.ptr 0 0 (Int.toNat (Sh.w (c15 - 1000))) 0))]) (st':=[(ro 0 30 3 AA (Sh.put l5 (Sh.w (c15 - 1000)) (Cell.mk (Sh.w (c23.count - 1)) c23.tag c23.fields))),(ro 2 3 1 eI l28),⟨1,3,1,[]⟩]) (id:=2) rfl (show 1≤2 by decide) (AB fun _=>U) ⟨.rfl,.rfl,(.agg ⟨.rfl,.rfl,(.E6 U),trivial⟩),.rfl,trivial⟩ U) ?_
    refine Dy (st':=[(ro 0 30 3 AA (Sh.put (Sh.put l5 (Sh.w (c15 - 1000)) (Cell.mk (Sh.w (c23.count - 1)) c23.tag c23.fields)) (Sh.w (c15 - 1000)) (Cell.mk 0 0 []))),(ro 2 3 1 eI l28),⟨1,3,1,[]⟩]) (u':=(Cell.mk 0 0 [])) Ae I6 U U gc25 U U U (show 0+3≤3 by decide) rfl U ?_
    exact AE (xi (Sh.put (Sh.put l5 (Sh.w (c15 - 1000)) (Cell.mk (Sh.w (c23.count - 1)) c23.tag c23.fields)) (Sh.w (c15 - 1000)) (Cell.mk 0 0 []),l28) h1 (by refine Wk.trans (Dc (L:=[(0,(.own 0 0 (List.length l5))),(5,(.own 1 0 (List.length l28)))]) (st':=[⟨0,30,3,List.map AA (Sh.put (Sh.put l5 (Sh.w (c15 - 1000)) (Cell.mk (Sh.w (c23.count - 1)) c23.tag c23.fields)) (Sh.w (c15 - 1000)) (Cell.mk 0 0 []))⟩,⟨0,3,1,List.map eI l28⟩,⟨0,3,1,[]⟩]) (.pure U (AB fun _=>U) (.pure U (AB fun _=>U) (.pure U (by intro x hx;cases hx) .nil))) ⟨.rfl,.rfl,trivial⟩) ?_;refine Wk.trans (AL (L:=[(0,(.own 0 0 (List.length l5))),(5,(.own 1 0 (List.length l28)))]) (st':=[⟨0,30,3,List.map AA (Sh.put (Sh.put l5 (Sh.w (c15 - 1000)) (Cell.mk (Sh.w (c23.count - 1)) c23.tag c23.fields)) (Sh.w (c15 - 1000)) (Cell.mk 0 0 []))⟩,⟨0,3,1,List.map eI l28⟩]) (st1:=[⟨0,30,3,List.map AA (Sh.put (Sh.put l5 (Sh.w (c15 - 1000)) (Cell.mk (Sh.w (c23.count - 1)) c23.tag c23.fields)) (Sh.w (c15 - 1000)) (Cell.mk 0 0 []))⟩,⟨0,3,1,List.map eI l28⟩]) [0,1] U (.pure (AB fun _=>U) .nil) (by decide) rfl U (.pure (AB fun _=>U) (.pure (AB fun _=>U) .nil)) ⟨.rfl,.rfl,trivial⟩) ?_;exact AF (L:=[(0,(.own 0 0 (List.length (Sh.put (Sh.put l5 (Sh.w (c15 - 1000)) (Cell.mk (Sh.w (c23.count - 1)) c23.tag c23.fields)) (Sh.w (c15 - 1000)) (Cell.mk 0 0 []))))),(5,(.own 1 0 (List.length l28)))]) ⟨(.len (by simp only[Sh.CO])),.rfl,trivial⟩))
   ·intro b26 h1
    exact AU (xi (Sh.put l5 (Sh.w (c15 - 1000)) (Cell.mk (Sh.w (c23.count - 1)) c23.tag c23.fields),l17) h1 (by refine Wk.trans (Dc (L:=[(0,(.own 0 0 (List.length l5))),(5,(.own 1 0 (List.length l17)))]) (st':=[⟨0,30,3,List.map AA (Sh.put l5 (Sh.w (c15 - 1000)) (Cell.mk (Sh.w (c23.count - 1)) c23.tag c23.fields))⟩,⟨0,3,1,List.map eI l17⟩]) (.pure U (AB fun _=>U) (.pure U (AB fun _=>U) .nil)) ⟨.rfl,.rfl,trivial⟩) ?_;exact AF (L:=[(0,(.own 0 0 (List.length (Sh.put l5 (Sh.w (c15 - 1000)) (Cell.mk (Sh.w (c23.count - 1)) c23.tag c23.fields))))),(5,(.own 1 0 (List.length l17)))]) ⟨(.len (by simp only[Sh.CO])),.rfl,trivial⟩))
  ·intro b20 h1
   exact AU (xi (l5,l17) h1 (Dc (L:=[(0,(ow 0 0 l5)),(5,(ow 1 0 l17))]) (st':=[(ro 0 30 3 AA l5),(ro 0 3 1 eI l17)]) (.pure U (AB fun _=>U) (.pure U (AB fun _=>U) .nil)) ⟨.rfl,.rfl,trivial⟩))
 ·intro b13 h1
  exact Au (M8 l5 (Sh.AK h1).symm _ (AL (L:=[(0,(ow 0 0 l5))]) (st':=[(ro 0 30 3 AA l5)]) (st1:=[(ro 0 30 3 AA l5)]) [0] U (.pure (AB fun _=>U) .nil) (by decide) rfl U (.pure (AB fun _=>U) .nil) ⟨.rfl,trivial⟩))
theorem JB {N:Nat} {s0:(List Cell)} {p1:Int} {r:(List Cell)×Bool} (h0:D9 N s0 p1=some r):Ag Try.prog 40 [(ow 0 0 s0),(i64 p1)] [(ro 0 30 3 AA s0)] (fun v st=>v=(.BI [(ow 1 0 r.1),(.bool r.2)])∧st=[(ro 0 30 3 AA s0),(ro 0 30 3 AA r.1)]):=by
 unfold D9 at h0
 refine ai Try.func40 U U U U ?_
 refine zr tb U U ?_
 refine AN fun K2 hK2=>?_
 refine AN fun K3 hK3=>?_
 obtain⟨o5,h1,h0⟩:=Sh.bind_some h0
 have M5 :∀(t4:Bool),o5=t4→∀s,Wk 1 s ⟨37,AM [(0,(ow 0 0 s0)),(1,(i64 p1)),(14,(.bool t4))],[(ro 0 30 3 AA s0)]⟩→K3 s:=by
  intro t4 hq s hw
  subst o5
  try dsimp only at h0
  refine hK3 _ (AS hw ?_)
  refine ci h0 U ?_ ?_ <;> clear h0
  ·intro b6 h0
   refine zr tb U U ?_
   replace h0:=Sh.AK h0
   subst r
   exact AZ (Exists.intro _ (And.intro (((Ct (t:=4) rfl 30 (size:=3) (by decide)).trans (AF (L:=[(4,(.own 1 0 (List.length ([]:List Cell)))),(5,(.bool false))]) ⟨.rfl,.rfl,trivial⟩)).trans (AF (L:=[(4,(.own 1 0 (List.length ([]:List Cell)))),(5,(.bool false))]) ⟨.rfl,.rfl,trivial⟩)) (And.intro U U)))
  ·intro b6 h0
   refine AU (hK2 _ ?_)
   refine AN fun K8 hK8=>?_
   refine AN fun K9 hK9=>?_
   obtain⟨o11,h1,h0⟩:=Sh.bind_some h0
   have M11 :∀(t10:Bool),o11=t10→∀s,Wk 1 s ⟨37,AM [(0,(ow 0 0 s0)),(1,(i64 p1)),(31,(.bool t10))],[(ro 0 30 3 AA s0)]⟩→K9 s:=by
    intro t10 hq s hw
    subst o11
    try dsimp only at h0
    refine hK9 _ (AS hw ?_)
    refine ci h0 U ?_ ?_ <;> clear h0
    ·intro b12 h0
     refine zr tb U U ?_
     replace h0:=Sh.AK h0
     subst r
     exact AZ (Exists.intro _ (And.intro (((Ct (t:=4) rfl 30 (size:=3) (by decide)).trans (AF (L:=[(4,(.own 1 0 (List.length ([]:List Cell)))),(5,(.bool false))]) ⟨.rfl,.rfl,trivial⟩)).trans (AF (L:=[(4,(.own 1 0 (List.length ([]:List Cell)))),(5,(.bool false))]) ⟨.rfl,.rfl,trivial⟩)) (And.intro U U)))
    ·intro b12 h0
     refine AU (hK8 _ ?_)
     refine sr U fun K14 hK14=>?_
     refine zq tb U ?_
     obtain⟨q15,gq15,h0⟩:=Sh.bind_some h0
     refine Ad (rowsP:=[(ro 0 30 3 AA s0)]) (rows0:=[(ro 0 30 3 AA s0)]) (rows1:=[(ro 0 30 3 AA s0)]) (rows2:=[(ro 0 30 3 AA q15)]) (rows1':=[(ro 0 30 3 AA s0)]) (rows2':=[(ro 0 30 3 AA q15)]) (st':=[(ro 0 30 3 AA s0),(ro 0 30 3 AA q15)]) (v':=(ow 1 0 q15)) [0] Ae KW (Cu gq15) rfl (by decide) rfl U (.pure (AB fun _=>U) .nil) rfl U (.pure (AB fun _=>U) .nil) (.pure (AB fun _=>U) .nil) rfl U ?_
     refine zq tb U ?_
     refine Bc (m:=2) (st':=[(ro 0 30 3 AA s0),(ro 0 30 3 AA q15),(ro 0 3 1 eI [p1])]) (l:=[p1]) (enc:=eI) Ae Av (by decide) rfl U U U U U ?_
     refine Af (Wk.A2 (L:=[(33,(ow 1 0 q15)),(35,(ls eI [p1]))]) (st':=[(ro 0 30 3 AA s0),(ro 0 30 3 AA q15),⟨1,3,1,[]⟩]) (id:=2) rfl (show 1≤2 by decide) (AB fun _=>U) ⟨.rfl,(.A2 U),trivial⟩ U) ?_
     obtain⟨q16,gq16,h0⟩:=Sh.bind_some h0
     refine Ad (rowsP:=[(ro 0 30 3 AA q15)]) (rows0:=[(ro 0 30 3 AA q15)]) (rows1:=[(ro 1 30 3 AA q16)]) (rows2:=[]) (rows1':=[(ro 1 30 3 AA q16)]) (rows2':=[]) (st':=[(ro 0 30 3 AA s0),(ro 1 30 3 AA q16),⟨1,3,1,[]⟩]) (v':=(ow 1 1 q16)) [1] Ae Sz (Ij gq16) rfl (by decide) rfl U (.pure (AB fun _=>U) .nil) rfl U (.pure (AB fun _=>U) .nil) .nil U U ?_
     refine zm tb 2 U ?_
     refine dn hK14 U ?_
     replace h0:=Sh.AK h0
     subst r
     exact AZ (Exists.intro _ (And.intro (((Dc (L:=[(4,(ow 1 0 q16)),(5,(.bool true))]) (st':=[(ro 0 30 3 AA s0),(ro 0 30 3 AA q16),⟨0,3,1,[]⟩]) (.pure U (AB fun _=>U) (.pure U (AB fun _=>U) (.pure U (by intro x hx;cases hx) .nil))) ⟨.rfl,.rfl,trivial⟩).trans (AL (L:=[(4,(ow 1 0 q16)),(5,(.bool true))]) (st':=[(ro 0 30 3 AA s0),(ro 0 30 3 AA q16)]) (st1:=[(ro 0 30 3 AA s0),(ro 0 30 3 AA q16)]) [0,1] U (.pure (AB fun _=>U) .nil) (by decide) rfl U (.pure (AB fun _=>U) (.pure (AB fun _=>U) .nil)) ⟨.rfl,.rfl,trivial⟩)).trans (AF (L:=[(4,(ow 1 0 q16)),(5,(.bool true))]) ⟨.rfl,.rfl,trivial⟩)) (And.intro U U)))
   refine Ef 16 (by kernel_rfl) (by kernel_rfl) (by rfl) ?_
   refine yq tb U ?_
   obtain⟨q17,gq17,h1⟩:=Sh.bind_some h1
   refine KE (v:=(.bool q17)) Ae L8 (Ch gq17) rfl U U ?_
   refine yq tb U ?_
   rcases Sh.Ar h1 with ⟨b18,h1⟩ | ⟨b18,h1⟩
   ·refine yg tb b18 U ?_
    iterate 2 refine yg tb b18 rfl ?_
    obtain⟨c19,gc19,h1⟩:=Sh.bind_some h1
    refine Gu (v:=(.ptr 0 0 (Int.toNat (Sh.w (p1 - 1000))) 0)) (Ce U U b18) rfl (An A3 U U U U gc19) ?_
    refine yg tb b18 U ?_
    refine Gu (v:=(i64 c19.count)) (Ce U U b18) rfl (Aw CM U U (Am gc19) rfl) ?_
    refine yg tb b18 U ?_
    obtain⟨q20,gq20,h1⟩:=Sh.bind_some h1
    refine MJ (v:=(ls eI q20)) (Ce U U b18) ET (Ax gq20) rfl (.own U U (fun _=>U) .nil) rfl (PQ (fun _=>U) trivial) (by refine Wk.trans (Wk.A2 (L:=[(0,(ls eI q20))]) (st':=[⟨1,3,1,[]⟩]) (id:=0) rfl (show 0≤0 by decide) (AB fun _=>U) ⟨(.A2 U),trivial⟩ U) ?_;refine Wk.trans (AL (L:=[(0,(ls eI q20))]) (st':=[]) (st1:=[]) [] U .nil (by decide) rfl U .nil ⟨.rfl,trivial⟩) ?_;exact AF (L:=[(0,(ls eI q20))]) ⟨.rfl,trivial⟩) rfl ?_
    iterate 2 refine yg tb b18 rfl ?_
    obtain⟨c21,gc21,h1⟩:=Sh.bind_some h1
    refine Gu (v:=(.B4 (eI c21) 0)) (Ce U U b18) rfl (Ei Av U U gc21 U) ?_
    iterate 2 refine yg tb b18 rfl ?_
    refine DN ?_
    refine zt b18 U ?_
    exact AE (M11 (decide (c19.count=c21)) (Sh.AK h1).symm _ (AP U))
   ·refine ys b18 U ?_
    iterate 12 refine ys b18 rfl ?_
    refine DN ?_
    refine zf b18 U ?_
    exact AE (M11 false (Sh.AK h1).symm _ (AP U))
 refine AR (by rfl) ?_
 refine zq tb U ?_
 obtain⟨q22,gq22,h1⟩:=Sh.bind_some h1
 refine DJ (v':=(.bool q22)) (st':=[(ro 0 30 3 AA s0)]) Ae PH (De gq22) rfl (.own U U (fun _=>U) .nil) rfl trivial U U ?_
 refine zm tb 2 U ?_
 rcases Sh.Ar h1 with ⟨b23,h1⟩ | ⟨b23,h1⟩
 ·refine zs b23 U ?_
  iterate 3 refine zs b23 rfl ?_
  refine zt b23 U ?_
  exact AE (M5 true (Sh.AK h1).symm _ (AP U))
 ·refine zg tb b23 U ?_
  refine zg tb b23 U ?_
  obtain⟨q24,gq24,h1⟩:=Sh.bind_some h1
  refine DJ (v':=(.bool q24)) (st':=[(ro 0 30 3 AA s0)]) (Ce U U b23) PR (Eg gq24) rfl (.own U U (fun _=>U) (.val U .nil)) rfl trivial U U ?_
  refine zg tb b23 U ?_
  refine zf b23 U ?_
  exact AE (M5 (!q24) (Sh.AK h1).symm _ (AP U))
theorem Kx {p0:Int} {r:(List Int)} (h0:GQ p0=some r):Ag Try.prog 41 [(i64 p0)] [] (fun v st=>v=(ow 0 0 r)∧st=[(ro 0 3 1 eI r)]):=by
 unfold GQ at h0
 refine ai Try.func41 U U U U ?_
 refine zr tb U U ?_
 refine sr U fun K2 hK2=>?_
 refine zq tb U ?_
 obtain⟨l3,gl3,h0⟩:=Sh.bind_some h0
 refine Iw (m:=0) (st':=[(ro 0 3 1 eI l3)]) (enc:=eI) (u:=0) Ae Av U U U gl3 U U ?_
 refine zq tb U ?_
 refine dn hK2 U ?_
 replace h0:=Sh.AK h0
 subst r
 exact AZ (xr (AF (L:=[(2,(ow 0 0 l3))]) ⟨.rfl,trivial⟩))
theorem I3 {N:Nat} {s0_0:(List Int)} {s0_1:Int} {p1:Bool} {r:(List Cell)×Int} (h0:D4 N s0_0 s0_1 p1=some r):Ag Try.prog 28 [(.ptr 0 0 0 0),(.bool p1)] [⟨0,43,2,[[(ls AI s0_0),(i64 s0_1)]]⟩] (fun v st=>v=(ow 1 0 r.1)∧st=[⟨0,43,2,[[(ls AI s0_0),(i64 r.2)]]⟩,(ro 0 30 3 AA r.1)]):=by
 unfold D4 at h0
 refine ai Try.func28 U U U U ?_
 refine zr tb U U ?_
 refine sr U fun K2 hK2=>?_
 refine Bc (m:=1) (st':=[⟨0,43,2,[[(ls AI s0_0),(i64 s0_1)]]⟩,(ro 0 30 3 AA ([]:List Cell))]) (l:=([]:List Cell)) (enc:=AA) Ae A3 (by decide) rfl U U U U U ?_
 refine zq tb U ?_
 refine dn hK2 U ?_
 refine AN fun K3 hK3=>?_
 refine sr U fun K4 hK4=>?_
 refine zq tb U ?_
 obtain⟨q5,gq5,h0⟩:=Sh.bind_some h0
 refine Ad (rowsP:=[⟨0,43,2,[[(ls AI s0_0),(i64 s0_1)]]⟩]) (rows0:=[⟨0,43,2,[[(ls AI s0_0),(i64 s0_1)]]⟩]) (rows1:=[⟨0,43,2,[[(ls AI s0_0),(i64 q5.2)]]⟩]) (rows2:=[]) (rows1':=[⟨0,43,2,[[(ls AI s0_0),(i64 q5.2)]]⟩]) (rows2':=[]) (st':=[⟨0,43,2,[[(ls AI s0_0),(i64 q5.2)]]⟩,(ro 0 30 3 AA ([]:List Cell))]) (v':=(i64 q5.1)) [0] Ae Dw (Aj gq5) rfl (by decide) rfl U (.raw U U .nil) rfl U (.raw U U .nil) .nil U U ?_
 refine zm tb 2 U ?_
 refine dn hK4 U ?_
 obtain⟨o11,h1,h0⟩:=Sh.bind_some h0
 have M11 :∀(f9:Int) (l10:(List Cell)),o11=(f9,l10)→∀s,Wk 1 s ⟨133,AM [(0,(.ptr 0 0 0 0)),(1,(.bool p1)),(5,(ow 1 0 l10))],[⟨0,43,2,[[(ls AI s0_0),(i64 f9)]]⟩,(ro 0 30 3 AA l10)]⟩→K3 s:=by
  intro f9 l10 hq s hw
  subst o11
  try dsimp only at h0
  refine hK3 _ (AS hw ?_)
  refine AN fun K12 hK12=>?_
  obtain⟨o15,h1,h0⟩:=Sh.bind_some h0
  have M15 :∀(f13:Int) (l14:(List Cell)),o15=(f13,l14)→∀s,Wk 1 s ⟨133,AM [(5,(ow 1 0 l14))],[⟨0,43,2,[[(ls AI s0_0),(i64 f13)]]⟩,(ro 0 30 3 AA l14)]⟩→K12 s:=by
   intro f13 l14 hq s hw
   subst o15
   try dsimp only at h0
   refine hK12 _ (AS hw ?_)
   refine zr tb U U ?_
   replace h0:=Sh.AK h0
   subst r
   exact AZ (xr (AF (L:=[(4,(ow 1 0 l14))]) ⟨.rfl,trivial⟩))
  refine AN fun K17 hK17=>?_
  obtain⟨o20,h2,h1⟩:=Sh.bind_some h1
  have M20 :∀(t18:Bool) (f19:Int),o20=(t18,f19)→∀s,Wk 1 s ⟨133,AM [(0,(.ptr 0 0 0 0)),(5,(ow 1 0 l10)),(124,(.bool t18))],[⟨0,43,2,[[(ls AI s0_0),(i64 f19)]]⟩,(ro 0 30 3 AA l10)]⟩→K17 s:=by
   intro t18 f19 hq s hw
   subst o20
   try dsimp only at h1
   refine hK17 _ (AS hw ?_)
   refine ci h1 U ?_ ?_ <;> clear h1
   ·intro b21 h1
    refine AR (by rfl) ?_
    refine zm tb 2 U ?_
    obtain⟨q22,gq22,h1⟩:=Sh.bind_some h1
    refine Ad (rowsP:=[⟨0,43,2,[[(ls AI s0_0),(i64 f19)]]⟩]) (rows0:=[⟨0,43,2,[[(ls AI s0_0),(i64 f19)]]⟩]) (rows1:=[⟨0,43,2,[[(ls AI s0_0),(i64 q22.2)]]⟩]) (rows2:=[]) (rows1':=[⟨0,43,2,[[(ls AI s0_0),(i64 q22.2)]]⟩]) (rows2':=[]) (st':=[⟨0,43,2,[[(ls AI s0_0),(i64 q22.2)]]⟩,(ro 0 30 3 AA l10)]) (v':=(i64 q22.1)) [0] Ae Dw (Aj gq22) rfl (by decide) rfl U (.raw U U .nil) rfl U (.raw U U .nil) .nil U U ?_
    obtain⟨q23,gq23,h1⟩:=Sh.bind_some h1
    refine BJ (v':=(ow 2 0 q23)) (st':=[⟨0,43,2,[[(ls AI s0_0),(i64 q22.2)]]⟩,(ro 0 30 3 AA l10),(ro 0 3 1 eI q23)]) Ae Sn (Kx gq23) rfl U ⟨(BD fun _=>U),trivial⟩ U U ?_
    refine zz (.agg [(i64 (-1)),(i64 0),(ow 2 0 q23)]) (FY L5 Ma Hu U U) rfl ?_
    refine Af (Wk.A2 (L:=[(125,(ow 1 0 l10)),(129,(.agg [(i64 (-1)),(i64 0),(ls eI q23)]))]) (st':=[⟨0,43,2,[[(ls AI s0_0),(i64 q22.2)]]⟩,(ro 0 30 3 AA l10),⟨1,3,1,[]⟩]) (id:=2) rfl (show 1≤2 by decide) (AB fun _=>U) ⟨.rfl,(.agg ⟨.rfl,.rfl,(.E6 U),trivial⟩),trivial⟩ U) ?_
    refine Bc (m:=3) (st':=[⟨0,43,2,[[(ls AI s0_0),(i64 q22.2)]]⟩,(ro 0 30 3 AA l10),⟨1,3,1,[]⟩,(ro 0 30 3 AA [(Cell.mk (-1) 0 q23)])]) (l:=[(Cell.mk (-1) 0 q23)]) (enc:=AA) Ae A3 (by decide) rfl U U U U U ?_
    obtain⟨l24,gl24,h1⟩:=Sh.bind_some h1
    refine EP (st':=[⟨0,43,2,[[(ls AI s0_0),(i64 q22.2)]]⟩,(ro 1 30 3 AA l24),⟨1,3,1,[]⟩,(ro 0 30 3 AA [(Cell.mk (-1) 0 q23)])]) (l2:=[(Cell.mk (-1) 0 q23)]) Ae A3 U U U U (LN U U) (fun _=>U) gl24 U ?_
    refine zq tb U ?_
    exact AE (M15 q22.2 l24 (Sh.AK h1).symm _ (by refine Wk.trans (Dc (L:=[(5,(ow 1 0 l24))]) (st':=[⟨0,43,2,[[(ls AI s0_0),(i64 q22.2)]]⟩,(ro 0 30 3 AA l24),⟨0,3,1,[]⟩,(ro 0 30 3 AA [(Cell.mk (-1) 0 q23)])]) (.raw U U U (.pure U (AB fun _=>U) (.pure U (by intro x hx;cases hx) (.pure U (AB fun _=>U) .nil)))) ⟨.rfl,trivial⟩) ?_;exact AL (L:=[(5,(ow 1 0 l24))]) (st':=[⟨0,43,2,[[(ls AI s0_0),(i64 q22.2)]]⟩,(ro 0 30 3 AA l24)]) (st1:=[⟨0,43,2,[[(ls AI s0_0),(i64 q22.2)]]⟩,(ro 0 30 3 AA l24)]) [0,1] U (.raw U U .nil) (by decide) rfl U (.raw U U (.pure (AB fun _=>U) .nil)) ⟨.rfl,trivial⟩))
   ·intro b21 h1
    exact AU (M15 f19 l10 (Sh.AK h1).symm _ (AP U))
  refine AR (by rfl) ?_
  refine zm tb 2 U ?_
  rcases Sh.Ar h2 with ⟨b25,h2⟩ | ⟨b25,h2⟩
  ·refine zg tb b25 U ?_
   obtain⟨q26,gq26,h2⟩:=Sh.bind_some h2
   refine Ad (rowsP:=[⟨0,43,2,[[(ls AI s0_0),(i64 f9)]]⟩]) (rows0:=[⟨0,43,2,[[(ls AI s0_0),(i64 f9)]]⟩]) (rows1:=[⟨0,43,2,[[(ls AI s0_0),(i64 q26.2)]]⟩]) (rows2:=[]) (rows1':=[⟨0,43,2,[[(ls AI s0_0),(i64 q26.2)]]⟩]) (rows2':=[]) (st':=[⟨0,43,2,[[(ls AI s0_0),(i64 q26.2)]]⟩,(ro 0 30 3 AA l10)]) (v':=(i64 q26.1)) [0] (Ce U U b25) Dw (Aj gq26) rfl (by decide) rfl U (.raw U U .nil) rfl U (.raw U U .nil) .nil U U ?_
   refine zg tb b25 U ?_
   refine zt b25 U ?_
   exact AE (M20 (decide (q26.1=0)) q26.2 (Sh.AK h2).symm _ (AP U))
  ·refine zs b25 U ?_
   iterate 2 refine zs b25 rfl ?_
   refine zf b25 U ?_
   exact AE (M20 false f9 (Sh.AK h2).symm _ (AP U))
 refine AY (Ap (σ:=Int×Int×(List Cell)) (fun n v=>CI N s0_0 n v.1 v.2.1 v.2.2=some o11) (fun (n6,f7,l8)=>⟨133,AM [(0,(.ptr 0 0 0 0)),(1,(.bool p1)),(5,(ow 1 0 l8)),(6,(i64 n6))],[⟨0,43,2,[[(ls AI s0_0),(i64 f7)]]⟩,(ro 0 30 3 AA l8)]⟩) N (Sh.w (3+q5.1),q5.2,[]) h1 (AP U) (fun _ hv=>by rw[CI] at hv;cases hv) ?_)
 rintro n ⟨n6,f7,l8⟩ h1
 try dsimp only at h1 ⊢
 rw[CI] at h1
 refine AN fun K27 hK27=>?_
 refine zr tb U U ?_
 refine ci h1 U ?_ ?_ <;> clear h1
 ·intro b29 h1
  refine AU (hK27 _ ?_)
  refine AN fun K30 hK30=>?_
  obtain⟨o33,h2,h1⟩:=Sh.bind_some h1
  have M33 :∀(f31:Int) (l32:(List Cell)),o33=(f31,l32)→∀s,Wk 1 s ⟨133,AM [(0,(.ptr 0 0 0 0)),(1,(.bool p1)),(5,(ow 1 0 l32)),(6,(i64 n6))],[⟨0,43,2,[[(ls AI s0_0),(i64 f31)]]⟩,(ro 0 30 3 AA l32)]⟩→K30 s:=by
   intro f31 l32 hq s hw
   subst o33
   try dsimp only at h1
   refine hK30 _ (AS hw ?_)
   refine AR (by rfl) ?_
   refine zm tb 3 U ?_
   exact AE (xi (Sh.w (n6 - 1),f31,l32) h1 (AP U))
  refine AY ?_
  refine sr U fun K34 hK34=>?_
  refine Bc (m:=2) (st':=[⟨0,43,2,[[(ls AI s0_0),(i64 f7)]]⟩,(ro 0 30 3 AA l8),(ro 0 3 1 eI ([]:List Int))]) (l:=([]:List Int)) (enc:=eI) Ae Av (by decide) rfl U U U U U ?_
  refine zq tb U ?_
  refine dn hK34 U ?_
  refine AN fun K35 hK35=>?_
  refine sr U fun K36 hK36=>?_
  refine zq tb U ?_
  obtain⟨q37,gq37,h2⟩:=Sh.bind_some h2
  refine Ad (rowsP:=[⟨0,43,2,[[(ls AI s0_0),(i64 f7)]]⟩]) (rows0:=[⟨0,43,2,[[(ls AI s0_0),(i64 f7)]]⟩]) (rows1:=[⟨0,43,2,[[(ls AI s0_0),(i64 q37.2)]]⟩]) (rows2:=[]) (rows1':=[⟨0,43,2,[[(ls AI s0_0),(i64 q37.2)]]⟩]) (rows2':=[]) (st':=[⟨0,43,2,[[(ls AI s0_0),(i64 q37.2)]]⟩,(ro 0 30 3 AA l8),(ro 0 3 1 eI ([]:List Int))]) (v':=(i64 q37.1)) [0] Ae Dw (Aj gq37) rfl (by decide) rfl U (.raw U U .nil) rfl U (.raw U U .nil) .nil U U ?_
  refine zq tb U ?_
  refine dn hK36 U ?_
  obtain⟨o45,h3,h2⟩:=Sh.bind_some h2
  have M45 :∀(f42:Int) (l43:(List Cell)) (l44:(List Int)),o45=(f42,l43,l44)→∀s,Wk 1 s ⟨133,AM [(0,(.ptr 0 0 0 0)),(1,(.bool p1)),(5,(ow 1 0 l43)),(6,(i64 n6)),(7,(ow 2 0 l44))],[⟨0,43,2,[[(ls AI s0_0),(i64 f42)]]⟩,(ro 0 30 3 AA l43),(ro 0 3 1 eI l44)]⟩→K35 s:=by
   intro f42 l43 l44 hq s hw
   subst o45
   try dsimp only at h2
   refine hK35 _ (AS hw ?_)
   refine sr U fun K46 hK46=>?_
   refine zm tb 3 U ?_
   obtain⟨q47,gq47,h2⟩:=Sh.bind_some h2
   refine Ad (rowsP:=[⟨0,43,2,[[(ls AI s0_0),(i64 f42)]]⟩]) (rows0:=[⟨0,43,2,[[(ls AI s0_0),(i64 f42)]]⟩]) (rows1:=[⟨0,43,2,[[(ls AI s0_0),(i64 q47.2)]]⟩]) (rows2:=[]) (rows1':=[⟨0,43,2,[[(ls AI s0_0),(i64 q47.2)]]⟩]) (rows2':=[]) (st':=[⟨0,43,2,[[(ls AI s0_0),(i64 q47.2)]]⟩,(ro 0 30 3 AA l43),(ro 0 3 1 eI l44)]) (v':=(i64 q47.1)) [0] Ae Dw (Aj gq47) rfl (by decide) rfl U (.raw U U .nil) rfl U (.raw U U .nil) .nil U U ?_
   refine zq tb U ?_
   obtain⟨q48,gq48,h2⟩:=Sh.bind_some h2
   refine Ad (rowsP:=[⟨0,43,2,[[(ls AI s0_0),(i64 q47.2)]]⟩]) (rows0:=[⟨0,43,2,[[(ls AI s0_0),(i64 q47.2)]]⟩]) (rows1:=[⟨0,43,2,[[(ls AI s0_0),(i64 q48.2)]]⟩]) (rows2:=[]) (rows1':=[⟨0,43,2,[[(ls AI s0_0),(i64 q48.2)]]⟩]) (rows2':=[]) (st':=[⟨0,43,2,[[(ls AI s0_0),(i64 q48.2)]]⟩,(ro 0 30 3 AA l43),(ro 0 3 1 eI l44)]) (v':=(i64 q48.1)) [0] Ae Dw (Aj gq48) rfl (by decide) rfl U (.raw U U .nil) rfl U (.raw U U .nil) .nil U U ?_
   refine Bc (m:=3) (st':=[⟨0,43,2,[[(ls AI s0_0),(i64 q48.2)]]⟩,(ro 0 30 3 AA l43),(ro 0 3 1 eI l44),(ro 0 3 1 eI [q47.1,q48.1,0,99])]) (l:=[q47.1,q48.1,0,99]) (enc:=eI) Ae Av (by decide) rfl U U U U U ?_
   refine Af (Wk.A2 (L:=[(0,(.ptr 0 0 0 0)),(1,(.bool p1)),(5,(ow 1 0 l43)),(6,(i64 n6)),(7,(ow 2 0 l44)),(84,(ow 1 0 l43)),(85,(.ptr 0 0 0 0)),(90,(ls eI [q47.1,q48.1,0,99]))]) (st':=[⟨0,43,2,[[(ls AI s0_0),(i64 q48.2)]]⟩,(ro 0 30 3 AA l43),(ro 0 3 1 eI l44),⟨1,3,1,[]⟩]) (id:=3) rfl (show 1≤3 by decide) (AB fun _=>U) ⟨.rfl,.rfl,.rfl,.rfl,.rfl,.rfl,.rfl,(.A2 U),trivial⟩ U) ?_
   obtain⟨q49,gq49,h2⟩:=Sh.bind_some h2
   refine Ad (rowsP:=[⟨0,43,2,[[(ls AI s0_0),(i64 q48.2)]]⟩]) (rows0:=[⟨0,43,2,[[(ls AI s0_0),(i64 q48.2)]]⟩]) (rows1:=[⟨0,43,2,[[(ls AI s0_0),(i64 q49.2)]]⟩]) (rows2:=[]) (rows1':=[⟨0,43,2,[[(ls AI s0_0),(i64 q49.2)]]⟩]) (rows2':=[]) (st':=[⟨0,43,2,[[(ls AI s0_0),(i64 q49.2)]]⟩,(ro 0 30 3 AA l43),(ro 0 3 1 eI l44),⟨1,3,1,[]⟩]) (v':=(i64 q49.1)) [0] Ae EU (Ak gq49) rfl (by decide) rfl U (.raw U U .nil) rfl U (.raw U U .nil) .nil U U ?_
   refine zq tb U ?_
   refine Af (Wk.A2 (L:=[(0,(.ptr 0 0 0 0)),(1,(.bool p1)),(5,(ow 1 0 l43)),(6,(i64 n6)),(84,(ow 1 0 l43)),(91,(i64 q49.1)),(92,(ls eI l44))]) (st':=[⟨0,43,2,[[(ls AI s0_0),(i64 q49.2)]]⟩,(ro 0 30 3 AA l43),⟨1,3,1,[]⟩,⟨1,3,1,[]⟩]) (id:=2) rfl (show 1≤2 by decide) (AB fun _=>U) ⟨.rfl,.rfl,.rfl,.rfl,.rfl,.rfl,(.A2 U),trivial⟩ U) ?_
   obtain⟨q50,gq50,h2⟩:=Sh.bind_some h2
   refine Ad (rowsP:=[(ro 0 30 3 AA l43)]) (rows0:=[(ro 0 30 3 AA l43)]) (rows1:=[(ro 0 30 3 AA l43)]) (rows2:=[(ro 0 30 3 AA q50.1)]) (rows1':=[(ro 0 30 3 AA l43)]) (rows2':=[(ro 0 30 3 AA q50.1)]) (st':=[⟨0,43,2,[[(ls AI s0_0),(i64 q49.2)]]⟩,(ro 0 30 3 AA l43),⟨1,3,1,[]⟩,⟨1,3,1,[]⟩,(ro 0 30 3 AA q50.1)]) (v':=(.BI [(ow 4 0 q50.1),(i64 q50.2)])) [1] Ae Sf (IX gq50) rfl (by decide) rfl U (.pure (AB fun _=>U) .nil) rfl U (.pure (AB fun _=>U) .nil) (.pure (AB fun _=>U) .nil) rfl U ?_
   refine zm tb 5 U ?_
   refine dn hK46 U ?_
   refine AN fun K51 hK51=>?_
   obtain⟨o53,h3,h2⟩:=Sh.bind_some h2
   have M53 :∀(l52:(List Cell)),o53=l52→∀s,Wk 1 s ⟨133,AM [(0,(.ptr 0 0 0 0)),(1,(.bool p1)),(5,(ow 1 0 l52)),(6,(i64 n6))],[⟨0,43,2,[[(ls AI s0_0),(i64 q49.2)]]⟩,(ro 0 30 3 AA l52)]⟩→K51 s:=by
    intro l52 hq s hw
    subst o53
    try dsimp only at h2
    refine hK51 _ (AS hw ?_)
    refine AN fun K54 hK54=>?_
    obtain⟨o57,h3,h2⟩:=Sh.bind_some h2
    have M57 :∀(t55:Bool) (f56:Int),o57=(t55,f56)→∀s,Wk 1 s ⟨133,AM [(0,(.ptr 0 0 0 0)),(1,(.bool p1)),(5,(ow 1 0 l52)),(6,(i64 n6)),(106,(.bool t55))],[⟨0,43,2,[[(ls AI s0_0),(i64 f56)]]⟩,(ro 0 30 3 AA l52)]⟩→K54 s:=by
     intro t55 f56 hq s hw
     subst o57
     try dsimp only at h2
     refine hK54 _ (AS hw ?_)
     refine ci h2 U ?_ ?_ <;> clear h2
     ·intro b58 h2
      refine sr U fun K59 hK59=>?_
      refine zm tb 3 U ?_
      refine zz (i64 (Sh.len l52)) (Bj Ec U U U) rfl ?_
      obtain⟨q60,gq60,h2⟩:=Sh.bind_some h2
      refine Ad (rowsP:=[⟨0,43,2,[[(ls AI s0_0),(i64 f56)]]⟩]) (rows0:=[⟨0,43,2,[[(ls AI s0_0),(i64 f56)]]⟩]) (rows1:=[⟨0,43,2,[[(ls AI s0_0),(i64 q60.2)]]⟩]) (rows2:=[]) (rows1':=[⟨0,43,2,[[(ls AI s0_0),(i64 q60.2)]]⟩]) (rows2':=[]) (st':=[⟨0,43,2,[[(ls AI s0_0),(i64 q60.2)]]⟩,(ro 0 30 3 AA l52)]) (v':=(i64 q60.1)) [0] Ae Dw (Aj gq60) rfl (by decide) rfl U (.raw U U .nil) rfl U (.raw U U .nil) .nil U U ?_
      refine zq tb U ?_
      obtain⟨q61,gq61,h2⟩:=Sh.bind_some h2
      refine Ad (rowsP:=[(ro 0 30 3 AA l52)]) (rows0:=[(ro 0 30 3 AA l52)]) (rows1:=[(ro 0 30 3 AA l52)]) (rows2:=[(ro 0 30 3 AA q61.1)]) (rows1':=[(ro 0 30 3 AA l52)]) (rows2':=[(ro 0 30 3 AA q61.1)]) (st':=[⟨0,43,2,[[(ls AI s0_0),(i64 q60.2)]]⟩,(ro 0 30 3 AA l52),(ro 0 30 3 AA q61.1)]) (v':=(.BI [(ow 2 0 q61.1),(.bool q61.2)])) [1] Ae Sq (JB gq61) rfl (by decide) rfl U (.pure (AB fun _=>U) .nil) rfl U (.pure (AB fun _=>U) .nil) (.pure (AB fun _=>U) .nil) rfl U ?_
      refine zm tb 5 U ?_
      refine dn hK59 U ?_
      refine zr tb U U ?_
      refine ci h2 U ?_ ?_ <;> clear h2
      ·intro b63 h2
       refine AR (by rfl) ?_
       refine zm tb 2 U ?_
       exact AE (M33 q60.2 q61.1 (Sh.AK h2).symm _ (AL (L:=[(0,(.ptr 0 0 0 0)),(1,(.bool p1)),(5,(ow 1 0 q61.1)),(6,(i64 n6))]) (st':=[⟨0,43,2,[[(ls AI s0_0),(i64 q60.2)]]⟩,(ro 0 30 3 AA q61.1)]) (st1:=[⟨0,43,2,[[(ls AI s0_0),(i64 q60.2)]]⟩,(ro 0 30 3 AA q61.1)]) [0,2] U (.raw U U .nil) (by decide) rfl U (.raw U U (.pure (AB fun _=>U) .nil)) ⟨.rfl,.rfl,.rfl,.rfl,trivial⟩))
      ·intro b63 h2
       exact AU (M33 q60.2 l52 (Sh.AK h2).symm _ (AL (L:=[(0,(.ptr 0 0 0 0)),(1,(.bool p1)),(5,(ow 1 0 l52)),(6,(i64 n6))]) (st':=[⟨0,43,2,[[(ls AI s0_0),(i64 q60.2)]]⟩,(ro 0 30 3 AA l52)]) (st1:=[⟨0,43,2,[[(ls AI s0_0),(i64 q60.2)]]⟩,(ro 0 30 3 AA l52)]) [0,1] U (.raw U U .nil) (by decide) rfl U (.raw U U (.pure (AB fun _=>U) .nil)) ⟨.rfl,.rfl,.rfl,.rfl,trivial⟩))
     ·intro b58 h2
      exact AU (M33 f56 l52 (Sh.AK h2).symm _ (AP U))
    refine AR (by rfl) ?_
    refine zq tb U ?_
    refine zz (i64 (Sh.len l52)) (Bj Ec U U U) rfl ?_
    refine zm tb 2 U ?_
    rcases Sh.Ar h3 with ⟨b64,h3⟩ | ⟨b64,h3⟩
    ·refine zg tb b64 U ?_
     obtain⟨q65,gq65,h3⟩:=Sh.bind_some h3
     refine Ad (rowsP:=[⟨0,43,2,[[(ls AI s0_0),(i64 q49.2)]]⟩]) (rows0:=[⟨0,43,2,[[(ls AI s0_0),(i64 q49.2)]]⟩]) (rows1:=[⟨0,43,2,[[(ls AI s0_0),(i64 q65.2)]]⟩]) (rows2:=[]) (rows1':=[⟨0,43,2,[[(ls AI s0_0),(i64 q65.2)]]⟩]) (rows2':=[]) (st':=[⟨0,43,2,[[(ls AI s0_0),(i64 q65.2)]]⟩,(ro 0 30 3 AA l52)]) (v':=(i64 q65.1)) [0] (Ce U U b64) Dw (Aj gq65) rfl (by decide) rfl U (.raw U U .nil) rfl U (.raw U U .nil) .nil U U ?_
     refine zg tb b64 U ?_
     refine zt b64 U ?_
     exact AE (M57 (decide (q65.1=0)) q65.2 (Sh.AK h3).symm _ (AP U))
    ·refine zs b64 U ?_
     iterate 2 refine zs b64 rfl ?_
     refine zf b64 U ?_
     exact AE (M57 false q49.2 (Sh.AK h3).symm _ (AP U))
   refine zr tb U U ?_
   refine ci h3 U ?_ ?_ <;> clear h3
   ·intro b67 h3
    refine AR (by rfl) ?_
    refine zm tb 2 U ?_
    exact AE (M53 q50.1 (Sh.AK h3).symm _ (AL (L:=[(0,(.ptr 0 0 0 0)),(1,(.bool p1)),(5,(ow 1 0 q50.1)),(6,(i64 n6))]) (st':=[⟨0,43,2,[[(ls AI s0_0),(i64 q49.2)]]⟩,(ro 0 30 3 AA q50.1)]) (st1:=[⟨0,43,2,[[(ls AI s0_0),(i64 q49.2)]]⟩,(ro 0 30 3 AA q50.1)]) [0,4] U (.raw U U .nil) (by decide) rfl U (.raw U U (.pure (AB fun _=>U) .nil)) ⟨.rfl,.rfl,.rfl,.rfl,trivial⟩))
   ·intro b67 h3
    exact AU (M53 l43 (Sh.AK h3).symm _ (AL (L:=[(0,(.ptr 0 0 0 0)),(1,(.bool p1)),(5,(ow 1 0 l43)),(6,(i64 n6))]) (st':=[⟨0,43,2,[[(ls AI s0_0),(i64 q49.2)]]⟩,(ro 0 30 3 AA l43)]) (st1:=[⟨0,43,2,[[(ls AI s0_0),(i64 q49.2)]]⟩,(ro 0 30 3 AA l43)]) [0,1] U (.raw U U .nil) (by decide) rfl U (.raw U U (.pure (AB fun _=>U) .nil)) ⟨.rfl,.rfl,.rfl,.rfl,trivial⟩))
  refine AY (Ap (σ:=Int×Int×(List Cell)×(List Int)) (fun n v=>CL N s0_0 n v.1 v.2.1 v.2.2.1 v.2.2.2=some o45) (fun (k38,f39,l40,l41)=>⟨133,AM [(0,(.ptr 0 0 0 0)),(1,(.bool p1)),(5,(ow 1 0 l40)),(6,(i64 n6)),(7,(ow 2 0 l41)),(8,(i64 k38))],[⟨0,43,2,[[(ls AI s0_0),(i64 f39)]]⟩,(ro 0 30 3 AA l40),(ro 0 3 1 eI l41)]⟩) N (q37.1,q37.2,l8,[]) h3 (AP U) (fun _ hv=>by rw[CL] at hv;cases hv) ?_)
  rintro n ⟨k38,f39,l40,l41⟩ h3
  try dsimp only at h3 ⊢
  rw[CL] at h3
  refine AN fun K68 hK68=>?_
  refine zr tb U U ?_
  refine ci h3 U ?_ ?_ <;> clear h3
  ·intro b70 h3
   refine AU (hK68 _ ?_)
   refine AN fun K71 hK71=>?_
   refine AY ?_
   refine sr U fun K72 hK72=>?_
   refine zq tb U ?_
   obtain⟨q73,gq73,h3⟩:=Sh.bind_some h3
   refine Ad (rowsP:=[⟨0,43,2,[[(ls AI s0_0),(i64 f39)]]⟩]) (rows0:=[⟨0,43,2,[[(ls AI s0_0),(i64 f39)]]⟩]) (rows1:=[⟨0,43,2,[[(ls AI s0_0),(i64 q73.2)]]⟩]) (rows2:=[]) (rows1':=[⟨0,43,2,[[(ls AI s0_0),(i64 q73.2)]]⟩]) (rows2':=[]) (st':=[⟨0,43,2,[[(ls AI s0_0),(i64 q73.2)]]⟩,(ro 0 30 3 AA l40),(ro 0 3 1 eI l41)]) (v':=(i64 q73.1)) [0] Ae Dw (Aj gq73) rfl (by decide) rfl U (.raw U U .nil) rfl U (.raw U U .nil) .nil U U ?_
   refine zm tb 2 U ?_
   refine dn hK72 U ?_
   refine AN fun K74 hK74=>?_
   obtain⟨o78,h4,h3⟩:=Sh.bind_some h3
   have M78 :∀(w75:Int) (f76:Int) (l77:(List Cell)),o78=(w75,f76,l77)→∀s,Wk 1 s ⟨133,AM [(0,(.ptr 0 0 0 0)),(1,(.bool p1)),(5,(ow 1 0 l77)),(6,(i64 n6)),(7,(ow 2 0 l41)),(8,(i64 k38)),(9,(i64 w75))],[⟨0,43,2,[[(ls AI s0_0),(i64 f76)]]⟩,(ro 0 30 3 AA l77),(ro 0 3 1 eI l41)]⟩→K74 s:=by
    intro w75 f76 l77 hq s hw
    subst o78
    try dsimp only at h3
    refine hK74 _ (AS hw ?_)
    refine AR (by rfl) ?_
    refine zm tb 2 U ?_
    refine Bc (m:=3) (st':=[⟨0,43,2,[[(ls AI s0_0),(i64 f76)]]⟩,(ro 0 30 3 AA l77),(ro 0 3 1 eI l41),(ro 0 3 1 eI [w75])]) (l:=[w75]) (enc:=eI) Ae Av (by decide) rfl U U U U U ?_
    obtain⟨l79,gl79,h3⟩:=Sh.bind_some h3
    refine EP (st':=[⟨0,43,2,[[(ls AI s0_0),(i64 f76)]]⟩,(ro 0 30 3 AA l77),(ro 1 3 1 eI l79),(ro 0 3 1 eI [w75])]) (l2:=[w75]) Ae Av U U U U (LN U U) (fun _=>U) gl79 U ?_
    refine zq tb U ?_
    refine dn hK71 U ?_
    refine AR (by rfl) ?_
    refine zm tb 3 U ?_
    exact AE (xi (Sh.w (k38 - 1),f76,l77,l79) h3 (by refine Wk.trans (Dc (L:=[(0,(.ptr 0 0 0 0)),(1,(.bool p1)),(5,(ow 1 0 l77)),(6,(i64 n6)),(7,(ow 2 0 l79)),(8,(i64 (Sh.w (k38 - 1))))]) (st':=[⟨0,43,2,[[(ls AI s0_0),(i64 f76)]]⟩,(ro 0 30 3 AA l77),(ro 0 3 1 eI l79),(ro 0 3 1 eI [w75])]) (.raw U U U (.pure U (AB fun _=>U) (.pure U (AB fun _=>U) (.pure U (AB fun _=>U) .nil)))) ⟨.rfl,.rfl,.rfl,.rfl,.rfl,.rfl,trivial⟩) ?_;exact AL (L:=[(0,(.ptr 0 0 0 0)),(1,(.bool p1)),(5,(ow 1 0 l77)),(6,(i64 n6)),(7,(ow 2 0 l79)),(8,(i64 (Sh.w (k38 - 1))))]) (st':=[⟨0,43,2,[[(ls AI s0_0),(i64 f76)]]⟩,(ro 0 30 3 AA l77),(ro 0 3 1 eI l79)]) (st1:=[⟨0,43,2,[[(ls AI s0_0),(i64 f76)]]⟩,(ro 0 30 3 AA l77),(ro 0 3 1 eI l79)]) [0,1,2] U (.raw U U .nil) (by decide) rfl U (.raw U U (.pure (AB fun _=>U) (.pure (AB fun _=>U) .nil))) ⟨.rfl,.rfl,.rfl,.rfl,.rfl,.rfl,trivial⟩))
   refine AN fun K80 hK80=>?_
   obtain⟨o83,h5,h4⟩:=Sh.bind_some h4
   have M83 :∀(t81:Bool) (f82:Int),o83=(t81,f82)→∀s,Wk 1 s ⟨133,AM [(0,(.ptr 0 0 0 0)),(1,(.bool p1)),(5,(ow 1 0 l40)),(6,(i64 n6)),(7,(ow 2 0 l41)),(8,(i64 k38)),(9,(i64 (Sh.w (q73.1 - 5)))),(40,(.bool t81))],[⟨0,43,2,[[(ls AI s0_0),(i64 f82)]]⟩,(ro 0 30 3 AA l40),(ro 0 3 1 eI l41)]⟩→K80 s:=by
    intro t81 f82 hq s hw
    subst o83
    try dsimp only at h4
    refine hK80 _ (AS hw ?_)
    refine ci h4 U ?_ ?_ <;> clear h4
    ·intro b84 h4
     refine sr U fun K85 hK85=>?_
     refine zm tb 2 U ?_
     refine zz (i64 (Sh.len l40)) (Bj Ec U U U) rfl ?_
     obtain⟨q86,gq86,h4⟩:=Sh.bind_some h4
     refine Ad (rowsP:=[⟨0,43,2,[[(ls AI s0_0),(i64 f82)]]⟩]) (rows0:=[⟨0,43,2,[[(ls AI s0_0),(i64 f82)]]⟩]) (rows1:=[⟨0,43,2,[[(ls AI s0_0),(i64 q86.2)]]⟩]) (rows2:=[]) (rows1':=[⟨0,43,2,[[(ls AI s0_0),(i64 q86.2)]]⟩]) (rows2':=[]) (st':=[⟨0,43,2,[[(ls AI s0_0),(i64 q86.2)]]⟩,(ro 0 30 3 AA l40),(ro 0 3 1 eI l41)]) (v':=(i64 q86.1)) [0] Ae Dw (Aj gq86) rfl (by decide) rfl U (.raw U U .nil) rfl U (.raw U U .nil) .nil U U ?_
     refine zq tb U ?_
     refine dn hK85 U ?_
     refine sr U fun K87 hK87=>?_
     refine zm tb 2 U ?_
     obtain⟨c88,gc88,h4⟩:=Sh.bind_some h4
     refine zz (.ptr 1 0 (Int.toNat q86.1) 0) (An A3 U U U U gc88) rfl ?_
     refine zq tb U ?_
     refine zz (i64 c88.count) (Aw CM U U (Am gc88) rfl) rfl ?_
     refine zq tb U ?_
     refine dn hK87 U ?_
     refine ci h4 U ?_ ?_ <;> clear h4
     ·intro b89 h4
      refine zr tb U U ?_
      refine AN fun K91 hK91=>?_
      obtain⟨o94,h5,h4⟩:=Sh.bind_some h4
      have M94 :∀(t92:Bool) (f93:Int),o94=(t92,f93)→∀s,Wk 1 s ⟨133,AM [(0,(.ptr 0 0 0 0)),(1,(.bool p1)),(5,(ow 1 0 l40)),(6,(i64 n6)),(7,(ow 2 0 l41)),(8,(i64 k38)),(9,(i64 (Sh.w (1000+q86.1)))),(10,(i64 q86.1)),(68,(.bool t92))],[⟨0,43,2,[[(ls AI s0_0),(i64 f93)]]⟩,(ro 0 30 3 AA l40),(ro 0 3 1 eI l41)]⟩→K91 s:=by
       intro t92 f93 hq s hw
       subst o94
       try dsimp only at h4
       refine hK91 _ (AS hw ?_)
       refine ci h4 U ?_ ?_ <;> clear h4
       ·intro b95 h4
        refine AR (by rfl) ?_
        refine zm tb 4 U ?_
        refine zz (.ptr 1 0 (Int.toNat q86.1) 0) (An A3 U U U U gc88) rfl ?_
        refine zq tb U ?_
        refine zz (i64 c88.count) (Aw CM U U (Am gc88) rfl) rfl ?_
        refine zq tb U ?_
        refine zz (.ptr 1 0 (Int.toNat q86.1) 0) (An A3 U U U U gc88) rfl ?_
        refine zq tb U ?_
        refine Dy (st':=[⟨0,43,2,[[(ls AI s0_0),(i64 f93)]]⟩,(ro 0 30 3 AA (Sh.put l40 q86.1 (Cell.mk (Sh.w (c88.count+1)) c88.tag c88.fields))),(ro 0 3 1 eI l41)]) (u':=(Cell.mk (Sh.w (c88.count+1)) c88.tag c88.fields)) Ae CM U U gc88 U U U (show 0+1≤3 by decide) rfl U ?_
        exact AE (M78 (Sh.w (1000+q86.1)) f93 (Sh.put l40 q86.1 (Cell.mk (Sh.w (c88.count+1)) c88.tag c88.fields)) (Sh.AK h4).symm _ (AF (L:=[(0,(.ptr 0 0 0 0)),(1,(.bool p1)),(5,(.own 1 0 (List.length (Sh.put l40 q86.1 (Cell.mk (Sh.w (c88.count+1)) c88.tag c88.fields))))),(6,(i64 n6)),(7,(.own 2 0 (List.length l41))),(8,(i64 k38)),(9,(i64 (Sh.w (1000+q86.1))))]) ⟨.rfl,.rfl,(.len (by simp only[Sh.CO])),.rfl,.rfl,.rfl,.rfl,trivial⟩))
       ·intro b95 h4
        exact AU (M78 (Sh.w (1000+q86.1)) f93 l40 (Sh.AK h4).symm _ (AP U))
      refine Ef 13 (by kernel_rfl) (by kernel_rfl) (by rfl) ?_
      iterate 2 refine yq tb rfl ?_
      refine yz (.ptr 1 0 (Int.toNat q86.1) 0) (An A3 U U U U gc88) rfl ?_
      refine yq tb U ?_
      refine yz (i64 c88.count) (Aw CM U U (Am gc88) rfl) rfl ?_
      refine yq tb U ?_
      obtain⟨q96,gq96,h5⟩:=Sh.bind_some h5
      refine MJ (v:=(ls eI q96)) Ae ET (Ax gq96) rfl (.own U U (fun _=>U) .nil) rfl (PQ (fun _=>U) trivial) (by refine Wk.trans (Wk.A2 (L:=[(0,(ls eI q96))]) (st':=[⟨1,3,1,[]⟩]) (id:=0) rfl (show 0≤0 by decide) (AB fun _=>U) ⟨(.A2 U),trivial⟩ U) ?_;refine Wk.trans (AL (L:=[(0,(ls eI q96))]) (st':=[]) (st1:=[]) [] U .nil (by decide) rfl U .nil ⟨.rfl,trivial⟩) ?_;exact AF (L:=[(0,(ls eI q96))]) ⟨.rfl,trivial⟩) rfl ?_
      refine yq tb U ?_
      obtain⟨c97,gc97,h5⟩:=Sh.bind_some h5
      refine yx Av gc97 U U U ?_
      iterate 3 refine yq tb rfl ?_
      rcases Sh.Ar h5 with ⟨b98,h5⟩ | ⟨b98,h5⟩
      ·refine ys b98 U ?_
       refine DN ?_
       iterate 2 refine zs b98 rfl ?_
       refine zt b98 U ?_
       exact AE (M94 true q86.2 (Sh.AK h5).symm _ (AP U))
      ·refine yg tb b98 U ?_
       refine DN ?_
       obtain⟨q99,gq99,h5⟩:=Sh.bind_some h5
       refine Ad (rowsP:=[⟨0,43,2,[[(ls AI s0_0),(i64 q86.2)]]⟩]) (rows0:=[⟨0,43,2,[[(ls AI s0_0),(i64 q86.2)]]⟩]) (rows1:=[⟨0,43,2,[[(ls AI s0_0),(i64 q99.2)]]⟩]) (rows2:=[]) (rows1':=[⟨0,43,2,[[(ls AI s0_0),(i64 q99.2)]]⟩]) (rows2':=[]) (st':=[⟨0,43,2,[[(ls AI s0_0),(i64 q99.2)]]⟩,(ro 0 30 3 AA l40),(ro 0 3 1 eI l41)]) (v':=(i64 q99.1)) [0] (Ce U U b98) Dw (Aj gq99) rfl (by decide) rfl U (.raw U U .nil) rfl U (.raw U U .nil) .nil U U ?_
       refine zg tb b98 U ?_
       refine zf b98 U ?_
       exact AE (M94 (decide (q99.1=0)) q99.2 (Sh.AK h5).symm _ (AP U))
     ·intro b89 h4
      exact AU (M78 (Sh.w (q73.1 - 5)) q86.2 l40 (Sh.AK h4).symm _ (AP U))
    ·intro b84 h4
     exact AU (M78 (Sh.w (q73.1 - 5)) f82 l40 (Sh.AK h4).symm _ (AP U))
   refine AR (by rfl) ?_
   refine zq tb U ?_
   refine zz (i64 (Sh.len l40)) (Bj Ec U U U) rfl ?_
   refine zm tb 2 U ?_
   rcases Sh.Ar h5 with ⟨b100,h5⟩ | ⟨b100,h5⟩
   ·refine zg tb b100 U ?_
    obtain⟨q101,gq101,h5⟩:=Sh.bind_some h5
    refine Ad (rowsP:=[⟨0,43,2,[[(ls AI s0_0),(i64 q73.2)]]⟩]) (rows0:=[⟨0,43,2,[[(ls AI s0_0),(i64 q73.2)]]⟩]) (rows1:=[⟨0,43,2,[[(ls AI s0_0),(i64 q101.2)]]⟩]) (rows2:=[]) (rows1':=[⟨0,43,2,[[(ls AI s0_0),(i64 q101.2)]]⟩]) (rows2':=[]) (st':=[⟨0,43,2,[[(ls AI s0_0),(i64 q101.2)]]⟩,(ro 0 30 3 AA l40),(ro 0 3 1 eI l41)]) (v':=(i64 q101.1)) [0] (Ce U U b100) Dw (Aj gq101) rfl (by decide) rfl U (.raw U U .nil) rfl U (.raw U U .nil) .nil U U ?_
    refine zg tb b100 U ?_
    refine zt b100 U ?_
    exact AE (M83 (decide (0 < q101.1)) q101.2 (Sh.AK h5).symm _ (AP U))
   ·refine zs b100 U ?_
    iterate 2 refine zs b100 rfl ?_
    refine zf b100 U ?_
    exact AE (M83 false q73.2 (Sh.AK h5).symm _ (AP U))
  ·intro b70 h3
   exact Au (M45 f39 l40 l41 (Sh.AK h3).symm _ (AP U))
 ·intro b29 h1
  exact Au (M11 f7 l8 (Sh.AK h1).symm _ (AP U))
theorem IL {N:Nat} {p0:(List Int)} {p1:Int} {r:Bool} (h0:FD N p0 p1=some r):Ag Try.prog 33 [(ls eI p0),(i64 p1)] [] (fun v st=>v=(.bool r)∧st=[]):=by
 unfold FD at h0
 refine ai Try.func33 U U U U ?_
 refine zr tb U U ?_
 refine AN fun K2 hK2=>?_
 refine zr tb U U ?_
 obtain⟨o5,h1,h0⟩:=Sh.BP h0
 have M5 :∀(_:Unit),o5=Sum.inr ()→∀s,Wk 0 s ⟨18,AM [],[]⟩→K2 s:=by
  intro _ hq s hw
  subst o5
  try dsimp only at h0
  refine hK2 _ (AS hw ?_)
  refine zr tb U U ?_
  replace h0:=Sh.AK h0
  subst r
  exact AZ (xr (AF (L:=[(4,(.bool false))]) ⟨.rfl,trivial⟩))
 refine AY (Ap (σ:=Int) (fun n v=>Cm p0 p1 n v=some o5) (fun i4=>⟨18,AM [(0,(ls eI p0)),(1,(i64 p1)),(5,(i64 i4))],[]⟩) N 0 h1 (AP U) (fun _ hv=>by rw[Cm] at hv;cases hv) ?_)
 rintro n i4 h1
 try dsimp only at h1 ⊢
 rw[Cm] at h1
 refine AN fun K7 hK7=>?_
 refine sr U fun K8 hK8=>?_
 refine zm tb 2 U ?_
 refine zl tb U U ?_
 refine zq tb U ?_
 refine dn hK8 U ?_
 refine ci h1 U ?_ ?_ <;> clear h1
 ·intro b9 h1
  refine AU (hK7 _ ?_)
  refine AN fun K10 hK10=>?_
  refine AY ?_
  refine sr U fun K11 hK11=>?_
  refine zm tb 2 U ?_
  obtain⟨c12,gc12,h1⟩:=Sh.bind_some h1
  refine zx Av gc12 U U U ?_
  refine zm tb 3 U ?_
  refine dn hK11 U ?_
  refine ci h1 U ?_ ?_ <;> clear h1
  ·intro b13 h1
   refine zr tb U U ?_
   replace h1:=Sh.AK h1
   subst o5
   try dsimp only[id] at h0
   replace h0:=Sh.AK h0
   subst r
   exact AZ (xr (AF (L:=[(4,(.bool true))]) ⟨.rfl,trivial⟩))
  ·intro b13 h1
   refine AU (hK10 _ ?_)
   refine AR (by rfl) ?_
   refine zm tb 3 U ?_
   exact AE (xi (Sh.w (i4+1)) h1 (AP U))
 ·intro b9 h1
  exact Au (M5 () (Sh.AK h1).symm _ (AP U))
theorem HR {N:Nat} {p0:BK} {r:Bool} (h0:Dg N p0=some r):Ag Try.prog 21 [(.agg (BB p0))] [] (fun v st=>v=(.bool r)∧st=[]):=by
 unfold Dg at h0
 refine ai Try.func21 U U U U ?_
 refine sr U fun K1 hK1=>?_
 refine Df (m:=0) (st':=[⟨0,26,2,[(BB p0)]⟩]) Ae U U U U U ?_
 refine zq tb U ?_
 refine dn hK1 U ?_
 refine AN fun K2 hK2=>?_
 refine zr tb U U ?_
 obtain⟨o5,h1,h0⟩:=Sh.BP h0
 have M5 :∀(_:Unit),o5=Sum.inr ()→∀s,Wk 0 s ⟨56,AM [(1,(.ptr 0 0 0 0))],[⟨0,26,2,[(BB p0)]⟩]⟩→K2 s:=by
  intro _ hq s hw
  subst o5
  try dsimp only at h0
  refine hK2 _ (AS hw ?_)
  refine AN fun K6 hK6=>?_
  refine zr tb U U ?_
  obtain⟨o9,h1,h0⟩:=Sh.BP h0
  have M9 :∀(_:Unit),o9=Sum.inr ()→∀s,Wk 0 s ⟨56,AM [],[]⟩→K6 s:=by
   intro _ hq s hw
   subst o9
   try dsimp only at h0
   refine hK6 _ (AS hw ?_)
   refine zr tb U U ?_
   replace h0:=Sh.AK h0
   subst r
   exact AZ (xr (AF (L:=[(2,(.bool true))]) ⟨.rfl,trivial⟩))
  refine AY (Ap (σ:=Int) (fun n v=>BS p0 n v=some o9) (fun i8=>⟨56,AM [(1,(.ptr 0 0 0 0)),(5,(i64 i8))],[⟨0,26,2,[(BB p0)]⟩]⟩) N 0 h1 (AP U) (fun _ hv=>by rw[BS] at hv;cases hv) ?_)
  rintro n i8 h1
  try dsimp only at h1 ⊢
  rw[BS] at h1
  refine AN fun K11 hK11=>?_
  refine sr U fun K12 hK12=>?_
  refine zm tb 3 U ?_
  refine zl tb U U ?_
  refine zq tb U ?_
  refine dn hK12 U ?_
  refine ci h1 U ?_ ?_ <;> clear h1
  ·intro b13 h1
   refine AU (hK11 _ ?_)
   refine AN fun K14 hK14=>?_
   refine AY ?_
   refine sr U fun K15 hK15=>?_
   refine zm tb 3 U ?_
   obtain⟨c16,gc16,h1⟩:=Sh.bind_some h1
   refine zx A3 gc16 U U U ?_
   refine zm tb 3 U ?_
   refine dn hK15 U ?_
   refine ci h1 U ?_ ?_ <;> clear h1
   ·intro b17 h1
    refine zr tb U U ?_
    replace h1:=Sh.AK h1
    subst o9
    try dsimp only[id] at h0
    replace h0:=Sh.AK h0
    subst r
    exact AZ (xr (Be [(2,(.bool false))] U))
   ·intro b17 h1
    refine AU (hK14 _ ?_)
    refine AR (by rfl) ?_
    refine zm tb 3 U ?_
    exact AE (xi (Sh.w (i8+1)) h1 (AP U))
  ·intro b13 h1
   exact Au (M9 () (Sh.AK h1).symm _ (Be _ U))
 refine AY (Ap (σ:=Int) (fun n v=>BQ N p0 n v=some o5) (fun i4=>⟨56,AM [(1,(.ptr 0 0 0 0)),(3,(i64 i4))],[⟨0,26,2,[(BB p0)]⟩]⟩) N 0 h1 (AP U) (fun _ hv=>by rw[BQ] at hv;cases hv) ?_)
 rintro n i4 h1
 try dsimp only at h1 ⊢
 rw[BQ] at h1
 refine AN fun K19 hK19=>?_
 refine sr U fun K20 hK20=>?_
 refine zm tb 3 U ?_
 refine zl tb U U ?_
 refine zq tb U ?_
 refine dn hK20 U ?_
 refine ci h1 U ?_ ?_ <;> clear h1
 ·intro b21 h1
  refine AU (hK19 _ ?_)
  refine AN fun K22 hK22=>?_
  refine AY ?_
  refine sr U fun K23 hK23=>?_
  refine zm tb 3 U ?_
  obtain⟨c24,gc24,h1⟩:=Sh.bind_some h1
  refine zx Av gc24 U U U ?_
  refine zm tb 2 U ?_
  refine dn hK23 U ?_
  refine AN fun K25 hK25=>?_
  obtain⟨o27,h2,h1⟩:=Sh.bind_some h1
  have M27 :∀(t26:Bool),o27=t26→∀s,Wk 0 s ⟨56,AM [(1,(.ptr 0 0 0 0)),(3,(i64 i4)),(41,(.bool t26))],[⟨0,26,2,[(BB p0)]⟩]⟩→K25 s:=by
   intro t26 hq s hw
   subst o27
   try dsimp only at h1
   refine hK25 _ (AS hw ?_)
   refine ci h1 U ?_ ?_ <;> clear h1
   ·intro b28 h1
    refine zr tb U U ?_
    replace h1:=Sh.AK h1
    subst o5
    try dsimp only[id] at h0
    replace h0:=Sh.AK h0
    subst r
    exact AZ (xr (Be [(2,(.bool false))] U))
   ·intro b28 h1
    refine AU (hK22 _ ?_)
    refine AR (by rfl) ?_
    refine zm tb 3 U ?_
    exact AE (xi (Sh.w (i4+1)) h1 (AP U))
  refine AR (by rfl) ?_
  refine zm tb 3 U ?_
  refine zl tb U U ?_
  refine zq tb U ?_
  obtain⟨q30,gq30,h2⟩:=Sh.bind_some h2
  refine zc Nd (DY gq30) rfl U U ?_
  refine zm tb 2 U ?_
  rcases Sh.Ar h2 with ⟨b31,h2⟩ | ⟨b31,h2⟩
  ·refine zs b31 U ?_
   iterate 6 refine zs b31 rfl ?_
   refine zt b31 U ?_
   refine zq tb U ?_
   iterate 6 refine zs rfl rfl ?_
   refine zt U U ?_
   exact AE (M27 true (Sh.AK h2).symm _ (AP U))
  ·refine zg tb b31 U ?_
   iterate 2 refine zg tb b31 rfl ?_
   obtain⟨c32,gc32,h2⟩:=Sh.bind_some h2
   refine CY (v:=(.B4 (AA c32) 0)) (Ce U U b31) rfl (Ei A3 U U gc32 U) ?_
   iterate 3 refine zg tb b31 rfl ?_
   refine zf b31 U ?_
   refine zq tb U ?_
   rcases Sh.Ar h2 with ⟨b33,h2⟩ | ⟨b33,h2⟩
   ·refine zs b33 U ?_
    iterate 5 refine zs b33 rfl ?_
    refine zt b33 U ?_
    exact AE (M27 true (Sh.AK h2).symm _ (AP U))
   ·refine zg tb b33 U ?_
    iterate 2 refine zg tb b33 rfl ?_
    obtain⟨l34,gl34,h2⟩:=Sh.bind_some h2
    refine KD (i:=0) (j:=i4) (Ce U U b33) Av U U U (fun _=>U) gl34 ?_
    refine zg tb b33 U ?_
    obtain⟨q35,gq35,h2⟩:=Sh.bind_some h2
    refine zd b33 Rt (IL gq35) rfl U U U ?_
    refine zf b33 U ?_
    exact AE (M27 q35 (Sh.AK h2).symm _ (AP U))
 ·intro b21 h1
  exact Au (M5 () (Sh.AK h1).symm _ (AP U))
theorem H9 {N:Nat} {p0:(List Cell)} {r:(List Cell)} (h0:B8 N p0=some r):Ag Try.prog 36 [(ls AA p0)] [] (fun v st=>v=(ow 0 0 r)∧st=[(ro 0 30 3 AA r)]):=by
 unfold B8 at h0
 refine ai Try.func36 U U U U ?_
 refine zr tb U U ?_
 refine sr U fun K2 hK2=>?_
 refine Bc (m:=0) (st':=[(ro 0 30 3 AA ([]:List Cell))]) (l:=([]:List Cell)) (enc:=AA) Ae A3 (by decide) rfl U U U U U ?_
 refine zq tb U ?_
 refine dn hK2 U ?_
 refine AN fun K3 hK3=>?_
 refine zr tb U U ?_
 obtain⟨o8,h1,h0⟩:=Sh.bind_some h0
 have M8 :∀(l7:(List Cell)),o8=l7→∀s,Wk 0 s ⟨33,AM [(3,(ow 0 0 l7))],[(ro 0 30 3 AA l7)]⟩→K3 s:=by
  intro l7 hq s hw
  subst o8
  try dsimp only at h0
  refine hK3 _ (AS hw ?_)
  refine zr tb U U ?_
  replace h0:=Sh.AK h0
  subst r
  exact AZ (xr (AF (L:=[(2,(ow 0 0 l7))]) ⟨.rfl,trivial⟩))
 refine AY (Ap (σ:=Int×(List Cell)) (fun n v=>BN p0 n v.1 v.2=some o8) (fun (i5,l6)=>⟨33,AM [(0,(ls AA p0)),(3,(ow 0 0 l6)),(4,(i64 i5))],[(ro 0 30 3 AA l6)]⟩) N (0,[]) h1 (AP U) (fun _ hv=>by rw[BN] at hv;cases hv) ?_)
 rintro n ⟨i5,l6⟩ h1
 try dsimp only at h1 ⊢
 rw[BN] at h1
 refine AN fun K10 hK10=>?_
 refine sr U fun K11 hK11=>?_
 refine zm tb 2 U ?_
 refine zl tb U U ?_
 refine zq tb U ?_
 refine dn hK11 U ?_
 refine ci h1 U ?_ ?_ <;> clear h1
 ·intro b12 h1
  refine AU (hK10 _ ?_)
  refine AN fun K13 hK13=>?_
  refine AY ?_
  refine Ef 19 (by kernel_rfl) (by kernel_rfl) (by rfl) ?_
  iterate 3 refine yq tb rfl ?_
  obtain⟨c14,gc14,h1⟩:=Sh.bind_some h1
  refine yx A3 gc14 U U U ?_
  iterate 4 refine yq tb rfl ?_
  refine yx A3 gc14 U U U ?_
  iterate 4 refine yq tb rfl ?_
  refine yx A3 gc14 U U U ?_
  iterate 2 refine yq tb rfl ?_
  obtain⟨q15,gq15,h1⟩:=Sh.bind_some h1
  refine KE (v:=(ls eI q15)) Ae MQ (Ag.wk (Cv gq15) (by refine Wk.trans (Wk.A2 (L:=[(0,(ls eI q15))]) (st':=[⟨1,3,1,[]⟩]) (id:=0) rfl (show 0≤0 by decide) (AB fun _=>U) ⟨(.A2 U),trivial⟩ U) ?_;refine Wk.trans (AL (L:=[(0,(ls eI q15))]) (st':=[]) (st1:=[]) [] U .nil (by decide) rfl U .nil ⟨.rfl,trivial⟩) ?_;exact AF (L:=[(0,(ls eI q15))]) ⟨.rfl,trivial⟩)) rfl U U ?_
  refine yz (.agg [(i64 c14.count),(i64 c14.tag),(ls eI q15)]) (FY L5 Ma Hu U U) rfl ?_
  refine Ru (l:=[(Cell.mk c14.count c14.tag q15)]) (enc:=AA) Ae A3 (by decide) rfl U U U U (AB fun _=>U) ?_
  refine DN ?_
  obtain⟨l16,gl16,h1⟩:=Sh.bind_some h1
  refine EP (st':=[(ro 1 30 3 AA l16)]) (l2:=[(Cell.mk c14.count c14.tag q15)]) Ae A3 U U U U MF (fun _=>U) gl16 U ?_
  refine zq tb U ?_
  refine dn hK13 U ?_
  refine AR (by rfl) ?_
  refine zm tb 3 U ?_
  exact AE (xi (Sh.w (i5+1),l16) h1 (Fy (L:=[(0,(ls AA p0)),(3,(ow 0 0 l16)),(4,(i64 (Sh.w (i5+1))))]) (st':=[(ro 0 30 3 AA l16)]) (.pure (AB fun _=>U) .nil) ⟨.rfl,.rfl,.rfl,trivial⟩))
 ·intro b12 h1
  exact Au (M8 l6 (Sh.AK h1).symm _ (AP U))
theorem HJ {N:Nat} {p0:BK} {r:(List Cell)} (h0:C2 N p0=some r):Ag Try.prog 23 [(.agg (BB p0))] [] (fun v st=>v=(ow 0 0 r)∧st=[(ro 0 30 3 AA r)]):=by
 unfold C2 at h0
 refine ai Try.func23 U U U U ?_
 refine sr U fun K1 hK1=>?_
 refine Df (m:=0) (st':=[⟨0,26,2,[(BB p0)]⟩]) Ae U U U U U ?_
 refine zq tb U ?_
 refine dn hK1 U ?_
 refine sr U fun K2 hK2=>?_
 refine zm tb 2 U ?_
 obtain⟨q3,gq3,h0⟩:=Sh.bind_some h0
 refine BJ (v':=(ow 1 0 q3)) (st':=[⟨0,26,2,[(BB p0)]⟩,(ro 0 30 3 AA q3)]) Ae KW (H9 gq3) rfl U ⟨(BD fun _=>U),trivial⟩ U U ?_
 refine zq tb U ?_
 refine dn hK2 U ?_
 refine AN fun K4 hK4=>?_
 refine zr tb U U ?_
 obtain⟨o9,h1,h0⟩:=Sh.bind_some h0
 have M9 :∀(l8:(List Cell)),o9=l8→∀s,Wk 0 s ⟨24,AM [(3,(ow 0 0 l8))],[(ro 0 30 3 AA l8)]⟩→K4 s:=by
  intro l8 hq s hw
  subst o9
  try dsimp only at h0
  refine hK4 _ (AS hw ?_)
  refine zr tb U U ?_
  replace h0:=Sh.AK h0
  subst r
  exact AZ (xr (AF (L:=[(2,(ow 0 0 l8))]) ⟨.rfl,trivial⟩))
 refine AY (Ap (σ:=Int×(List Cell)) (fun n v=>Bz p0 n v.1 v.2=some o9) (fun (i6,l7)=>⟨24,AM [(1,(.ptr 0 0 0 0)),(3,(ow 1 0 l7)),(4,(i64 i6))],[⟨0,26,2,[(BB p0)]⟩,(ro 0 30 3 AA l7)]⟩) N (0,q3) h1 (AP U) (fun _ hv=>by rw[Bz] at hv;cases hv) ?_)
 rintro n ⟨i6,l7⟩ h1
 try dsimp only at h1 ⊢
 rw[Bz] at h1
 refine AN fun K11 hK11=>?_
 refine sr U fun K12 hK12=>?_
 refine zm tb 3 U ?_
 refine zl tb U U ?_
 refine zq tb U ?_
 refine dn hK12 U ?_
 refine ci h1 U ?_ ?_ <;> clear h1
 ·intro b13 h1
  refine AU (hK11 _ ?_)
  refine AN fun K14 hK14=>?_
  refine AY ?_
  refine AR (by rfl) ?_
  refine zm tb 4 U ?_
  obtain⟨c15,gc15,h1⟩:=Sh.bind_some h1
  refine zx Av gc15 U U U ?_
  refine zq tb U ?_
  obtain⟨c16,gc16,h1⟩:=Sh.bind_some h1
  refine zz (.ptr 1 0 (Int.toNat c15) 0) (An A3 U U U U gc16) rfl ?_
  refine zq tb U ?_
  refine Dy (st':=[⟨0,26,2,[(BB p0)]⟩,(ro 0 30 3 AA (Sh.put l7 c15 (Cell.mk 1 c16.tag c16.fields)))]) (u':=(Cell.mk 1 c16.tag c16.fields)) Ae CM U U gc16 U U U (show 0+1≤3 by decide) rfl U ?_
  refine dn hK14 U ?_
  refine AR (by rfl) ?_
  refine zm tb 3 U ?_
  exact AE (xi (Sh.w (i6+1),Sh.put l7 c15 (Cell.mk 1 c16.tag c16.fields)) h1 (AF (L:=[(1,(.ptr 0 0 0 0)),(3,(.own 1 0 (List.length (Sh.put l7 c15 (Cell.mk 1 c16.tag c16.fields))))),(4,(i64 (Sh.w (i6+1))))]) ⟨.rfl,(.len (by simp only[Sh.CO])),.rfl,trivial⟩))
 ·intro b13 h1
  exact Au (M9 l7 (Sh.AK h1).symm _ (AL (L:=[(3,(ow 0 0 l7))]) (st':=[(ro 0 30 3 AA l7)]) (st1:=[(ro 0 30 3 AA l7)]) [1] U .nil (by decide) rfl U (.pure (AB fun _=>U) .nil) ⟨.rfl,trivial⟩))
theorem F7 {N:Nat} {p0:BK} {r:Bool} (h0:Cx N p0=some r):Ag Try.prog 13 [(.agg (BB p0))] [] (fun v st=>v=(.bool r)∧st=[]):=by
 unfold Cx at h0
 refine ai Try.func13 U U U U ?_
 refine sr U fun K1 hK1=>?_
 refine Df (m:=0) (st':=[⟨0,26,2,[(BB p0)]⟩]) Ae U U U U U ?_
 refine zq tb U ?_
 refine dn hK1 U ?_
 refine AN fun K2 hK2=>?_
 refine AN fun K3 hK3=>?_
 obtain⟨o5,h1,h0⟩:=Sh.bind_some h0
 have M5 :∀(t4:Bool),o5=t4→∀s,Wk 0 s ⟨33,AM [(1,(.ptr 0 0 0 0)),(13,(.bool t4))],[⟨0,26,2,[(BB p0)]⟩]⟩→K3 s:=by
  intro t4 hq s hw
  subst o5
  try dsimp only at h0
  refine hK3 _ (AS hw ?_)
  refine ci h0 U ?_ ?_ <;> clear h0
  ·intro b6 h0
   refine zr tb U U ?_
   replace h0:=Sh.AK h0
   subst r
   exact AZ (xr (Be [(2,(.bool false))] U))
  ·intro b6 h0
   refine AU (hK2 _ ?_)
   refine sr U fun K8 hK8=>?_
   refine zq tb U ?_
   obtain⟨q9,gq9,h0⟩:=Sh.bind_some h0
   refine BJ (v':=(ow 1 0 q9)) (st':=[⟨0,26,2,[(BB p0)]⟩,(ro 0 30 3 AA q9)]) Ae Ep (HJ gq9) rfl U ⟨(BD fun _=>U),trivial⟩ U U ?_
   refine Af (Wk.A2 (L:=[(1,(.ptr 0 0 0 0)),(15,(ls AA q9))]) (st':=[⟨0,26,2,[(BB p0)]⟩,⟨1,30,3,[]⟩]) (id:=1) rfl (show 0≤1 by decide) (AB fun _=>U) ⟨.rfl,(.A2 U),trivial⟩ U) ?_
   obtain⟨q10,gq10,h0⟩:=Sh.bind_some h0
   refine BJ (v':=(ow 2 0 q10)) (st':=[⟨0,26,2,[(BB p0)]⟩,⟨1,30,3,[]⟩,(ro 0 3 1 eI q10)]) Ae ET (Ax gq10) rfl U ⟨(BD fun _=>U),trivial⟩ U U ?_
   refine zq tb U ?_
   refine dn hK8 U ?_
   refine AN fun K11 hK11=>?_
   refine zr tb U U ?_
   obtain⟨o14,h1,h0⟩:=Sh.BP h0
   have M14 :∀(_:Unit),o14=Sum.inr ()→∀s,Wk 0 s ⟨33,AM [],[]⟩→K11 s:=by
    intro _ hq s hw
    subst o14
    try dsimp only at h0
    refine hK11 _ (AS hw ?_)
    refine zr tb U U ?_
    replace h0:=Sh.AK h0
    subst r
    exact AZ (xr (AF (L:=[(2,(.bool true))]) ⟨.rfl,trivial⟩))
   refine AY (Ap (σ:=Int) (fun n v=>Bn p0 q10 n v=some o14) (fun i13=>⟨33,AM [(1,(.ptr 0 0 0 0)),(3,(ow 1 0 q10)),(4,(i64 i13))],[⟨0,26,2,[(BB p0)]⟩,(ro 0 3 1 eI q10)]⟩) N 0 h1 (AL (L:=[(1,(.ptr 0 0 0 0)),(3,(ow 1 0 q10)),(4,(i64 0))]) (st':=[⟨0,26,2,[(BB p0)]⟩,(ro 0 3 1 eI q10)]) (st1:=[⟨0,26,2,[(BB p0)]⟩,(ro 0 3 1 eI q10)]) [0,2] U .nil (by decide) rfl U (.raw U U (.pure (AB fun _=>U) .nil)) ⟨.rfl,.rfl,.rfl,trivial⟩) (fun _ hv=>by rw[Bn] at hv;cases hv) ?_)
   rintro n i13 h1
   try dsimp only at h1 ⊢
   rw[Bn] at h1
   refine AN fun K16 hK16=>?_
   refine sr U fun K17 hK17=>?_
   refine zm tb 3 U ?_
   refine zl tb U U ?_
   refine zq tb U ?_
   refine dn hK17 U ?_
   refine ci h1 U ?_ ?_ <;> clear h1
   ·intro b18 h1
    refine AU (hK16 _ ?_)
    refine AN fun K19 hK19=>?_
    refine AY ?_
    refine sr U fun K20 hK20=>?_
    refine zm tb 4 U ?_
    obtain⟨c21,gc21,h1⟩:=Sh.bind_some h1
    refine zx Av gc21 U U U ?_
    refine zq tb U ?_
    obtain⟨c22,gc22,h1⟩:=Sh.bind_some h1
    refine zz (.ptr 1 0 (Int.toNat c21) 0) (An Av U U U U gc22) rfl ?_
    refine zz (i64 c22) (Aw CM U U (Am gc22) rfl) rfl ?_
    refine zq tb U ?_
    refine dn hK20 U ?_
    refine ci h1 U ?_ ?_ <;> clear h1
    ·intro b23 h1
     have b24:decide (c22=0)=false:=by simpa using b23
     refine zr tb U U ?_
     replace h1:=Sh.AK h1
     subst o14
     try dsimp only[id] at h0
     replace h0:=Sh.AK h0
     subst r
     exact AZ (xr (Be [(2,(.bool false))] U))
    ·intro b23 h1
     have b26:decide (c22=0)=true:=by simpa using b23
     refine AU (hK19 _ ?_)
     refine AR (by rfl) ?_
     refine zm tb 3 U ?_
     exact AE (xi (Sh.w (i13+1)) h1 (AP U))
   ·intro b18 h1
    exact Au (M14 () (Sh.AK h1).symm _ (Be _ U))
 refine AR (by rfl) ?_
 refine zq tb U ?_
 obtain⟨q27,gq27,h1⟩:=Sh.bind_some h1
 refine zc SW (HR gq27) rfl U U ?_
 refine zm tb 2 U ?_
 rcases Sh.Ar h1 with ⟨b28,h1⟩ | ⟨b28,h1⟩
 ·refine zs b28 U ?_
  iterate 3 refine zs b28 rfl ?_
  refine zt b28 U ?_
  exact AE (M5 true (Sh.AK h1).symm _ (AP U))
 ·refine zg tb b28 U ?_
  obtain⟨q29,gq29,h1⟩:=Sh.bind_some h1
  refine BJ (v':=(ow 1 0 q29)) (st':=[⟨0,26,2,[(BB p0)]⟩,(ro 0 30 3 AA q29)]) (Ce U U b28) Ep (HJ gq29) rfl U ⟨(BD fun _=>U),trivial⟩ U U ?_
  refine Af (Wk.A2 (L:=[(1,(.ptr 0 0 0 0)),(8,(.bool (!q27))),(10,(ls AA q29))]) (st':=[⟨0,26,2,[(BB p0)]⟩,⟨1,30,3,[]⟩]) (id:=1) rfl (show 0≤1 by decide) (AB fun _=>U) ⟨.rfl,.rfl,(.A2 U),trivial⟩ U) ?_
  obtain⟨q30,gq30,h1⟩:=Sh.bind_some h1
  refine zd b28 PH (De gq30) rfl U U U ?_
  refine zg tb b28 U ?_
  refine zf b28 U ?_
  exact AE (M5 (!q30) (Sh.AK h1).symm _ (AL (L:=[(1,(.ptr 0 0 0 0)),(13,(.bool (!q30)))]) (st':=[⟨0,26,2,[(BB p0)]⟩]) (st1:=[⟨0,26,2,[(BB p0)]⟩]) [0] U .nil (by decide) rfl U (.raw U U .nil) ⟨.rfl,.rfl,trivial⟩))
theorem JC {N:Nat} {s0:(List Cell)} {s1:(List Int)} {r:BK} (h0:EF N s0 s1=some r):Ag Try.prog 43 [(.agg [(ow 0 0 s0),(ow 1 0 s1)])] [(ro 0 30 3 AA s0),(ro 0 3 1 eI s1)] (fun v st=>v=(.agg [(ow 2 0 r.cells),(ow 3 0 r.pending)])∧st=[(ro 0 30 3 AA s0),(ro 0 3 1 eI s1),(ro 0 30 3 AA r.cells),(ro 0 3 1 eI r.pending)]):=by
 unfold EF at h0
 refine Ag.wk (r0:=(.agg [(ow 2 0 r.cells),(ow 3 0 r.pending)])) (st0:=[(ro 0 30 3 AA s0),(ro 0 3 1 eI s1),(ro 0 30 3 AA r.cells),(ro 0 3 1 eI r.pending),⟨0,26,2,[[(ow 2 0 r.cells),(ow 3 0 r.pending)]]⟩]) ?_ (E8 (L:=[(0,(.agg [(ow 2 0 r.cells),(ow 3 0 r.pending)]))]) (st':=[(ro 0 30 3 AA s0),(ro 0 3 1 eI s1),(ro 0 30 3 AA r.cells),(ro 0 3 1 eI r.pending)]) [0,1,2,3] U (by decide) rfl U (.pure (AB fun _=>U) (.pure (AB fun _=>U) (.pure (AB fun _=>U) (.pure (AB fun _=>U) trivial)))) ⟨.rfl,trivial⟩)
 refine ai Try.func43 U U U U ?_
 refine sr U fun K1 hK1=>?_
 refine Df (m:=2) (st':=[(ro 0 30 3 AA s0),(ro 0 3 1 eI s1),⟨0,26,2,[[(ow 0 0 s0),(ow 1 0 s1)]]⟩]) Ae U U U U U ?_
 refine BF (m:=3) (st':=[(ro 0 30 3 AA s0),(ro 0 3 1 eI s1),⟨0,26,2,[[(ow 0 0 s0),(ow 1 0 s1)]]⟩,⟨0,26,2,[[.zc,.zc]]⟩]) Ae C5 U U ?_
 refine dn hK1 U ?_
 refine AN fun K2 hK2=>?_
 refine Dd (by kernel_rfl) ?_
 obtain⟨q3,gq3,h0⟩:=Sh.bind_some h0
 obtain⟨q4,gq4,h0⟩:=Sh.bind_some h0
 refine Et fun A5 hA5=>?_
 have A5_01234567:A5 0 #[true,true,true,true,true,true,true,true] ⟨10,AM [(2,(.ptr 2 0 0 0))],[(ro 0 30 3 AA s0),(ro 0 3 1 eI s1),⟨0,26,2,[[(ow 3 0 q3),(ow 4 0 q4)]]⟩,(ro 0 30 3 AA q3),(ro 0 3 1 eI q4)]⟩:=(hA5 _ _ _).2 (by
  refine EE U (by kernel_rfl) ?_
  refine hK2 _ ?_
  replace h0:=Sh.AK h0
  subst r
  exact AZ (Exists.intro _ (And.intro ((AL (L:=[(2,(.ptr 4 0 0 0))]) (st':=[(ro 0 30 3 AA s0),(ro 0 3 1 eI s1),(ro 0 30 3 AA q3),(ro 0 3 1 eI q4),⟨0,26,2,[[(ow 2 0 q3),(ow 3 0 q4)]]⟩]) (st1:=[(ro 0 30 3 AA s0),(ro 0 3 1 eI s1),(ro 0 30 3 AA q3),(ro 0 3 1 eI q4),⟨0,26,2,[[(ow 3 0 q3),(ow 4 0 q4)]]⟩]) [0,1,3,4,2] U (.pure (AB fun _=>U) (.pure (AB fun _=>U) .nil)) (by decide) rfl U (.pure (AB fun _=>U) (.pure (AB fun _=>U) (.pure (AB fun _=>U) (.pure (AB fun _=>U) (.raw U U .nil))))) ⟨.rfl,trivial⟩).trans (AF (L:=[(2,(.ptr 4 0 0 0))]) ⟨.rfl,trivial⟩)) (D3 (x:=.tmp 2) (off:=0) (cs:=[(ow 2 0 q3),(ow 3 0 q4)]) (vs:=[(ow 2 0 q3),(ow 3 0 q4)]) DU U U U (show 0+2≤2 by decide) rfl _ ⟨U,U⟩))))
 have A5_0123456:A5 1 #[true,true,true,true,true,true,true,false] ⟨10,AM [(2,(.ptr 2 0 0 0)),(9,(.agg [(ow 3 0 q3),(ow 4 0 q4)]))],[(ro 0 30 3 AA s0),(ro 0 3 1 eI s1),⟨0,26,2,[[.zc,.zc]]⟩,(ro 0 30 3 AA q3),(ro 0 3 1 eI q4)]⟩:=(hA5 _ _ _).2 (by
  refine AJ [7] U (by kernel_rfl) (by decide) ⟨?_,trivial⟩
  ·refine AH (i:=7) rfl U (by rfl) ?_
   refine Bt (st':=[(ro 0 30 3 AA s0),(ro 0 3 1 eI s1),⟨0,26,2,[[(ow 3 0 q3),(ow 4 0 q4)]]⟩,(ro 0 30 3 AA q3),(ro 0 3 1 eI q4)]) Ae DU U U U U U U (show 0+2≤2 by decide) rfl ?_
   refine AE ⟨U,?_⟩
   exact AD (AF (L:=[(2,(.ptr 2 0 0 0))]) ⟨.rfl,trivial⟩) (AG (by kernel_rfl) ((hA5 _ _ _).1 A5_01234567)) rfl)
 have A5_012345:A5 2 #[true,true,true,true,true,true,false,false] ⟨10,AM [(2,(.ptr 2 0 0 0)),(5,(ow 3 0 q3)),(8,(ow 4 0 q4))],[(ro 0 30 3 AA s0),(ro 0 3 1 eI s1),⟨0,26,2,[[.zc,.zc]]⟩,(ro 0 30 3 AA q3),(ro 0 3 1 eI q4)]⟩:=(hA5 _ _ _).2 (by
  refine AJ [6] U (by kernel_rfl) (by decide) ⟨?_,trivial⟩
  ·refine AH (i:=6) rfl U (by rfl) ?_
   refine zz (.agg [(ow 3 0 q3),(ow 4 0 q4)]) (FY NV Nf C5 U U) rfl ?_
   refine AE ⟨U,?_⟩
   exact AD (AF (L:=[(2,(.ptr 2 0 0 0)),(9,(.agg [(ow 3 0 q3),(ow 4 0 q4)]))]) ⟨.rfl,.rfl,trivial⟩) (AG (by kernel_rfl) ((hA5 _ _ _).1 A5_0123456)) rfl)
 have A5_01234:A5 3 #[true,true,true,true,true,false,false,false] ⟨10,AM [(2,(.ptr 2 0 0 0)),(5,(ow 3 0 q3)),(7,(ow 1 0 s1))],[(ro 0 30 3 AA s0),(ro 0 3 1 eI s1),⟨0,26,2,[[.zc,.zc]]⟩,(ro 0 30 3 AA q3)]⟩:=(hA5 _ _ _).2 (by
  refine AJ [5] U (by kernel_rfl) (by decide) ⟨?_,trivial⟩
  ·refine AH (i:=5) rfl U (by rfl) ?_
   refine DJ (v':=(ow 4 0 q4)) (st':=[(ro 0 30 3 AA s0),(ro 0 3 1 eI s1),⟨0,26,2,[[.zc,.zc]]⟩,(ro 0 30 3 AA q3),(ro 0 3 1 eI q4)]) Ae MQ (Cv gq4) rfl (.own U U (fun _=>U) .nil) rfl (PQ (fun _=>U) trivial) rfl U ?_
   refine AE ⟨U,?_⟩
   exact AD (AF (L:=[(2,(.ptr 2 0 0 0)),(5,(ow 3 0 q3)),(8,(ow 4 0 q4))]) ⟨.rfl,.rfl,.rfl,trivial⟩) (AG (by kernel_rfl) ((hA5 _ _ _).1 A5_012345)) rfl)
 have A5_0123:A5 4 #[true,true,true,true,false,false,false,false] ⟨10,AM [(2,(.ptr 2 0 0 0)),(5,(ow 3 0 q3)),(6,(.ptr 4 0 0 1))],[(ro 0 30 3 AA s0),(ro 0 3 1 eI s1),⟨0,26,2,[[.zc,.zc]]⟩,(ro 0 30 3 AA q3),⟨0,26,2,[[(ow 0 0 s0),(ow 1 0 s1)]]⟩]⟩:=(hA5 _ _ _).2 (by
  refine AJ [4] U (by kernel_rfl) (by decide) ⟨?_,trivial⟩
  ·refine AH (i:=4) rfl U (by rfl) ?_
   refine zq tb U ?_
   refine AE ⟨U,?_⟩
   exact AD (by refine Wk.trans (AL (L:=[(2,(.ptr 2 0 0 0)),(5,(ow 3 0 q3)),(7,(ow 1 0 s1))]) (st':=[(ro 0 30 3 AA s0),(ro 0 3 1 eI s1),⟨0,26,2,[[.zc,.zc]]⟩,(ro 0 30 3 AA q3)]) (st1:=[(ro 0 30 3 AA s0),(ro 0 3 1 eI s1),⟨0,26,2,[[.zc,.zc]]⟩,(ro 0 30 3 AA q3)]) [0,1,2,3] U (.pure (AB fun _=>U) (.pure (AB fun _=>U) .nil)) (by decide) rfl U (.pure (AB fun _=>U) (.pure (AB fun _=>U) (.raw U U (.pure (AB fun _=>U) .nil)))) ⟨.rfl,.rfl,.rfl,trivial⟩) ?_;exact AF (L:=[(2,(.ptr 2 0 0 0)),(5,(ow 3 0 q3)),(7,(ow 1 0 s1))]) ⟨.rfl,.rfl,.rfl,trivial⟩) (AG (by kernel_rfl) ((hA5 _ _ _).1 A5_01234)) rfl)
 have A5_012:A5 5 #[true,true,true,false,false,false,false,false] ⟨10,AM [(1,(.ptr 2 0 0 0)),(2,(.ptr 3 0 0 0)),(5,(ow 4 0 q3))],[(ro 0 30 3 AA s0),(ro 0 3 1 eI s1),⟨0,26,2,[[(ow 0 0 s0),(ow 1 0 s1)]]⟩,⟨0,26,2,[[.zc,.zc]]⟩,(ro 0 30 3 AA q3)]⟩:=(hA5 _ _ _).2 (by
  refine AJ [3] U (by kernel_rfl) (by decide) ⟨?_,trivial⟩
  ·refine AH (i:=3) rfl U (by rfl) ?_
   refine zq tb U ?_
   refine AE ⟨U,?_⟩
   exact AD (by refine Wk.trans (AL (L:=[(2,(.ptr 2 0 0 0)),(5,(ow 3 0 q3)),(6,(.ptr 4 0 0 1))]) (st':=[(ro 0 30 3 AA s0),(ro 0 3 1 eI s1),⟨0,26,2,[[.zc,.zc]]⟩,(ro 0 30 3 AA q3),⟨0,26,2,[[(ow 0 0 s0),(ow 1 0 s1)]]⟩]) (st1:=[(ro 0 30 3 AA s0),(ro 0 3 1 eI s1),⟨0,26,2,[[.zc,.zc]]⟩,(ro 0 30 3 AA q3),⟨0,26,2,[[(ow 0 0 s0),(ow 1 0 s1)]]⟩]) [0,1,3,4,2] U (.pure (AB fun _=>U) (.pure (AB fun _=>U) .nil)) (by decide) rfl U (.pure (AB fun _=>U) (.pure (AB fun _=>U) (.raw U U (.pure (AB fun _=>U) (.raw U U .nil))))) ⟨.rfl,.rfl,.rfl,trivial⟩) ?_;exact AF (L:=[(2,(.ptr 2 0 0 0)),(5,(ow 3 0 q3)),(6,(.ptr 4 0 0 1))]) ⟨.rfl,.rfl,.rfl,trivial⟩) (AG (by kernel_rfl) ((hA5 _ _ _).1 A5_0123)) rfl)
 have A5_0134:A5 4 #[true,true,false,true,true,false,false,false] ⟨10,AM [(2,(.ptr 2 0 0 0)),(4,(ow 0 0 s0)),(7,(ow 1 0 s1))],[(ro 0 30 3 AA s0),(ro 0 3 1 eI s1),⟨0,26,2,[[.zc,.zc]]⟩]⟩:=(hA5 _ _ _).2 (by
  refine AJ [2] U (by kernel_rfl) (by decide) ⟨?_,trivial⟩
  ·refine AH (i:=2) rfl U (by rfl) ?_
   refine Ad (rowsP:=[(ro 0 30 3 AA s0)]) (rows0:=[(ro 0 30 3 AA s0)]) (rows1:=[(ro 0 30 3 AA s0)]) (rows2:=[(ro 0 30 3 AA q3)]) (rows1':=[(ro 0 30 3 AA s0)]) (rows2':=[(ro 0 30 3 AA q3)]) (st':=[(ro 0 30 3 AA s0),(ro 0 3 1 eI s1),⟨0,26,2,[[.zc,.zc]]⟩,(ro 0 30 3 AA q3)]) (v':=(ow 3 0 q3)) [0] Ae KW (Cu gq3) rfl (by decide) rfl U (.pure (AB fun _=>U) .nil) rfl U (.pure (AB fun _=>U) .nil) (.pure (AB fun _=>U) .nil) rfl U ?_
   refine AE ⟨U,?_⟩
   exact AD (AF (L:=[(2,(.ptr 2 0 0 0)),(5,(ow 3 0 q3)),(7,(ow 1 0 s1))]) ⟨.rfl,.rfl,.rfl,trivial⟩) (AG (by kernel_rfl) ((hA5 _ _ _).1 A5_01234)) rfl)
 have A5_013:A5 5 #[true,true,false,true,false,false,false,false] ⟨10,AM [(2,(.ptr 2 0 0 0)),(4,(ow 0 0 s0)),(6,(.ptr 3 0 0 1))],[(ro 0 30 3 AA s0),(ro 0 3 1 eI s1),⟨0,26,2,[[.zc,.zc]]⟩,⟨0,26,2,[[(ow 0 0 s0),(ow 1 0 s1)]]⟩]⟩:=(hA5 _ _ _).2 (by
  refine AJ [2,4] U (by kernel_rfl) (by decide) ⟨?_,?_,trivial⟩
  ·refine AH (i:=2) rfl U (by rfl) ?_
   refine Ad (rowsP:=[(ro 0 30 3 AA s0)]) (rows0:=[(ro 0 30 3 AA s0)]) (rows1:=[(ro 0 30 3 AA s0)]) (rows2:=[(ro 0 30 3 AA q3)]) (rows1':=[(ro 0 30 3 AA s0)]) (rows2':=[(ro 0 30 3 AA q3)]) (st':=[(ro 0 30 3 AA s0),(ro 0 3 1 eI s1),⟨0,26,2,[[.zc,.zc]]⟩,⟨0,26,2,[[(ow 0 0 s0),(ow 1 0 s1)]]⟩,(ro 0 30 3 AA q3)]) (v':=(ow 4 0 q3)) [0] Ae KW (Cu gq3) rfl (by decide) rfl U (.pure (AB fun _=>U) .nil) rfl U (.pure (AB fun _=>U) .nil) (.pure (AB fun _=>U) .nil) rfl U ?_
   refine AE ⟨U,?_⟩
   exact AD (by refine Wk.trans (AL (L:=[(2,(.ptr 2 0 0 0)),(5,(ow 3 0 q3)),(6,(.ptr 4 0 0 1))]) (st':=[(ro 0 30 3 AA s0),(ro 0 3 1 eI s1),⟨0,26,2,[[.zc,.zc]]⟩,(ro 0 30 3 AA q3),⟨0,26,2,[[(ow 0 0 s0),(ow 1 0 s1)]]⟩]) (st1:=[(ro 0 30 3 AA s0),(ro 0 3 1 eI s1),⟨0,26,2,[[.zc,.zc]]⟩,(ro 0 30 3 AA q3),⟨0,26,2,[[(ow 0 0 s0),(ow 1 0 s1)]]⟩]) [0,1,2,4,3] U (.pure (AB fun _=>U) (.pure (AB fun _=>U) .nil)) (by decide) rfl U (.pure (AB fun _=>U) (.pure (AB fun _=>U) (.raw U U (.pure (AB fun _=>U) (.raw U U .nil))))) ⟨.rfl,.rfl,.rfl,trivial⟩) ?_;exact AF (L:=[(2,(.ptr 2 0 0 0)),(5,(ow 3 0 q3)),(6,(.ptr 4 0 0 1))]) ⟨.rfl,.rfl,.rfl,trivial⟩) (AG (by kernel_rfl) ((hA5 _ _ _).1 A5_0123)) rfl
  ·refine AH (i:=4) rfl U (by rfl) ?_
   refine zq tb U ?_
   refine AE ⟨U,?_⟩
   exact AD (by refine Wk.trans (AL (L:=[(2,(.ptr 2 0 0 0)),(4,(ow 0 0 s0)),(7,(ow 1 0 s1))]) (st':=[(ro 0 30 3 AA s0),(ro 0 3 1 eI s1),⟨0,26,2,[[.zc,.zc]]⟩]) (st1:=[(ro 0 30 3 AA s0),(ro 0 3 1 eI s1),⟨0,26,2,[[.zc,.zc]]⟩]) [0,1,2] U (.pure (AB fun _=>U) (.pure (AB fun _=>U) .nil)) (by decide) rfl U (.pure (AB fun _=>U) (.pure (AB fun _=>U) (.raw U U .nil))) ⟨.rfl,.rfl,.rfl,trivial⟩) ?_;exact AF (L:=[(2,(.ptr 2 0 0 0)),(4,(ow 0 0 s0)),(7,(ow 1 0 s1))]) ⟨.rfl,.rfl,.rfl,trivial⟩) (AG (by kernel_rfl) ((hA5 _ _ _).1 A5_0134)) rfl)
 have A5_01:A5 6 #[true,true,false,false,false,false,false,false] ⟨10,AM [(1,(.ptr 2 0 0 0)),(2,(.ptr 3 0 0 0)),(4,(ow 0 0 s0))],[(ro 0 30 3 AA s0),(ro 0 3 1 eI s1),⟨0,26,2,[[(ow 0 0 s0),(ow 1 0 s1)]]⟩,⟨0,26,2,[[.zc,.zc]]⟩]⟩:=(hA5 _ _ _).2 (by
  refine AJ [2,3] U (by kernel_rfl) (by decide) ⟨?_,?_,trivial⟩
  ·refine AH (i:=2) rfl U (by rfl) ?_
   refine Ad (rowsP:=[(ro 0 30 3 AA s0)]) (rows0:=[(ro 0 30 3 AA s0)]) (rows1:=[(ro 0 30 3 AA s0)]) (rows2:=[(ro 0 30 3 AA q3)]) (rows1':=[(ro 0 30 3 AA s0)]) (rows2':=[(ro 0 30 3 AA q3)]) (st':=[(ro 0 30 3 AA s0),(ro 0 3 1 eI s1),⟨0,26,2,[[(ow 0 0 s0),(ow 1 0 s1)]]⟩,⟨0,26,2,[[.zc,.zc]]⟩,(ro 0 30 3 AA q3)]) (v':=(ow 4 0 q3)) [0] Ae KW (Cu gq3) rfl (by decide) rfl U (.pure (AB fun _=>U) .nil) rfl U (.pure (AB fun _=>U) .nil) (.pure (AB fun _=>U) .nil) rfl U ?_
   refine AE ⟨U,?_⟩
   exact AD (AF (L:=[(1,(.ptr 2 0 0 0)),(2,(.ptr 3 0 0 0)),(5,(ow 4 0 q3))]) ⟨.rfl,.rfl,.rfl,trivial⟩) (AG (by kernel_rfl) ((hA5 _ _ _).1 A5_012)) rfl
  ·refine AH (i:=3) rfl U (by rfl) ?_
   refine zq tb U ?_
   refine AE ⟨U,?_⟩
   exact AD (by refine Wk.trans (AL (L:=[(2,(.ptr 2 0 0 0)),(4,(ow 0 0 s0)),(6,(.ptr 3 0 0 1))]) (st':=[(ro 0 30 3 AA s0),(ro 0 3 1 eI s1),⟨0,26,2,[[.zc,.zc]]⟩,⟨0,26,2,[[(ow 0 0 s0),(ow 1 0 s1)]]⟩]) (st1:=[(ro 0 30 3 AA s0),(ro 0 3 1 eI s1),⟨0,26,2,[[.zc,.zc]]⟩,⟨0,26,2,[[(ow 0 0 s0),(ow 1 0 s1)]]⟩]) [0,1,3,2] U (.pure (AB fun _=>U) (.pure (AB fun _=>U) .nil)) (by decide) rfl U (.pure (AB fun _=>U) (.pure (AB fun _=>U) (.raw U U (.raw U U .nil)))) ⟨.rfl,.rfl,.rfl,trivial⟩) ?_;exact AF (L:=[(2,(.ptr 2 0 0 0)),(4,(ow 0 0 s0)),(6,(.ptr 3 0 0 1))]) ⟨.rfl,.rfl,.rfl,trivial⟩) (AG (by kernel_rfl) ((hA5 _ _ _).1 A5_013)) rfl)
 have A5_034:A5 5 #[true,false,false,true,true,false,false,false] ⟨10,AM [(2,(.ptr 2 0 0 0)),(3,(.ptr 3 0 0 0)),(7,(ow 1 0 s1))],[(ro 0 30 3 AA s0),(ro 0 3 1 eI s1),⟨0,26,2,[[.zc,.zc]]⟩,⟨0,26,2,[[(ow 0 0 s0),(ow 1 0 s1)]]⟩]⟩:=(hA5 _ _ _).2 (by
  refine AJ [1] U (by kernel_rfl) (by decide) ⟨?_,trivial⟩
  ·refine AH (i:=1) rfl U (by rfl) ?_
   refine zq tb U ?_
   refine AE ⟨U,?_⟩
   exact AD (by refine Wk.trans (AL (L:=[(2,(.ptr 2 0 0 0)),(4,(ow 0 0 s0)),(7,(ow 1 0 s1))]) (st':=[(ro 0 30 3 AA s0),(ro 0 3 1 eI s1),⟨0,26,2,[[.zc,.zc]]⟩]) (st1:=[(ro 0 30 3 AA s0),(ro 0 3 1 eI s1),⟨0,26,2,[[.zc,.zc]]⟩]) [0,1,2] U (.pure (AB fun _=>U) (.pure (AB fun _=>U) .nil)) (by decide) rfl U (.pure (AB fun _=>U) (.pure (AB fun _=>U) (.raw U U .nil))) ⟨.rfl,.rfl,.rfl,trivial⟩) ?_;exact AF (L:=[(2,(.ptr 2 0 0 0)),(4,(ow 0 0 s0)),(7,(ow 1 0 s1))]) ⟨.rfl,.rfl,.rfl,trivial⟩) (AG (by kernel_rfl) ((hA5 _ _ _).1 A5_0134)) rfl)
 have A5_03:A5 6 #[true,false,false,true,false,false,false,false] ⟨10,AM [(2,(.ptr 2 0 0 0)),(3,(.ptr 3 0 0 0)),(6,(.ptr 3 0 0 1))],[(ro 0 30 3 AA s0),(ro 0 3 1 eI s1),⟨0,26,2,[[.zc,.zc]]⟩,⟨0,26,2,[[(ow 0 0 s0),(ow 1 0 s1)]]⟩]⟩:=(hA5 _ _ _).2 (by
  refine AJ [1,4] U (by kernel_rfl) (by decide) ⟨?_,?_,trivial⟩
  ·refine AH (i:=1) rfl U (by rfl) ?_
   refine zq tb U ?_
   refine AE ⟨U,?_⟩
   exact AD (AF (L:=[(2,(.ptr 2 0 0 0)),(4,(ow 0 0 s0)),(6,(.ptr 3 0 0 1))]) ⟨.rfl,.rfl,.rfl,trivial⟩) (AG (by kernel_rfl) ((hA5 _ _ _).1 A5_013)) rfl
  ·refine AH (i:=4) rfl U (by rfl) ?_
   refine zq tb U ?_
   refine AE ⟨U,?_⟩
   exact AD (AF (L:=[(2,(.ptr 2 0 0 0)),(3,(.ptr 3 0 0 0)),(7,(ow 1 0 s1))]) ⟨.rfl,.rfl,.rfl,trivial⟩) (AG (by kernel_rfl) ((hA5 _ _ _).1 A5_034)) rfl)
 have A5_0:A5 7 #[true,false,false,false,false,false,false,false] ⟨10,AM [(1,(.ptr 2 0 0 0)),(2,(.ptr 3 0 0 0)),(3,(.ptr 2 0 0 0))],[(ro 0 30 3 AA s0),(ro 0 3 1 eI s1),⟨0,26,2,[[(ow 0 0 s0),(ow 1 0 s1)]]⟩,⟨0,26,2,[[.zc,.zc]]⟩]⟩:=(hA5 _ _ _).2 (by
  refine AJ [1,3] U (by kernel_rfl) (by decide) ⟨?_,?_,trivial⟩
  ·refine AH (i:=1) rfl U (by rfl) ?_
   refine zq tb U ?_
   refine AE ⟨U,?_⟩
   exact AD (AF (L:=[(1,(.ptr 2 0 0 0)),(2,(.ptr 3 0 0 0)),(4,(ow 0 0 s0))]) ⟨.rfl,.rfl,.rfl,trivial⟩) (AG (by kernel_rfl) ((hA5 _ _ _).1 A5_01)) rfl
  ·refine AH (i:=3) rfl U (by rfl) ?_
   refine zq tb U ?_
   refine AE ⟨U,?_⟩
   exact AD (by refine Wk.trans (AL (L:=[(2,(.ptr 2 0 0 0)),(3,(.ptr 3 0 0 0)),(6,(.ptr 3 0 0 1))]) (st':=[(ro 0 30 3 AA s0),(ro 0 3 1 eI s1),⟨0,26,2,[[.zc,.zc]]⟩,⟨0,26,2,[[(ow 0 0 s0),(ow 1 0 s1)]]⟩]) (st1:=[(ro 0 30 3 AA s0),(ro 0 3 1 eI s1),⟨0,26,2,[[.zc,.zc]]⟩,⟨0,26,2,[[(ow 0 0 s0),(ow 1 0 s1)]]⟩]) [0,1,3,2] U (.pure (AB fun _=>U) (.pure (AB fun _=>U) .nil)) (by decide) rfl U (.pure (AB fun _=>U) (.pure (AB fun _=>U) (.raw U U (.raw U U .nil)))) ⟨.rfl,.rfl,.rfl,trivial⟩) ?_;exact AF (L:=[(2,(.ptr 2 0 0 0)),(3,(.ptr 3 0 0 0)),(6,(.ptr 3 0 0 1))]) ⟨.rfl,.rfl,.rfl,trivial⟩) (AG (by kernel_rfl) ((hA5 _ _ _).1 A5_03)) rfl)
 have A5_34:A5 6 #[false,false,false,true,true,false,false,false] ⟨10,AM [(1,(.ptr 2 0 0 0)),(2,(.ptr 3 0 0 0)),(7,(ow 1 0 s1))],[(ro 0 30 3 AA s0),(ro 0 3 1 eI s1),⟨0,26,2,[[(ow 0 0 s0),(ow 1 0 s1)]]⟩,⟨0,26,2,[[.zc,.zc]]⟩]⟩:=(hA5 _ _ _).2 (by
  refine AJ [0] U (by kernel_rfl) (by decide) ⟨?_,trivial⟩
  ·refine AH (i:=0) rfl U (by rfl) ?_
   refine zq tb U ?_
   refine AE ⟨U,?_⟩
   exact AD (by refine Wk.trans (AL (L:=[(2,(.ptr 2 0 0 0)),(3,(.ptr 3 0 0 0)),(7,(ow 1 0 s1))]) (st':=[(ro 0 30 3 AA s0),(ro 0 3 1 eI s1),⟨0,26,2,[[.zc,.zc]]⟩,⟨0,26,2,[[(ow 0 0 s0),(ow 1 0 s1)]]⟩]) (st1:=[(ro 0 30 3 AA s0),(ro 0 3 1 eI s1),⟨0,26,2,[[.zc,.zc]]⟩,⟨0,26,2,[[(ow 0 0 s0),(ow 1 0 s1)]]⟩]) [0,1,3,2] U (.pure (AB fun _=>U) (.pure (AB fun _=>U) .nil)) (by decide) rfl U (.pure (AB fun _=>U) (.pure (AB fun _=>U) (.raw U U (.raw U U .nil)))) ⟨.rfl,.rfl,.rfl,trivial⟩) ?_;exact AF (L:=[(2,(.ptr 2 0 0 0)),(3,(.ptr 3 0 0 0)),(7,(ow 1 0 s1))]) ⟨.rfl,.rfl,.rfl,trivial⟩) (AG (by kernel_rfl) ((hA5 _ _ _).1 A5_034)) rfl)
 have A5_3:A5 7 #[false,false,false,true,false,false,false,false] ⟨10,AM [(1,(.ptr 2 0 0 0)),(2,(.ptr 3 0 0 0)),(6,(.ptr 2 0 0 1))],[(ro 0 30 3 AA s0),(ro 0 3 1 eI s1),⟨0,26,2,[[(ow 0 0 s0),(ow 1 0 s1)]]⟩,⟨0,26,2,[[.zc,.zc]]⟩]⟩:=(hA5 _ _ _).2 (by
  refine AJ [0,4] U (by kernel_rfl) (by decide) ⟨?_,?_,trivial⟩
  ·refine AH (i:=0) rfl U (by rfl) ?_
   refine zq tb U ?_
   refine AE ⟨U,?_⟩
   exact AD (by refine Wk.trans (AL (L:=[(2,(.ptr 2 0 0 0)),(3,(.ptr 3 0 0 0)),(6,(.ptr 3 0 0 1))]) (st':=[(ro 0 30 3 AA s0),(ro 0 3 1 eI s1),⟨0,26,2,[[.zc,.zc]]⟩,⟨0,26,2,[[(ow 0 0 s0),(ow 1 0 s1)]]⟩]) (st1:=[(ro 0 30 3 AA s0),(ro 0 3 1 eI s1),⟨0,26,2,[[.zc,.zc]]⟩,⟨0,26,2,[[(ow 0 0 s0),(ow 1 0 s1)]]⟩]) [0,1,3,2] U (.pure (AB fun _=>U) (.pure (AB fun _=>U) .nil)) (by decide) rfl U (.pure (AB fun _=>U) (.pure (AB fun _=>U) (.raw U U (.raw U U .nil)))) ⟨.rfl,.rfl,.rfl,trivial⟩) ?_;exact AF (L:=[(2,(.ptr 2 0 0 0)),(3,(.ptr 3 0 0 0)),(6,(.ptr 3 0 0 1))]) ⟨.rfl,.rfl,.rfl,trivial⟩) (AG (by kernel_rfl) ((hA5 _ _ _).1 A5_03)) rfl
  ·refine AH (i:=4) rfl U (by rfl) ?_
   refine zq tb U ?_
   refine AE ⟨U,?_⟩
   exact AD (AF (L:=[(1,(.ptr 2 0 0 0)),(2,(.ptr 3 0 0 0)),(7,(ow 1 0 s1))]) ⟨.rfl,.rfl,.rfl,trivial⟩) (AG (by kernel_rfl) ((hA5 _ _ _).1 A5_34)) rfl)
 have A5_e:A5 8 #[false,false,false,false,false,false,false,false] ⟨10,AM [(1,(.ptr 2 0 0 0)),(2,(.ptr 3 0 0 0))],[(ro 0 30 3 AA s0),(ro 0 3 1 eI s1),⟨0,26,2,[[(ow 0 0 s0),(ow 1 0 s1)]]⟩,⟨0,26,2,[[.zc,.zc]]⟩]⟩:=(hA5 _ _ _).2 (by
  refine AJ [0,3] U (by kernel_rfl) (by decide) ⟨?_,?_,trivial⟩
  ·refine AH (i:=0) rfl U (by rfl) ?_
   refine zq tb U ?_
   refine AE ⟨U,?_⟩
   exact AD (AF (L:=[(1,(.ptr 2 0 0 0)),(2,(.ptr 3 0 0 0)),(3,(.ptr 2 0 0 0))]) ⟨.rfl,.rfl,.rfl,trivial⟩) (AG (by kernel_rfl) ((hA5 _ _ _).1 A5_0)) rfl
  ·refine AH (i:=3) rfl U (by rfl) ?_
   refine zq tb U ?_
   refine AE ⟨U,?_⟩
   exact AD (AF (L:=[(1,(.ptr 2 0 0 0)),(2,(.ptr 3 0 0 0)),(6,(.ptr 2 0 0 1))]) ⟨.rfl,.rfl,.rfl,trivial⟩) (AG (by kernel_rfl) ((hA5 _ _ _).1 A5_3)) rfl)
 refine (hA5 _ _ _).2 ?_
 exact AD (AF (L:=[(1,(.ptr 2 0 0 0)),(2,(.ptr 3 0 0 0))]) ⟨.rfl,.rfl,trivial⟩) (AG (by kernel_rfl) ((hA5 _ _ _).1 A5_e)) rfl
theorem Az {N:Nat} {s0:(List Cell)} {s1:(List Int)} {r:(List Cell)} (h0:DD N s0 s1=some r):Ag Try.prog 23 [(.agg [(ow 0 0 s0),(ow 1 0 s1)])] [(ro 0 30 3 AA s0),(ro 0 3 1 eI s1)] (fun v st=>v=(ow 2 0 r)∧st=[(ro 0 30 3 AA s0),(ro 0 3 1 eI s1),(ro 0 30 3 AA r)]):=by
 unfold DD at h0
 refine ai Try.func23 U U U U ?_
 refine sr U fun K1 hK1=>?_
 refine Df (m:=2) (st':=[(ro 0 30 3 AA s0),(ro 0 3 1 eI s1),⟨0,26,2,[[(ow 0 0 s0),(ow 1 0 s1)]]⟩]) Ae U U U U U ?_
 refine zq tb U ?_
 refine dn hK1 U ?_
 refine sr U fun K2 hK2=>?_
 refine zm tb 2 U ?_
 obtain⟨q3,gq3,h0⟩:=Sh.bind_some h0
 refine Ad (rowsP:=[(ro 0 30 3 AA s0)]) (rows0:=[(ro 0 30 3 AA s0)]) (rows1:=[(ro 0 30 3 AA s0)]) (rows2:=[(ro 0 30 3 AA q3)]) (rows1':=[(ro 0 30 3 AA s0)]) (rows2':=[(ro 0 30 3 AA q3)]) (st':=[(ro 0 30 3 AA s0),(ro 0 3 1 eI s1),⟨0,26,2,[[(ow 0 0 s0),(ow 1 0 s1)]]⟩,(ro 0 30 3 AA q3)]) (v':=(ow 3 0 q3)) [0] Ae KW (Cu gq3) rfl (by decide) rfl U (.pure (AB fun _=>U) .nil) rfl U (.pure (AB fun _=>U) .nil) (.pure (AB fun _=>U) .nil) rfl U ?_
 refine zq tb U ?_
 refine dn hK2 U ?_
 refine AN fun K4 hK4=>?_
 refine zr tb U U ?_
 obtain⟨o9,h1,h0⟩:=Sh.bind_some h0
 have M9 :∀(l8:(List Cell)),o9=l8→∀s,Wk 2 s ⟨24,AM [(3,(ow 2 0 l8))],[(ro 0 30 3 AA s0),(ro 0 3 1 eI s1),(ro 0 30 3 AA l8)]⟩→K4 s:=by
  intro l8 hq s hw
  subst o9
  try dsimp only at h0
  refine hK4 _ (AS hw ?_)
  refine zr tb U U ?_
  replace h0:=Sh.AK h0
  subst r
  exact AZ (xr (AF (L:=[(2,(ow 2 0 l8))]) ⟨.rfl,trivial⟩))
 refine AY (Ap (σ:=Int×(List Cell)) (fun n v=>Cb s1 n v.1 v.2=some o9) (fun (i6,l7)=>⟨24,AM [(1,(.ptr 2 0 0 0)),(3,(ow 3 0 l7)),(4,(i64 i6))],[(ro 0 30 3 AA s0),(ro 0 3 1 eI s1),⟨0,26,2,[[(ow 0 0 s0),(ow 1 0 s1)]]⟩,(ro 0 30 3 AA l7)]⟩) N (0,q3) h1 (AP U) (fun _ hv=>by rw[Cb] at hv;cases hv) ?_)
 rintro n ⟨i6,l7⟩ h1
 try dsimp only at h1 ⊢
 rw[Cb] at h1
 refine AN fun K11 hK11=>?_
 refine sr U fun K12 hK12=>?_
 refine zm tb 3 U ?_
 refine zz (i64 (Sh.len s1)) (Bj GH U U U) rfl ?_
 refine zq tb U ?_
 refine dn hK12 U ?_
 refine ci h1 U ?_ ?_ <;> clear h1
 ·intro b13 h1
  refine AU (hK11 _ ?_)
  refine AN fun K14 hK14=>?_
  refine AY ?_
  refine AR (by rfl) ?_
  refine zm tb 4 U ?_
  obtain⟨c15,gc15,h1⟩:=Sh.bind_some h1
  refine zz (.ptr 1 0 (Int.toNat i6) 0) (An Av U U U U gc15) rfl ?_
  refine zz (i64 c15) (Aw CM U U (Am gc15) rfl) rfl ?_
  obtain⟨c16,gc16,h1⟩:=Sh.bind_some h1
  refine zz (.ptr 3 0 (Int.toNat c15) 0) (An A3 U U U U gc16) rfl ?_
  refine zq tb U ?_
  refine Dy (st':=[(ro 0 30 3 AA s0),(ro 0 3 1 eI s1),⟨0,26,2,[[(ow 0 0 s0),(ow 1 0 s1)]]⟩,(ro 0 30 3 AA (Sh.put l7 c15 (Cell.mk 1 c16.tag c16.fields)))]) (u':=(Cell.mk 1 c16.tag c16.fields)) Ae CM U U gc16 U U U (show 0+1≤3 by decide) rfl U ?_
  refine dn hK14 U ?_
  refine AR (by rfl) ?_
  refine zm tb 3 U ?_
  exact AE (xi (Sh.w (i6+1),Sh.put l7 c15 (Cell.mk 1 c16.tag c16.fields)) h1 (AF (L:=[(1,(.ptr 2 0 0 0)),(3,(.own 3 0 (List.length (Sh.put l7 c15 (Cell.mk 1 c16.tag c16.fields))))),(4,(i64 (Sh.w (i6+1))))]) ⟨.rfl,(.len (by simp only[Sh.CO])),.rfl,trivial⟩))
 ·intro b13 h1
  exact Au (M9 l7 (Sh.AK h1).symm _ (AL (L:=[(3,(ow 2 0 l7))]) (st':=[(ro 0 30 3 AA s0),(ro 0 3 1 eI s1),(ro 0 30 3 AA l7)]) (st1:=[(ro 0 30 3 AA s0),(ro 0 3 1 eI s1),(ro 0 30 3 AA l7)]) [0,1,3] U (.pure (AB fun _=>U) (.pure (AB fun _=>U) .nil)) (by decide) rfl U (.pure (AB fun _=>U) (.pure (AB fun _=>U) (.pure (AB fun _=>U) .nil))) ⟨.rfl,trivial⟩))
theorem Hb {s0:(List Cell)} {s1:(List Int)} {p1:Int} {r:BK} (h0:Eu s0 s1 p1=some r):Ag Try.prog 45 [(.agg [(ow 0 0 s0),(ow 1 0 s1)]),(i64 p1)] [(ro 0 30 3 AA s0),(ro 0 3 1 eI s1)] (fun v st=>v=(.agg [(ow 0 0 r.cells),(ow 1 1 r.pending)])∧st=[(ro 0 30 3 AA r.cells),(ro 1 3 1 eI r.pending)]):=by
 unfold Eu at h0
 refine Ag.wk (r0:=(.agg [(ow 0 0 r.cells),(ow 1 1 r.pending)])) (st0:=[(ro 0 30 3 AA r.cells),(ro 1 3 1 eI r.pending),⟨0,26,2,[[(ow 0 0 r.cells),(ow 1 1 r.pending)]]⟩]) ?_ (E8 (L:=[(0,(.agg [(ow 0 0 r.cells),(ow 1 1 r.pending)]))]) (st':=[(ro 0 30 3 AA r.cells),(ro 1 3 1 eI r.pending)]) [0,1] U (by decide) rfl U (.pure (AB fun _=>U) (.pure (AB fun _=>U) trivial)) ⟨.rfl,trivial⟩)
 refine ai Try.func45 U U U U ?_
 refine sr U fun K1 hK1=>?_
 refine Df (m:=2) (st':=[(ro 0 30 3 AA s0),(ro 0 3 1 eI s1),⟨0,26,2,[[(ow 0 0 s0),(ow 1 0 s1)]]⟩]) Ae U U U U U ?_
 refine BF (m:=3) (st':=[(ro 0 30 3 AA s0),(ro 0 3 1 eI s1),⟨0,26,2,[[(ow 0 0 s0),(ow 1 0 s1)]]⟩,⟨0,26,2,[[.zc,.zc]]⟩]) Ae C5 U U ?_
 refine dn hK1 U ?_
 refine zr tb U U ?_
 refine AN fun K3 hK3=>?_
 refine Dd (by kernel_rfl) ?_
 obtain⟨c4,gc4,h0⟩:=Sh.bind_some h0
 refine Et fun A5 hA5=>?_
 have A5_0123456789abc:A5 0 #[true,true,true,true,true,true,true,true,true,true,true,true,true] ⟨34,AM [(2,(.ptr 2 0 0 0)),(4,(.ptr 3 0 0 0)),(5,(i64 (Sh.w (p1 - 1000))))],[(ro 0 30 3 AA (Sh.put s0 (Sh.w (p1 - 1000)) (Cell.mk (Sh.w (c4.count - 1)) c4.tag c4.fields))),(ro 0 3 1 eI s1),⟨0,26,2,[[(ow 0 0 (Sh.put s0 (Sh.w (p1 - 1000)) (Cell.mk (Sh.w (c4.count - 1)) c4.tag c4.fields))),(ow 1 0 s1)]]⟩,⟨0,26,2,[[.zc,.zc]]⟩]⟩:=(hA5 _ _ _).2 (by
  refine EE U (by kernel_rfl) ?_
  refine hK3 _ ?_
  refine AN fun K6 hK6=>?_
  obtain⟨o8,h1,h0⟩:=Sh.bind_some h0
  have M8 :∀(l7:(List Int)),o8=l7→∀s,Wk 2 s ⟨34,AM [(2,(.ptr 2 0 0 0)),(4,(.ptr 3 0 0 0))],[(ro 0 30 3 AA (Sh.put s0 (Sh.w (p1 - 1000)) (Cell.mk (Sh.w (c4.count - 1)) c4.tag c4.fields))),(ro 1 3 1 eI l7),⟨0,26,2,[[(ow 0 0 (Sh.put s0 (Sh.w (p1 - 1000)) (Cell.mk (Sh.w (c4.count - 1)) c4.tag c4.fields))),(ow 1 1 l7)]]⟩,⟨0,26,2,[[.zc,.zc]]⟩]⟩→K6 s:=by
   intro l7 hq s hw
   subst o8
   try dsimp only at h0
   refine hK6 _ (AS hw ?_)
   refine sr U fun K9 hK9=>?_
   refine zq tb U ?_
   refine Bt (st':=[(ro 0 30 3 AA (Sh.put s0 (Sh.w (p1 - 1000)) (Cell.mk (Sh.w (c4.count - 1)) c4.tag c4.fields))),(ro 1 3 1 eI l7),⟨0,26,2,[[(ow 0 0 (Sh.put s0 (Sh.w (p1 - 1000)) (Cell.mk (Sh.w (c4.count - 1)) c4.tag c4.fields))),(ow 1 1 l7)]]⟩,⟨0,26,2,[[(ow 0 0 (Sh.put s0 (Sh.w (p1 - 1000)) (Cell.mk (Sh.w (c4.count - 1)) c4.tag c4.fields))),(ow 1 1 l7)]]⟩]) Ae DU U U U U U U (show 0+2≤2 by decide) rfl ?_
   refine dn hK9 U ?_
   replace h0:=Sh.AK h0
   subst r
   exact AZ (Exists.intro _ (And.intro ((AL (L:=[(4,(.ptr 2 0 0 0))]) (st':=[(ro 0 30 3 AA (Sh.put s0 (Sh.w (p1 - 1000)) (Cell.mk (Sh.w (c4.count - 1)) c4.tag c4.fields))),(ro 1 3 1 eI l7),⟨0,26,2,[[(ow 0 0 (Sh.put s0 (Sh.w (p1 - 1000)) (Cell.mk (Sh.w (c4.count - 1)) c4.tag c4.fields))),(ow 1 1 l7)]]⟩]) (st1:=[(ro 0 30 3 AA (Sh.put s0 (Sh.w (p1 - 1000)) (Cell.mk (Sh.w (c4.count - 1)) c4.tag c4.fields))),(ro 1 3 1 eI l7),⟨0,26,2,[[(ow 0 0 (Sh.put s0 (Sh.w (p1 - 1000)) (Cell.mk (Sh.w (c4.count - 1)) c4.tag c4.fields))),(ow 1 1 l7)]]⟩]) [0,1,3] U (.pure (AB fun _=>U) (.pure (AB fun _=>U) .nil)) (by decide) rfl U (.pure (AB fun _=>U) (.pure (AB fun _=>U) (.raw U U .nil))) ⟨.rfl,trivial⟩).trans (AF (L:=[(4,(.ptr 2 0 0 0))]) ⟨.rfl,trivial⟩)) (D3 (x:=.tmp 4) (off:=0) (cs:=[(ow 0 0 (Sh.put s0 (Sh.w (p1 - 1000)) (Cell.mk (Sh.w (c4.count - 1)) c4.tag c4.fields))),(ow 1 1 l7)]) (vs:=[(ow 0 0 (Sh.put s0 (Sh.w (p1 - 1000)) (Cell.mk (Sh.w (c4.count - 1)) c4.tag c4.fields))),(ow 1 1 l7)]) DU U U U (show 0+2≤2 by decide) rfl _ ⟨U,U⟩)))
  refine sr U fun K10 hK10=>?_
  refine zm tb 3 U ?_
  obtain⟨c11,gc11,h1⟩:=Sh.bind_some h1
  refine zz (.ptr 0 0 (Int.toNat (Sh.w (p1 - 1000))) 0) (An A3 U U U U gc11) rfl ?_
  refine zq tb U ?_
  refine zz (i64 c11.count) (Aw CM U U (Am gc11) rfl) rfl ?_
  refine zq tb U ?_
  refine dn hK10 U ?_
  refine ci h1 U ?_ ?_ <;> clear h1
  ·intro b12 h1
   refine AR (by rfl) ?_
   refine zm tb 3 U ?_
   refine Bc (m:=4) (st':=[(ro 0 30 3 AA (Sh.put s0 (Sh.w (p1 - 1000)) (Cell.mk (Sh.w (c4.count - 1)) c4.tag c4.fields))),(ro 0 3 1 eI s1),⟨0,26,2,[[(ow 0 0 (Sh.put s0 (Sh.w (p1 - 1000)) (Cell.mk (Sh.w (c4.count - 1)) c4.tag c4.fields))),(ow 1 0 s1)]]⟩,⟨0,26,2,[[.zc,.zc]]⟩,(ro 0 3 1 eI [Sh.w (p1 - 1000)])]) (l:=[Sh.w (p1 - 1000)]) (enc:=eI) Ae Av (by decide) rfl U U U U U ?_
   obtain⟨l13,gl13,h1⟩:=Sh.bind_some h1
   refine EP (st':=[(ro 0 30 3 AA (Sh.put s0 (Sh.w (p1 - 1000)) (Cell.mk (Sh.w (c4.count - 1)) c4.tag c4.fields))),(ro 1 3 1 eI l13),⟨0,26,2,[[(ow 0 0 (Sh.put s0 (Sh.w (p1 - 1000)) (Cell.mk (Sh.w (c4.count - 1)) c4.tag c4.fields))),(ow 1 0 s1)]]⟩,⟨0,26,2,[[.zc,.zc]]⟩,(ro 0 3 1 eI [Sh.w (p1 - 1000)])]) (l2:=[Sh.w (p1 - 1000)]) Ae Av U U U U (LN U U) (fun _=>U) gl13 U ?_
   refine zq tb U ?_
   refine Bt (st':=[(ro 0 30 3 AA (Sh.put s0 (Sh.w (p1 - 1000)) (Cell.mk (Sh.w (c4.count - 1)) c4.tag c4.fields))),(ro 1 3 1 eI l13),⟨0,26,2,[[(ow 0 0 (Sh.put s0 (Sh.w (p1 - 1000)) (Cell.mk (Sh.w (c4.count - 1)) c4.tag c4.fields))),(ow 1 1 l13)]]⟩,⟨0,26,2,[[.zc,.zc]]⟩,(ro 0 3 1 eI [Sh.w (p1 - 1000)])]) Ae Jq U U U U U U (show 1+1≤2 by decide) rfl ?_
   exact AE (M8 l13 (Sh.AK h1).symm _ (AL (L:=[(2,(.ptr 2 0 0 0)),(4,(.ptr 3 0 0 0))]) (st':=[(ro 0 30 3 AA (Sh.put s0 (Sh.w (p1 - 1000)) (Cell.mk (Sh.w (c4.count - 1)) c4.tag c4.fields))),(ro 1 3 1 eI l13),⟨0,26,2,[[(ow 0 0 (Sh.put s0 (Sh.w (p1 - 1000)) (Cell.mk (Sh.w (c4.count - 1)) c4.tag c4.fields))),(ow 1 1 l13)]]⟩,⟨0,26,2,[[.zc,.zc]]⟩]) (st1:=[(ro 0 30 3 AA (Sh.put s0 (Sh.w (p1 - 1000)) (Cell.mk (Sh.w (c4.count - 1)) c4.tag c4.fields))),(ro 1 3 1 eI l13),⟨0,26,2,[[(ow 0 0 (Sh.put s0 (Sh.w (p1 - 1000)) (Cell.mk (Sh.w (c4.count - 1)) c4.tag c4.fields))),(ow 1 1 l13)]]⟩,⟨0,26,2,[[.zc,.zc]]⟩]) [0,1,2,3] U (.pure (AB fun _=>U) (.pure (AB fun _=>U) .nil)) (by decide) rfl U (.pure (AB fun _=>U) (.pure (AB fun _=>U) (.raw U U (.raw U U .nil)))) ⟨.rfl,.rfl,trivial⟩))
  ·intro b12 h1
   exact AU (M8 s1 (Sh.AK h1).symm _ (by refine Wk.trans (LJ (L:=[(2,(.ptr 2 0 0 0)),(4,(.ptr 3 0 0 0))]) (st':=[(ro 0 30 3 AA (Sh.put s0 (Sh.w (p1 - 1000)) (Cell.mk (Sh.w (c4.count - 1)) c4.tag c4.fields))),(ro 1 3 1 eI s1),⟨0,26,2,[[(ow 0 0 (Sh.put s0 (Sh.w (p1 - 1000)) (Cell.mk (Sh.w (c4.count - 1)) c4.tag c4.fields))),(ow 1 1 s1)]]⟩,⟨0,26,2,[[.zc,.zc]]⟩]) (st1:=[(ro 0 30 3 AA (Sh.put s0 (Sh.w (p1 - 1000)) (Cell.mk (Sh.w (c4.count - 1)) c4.tag c4.fields))),(ro 0 3 1 eI s1),⟨0,26,2,[[(ow 0 0 (Sh.put s0 (Sh.w (p1 - 1000)) (Cell.mk (Sh.w (c4.count - 1)) c4.tag c4.fields))),(ow 1 1 s1)]]⟩,⟨0,26,2,[[.zc,.zc]]⟩]) 1 U (.pure (AB fun _=>U) (.pure (AB fun _=>U) (.raw U U (.raw U U .nil)))) rfl ⟨.rfl,.rfl,trivial⟩) ?_;exact AF (L:=[(2,(.ptr 2 0 0 0)),(4,(.ptr 3 0 0 0))]) ⟨.rfl,.rfl,trivial⟩)))
 have A5_0123456789ab:A5 1 #[true,true,true,true,true,true,true,true,true,true,true,true,false] ⟨34,AM [(2,(.ptr 2 0 0 0)),(4,(.ptr 3 0 0 0)),(5,(i64 (Sh.w (p1 - 1000)))),(17,(i64 (Sh.w (c4.count - 1)))),(19,(.ptr 0 0 (Int.toNat (Sh.w (p1 - 1000))) 0))],[(ro 0 30 3 AA s0),(ro 0 3 1 eI s1),⟨0,26,2,[[(ow 0 0 s0),(ow 1 0 s1)]]⟩,⟨0,26,2,[[.zc,.zc]]⟩]⟩:=(hA5 _ _ _).2 (by
  refine AJ [12] U (by kernel_rfl) (by decide) ⟨?_,trivial⟩
  ·refine AH (i:=12) rfl U (by rfl) ?_
   refine Dy (st':=[(ro 0 30 3 AA (Sh.put s0 (Sh.w (p1 - 1000)) (Cell.mk (Sh.w (c4.count - 1)) c4.tag c4.fields))),(ro 0 3 1 eI s1),⟨0,26,2,[[(ow 0 0 s0),(ow 1 0 s1)]]⟩,⟨0,26,2,[[.zc,.zc]]⟩]) (u':=(Cell.mk (Sh.w (c4.count - 1)) c4.tag c4.fields)) Ae CM U U gc4 U U U (show 0+1≤3 by decide) rfl U ?_
   refine AE ⟨U,?_⟩
   exact AD (by refine Wk.trans (AF (L:=[(2,(.ptr 2 0 0 0)),(4,(.ptr 3 0 0 0)),(5,(i64 (Sh.w (p1 - 1000))))]) ⟨.rfl,.rfl,.rfl,trivial⟩) ?_;refine Wk.trans (Gz (st:=[⟨0,30,3,List.map AA (Sh.put s0 (Sh.w (p1 - 1000)) (Cell.mk (Sh.w (c4.count - 1)) c4.tag c4.fields))⟩,⟨0,3,1,List.map eI s1⟩,⟨0,26,2,[[(.own 0 0 (List.length s0)),(.own 1 0 (List.length s1))]]⟩,⟨0,26,2,[[.zc,.zc]]⟩]) (st':=[⟨0,30,3,List.map AA (Sh.put s0 (Sh.w (p1 - 1000)) (Cell.mk (Sh.w (c4.count - 1)) c4.tag c4.fields))⟩,⟨0,3,1,List.map eI s1⟩,⟨0,26,2,[[(.own 0 0 (List.length (Sh.put s0 (Sh.w (p1 - 1000)) (Cell.mk (Sh.w (c4.count - 1)) c4.tag c4.fields)))),(.own 1 0 (List.length s1))]]⟩,⟨0,26,2,[[.zc,.zc]]⟩]) (by simp only[Sh.CO])) ?_;exact AF (L:=[(2,(.ptr 2 0 0 0)),(4,(.ptr 3 0 0 0)),(5,(i64 (Sh.w (p1 - 1000))))]) ⟨.rfl,.rfl,.rfl,trivial⟩) (AG (by kernel_rfl) ((hA5 _ _ _).1 A5_0123456789abc)) rfl)
 have A5_0123456789a:A5 2 #[true,true,true,true,true,true,true,true,true,true,true,false,false] ⟨34,AM [(2,(.ptr 2 0 0 0)),(4,(.ptr 3 0 0 0)),(5,(i64 (Sh.w (p1 - 1000)))),(17,(i64 (Sh.w (c4.count - 1)))),(18,(.ptr 0 0 (Int.toNat (Sh.w (p1 - 1000))) 0))],[(ro 0 30 3 AA s0),(ro 0 3 1 eI s1),⟨0,26,2,[[(ow 0 0 s0),(ow 1 0 s1)]]⟩,⟨0,26,2,[[.zc,.zc]]⟩]⟩:=(hA5 _ _ _).2 (by
  refine AJ [11] U (by kernel_rfl) (by decide) ⟨?_,trivial⟩
  ·refine AH (i:=11) rfl U (by rfl) ?_
   refine zq tb U ?_
   refine AE ⟨U,?_⟩
   exact AD (AF (L:=[(2,(.ptr 2 0 0 0)),(4,(.ptr 3 0 0 0)),(5,(i64 (Sh.w (p1 - 1000)))),(17,(i64 (Sh.w (c4.count - 1)))),(19,(.ptr 0 0 (Int.toNat (Sh.w (p1 - 1000))) 0))]) ⟨.rfl,.rfl,.rfl,.rfl,.rfl,trivial⟩) (AG (by kernel_rfl) ((hA5 _ _ _).1 A5_0123456789ab)) rfl)
 have A5_0123456789:A5 3 #[true,true,true,true,true,true,true,true,true,true,false,false,false] ⟨34,AM [(2,(.ptr 2 0 0 0)),(4,(.ptr 3 0 0 0)),(5,(i64 (Sh.w (p1 - 1000)))),(9,(ow 0 0 s0)),(10,(i64 (Sh.w (p1 - 1000)))),(17,(i64 (Sh.w (c4.count - 1))))],[(ro 0 30 3 AA s0),(ro 0 3 1 eI s1),⟨0,26,2,[[(ow 0 0 s0),(ow 1 0 s1)]]⟩,⟨0,26,2,[[.zc,.zc]]⟩]⟩:=(hA5 _ _ _).2 (by
  refine AJ [10] U (by kernel_rfl) (by decide) ⟨?_,trivial⟩
  ·refine AH (i:=10) rfl U (by rfl) ?_
   refine zz (.ptr 0 0 (Int.toNat (Sh.w (p1 - 1000))) 0) (An A3 U U U U gc4) rfl ?_
   refine AE ⟨U,?_⟩
   exact AD (AF (L:=[(2,(.ptr 2 0 0 0)),(4,(.ptr 3 0 0 0)),(5,(i64 (Sh.w (p1 - 1000)))),(17,(i64 (Sh.w (c4.count - 1)))),(18,(.ptr 0 0 (Int.toNat (Sh.w (p1 - 1000))) 0))]) ⟨.rfl,.rfl,.rfl,.rfl,.rfl,trivial⟩) (AG (by kernel_rfl) ((hA5 _ _ _).1 A5_0123456789a)) rfl)
 have A5_012345678:A5 4 #[true,true,true,true,true,true,true,true,true,false,false,false,false] ⟨34,AM [(2,(.ptr 2 0 0 0)),(4,(.ptr 3 0 0 0)),(5,(i64 (Sh.w (p1 - 1000)))),(9,(ow 0 0 s0)),(10,(i64 (Sh.w (p1 - 1000)))),(16,(i64 c4.count))],[(ro 0 30 3 AA s0),(ro 0 3 1 eI s1),⟨0,26,2,[[(ow 0 0 s0),(ow 1 0 s1)]]⟩,⟨0,26,2,[[.zc,.zc]]⟩]⟩:=(hA5 _ _ _).2 (by
  refine AJ [9] U (by kernel_rfl) (by decide) ⟨?_,trivial⟩
  ·refine AH (i:=9) rfl U (by rfl) ?_
   refine zq tb U ?_
   refine AE ⟨U,?_⟩
   exact AD (AF (L:=[(2,(.ptr 2 0 0 0)),(4,(.ptr 3 0 0 0)),(5,(i64 (Sh.w (p1 - 1000)))),(9,(ow 0 0 s0)),(10,(i64 (Sh.w (p1 - 1000)))),(17,(i64 (Sh.w (c4.count - 1))))]) ⟨.rfl,.rfl,.rfl,.rfl,.rfl,.rfl,trivial⟩) (AG (by kernel_rfl) ((hA5 _ _ _).1 A5_0123456789)) rfl)
 have A5_01234567:A5 5 #[true,true,true,true,true,true,true,true,false,false,false,false,false] ⟨34,AM [(2,(.ptr 2 0 0 0)),(4,(.ptr 3 0 0 0)),(5,(i64 (Sh.w (p1 - 1000)))),(9,(ow 0 0 s0)),(10,(i64 (Sh.w (p1 - 1000)))),(15,(.ptr 0 0 (Int.toNat (Sh.w (p1 - 1000))) 0))],[(ro 0 30 3 AA s0),(ro 0 3 1 eI s1),⟨0,26,2,[[(ow 0 0 s0),(ow 1 0 s1)]]⟩,⟨0,26,2,[[.zc,.zc]]⟩]⟩:=(hA5 _ _ _).2 (by
  refine AJ [8] U (by kernel_rfl) (by decide) ⟨?_,trivial⟩
  ·refine AH (i:=8) rfl U (by rfl) ?_
   refine zz (i64 c4.count) (Aw CM U U (Am gc4) rfl) rfl ?_
   refine AE ⟨U,?_⟩
   exact AD (AF (L:=[(2,(.ptr 2 0 0 0)),(4,(.ptr 3 0 0 0)),(5,(i64 (Sh.w (p1 - 1000)))),(9,(ow 0 0 s0)),(10,(i64 (Sh.w (p1 - 1000)))),(16,(i64 c4.count))]) ⟨.rfl,.rfl,.rfl,.rfl,.rfl,.rfl,trivial⟩) (AG (by kernel_rfl) ((hA5 _ _ _).1 A5_012345678)) rfl)
 have A5_0123456:A5 6 #[true,true,true,true,true,true,true,false,false,false,false,false,false] ⟨34,AM [(2,(.ptr 2 0 0 0)),(4,(.ptr 3 0 0 0)),(5,(i64 (Sh.w (p1 - 1000)))),(9,(ow 0 0 s0)),(10,(i64 (Sh.w (p1 - 1000)))),(14,(.ptr 0 0 (Int.toNat (Sh.w (p1 - 1000))) 0))],[(ro 0 30 3 AA s0),(ro 0 3 1 eI s1),⟨0,26,2,[[(ow 0 0 s0),(ow 1 0 s1)]]⟩,⟨0,26,2,[[.zc,.zc]]⟩]⟩:=(hA5 _ _ _).2 (by
  refine AJ [7] U (by kernel_rfl) (by decide) ⟨?_,trivial⟩
  ·refine AH (i:=7) rfl U (by rfl) ?_
   refine zq tb U ?_
   refine AE ⟨U,?_⟩
   exact AD (AF (L:=[(2,(.ptr 2 0 0 0)),(4,(.ptr 3 0 0 0)),(5,(i64 (Sh.w (p1 - 1000)))),(9,(ow 0 0 s0)),(10,(i64 (Sh.w (p1 - 1000)))),(15,(.ptr 0 0 (Int.toNat (Sh.w (p1 - 1000))) 0))]) ⟨.rfl,.rfl,.rfl,.rfl,.rfl,.rfl,trivial⟩) (AG (by kernel_rfl) ((hA5 _ _ _).1 A5_01234567)) rfl)
 have A5_012345:A5 7 #[true,true,true,true,true,true,false,false,false,false,false,false,false] ⟨34,AM [(2,(.ptr 2 0 0 0)),(4,(.ptr 3 0 0 0)),(5,(i64 (Sh.w (p1 - 1000)))),(9,(ow 0 0 s0)),(10,(i64 (Sh.w (p1 - 1000)))),(12,(ow 0 0 s0)),(13,(i64 (Sh.w (p1 - 1000))))],[(ro 0 30 3 AA s0),(ro 0 3 1 eI s1),⟨0,26,2,[[(ow 0 0 s0),(ow 1 0 s1)]]⟩,⟨0,26,2,[[.zc,.zc]]⟩]⟩:=(hA5 _ _ _).2 (by
  refine AJ [6] U (by kernel_rfl) (by decide) ⟨?_,trivial⟩
  ·refine AH (i:=6) rfl U (by rfl) ?_
   refine zz (.ptr 0 0 (Int.toNat (Sh.w (p1 - 1000))) 0) (An A3 U U U U gc4) rfl ?_
   refine AE ⟨U,?_⟩
   exact AD (AF (L:=[(2,(.ptr 2 0 0 0)),(4,(.ptr 3 0 0 0)),(5,(i64 (Sh.w (p1 - 1000)))),(9,(ow 0 0 s0)),(10,(i64 (Sh.w (p1 - 1000)))),(14,(.ptr 0 0 (Int.toNat (Sh.w (p1 - 1000))) 0))]) ⟨.rfl,.rfl,.rfl,.rfl,.rfl,.rfl,trivial⟩) (AG (by kernel_rfl) ((hA5 _ _ _).1 A5_0123456)) rfl)
 have A5_01235:A5 8 #[true,true,true,true,false,true,false,false,false,false,false,false,false] ⟨34,AM [(2,(.ptr 2 0 0 0)),(4,(.ptr 3 0 0 0)),(5,(i64 (Sh.w (p1 - 1000)))),(9,(ow 0 0 s0)),(10,(i64 (Sh.w (p1 - 1000)))),(11,(.ptr 2 0 0 0)),(13,(i64 (Sh.w (p1 - 1000))))],[(ro 0 30 3 AA s0),(ro 0 3 1 eI s1),⟨0,26,2,[[(ow 0 0 s0),(ow 1 0 s1)]]⟩,⟨0,26,2,[[.zc,.zc]]⟩]⟩:=(hA5 _ _ _).2 (by
  refine AJ [4] U (by kernel_rfl) (by decide) ⟨?_,trivial⟩
  ·refine AH (i:=4) rfl U (by rfl) ?_
   refine zq tb U ?_
   refine AE ⟨U,?_⟩
   exact AD (AF (L:=[(2,(.ptr 2 0 0 0)),(4,(.ptr 3 0 0 0)),(5,(i64 (Sh.w (p1 - 1000)))),(9,(ow 0 0 s0)),(10,(i64 (Sh.w (p1 - 1000)))),(12,(ow 0 0 s0)),(13,(i64 (Sh.w (p1 - 1000))))]) ⟨.rfl,.rfl,.rfl,.rfl,.rfl,.rfl,.rfl,trivial⟩) (AG (by kernel_rfl) ((hA5 _ _ _).1 A5_012345)) rfl)
 have A5_0125:A5 9 #[true,true,true,false,false,true,false,false,false,false,false,false,false] ⟨34,AM [(2,(.ptr 2 0 0 0)),(4,(.ptr 3 0 0 0)),(5,(i64 (Sh.w (p1 - 1000)))),(9,(ow 0 0 s0)),(10,(i64 (Sh.w (p1 - 1000)))),(13,(i64 (Sh.w (p1 - 1000))))],[(ro 0 30 3 AA s0),(ro 0 3 1 eI s1),⟨0,26,2,[[(ow 0 0 s0),(ow 1 0 s1)]]⟩,⟨0,26,2,[[.zc,.zc]]⟩]⟩:=(hA5 _ _ _).2 (by
  refine AJ [3] U (by kernel_rfl) (by decide) ⟨?_,trivial⟩
  ·refine AH (i:=3) rfl U (by rfl) ?_
   refine zq tb U ?_
   refine AE ⟨U,?_⟩
   exact AD (AF (L:=[(2,(.ptr 2 0 0 0)),(4,(.ptr 3 0 0 0)),(5,(i64 (Sh.w (p1 - 1000)))),(9,(ow 0 0 s0)),(10,(i64 (Sh.w (p1 - 1000)))),(11,(.ptr 2 0 0 0)),(13,(i64 (Sh.w (p1 - 1000))))]) ⟨.rfl,.rfl,.rfl,.rfl,.rfl,.rfl,.rfl,trivial⟩) (AG (by kernel_rfl) ((hA5 _ _ _).1 A5_01235)) rfl)
 have A5_023456789:A5 4 #[true,false,true,true,true,true,true,true,true,true,false,false,false] ⟨34,AM [(2,(.ptr 2 0 0 0)),(4,(.ptr 3 0 0 0)),(5,(i64 (Sh.w (p1 - 1000)))),(8,(.ptr 2 0 0 0)),(10,(i64 (Sh.w (p1 - 1000)))),(17,(i64 (Sh.w (c4.count - 1))))],[(ro 0 30 3 AA s0),(ro 0 3 1 eI s1),⟨0,26,2,[[(ow 0 0 s0),(ow 1 0 s1)]]⟩,⟨0,26,2,[[.zc,.zc]]⟩]⟩:=(hA5 _ _ _).2 (by
  refine AJ [1] U (by kernel_rfl) (by decide) ⟨?_,trivial⟩
  ·refine AH (i:=1) rfl U (by rfl) ?_
   refine zq tb U ?_
   refine AE ⟨U,?_⟩
   exact AD (AF (L:=[(2,(.ptr 2 0 0 0)),(4,(.ptr 3 0 0 0)),(5,(i64 (Sh.w (p1 - 1000)))),(9,(ow 0 0 s0)),(10,(i64 (Sh.w (p1 - 1000)))),(17,(i64 (Sh.w (c4.count - 1))))]) ⟨.rfl,.rfl,.rfl,.rfl,.rfl,.rfl,trivial⟩) (AG (by kernel_rfl) ((hA5 _ _ _).1 A5_0123456789)) rfl)
 have A5_02345678:A5 5 #[true,false,true,true,true,true,true,true,true,false,false,false,false] ⟨34,AM [(2,(.ptr 2 0 0 0)),(4,(.ptr 3 0 0 0)),(5,(i64 (Sh.w (p1 - 1000)))),(8,(.ptr 2 0 0 0)),(10,(i64 (Sh.w (p1 - 1000)))),(16,(i64 c4.count))],[(ro 0 30 3 AA s0),(ro 0 3 1 eI s1),⟨0,26,2,[[(ow 0 0 s0),(ow 1 0 s1)]]⟩,⟨0,26,2,[[.zc,.zc]]⟩]⟩:=(hA5 _ _ _).2 (by
  refine AJ [1,9] U (by kernel_rfl) (by decide) ⟨?_,?_,trivial⟩
  ·refine AH (i:=1) rfl U (by rfl) ?_
   refine zq tb U ?_
   refine AE ⟨U,?_⟩
   exact AD (AF (L:=[(2,(.ptr 2 0 0 0)),(4,(.ptr 3 0 0 0)),(5,(i64 (Sh.w (p1 - 1000)))),(9,(ow 0 0 s0)),(10,(i64 (Sh.w (p1 - 1000)))),(16,(i64 c4.count))]) ⟨.rfl,.rfl,.rfl,.rfl,.rfl,.rfl,trivial⟩) (AG (by kernel_rfl) ((hA5 _ _ _).1 A5_012345678)) rfl
  ·refine AH (i:=9) rfl U (by rfl) ?_
   refine zq tb U ?_
   refine AE ⟨U,?_⟩
   exact AD (AF (L:=[(2,(.ptr 2 0 0 0)),(4,(.ptr 3 0 0 0)),(5,(i64 (Sh.w (p1 - 1000)))),(8,(.ptr 2 0 0 0)),(10,(i64 (Sh.w (p1 - 1000)))),(17,(i64 (Sh.w (c4.count - 1))))]) ⟨.rfl,.rfl,.rfl,.rfl,.rfl,.rfl,trivial⟩) (AG (by kernel_rfl) ((hA5 _ _ _).1 A5_023456789)) rfl)
 have A5_0234567:A5 6 #[true,false,true,true,true,true,true,true,false,false,false,false,false] ⟨34,AM [(2,(.ptr 2 0 0 0)),(4,(.ptr 3 0 0 0)),(5,(i64 (Sh.w (p1 - 1000)))),(8,(.ptr 2 0 0 0)),(10,(i64 (Sh.w (p1 - 1000)))),(15,(.ptr 0 0 (Int.toNat (Sh.w (p1 - 1000))) 0))],[(ro 0 30 3 AA s0),(ro 0 3 1 eI s1),⟨0,26,2,[[(ow 0 0 s0),(ow 1 0 s1)]]⟩,⟨0,26,2,[[.zc,.zc]]⟩]⟩:=(hA5 _ _ _).2 (by
  refine AJ [1,8] U (by kernel_rfl) (by decide) ⟨?_,?_,trivial⟩
  ·refine AH (i:=1) rfl U (by rfl) ?_
   refine zq tb U ?_
   refine AE ⟨U,?_⟩
   exact AD (AF (L:=[(2,(.ptr 2 0 0 0)),(4,(.ptr 3 0 0 0)),(5,(i64 (Sh.w (p1 - 1000)))),(9,(ow 0 0 s0)),(10,(i64 (Sh.w (p1 - 1000)))),(15,(.ptr 0 0 (Int.toNat (Sh.w (p1 - 1000))) 0))]) ⟨.rfl,.rfl,.rfl,.rfl,.rfl,.rfl,trivial⟩) (AG (by kernel_rfl) ((hA5 _ _ _).1 A5_01234567)) rfl
  ·refine AH (i:=8) rfl U (by rfl) ?_
   refine zz (i64 c4.count) (Aw CM U U (Am gc4) rfl) rfl ?_
   refine AE ⟨U,?_⟩
   exact AD (AF (L:=[(2,(.ptr 2 0 0 0)),(4,(.ptr 3 0 0 0)),(5,(i64 (Sh.w (p1 - 1000)))),(8,(.ptr 2 0 0 0)),(10,(i64 (Sh.w (p1 - 1000)))),(16,(i64 c4.count))]) ⟨.rfl,.rfl,.rfl,.rfl,.rfl,.rfl,trivial⟩) (AG (by kernel_rfl) ((hA5 _ _ _).1 A5_02345678)) rfl)
 have A5_023456:A5 7 #[true,false,true,true,true,true,true,false,false,false,false,false,false] ⟨34,AM [(2,(.ptr 2 0 0 0)),(4,(.ptr 3 0 0 0)),(5,(i64 (Sh.w (p1 - 1000)))),(8,(.ptr 2 0 0 0)),(10,(i64 (Sh.w (p1 - 1000)))),(14,(.ptr 0 0 (Int.toNat (Sh.w (p1 - 1000))) 0))],[(ro 0 30 3 AA s0),(ro 0 3 1 eI s1),⟨0,26,2,[[(ow 0 0 s0),(ow 1 0 s1)]]⟩,⟨0,26,2,[[.zc,.zc]]⟩]⟩:=(hA5 _ _ _).2 (by
  refine AJ [1,7] U (by kernel_rfl) (by decide) ⟨?_,?_,trivial⟩
  ·refine AH (i:=1) rfl U (by rfl) ?_
   refine zq tb U ?_
   refine AE ⟨U,?_⟩
   exact AD (AF (L:=[(2,(.ptr 2 0 0 0)),(4,(.ptr 3 0 0 0)),(5,(i64 (Sh.w (p1 - 1000)))),(9,(ow 0 0 s0)),(10,(i64 (Sh.w (p1 - 1000)))),(14,(.ptr 0 0 (Int.toNat (Sh.w (p1 - 1000))) 0))]) ⟨.rfl,.rfl,.rfl,.rfl,.rfl,.rfl,trivial⟩) (AG (by kernel_rfl) ((hA5 _ _ _).1 A5_0123456)) rfl
  ·refine AH (i:=7) rfl U (by rfl) ?_
   refine zq tb U ?_
   refine AE ⟨U,?_⟩
   exact AD (AF (L:=[(2,(.ptr 2 0 0 0)),(4,(.ptr 3 0 0 0)),(5,(i64 (Sh.w (p1 - 1000)))),(8,(.ptr 2 0 0 0)),(10,(i64 (Sh.w (p1 - 1000)))),(15,(.ptr 0 0 (Int.toNat (Sh.w (p1 - 1000))) 0))]) ⟨.rfl,.rfl,.rfl,.rfl,.rfl,.rfl,trivial⟩) (AG (by kernel_rfl) ((hA5 _ _ _).1 A5_0234567)) rfl)
 have A5_02345:A5 8 #[true,false,true,true,true,true,false,false,false,false,false,false,false] ⟨34,AM [(2,(.ptr 2 0 0 0)),(4,(.ptr 3 0 0 0)),(5,(i64 (Sh.w (p1 - 1000)))),(8,(.ptr 2 0 0 0)),(10,(i64 (Sh.w (p1 - 1000)))),(12,(ow 0 0 s0)),(13,(i64 (Sh.w (p1 - 1000))))],[(ro 0 30 3 AA s0),(ro 0 3 1 eI s1),⟨0,26,2,[[(ow 0 0 s0),(ow 1 0 s1)]]⟩,⟨0,26,2,[[.zc,.zc]]⟩]⟩:=(hA5 _ _ _).2 (by
  refine AJ [1,6] U (by kernel_rfl) (by decide) ⟨?_,?_,trivial⟩
  ·refine AH (i:=1) rfl U (by rfl) ?_
   refine zq tb U ?_
   refine AE ⟨U,?_⟩
   exact AD (AF (L:=[(2,(.ptr 2 0 0 0)),(4,(.ptr 3 0 0 0)),(5,(i64 (Sh.w (p1 - 1000)))),(9,(ow 0 0 s0)),(10,(i64 (Sh.w (p1 - 1000)))),(12,(ow 0 0 s0)),(13,(i64 (Sh.w (p1 - 1000))))]) ⟨.rfl,.rfl,.rfl,.rfl,.rfl,.rfl,.rfl,trivial⟩) (AG (by kernel_rfl) ((hA5 _ _ _).1 A5_012345)) rfl
  ·refine AH (i:=6) rfl U (by rfl) ?_
   refine zz (.ptr 0 0 (Int.toNat (Sh.w (p1 - 1000))) 0) (An A3 U U U U gc4) rfl ?_
   refine AE ⟨U,?_⟩
   exact AD (AF (L:=[(2,(.ptr 2 0 0 0)),(4,(.ptr 3 0 0 0)),(5,(i64 (Sh.w (p1 - 1000)))),(8,(.ptr 2 0 0 0)),(10,(i64 (Sh.w (p1 - 1000)))),(14,(.ptr 0 0 (Int.toNat (Sh.w (p1 - 1000))) 0))]) ⟨.rfl,.rfl,.rfl,.rfl,.rfl,.rfl,trivial⟩) (AG (by kernel_rfl) ((hA5 _ _ _).1 A5_023456)) rfl)
 have A5_0235:A5 9 #[true,false,true,true,false,true,false,false,false,false,false,false,false] ⟨34,AM [(2,(.ptr 2 0 0 0)),(4,(.ptr 3 0 0 0)),(5,(i64 (Sh.w (p1 - 1000)))),(8,(.ptr 2 0 0 0)),(10,(i64 (Sh.w (p1 - 1000)))),(11,(.ptr 2 0 0 0)),(13,(i64 (Sh.w (p1 - 1000))))],[(ro 0 30 3 AA s0),(ro 0 3 1 eI s1),⟨0,26,2,[[(ow 0 0 s0),(ow 1 0 s1)]]⟩,⟨0,26,2,[[.zc,.zc]]⟩]⟩:=(hA5 _ _ _).2 (by
  refine AJ [1,4] U (by kernel_rfl) (by decide) ⟨?_,?_,trivial⟩
  ·refine AH (i:=1) rfl U (by rfl) ?_
   refine zq tb U ?_
   refine AE ⟨U,?_⟩
   exact AD (AF (L:=[(2,(.ptr 2 0 0 0)),(4,(.ptr 3 0 0 0)),(5,(i64 (Sh.w (p1 - 1000)))),(9,(ow 0 0 s0)),(10,(i64 (Sh.w (p1 - 1000)))),(11,(.ptr 2 0 0 0)),(13,(i64 (Sh.w (p1 - 1000))))]) ⟨.rfl,.rfl,.rfl,.rfl,.rfl,.rfl,.rfl,trivial⟩) (AG (by kernel_rfl) ((hA5 _ _ _).1 A5_01235)) rfl
  ·refine AH (i:=4) rfl U (by rfl) ?_
   refine zq tb U ?_
   refine AE ⟨U,?_⟩
   exact AD (AF (L:=[(2,(.ptr 2 0 0 0)),(4,(.ptr 3 0 0 0)),(5,(i64 (Sh.w (p1 - 1000)))),(8,(.ptr 2 0 0 0)),(10,(i64 (Sh.w (p1 - 1000)))),(12,(ow 0 0 s0)),(13,(i64 (Sh.w (p1 - 1000))))]) ⟨.rfl,.rfl,.rfl,.rfl,.rfl,.rfl,.rfl,trivial⟩) (AG (by kernel_rfl) ((hA5 _ _ _).1 A5_02345)) rfl)
 have A5_025:A5 10 #[true,false,true,false,false,true,false,false,false,false,false,false,false] ⟨34,AM [(2,(.ptr 2 0 0 0)),(4,(.ptr 3 0 0 0)),(5,(i64 (Sh.w (p1 - 1000)))),(8,(.ptr 2 0 0 0)),(10,(i64 (Sh.w (p1 - 1000)))),(13,(i64 (Sh.w (p1 - 1000))))],[(ro 0 30 3 AA s0),(ro 0 3 1 eI s1),⟨0,26,2,[[(ow 0 0 s0),(ow 1 0 s1)]]⟩,⟨0,26,2,[[.zc,.zc]]⟩]⟩:=(hA5 _ _ _).2 (by
  refine AJ [1,3] U (by kernel_rfl) (by decide) ⟨?_,?_,trivial⟩
  ·refine AH (i:=1) rfl U (by rfl) ?_
   refine zq tb U ?_
   refine AE ⟨U,?_⟩
   exact AD (AF (L:=[(2,(.ptr 2 0 0 0)),(4,(.ptr 3 0 0 0)),(5,(i64 (Sh.w (p1 - 1000)))),(9,(ow 0 0 s0)),(10,(i64 (Sh.w (p1 - 1000)))),(13,(i64 (Sh.w (p1 - 1000))))]) ⟨.rfl,.rfl,.rfl,.rfl,.rfl,.rfl,trivial⟩) (AG (by kernel_rfl) ((hA5 _ _ _).1 A5_0125)) rfl
  ·refine AH (i:=3) rfl U (by rfl) ?_
   refine zq tb U ?_
   refine AE ⟨U,?_⟩
   exact AD (AF (L:=[(2,(.ptr 2 0 0 0)),(4,(.ptr 3 0 0 0)),(5,(i64 (Sh.w (p1 - 1000)))),(8,(.ptr 2 0 0 0)),(10,(i64 (Sh.w (p1 - 1000)))),(11,(.ptr 2 0 0 0)),(13,(i64 (Sh.w (p1 - 1000))))]) ⟨.rfl,.rfl,.rfl,.rfl,.rfl,.rfl,.rfl,trivial⟩) (AG (by kernel_rfl) ((hA5 _ _ _).1 A5_0235)) rfl)
 have A5_23456789:A5 5 #[false,false,true,true,true,true,true,true,true,true,false,false,false] ⟨34,AM [(2,(.ptr 2 0 0 0)),(4,(.ptr 3 0 0 0)),(5,(i64 (Sh.w (p1 - 1000)))),(10,(i64 (Sh.w (p1 - 1000)))),(17,(i64 (Sh.w (c4.count - 1))))],[(ro 0 30 3 AA s0),(ro 0 3 1 eI s1),⟨0,26,2,[[(ow 0 0 s0),(ow 1 0 s1)]]⟩,⟨0,26,2,[[.zc,.zc]]⟩]⟩:=(hA5 _ _ _).2 (by
  refine AJ [0] U (by kernel_rfl) (by decide) ⟨?_,trivial⟩
  ·refine AH (i:=0) rfl U (by rfl) ?_
   refine zq tb U ?_
   refine AE ⟨U,?_⟩
   exact AD (AF (L:=[(2,(.ptr 2 0 0 0)),(4,(.ptr 3 0 0 0)),(5,(i64 (Sh.w (p1 - 1000)))),(8,(.ptr 2 0 0 0)),(10,(i64 (Sh.w (p1 - 1000)))),(17,(i64 (Sh.w (c4.count - 1))))]) ⟨.rfl,.rfl,.rfl,.rfl,.rfl,.rfl,trivial⟩) (AG (by kernel_rfl) ((hA5 _ _ _).1 A5_023456789)) rfl)
 have A5_2345678:A5 6 #[false,false,true,true,true,true,true,true,true,false,false,false,false] ⟨34,AM [(2,(.ptr 2 0 0 0)),(4,(.ptr 3 0 0 0)),(5,(i64 (Sh.w (p1 - 1000)))),(10,(i64 (Sh.w (p1 - 1000)))),(16,(i64 c4.count))],[(ro 0 30 3 AA s0),(ro 0 3 1 eI s1),⟨0,26,2,[[(ow 0 0 s0),(ow 1 0 s1)]]⟩,⟨0,26,2,[[.zc,.zc]]⟩]⟩:=(hA5 _ _ _).2 (by
  refine AJ [0,9] U (by kernel_rfl) (by decide) ⟨?_,?_,trivial⟩
  ·refine AH (i:=0) rfl U (by rfl) ?_
   refine zq tb U ?_
   refine AE ⟨U,?_⟩
   exact AD (AF (L:=[(2,(.ptr 2 0 0 0)),(4,(.ptr 3 0 0 0)),(5,(i64 (Sh.w (p1 - 1000)))),(8,(.ptr 2 0 0 0)),(10,(i64 (Sh.w (p1 - 1000)))),(16,(i64 c4.count))]) ⟨.rfl,.rfl,.rfl,.rfl,.rfl,.rfl,trivial⟩) (AG (by kernel_rfl) ((hA5 _ _ _).1 A5_02345678)) rfl
  ·refine AH (i:=9) rfl U (by rfl) ?_
   refine zq tb U ?_
   refine AE ⟨U,?_⟩
   exact AD (AF (L:=[(2,(.ptr 2 0 0 0)),(4,(.ptr 3 0 0 0)),(5,(i64 (Sh.w (p1 - 1000)))),(10,(i64 (Sh.w (p1 - 1000)))),(17,(i64 (Sh.w (c4.count - 1))))]) ⟨.rfl,.rfl,.rfl,.rfl,.rfl,trivial⟩) (AG (by kernel_rfl) ((hA5 _ _ _).1 A5_23456789)) rfl)
 have A5_234567:A5 7 #[false,false,true,true,true,true,true,true,false,false,false,false,false] ⟨34,AM [(2,(.ptr 2 0 0 0)),(4,(.ptr 3 0 0 0)),(5,(i64 (Sh.w (p1 - 1000)))),(10,(i64 (Sh.w (p1 - 1000)))),(15,(.ptr 0 0 (Int.toNat (Sh.w (p1 - 1000))) 0))],[(ro 0 30 3 AA s0),(ro 0 3 1 eI s1),⟨0,26,2,[[(ow 0 0 s0),(ow 1 0 s1)]]⟩,⟨0,26,2,[[.zc,.zc]]⟩]⟩:=(hA5 _ _ _).2 (by
  refine AJ [0,8] U (by kernel_rfl) (by decide) ⟨?_,?_,trivial⟩
  ·refine AH (i:=0) rfl U (by rfl) ?_
   refine zq tb U ?_
   refine AE ⟨U,?_⟩
   exact AD (AF (L:=[(2,(.ptr 2 0 0 0)),(4,(.ptr 3 0 0 0)),(5,(i64 (Sh.w (p1 - 1000)))),(8,(.ptr 2 0 0 0)),(10,(i64 (Sh.w (p1 - 1000)))),(15,(.ptr 0 0 (Int.toNat (Sh.w (p1 - 1000))) 0))]) ⟨.rfl,.rfl,.rfl,.rfl,.rfl,.rfl,trivial⟩) (AG (by kernel_rfl) ((hA5 _ _ _).1 A5_0234567)) rfl
  ·refine AH (i:=8) rfl U (by rfl) ?_
   refine zz (i64 c4.count) (Aw CM U U (Am gc4) rfl) rfl ?_
   refine AE ⟨U,?_⟩
   exact AD (AF (L:=[(2,(.ptr 2 0 0 0)),(4,(.ptr 3 0 0 0)),(5,(i64 (Sh.w (p1 - 1000)))),(10,(i64 (Sh.w (p1 - 1000)))),(16,(i64 c4.count))]) ⟨.rfl,.rfl,.rfl,.rfl,.rfl,trivial⟩) (AG (by kernel_rfl) ((hA5 _ _ _).1 A5_2345678)) rfl)
 have A5_23456:A5 8 #[false,false,true,true,true,true,true,false,false,false,false,false,false] ⟨34,AM [(2,(.ptr 2 0 0 0)),(4,(.ptr 3 0 0 0)),(5,(i64 (Sh.w (p1 - 1000)))),(10,(i64 (Sh.w (p1 - 1000)))),(14,(.ptr 0 0 (Int.toNat (Sh.w (p1 - 1000))) 0))],[(ro 0 30 3 AA s0),(ro 0 3 1 eI s1),⟨0,26,2,[[(ow 0 0 s0),(ow 1 0 s1)]]⟩,⟨0,26,2,[[.zc,.zc]]⟩]⟩:=(hA5 _ _ _).2 (by
  refine AJ [0,7] U (by kernel_rfl) (by decide) ⟨?_,?_,trivial⟩
  ·refine AH (i:=0) rfl U (by rfl) ?_
   refine zq tb U ?_
   refine AE ⟨U,?_⟩
   exact AD (AF (L:=[(2,(.ptr 2 0 0 0)),(4,(.ptr 3 0 0 0)),(5,(i64 (Sh.w (p1 - 1000)))),(8,(.ptr 2 0 0 0)),(10,(i64 (Sh.w (p1 - 1000)))),(14,(.ptr 0 0 (Int.toNat (Sh.w (p1 - 1000))) 0))]) ⟨.rfl,.rfl,.rfl,.rfl,.rfl,.rfl,trivial⟩) (AG (by kernel_rfl) ((hA5 _ _ _).1 A5_023456)) rfl
  ·refine AH (i:=7) rfl U (by rfl) ?_
   refine zq tb U ?_
   refine AE ⟨U,?_⟩
   exact AD (AF (L:=[(2,(.ptr 2 0 0 0)),(4,(.ptr 3 0 0 0)),(5,(i64 (Sh.w (p1 - 1000)))),(10,(i64 (Sh.w (p1 - 1000)))),(15,(.ptr 0 0 (Int.toNat (Sh.w (p1 - 1000))) 0))]) ⟨.rfl,.rfl,.rfl,.rfl,.rfl,trivial⟩) (AG (by kernel_rfl) ((hA5 _ _ _).1 A5_234567)) rfl)
 have A5_2345:A5 9 #[false,false,true,true,true,true,false,false,false,false,false,false,false] ⟨34,AM [(2,(.ptr 2 0 0 0)),(4,(.ptr 3 0 0 0)),(5,(i64 (Sh.w (p1 - 1000)))),(10,(i64 (Sh.w (p1 - 1000)))),(12,(ow 0 0 s0)),(13,(i64 (Sh.w (p1 - 1000))))],[(ro 0 30 3 AA s0),(ro 0 3 1 eI s1),⟨0,26,2,[[(ow 0 0 s0),(ow 1 0 s1)]]⟩,⟨0,26,2,[[.zc,.zc]]⟩]⟩:=(hA5 _ _ _).2 (by
  refine AJ [0,6] U (by kernel_rfl) (by decide) ⟨?_,?_,trivial⟩
  ·refine AH (i:=0) rfl U (by rfl) ?_
   refine zq tb U ?_
   refine AE ⟨U,?_⟩
   exact AD (AF (L:=[(2,(.ptr 2 0 0 0)),(4,(.ptr 3 0 0 0)),(5,(i64 (Sh.w (p1 - 1000)))),(8,(.ptr 2 0 0 0)),(10,(i64 (Sh.w (p1 - 1000)))),(12,(ow 0 0 s0)),(13,(i64 (Sh.w (p1 - 1000))))]) ⟨.rfl,.rfl,.rfl,.rfl,.rfl,.rfl,.rfl,trivial⟩) (AG (by kernel_rfl) ((hA5 _ _ _).1 A5_02345)) rfl
  ·refine AH (i:=6) rfl U (by rfl) ?_
   refine zz (.ptr 0 0 (Int.toNat (Sh.w (p1 - 1000))) 0) (An A3 U U U U gc4) rfl ?_
   refine AE ⟨U,?_⟩
   exact AD (AF (L:=[(2,(.ptr 2 0 0 0)),(4,(.ptr 3 0 0 0)),(5,(i64 (Sh.w (p1 - 1000)))),(10,(i64 (Sh.w (p1 - 1000)))),(14,(.ptr 0 0 (Int.toNat (Sh.w (p1 - 1000))) 0))]) ⟨.rfl,.rfl,.rfl,.rfl,.rfl,trivial⟩) (AG (by kernel_rfl) ((hA5 _ _ _).1 A5_23456)) rfl)
 have A5_235:A5 10 #[false,false,true,true,false,true,false,false,false,false,false,false,false] ⟨34,AM [(2,(.ptr 2 0 0 0)),(4,(.ptr 3 0 0 0)),(5,(i64 (Sh.w (p1 - 1000)))),(10,(i64 (Sh.w (p1 - 1000)))),(11,(.ptr 2 0 0 0)),(13,(i64 (Sh.w (p1 - 1000))))],[(ro 0 30 3 AA s0),(ro 0 3 1 eI s1),⟨0,26,2,[[(ow 0 0 s0),(ow 1 0 s1)]]⟩,⟨0,26,2,[[.zc,.zc]]⟩]⟩:=(hA5 _ _ _).2 (by
  refine AJ [0,4] U (by kernel_rfl) (by decide) ⟨?_,?_,trivial⟩
  ·refine AH (i:=0) rfl U (by rfl) ?_
   refine zq tb U ?_
   refine AE ⟨U,?_⟩
   exact AD (AF (L:=[(2,(.ptr 2 0 0 0)),(4,(.ptr 3 0 0 0)),(5,(i64 (Sh.w (p1 - 1000)))),(8,(.ptr 2 0 0 0)),(10,(i64 (Sh.w (p1 - 1000)))),(11,(.ptr 2 0 0 0)),(13,(i64 (Sh.w (p1 - 1000))))]) ⟨.rfl,.rfl,.rfl,.rfl,.rfl,.rfl,.rfl,trivial⟩) (AG (by kernel_rfl) ((hA5 _ _ _).1 A5_0235)) rfl
  ·refine AH (i:=4) rfl U (by rfl) ?_
   refine zq tb U ?_
   refine AE ⟨U,?_⟩
   exact AD (AF (L:=[(2,(.ptr 2 0 0 0)),(4,(.ptr 3 0 0 0)),(5,(i64 (Sh.w (p1 - 1000)))),(10,(i64 (Sh.w (p1 - 1000)))),(12,(ow 0 0 s0)),(13,(i64 (Sh.w (p1 - 1000))))]) ⟨.rfl,.rfl,.rfl,.rfl,.rfl,.rfl,trivial⟩) (AG (by kernel_rfl) ((hA5 _ _ _).1 A5_2345)) rfl)
 have A5_25:A5 11 #[false,false,true,false,false,true,false,false,false,false,false,false,false] ⟨34,AM [(2,(.ptr 2 0 0 0)),(4,(.ptr 3 0 0 0)),(5,(i64 (Sh.w (p1 - 1000)))),(10,(i64 (Sh.w (p1 - 1000)))),(13,(i64 (Sh.w (p1 - 1000))))],[(ro 0 30 3 AA s0),(ro 0 3 1 eI s1),⟨0,26,2,[[(ow 0 0 s0),(ow 1 0 s1)]]⟩,⟨0,26,2,[[.zc,.zc]]⟩]⟩:=(hA5 _ _ _).2 (by
  refine AJ [0,3] U (by kernel_rfl) (by decide) ⟨?_,?_,trivial⟩
  ·refine AH (i:=0) rfl U (by rfl) ?_
   refine zq tb U ?_
   refine AE ⟨U,?_⟩
   exact AD (AF (L:=[(2,(.ptr 2 0 0 0)),(4,(.ptr 3 0 0 0)),(5,(i64 (Sh.w (p1 - 1000)))),(8,(.ptr 2 0 0 0)),(10,(i64 (Sh.w (p1 - 1000)))),(13,(i64 (Sh.w (p1 - 1000))))]) ⟨.rfl,.rfl,.rfl,.rfl,.rfl,.rfl,trivial⟩) (AG (by kernel_rfl) ((hA5 _ _ _).1 A5_025)) rfl
  ·refine AH (i:=3) rfl U (by rfl) ?_
   refine zq tb U ?_
   refine AE ⟨U,?_⟩
   exact AD (AF (L:=[(2,(.ptr 2 0 0 0)),(4,(.ptr 3 0 0 0)),(5,(i64 (Sh.w (p1 - 1000)))),(10,(i64 (Sh.w (p1 - 1000)))),(11,(.ptr 2 0 0 0)),(13,(i64 (Sh.w (p1 - 1000))))]) ⟨.rfl,.rfl,.rfl,.rfl,.rfl,.rfl,trivial⟩) (AG (by kernel_rfl) ((hA5 _ _ _).1 A5_235)) rfl)
 have A5_2:A5 12 #[false,false,true,false,false,false,false,false,false,false,false,false,false] ⟨34,AM [(2,(.ptr 2 0 0 0)),(4,(.ptr 3 0 0 0)),(5,(i64 (Sh.w (p1 - 1000)))),(10,(i64 (Sh.w (p1 - 1000))))],[(ro 0 30 3 AA s0),(ro 0 3 1 eI s1),⟨0,26,2,[[(ow 0 0 s0),(ow 1 0 s1)]]⟩,⟨0,26,2,[[.zc,.zc]]⟩]⟩:=(hA5 _ _ _).2 (by
  refine Bf 5 (v:=(i64 (Sh.w (p1 - 1000)))) rfl U (by kernel_rfl) (by kernel_rfl) (by kernel_rfl) rfl (Cc U) ?_
  exact AD (AF (L:=[(2,(.ptr 2 0 0 0)),(4,(.ptr 3 0 0 0)),(5,(i64 (Sh.w (p1 - 1000)))),(10,(i64 (Sh.w (p1 - 1000)))),(13,(i64 (Sh.w (p1 - 1000))))]) ⟨.rfl,.rfl,.rfl,.rfl,.rfl,trivial⟩) (AG (by kernel_rfl) ((hA5 _ _ _).1 A5_25)) rfl)
 have A5_e:A5 13 #[false,false,false,false,false,false,false,false,false,false,false,false,false] ⟨34,AM [(2,(.ptr 2 0 0 0)),(4,(.ptr 3 0 0 0)),(5,(i64 (Sh.w (p1 - 1000))))],[(ro 0 30 3 AA s0),(ro 0 3 1 eI s1),⟨0,26,2,[[(ow 0 0 s0),(ow 1 0 s1)]]⟩,⟨0,26,2,[[.zc,.zc]]⟩]⟩:=(hA5 _ _ _).2 (by
  refine Bf 2 (v:=(i64 (Sh.w (p1 - 1000)))) rfl U (by kernel_rfl) (by kernel_rfl) (by kernel_rfl) rfl (Cc U) ?_
  exact AD (AF (L:=[(2,(.ptr 2 0 0 0)),(4,(.ptr 3 0 0 0)),(5,(i64 (Sh.w (p1 - 1000)))),(10,(i64 (Sh.w (p1 - 1000))))]) ⟨.rfl,.rfl,.rfl,.rfl,trivial⟩) (AG (by kernel_rfl) ((hA5 _ _ _).1 A5_2)) rfl)
 refine (hA5 _ _ _).2 ?_
 exact AD (AF (L:=[(2,(.ptr 2 0 0 0)),(4,(.ptr 3 0 0 0)),(5,(i64 (Sh.w (p1 - 1000))))]) ⟨.rfl,.rfl,.rfl,trivial⟩) (AG (by kernel_rfl) ((hA5 _ _ _).1 A5_e)) rfl
end Go.Proofs.Ythapbpfhdnmboaa

