import Derived.Test.YthapbpfhdnmboaaProg
import Derived.Test.YthapbpfhdnmboaaGHADefsToLZDefs
import Derived.Test.YthapbpfhdnmboaaLZWalkP3
namespace Go.Proofs.Ythapbpfhdnmboaa
open Go Go.Abs RC
attribute [local irreducible] Go.Abs.B4
set_option maxRecDepth 100000
set_option maxHeartbeats 4000000

theorem SP:Al Try.prog 12=true:=by kernel_rfl
theorem Re:Al Try.prog 14=true:=by kernel_rfl
theorem Sj:Al Try.prog 18=true:=by kernel_rfl
theorem S6:Al Try.prog 19=true:=by kernel_rfl
theorem SY:Al Try.prog 20=true:=by kernel_rfl
theorem Sl:Al Try.prog 25=true:=by kernel_rfl
theorem SZ:Al Try.prog 27=true:=by kernel_rfl
theorem Sn:Al Try.prog 31=true:=by kernel_rfl
theorem TE:Al Try.prog 38=true:=by kernel_rfl
theorem TF:Al Try.prog 5=true:=by kernel_rfl
theorem Sq:Al Try.prog 6=true:=by kernel_rfl
theorem SW:Al Try.prog 7=true:=by kernel_rfl
theorem TG:Al Try.prog 8=true:=by kernel_rfl
theorem SO:GS Try.prog 24=some [.zc]:=by kernel_rfl

theorem IJ {N:Nat} {p0:(List Cell)} {p1:Cell} {r:Bool} (h0:Dl N p0 p1=some r):Ag Try.prog 25 [(ls AA p0),(.agg (AA p1))] [] (fun v st=>v=(.bool r)∧st=[]):=by
 unfold Dl at h0
 refine ai Try.func25 U U U U ?_
 refine sr U fun K1 hK1=>?_
 refine Dc (m:=0) (st':=[⟨0,30,3,[(AA p1)]⟩]) Ad U U U U U ?_
 refine zq tb U ?_
 refine dn hK1 U ?_
 refine AN fun K2 hK2=>?_
 refine AN fun K3 hK3=>?_
 obtain⟨o5,h1,h0⟩:=Sh.bind_some h0
 have M5 :∀(t4:Bool),o5=t4→∀s,Wk 0 s ⟨66,AM [(0,(ls AA p0)),(3,(.ptr 0 0 0 0)),(25,(.bool t4))],[⟨0,30,3,[(AA p1)]⟩]⟩→K3 s:=by
  intro t4 hq s hw
  subst o5
  try dsimp only at h0
  refine hK3 _ (AS hw ?_)
  refine ci h0 U ?_ ?_ <;> clear h0
  ·intro b6 h0
   refine zr tb U U ?_
   replace h0:=Sh.AL h0
   subst r
   exact AZ (xr (BL [(4,(.bool false))] U))
  ·intro b6 h0
   refine AU (hK2 _ ?_)
   refine AN fun K8 hK8=>?_
   refine AN fun K9 hK9=>?_
   obtain⟨o11,h1,h0⟩:=Sh.bind_some h0
   have M11 :∀(t10:Bool),o11=t10→∀s,Wk 0 s ⟨66,AM [(0,(ls AA p0)),(3,(.ptr 0 0 0 0)),(44,(.bool t10))],[⟨0,30,3,[(AA p1)]⟩]⟩→K9 s:=by
    intro t10 hq s hw
    subst o11
    try dsimp only at h0
    refine hK9 _ (AS hw ?_)
    refine ci h0 U ?_ ?_ <;> clear h0
    ·intro b12 h0
     refine zr tb U U ?_
     replace h0:=Sh.AL h0
     subst r
     exact AZ (xr (BL [(4,(.bool false))] U))
    ·intro b12 h0
     refine AU (hK8 _ ?_)
     refine AN fun K14 hK14=>?_
     refine sr U fun K15 hK15=>?_
     refine zm tb 2 U ?_
     refine zl tb U U ?_
     refine zq tb U ?_
     refine dn hK15 U ?_
     obtain⟨o17,h1,h0⟩:=Sh.Bj h0
     have M17 :∀(_:Unit),o17=Sum.inr ()→∀s,Wk 0 s ⟨66,AM [],[]⟩→K14 s:=by
      intro _ hq s hw
      subst o17
      try dsimp only at h0
      refine hK14 _ (AS hw ?_)
      refine zr tb U U ?_
      replace h0:=Sh.AL h0
      subst r
      exact AZ (xr (AF (L:=[(4,(.bool true))]) ⟨.rfl,trivial⟩))
     refine AY (Ar (σ:=Int) (fun n v=>Bp p0 p1 n v=some o17) (fun t16=>⟨66,AM [(0,(ls AA p0)),(3,(.ptr 0 0 0 0)),(46,(ls eI p1.fields)),(47,(i64 (Sh.len p1.fields))),(48,(i64 t16))],[⟨0,30,3,[(AA p1)]⟩]⟩) N 0 h1 (AP U) (fun _ hv=>by rw[Bp] at hv;cases hv) ?_)
     rintro n t16 h1
     try dsimp only at h1 ⊢
     rw[Bp] at h1
     refine zr tb U U ?_
     refine AN fun K20 hK20=>?_
     refine ci h1 U ?_ ?_ <;> clear h1
     ·intro b21 h1
      refine AU (hK20 _ ?_)
      refine AN fun K22 hK22=>?_
      refine AY ?_
      refine sr U fun K23 hK23=>?_
      obtain⟨c24,gc24,h1⟩:=Sh.bind_some h1
      refine zx Aw gc24 U U U ?_
      refine zm tb 2 U ?_
      refine dn hK23 U ?_
      refine AN fun K25 hK25=>?_
      obtain⟨o27,h2,h1⟩:=Sh.bind_some h1
      have M27 :∀(t26:Bool),o27=t26→∀s,Wk 0 s ⟨66,AM [(0,(ls AA p0)),(3,(.ptr 0 0 0 0)),(46,(ls eI p1.fields)),(47,(i64 (Sh.len p1.fields))),(48,(i64 t16)),(64,(.bool t26))],[⟨0,30,3,[(AA p1)]⟩]⟩→K25 s:=by
       intro t26 hq s hw
       subst o27
       try dsimp only at h1
       refine hK25 _ (AS hw ?_)
       refine ci h1 U ?_ ?_ <;> clear h1
       ·intro b28 h1
        refine zr tb U U ?_
        replace h1:=Sh.AL h1
        subst o17
        try dsimp only[id] at h0
        replace h0:=Sh.AL h0
        subst r
        exact AZ (xr (BL [(4,(.bool false))] U))
       ·intro b28 h1
        refine AU (hK22 _ ?_)
        refine AR (by rfl) ?_
        refine zm tb 2 U ?_
        exact AE (xi (Sh.w (t16+1)) h1 (AP U))
      refine AR (by rfl) ?_
      refine zm tb 2 U ?_
      obtain⟨q30,gq30,h2⟩:=Sh.bind_some h2
      refine zc TE (IS gq30) rfl U U ?_
      refine zm tb 2 U ?_
      rcases Sh.An h2 with ⟨b31,h2⟩ | ⟨b31,h2⟩
      ·refine zs b31 U ?_
       iterate 3 refine zs b31 rfl ?_
       iterate 2 refine zn rfl ?_
       refine zs b31 U ?_
       refine zt b31 U ?_
       exact AE (M27 true (Sh.AL h2).symm _ (AP U))
      ·refine zg tb b31 U ?_
       iterate 3 refine zg tb b31 rfl ?_
       rcases Sh.An h2 with ⟨b32,h2⟩ | ⟨b32,h2⟩
       ·refine zg tb b32 U ?_
        refine zg tb b32 U ?_
        refine CW (v:=(.bool (!decide (c24=0)))) (CS U U b31) rfl (Ff U b32 U) ?_
        refine zf b31 U ?_
        exact AE (M27 (!decide (c24=0)) (Sh.AL h2).symm _ (AP U))
       ·refine zs b32 U ?_
        refine zs b32 U ?_
        refine CW (v:=(.bool false)) (CS U U b31) rfl (Fg U b32 U) ?_
        refine zf b31 U ?_
        exact AE (M27 false (Sh.AL h2).symm _ (AP U))
     ·intro b21 h1
      exact Av (M17 () (Sh.AL h1).symm _ (BL _ U))
   refine AR (by rfl) ?_
   refine zm tb 4 U ?_
   rcases Sh.An h1 with ⟨b33,h1⟩ | ⟨b33,h1⟩
   ·refine zg tb b33 U ?_
    iterate 2 refine zg tb b33 rfl ?_
    refine zt b33 U ?_
    refine zq tb U ?_
    rcases Sh.An h1 with ⟨b34,h1⟩ | ⟨b34,h1⟩
    ·refine zs b34 U ?_
     iterate 3 refine zs b34 rfl ?_
     iterate 4 refine zn rfl ?_
     refine zs b34 U ?_
     refine zt b34 U ?_
     exact AE (M11 true (Sh.AL h1).symm _ (AP U))
    ·refine zg tb b34 U ?_
     iterate 3 refine zg tb b34 rfl ?_
     rcases Sh.An h1 with ⟨b35,h1⟩ | ⟨b35,h1⟩
     ·refine zg tb b35 U ?_
      refine zg tb b35 U ?_
      refine CW (v:=(i64 (Sh.len p1.fields))) (CS U U b35) rfl (EX GN U) ?_
      refine zg tb b35 U ?_
      refine CW (v:=(.bool (decide (0 < (Sh.len p1.fields))))) (CS U U b34) rfl (Ff U b35 U) ?_
      refine zf b34 U ?_
      exact AE (M11 (decide (0 < (Sh.len p1.fields))) (Sh.AL h1).symm _ (AP U))
     ·refine zs b35 U ?_
      iterate 3 refine zs b35 rfl ?_
      refine CW (v:=(.bool false)) (CS U U b34) rfl (Fg U b35 U) ?_
      refine zf b34 U ?_
      exact AE (M11 false (Sh.AL h1).symm _ (AP U))
   ·refine zs b33 U ?_
    iterate 2 refine zs b33 rfl ?_
    refine zf b33 U ?_
    refine zq tb U ?_
    iterate 4 refine zg tb rfl rfl ?_
    rcases Sh.An h1 with ⟨b36,h1⟩ | ⟨b36,h1⟩
    ·refine zg tb b36 U ?_
     refine zg tb b36 U ?_
     refine CW (v:=(i64 (Sh.len p1.fields))) (CS U U b36) rfl (EX GN U) ?_
     refine zg tb b36 U ?_
     refine CW (v:=(.bool (decide (0 < (Sh.len p1.fields))))) (CS U U U) rfl (Ff U b36 U) ?_
     refine zf U U ?_
     exact AE (M11 (decide (0 < (Sh.len p1.fields))) (Sh.AL h1).symm _ (AP U))
    ·refine zs b36 U ?_
     iterate 3 refine zs b36 rfl ?_
     refine CW (v:=(.bool false)) (CS U U U) rfl (Fg U b36 U) ?_
     refine zf U U ?_
     exact AE (M11 false (Sh.AL h1).symm _ (AP U))
 refine AR (by rfl) ?_
 refine zm tb 4 U ?_
 rcases Sh.An h1 with ⟨b37,h1⟩ | ⟨b37,h1⟩
 ·refine zs b37 U ?_
  iterate 2 refine zs b37 rfl ?_
  refine zt b37 U ?_
  refine zq tb U ?_
  iterate 3 refine zs rfl rfl ?_
  refine zt U U ?_
  refine zq tb U ?_
  iterate 4 refine zs rfl rfl ?_
  refine zt U U ?_
  exact AE (M5 true (Sh.AL h1).symm _ (AP U))
 ·refine zg tb b37 U ?_
  iterate 2 refine zg tb b37 rfl ?_
  refine zf b37 U ?_
  refine zq tb U ?_
  rcases Sh.An h1 with ⟨b38,h1⟩ | ⟨b38,h1⟩
  ·refine zs b38 U ?_
   iterate 2 refine zs b38 rfl ?_
   refine zt b38 U ?_
   refine zq tb U ?_
   iterate 4 refine zs rfl rfl ?_
   refine zt U U ?_
   exact AE (M5 true (Sh.AL h1).symm _ (AP U))
  ·refine zg tb b38 U ?_
   iterate 2 refine zg tb b38 rfl ?_
   refine zf b38 U ?_
   refine zq tb U ?_
   rcases Sh.An h1 with ⟨b39,h1⟩ | ⟨b39,h1⟩
   ·refine zs b39 U ?_
    iterate 3 refine zs b39 rfl ?_
    refine zt b39 U ?_
    exact AE (M5 true (Sh.AL h1).symm _ (AP U))
   ·refine zg tb b39 U ?_
    refine zg tb b39 U ?_
    refine CW (v:=(i64 (Sh.len p1.fields))) (CS U U b39) rfl (EX GN U) ?_
    refine zg tb b39 U ?_
    refine zf b39 U ?_
    exact AE (M5 (decide (3 < (Sh.len p1.fields))) (Sh.AL h1).symm _ (AP U))
theorem GY {p0:(List Int)} {r:(List Int)} (h0:B0 p0=some r):Ag Try.prog 27 [(ls eI p0)] [] (fun v st=>v=(ow 0 0 r)∧st=[(ro 0 3 1 eI r)]):=by
 unfold B0 at h0
 refine ai Try.func27 U U U U ?_
 refine zr tb U U ?_
 refine AN fun K2 hK2=>?_
 refine sr U fun K3 hK3=>?_
 refine zq tb U ?_
 refine PC Ad GN U (fun hn=>?_) ?_
 ·subst hn
  replace h0:some []=some r:=by rw[← h0];first | rfl | simp[Sh.app]
  refine dn hK3 U ?_
  refine FH (b:=true) rfl (fun _=>?_) (fun q=>nomatch (show true=false from (U:true=true).symm.trans q))
  refine zr tb U U ?_
  replace h0:=Sh.AL h0
  subst r
  exact AZ (Exists.intro _ (And.intro (((Co (t:=2) rfl 3 (size:=1) (by decide)).trans (AF (L:=[(2,(.own 0 0 (List.length ([]:List Int))))]) ⟨.rfl,trivial⟩)).trans (AF (L:=[(2,(.own 0 0 (List.length ([]:List Int))))]) ⟨.rfl,trivial⟩)) (And.intro U U)))
 ·refine dn hK3 U ?_
  refine FH (b:=false) rfl (fun q=>nomatch (show false=true from (U:false=false).symm.trans q)) (fun _=>?_)
  refine AU (hK2 _ ?_)
  refine sr U fun K5 hK5=>?_
  refine BZ (m:=0) (st':=[(ro 0 3 1 eI ([]:List Int))]) (l:=([]:List Int)) (enc:=eI) Ad Aw (by decide) rfl U U U U U ?_
  refine zq tb U ?_
  obtain⟨l6,gl6,h0⟩:=Sh.bind_some h0
  refine EO (st':=[(ro 1 3 1 eI l6)]) (l2:=p0) Ad Aw U U U U MU (fun _=>U) gl6 U ?_
  refine zq tb U ?_
  refine dn hK5 U ?_
  replace h0:=Sh.AL h0
  subst r
  exact AZ (xr (Fj (L:=[(2,(ow 0 0 l6))]) (st':=[(ro 0 3 1 eI l6)]) (.pure (AB fun _=>U) .nil) ⟨.rfl,trivial⟩))
theorem FI {N:Nat} {p0:(List Cell)} {r:(List Int)×Bool} (h0:CH N p0=some r):Ag Try.prog 14 [(ls AA p0)] [] (fun v st=>v=(.BD [(ow 0 0 r.1),(.bool r.2)])∧st=[(ro 0 3 1 eI r.1)]):=by
 unfold CH at h0
 refine ai Try.func14 U U U U ?_
 refine zr tb U U ?_
 refine sr U fun K2 hK2=>?_
 refine zq tb U ?_
 refine zl tb U U ?_
 obtain⟨l3,gl3,h0⟩:=Sh.bind_some h0
 refine JB (m:=0) (st':=[(ro 0 3 1 eI l3)]) (enc:=eI) (u:=0) Ad Aw U U U gl3 U U ?_
 refine zq tb U ?_
 refine dn hK2 U ?_
 refine AN fun K4 hK4=>?_
 refine sr U fun K5 hK5=>?_
 refine zq tb U ?_
 refine zl tb U U ?_
 refine zq tb U ?_
 refine dn hK5 U ?_
 obtain⟨o9,h1,h0⟩:=Sh.Bj h0
 have M9 :∀(l8:(List Int)),o9=Sum.inr l8→∀s,Wk 0 s ⟨159,AM [(0,(ls AA p0)),(4,(ow 0 0 l8))],[(ro 0 3 1 eI l8)]⟩→K4 s:=by
  intro l8 hq s hw
  subst o9
  try dsimp only at h0
  refine hK4 _ (AS hw ?_)
  refine AN fun K10 hK10=>?_
  refine AN fun K11 hK11=>?_
  obtain⟨o13,h1,h0⟩:=Sh.bind_some h0
  have M13 :∀(t12:Bool),o13=t12→∀s,Wk 0 s ⟨159,AM [(0,(ls AA p0)),(4,(ow 0 0 l8)),(68,(.bool t12))],[(ro 0 3 1 eI l8)]⟩→K11 s:=by
   intro t12 hq s hw
   subst o13
   try dsimp only at h0
   refine hK11 _ (AS hw ?_)
   refine ci h0 U ?_ ?_ <;> clear h0
   ·intro b14 h0
    refine zr tb U U ?_
    replace h0:=Sh.AL h0
    subst r
    exact AZ (Exists.intro _ (And.intro ((((Co (t:=2) rfl 3 (size:=1) (by decide)).trans (AF (L:=[(2,(.own 1 0 (List.length ([]:List Int)))),(3,(.bool false))]) ⟨.rfl,.rfl,trivial⟩)).trans (AK (L:=[(2,(.own 0 0 (List.length ([]:List Int)))),(3,(.bool false))]) (st':=[(ro 0 3 1 eI ([]:List Int))]) (st1:=[(ro 0 3 1 eI ([]:List Int))]) [1] U .nil (by decide) rfl U (.pure (AB fun _=>U) .nil) ⟨.rfl,.rfl,trivial⟩)).trans (AF (L:=[(2,(.own 0 0 (List.length ([]:List Int)))),(3,(.bool false))]) ⟨.rfl,.rfl,trivial⟩)) (And.intro U U)))
   ·intro b14 h0
    refine AU (hK10 _ ?_)
    refine sr U fun K16 hK16=>?_
    refine zq tb U ?_
    obtain⟨q17,gq17,h0⟩:=Sh.bind_some h0
    refine DG (v':=(ow 1 0 q17)) (st':=[(ro 0 3 1 eI l8),(ro 0 3 1 eI q17)]) Ad SZ (GY gq17) rfl (.own U U (fun _=>U) .nil) rfl (PB (fun _=>U) trivial) rfl U ?_
    refine zq tb U ?_
    refine dn hK16 U ?_
    iterate 2 refine zr tb rfl rfl ?_
    refine AN fun K20 hK20=>?_
    refine sr U fun K21 hK21=>?_
    refine zq tb U ?_
    refine zl tb U U ?_
    refine zq tb U ?_
    refine dn hK21 U ?_
    obtain⟨o25,h1,h0⟩:=Sh.Bj h0
    have M25 :∀(l24:(List Int)),o25=Sum.inr l24→∀s,Wk 0 s ⟨159,AM [(0,(ls AA p0)),(4,(ow 0 0 l8)),(11,(ow 1 0 q17)),(12,(ow 2 0 l24)),(13,(i64 0))],[(ro 0 3 1 eI l8),(ro 0 3 1 eI q17),(ro 0 3 1 eI l24)]⟩→K20 s:=by
     intro l24 hq s hw
     subst o25
     try dsimp only at h0
     refine hK20 _ (AS hw ?_)
     refine AN fun K26 hK26=>?_
     obtain⟨o31,h1,h0⟩:=Sh.bind_some h0
     have M31 :∀(many30:Int),o31=many30→∀s,Wk 0 s ⟨159,AM [(0,(ls AA p0)),(4,(ow 0 0 l8)),(13,(i64 many30))],[(ro 0 3 1 eI l8)]⟩→K26 s:=by
      intro many30 hq s hw
      subst o31
      try dsimp only at h0
      refine hK26 _ (AS hw ?_)
      refine sr U fun K32 hK32=>?_
      refine zm tb 3 U ?_
      refine zl tb U U ?_
      refine zm tb 3 U ?_
      refine dn hK32 U ?_
      replace h0:=Sh.AL h0
      subst r
      exact AZ (xr (AF (L:=[(2,(ow 0 0 l8)),(3,(.bool (decide (many30=(Sh.len p0)))))]) ⟨.rfl,.rfl,trivial⟩))
     refine AY (Ar (σ:=Int×(List Int)×(List Int)) (fun n v=>BT N p0 n v.1 v.2.1 v.2.2=some o31) (fun (many27,l28,l29)=>⟨159,AM [(0,(ls AA p0)),(4,(ow 0 0 l8)),(11,(ow 1 0 l28)),(12,(ow 2 0 l29)),(13,(i64 many27))],[(ro 0 3 1 eI l8),(ro 0 3 1 eI l28),(ro 0 3 1 eI l29)]⟩) N (0,q17,l24) h1 (AP U) (fun _ hv=>by rw[BT] at hv;cases hv) ?_)
     rintro n ⟨many27,l28,l29⟩ h1
     try dsimp only at h1 ⊢
     rw[BT] at h1
     refine AN fun K33 hK33=>?_
     refine sr U fun K34 hK34=>?_
     refine zq tb U ?_
     refine zz (i64 (Sh.len l29)) (Bh GN U U U) rfl ?_
     refine zq tb U ?_
     refine dn hK34 U ?_
     refine ci h1 U ?_ ?_ <;> clear h1
     ·intro b35 h1
      refine AU (hK33 _ ?_)
      refine AN fun K36 hK36=>?_
      refine AY ?_
      refine sr U fun K37 hK37=>?_
      refine zm tb 3 U ?_
      refine zz (i64 (Sh.len l29)) (Bh GN U U U) rfl ?_
      refine zq tb U ?_
      obtain⟨c38,gc38,h1⟩:=Sh.bind_some h1
      refine zz (.ptr 2 0 (Int.toNat (Sh.w ((Sh.len l29) - 1))) 0) (Ao Aw U U U U gc38) rfl ?_
      refine zz (i64 c38) (Au CK U U (Am gc38) rfl) rfl ?_
      obtain⟨c39,gc39,h1⟩:=Sh.bind_some h1
      refine zx A6 gc39 U U U ?_
      refine zq tb U ?_
      refine A8 (m:=3) (st':=[(ro 0 3 1 eI l8),(ro 0 3 1 eI l28),(ro 0 3 1 eI l29),⟨0,30,3,[[(i64 0),(i64 0),.zc]]⟩]) Ad HY U U ?_
      refine Bl (st':=[(ro 0 3 1 eI l8),(ro 0 3 1 eI l28),(ro 0 3 1 eI l29),⟨0,30,3,[(AA c39)]⟩]) Ad I9 U U U U U U (show 0+3≤3 by decide) rfl ?_
      refine dn hK37 U ?_
      refine sr U fun K40 hK40=>?_
      refine zm tb 2 U ?_
      refine zz (i64 (Sh.len l29)) (Bh GN U U U) rfl ?_
      refine zq tb U ?_
      obtain⟨l41,gl41,h1⟩:=Sh.bind_some h1
      refine J7 (st':=[(ro 0 3 1 eI l8),(ro 0 3 1 eI l28),(ro 1 3 1 eI l41),⟨0,30,3,[(AA c39)]⟩]) Ad Aw U U U U gl41 U ?_
      refine zq tb U ?_
      refine dn hK40 U ?_
      refine sr U fun K42 hK42=>?_
      refine zm tb 2 U ?_
      refine zl tb U U ?_
      refine zq tb U ?_
      refine dn hK42 U ?_
      obtain⟨o48,h2,h1⟩:=Sh.bind_some h1
      have M48 :∀(l46:(List Int)) (l47:(List Int)),o48=(l46,l47)→∀s,Wk 0 s ⟨159,AM [(0,(ls AA p0)),(4,(ow 0 0 l8)),(11,(ow 1 0 l46)),(12,(ow 2 0 l47)),(13,(i64 many27))],[(ro 0 3 1 eI l8),(ro 0 3 1 eI l46),(ro 0 3 1 eI l47)]⟩→K36 s:=by
       intro l46 l47 hq s hw
       subst o48
       try dsimp only at h1
       refine hK36 _ (AS hw ?_)
       refine AR (by rfl) ?_
       refine zm tb 3 U ?_
       exact AE (xi (Sh.w (many27+1),l46,l47) h1 (AP U))
      refine AY (Ar (σ:=Int×(List Int)×(List Int)) (fun n v=>BP c39 p0 n v.1 v.2.1 v.2.2=some o48) (fun (t43,l44,l45)=>⟨159,AM [(0,(ls AA p0)),(4,(ow 0 0 l8)),(11,(ow 1 0 l44)),(12,(ow 2 0 l45)),(13,(i64 many27)),(125,(ls eI c39.fields)),(126,(i64 (Sh.len c39.fields))),(127,(i64 t43))],[(ro 0 3 1 eI l8),(ro 0 3 1 eI l44),(ro 0 3 1 eI l45)]⟩) N (0,l28,l41) h2 (by refine Wk.trans (Fj (L:=[(0,(ls AA p0)),(4,(ow 0 0 l8)),(11,(ow 1 0 l28)),(12,(ow 2 0 l41)),(13,(i64 many27)),(125,(ls eI c39.fields)),(126,(i64 (Sh.len c39.fields))),(127,(i64 0))]) (st':=[(ro 0 3 1 eI l8),(ro 0 3 1 eI l28),(ro 0 3 1 eI l41),⟨0,30,3,[(AA c39)]⟩]) (.pure (AB fun _=>U) (.pure (AB fun _=>U) (.pure (AB fun _=>U) (.raw U U .nil)))) ⟨.rfl,.rfl,.rfl,.rfl,.rfl,.rfl,.rfl,.rfl,trivial⟩) ?_;exact AK (L:=[(0,(ls AA p0)),(4,(ow 0 0 l8)),(11,(ow 1 0 l28)),(12,(ow 2 0 l41)),(13,(i64 many27)),(125,(ls eI c39.fields)),(126,(i64 (Sh.len c39.fields))),(127,(i64 0))]) (st':=[(ro 0 3 1 eI l8),(ro 0 3 1 eI l28),(ro 0 3 1 eI l41)]) (st1:=[(ro 0 3 1 eI l8),(ro 0 3 1 eI l28),(ro 0 3 1 eI l41)]) [0,1,2] U .nil (by decide) rfl U (.pure (AB fun _=>U) (.pure (AB fun _=>U) (.pure (AB fun _=>U) .nil))) ⟨.rfl,.rfl,.rfl,.rfl,.rfl,.rfl,.rfl,.rfl,trivial⟩) (fun _ hv=>by rw[BP] at hv;cases hv) ?_)
      rintro n ⟨t43,l44,l45⟩ h2
      try dsimp only at h2 ⊢
      rw[BP] at h2
      refine zr tb U U ?_
      refine AN fun K50 hK50=>?_
      refine ci h2 U ?_ ?_ <;> clear h2
      ·intro b51 h2
       refine AU (hK50 _ ?_)
       refine AN fun K52 hK52=>?_
       obtain⟨o55,h3,h2⟩:=Sh.bind_some h2
       have M55 :∀(l53:(List Int)) (l54:(List Int)),o55=(l53,l54)→∀s,Wk 0 s ⟨159,AM [(0,(ls AA p0)),(4,(ow 0 0 l8)),(11,(ow 1 0 l53)),(12,(ow 2 0 l54)),(13,(i64 many27)),(125,(ls eI c39.fields)),(126,(i64 (Sh.len c39.fields))),(127,(i64 t43))],[(ro 0 3 1 eI l8),(ro 0 3 1 eI l53),(ro 0 3 1 eI l54)]⟩→K52 s:=by
        intro l53 l54 hq s hw
        subst o55
        try dsimp only at h2
        refine hK52 _ (AS hw ?_)
        refine AR (by rfl) ?_
        refine zm tb 2 U ?_
        exact AE (xi (Sh.w (t43+1),l53,l54) h2 (AP U))
       refine AY ?_
       refine sr U fun K56 hK56=>?_
       obtain⟨c57,gc57,h3⟩:=Sh.bind_some h3
       refine zx Aw gc57 U U U ?_
       refine zm tb 2 U ?_
       refine dn hK56 U ?_
       refine sr U fun K58 hK58=>?_
       refine zm tb 2 U ?_
       obtain⟨q59,gq59,h3⟩:=Sh.bind_some h3
       refine zc (v':=(.BD [(i64 q59.1),(.bool q59.2)])) QS (FU gq59) rfl U U ?_
       refine zm tb 5 U ?_
       refine dn hK58 U ?_
       refine zr tb U U ?_
       refine ci h3 U ?_ ?_ <;> clear h3
       ·intro b61 h3
        refine sr U fun K62 hK62=>?_
        refine zm tb 2 U ?_
        obtain⟨c63,gc63,h3⟩:=Sh.bind_some h3
        refine zz (.ptr 1 0 (Int.toNat q59.1) 0) (Ao Aw U U U U gc63) rfl ?_
        refine zz (i64 c63) (Au CK U U (Am gc63) rfl) rfl ?_
        refine zq tb U ?_
        refine zz (.ptr 1 0 (Int.toNat q59.1) 0) (Ao Aw U U U U gc63) rfl ?_
        refine Dy (st':=[(ro 0 3 1 eI l8),(ro 0 3 1 eI (Sh.put l44 q59.1 (Sh.w (c63 - 1)))),(ro 0 3 1 eI l45)]) (u':=Sh.w (c63 - 1)) Ad CK U U gc63 U U U (show 0+1≤1 by decide) rfl U ?_
        refine dn hK62 U ?_
        refine sr U fun K64 hK64=>?_
        refine zm tb 2 U ?_
        obtain⟨c65,gc65,h3⟩:=Sh.bind_some h3
        refine zz (.ptr 1 0 (Int.toNat q59.1) 0) (Ao Aw U U U (by simp only[Sh.CN]) gc65) rfl ?_
        refine zz (i64 c65) (Au CK U U (Am gc65) rfl) rfl ?_
        refine zq tb U ?_
        refine dn hK64 U ?_
        refine ci h3 U ?_ ?_ <;> clear h3
        ·intro b66 h3
         refine AR (by rfl) ?_
         refine zm tb 2 U ?_
         refine BZ (m:=3) (st':=[(ro 0 3 1 eI l8),(ro 0 3 1 eI (Sh.put l44 q59.1 (Sh.w (c63 - 1)))),(ro 0 3 1 eI l45),(ro 0 3 1 eI [q59.1])]) (l:=[q59.1]) (enc:=eI) Ad Aw (by decide) rfl U U U U U ?_
         obtain⟨l67,gl67,h3⟩:=Sh.bind_some h3
         refine EO (st':=[(ro 0 3 1 eI l8),(ro 0 3 1 eI (Sh.put l44 q59.1 (Sh.w (c63 - 1)))),(ro 1 3 1 eI l67),(ro 0 3 1 eI [q59.1])]) (l2:=[q59.1]) Ad Aw U U U U (KK U U) (fun _=>U) gl67 U ?_
         refine zq tb U ?_
         exact AE (M55 (Sh.put l44 q59.1 (Sh.w (c63 - 1))) l67 (Sh.AL h3).symm _ (by refine Wk.trans (Fj (L:=[(0,(.sl (List.map AA p0))),(4,(.own 0 0 (List.length l8))),(11,(.own 1 0 (List.length l44))),(12,(.own 2 0 (List.length l67))),(13,(i64 many27)),(125,(.sl (List.map eI c39.fields))),(126,(i64 (Sh.len c39.fields))),(127,(i64 t43))]) (st':=[⟨0,3,1,List.map eI l8⟩,⟨0,3,1,List.map eI (Sh.put l44 q59.1 (Sh.w (c63 - 1)))⟩,⟨0,3,1,List.map eI l67⟩,⟨0,3,1,List.map eI [q59.1]⟩]) (.pure (AB fun _=>U) (.pure (AB fun _=>U) (.pure (AB fun _=>U) (.pure (AB fun _=>U) .nil)))) ⟨.rfl,.rfl,.rfl,.rfl,.rfl,.rfl,.rfl,.rfl,trivial⟩) ?_;refine Wk.trans (AK (L:=[(0,(.sl (List.map AA p0))),(4,(.own 0 0 (List.length l8))),(11,(.own 1 0 (List.length l44))),(12,(.own 2 0 (List.length l67))),(13,(i64 many27)),(125,(.sl (List.map eI c39.fields))),(126,(i64 (Sh.len c39.fields))),(127,(i64 t43))]) (st':=[⟨0,3,1,List.map eI l8⟩,⟨0,3,1,List.map eI (Sh.put l44 q59.1 (Sh.w (c63 - 1)))⟩,⟨0,3,1,List.map eI l67⟩]) (st1:=[⟨0,3,1,List.map eI l8⟩,⟨0,3,1,List.map eI (Sh.put l44 q59.1 (Sh.w (c63 - 1)))⟩,⟨0,3,1,List.map eI l67⟩]) [0,1,2] U .nil (by decide) rfl U (.pure (AB fun _=>U) (.pure (AB fun _=>U) (.pure (AB fun _=>U) .nil))) ⟨.rfl,.rfl,.rfl,.rfl,.rfl,.rfl,.rfl,.rfl,trivial⟩) ?_;exact AF (L:=[(0,(.sl (List.map AA p0))),(4,(.own 0 0 (List.length l8))),(11,(.own 1 0 (List.length (Sh.put l44 q59.1 (Sh.w (c63 - 1)))))),(12,(.own 2 0 (List.length l67))),(13,(i64 many27)),(125,(.sl (List.map eI c39.fields))),(126,(i64 (Sh.len c39.fields))),(127,(i64 t43))]) ⟨.rfl,.rfl,(.len (by simp only[Sh.CN])),.rfl,.rfl,.rfl,.rfl,.rfl,trivial⟩))
        ·intro b66 h3
         exact AU (M55 (Sh.put l44 q59.1 (Sh.w (c63 - 1))) l45 (Sh.AL h3).symm _ (AF (L:=[(0,(.sl (List.map AA p0))),(4,(.own 0 0 (List.length l8))),(11,(.own 1 0 (List.length (Sh.put l44 q59.1 (Sh.w (c63 - 1)))))),(12,(.own 2 0 (List.length l45))),(13,(i64 many27)),(125,(.sl (List.map eI c39.fields))),(126,(i64 (Sh.len c39.fields))),(127,(i64 t43))]) ⟨.rfl,.rfl,(.len (by simp only[Sh.CN])),.rfl,.rfl,.rfl,.rfl,.rfl,trivial⟩))
       ·intro b61 h3
        exact AU (M55 l44 l45 (Sh.AL h3).symm _ (AP U))
      ·intro b51 h2
       exact Av (M48 l44 l45 (Sh.AL h2).symm _ (AP U))
     ·intro b35 h1
      exact Av (M31 many27 (Sh.AL h1).symm _ (AK (L:=[(0,(ls AA p0)),(4,(ow 0 0 l8)),(13,(i64 many27))]) (st':=[(ro 0 3 1 eI l8)]) (st1:=[(ro 0 3 1 eI l8)]) [0] U .nil (by decide) rfl U (.pure (AB fun _=>U) .nil) ⟨.rfl,.rfl,.rfl,trivial⟩))
    refine AY (Ar (σ:=Int×(List Int)) (fun n v=>BQ l8 p0 n v.1 v.2=some o25) (fun (t22,l23)=>⟨159,AM [(0,(ls AA p0)),(4,(ow 0 0 l8)),(11,(ow 1 0 q17)),(12,(ow 2 0 l23)),(13,(i64 0)),(71,(ls AA p0)),(72,(i64 (Sh.len p0))),(73,(i64 t22))],[(ro 0 3 1 eI l8),(ro 0 3 1 eI q17),(ro 0 3 1 eI l23)]⟩) N (0,[]) h1 ((Co (t:=12) rfl 3 (size:=1) (by decide)).trans (AF (L:=[(0,(ls AA p0)),(4,(ow 0 0 l8)),(11,(ow 1 0 q17)),(12,(.own 2 0 (List.length ([]:List Int)))),(13,(i64 0)),(71,(ls AA p0)),(72,(i64 (Sh.len p0))),(73,(i64 0))]) ⟨.rfl,.rfl,.rfl,.rfl,.rfl,.rfl,.rfl,.rfl,trivial⟩)) (fun _ hv=>by rw[BQ] at hv;cases hv) ?_)
    rintro n ⟨t22,l23⟩ h1
    try dsimp only at h1 ⊢
    rw[BQ] at h1
    refine zr tb U U ?_
    refine AN fun K69 hK69=>?_
    refine ci h1 U ?_ ?_ <;> clear h1
    ·intro b70 h1
     refine AU (hK69 _ ?_)
     refine AN fun K71 hK71=>?_
     obtain⟨o73,h2,h1⟩:=Sh.Bj h1
     have M73 :∀(l72:(List Int)),o73=Sum.inr l72→∀s,Wk 0 s ⟨159,AM [(0,(ls AA p0)),(4,(ow 0 0 l8)),(11,(ow 1 0 q17)),(12,(ow 2 0 l72)),(13,(i64 0)),(71,(ls AA p0)),(72,(i64 (Sh.len p0))),(73,(i64 t22))],[(ro 0 3 1 eI l8),(ro 0 3 1 eI q17),(ro 0 3 1 eI l72)]⟩→K71 s:=by
      intro l72 hq s hw
      subst o73
      try dsimp only at h1
      refine hK71 _ (AS hw ?_)
      refine AR (by rfl) ?_
      refine zm tb 2 U ?_
      exact AE (xi (Sh.w (t22+1),l72) h1 (AP U))
     refine AY ?_
     refine sr U fun K74 hK74=>?_
     refine zq tb U ?_
     obtain⟨c75,gc75,h2⟩:=Sh.bind_some h2
     refine zx A6 gc75 U U U ?_
     refine zq tb U ?_
     refine A8 (m:=3) (st':=[(ro 0 3 1 eI l8),(ro 0 3 1 eI q17),(ro 0 3 1 eI l23),⟨0,30,3,[[(i64 0),(i64 0),.zc]]⟩]) Ad HY U U ?_
     refine zq tb U ?_
     refine Bl (st':=[(ro 0 3 1 eI l8),(ro 0 3 1 eI q17),(ro 0 3 1 eI l23),⟨0,30,3,[(AA c75)]⟩]) Ad I9 U U U U U U (show 0+3≤3 by decide) rfl ?_
     refine dn hK74 U ?_
     refine AN fun K76 hK76=>?_
     refine AN fun K77 hK77=>?_
     obtain⟨o79,h3,h2⟩:=Sh.bind_some h2
     have M79 :∀(t78:Bool),o79=t78→∀s,Wk 0 s ⟨159,AM [(0,(ls AA p0)),(4,(ow 0 0 l8)),(11,(ow 1 0 q17)),(12,(ow 2 0 l23)),(13,(i64 0)),(14,(i64 t22)),(71,(ls AA p0)),(72,(i64 (Sh.len p0))),(73,(i64 t22)),(94,(.bool t78))],[(ro 0 3 1 eI l8),(ro 0 3 1 eI q17),(ro 0 3 1 eI l23)]⟩→K77 s:=by
      intro t78 hq s hw
      subst o79
      try dsimp only at h2
      refine hK77 _ (AS hw ?_)
      refine ci h2 U ?_ ?_ <;> clear h2
      ·intro b80 h2
       refine zr tb U U ?_
       replace h2:=Sh.AL h2
       subst o73
       try dsimp only[id] at h1
       replace h1:=Sh.AL h1
       subst o25
       try dsimp only[id] at h0
       replace h0:=Sh.AL h0
       subst r
       exact AZ (Exists.intro _ (And.intro ((((Co (t:=2) rfl 3 (size:=1) (by decide)).trans (AF (L:=[(2,(.own 3 0 (List.length ([]:List Int)))),(3,(.bool false))]) ⟨.rfl,.rfl,trivial⟩)).trans (AK (L:=[(2,(.own 0 0 (List.length ([]:List Int)))),(3,(.bool false))]) (st':=[(ro 0 3 1 eI ([]:List Int))]) (st1:=[(ro 0 3 1 eI ([]:List Int))]) [3] U .nil (by decide) rfl U (.pure (AB fun _=>U) .nil) ⟨.rfl,.rfl,trivial⟩)).trans (AF (L:=[(2,(.own 0 0 (List.length ([]:List Int)))),(3,(.bool false))]) ⟨.rfl,.rfl,trivial⟩)) (And.intro U U)))
      ·intro b80 h2
       refine AU (hK76 _ ?_)
       refine sr U fun K82 hK82=>?_
       refine zm tb 2 U ?_
       obtain⟨c83,gc83,h2⟩:=Sh.bind_some h2
       refine zz (.ptr 0 0 (Int.toNat t22) 0) (Ao Aw U U U U gc83) rfl ?_
       refine zz (i64 c83) (Au CK U U (Am gc83) rfl) rfl ?_
       refine zq tb U ?_
       refine dn hK82 U ?_
       refine ci h2 U ?_ ?_ <;> clear h2
       ·intro b84 h2
        refine AR (by rfl) ?_
        refine zm tb 2 U ?_
        refine BZ (m:=3) (st':=[(ro 0 3 1 eI l8),(ro 0 3 1 eI q17),(ro 0 3 1 eI l23),(ro 0 3 1 eI [t22])]) (l:=[t22]) (enc:=eI) Ad Aw (by decide) rfl U U U U U ?_
        obtain⟨l85,gl85,h2⟩:=Sh.bind_some h2
        refine EO (st':=[(ro 0 3 1 eI l8),(ro 0 3 1 eI q17),(ro 1 3 1 eI l85),(ro 0 3 1 eI [t22])]) (l2:=[t22]) Ad Aw U U U U (KK U U) (fun _=>U) gl85 U ?_
        refine zq tb U ?_
        exact AE (M73 l85 (Sh.AL h2).symm _ (by refine Wk.trans (Fj (L:=[(0,(ls AA p0)),(4,(ow 0 0 l8)),(11,(ow 1 0 q17)),(12,(ow 2 0 l85)),(13,(i64 0)),(71,(ls AA p0)),(72,(i64 (Sh.len p0))),(73,(i64 t22))]) (st':=[(ro 0 3 1 eI l8),(ro 0 3 1 eI q17),(ro 0 3 1 eI l85),(ro 0 3 1 eI [t22])]) (.pure (AB fun _=>U) (.pure (AB fun _=>U) (.pure (AB fun _=>U) (.pure (AB fun _=>U) .nil)))) ⟨.rfl,.rfl,.rfl,.rfl,.rfl,.rfl,.rfl,.rfl,trivial⟩) ?_;exact AK (L:=[(0,(ls AA p0)),(4,(ow 0 0 l8)),(11,(ow 1 0 q17)),(12,(ow 2 0 l85)),(13,(i64 0)),(71,(ls AA p0)),(72,(i64 (Sh.len p0))),(73,(i64 t22))]) (st':=[(ro 0 3 1 eI l8),(ro 0 3 1 eI q17),(ro 0 3 1 eI l85)]) (st1:=[(ro 0 3 1 eI l8),(ro 0 3 1 eI q17),(ro 0 3 1 eI l85)]) [0,1,2] U .nil (by decide) rfl U (.pure (AB fun _=>U) (.pure (AB fun _=>U) (.pure (AB fun _=>U) .nil))) ⟨.rfl,.rfl,.rfl,.rfl,.rfl,.rfl,.rfl,.rfl,trivial⟩))
       ·intro b84 h2
        exact AU (M73 l23 (Sh.AL h2).symm _ (AP U))
     refine F6 (by kernel_rfl) (by kernel_rfl) (by rfl) ?_
     iterate 4 refine yq tb rfl ?_
     rcases Sh.An h3 with ⟨b86,h3⟩ | ⟨b86,h3⟩
     ·refine yg tb b86 U ?_
      iterate 3 refine yg tb b86 rfl ?_
      obtain⟨c87,gc87,h3⟩:=Sh.bind_some h3
      refine Fk (v:=(.ptr 0 0 (Int.toNat t22) 0)) (CS U U b86) rfl (Ao Aw U U U U gc87) ?_
      refine Fk (v:=(i64 c87)) (CS U U b86) rfl (Au CK U U (Am gc87) rfl) ?_
      iterate 2 refine yg tb b86 rfl ?_
      rcases Sh.An h3 with ⟨b88,h3⟩ | ⟨b88,h3⟩
      ·refine ys b88 U ?_
       iterate 2 refine ys b88 rfl ?_
       refine Fk (v:=(.bool true)) (CS U U b86) rfl (Ff U b88 U) ?_
       refine yt b86 U ?_
       exact Ck (M79 true (Sh.AL h3).symm _ (AK (L:=[(0,(ls AA p0)),(4,(ow 0 0 l8)),(11,(ow 1 0 q17)),(12,(ow 2 0 l23)),(13,(i64 0)),(14,(i64 t22)),(71,(ls AA p0)),(72,(i64 (Sh.len p0))),(73,(i64 t22)),(94,(.bool true))]) (st':=[(ro 0 3 1 eI l8),(ro 0 3 1 eI q17),(ro 0 3 1 eI l23)]) (st1:=[(ro 0 3 1 eI l8),(ro 0 3 1 eI q17),(ro 0 3 1 eI l23)]) [0,1,2] U .nil (by decide) rfl U (.pure (AB fun _=>U) (.pure (AB fun _=>U) (.pure (AB fun _=>U) .nil))) ⟨.rfl,.rfl,.rfl,.rfl,.rfl,.rfl,.rfl,.rfl,.rfl,.rfl,trivial⟩))
      ·refine yg tb b88 U ?_
       iterate 2 refine yg tb b88 rfl ?_
       refine Fk (v:=(.bool (decide (999999 < c75.count)))) (CS U U b86) rfl (Fg U b88 U) ?_
       refine yt b86 U ?_
       exact Ck (M79 (decide (999999 < c75.count)) (Sh.AL h3).symm _ (AK (L:=[(0,(ls AA p0)),(4,(ow 0 0 l8)),(11,(ow 1 0 q17)),(12,(ow 2 0 l23)),(13,(i64 0)),(14,(i64 t22)),(71,(ls AA p0)),(72,(i64 (Sh.len p0))),(73,(i64 t22)),(94,(.bool (decide (999999 < c75.count))))]) (st':=[(ro 0 3 1 eI l8),(ro 0 3 1 eI q17),(ro 0 3 1 eI l23)]) (st1:=[(ro 0 3 1 eI l8),(ro 0 3 1 eI q17),(ro 0 3 1 eI l23)]) [0,1,2] U .nil (by decide) rfl U (.pure (AB fun _=>U) (.pure (AB fun _=>U) (.pure (AB fun _=>U) .nil))) ⟨.rfl,.rfl,.rfl,.rfl,.rfl,.rfl,.rfl,.rfl,.rfl,.rfl,trivial⟩))
     ·refine ys b86 U ?_
      iterate 7 refine ys b86 rfl ?_
      iterate 3 refine yn rfl ?_
      refine ys b86 U ?_
      refine yf b86 U ?_
      exact Ck (M79 false (Sh.AL h3).symm _ (AK (L:=[(0,(ls AA p0)),(4,(ow 0 0 l8)),(11,(ow 1 0 q17)),(12,(ow 2 0 l23)),(13,(i64 0)),(14,(i64 t22)),(71,(ls AA p0)),(72,(i64 (Sh.len p0))),(73,(i64 t22)),(94,(.bool false))]) (st':=[(ro 0 3 1 eI l8),(ro 0 3 1 eI q17),(ro 0 3 1 eI l23)]) (st1:=[(ro 0 3 1 eI l8),(ro 0 3 1 eI q17),(ro 0 3 1 eI l23)]) [0,1,2] U .nil (by decide) rfl U (.pure (AB fun _=>U) (.pure (AB fun _=>U) (.pure (AB fun _=>U) .nil))) ⟨.rfl,.rfl,.rfl,.rfl,.rfl,.rfl,.rfl,.rfl,.rfl,.rfl,trivial⟩))
    ·intro b70 h1
     exact Av (M25 l23 (Sh.AL h1).symm _ (AP U))
  refine AR (by rfl) ?_
  refine zq tb U ?_
  refine zl tb U U ?_
  refine zm tb 2 U ?_
  rcases Sh.An h1 with ⟨b89,h1⟩ | ⟨b89,h1⟩
  ·refine zg tb b89 U ?_
   refine zg tb b89 U ?_
   refine CW (v:=(i64 (Sh.len p0))) (CS U U b89) rfl (EX Eb U) ?_
   refine zg tb b89 U ?_
   obtain⟨c90,gc90,h1⟩:=Sh.bind_some h1
   refine CW (v:=(.Bz (AA c90) 0)) (CS U U b89) rfl (ER A6 U U gc90 U) ?_
   iterate 3 refine zg tb b89 rfl ?_
   refine zt b89 U ?_
   exact AE (M13 (decide (c90.count=0)) (Sh.AL h1).symm _ (AP U))
  ·refine zs b89 U ?_
   iterate 7 refine zs b89 rfl ?_
   refine zf b89 U ?_
   exact AE (M13 false (Sh.AL h1).symm _ (AP U))
 refine AY (Ar (σ:=Int×(List Int)) (fun n v=>BX N p0 n v.1 v.2=some o9) (fun (t6,l7)=>⟨159,AM [(0,(ls AA p0)),(4,(ow 0 0 l7)),(24,(ls AA p0)),(25,(i64 (Sh.len p0))),(26,(i64 t6))],[(ro 0 3 1 eI l7)]⟩) N (0,l3) h1 (AP U) (fun _ hv=>by rw[BX] at hv;cases hv) ?_)
 rintro n ⟨t6,l7⟩ h1
 try dsimp only at h1 ⊢
 rw[BX] at h1
 refine zr tb U U ?_
 refine AN fun K92 hK92=>?_
 refine ci h1 U ?_ ?_ <;> clear h1
 ·intro b93 h1
  refine AU (hK92 _ ?_)
  refine AN fun K94 hK94=>?_
  refine AY ?_
  refine sr U fun K95 hK95=>?_
  obtain⟨c96,gc96,h1⟩:=Sh.bind_some h1
  refine zx A6 gc96 U U U ?_
  refine zq tb U ?_
  refine A8 (m:=1) (st':=[(ro 0 3 1 eI l7),⟨0,30,3,[[(i64 0),(i64 0),.zc]]⟩]) Ad HY U U ?_
  refine Bl (st':=[(ro 0 3 1 eI l7),⟨0,30,3,[(AA c96)]⟩]) Ad I9 U U U U U U (show 0+3≤3 by decide) rfl ?_
  refine dn hK95 U ?_
  refine AN fun K97 hK97=>?_
  refine sr U fun K98 hK98=>?_
  refine zm tb 2 U ?_
  obtain⟨q99,gq99,h1⟩:=Sh.bind_some h1
  refine zc Sl (IJ gq99) rfl U U ?_
  refine zq tb U ?_
  refine dn hK98 U ?_
  refine ci h1 U ?_ ?_ <;> clear h1
  ·intro b100 h1
   have b101:q99=false:=by simpa using b100
   refine zr tb U U ?_
   replace h1:=Sh.AL h1
   subst o9
   try dsimp only[id] at h0
   replace h0:=Sh.AL h0
   subst r
   exact AZ (Exists.intro _ (And.intro ((((Co (t:=2) rfl 3 (size:=1) (by decide)).trans (AF (L:=[(2,(.own 2 0 (List.length ([]:List Int)))),(3,(.bool false))]) ⟨.rfl,.rfl,trivial⟩)).trans (AK (L:=[(2,(.own 0 0 (List.length ([]:List Int)))),(3,(.bool false))]) (st':=[(ro 0 3 1 eI ([]:List Int))]) (st1:=[(ro 0 3 1 eI ([]:List Int))]) [2] U .nil (by decide) rfl U (.pure (AB fun _=>U) .nil) ⟨.rfl,.rfl,trivial⟩)).trans (AF (L:=[(2,(.own 0 0 (List.length ([]:List Int)))),(3,(.bool false))]) ⟨.rfl,.rfl,trivial⟩)) (And.intro U U)))
  ·intro b100 h1
   have b103:q99=true:=by simpa using b100
   refine AU (hK97 _ ?_)
   refine sr U fun K104 hK104=>?_
   refine zm tb 2 U ?_
   refine zl tb U U ?_
   refine zq tb U ?_
   refine dn hK104 U ?_
   obtain⟨o108,h2,h1⟩:=Sh.bind_some h1
   have M108 :∀(l107:(List Int)),o108=l107→∀s,Wk 0 s ⟨159,AM [(0,(ls AA p0)),(4,(ow 0 0 l107)),(24,(ls AA p0)),(25,(i64 (Sh.len p0))),(26,(i64 t6))],[(ro 0 3 1 eI l107)]⟩→K94 s:=by
    intro l107 hq s hw
    subst o108
    try dsimp only at h1
    refine hK94 _ (AS hw ?_)
    refine AR (by rfl) ?_
    refine zm tb 2 U ?_
    exact AE (xi (Sh.w (t6+1),l107) h1 (AP U))
   refine AY (Ar (σ:=Int×(List Int)) (fun n v=>BV c96 p0 n v.1 v.2=some o108) (fun (t105,l106)=>⟨159,AM [(0,(ls AA p0)),(4,(ow 0 0 l106)),(24,(ls AA p0)),(25,(i64 (Sh.len p0))),(26,(i64 t6)),(35,(ls eI c96.fields)),(36,(i64 (Sh.len c96.fields))),(37,(i64 t105))],[(ro 0 3 1 eI l106)]⟩) N (0,l7) h2 (AK (L:=[(0,(ls AA p0)),(4,(ow 0 0 l7)),(24,(ls AA p0)),(25,(i64 (Sh.len p0))),(26,(i64 t6)),(35,(ls eI c96.fields)),(36,(i64 (Sh.len c96.fields))),(37,(i64 0))]) (st':=[(ro 0 3 1 eI l7)]) (st1:=[(ro 0 3 1 eI l7)]) [0] U .nil (by decide) rfl U (.pure (AB fun _=>U) .nil) ⟨.rfl,.rfl,.rfl,.rfl,.rfl,.rfl,.rfl,.rfl,trivial⟩) (fun _ hv=>by rw[BV] at hv;cases hv) ?_)
   rintro n ⟨t105,l106⟩ h2
   try dsimp only at h2 ⊢
   rw[BV] at h2
   refine zr tb U U ?_
   refine AN fun K110 hK110=>?_
   refine ci h2 U ?_ ?_ <;> clear h2
   ·intro b111 h2
    refine AU (hK110 _ ?_)
    refine AN fun K112 hK112=>?_
    obtain⟨o114,h3,h2⟩:=Sh.bind_some h2
    have M114 :∀(l113:(List Int)),o114=l113→∀s,Wk 0 s ⟨159,AM [(0,(ls AA p0)),(4,(ow 0 0 l113)),(24,(ls AA p0)),(25,(i64 (Sh.len p0))),(26,(i64 t6)),(35,(ls eI c96.fields)),(36,(i64 (Sh.len c96.fields))),(37,(i64 t105))],[(ro 0 3 1 eI l113)]⟩→K112 s:=by
     intro l113 hq s hw
     subst o114
     try dsimp only at h2
     refine hK112 _ (AS hw ?_)
     refine AR (by rfl) ?_
     refine zm tb 2 U ?_
     exact AE (xi (Sh.w (t105+1),l113) h2 (AP U))
    refine AY ?_
    refine sr U fun K115 hK115=>?_
    obtain⟨c116,gc116,h3⟩:=Sh.bind_some h3
    refine zx Aw gc116 U U U ?_
    refine zm tb 2 U ?_
    refine dn hK115 U ?_
    refine sr U fun K117 hK117=>?_
    refine zm tb 2 U ?_
    obtain⟨q118,gq118,h3⟩:=Sh.bind_some h3
    refine zc (v':=(.BD [(i64 q118.1),(.bool q118.2)])) QS (FU gq118) rfl U U ?_
    refine zm tb 5 U ?_
    refine dn hK117 U ?_
    refine zr tb U U ?_
    refine ci h3 U ?_ ?_ <;> clear h3
    ·intro b120 h3
     refine AR (by rfl) ?_
     refine zm tb 2 U ?_
     obtain⟨c121,gc121,h3⟩:=Sh.bind_some h3
     refine zz (.ptr 0 0 (Int.toNat q118.1) 0) (Ao Aw U U U U gc121) rfl ?_
     refine zz (i64 c121) (Au CK U U (Am gc121) rfl) rfl ?_
     refine zq tb U ?_
     refine zz (.ptr 0 0 (Int.toNat q118.1) 0) (Ao Aw U U U U gc121) rfl ?_
     refine Dy (st':=[(ro 0 3 1 eI (Sh.put l106 q118.1 (Sh.w (c121+1))))]) (u':=Sh.w (c121+1)) Ad CK U U gc121 U U U (show 0+1≤1 by decide) rfl U ?_
     exact AE (M114 (Sh.put l106 q118.1 (Sh.w (c121+1))) (Sh.AL h3).symm _ (AF (L:=[(0,(.sl (List.map AA p0))),(4,(.own 0 0 (List.length (Sh.put l106 q118.1 (Sh.w (c121+1)))))),(24,(.sl (List.map AA p0))),(25,(i64 (Sh.len p0))),(26,(i64 t6)),(35,(.sl (List.map eI c96.fields))),(36,(i64 (Sh.len c96.fields))),(37,(i64 t105))]) ⟨.rfl,(.len (by simp only[Sh.CN])),.rfl,.rfl,.rfl,.rfl,.rfl,.rfl,trivial⟩))
    ·intro b120 h3
     exact AU (M114 l106 (Sh.AL h3).symm _ (AP U))
   ·intro b111 h2
    exact Av (M108 l106 (Sh.AL h2).symm _ (AP U))
 ·intro b93 h1
  exact Av (M9 l7 (Sh.AL h1).symm _ (AP U))
theorem Gp {s0_0:(List Int)} {p0:Int} {r:Bool} (h0:DT s0_0 p0=some r):Ag Try.prog 20 [(i64 p0),(.ptr 0 0 0 0)] [⟨0,24,1,[[(ls eI s0_0)]]⟩] (fun v st=>v=(.bool r)∧st=[⟨0,24,1,[[(ls eI s0_0)]]⟩]):=by
 unfold DT at h0
 refine ai Try.func20 U U U U ?_
 refine zr tb U U ?_
 refine sr U fun K2 hK2=>?_
 refine zm tb 2 U ?_
 obtain⟨c3,gc3,h0⟩:=Sh.bind_some h0
 refine zx Aw gc3 U U U ?_
 refine zm tb 3 U ?_
 refine dn hK2 U ?_
 replace h0:=Sh.AL h0
 subst r
 exact AZ (xr (AF (L:=[(3,(.bool (decide (0 < c3))))]) ⟨.rfl,trivial⟩))
theorem FT {N:Nat} {s0_0:(List Int)} {p0:(List Int)} {r:Int} (h0:Cd N s0_0 p0=some r):Ag Try.prog 31 [(ls eI p0),(.fn 20 [(.ptr 0 0 0 0)])] [⟨0,24,1,[[(ls eI s0_0)]]⟩] (fun v st=>v=(i64 r)∧st=[⟨0,24,1,[[(ls eI s0_0)]]⟩]):=by
 unfold Cd at h0
 refine ai Try.func31 U U U U ?_
 refine zr tb U U ?_
 refine AN fun K2 hK2=>?_
 refine sr U fun K3 hK3=>?_
 refine zq tb U ?_
 refine zl tb U U ?_
 refine zq tb U ?_
 refine dn hK3 U ?_
 obtain⟨o5,h1,h0⟩:=Sh.Bj h0
 have M5 :∀(_:Unit),o5=Sum.inr ()→∀s,Wk 1 s ⟨19,AM [],[⟨0,24,1,[[(ls eI s0_0)]]⟩]⟩→K2 s:=by
  intro _ hq s hw
  subst o5
  try dsimp only at h0
  refine hK2 _ (AS hw ?_)
  refine zr tb U U ?_
  replace h0:=Sh.AL h0
  subst r
  exact AZ (xr (AF (L:=[(4,(i64 (-1)))]) ⟨.rfl,trivial⟩))
 refine AY (Ar (σ:=Int) (fun n v=>A2 s0_0 p0 n v=some o5) (fun t4=>⟨19,AM [(0,(ls eI p0)),(1,(.fn 20 [(.ptr 0 0 0 0)])),(7,(i64 (Sh.len p0))),(8,(i64 t4))],[⟨0,24,1,[[(ls eI s0_0)]]⟩]⟩) N 0 h1 (AP U) (fun _ hv=>by rw[A2] at hv;cases hv) ?_)
 rintro n t4 h1
 try dsimp only at h1 ⊢
 rw[A2] at h1
 refine zr tb U U ?_
 refine AN fun K8 hK8=>?_
 refine ci h1 U ?_ ?_ <;> clear h1
 ·intro b9 h1
  refine AU (hK8 _ ?_)
  refine AN fun K10 hK10=>?_
  refine AY ?_
  refine zr tb U U ?_
  refine sr U fun K12 hK12=>?_
  refine zm tb 3 U ?_
  obtain⟨c13,gc13,h1⟩:=Sh.bind_some h1
  refine zx Aw gc13 U U U ?_
  refine zq tb U ?_
  obtain⟨q14,gq14,h1⟩:=Sh.bind_some h1
  refine OZ (rowsP:=[⟨0,24,1,[[(ls eI s0_0)]]⟩]) (rows0:=[⟨0,24,1,[[(ls eI s0_0)]]⟩]) (rows1:=[⟨0,24,1,[[(ls eI s0_0)]]⟩]) (rows2:=[]) (rows1':=[⟨0,24,1,[[(ls eI s0_0)]]⟩]) (rows2':=[]) (st':=[⟨0,24,1,[[(ls eI s0_0)]]⟩]) (v':=(.bool q14)) [0] Ad U SY (Gp gq14) rfl (by decide) rfl U (.raw U U .nil) rfl U (.raw U U .nil) .nil U U ?_
  refine dn hK12 U ?_
  refine ci h1 U ?_ ?_ <;> clear h1
  ·intro b15 h1
   refine zr tb U U ?_
   replace h1:=Sh.AL h1
   subst o5
   try dsimp only[id] at h0
   replace h0:=Sh.AL h0
   subst r
   exact AZ (xr (AF (L:=[(4,(i64 t4))]) ⟨.rfl,trivial⟩))
  ·intro b15 h1
   refine AU (hK10 _ ?_)
   refine AR (by rfl) ?_
   refine zm tb 2 U ?_
   exact AE (xi (Sh.w (t4+1)) h1 (AP U))
 ·intro b9 h1
  exact Av (M5 () (Sh.AL h1).symm _ (AP U))
theorem E4 {N:Nat} {s0_0:(List Int)} {p0:(List Int)} {r:Bool} (h0:CR N s0_0 p0=some r):Ag Try.prog 19 [(ls eI p0),(.fn 20 [(.ptr 0 0 0 0)])] [⟨0,24,1,[[(ls eI s0_0)]]⟩] (fun v st=>v=(.bool r)∧st=[⟨0,24,1,[[(ls eI s0_0)]]⟩]):=by
 unfold CR at h0
 refine ai Try.func19 U U U U ?_
 refine zr tb U U ?_
 refine sr U fun K2 hK2=>?_
 refine zm tb 2 U ?_
 obtain⟨q3,gq3,h0⟩:=Sh.bind_some h0
 refine Ac (rowsP:=[⟨0,24,1,[[(ls eI s0_0)]]⟩]) (rows0:=[⟨0,24,1,[[(ls eI s0_0)]]⟩]) (rows1:=[⟨0,24,1,[[(ls eI s0_0)]]⟩]) (rows2:=[]) (rows1':=[⟨0,24,1,[[(ls eI s0_0)]]⟩]) (rows2':=[]) (st':=[⟨0,24,1,[[(ls eI s0_0)]]⟩]) (v':=(i64 q3)) [0] Ad Sn (FT gq3) rfl (by decide) rfl U (.raw U U .nil) rfl U (.raw U U .nil) .nil U U ?_
 refine zm tb 2 U ?_
 refine dn hK2 U ?_
 replace h0:=Sh.AL h0
 subst r
 exact AZ (xr (AF (L:=[(4,(.bool (decide (0≤q3))))]) ⟨.rfl,trivial⟩))
theorem HU {N:Nat} {p0:BJ} {r:(List Int)×Bool} (h0:Dx N p0=some r):Ag Try.prog 12 [(.agg (A9 p0))] [] (fun v st=>v=(.BD [(ls eI r.1),(.bool r.2)])∧st=[]):=by
 unfold Dx at h0
 refine ai Try.func12 U U U U ?_
 refine sr U fun K1 hK1=>?_
 refine Dc (m:=0) (st':=[⟨0,26,2,[(A9 p0)]⟩]) Ad U U U U U ?_
 refine zm tb 2 U ?_
 refine dn hK1 U ?_
 refine sr U fun K2 hK2=>?_
 refine zm tb 2 U ?_
 obtain⟨q3,gq3,h0⟩:=Sh.bind_some h0
 refine BF (v':=(ow 1 0 q3)) (st':=[⟨0,26,2,[(A9 p0)]⟩,(ro 0 30 3 AA q3)]) Ad Sj (EV gq3) rfl U ⟨(A7 fun _=>U),trivial⟩ U U ?_
 refine zq tb U ?_
 refine dn hK2 U ?_
 refine AN fun K4 hK4=>?_
 refine sr U fun K5 hK5=>?_
 refine zq tb U ?_
 refine zz (i64 (Sh.len q3)) (Bh Eb U U U) rfl ?_
 refine zq tb U ?_
 refine dn hK5 U ?_
 obtain⟨o7,h1,h0⟩:=Sh.Bj h0
 have M7 :∀(_:Unit),o7=Sum.inr ()→∀s,Wk 0 s ⟨66,AM [(1,(.ptr 0 0 0 0)),(4,(ow 1 0 q3))],[⟨0,26,2,[(A9 p0)]⟩,(ro 0 30 3 AA q3)]⟩→K4 s:=by
  intro _ hq s hw
  subst o7
  try dsimp only at h0
  refine hK4 _ (AS hw ?_)
  refine AN fun K8 hK8=>?_
  refine sr U fun K9 hK9=>?_
  refine zm tb 2 U ?_
  refine zl tb U U ?_
  refine zq tb U ?_
  refine dn hK9 U ?_
  obtain⟨o13,h1,h0⟩:=Sh.Bj h0
  have M13 :∀(l12:(List Cell)),o13=Sum.inr l12→∀s,Wk 0 s ⟨66,AM [(1,(.ptr 0 0 0 0)),(4,(ow 1 0 l12))],[⟨0,26,2,[(A9 p0)]⟩,(ro 0 30 3 AA l12)]⟩→K8 s:=by
   intro l12 hq s hw
   subst o13
   try dsimp only at h0
   refine hK8 _ (AS hw ?_)
   refine sr U fun K14 hK14=>?_
   refine zq tb U ?_
   refine Af (Wk.A1 (L:=[(1,(.ptr 0 0 0 0)),(53,(ls AA l12))]) (st':=[⟨0,26,2,[(A9 p0)]⟩,⟨1,30,3,[]⟩]) (id:=1) rfl (show 0≤1 by decide) (AB fun _=>U) ⟨.rfl,(.A1 U),trivial⟩ U) ?_
   obtain⟨q15,gq15,h0⟩:=Sh.bind_some h0
   refine BF (v':=(.BD [(ow 2 0 q15.1),(.bool q15.2)])) (st':=[⟨0,26,2,[(A9 p0)]⟩,⟨1,30,3,[]⟩,(ro 0 3 1 eI q15.1)]) Ad Re (FI gq15) rfl U ⟨(A7 fun _=>U),trivial⟩ U U ?_
   refine zm tb 3 U ?_
   refine A8 (m:=3) (st':=[⟨0,26,2,[(A9 p0)]⟩,⟨1,30,3,[]⟩,(ro 0 3 1 eI q15.1),⟨0,24,1,[[.zc]]⟩]) Ad SO U U ?_
   refine Af (Wk.A1 (L:=[(1,(.ptr 0 0 0 0)),(9,(.ptr 3 0 0 0)),(55,(ls eI q15.1)),(56,(.bool q15.2))]) (st':=[⟨0,26,2,[(A9 p0)]⟩,⟨1,30,3,[]⟩,⟨1,3,1,[]⟩,⟨0,24,1,[[.zc]]⟩]) (id:=2) rfl (show 0≤2 by decide) (AB fun _=>U) ⟨.rfl,.rfl,(.A1 U),.rfl,trivial⟩ U) ?_
   refine Bl (st':=[⟨0,26,2,[(A9 p0)]⟩,⟨1,30,3,[]⟩,⟨1,3,1,[]⟩,⟨0,24,1,[[(ls eI q15.1)]]⟩]) Ad Jz U U U U U U (show 0+1≤1 by decide) rfl ?_
   refine zq tb U ?_
   refine dn hK14 U ?_
   refine AN fun K16 hK16=>?_
   refine AN fun K17 hK17=>?_
   obtain⟨o19,h1,h0⟩:=Sh.bind_some h0
   have M19 :∀(t18:Bool),o19=t18→∀s,Wk 0 s ⟨66,AM [(9,(.ptr 0 0 0 0)),(64,(.bool t18))],[⟨0,24,1,[[(ls eI q15.1)]]⟩]⟩→K17 s:=by
    intro t18 hq s hw
    subst o19
    try dsimp only at h0
    refine hK17 _ (AS hw ?_)
    refine ci h0 U ?_ ?_ <;> clear h0
    ·intro b20 h0
     refine zr tb U U ?_
     replace h0:=Sh.AL h0
     subst r
     exact AZ (Exists.intro ⟨66,AM [(2,(.sl (List.map eI []))),(3,(.bool false))],[]⟩ (And.intro (by refine Wk.trans (AK (L:=[(2,.zc),(3,(.bool false))]) (st':=[]) (st1:=[]) [] U .nil (by decide) rfl U .nil ⟨.rfl,.rfl,trivial⟩) ?_;exact AF (L:=[(2,(.sl (List.map eI []))),(3,(.bool false))]) ⟨.zc,.rfl,trivial⟩) (And.intro U U)))
    ·intro b20 h0
     refine AU (hK16 _ ?_)
     refine zr tb U U ?_
     replace h0:=Sh.AL h0
     subst r
     exact AZ (xr (BL [(2,(ls eI q15.1)),(3,(.bool true))] U))
   refine AR (by rfl) ?_
   refine zm tb 3 U ?_
   rcases Sh.An h1 with ⟨b23,h1⟩ | ⟨b23,h1⟩
   ·refine zs b23 U ?_
    iterate 3 refine zs b23 rfl ?_
    refine zt b23 U ?_
    exact AE (M19 true (Sh.AL h1).symm _ (AK (L:=[(9,(.ptr 0 0 0 0)),(64,(.bool true))]) (st':=[⟨0,24,1,[[(ls eI q15.1)]]⟩]) (st1:=[⟨0,24,1,[[(ls eI q15.1)]]⟩]) [3] U .nil (by decide) rfl U (.raw U U .nil) ⟨.rfl,.rfl,trivial⟩))
   ·refine zg tb b23 U ?_
    refine zg tb b23 U ?_
    refine CW (v:=(.fn 20 [(.ptr 3 0 0 0)])) (CS U U b23) rfl (SD U) ?_
    obtain⟨q24,gq24,h1⟩:=Sh.bind_some h1
    refine Ac (rowsP:=[⟨0,24,1,[[(ls eI q15.1)]]⟩]) (rows0:=[⟨0,24,1,[[(ls eI q15.1)]]⟩]) (rows1:=[⟨0,24,1,[[(ls eI q15.1)]]⟩]) (rows2:=[]) (rows1':=[⟨0,24,1,[[(ls eI q15.1)]]⟩]) (rows2':=[]) (st':=[⟨0,26,2,[(A9 p0)]⟩,⟨1,30,3,[]⟩,⟨1,3,1,[]⟩,⟨0,24,1,[[(ls eI q15.1)]]⟩]) (v':=(.bool q24)) [3] (CS U U b23) S6 (E4 gq24) rfl (by decide) rfl U (.raw U U .nil) rfl U (.raw U U .nil) .nil U U ?_
    refine zf b23 U ?_
    exact AE (M19 q24 (Sh.AL h1).symm _ (AK (L:=[(9,(.ptr 0 0 0 0)),(64,(.bool q24))]) (st':=[⟨0,24,1,[[(ls eI q15.1)]]⟩]) (st1:=[⟨0,24,1,[[(ls eI q15.1)]]⟩]) [3] U .nil (by decide) rfl U (.raw U U .nil) ⟨.rfl,.rfl,trivial⟩))
  refine AY (Ar (σ:=Int×(List Cell)) (fun n v=>BU p0 n v.1 v.2=some o13) (fun (t10,l11)=>⟨66,AM [(1,(.ptr 0 0 0 0)),(4,(ow 1 0 l11)),(25,(ls eI p0.pending)),(26,(i64 (Sh.len p0.pending))),(27,(i64 t10))],[⟨0,26,2,[(A9 p0)]⟩,(ro 0 30 3 AA l11)]⟩) N (0,q3) h1 (AP U) (fun _ hv=>by rw[BU] at hv;cases hv) ?_)
  rintro n ⟨t10,l11⟩ h1
  try dsimp only at h1 ⊢
  rw[BU] at h1
  refine zr tb U U ?_
  refine AN fun K26 hK26=>?_
  refine ci h1 U ?_ ?_ <;> clear h1
  ·intro b27 h1
   refine AU (hK26 _ ?_)
   refine AN fun K28 hK28=>?_
   refine AY ?_
   refine sr U fun K29 hK29=>?_
   obtain⟨c30,gc30,h1⟩:=Sh.bind_some h1
   refine zx Aw gc30 U U U ?_
   refine zm tb 2 U ?_
   refine dn hK29 U ?_
   refine AN fun K31 hK31=>?_
   refine AN fun K32 hK32=>?_
   obtain⟨o34,h2,h1⟩:=Sh.bind_some h1
   have M34 :∀(t33:Bool),o34=t33→∀s,Wk 0 s ⟨66,AM [(1,(.ptr 0 0 0 0)),(4,(ow 1 0 l11)),(8,(i64 c30)),(25,(ls eI p0.pending)),(26,(i64 (Sh.len p0.pending))),(27,(i64 t10)),(46,(.bool t33))],[⟨0,26,2,[(A9 p0)]⟩,(ro 0 30 3 AA l11)]⟩→K32 s:=by
    intro t33 hq s hw
    subst o34
    try dsimp only at h1
    refine hK32 _ (AS hw ?_)
    refine ci h1 U ?_ ?_ <;> clear h1
    ·intro b35 h1
     refine zr tb U U ?_
     replace h1:=Sh.AL h1
     subst o13
     try dsimp only[id] at h0
     replace h0:=Sh.AL h0
     subst r
     exact AZ (Exists.intro ⟨66,AM [(2,(.sl (List.map eI []))),(3,(.bool false))],[]⟩ (And.intro (by refine Wk.trans (AK (L:=[(2,.zc),(3,(.bool false))]) (st':=[]) (st1:=[]) [] U .nil (by decide) rfl U .nil ⟨.rfl,.rfl,trivial⟩) ?_;exact AF (L:=[(2,(.sl (List.map eI []))),(3,(.bool false))]) ⟨.zc,.rfl,trivial⟩) (And.intro U U)))
    ·intro b35 h1
     refine AU (hK31 _ ?_)
     refine AR (by rfl) ?_
     refine zm tb 2 U ?_
     obtain⟨c37,gc37,h1⟩:=Sh.bind_some h1
     refine zz (.ptr 1 0 (Int.toNat c30) 0) (Ao A6 U U U U gc37) rfl ?_
     refine zq tb U ?_
     refine Dy (st':=[⟨0,26,2,[(A9 p0)]⟩,(ro 0 30 3 AA (Sh.put l11 c30 (Cell.mk 1 c37.tag c37.fields)))]) (u':=(Cell.mk 1 c37.tag c37.fields)) Ad CK U U gc37 U U U (show 0+1≤3 by decide) rfl U ?_
     refine dn hK28 U ?_
     refine AR (by rfl) ?_
     refine zm tb 2 U ?_
     exact AE (xi (Sh.w (t10+1),Sh.put l11 c30 (Cell.mk 1 c37.tag c37.fields)) h1 (AF (L:=[(1,(.ptr 0 0 0 0)),(4,(.own 1 0 (List.length (Sh.put l11 c30 (Cell.mk 1 c37.tag c37.fields))))),(25,(.sl (List.map eI p0.pending))),(26,(i64 (Sh.len p0.pending))),(27,(i64 (Sh.w (t10+1))))]) ⟨.rfl,(.len (by simp only[Sh.CN])),.rfl,.rfl,.rfl,trivial⟩))
   refine AR (by rfl) ?_
   refine zm tb 3 U ?_
   rcases Sh.An h2 with ⟨b38,h2⟩ | ⟨b38,h2⟩
   ·refine zs b38 U ?_
    iterate 3 refine zs b38 rfl ?_
    refine zt b38 U ?_
    refine zq tb U ?_
    iterate 6 refine zs rfl rfl ?_
    refine zt U U ?_
    exact AE (M34 true (Sh.AL h2).symm _ (AP U))
   ·refine zg tb b38 U ?_
    refine zg tb b38 U ?_
    refine CW (v:=(i64 (Sh.len l11))) (CS U U b38) rfl (Bh Eb U U U) ?_
    refine zg tb b38 U ?_
    refine zf b38 U ?_
    refine zq tb U ?_
    rcases Sh.An h2 with ⟨b39,h2⟩ | ⟨b39,h2⟩
    ·refine zs b39 U ?_
     iterate 5 refine zs b39 rfl ?_
     refine zt b39 U ?_
     exact AE (M34 true (Sh.AL h2).symm _ (AP U))
    ·refine zg tb b39 U ?_
     refine zg tb b39 U ?_
     obtain⟨c40,gc40,h2⟩:=Sh.bind_some h2
     refine CW (v:=(.ptr 1 0 (Int.toNat c30) 0)) (CS U U b39) rfl (Ao A6 U U U U gc40) ?_
     refine zg tb b39 U ?_
     refine CW (v:=(i64 c40.count)) (CS U U b39) rfl (Au CK U U (Am gc40) rfl) ?_
     refine zg tb b39 U ?_
     refine zf b39 U ?_
     exact AE (M34 (!decide (c40.count=0)) (Sh.AL h2).symm _ (AP U))
  ·intro b27 h1
   exact Av (M13 l11 (Sh.AL h1).symm _ (AP U))
 refine AY (Ar (σ:=Int) (fun n v=>BS q3 n v=some o7) (fun t6=>⟨66,AM [(1,(.ptr 0 0 0 0)),(4,(ow 1 0 q3)),(14,(ow 1 0 q3)),(15,(i64 (Sh.len q3))),(16,(i64 t6))],[⟨0,26,2,[(A9 p0)]⟩,(ro 0 30 3 AA q3)]⟩) N 0 h1 (AP U) (fun _ hv=>by rw[BS] at hv;cases hv) ?_)
 rintro n t6 h1
 try dsimp only at h1 ⊢
 rw[BS] at h1
 refine zr tb U U ?_
 refine AN fun K42 hK42=>?_
 refine ci h1 U ?_ ?_ <;> clear h1
 ·intro b43 h1
  refine AU (hK42 _ ?_)
  refine AN fun K44 hK44=>?_
  refine AY ?_
  refine sr U fun K45 hK45=>?_
  obtain⟨c46,gc46,h1⟩:=Sh.bind_some h1
  refine zz (.ptr 1 0 (Int.toNat t6) 0) (Ao A6 U U U U gc46) rfl ?_
  refine zz (.agg (AA c46)) (EC I9 U U (Am gc46) (show 0+3≤3 by decide) rfl) rfl ?_
  refine A8 (m:=2) (st':=[⟨0,26,2,[(A9 p0)]⟩,(ro 0 30 3 AA q3),⟨0,30,3,[[(i64 0),(i64 0),.zc]]⟩]) Ad HY U U ?_
  refine Bl (st':=[⟨0,26,2,[(A9 p0)]⟩,(ro 0 30 3 AA q3),⟨0,30,3,[(AA c46)]⟩]) Ad I9 U U U U U U (show 0+3≤3 by decide) rfl ?_
  refine dn hK45 U ?_
  refine zr tb U U ?_
  refine ci h1 U ?_ ?_ <;> clear h1
  ·intro b48 h1
   refine zr tb U U ?_
   replace h1:=Sh.AL h1
   subst o7
   try dsimp only[id] at h0
   replace h0:=Sh.AL h0
   subst r
   exact AZ (Exists.intro ⟨66,AM [(2,(.sl (List.map eI []))),(3,(.bool false))],[]⟩ (And.intro (by refine Wk.trans (AK (L:=[(2,.zc),(3,(.bool false))]) (st':=[]) (st1:=[]) [] U .nil (by decide) rfl U .nil ⟨.rfl,.rfl,trivial⟩) ?_;exact AF (L:=[(2,(.sl (List.map eI []))),(3,(.bool false))]) ⟨.zc,.rfl,trivial⟩) (And.intro U U)))
  ·intro b48 h1
   refine AU (hK44 _ ?_)
   refine AR (by rfl) ?_
   refine zm tb 2 U ?_
   exact AE (xi (Sh.w (t6+1)) h1 (AK (L:=[(1,(.ptr 0 0 0 0)),(4,(ow 1 0 q3)),(14,(ow 1 0 q3)),(15,(i64 (Sh.len q3))),(16,(i64 (Sh.w (t6+1))))]) (st':=[⟨0,26,2,[(A9 p0)]⟩,(ro 0 30 3 AA q3)]) (st1:=[⟨0,26,2,[(A9 p0)]⟩,(ro 0 30 3 AA q3)]) [0,1] U .nil (by decide) rfl U (.raw U U (.pure (AB fun _=>U) .nil)) ⟨.rfl,.rfl,.rfl,.rfl,.rfl,trivial⟩))
 ·intro b43 h1
  exact Av (M7 () (Sh.AL h1).symm _ (AP U))
theorem Fu {N:Nat} {p0:BJ} {r:Bool} (h0:DK N p0=some r):Ag Try.prog 6 [(.agg (A9 p0))] [] (fun v st=>v=(.bool r)∧st=[]):=by
 unfold DK at h0
 refine ai Try.func6 U U U U ?_
 refine sr U fun K1 hK1=>?_
 refine Dc (m:=0) (st':=[⟨0,26,2,[(A9 p0)]⟩]) Ad U U U U U ?_
 refine zq tb U ?_
 refine dn hK1 U ?_
 refine sr U fun K2 hK2=>?_
 refine zq tb U ?_
 obtain⟨q3,gq3,h0⟩:=Sh.bind_some h0
 refine zc (v':=(.BD [(ls eI q3.1),(.bool q3.2)])) SP (HU gq3) rfl U U ?_
 refine zm tb 5 U ?_
 refine dn hK2 U ?_
 refine zr tb U U ?_
 replace h0:=Sh.AL h0
 subst r
 exact AZ (xr (BL [(2,(.bool q3.2))] U))
theorem Fv {N:Nat} {p0:BJ} {r:Bool} (h0:Cw N p0=some r):Ag Try.prog 7 [(.agg (A9 p0))] [] (fun v st=>v=(.bool r)∧st=[]):=by
 unfold Cw at h0
 refine ai Try.func7 U U U U ?_
 refine sr U fun K1 hK1=>?_
 refine Dc (m:=0) (st':=[⟨0,26,2,[(A9 p0)]⟩]) Ad U U U U U ?_
 refine zq tb U ?_
 refine dn hK1 U ?_
 refine sr U fun K2 hK2=>?_
 refine zq tb U ?_
 obtain⟨q3,gq3,h0⟩:=Sh.bind_some h0
 refine zc Rm (Fq gq3) rfl U U ?_
 refine zq tb U ?_
 refine dn hK2 U ?_
 replace h0:=Sh.AL h0
 subst r
 exact AZ (xr (BL [(2,(.bool q3))] U))
theorem Ia {N:Nat} {p0:(List Cell)} {r:Bool} (h0:Ct N p0=some r):Ag Try.prog 8 [(ls AA p0)] [] (fun v st=>v=(.bool r)∧st=[]):=by
 unfold Ct at h0
 refine ai Try.func8 U U U U ?_
 refine zr tb U U ?_
 refine sr U fun K2 hK2=>?_
 refine zq tb U ?_
 obtain⟨q3,gq3,h0⟩:=Sh.bind_some h0
 refine BF (v':=(.BD [(ow 0 0 q3.1),(.bool q3.2)])) (st':=[(ro 0 3 1 eI q3.1)]) Ad Re (FI gq3) rfl U ⟨(A7 fun _=>U),trivial⟩ U U ?_
 refine zm tb 5 U ?_
 refine dn hK2 U ?_
 refine zr tb U U ?_
 replace h0:=Sh.AL h0
 subst r
 exact AZ (xr (BL [(2,(.bool q3.2))] U))
theorem Hn {N:Nat} {p0:(List Int)} {r:Bool} (h0:Dv N p0=some r):Ag Try.prog 3 [(ls AI p0)] [] (fun v st=>v=(.bool r)∧st=[]):=by
 unfold Dv at h0
 refine ai Try.func3 U U U U ?_
 refine zr tb U U ?_
 refine AN fun K2 hK2=>?_
 refine sr U fun K3 hK3=>?_
 refine zq tb U ?_
 refine zl tb U U ?_
 refine zq tb U ?_
 refine dn hK3 U ?_
 refine ci h0 U ?_ ?_ <;> clear h0
 ·intro b4 h0
  refine zr tb U U ?_
  replace h0:=Sh.AL h0
  subst r
  exact AZ (xr (AF (L:=[(2,(.bool true))]) ⟨.rfl,trivial⟩))
 ·intro b4 h0
  refine AU (hK2 _ ?_)
  refine sr U fun K6 hK6=>?_
  refine zq tb U ?_
  obtain⟨q7,gq7,h0⟩:=Sh.bind_some h0
  refine zc (v':=(.agg (A9 q7))) TF (Gt gq7) rfl U U ?_
  refine A8 (m:=0) (st':=[⟨0,26,2,[[.zc,.zc]]⟩]) Ad Cx U U ?_
  refine Bl (st':=[⟨0,26,2,[(A9 q7)]⟩]) Ad DR U U U U U U (show 0+2≤2 by decide) rfl ?_
  refine dn hK6 U ?_
  refine sr U fun K8 hK8=>?_
  refine zq tb U ?_
  obtain⟨q9,gq9,h0⟩:=Sh.bind_some h0
  refine zc Sq (Fu gq9) rfl U U ?_
  refine zq tb U ?_
  refine dn hK8 U ?_
  refine AN fun K10 hK10=>?_
  refine sr U fun K11 hK11=>?_
  refine zm tb 2 U ?_
  obtain⟨q12,gq12,h0⟩:=Sh.bind_some h0
  refine zc SW (Fv gq12) rfl U U ?_
  refine zq tb U ?_
  refine dn hK11 U ?_
  refine ci h0 U ?_ ?_ <;> clear h0
  ·intro b13 h0
   refine sr U fun K14 hK14=>?_
   refine zm tb 2 U ?_
   obtain⟨q15,gq15,h0⟩:=Sh.bind_some h0
   refine zc SW (Fv gq15) rfl U U ?_
   refine zm tb 2 U ?_
   refine dn hK14 U ?_
   replace h0:=Sh.AL h0
   subst r
   exact AZ (xr (BL [(2,(.bool (q9 == q15)))] U))
  ·intro b13 h0
   refine AU (hK10 _ ?_)
   refine zr tb U U ?_
   refine AN fun K17 hK17=>?_
   refine zr tb U U ?_
   obtain⟨o22,h1,h0⟩:=Sh.bind_some h0
   have M22 :∀(kept21:Bool),o22=kept21→∀s,Wk 0 s ⟨59,AM [(3,(.ptr 0 0 0 0)),(4,(.bool q9)),(5,(.bool kept21))],[⟨0,26,2,[(A9 q7)]⟩]⟩→K17 s:=by
    intro kept21 hq s hw
    subst o22
    try dsimp only at h0
    refine hK17 _ (AS hw ?_)
    refine AN fun K23 hK23=>?_
    obtain⟨o25,h1,h0⟩:=Sh.bind_some h0
    have M25 :∀(t24:Bool),o25=t24→∀s,Wk 0 s ⟨59,AM [(2,(.bool t24))],[]⟩→K23 s:=by
     intro t24 hq s hw
     subst o25
     try dsimp only at h0
     refine hK23 _ (AS hw ?_)
     replace h0:=Sh.AL h0
     subst r
     exact AZ (xr (AF (L:=[(2,(.bool t24))]) ⟨.rfl,trivial⟩))
    refine F6 (by kernel_rfl) (by kernel_rfl) (by rfl) ?_
    iterate 2 refine yq tb rfl ?_
    refine yz (.agg [(ls AA q7.cells),.zc]) (FE L4 MT Cx U U) rfl ?_
    obtain⟨q26,gq26,h1⟩:=Sh.bind_some h1
    refine I1 (v:=(.bool q26)) Ad Sq (Ag.le (args:=[(.agg [(ls AA q7.cells),.zc])]) (Fu gq26) ⟨(.agg ⟨.rfl,.zc,trivial⟩),trivial⟩) rfl U U ?_
    iterate 2 refine yq tb rfl ?_
    obtain⟨q27,gq27,h1⟩:=Sh.bind_some h1
    refine I1 (v:=(.bool q27)) Ad TG (Ia gq27) rfl U U ?_
    refine yq tb U ?_
    rcases Sh.An h1 with ⟨b28,h1⟩ | ⟨b28,h1⟩
    ·refine yg tb b28 U ?_
     refine yg tb b28 U ?_
     refine yt b28 U ?_
     iterate 2 refine yq tb rfl ?_
     rcases Sh.An h1 with ⟨b29,h1⟩ | ⟨b29,h1⟩
     ·refine yg tb b29 U ?_
      iterate 2 refine yg tb b29 rfl ?_
      rcases Sh.An h1 with ⟨b30,h1⟩ | ⟨b30,h1⟩
      ·refine ys b30 U ?_
       refine ys b30 U ?_
       refine Fk (v:=(.bool true)) (CS U U b29) rfl (Ff U b30 U) ?_
       refine yt b29 U ?_
       refine yq tb U ?_
       exact Ck (M25 true (Sh.AL h1).symm _ (BL _ U))
      ·refine yg tb b30 U ?_
       refine yg tb b30 U ?_
       refine Fk (v:=(.bool (!kept21))) (CS U U b29) rfl (Fg U b30 U) ?_
       refine yt b29 U ?_
       refine yq tb U ?_
       exact Ck (M25 (!kept21) (Sh.AL h1).symm _ (BL _ U))
     ·refine ys b29 U ?_
      iterate 2 refine ys b29 rfl ?_
      iterate 2 refine yn rfl ?_
      refine ys b29 U ?_
      refine yf b29 U ?_
      refine yq tb U ?_
      exact Ck (M25 false (Sh.AL h1).symm _ (BL _ U))
    ·refine ys b28 U ?_
     refine ys b28 U ?_
     refine yf b28 U ?_
     iterate 2 refine yq tb rfl ?_
     rcases Sh.An h1 with ⟨b31,h1⟩ | ⟨b31,h1⟩
     ·refine yg tb b31 U ?_
      iterate 2 refine yg tb b31 rfl ?_
      rcases Sh.An h1 with ⟨b32,h1⟩ | ⟨b32,h1⟩
      ·refine ys b32 U ?_
       refine ys b32 U ?_
       refine Fk (v:=(.bool true)) (CS U U b31) rfl (Ff U b32 U) ?_
       refine yt b31 U ?_
       refine yq tb U ?_
       exact Ck (M25 true (Sh.AL h1).symm _ (BL _ U))
      ·refine yg tb b32 U ?_
       refine yg tb b32 U ?_
       refine Fk (v:=(.bool (!kept21))) (CS U U b31) rfl (Fg U b32 U) ?_
       refine yt b31 U ?_
       refine yq tb U ?_
       exact Ck (M25 (!kept21) (Sh.AL h1).symm _ (BL _ U))
     ·refine ys b31 U ?_
      iterate 2 refine ys b31 rfl ?_
      iterate 2 refine yn rfl ?_
      refine ys b31 U ?_
      refine yf b31 U ?_
      refine yq tb U ?_
      exact Ck (M25 false (Sh.AL h1).symm _ (BL _ U))
   refine AY (Ar (σ:=Bool×Int) (fun n v=>BW q7 n v.1 v.2=some o22) (fun (kept19,i20)=>⟨59,AM [(3,(.ptr 0 0 0 0)),(4,(.bool q9)),(5,(.bool kept19)),(6,(i64 i20))],[⟨0,26,2,[(A9 q7)]⟩]⟩) N (false,0) h1 (AP U) (fun _ hv=>by rw[BW] at hv;cases hv) ?_)
   rintro n ⟨kept19,i20⟩ h1
   try dsimp only at h1 ⊢
   rw[BW] at h1
   refine AN fun K33 hK33=>?_
   refine sr U fun K34 hK34=>?_
   refine zm tb 3 U ?_
   refine zl tb U U ?_
   refine zq tb U ?_
   refine dn hK34 U ?_
   refine ci h1 U ?_ ?_ <;> clear h1
   ·intro b35 h1
    refine AU (hK33 _ ?_)
    refine AN fun K36 hK36=>?_
    obtain⟨o38,h2,h1⟩:=Sh.bind_some h1
    have M38 :∀(kept37:Bool),o38=kept37→∀s,Wk 0 s ⟨59,AM [(3,(.ptr 0 0 0 0)),(4,(.bool q9)),(5,(.bool kept37)),(6,(i64 i20))],[⟨0,26,2,[(A9 q7)]⟩]⟩→K36 s:=by
     intro kept37 hq s hw
     subst o38
     try dsimp only at h1
     refine hK36 _ (AS hw ?_)
     refine AR (by rfl) ?_
     refine zm tb 3 U ?_
     exact AE (xi (kept37,Sh.w (i20+1)) h1 (AP U))
    refine AY ?_
    refine AR (by rfl) ?_
    refine zm tb 2 U ?_
    rcases Sh.An h2 with ⟨b39,h2⟩ | ⟨b39,h2⟩
    ·refine zs b39 U ?_
     iterate 6 refine zs b39 rfl ?_
     refine zt b39 U ?_
     refine zq tb U ?_
     exact AE (M38 true (Sh.AL h2).symm _ (AP U))
    ·refine zg tb b39 U ?_
     iterate 2 refine zg tb b39 rfl ?_
     obtain⟨c40,gc40,h2⟩:=Sh.bind_some h2
     refine CW (v:=(.Bz (AA c40) 0)) (CS U U b39) rfl (ER A6 U U gc40 U) ?_
     iterate 3 refine zg tb b39 rfl ?_
     refine zf b39 U ?_
     refine zq tb U ?_
     exact AE (M38 (decide (c40.count < 0)) (Sh.AL h2).symm _ (AP U))
   ·intro b35 h1
    exact Av (M22 kept19 (Sh.AL h1).symm _ (AP U))
end Go.Proofs.Ythapbpfhdnmboaa

