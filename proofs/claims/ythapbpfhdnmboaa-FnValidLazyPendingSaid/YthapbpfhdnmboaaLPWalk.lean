import Derived.Test.YthapbpfhdnmboaaProg
import Derived.Test.YthapbpfhdnmboaaGHADefsToLPDefs
import Derived.Test.YthapbpfhdnmboaaLPWalkP3
namespace Go.Proofs.Ythapbpfhdnmboaa
open Go Go.Abs RC
attribute [local irreducible] Go.Abs.B6
set_option maxRecDepth 100000
set_option maxHeartbeats 4000000

theorem Sb:Al Try.prog 12=true:=by kernel_rfl
theorem TD:Al Try.prog 14=true:=by kernel_rfl
theorem SX:Al Try.prog 18=true:=by kernel_rfl
theorem TJ:Al Try.prog 19=true:=by kernel_rfl
theorem TG:Al Try.prog 20=true:=by kernel_rfl
theorem S5:Al Try.prog 25=true:=by kernel_rfl
theorem So:Al Try.prog 27=true:=by kernel_rfl
theorem S7:Al Try.prog 31=true:=by kernel_rfl
theorem SV:Al Try.prog 38=true:=by kernel_rfl
theorem TN:Al Try.prog 5=true:=by kernel_rfl
theorem TM:Al Try.prog 6=true:=by kernel_rfl
theorem TA:Al Try.prog 7=true:=by kernel_rfl
theorem TQ:Al Try.prog 9=true:=by kernel_rfl
theorem Sl:Ga Try.prog 24=some [.zc]:=by kernel_rfl

theorem Ii {N:Nat} {p0:(List Cell)} {p1:Cell} {r:Bool} (h0:Dm N p0 p1=some r):Ag Try.prog 25 [(ls AA p0),(.agg (AA p1))] [] (fun v st=>v=(.bool r)∧st=[]):=by
 unfold Dm at h0
 refine ai Try.func25 U U U U ?_
 refine sr U fun K1 hK1=>?_
 refine Df (m:=0) (st':=[⟨0,30,3,[(AA p1)]⟩]) Ae U U U U U ?_
 refine zq tb U ?_
 refine dn hK1 U ?_
 refine AN fun K2 hK2=>?_
 refine AN fun K3 hK3=>?_
 obtain⟨o5,h1,h0⟩:=Sh.bind_some h0
 have M5 :∀(t4:Bool),o5=t4→∀s,Wk 0 s ⟨66,AM [(0,(ls AA p0)),(3,(.ptr 0 0 0 0)),(25,(.bool t4))],[⟨0,30,3,[(AA p1)]⟩]⟩→K3 s:=by
  intro t4 hq s hw
  subst o5
  try dsimp only at h0
  refine hK3 _ (AS hw ?_)
  refine ci h0 U ?_ ?_ <;> clear h0
  ·intro b6 h0
   refine zr tb U U ?_
   replace h0:=Sh.AK h0
   subst r
   exact AZ (xr (Be [(4,(.bool false))] U))
  ·intro b6 h0
   refine AU (hK2 _ ?_)
   refine AN fun K8 hK8=>?_
   refine AN fun K9 hK9=>?_
   obtain⟨o11,h1,h0⟩:=Sh.bind_some h0
   have M11 :∀(t10:Bool),o11=t10→∀s,Wk 0 s ⟨66,AM [(0,(ls AA p0)),(3,(.ptr 0 0 0 0)),(44,(.bool t10))],[⟨0,30,3,[(AA p1)]⟩]⟩→K9 s:=by
    intro t10 hq s hw
    subst o11
    try dsimp only at h0
    refine hK9 _ (AS hw ?_)
    refine ci h0 U ?_ ?_ <;> clear h0
    ·intro b12 h0
     refine zr tb U U ?_
     replace h0:=Sh.AK h0
     subst r
     exact AZ (xr (Be [(4,(.bool false))] U))
    ·intro b12 h0
     refine AU (hK8 _ ?_)
     refine AN fun K14 hK14=>?_
     refine sr U fun K15 hK15=>?_
     refine zm tb 2 U ?_
     refine zl tb U U ?_
     refine zq tb U ?_
     refine dn hK15 U ?_
     obtain⟨o17,h1,h0⟩:=Sh.BP h0
     have M17 :∀(_:Unit),o17=Sum.inr ()→∀s,Wk 0 s ⟨66,AM [],[]⟩→K14 s:=by
      intro _ hq s hw
      subst o17
      try dsimp only at h0
      refine hK14 _ (AS hw ?_)
      refine zr tb U U ?_
      replace h0:=Sh.AK h0
      subst r
      exact AZ (xr (AF (L:=[(4,(.bool true))]) ⟨.rfl,trivial⟩))
     refine AY (Ap (σ:=Int) (fun n v=>Bq p0 p1 n v=some o17) (fun t16=>⟨66,AM [(0,(ls AA p0)),(3,(.ptr 0 0 0 0)),(46,(ls eI p1.fields)),(47,(i64 (Sh.len p1.fields))),(48,(i64 t16))],[⟨0,30,3,[(AA p1)]⟩]⟩) N 0 h1 (AP U) (fun _ hv=>by rw[Bq] at hv;cases hv) ?_)
     rintro n t16 h1
     try dsimp only at h1 ⊢
     rw[Bq] at h1
     refine zr tb U U ?_
     refine AN fun K20 hK20=>?_
     refine ci h1 U ?_ ?_ <;> clear h1
     ·intro b21 h1
      refine AU (hK20 _ ?_)
      refine AN fun K22 hK22=>?_
      refine AY ?_
      refine sr U fun K23 hK23=>?_
      obtain⟨c24,gc24,h1⟩:=Sh.bind_some h1
      refine zx Av gc24 U U U ?_
      refine zm tb 2 U ?_
      refine dn hK23 U ?_
      refine AN fun K25 hK25=>?_
      obtain⟨o27,h2,h1⟩:=Sh.bind_some h1
      have M27 :∀(t26:Bool),o27=t26→∀s,Wk 0 s ⟨66,AM [(0,(ls AA p0)),(3,(.ptr 0 0 0 0)),(46,(ls eI p1.fields)),(47,(i64 (Sh.len p1.fields))),(48,(i64 t16)),(64,(.bool t26))],[⟨0,30,3,[(AA p1)]⟩]⟩→K25 s:=by
       intro t26 hq s hw
       subst o27
       try dsimp only at h1
       refine hK25 _ (AS hw ?_)
       refine ci h1 U ?_ ?_ <;> clear h1
       ·intro b28 h1
        refine zr tb U U ?_
        replace h1:=Sh.AK h1
        subst o17
        try dsimp only[id] at h0
        replace h0:=Sh.AK h0
        subst r
        exact AZ (xr (Be [(4,(.bool false))] U))
       ·intro b28 h1
        refine AU (hK22 _ ?_)
        refine AR (by rfl) ?_
        refine zm tb 2 U ?_
        exact AE (xi (Sh.w (t16+1)) h1 (AP U))
      refine AR (by rfl) ?_
      refine zm tb 2 U ?_
      obtain⟨q30,gq30,h2⟩:=Sh.bind_some h2
      refine zc SV (Ig gq30) rfl U U ?_
      refine zm tb 2 U ?_
      rcases Sh.Ar h2 with ⟨b31,h2⟩ | ⟨b31,h2⟩
      ·refine zs b31 U ?_
       iterate 3 refine zs b31 rfl ?_
       iterate 2 refine zn rfl ?_
       refine zs b31 U ?_
       refine zt b31 U ?_
       exact AE (M27 true (Sh.AK h2).symm _ (AP U))
      ·refine zg tb b31 U ?_
       iterate 3 refine zg tb b31 rfl ?_
       rcases Sh.Ar h2 with ⟨b32,h2⟩ | ⟨b32,h2⟩
       ·refine zg tb b32 U ?_
        refine zg tb b32 U ?_
        refine CY (v:=(.bool (!decide (c24=0)))) (Ce U U b31) rfl (Gx U b32 U) ?_
        refine zf b31 U ?_
        exact AE (M27 (!decide (c24=0)) (Sh.AK h2).symm _ (AP U))
       ·refine zs b32 U ?_
        refine zs b32 U ?_
        refine CY (v:=(.bool false)) (Ce U U b31) rfl (Gs U b32 U) ?_
        refine zf b31 U ?_
        exact AE (M27 false (Sh.AK h2).symm _ (AP U))
     ·intro b21 h1
      exact Au (M17 () (Sh.AK h1).symm _ (Be _ U))
   refine AR (by rfl) ?_
   refine zm tb 4 U ?_
   rcases Sh.Ar h1 with ⟨b33,h1⟩ | ⟨b33,h1⟩
   ·refine zg tb b33 U ?_
    iterate 2 refine zg tb b33 rfl ?_
    refine zt b33 U ?_
    refine zq tb U ?_
    rcases Sh.Ar h1 with ⟨b34,h1⟩ | ⟨b34,h1⟩
    ·refine zs b34 U ?_
     iterate 3 refine zs b34 rfl ?_
     iterate 4 refine zn rfl ?_
     refine zs b34 U ?_
     refine zt b34 U ?_
     exact AE (M11 true (Sh.AK h1).symm _ (AP U))
    ·refine zg tb b34 U ?_
     iterate 3 refine zg tb b34 rfl ?_
     rcases Sh.Ar h1 with ⟨b35,h1⟩ | ⟨b35,h1⟩
     ·refine zg tb b35 U ?_
      refine zg tb b35 U ?_
      refine CY (v:=(i64 (Sh.len p1.fields))) (Ce U U b35) rfl (Ea GH U) ?_
      refine zg tb b35 U ?_
      refine CY (v:=(.bool (decide (0 < (Sh.len p1.fields))))) (Ce U U b34) rfl (Gx U b35 U) ?_
      refine zf b34 U ?_
      exact AE (M11 (decide (0 < (Sh.len p1.fields))) (Sh.AK h1).symm _ (AP U))
     ·refine zs b35 U ?_
      iterate 3 refine zs b35 rfl ?_
      refine CY (v:=(.bool false)) (Ce U U b34) rfl (Gs U b35 U) ?_
      refine zf b34 U ?_
      exact AE (M11 false (Sh.AK h1).symm _ (AP U))
   ·refine zs b33 U ?_
    iterate 2 refine zs b33 rfl ?_
    refine zf b33 U ?_
    refine zq tb U ?_
    iterate 4 refine zg tb rfl rfl ?_
    rcases Sh.Ar h1 with ⟨b36,h1⟩ | ⟨b36,h1⟩
    ·refine zg tb b36 U ?_
     refine zg tb b36 U ?_
     refine CY (v:=(i64 (Sh.len p1.fields))) (Ce U U b36) rfl (Ea GH U) ?_
     refine zg tb b36 U ?_
     refine CY (v:=(.bool (decide (0 < (Sh.len p1.fields))))) (Ce U U U) rfl (Gx U b36 U) ?_
     refine zf U U ?_
     exact AE (M11 (decide (0 < (Sh.len p1.fields))) (Sh.AK h1).symm _ (AP U))
    ·refine zs b36 U ?_
     iterate 3 refine zs b36 rfl ?_
     refine CY (v:=(.bool false)) (Ce U U U) rfl (Gs U b36 U) ?_
     refine zf U U ?_
     exact AE (M11 false (Sh.AK h1).symm _ (AP U))
 refine AR (by rfl) ?_
 refine zm tb 4 U ?_
 rcases Sh.Ar h1 with ⟨b37,h1⟩ | ⟨b37,h1⟩
 ·refine zs b37 U ?_
  iterate 2 refine zs b37 rfl ?_
  refine zt b37 U ?_
  refine zq tb U ?_
  iterate 3 refine zs rfl rfl ?_
  refine zt U U ?_
  refine zq tb U ?_
  iterate 4 refine zs rfl rfl ?_
  refine zt U U ?_
  exact AE (M5 true (Sh.AK h1).symm _ (AP U))
 ·refine zg tb b37 U ?_
  iterate 2 refine zg tb b37 rfl ?_
  refine zf b37 U ?_
  refine zq tb U ?_
  rcases Sh.Ar h1 with ⟨b38,h1⟩ | ⟨b38,h1⟩
  ·refine zs b38 U ?_
   iterate 2 refine zs b38 rfl ?_
   refine zt b38 U ?_
   refine zq tb U ?_
   iterate 4 refine zs rfl rfl ?_
   refine zt U U ?_
   exact AE (M5 true (Sh.AK h1).symm _ (AP U))
  ·refine zg tb b38 U ?_
   iterate 2 refine zg tb b38 rfl ?_
   refine zf b38 U ?_
   refine zq tb U ?_
   rcases Sh.Ar h1 with ⟨b39,h1⟩ | ⟨b39,h1⟩
   ·refine zs b39 U ?_
    iterate 3 refine zs b39 rfl ?_
    refine zt b39 U ?_
    exact AE (M5 true (Sh.AK h1).symm _ (AP U))
   ·refine zg tb b39 U ?_
    refine zg tb b39 U ?_
    refine CY (v:=(i64 (Sh.len p1.fields))) (Ce U U b39) rfl (Ea GH U) ?_
    refine zg tb b39 U ?_
    refine zf b39 U ?_
    exact AE (M5 (decide (3 < (Sh.len p1.fields))) (Sh.AK h1).symm _ (AP U))
theorem GY {p0:(List Int)} {r:(List Int)} (h0:B2 p0=some r):Ag Try.prog 27 [(ls eI p0)] [] (fun v st=>v=(ow 0 0 r)∧st=[(ro 0 3 1 eI r)]):=by
 unfold B2 at h0
 refine ai Try.func27 U U U U ?_
 refine zr tb U U ?_
 refine AN fun K2 hK2=>?_
 refine sr U fun K3 hK3=>?_
 refine zq tb U ?_
 refine O9 Ae GH U (fun hn=>?_) ?_
 ·subst hn
  replace h0:some []=some r:=by rw[← h0];first | rfl | simp[Sh.app]
  refine dn hK3 U ?_
  refine FP (b:=true) rfl (fun _=>?_) (fun q=>nomatch (show true=false from (U:true=true).symm.trans q))
  refine zr tb U U ?_
  replace h0:=Sh.AK h0
  subst r
  exact AZ (Exists.intro _ (And.intro (((Ct (t:=2) rfl 3 (size:=1) (by decide)).trans (AF (L:=[(2,(.own 0 0 (List.length ([]:List Int))))]) ⟨.rfl,trivial⟩)).trans (AF (L:=[(2,(.own 0 0 (List.length ([]:List Int))))]) ⟨.rfl,trivial⟩)) (And.intro U U)))
 ·refine dn hK3 U ?_
  refine FP (b:=false) rfl (fun q=>nomatch (show false=true from (U:false=false).symm.trans q)) (fun _=>?_)
  refine AU (hK2 _ ?_)
  refine sr U fun K5 hK5=>?_
  refine Bc (m:=0) (st':=[(ro 0 3 1 eI ([]:List Int))]) (l:=([]:List Int)) (enc:=eI) Ae Av (by decide) rfl U U U U U ?_
  refine zq tb U ?_
  obtain⟨l6,gl6,h0⟩:=Sh.bind_some h0
  refine EP (st':=[(ro 1 3 1 eI l6)]) (l2:=p0) Ae Av U U U U MF (fun _=>U) gl6 U ?_
  refine zq tb U ?_
  refine dn hK5 U ?_
  replace h0:=Sh.AK h0
  subst r
  exact AZ (xr (Fy (L:=[(2,(ow 0 0 l6))]) (st':=[(ro 0 3 1 eI l6)]) (.pure (AB fun _=>U) .nil) ⟨.rfl,trivial⟩))
theorem Hn {N:Nat} {p0:(List Cell)} {r:(List Int)×Bool} (h0:CK N p0=some r):Ag Try.prog 14 [(ls AA p0)] [] (fun v st=>v=(.BI [(ow 0 0 r.1),(.bool r.2)])∧st=[(ro 0 3 1 eI r.1)]):=by
 unfold CK at h0
 refine ai Try.func14 U U U U ?_
 refine zr tb U U ?_
 refine sr U fun K2 hK2=>?_
 refine zq tb U ?_
 refine zl tb U U ?_
 obtain⟨l3,gl3,h0⟩:=Sh.bind_some h0
 refine Iw (m:=0) (st':=[(ro 0 3 1 eI l3)]) (enc:=eI) (u:=0) Ae Av U U U gl3 U U ?_
 refine zq tb U ?_
 refine dn hK2 U ?_
 refine AN fun K4 hK4=>?_
 refine sr U fun K5 hK5=>?_
 refine zq tb U ?_
 refine zl tb U U ?_
 refine zq tb U ?_
 refine dn hK5 U ?_
 obtain⟨o9,h1,h0⟩:=Sh.BP h0
 have M9 :∀(l8:(List Int)),o9=Sum.inr l8→∀s,Wk 0 s ⟨159,AM [(0,(ls AA p0)),(4,(ow 0 0 l8))],[(ro 0 3 1 eI l8)]⟩→K4 s:=by
  intro l8 hq s hw
  subst o9
  try dsimp only at h0
  refine hK4 _ (AS hw ?_)
  refine AN fun K10 hK10=>?_
  refine AN fun K11 hK11=>?_
  obtain⟨o13,h1,h0⟩:=Sh.bind_some h0
  have M13 :∀(t12:Bool),o13=t12→∀s,Wk 0 s ⟨159,AM [(0,(ls AA p0)),(4,(ow 0 0 l8)),(68,(.bool t12))],[(ro 0 3 1 eI l8)]⟩→K11 s:=by
   intro t12 hq s hw
   subst o13
   try dsimp only at h0
   refine hK11 _ (AS hw ?_)
   refine ci h0 U ?_ ?_ <;> clear h0
   ·intro b14 h0
    refine zr tb U U ?_
    replace h0:=Sh.AK h0
    subst r
    exact AZ (Exists.intro _ (And.intro ((((Ct (t:=2) rfl 3 (size:=1) (by decide)).trans (AF (L:=[(2,(.own 1 0 (List.length ([]:List Int)))),(3,(.bool false))]) ⟨.rfl,.rfl,trivial⟩)).trans (AL (L:=[(2,(.own 0 0 (List.length ([]:List Int)))),(3,(.bool false))]) (st':=[(ro 0 3 1 eI ([]:List Int))]) (st1:=[(ro 0 3 1 eI ([]:List Int))]) [1] U .nil (by decide) rfl U (.pure (AB fun _=>U) .nil) ⟨.rfl,.rfl,trivial⟩)).trans (AF (L:=[(2,(.own 0 0 (List.length ([]:List Int)))),(3,(.bool false))]) ⟨.rfl,.rfl,trivial⟩)) (And.intro U U)))
   ·intro b14 h0
    refine AU (hK10 _ ?_)
    refine sr U fun K16 hK16=>?_
    refine zq tb U ?_
    obtain⟨q17,gq17,h0⟩:=Sh.bind_some h0
    refine DJ (v':=(ow 1 0 q17)) (st':=[(ro 0 3 1 eI l8),(ro 0 3 1 eI q17)]) Ae So (GY gq17) rfl (.own U U (fun _=>U) .nil) rfl (PQ (fun _=>U) trivial) rfl U ?_
    refine zq tb U ?_
    refine dn hK16 U ?_
    iterate 2 refine zr tb rfl rfl ?_
    refine AN fun K20 hK20=>?_
    refine sr U fun K21 hK21=>?_
    refine zq tb U ?_
    refine zl tb U U ?_
    refine zq tb U ?_
    refine dn hK21 U ?_
    obtain⟨o25,h1,h0⟩:=Sh.BP h0
    have M25 :∀(l24:(List Int)),o25=Sum.inr l24→∀s,Wk 0 s ⟨159,AM [(0,(ls AA p0)),(4,(ow 0 0 l8)),(11,(ow 1 0 q17)),(12,(ow 2 0 l24)),(13,(i64 0))],[(ro 0 3 1 eI l8),(ro 0 3 1 eI q17),(ro 0 3 1 eI l24)]⟩→K20 s:=by
     intro l24 hq s hw
     subst o25
     try dsimp only at h0
     refine hK20 _ (AS hw ?_)
     refine AN fun K26 hK26=>?_
     obtain⟨o31,h1,h0⟩:=Sh.bind_some h0
     have M31 :∀(many30:Int),o31=many30→∀s,Wk 0 s ⟨159,AM [(0,(ls AA p0)),(4,(ow 0 0 l8)),(13,(i64 many30))],[(ro 0 3 1 eI l8)]⟩→K26 s:=by
      intro many30 hq s hw
      subst o31
      try dsimp only at h0
      refine hK26 _ (AS hw ?_)
      refine sr U fun K32 hK32=>?_
      refine zm tb 3 U ?_
      refine zl tb U U ?_
      refine zm tb 3 U ?_
      refine dn hK32 U ?_
      replace h0:=Sh.AK h0
      subst r
      exact AZ (xr (AF (L:=[(2,(ow 0 0 l8)),(3,(.bool (decide (many30=(Sh.len p0)))))]) ⟨.rfl,.rfl,trivial⟩))
     refine AY (Ap (σ:=Int×(List Int)×(List Int)) (fun n v=>BY N p0 n v.1 v.2.1 v.2.2=some o31) (fun (many27,l28,l29)=>⟨159,AM [(0,(ls AA p0)),(4,(ow 0 0 l8)),(11,(ow 1 0 l28)),(12,(ow 2 0 l29)),(13,(i64 many27))],[(ro 0 3 1 eI l8),(ro 0 3 1 eI l28),(ro 0 3 1 eI l29)]⟩) N (0,q17,l24) h1 (AP U) (fun _ hv=>by rw[BY] at hv;cases hv) ?_)
     rintro n ⟨many27,l28,l29⟩ h1
     try dsimp only at h1 ⊢
     rw[BY] at h1
     refine AN fun K33 hK33=>?_
     refine sr U fun K34 hK34=>?_
     refine zq tb U ?_
     refine zz (i64 (Sh.len l29)) (Bj GH U U U) rfl ?_
     refine zq tb U ?_
     refine dn hK34 U ?_
     refine ci h1 U ?_ ?_ <;> clear h1
     ·intro b35 h1
      refine AU (hK33 _ ?_)
      refine AN fun K36 hK36=>?_
      refine AY ?_
      refine sr U fun K37 hK37=>?_
      refine zm tb 3 U ?_
      refine zz (i64 (Sh.len l29)) (Bj GH U U U) rfl ?_
      refine zq tb U ?_
      obtain⟨c38,gc38,h1⟩:=Sh.bind_some h1
      refine zz (.ptr 2 0 (Int.toNat (Sh.w ((Sh.len l29) - 1))) 0) (An Av U U U U gc38) rfl ?_
      refine zz (i64 c38) (Aw CM U U (Am gc38) rfl) rfl ?_
      obtain⟨c39,gc39,h1⟩:=Sh.bind_some h1
      refine zx A3 gc39 U U U ?_
      refine zq tb U ?_
      refine BF (m:=3) (st':=[(ro 0 3 1 eI l8),(ro 0 3 1 eI l28),(ro 0 3 1 eI l29),⟨0,30,3,[[(i64 0),(i64 0),.zc]]⟩]) Ae Hu U U ?_
      refine Bt (st':=[(ro 0 3 1 eI l8),(ro 0 3 1 eI l28),(ro 0 3 1 eI l29),⟨0,30,3,[(AA c39)]⟩]) Ae I6 U U U U U U (show 0+3≤3 by decide) rfl ?_
      refine dn hK37 U ?_
      refine sr U fun K40 hK40=>?_
      refine zm tb 2 U ?_
      refine zz (i64 (Sh.len l29)) (Bj GH U U U) rfl ?_
      refine zq tb U ?_
      obtain⟨l41,gl41,h1⟩:=Sh.bind_some h1
      refine KC (st':=[(ro 0 3 1 eI l8),(ro 0 3 1 eI l28),(ro 1 3 1 eI l41),⟨0,30,3,[(AA c39)]⟩]) Ae Av U U U U gl41 U ?_
      refine zq tb U ?_
      refine dn hK40 U ?_
      refine sr U fun K42 hK42=>?_
      refine zm tb 2 U ?_
      refine zl tb U U ?_
      refine zq tb U ?_
      refine dn hK42 U ?_
      obtain⟨o48,h2,h1⟩:=Sh.bind_some h1
      have M48 :∀(l46:(List Int)) (l47:(List Int)),o48=(l46,l47)→∀s,Wk 0 s ⟨159,AM [(0,(ls AA p0)),(4,(ow 0 0 l8)),(11,(ow 1 0 l46)),(12,(ow 2 0 l47)),(13,(i64 many27))],[(ro 0 3 1 eI l8),(ro 0 3 1 eI l46),(ro 0 3 1 eI l47)]⟩→K36 s:=by
       intro l46 l47 hq s hw
       subst o48
       try dsimp only at h1
       refine hK36 _ (AS hw ?_)
       refine AR (by rfl) ?_
       refine zm tb 3 U ?_
       exact AE (xi (Sh.w (many27+1),l46,l47) h1 (AP U))
      refine AY (Ap (σ:=Int×(List Int)×(List Int)) (fun n v=>BT c39 p0 n v.1 v.2.1 v.2.2=some o48) (fun (t43,l44,l45)=>⟨159,AM [(0,(ls AA p0)),(4,(ow 0 0 l8)),(11,(ow 1 0 l44)),(12,(ow 2 0 l45)),(13,(i64 many27)),(125,(ls eI c39.fields)),(126,(i64 (Sh.len c39.fields))),(127,(i64 t43))],[(ro 0 3 1 eI l8),(ro 0 3 1 eI l44),(ro 0 3 1 eI l45)]⟩) N (0,l28,l41) h2 (by refine Wk.trans (Fy (L:=[(0,(ls AA p0)),(4,(ow 0 0 l8)),(11,(ow 1 0 l28)),(12,(ow 2 0 l41)),(13,(i64 many27)),(125,(ls eI c39.fields)),(126,(i64 (Sh.len c39.fields))),(127,(i64 0))]) (st':=[(ro 0 3 1 eI l8),(ro 0 3 1 eI l28),(ro 0 3 1 eI l41),⟨0,30,3,[(AA c39)]⟩]) (.pure (AB fun _=>U) (.pure (AB fun _=>U) (.pure (AB fun _=>U) (.raw U U .nil)))) ⟨.rfl,.rfl,.rfl,.rfl,.rfl,.rfl,.rfl,.rfl,trivial⟩) ?_;exact AL (L:=[(0,(ls AA p0)),(4,(ow 0 0 l8)),(11,(ow 1 0 l28)),(12,(ow 2 0 l41)),(13,(i64 many27)),(125,(ls eI c39.fields)),(126,(i64 (Sh.len c39.fields))),(127,(i64 0))]) (st':=[(ro 0 3 1 eI l8),(ro 0 3 1 eI l28),(ro 0 3 1 eI l41)]) (st1:=[(ro 0 3 1 eI l8),(ro 0 3 1 eI l28),(ro 0 3 1 eI l41)]) [0,1,2] U .nil (by decide) rfl U (.pure (AB fun _=>U) (.pure (AB fun _=>U) (.pure (AB fun _=>U) .nil))) ⟨.rfl,.rfl,.rfl,.rfl,.rfl,.rfl,.rfl,.rfl,trivial⟩) (fun _ hv=>by rw[BT] at hv;cases hv) ?_)
      rintro n ⟨t43,l44,l45⟩ h2
      try dsimp only at h2 ⊢
      rw[BT] at h2
      refine zr tb U U ?_
      refine AN fun K50 hK50=>?_
      refine ci h2 U ?_ ?_ <;> clear h2
      ·intro b51 h2
       refine AU (hK50 _ ?_)
       refine AN fun K52 hK52=>?_
       obtain⟨o55,h3,h2⟩:=Sh.bind_some h2
       have M55 :∀(l53:(List Int)) (l54:(List Int)),o55=(l53,l54)→∀s,Wk 0 s ⟨159,AM [(0,(ls AA p0)),(4,(ow 0 0 l8)),(11,(ow 1 0 l53)),(12,(ow 2 0 l54)),(13,(i64 many27)),(125,(ls eI c39.fields)),(126,(i64 (Sh.len c39.fields))),(127,(i64 t43))],[(ro 0 3 1 eI l8),(ro 0 3 1 eI l53),(ro 0 3 1 eI l54)]⟩→K52 s:=by
        intro l53 l54 hq s hw
        subst o55
        try dsimp only at h2
        refine hK52 _ (AS hw ?_)
        refine AR (by rfl) ?_
        refine zm tb 2 U ?_
        exact AE (xi (Sh.w (t43+1),l53,l54) h2 (AP U))
       refine AY ?_
       refine sr U fun K56 hK56=>?_
       obtain⟨c57,gc57,h3⟩:=Sh.bind_some h3
       refine zx Av gc57 U U U ?_
       refine zm tb 2 U ?_
       refine dn hK56 U ?_
       refine sr U fun K58 hK58=>?_
       refine zm tb 2 U ?_
       obtain⟨q59,gq59,h3⟩:=Sh.bind_some h3
       refine zc (v':=(.BI [(i64 q59.1),(.bool q59.2)])) Qz (FX gq59) rfl U U ?_
       refine zm tb 5 U ?_
       refine dn hK58 U ?_
       refine zr tb U U ?_
       refine ci h3 U ?_ ?_ <;> clear h3
       ·intro b61 h3
        refine sr U fun K62 hK62=>?_
        refine zm tb 2 U ?_
        obtain⟨c63,gc63,h3⟩:=Sh.bind_some h3
        refine zz (.ptr 1 0 (Int.toNat q59.1) 0) (An Av U U U U gc63) rfl ?_
        refine zz (i64 c63) (Aw CM U U (Am gc63) rfl) rfl ?_
        refine zq tb U ?_
        refine zz (.ptr 1 0 (Int.toNat q59.1) 0) (An Av U U U U gc63) rfl ?_
        refine Dy (st':=[(ro 0 3 1 eI l8),(ro 0 3 1 eI (Sh.put l44 q59.1 (Sh.w (c63 - 1)))),(ro 0 3 1 eI l45)]) (u':=Sh.w (c63 - 1)) Ae CM U U gc63 U U U (show 0+1≤1 by decide) rfl U ?_
        refine dn hK62 U ?_
        refine sr U fun K64 hK64=>?_
        refine zm tb 2 U ?_
        obtain⟨c65,gc65,h3⟩:=Sh.bind_some h3
        refine zz (.ptr 1 0 (Int.toNat q59.1) 0) (An Av U U U (by simp only[Sh.CO]) gc65) rfl ?_
        refine zz (i64 c65) (Aw CM U U (Am gc65) rfl) rfl ?_
        refine zq tb U ?_
        refine dn hK64 U ?_
        refine ci h3 U ?_ ?_ <;> clear h3
        ·intro b66 h3
         refine AR (by rfl) ?_
         refine zm tb 2 U ?_
         refine Bc (m:=3) (st':=[(ro 0 3 1 eI l8),(ro 0 3 1 eI (Sh.put l44 q59.1 (Sh.w (c63 - 1)))),(ro 0 3 1 eI l45),(ro 0 3 1 eI [q59.1])]) (l:=[q59.1]) (enc:=eI) Ae Av (by decide) rfl U U U U U ?_
         obtain⟨l67,gl67,h3⟩:=Sh.bind_some h3
         refine EP (st':=[(ro 0 3 1 eI l8),(ro 0 3 1 eI (Sh.put l44 q59.1 (Sh.w (c63 - 1)))),(ro 1 3 1 eI l67),(ro 0 3 1 eI [q59.1])]) (l2:=[q59.1]) Ae Av U U U U (LN U U) (fun _=>U) gl67 U ?_
         refine zq tb U ?_
         exact AE (M55 (Sh.put l44 q59.1 (Sh.w (c63 - 1))) l67 (Sh.AK h3).symm _ (by refine Wk.trans (Fy (L:=[(0,(.sl (List.map AA p0))),(4,(.own 0 0 (List.length l8))),(11,(.own 1 0 (List.length l44))),(12,(.own 2 0 (List.length l67))),(13,(i64 many27)),(125,(.sl (List.map eI c39.fields))),(126,(i64 (Sh.len c39.fields))),(127,(i64 t43))]) (st':=[⟨0,3,1,List.map eI l8⟩,⟨0,3,1,List.map eI (Sh.put l44 q59.1 (Sh.w (c63 - 1)))⟩,⟨0,3,1,List.map eI l67⟩,⟨0,3,1,List.map eI [q59.1]⟩]) (.pure (AB fun _=>U) (.pure (AB fun _=>U) (.pure (AB fun _=>U) (.pure (AB fun _=>U) .nil)))) ⟨.rfl,.rfl,.rfl,.rfl,.rfl,.rfl,.rfl,.rfl,trivial⟩) ?_;refine Wk.trans (AL (L:=[(0,(.sl (List.map AA p0))),(4,(.own 0 0 (List.length l8))),(11,(.own 1 0 (List.length l44))),(12,(.own 2 0 (List.length l67))),(13,(i64 many27)),(125,(.sl (List.map eI c39.fields))),(126,(i64 (Sh.len c39.fields))),(127,(i64 t43))]) (st':=[⟨0,3,1,List.map eI l8⟩,⟨0,3,1,List.map eI (Sh.put l44 q59.1 (Sh.w (c63 - 1)))⟩,⟨0,3,1,List.map eI l67⟩]) (st1:=[⟨0,3,1,List.map eI l8⟩,⟨0,3,1,List.map eI (Sh.put l44 q59.1 (Sh.w (c63 - 1)))⟩,⟨0,3,1,List.map eI l67⟩]) [0,1,2] U .nil (by decide) rfl U (.pure (AB fun _=>U) (.pure (AB fun _=>U) (.pure (AB fun _=>U) .nil))) ⟨.rfl,.rfl,.rfl,.rfl,.rfl,.rfl,.rfl,.rfl,trivial⟩) ?_;exact AF (L:=[(0,(.sl (List.map AA p0))),(4,(.own 0 0 (List.length l8))),(11,(.own 1 0 (List.length (Sh.put l44 q59.1 (Sh.w (c63 - 1)))))),(12,(.own 2 0 (List.length l67))),(13,(i64 many27)),(125,(.sl (List.map eI c39.fields))),(126,(i64 (Sh.len c39.fields))),(127,(i64 t43))]) ⟨.rfl,.rfl,(.len (by simp only[Sh.CO])),.rfl,.rfl,.rfl,.rfl,.rfl,trivial⟩))
        ·intro b66 h3
         exact AU (M55 (Sh.put l44 q59.1 (Sh.w (c63 - 1))) l45 (Sh.AK h3).symm _ (AF (L:=[(0,(.sl (List.map AA p0))),(4,(.own 0 0 (List.length l8))),(11,(.own 1 0 (List.length (Sh.put l44 q59.1 (Sh.w (c63 - 1)))))),(12,(.own 2 0 (List.length l45))),(13,(i64 many27)),(125,(.sl (List.map eI c39.fields))),(126,(i64 (Sh.len c39.fields))),(127,(i64 t43))]) ⟨.rfl,.rfl,(.len (by simp only[Sh.CO])),.rfl,.rfl,.rfl,.rfl,.rfl,trivial⟩))
       ·intro b61 h3
        exact AU (M55 l44 l45 (Sh.AK h3).symm _ (AP U))
      ·intro b51 h2
       exact Au (M48 l44 l45 (Sh.AK h2).symm _ (AP U))
     ·intro b35 h1
      exact Au (M31 many27 (Sh.AK h1).symm _ (AL (L:=[(0,(ls AA p0)),(4,(ow 0 0 l8)),(13,(i64 many27))]) (st':=[(ro 0 3 1 eI l8)]) (st1:=[(ro 0 3 1 eI l8)]) [0] U .nil (by decide) rfl U (.pure (AB fun _=>U) .nil) ⟨.rfl,.rfl,.rfl,trivial⟩))
    refine AY (Ap (σ:=Int×(List Int)) (fun n v=>BV l8 p0 n v.1 v.2=some o25) (fun (t22,l23)=>⟨159,AM [(0,(ls AA p0)),(4,(ow 0 0 l8)),(11,(ow 1 0 q17)),(12,(ow 2 0 l23)),(13,(i64 0)),(71,(ls AA p0)),(72,(i64 (Sh.len p0))),(73,(i64 t22))],[(ro 0 3 1 eI l8),(ro 0 3 1 eI q17),(ro 0 3 1 eI l23)]⟩) N (0,[]) h1 ((Ct (t:=12) rfl 3 (size:=1) (by decide)).trans (AF (L:=[(0,(ls AA p0)),(4,(ow 0 0 l8)),(11,(ow 1 0 q17)),(12,(.own 2 0 (List.length ([]:List Int)))),(13,(i64 0)),(71,(ls AA p0)),(72,(i64 (Sh.len p0))),(73,(i64 0))]) ⟨.rfl,.rfl,.rfl,.rfl,.rfl,.rfl,.rfl,.rfl,trivial⟩)) (fun _ hv=>by rw[BV] at hv;cases hv) ?_)
    rintro n ⟨t22,l23⟩ h1
    try dsimp only at h1 ⊢
    rw[BV] at h1
    refine zr tb U U ?_
    refine AN fun K69 hK69=>?_
    refine ci h1 U ?_ ?_ <;> clear h1
    ·intro b70 h1
     refine AU (hK69 _ ?_)
     refine AN fun K71 hK71=>?_
     obtain⟨o73,h2,h1⟩:=Sh.BP h1
     have M73 :∀(l72:(List Int)),o73=Sum.inr l72→∀s,Wk 0 s ⟨159,AM [(0,(ls AA p0)),(4,(ow 0 0 l8)),(11,(ow 1 0 q17)),(12,(ow 2 0 l72)),(13,(i64 0)),(71,(ls AA p0)),(72,(i64 (Sh.len p0))),(73,(i64 t22))],[(ro 0 3 1 eI l8),(ro 0 3 1 eI q17),(ro 0 3 1 eI l72)]⟩→K71 s:=by
      intro l72 hq s hw
      subst o73
      try dsimp only at h1
      refine hK71 _ (AS hw ?_)
      refine AR (by rfl) ?_
      refine zm tb 2 U ?_
      exact AE (xi (Sh.w (t22+1),l72) h1 (AP U))
     refine AY ?_
     refine sr U fun K74 hK74=>?_
     refine zq tb U ?_
     obtain⟨c75,gc75,h2⟩:=Sh.bind_some h2
     refine zx A3 gc75 U U U ?_
     refine zq tb U ?_
     refine BF (m:=3) (st':=[(ro 0 3 1 eI l8),(ro 0 3 1 eI q17),(ro 0 3 1 eI l23),⟨0,30,3,[[(i64 0),(i64 0),.zc]]⟩]) Ae Hu U U ?_
     refine zq tb U ?_
     refine Bt (st':=[(ro 0 3 1 eI l8),(ro 0 3 1 eI q17),(ro 0 3 1 eI l23),⟨0,30,3,[(AA c75)]⟩]) Ae I6 U U U U U U (show 0+3≤3 by decide) rfl ?_
     refine dn hK74 U ?_
     refine AN fun K76 hK76=>?_
     refine AN fun K77 hK77=>?_
     obtain⟨o79,h3,h2⟩:=Sh.bind_some h2
     have M79 :∀(t78:Bool),o79=t78→∀s,Wk 0 s ⟨159,AM [(0,(ls AA p0)),(4,(ow 0 0 l8)),(11,(ow 1 0 q17)),(12,(ow 2 0 l23)),(13,(i64 0)),(14,(i64 t22)),(71,(ls AA p0)),(72,(i64 (Sh.len p0))),(73,(i64 t22)),(94,(.bool t78))],[(ro 0 3 1 eI l8),(ro 0 3 1 eI q17),(ro 0 3 1 eI l23)]⟩→K77 s:=by
      intro t78 hq s hw
      subst o79
      try dsimp only at h2
      refine hK77 _ (AS hw ?_)
      refine ci h2 U ?_ ?_ <;> clear h2
      ·intro b80 h2
       refine zr tb U U ?_
       replace h2:=Sh.AK h2
       subst o73
       try dsimp only[id] at h1
       replace h1:=Sh.AK h1
       subst o25
       try dsimp only[id] at h0
       replace h0:=Sh.AK h0
       subst r
       exact AZ (Exists.intro _ (And.intro ((((Ct (t:=2) rfl 3 (size:=1) (by decide)).trans (AF (L:=[(2,(.own 3 0 (List.length ([]:List Int)))),(3,(.bool false))]) ⟨.rfl,.rfl,trivial⟩)).trans (AL (L:=[(2,(.own 0 0 (List.length ([]:List Int)))),(3,(.bool false))]) (st':=[(ro 0 3 1 eI ([]:List Int))]) (st1:=[(ro 0 3 1 eI ([]:List Int))]) [3] U .nil (by decide) rfl U (.pure (AB fun _=>U) .nil) ⟨.rfl,.rfl,trivial⟩)).trans (AF (L:=[(2,(.own 0 0 (List.length ([]:List Int)))),(3,(.bool false))]) ⟨.rfl,.rfl,trivial⟩)) (And.intro U U)))
      ·intro b80 h2
       refine AU (hK76 _ ?_)
       refine sr U fun K82 hK82=>?_
       refine zm tb 2 U ?_
       obtain⟨c83,gc83,h2⟩:=Sh.bind_some h2
       refine zz (.ptr 0 0 (Int.toNat t22) 0) (An Av U U U U gc83) rfl ?_
       refine zz (i64 c83) (Aw CM U U (Am gc83) rfl) rfl ?_
       refine zq tb U ?_
       refine dn hK82 U ?_
       refine ci h2 U ?_ ?_ <;> clear h2
       ·intro b84 h2
        refine AR (by rfl) ?_
        refine zm tb 2 U ?_
        refine Bc (m:=3) (st':=[(ro 0 3 1 eI l8),(ro 0 3 1 eI q17),(ro 0 3 1 eI l23),(ro 0 3 1 eI [t22])]) (l:=[t22]) (enc:=eI) Ae Av (by decide) rfl U U U U U ?_
        obtain⟨l85,gl85,h2⟩:=Sh.bind_some h2
        refine EP (st':=[(ro 0 3 1 eI l8),(ro 0 3 1 eI q17),(ro 1 3 1 eI l85),(ro 0 3 1 eI [t22])]) (l2:=[t22]) Ae Av U U U U (LN U U) (fun _=>U) gl85 U ?_
        refine zq tb U ?_
        exact AE (M73 l85 (Sh.AK h2).symm _ (by refine Wk.trans (Fy (L:=[(0,(ls AA p0)),(4,(ow 0 0 l8)),(11,(ow 1 0 q17)),(12,(ow 2 0 l85)),(13,(i64 0)),(71,(ls AA p0)),(72,(i64 (Sh.len p0))),(73,(i64 t22))]) (st':=[(ro 0 3 1 eI l8),(ro 0 3 1 eI q17),(ro 0 3 1 eI l85),(ro 0 3 1 eI [t22])]) (.pure (AB fun _=>U) (.pure (AB fun _=>U) (.pure (AB fun _=>U) (.pure (AB fun _=>U) .nil)))) ⟨.rfl,.rfl,.rfl,.rfl,.rfl,.rfl,.rfl,.rfl,trivial⟩) ?_;exact AL (L:=[(0,(ls AA p0)),(4,(ow 0 0 l8)),(11,(ow 1 0 q17)),(12,(ow 2 0 l85)),(13,(i64 0)),(71,(ls AA p0)),(72,(i64 (Sh.len p0))),(73,(i64 t22))]) (st':=[(ro 0 3 1 eI l8),(ro 0 3 1 eI q17),(ro 0 3 1 eI l85)]) (st1:=[(ro 0 3 1 eI l8),(ro 0 3 1 eI q17),(ro 0 3 1 eI l85)]) [0,1,2] U .nil (by decide) rfl U (.pure (AB fun _=>U) (.pure (AB fun _=>U) (.pure (AB fun _=>U) .nil))) ⟨.rfl,.rfl,.rfl,.rfl,.rfl,.rfl,.rfl,.rfl,trivial⟩))
       ·intro b84 h2
        exact AU (M73 l23 (Sh.AK h2).symm _ (AP U))
     refine E9 (by kernel_rfl) (by kernel_rfl) (by rfl) ?_
     iterate 4 refine yq tb rfl ?_
     rcases Sh.Ar h3 with ⟨b86,h3⟩ | ⟨b86,h3⟩
     ·refine yg tb b86 U ?_
      iterate 3 refine yg tb b86 rfl ?_
      obtain⟨c87,gc87,h3⟩:=Sh.bind_some h3
      refine Gu (v:=(.ptr 0 0 (Int.toNat t22) 0)) (Ce U U b86) rfl (An Av U U U U gc87) ?_
      refine Gu (v:=(i64 c87)) (Ce U U b86) rfl (Aw CM U U (Am gc87) rfl) ?_
      iterate 2 refine yg tb b86 rfl ?_
      rcases Sh.Ar h3 with ⟨b88,h3⟩ | ⟨b88,h3⟩
      ·refine ys b88 U ?_
       iterate 2 refine ys b88 rfl ?_
       refine Gu (v:=(.bool true)) (Ce U U b86) rfl (Gx U b88 U) ?_
       refine yt b86 U ?_
       exact DN (M79 true (Sh.AK h3).symm _ (AL (L:=[(0,(ls AA p0)),(4,(ow 0 0 l8)),(11,(ow 1 0 q17)),(12,(ow 2 0 l23)),(13,(i64 0)),(14,(i64 t22)),(71,(ls AA p0)),(72,(i64 (Sh.len p0))),(73,(i64 t22)),(94,(.bool true))]) (st':=[(ro 0 3 1 eI l8),(ro 0 3 1 eI q17),(ro 0 3 1 eI l23)]) (st1:=[(ro 0 3 1 eI l8),(ro 0 3 1 eI q17),(ro 0 3 1 eI l23)]) [0,1,2] U .nil (by decide) rfl U (.pure (AB fun _=>U) (.pure (AB fun _=>U) (.pure (AB fun _=>U) .nil))) ⟨.rfl,.rfl,.rfl,.rfl,.rfl,.rfl,.rfl,.rfl,.rfl,.rfl,trivial⟩))
      ·refine yg tb b88 U ?_
       iterate 2 refine yg tb b88 rfl ?_
       refine Gu (v:=(.bool (decide (999999 < c75.count)))) (Ce U U b86) rfl (Gs U b88 U) ?_
       refine yt b86 U ?_
       exact DN (M79 (decide (999999 < c75.count)) (Sh.AK h3).symm _ (AL (L:=[(0,(ls AA p0)),(4,(ow 0 0 l8)),(11,(ow 1 0 q17)),(12,(ow 2 0 l23)),(13,(i64 0)),(14,(i64 t22)),(71,(ls AA p0)),(72,(i64 (Sh.len p0))),(73,(i64 t22)),(94,(.bool (decide (999999 < c75.count))))]) (st':=[(ro 0 3 1 eI l8),(ro 0 3 1 eI q17),(ro 0 3 1 eI l23)]) (st1:=[(ro 0 3 1 eI l8),(ro 0 3 1 eI q17),(ro 0 3 1 eI l23)]) [0,1,2] U .nil (by decide) rfl U (.pure (AB fun _=>U) (.pure (AB fun _=>U) (.pure (AB fun _=>U) .nil))) ⟨.rfl,.rfl,.rfl,.rfl,.rfl,.rfl,.rfl,.rfl,.rfl,.rfl,trivial⟩))
     ·refine ys b86 U ?_
      iterate 7 refine ys b86 rfl ?_
      iterate 3 refine yn rfl ?_
      refine ys b86 U ?_
      refine yf b86 U ?_
      exact DN (M79 false (Sh.AK h3).symm _ (AL (L:=[(0,(ls AA p0)),(4,(ow 0 0 l8)),(11,(ow 1 0 q17)),(12,(ow 2 0 l23)),(13,(i64 0)),(14,(i64 t22)),(71,(ls AA p0)),(72,(i64 (Sh.len p0))),(73,(i64 t22)),(94,(.bool false))]) (st':=[(ro 0 3 1 eI l8),(ro 0 3 1 eI q17),(ro 0 3 1 eI l23)]) (st1:=[(ro 0 3 1 eI l8),(ro 0 3 1 eI q17),(ro 0 3 1 eI l23)]) [0,1,2] U .nil (by decide) rfl U (.pure (AB fun _=>U) (.pure (AB fun _=>U) (.pure (AB fun _=>U) .nil))) ⟨.rfl,.rfl,.rfl,.rfl,.rfl,.rfl,.rfl,.rfl,.rfl,.rfl,trivial⟩))
    ·intro b70 h1
     exact Au (M25 l23 (Sh.AK h1).symm _ (AP U))
  refine AR (by rfl) ?_
  refine zq tb U ?_
  refine zl tb U U ?_
  refine zm tb 2 U ?_
  rcases Sh.Ar h1 with ⟨b89,h1⟩ | ⟨b89,h1⟩
  ·refine zg tb b89 U ?_
   refine zg tb b89 U ?_
   refine CY (v:=(i64 (Sh.len p0))) (Ce U U b89) rfl (Ea Ec U) ?_
   refine zg tb b89 U ?_
   obtain⟨c90,gc90,h1⟩:=Sh.bind_some h1
   refine CY (v:=(.B4 (AA c90) 0)) (Ce U U b89) rfl (Ei A3 U U gc90 U) ?_
   iterate 3 refine zg tb b89 rfl ?_
   refine zt b89 U ?_
   exact AE (M13 (decide (c90.count=0)) (Sh.AK h1).symm _ (AP U))
  ·refine zs b89 U ?_
   iterate 7 refine zs b89 rfl ?_
   refine zf b89 U ?_
   exact AE (M13 false (Sh.AK h1).symm _ (AP U))
 refine AY (Ap (σ:=Int×(List Int)) (fun n v=>BZ N p0 n v.1 v.2=some o9) (fun (t6,l7)=>⟨159,AM [(0,(ls AA p0)),(4,(ow 0 0 l7)),(24,(ls AA p0)),(25,(i64 (Sh.len p0))),(26,(i64 t6))],[(ro 0 3 1 eI l7)]⟩) N (0,l3) h1 (AP U) (fun _ hv=>by rw[BZ] at hv;cases hv) ?_)
 rintro n ⟨t6,l7⟩ h1
 try dsimp only at h1 ⊢
 rw[BZ] at h1
 refine zr tb U U ?_
 refine AN fun K92 hK92=>?_
 refine ci h1 U ?_ ?_ <;> clear h1
 ·intro b93 h1
  refine AU (hK92 _ ?_)
  refine AN fun K94 hK94=>?_
  refine AY ?_
  refine sr U fun K95 hK95=>?_
  obtain⟨c96,gc96,h1⟩:=Sh.bind_some h1
  refine zx A3 gc96 U U U ?_
  refine zq tb U ?_
  refine BF (m:=1) (st':=[(ro 0 3 1 eI l7),⟨0,30,3,[[(i64 0),(i64 0),.zc]]⟩]) Ae Hu U U ?_
  refine Bt (st':=[(ro 0 3 1 eI l7),⟨0,30,3,[(AA c96)]⟩]) Ae I6 U U U U U U (show 0+3≤3 by decide) rfl ?_
  refine dn hK95 U ?_
  refine AN fun K97 hK97=>?_
  refine sr U fun K98 hK98=>?_
  refine zm tb 2 U ?_
  obtain⟨q99,gq99,h1⟩:=Sh.bind_some h1
  refine zc S5 (Ii gq99) rfl U U ?_
  refine zq tb U ?_
  refine dn hK98 U ?_
  refine ci h1 U ?_ ?_ <;> clear h1
  ·intro b100 h1
   have b101:q99=false:=by simpa using b100
   refine zr tb U U ?_
   replace h1:=Sh.AK h1
   subst o9
   try dsimp only[id] at h0
   replace h0:=Sh.AK h0
   subst r
   exact AZ (Exists.intro _ (And.intro ((((Ct (t:=2) rfl 3 (size:=1) (by decide)).trans (AF (L:=[(2,(.own 2 0 (List.length ([]:List Int)))),(3,(.bool false))]) ⟨.rfl,.rfl,trivial⟩)).trans (AL (L:=[(2,(.own 0 0 (List.length ([]:List Int)))),(3,(.bool false))]) (st':=[(ro 0 3 1 eI ([]:List Int))]) (st1:=[(ro 0 3 1 eI ([]:List Int))]) [2] U .nil (by decide) rfl U (.pure (AB fun _=>U) .nil) ⟨.rfl,.rfl,trivial⟩)).trans (AF (L:=[(2,(.own 0 0 (List.length ([]:List Int)))),(3,(.bool false))]) ⟨.rfl,.rfl,trivial⟩)) (And.intro U U)))
  ·intro b100 h1
   have b103:q99=true:=by simpa using b100
   refine AU (hK97 _ ?_)
   refine sr U fun K104 hK104=>?_
   refine zm tb 2 U ?_
   refine zl tb U U ?_
   refine zq tb U ?_
   refine dn hK104 U ?_
   obtain⟨o108,h2,h1⟩:=Sh.bind_some h1
   have M108 :∀(l107:(List Int)),o108=l107→∀s,Wk 0 s ⟨159,AM [(0,(ls AA p0)),(4,(ow 0 0 l107)),(24,(ls AA p0)),(25,(i64 (Sh.len p0))),(26,(i64 t6))],[(ro 0 3 1 eI l107)]⟩→K94 s:=by
    intro l107 hq s hw
    subst o108
    try dsimp only at h1
    refine hK94 _ (AS hw ?_)
    refine AR (by rfl) ?_
    refine zm tb 2 U ?_
    exact AE (xi (Sh.w (t6+1),l107) h1 (AP U))
   refine AY (Ap (σ:=Int×(List Int)) (fun n v=>BW c96 p0 n v.1 v.2=some o108) (fun (t105,l106)=>⟨159,AM [(0,(ls AA p0)),(4,(ow 0 0 l106)),(24,(ls AA p0)),(25,(i64 (Sh.len p0))),(26,(i64 t6)),(35,(ls eI c96.fields)),(36,(i64 (Sh.len c96.fields))),(37,(i64 t105))],[(ro 0 3 1 eI l106)]⟩) N (0,l7) h2 (AL (L:=[(0,(ls AA p0)),(4,(ow 0 0 l7)),(24,(ls AA p0)),(25,(i64 (Sh.len p0))),(26,(i64 t6)),(35,(ls eI c96.fields)),(36,(i64 (Sh.len c96.fields))),(37,(i64 0))]) (st':=[(ro 0 3 1 eI l7)]) (st1:=[(ro 0 3 1 eI l7)]) [0] U .nil (by decide) rfl U (.pure (AB fun _=>U) .nil) ⟨.rfl,.rfl,.rfl,.rfl,.rfl,.rfl,.rfl,.rfl,trivial⟩) (fun _ hv=>by rw[BW] at hv;cases hv) ?_)
   rintro n ⟨t105,l106⟩ h2
   try dsimp only at h2 ⊢
   rw[BW] at h2
   refine zr tb U U ?_
   refine AN fun K110 hK110=>?_
   refine ci h2 U ?_ ?_ <;> clear h2
   ·intro b111 h2
    refine AU (hK110 _ ?_)
    refine AN fun K112 hK112=>?_
    obtain⟨o114,h3,h2⟩:=Sh.bind_some h2
    have M114 :∀(l113:(List Int)),o114=l113→∀s,Wk 0 s ⟨159,AM [(0,(ls AA p0)),(4,(ow 0 0 l113)),(24,(ls AA p0)),(25,(i64 (Sh.len p0))),(26,(i64 t6)),(35,(ls eI c96.fields)),(36,(i64 (Sh.len c96.fields))),(37,(i64 t105))],[(ro 0 3 1 eI l113)]⟩→K112 s:=by
     intro l113 hq s hw
     subst o114
     try dsimp only at h2
     refine hK112 _ (AS hw ?_)
     refine AR (by rfl) ?_
     refine zm tb 2 U ?_
     exact AE (xi (Sh.w (t105+1),l113) h2 (AP U))
    refine AY ?_
    refine sr U fun K115 hK115=>?_
    obtain⟨c116,gc116,h3⟩:=Sh.bind_some h3
    refine zx Av gc116 U U U ?_
    refine zm tb 2 U ?_
    refine dn hK115 U ?_
    refine sr U fun K117 hK117=>?_
    refine zm tb 2 U ?_
    obtain⟨q118,gq118,h3⟩:=Sh.bind_some h3
    refine zc (v':=(.BI [(i64 q118.1),(.bool q118.2)])) Qz (FX gq118) rfl U U ?_
    refine zm tb 5 U ?_
    refine dn hK117 U ?_
    refine zr tb U U ?_
    refine ci h3 U ?_ ?_ <;> clear h3
    ·intro b120 h3
     refine AR (by rfl) ?_
     refine zm tb 2 U ?_
     obtain⟨c121,gc121,h3⟩:=Sh.bind_some h3
     refine zz (.ptr 0 0 (Int.toNat q118.1) 0) (An Av U U U U gc121) rfl ?_
     refine zz (i64 c121) (Aw CM U U (Am gc121) rfl) rfl ?_
     refine zq tb U ?_
     refine zz (.ptr 0 0 (Int.toNat q118.1) 0) (An Av U U U U gc121) rfl ?_
     refine Dy (st':=[(ro 0 3 1 eI (Sh.put l106 q118.1 (Sh.w (c121+1))))]) (u':=Sh.w (c121+1)) Ae CM U U gc121 U U U (show 0+1≤1 by decide) rfl U ?_
     exact AE (M114 (Sh.put l106 q118.1 (Sh.w (c121+1))) (Sh.AK h3).symm _ (AF (L:=[(0,(.sl (List.map AA p0))),(4,(.own 0 0 (List.length (Sh.put l106 q118.1 (Sh.w (c121+1)))))),(24,(.sl (List.map AA p0))),(25,(i64 (Sh.len p0))),(26,(i64 t6)),(35,(.sl (List.map eI c96.fields))),(36,(i64 (Sh.len c96.fields))),(37,(i64 t105))]) ⟨.rfl,(.len (by simp only[Sh.CO])),.rfl,.rfl,.rfl,.rfl,.rfl,.rfl,trivial⟩))
    ·intro b120 h3
     exact AU (M114 l106 (Sh.AK h3).symm _ (AP U))
   ·intro b111 h2
    exact Au (M108 l106 (Sh.AK h2).symm _ (AP U))
 ·intro b93 h1
  exact Au (M9 l7 (Sh.AK h1).symm _ (AP U))
theorem HD {s0_0:(List Int)} {p0:Int} {r:Bool} (h0:DV s0_0 p0=some r):Ag Try.prog 20 [(i64 p0),(.ptr 0 0 0 0)] [⟨0,24,1,[[(ls eI s0_0)]]⟩] (fun v st=>v=(.bool r)∧st=[⟨0,24,1,[[(ls eI s0_0)]]⟩]):=by
 unfold DV at h0
 refine ai Try.func20 U U U U ?_
 refine zr tb U U ?_
 refine sr U fun K2 hK2=>?_
 refine zm tb 2 U ?_
 obtain⟨c3,gc3,h0⟩:=Sh.bind_some h0
 refine zx Av gc3 U U U ?_
 refine zm tb 3 U ?_
 refine dn hK2 U ?_
 replace h0:=Sh.AK h0
 subst r
 exact AZ (xr (AF (L:=[(3,(.bool (decide (0 < c3))))]) ⟨.rfl,trivial⟩))
theorem FU {N:Nat} {s0_0:(List Int)} {p0:(List Int)} {r:Int} (h0:Cf N s0_0 p0=some r):Ag Try.prog 31 [(ls eI p0),(.fn 20 [(.ptr 0 0 0 0)])] [⟨0,24,1,[[(ls eI s0_0)]]⟩] (fun v st=>v=(i64 r)∧st=[⟨0,24,1,[[(ls eI s0_0)]]⟩]):=by
 unfold Cf at h0
 refine ai Try.func31 U U U U ?_
 refine zr tb U U ?_
 refine AN fun K2 hK2=>?_
 refine sr U fun K3 hK3=>?_
 refine zq tb U ?_
 refine zl tb U U ?_
 refine zq tb U ?_
 refine dn hK3 U ?_
 obtain⟨o5,h1,h0⟩:=Sh.BP h0
 have M5 :∀(_:Unit),o5=Sum.inr ()→∀s,Wk 1 s ⟨19,AM [],[⟨0,24,1,[[(ls eI s0_0)]]⟩]⟩→K2 s:=by
  intro _ hq s hw
  subst o5
  try dsimp only at h0
  refine hK2 _ (AS hw ?_)
  refine zr tb U U ?_
  replace h0:=Sh.AK h0
  subst r
  exact AZ (xr (AF (L:=[(4,(i64 (-1)))]) ⟨.rfl,trivial⟩))
 refine AY (Ap (σ:=Int) (fun n v=>A4 s0_0 p0 n v=some o5) (fun t4=>⟨19,AM [(0,(ls eI p0)),(1,(.fn 20 [(.ptr 0 0 0 0)])),(7,(i64 (Sh.len p0))),(8,(i64 t4))],[⟨0,24,1,[[(ls eI s0_0)]]⟩]⟩) N 0 h1 (AP U) (fun _ hv=>by rw[A4] at hv;cases hv) ?_)
 rintro n t4 h1
 try dsimp only at h1 ⊢
 rw[A4] at h1
 refine zr tb U U ?_
 refine AN fun K8 hK8=>?_
 refine ci h1 U ?_ ?_ <;> clear h1
 ·intro b9 h1
  refine AU (hK8 _ ?_)
  refine AN fun K10 hK10=>?_
  refine AY ?_
  refine zr tb U U ?_
  refine sr U fun K12 hK12=>?_
  refine zm tb 3 U ?_
  obtain⟨c13,gc13,h1⟩:=Sh.bind_some h1
  refine zx Av gc13 U U U ?_
  refine zq tb U ?_
  obtain⟨q14,gq14,h1⟩:=Sh.bind_some h1
  refine Ov (rowsP:=[⟨0,24,1,[[(ls eI s0_0)]]⟩]) (rows0:=[⟨0,24,1,[[(ls eI s0_0)]]⟩]) (rows1:=[⟨0,24,1,[[(ls eI s0_0)]]⟩]) (rows2:=[]) (rows1':=[⟨0,24,1,[[(ls eI s0_0)]]⟩]) (rows2':=[]) (st':=[⟨0,24,1,[[(ls eI s0_0)]]⟩]) (v':=(.bool q14)) [0] Ae U TG (HD gq14) rfl (by decide) rfl U (.raw U U .nil) rfl U (.raw U U .nil) .nil U U ?_
  refine dn hK12 U ?_
  refine ci h1 U ?_ ?_ <;> clear h1
  ·intro b15 h1
   refine zr tb U U ?_
   replace h1:=Sh.AK h1
   subst o5
   try dsimp only[id] at h0
   replace h0:=Sh.AK h0
   subst r
   exact AZ (xr (AF (L:=[(4,(i64 t4))]) ⟨.rfl,trivial⟩))
  ·intro b15 h1
   refine AU (hK10 _ ?_)
   refine AR (by rfl) ?_
   refine zm tb 2 U ?_
   exact AE (xi (Sh.w (t4+1)) h1 (AP U))
 ·intro b9 h1
  exact Au (M5 () (Sh.AK h1).symm _ (AP U))
theorem E5 {N:Nat} {s0_0:(List Int)} {p0:(List Int)} {r:Bool} (h0:CR N s0_0 p0=some r):Ag Try.prog 19 [(ls eI p0),(.fn 20 [(.ptr 0 0 0 0)])] [⟨0,24,1,[[(ls eI s0_0)]]⟩] (fun v st=>v=(.bool r)∧st=[⟨0,24,1,[[(ls eI s0_0)]]⟩]):=by
 unfold CR at h0
 refine ai Try.func19 U U U U ?_
 refine zr tb U U ?_
 refine sr U fun K2 hK2=>?_
 refine zm tb 2 U ?_
 obtain⟨q3,gq3,h0⟩:=Sh.bind_some h0
 refine Ad (rowsP:=[⟨0,24,1,[[(ls eI s0_0)]]⟩]) (rows0:=[⟨0,24,1,[[(ls eI s0_0)]]⟩]) (rows1:=[⟨0,24,1,[[(ls eI s0_0)]]⟩]) (rows2:=[]) (rows1':=[⟨0,24,1,[[(ls eI s0_0)]]⟩]) (rows2':=[]) (st':=[⟨0,24,1,[[(ls eI s0_0)]]⟩]) (v':=(i64 q3)) [0] Ae S7 (FU gq3) rfl (by decide) rfl U (.raw U U .nil) rfl U (.raw U U .nil) .nil U U ?_
 refine zm tb 2 U ?_
 refine dn hK2 U ?_
 replace h0:=Sh.AK h0
 subst r
 exact AZ (xr (AF (L:=[(4,(.bool (decide (0≤q3))))]) ⟨.rfl,trivial⟩))
theorem Hd {N:Nat} {p0:BK} {r:(List Int)×Bool} (h0:Dx N p0=some r):Ag Try.prog 12 [(.agg (BB p0))] [] (fun v st=>v=(.BI [(ls eI r.1),(.bool r.2)])∧st=[]):=by
 unfold Dx at h0
 refine ai Try.func12 U U U U ?_
 refine sr U fun K1 hK1=>?_
 refine Df (m:=0) (st':=[⟨0,26,2,[(BB p0)]⟩]) Ae U U U U U ?_
 refine zm tb 2 U ?_
 refine dn hK1 U ?_
 refine sr U fun K2 hK2=>?_
 refine zm tb 2 U ?_
 obtain⟨q3,gq3,h0⟩:=Sh.bind_some h0
 refine BJ (v':=(ow 1 0 q3)) (st':=[⟨0,26,2,[(BB p0)]⟩,(ro 0 30 3 AA q3)]) Ae SX (EW gq3) rfl U ⟨(BD fun _=>U),trivial⟩ U U ?_
 refine zq tb U ?_
 refine dn hK2 U ?_
 refine AN fun K4 hK4=>?_
 refine sr U fun K5 hK5=>?_
 refine zq tb U ?_
 refine zz (i64 (Sh.len q3)) (Bj Ec U U U) rfl ?_
 refine zq tb U ?_
 refine dn hK5 U ?_
 obtain⟨o7,h1,h0⟩:=Sh.BP h0
 have M7 :∀(_:Unit),o7=Sum.inr ()→∀s,Wk 0 s ⟨66,AM [(1,(.ptr 0 0 0 0)),(4,(ow 1 0 q3))],[⟨0,26,2,[(BB p0)]⟩,(ro 0 30 3 AA q3)]⟩→K4 s:=by
  intro _ hq s hw
  subst o7
  try dsimp only at h0
  refine hK4 _ (AS hw ?_)
  refine AN fun K8 hK8=>?_
  refine sr U fun K9 hK9=>?_
  refine zm tb 2 U ?_
  refine zl tb U U ?_
  refine zq tb U ?_
  refine dn hK9 U ?_
  obtain⟨o13,h1,h0⟩:=Sh.BP h0
  have M13 :∀(l12:(List Cell)),o13=Sum.inr l12→∀s,Wk 0 s ⟨66,AM [(1,(.ptr 0 0 0 0)),(4,(ow 1 0 l12))],[⟨0,26,2,[(BB p0)]⟩,(ro 0 30 3 AA l12)]⟩→K8 s:=by
   intro l12 hq s hw
   subst o13
   try dsimp only at h0
   refine hK8 _ (AS hw ?_)
   refine sr U fun K14 hK14=>?_
   refine zq tb U ?_
   refine Af (Wk.A2 (L:=[(1,(.ptr 0 0 0 0)),(53,(ls AA l12))]) (st':=[⟨0,26,2,[(BB p0)]⟩,⟨1,30,3,[]⟩]) (id:=1) rfl (show 0≤1 by decide) (AB fun _=>U) ⟨.rfl,(.A2 U),trivial⟩ U) ?_
   obtain⟨q15,gq15,h0⟩:=Sh.bind_some h0
   refine BJ (v':=(.BI [(ow 2 0 q15.1),(.bool q15.2)])) (st':=[⟨0,26,2,[(BB p0)]⟩,⟨1,30,3,[]⟩,(ro 0 3 1 eI q15.1)]) Ae TD (Hn gq15) rfl U ⟨(BD fun _=>U),trivial⟩ U U ?_
   refine zm tb 3 U ?_
   refine BF (m:=3) (st':=[⟨0,26,2,[(BB p0)]⟩,⟨1,30,3,[]⟩,(ro 0 3 1 eI q15.1),⟨0,24,1,[[.zc]]⟩]) Ae Sl U U ?_
   refine Af (Wk.A2 (L:=[(1,(.ptr 0 0 0 0)),(9,(.ptr 3 0 0 0)),(55,(ls eI q15.1)),(56,(.bool q15.2))]) (st':=[⟨0,26,2,[(BB p0)]⟩,⟨1,30,3,[]⟩,⟨1,3,1,[]⟩,⟨0,24,1,[[.zc]]⟩]) (id:=2) rfl (show 0≤2 by decide) (AB fun _=>U) ⟨.rfl,.rfl,(.A2 U),.rfl,trivial⟩ U) ?_
   refine Bt (st':=[⟨0,26,2,[(BB p0)]⟩,⟨1,30,3,[]⟩,⟨1,3,1,[]⟩,⟨0,24,1,[[(ls eI q15.1)]]⟩]) Ae Jq U U U U U U (show 0+1≤1 by decide) rfl ?_
   refine zq tb U ?_
   refine dn hK14 U ?_
   refine AN fun K16 hK16=>?_
   refine AN fun K17 hK17=>?_
   obtain⟨o19,h1,h0⟩:=Sh.bind_some h0
   have M19 :∀(t18:Bool),o19=t18→∀s,Wk 0 s ⟨66,AM [(9,(.ptr 0 0 0 0)),(64,(.bool t18))],[⟨0,24,1,[[(ls eI q15.1)]]⟩]⟩→K17 s:=by
    intro t18 hq s hw
    subst o19
    try dsimp only at h0
    refine hK17 _ (AS hw ?_)
    refine ci h0 U ?_ ?_ <;> clear h0
    ·intro b20 h0
     refine zr tb U U ?_
     replace h0:=Sh.AK h0
     subst r
     exact AZ (Exists.intro ⟨66,AM [(2,(.sl (List.map eI []))),(3,(.bool false))],[]⟩ (And.intro (by refine Wk.trans (AL (L:=[(2,.zc),(3,(.bool false))]) (st':=[]) (st1:=[]) [] U .nil (by decide) rfl U .nil ⟨.rfl,.rfl,trivial⟩) ?_;exact AF (L:=[(2,(.sl (List.map eI []))),(3,(.bool false))]) ⟨.zc,.rfl,trivial⟩) (And.intro U U)))
    ·intro b20 h0
     refine AU (hK16 _ ?_)
     refine zr tb U U ?_
     replace h0:=Sh.AK h0
     subst r
     exact AZ (xr (Be [(2,(ls eI q15.1)),(3,(.bool true))] U))
   refine AR (by rfl) ?_
   refine zm tb 3 U ?_
   rcases Sh.Ar h1 with ⟨b23,h1⟩ | ⟨b23,h1⟩
   ·refine zs b23 U ?_
    iterate 3 refine zs b23 rfl ?_
    refine zt b23 U ?_
    exact AE (M19 true (Sh.AK h1).symm _ (AL (L:=[(9,(.ptr 0 0 0 0)),(64,(.bool true))]) (st':=[⟨0,24,1,[[(ls eI q15.1)]]⟩]) (st1:=[⟨0,24,1,[[(ls eI q15.1)]]⟩]) [3] U .nil (by decide) rfl U (.raw U U .nil) ⟨.rfl,.rfl,trivial⟩))
   ·refine zg tb b23 U ?_
    refine zg tb b23 U ?_
    refine CY (v:=(.fn 20 [(.ptr 3 0 0 0)])) (Ce U U b23) rfl (Rw U) ?_
    obtain⟨q24,gq24,h1⟩:=Sh.bind_some h1
    refine Ad (rowsP:=[⟨0,24,1,[[(ls eI q15.1)]]⟩]) (rows0:=[⟨0,24,1,[[(ls eI q15.1)]]⟩]) (rows1:=[⟨0,24,1,[[(ls eI q15.1)]]⟩]) (rows2:=[]) (rows1':=[⟨0,24,1,[[(ls eI q15.1)]]⟩]) (rows2':=[]) (st':=[⟨0,26,2,[(BB p0)]⟩,⟨1,30,3,[]⟩,⟨1,3,1,[]⟩,⟨0,24,1,[[(ls eI q15.1)]]⟩]) (v':=(.bool q24)) [3] (Ce U U b23) TJ (E5 gq24) rfl (by decide) rfl U (.raw U U .nil) rfl U (.raw U U .nil) .nil U U ?_
    refine zf b23 U ?_
    exact AE (M19 q24 (Sh.AK h1).symm _ (AL (L:=[(9,(.ptr 0 0 0 0)),(64,(.bool q24))]) (st':=[⟨0,24,1,[[(ls eI q15.1)]]⟩]) (st1:=[⟨0,24,1,[[(ls eI q15.1)]]⟩]) [3] U .nil (by decide) rfl U (.raw U U .nil) ⟨.rfl,.rfl,trivial⟩))
  refine AY (Ap (σ:=Int×(List Cell)) (fun n v=>BU p0 n v.1 v.2=some o13) (fun (t10,l11)=>⟨66,AM [(1,(.ptr 0 0 0 0)),(4,(ow 1 0 l11)),(25,(ls eI p0.pending)),(26,(i64 (Sh.len p0.pending))),(27,(i64 t10))],[⟨0,26,2,[(BB p0)]⟩,(ro 0 30 3 AA l11)]⟩) N (0,q3) h1 (AP U) (fun _ hv=>by rw[BU] at hv;cases hv) ?_)
  rintro n ⟨t10,l11⟩ h1
  try dsimp only at h1 ⊢
  rw[BU] at h1
  refine zr tb U U ?_
  refine AN fun K26 hK26=>?_
  refine ci h1 U ?_ ?_ <;> clear h1
  ·intro b27 h1
   refine AU (hK26 _ ?_)
   refine AN fun K28 hK28=>?_
   refine AY ?_
   refine sr U fun K29 hK29=>?_
   obtain⟨c30,gc30,h1⟩:=Sh.bind_some h1
   refine zx Av gc30 U U U ?_
   refine zm tb 2 U ?_
   refine dn hK29 U ?_
   refine AN fun K31 hK31=>?_
   refine AN fun K32 hK32=>?_
   obtain⟨o34,h2,h1⟩:=Sh.bind_some h1
   have M34 :∀(t33:Bool),o34=t33→∀s,Wk 0 s ⟨66,AM [(1,(.ptr 0 0 0 0)),(4,(ow 1 0 l11)),(8,(i64 c30)),(25,(ls eI p0.pending)),(26,(i64 (Sh.len p0.pending))),(27,(i64 t10)),(46,(.bool t33))],[⟨0,26,2,[(BB p0)]⟩,(ro 0 30 3 AA l11)]⟩→K32 s:=by
    intro t33 hq s hw
    subst o34
    try dsimp only at h1
    refine hK32 _ (AS hw ?_)
    refine ci h1 U ?_ ?_ <;> clear h1
    ·intro b35 h1
     refine zr tb U U ?_
     replace h1:=Sh.AK h1
     subst o13
     try dsimp only[id] at h0
     replace h0:=Sh.AK h0
     subst r
     exact AZ (Exists.intro ⟨66,AM [(2,(.sl (List.map eI []))),(3,(.bool false))],[]⟩ (And.intro (by refine Wk.trans (AL (L:=[(2,.zc),(3,(.bool false))]) (st':=[]) (st1:=[]) [] U .nil (by decide) rfl U .nil ⟨.rfl,.rfl,trivial⟩) ?_;exact AF (L:=[(2,(.sl (List.map eI []))),(3,(.bool false))]) ⟨.zc,.rfl,trivial⟩) (And.intro U U)))
    ·intro b35 h1
     refine AU (hK31 _ ?_)
     refine AR (by rfl) ?_
     refine zm tb 2 U ?_
     obtain⟨c37,gc37,h1⟩:=Sh.bind_some h1
     refine zz (.ptr 1 0 (Int.toNat c30) 0) (An A3 U U U U gc37) rfl ?_
     refine zq tb U ?_
     refine Dy (st':=[⟨0,26,2,[(BB p0)]⟩,(ro 0 30 3 AA (Sh.put l11 c30 (Cell.mk 1 c37.tag c37.fields)))]) (u':=(Cell.mk 1 c37.tag c37.fields)) Ae CM U U gc37 U U U (show 0+1≤3 by decide) rfl U ?_
     refine dn hK28 U ?_
     refine AR (by rfl) ?_
     refine zm tb 2 U ?_
     exact AE (xi (Sh.w (t10+1),Sh.put l11 c30 (Cell.mk 1 c37.tag c37.fields)) h1 (AF (L:=[(1,(.ptr 0 0 0 0)),(4,(.own 1 0 (List.length (Sh.put l11 c30 (Cell.mk 1 c37.tag c37.fields))))),(25,(.sl (List.map eI p0.pending))),(26,(i64 (Sh.len p0.pending))),(27,(i64 (Sh.w (t10+1))))]) ⟨.rfl,(.len (by simp only[Sh.CO])),.rfl,.rfl,.rfl,trivial⟩))
   refine AR (by rfl) ?_
   refine zm tb 3 U ?_
   rcases Sh.Ar h2 with ⟨b38,h2⟩ | ⟨b38,h2⟩
   ·refine zs b38 U ?_
    iterate 3 refine zs b38 rfl ?_
    refine zt b38 U ?_
    refine zq tb U ?_
    iterate 6 refine zs rfl rfl ?_
    refine zt U U ?_
    exact AE (M34 true (Sh.AK h2).symm _ (AP U))
   ·refine zg tb b38 U ?_
    refine zg tb b38 U ?_
    refine CY (v:=(i64 (Sh.len l11))) (Ce U U b38) rfl (Bj Ec U U U) ?_
    refine zg tb b38 U ?_
    refine zf b38 U ?_
    refine zq tb U ?_
    rcases Sh.Ar h2 with ⟨b39,h2⟩ | ⟨b39,h2⟩
    ·refine zs b39 U ?_
     iterate 5 refine zs b39 rfl ?_
     refine zt b39 U ?_
     exact AE (M34 true (Sh.AK h2).symm _ (AP U))
    ·refine zg tb b39 U ?_
     refine zg tb b39 U ?_
     obtain⟨c40,gc40,h2⟩:=Sh.bind_some h2
     refine CY (v:=(.ptr 1 0 (Int.toNat c30) 0)) (Ce U U b39) rfl (An A3 U U U U gc40) ?_
     refine zg tb b39 U ?_
     refine CY (v:=(i64 c40.count)) (Ce U U b39) rfl (Aw CM U U (Am gc40) rfl) ?_
     refine zg tb b39 U ?_
     refine zf b39 U ?_
     exact AE (M34 (!decide (c40.count=0)) (Sh.AK h2).symm _ (AP U))
  ·intro b27 h1
   exact Au (M13 l11 (Sh.AK h1).symm _ (AP U))
 refine AY (Ap (σ:=Int) (fun n v=>BX q3 n v=some o7) (fun t6=>⟨66,AM [(1,(.ptr 0 0 0 0)),(4,(ow 1 0 q3)),(14,(ow 1 0 q3)),(15,(i64 (Sh.len q3))),(16,(i64 t6))],[⟨0,26,2,[(BB p0)]⟩,(ro 0 30 3 AA q3)]⟩) N 0 h1 (AP U) (fun _ hv=>by rw[BX] at hv;cases hv) ?_)
 rintro n t6 h1
 try dsimp only at h1 ⊢
 rw[BX] at h1
 refine zr tb U U ?_
 refine AN fun K42 hK42=>?_
 refine ci h1 U ?_ ?_ <;> clear h1
 ·intro b43 h1
  refine AU (hK42 _ ?_)
  refine AN fun K44 hK44=>?_
  refine AY ?_
  refine sr U fun K45 hK45=>?_
  obtain⟨c46,gc46,h1⟩:=Sh.bind_some h1
  refine zz (.ptr 1 0 (Int.toNat t6) 0) (An A3 U U U U gc46) rfl ?_
  refine zz (.agg (AA c46)) (D3 I6 U U (Am gc46) (show 0+3≤3 by decide) rfl) rfl ?_
  refine BF (m:=2) (st':=[⟨0,26,2,[(BB p0)]⟩,(ro 0 30 3 AA q3),⟨0,30,3,[[(i64 0),(i64 0),.zc]]⟩]) Ae Hu U U ?_
  refine Bt (st':=[⟨0,26,2,[(BB p0)]⟩,(ro 0 30 3 AA q3),⟨0,30,3,[(AA c46)]⟩]) Ae I6 U U U U U U (show 0+3≤3 by decide) rfl ?_
  refine dn hK45 U ?_
  refine zr tb U U ?_
  refine ci h1 U ?_ ?_ <;> clear h1
  ·intro b48 h1
   refine zr tb U U ?_
   replace h1:=Sh.AK h1
   subst o7
   try dsimp only[id] at h0
   replace h0:=Sh.AK h0
   subst r
   exact AZ (Exists.intro ⟨66,AM [(2,(.sl (List.map eI []))),(3,(.bool false))],[]⟩ (And.intro (by refine Wk.trans (AL (L:=[(2,.zc),(3,(.bool false))]) (st':=[]) (st1:=[]) [] U .nil (by decide) rfl U .nil ⟨.rfl,.rfl,trivial⟩) ?_;exact AF (L:=[(2,(.sl (List.map eI []))),(3,(.bool false))]) ⟨.zc,.rfl,trivial⟩) (And.intro U U)))
  ·intro b48 h1
   refine AU (hK44 _ ?_)
   refine AR (by rfl) ?_
   refine zm tb 2 U ?_
   exact AE (xi (Sh.w (t6+1)) h1 (AL (L:=[(1,(.ptr 0 0 0 0)),(4,(ow 1 0 q3)),(14,(ow 1 0 q3)),(15,(i64 (Sh.len q3))),(16,(i64 (Sh.w (t6+1))))]) (st':=[⟨0,26,2,[(BB p0)]⟩,(ro 0 30 3 AA q3)]) (st1:=[⟨0,26,2,[(BB p0)]⟩,(ro 0 30 3 AA q3)]) [0,1] U .nil (by decide) rfl U (.raw U U (.pure (AB fun _=>U) .nil)) ⟨.rfl,.rfl,.rfl,.rfl,.rfl,trivial⟩))
 ·intro b43 h1
  exact Au (M7 () (Sh.AK h1).symm _ (AP U))
theorem IV {N:Nat} {p0:BK} {r:Bool} (h0:Di N p0=some r):Ag Try.prog 6 [(.agg (BB p0))] [] (fun v st=>v=(.bool r)∧st=[]):=by
 unfold Di at h0
 refine ai Try.func6 U U U U ?_
 refine sr U fun K1 hK1=>?_
 refine Df (m:=0) (st':=[⟨0,26,2,[(BB p0)]⟩]) Ae U U U U U ?_
 refine zq tb U ?_
 refine dn hK1 U ?_
 refine sr U fun K2 hK2=>?_
 refine zq tb U ?_
 obtain⟨q3,gq3,h0⟩:=Sh.bind_some h0
 refine zc (v':=(.BI [(ls eI q3.1),(.bool q3.2)])) Sb (Hd gq3) rfl U U ?_
 refine zm tb 5 U ?_
 refine dn hK2 U ?_
 refine zr tb U U ?_
 replace h0:=Sh.AK h0
 subst r
 exact AZ (xr (Be [(2,(.bool q3.2))] U))
theorem Fp {N:Nat} {p0:BK} {r:Bool} (h0:Cw N p0=some r):Ag Try.prog 7 [(.agg (BB p0))] [] (fun v st=>v=(.bool r)∧st=[]):=by
 unfold Cw at h0
 refine ai Try.func7 U U U U ?_
 refine sr U fun K1 hK1=>?_
 refine Df (m:=0) (st':=[⟨0,26,2,[(BB p0)]⟩]) Ae U U U U U ?_
 refine zq tb U ?_
 refine dn hK1 U ?_
 refine sr U fun K2 hK2=>?_
 refine zq tb U ?_
 obtain⟨q3,gq3,h0⟩:=Sh.bind_some h0
 refine zc Rp (F7 gq3) rfl U U ?_
 refine zq tb U ?_
 refine dn hK2 U ?_
 replace h0:=Sh.AK h0
 subst r
 exact AZ (xr (Be [(2,(.bool q3))] U))
theorem LX {N:Nat} {p0:(List Int)} {p1:Int} {r:Bool} (h0:Fw N p0 p1=some r):Ag Try.prog 9 [(ls eI p0),(i64 p1)] [] (fun v st=>v=(.bool r)∧st=[]):=by
 unfold Fw at h0
 refine ai Try.func9 U U U U ?_
 refine zr tb U U ?_
 refine AN fun K2 hK2=>?_
 refine zr tb U U ?_
 obtain⟨o5,h1,h0⟩:=Sh.BP h0
 have M5 :∀(_:Unit),o5=Sum.inr ()→∀s,Wk 0 s ⟨18,AM [],[]⟩→K2 s:=by
  intro _ hq s hw
  subst o5
  try dsimp only at h0
  refine hK2 _ (AS hw ?_)
  refine zr tb U U ?_
  replace h0:=Sh.AK h0
  subst r
  exact AZ (xr (AF (L:=[(4,(.bool false))]) ⟨.rfl,trivial⟩))
 refine AY (Ap (σ:=Int) (fun n v=>Cp p0 p1 n v=some o5) (fun i4=>⟨18,AM [(0,(ls eI p0)),(1,(i64 p1)),(5,(i64 i4))],[]⟩) N 0 h1 (AP U) (fun _ hv=>by rw[Cp] at hv;cases hv) ?_)
 rintro n i4 h1
 try dsimp only at h1 ⊢
 rw[Cp] at h1
 refine AN fun K7 hK7=>?_
 refine sr U fun K8 hK8=>?_
 refine zm tb 2 U ?_
 refine zl tb U U ?_
 refine zq tb U ?_
 refine dn hK8 U ?_
 refine ci h1 U ?_ ?_ <;> clear h1
 ·intro b9 h1
  refine AU (hK7 _ ?_)
  refine AN fun K10 hK10=>?_
  refine AY ?_
  refine sr U fun K11 hK11=>?_
  refine zm tb 2 U ?_
  obtain⟨c12,gc12,h1⟩:=Sh.bind_some h1
  refine zx Av gc12 U U U ?_
  refine zm tb 3 U ?_
  refine dn hK11 U ?_
  refine ci h1 U ?_ ?_ <;> clear h1
  ·intro b13 h1
   refine zr tb U U ?_
   replace h1:=Sh.AK h1
   subst o5
   try dsimp only[id] at h0
   replace h0:=Sh.AK h0
   subst r
   exact AZ (xr (AF (L:=[(4,(.bool true))]) ⟨.rfl,trivial⟩))
  ·intro b13 h1
   refine AU (hK10 _ ?_)
   refine AR (by rfl) ?_
   refine zm tb 3 U ?_
   exact AE (xi (Sh.w (i4+1)) h1 (AP U))
 ·intro b9 h1
  exact Au (M5 () (Sh.AK h1).symm _ (AP U))
theorem Fg {N:Nat} {p0:(List Int)} {r:Bool} (h0:Cr N p0=some r):Ag Try.prog 4 [(ls AI p0)] [] (fun v st=>v=(.bool r)∧st=[]):=by
 unfold Cr at h0
 refine ai Try.func4 U U U U ?_
 refine zr tb U U ?_
 refine AN fun K2 hK2=>?_
 refine sr U fun K3 hK3=>?_
 refine zq tb U ?_
 refine zl tb U U ?_
 refine zq tb U ?_
 refine dn hK3 U ?_
 refine ci h0 U ?_ ?_ <;> clear h0
 ·intro b4 h0
  refine zr tb U U ?_
  replace h0:=Sh.AK h0
  subst r
  exact AZ (xr (AF (L:=[(2,(.bool true))]) ⟨.rfl,trivial⟩))
 ·intro b4 h0
  refine AU (hK2 _ ?_)
  refine sr U fun K6 hK6=>?_
  refine zq tb U ?_
  obtain⟨q7,gq7,h0⟩:=Sh.bind_some h0
  refine zc (v':=(.agg (BB q7))) TN (G5 gq7) rfl U U ?_
  refine BF (m:=0) (st':=[⟨0,26,2,[[.zc,.zc]]⟩]) Ae C5 U U ?_
  refine Bt (st':=[⟨0,26,2,[(BB q7)]⟩]) Ae DU U U U U U U (show 0+2≤2 by decide) rfl ?_
  refine dn hK6 U ?_
  refine sr U fun K8 hK8=>?_
  refine zq tb U ?_
  obtain⟨q9,gq9,h0⟩:=Sh.bind_some h0
  refine zc TM (IV gq9) rfl U U ?_
  refine zq tb U ?_
  refine dn hK8 U ?_
  refine AN fun K10 hK10=>?_
  refine AN fun K11 hK11=>?_
  obtain⟨o13,h1,h0⟩:=Sh.bind_some h0
  have M13 :∀(t12:Bool),o13=t12→∀s,Wk 0 s ⟨76,AM [(3,(.ptr 0 0 0 0)),(4,(.bool q9)),(22,(.bool t12))],[⟨0,26,2,[(BB q7)]⟩]⟩→K11 s:=by
   intro t12 hq s hw
   subst o13
   try dsimp only at h0
   refine hK11 _ (AS hw ?_)
   refine ci h0 U ?_ ?_ <;> clear h0
   ·intro b14 h0
    refine sr U fun K15 hK15=>?_
    refine zm tb 2 U ?_
    obtain⟨q16,gq16,h0⟩:=Sh.bind_some h0
    refine zc TA (Fp gq16) rfl U U ?_
    refine zm tb 2 U ?_
    refine dn hK15 U ?_
    replace h0:=Sh.AK h0
    subst r
    exact AZ (xr (Be [(2,(.bool (q9 == q16)))] U))
   ·intro b14 h0
    refine AU (hK10 _ ?_)
    refine AN fun K17 hK17=>?_
    refine zr tb U U ?_
    obtain⟨o20,h1,h0⟩:=Sh.BP h0
    have M20 :∀(_:Unit),o20=Sum.inr ()→∀s,Wk 0 s ⟨76,AM [(3,(.ptr 0 0 0 0))],[⟨0,26,2,[(BB q7)]⟩]⟩→K17 s:=by
     intro _ hq s hw
     subst o20
     try dsimp only at h0
     refine hK17 _ (AS hw ?_)
     refine AN fun K21 hK21=>?_
     refine zr tb U U ?_
     obtain⟨o24,h1,h0⟩:=Sh.BP h0
     have M24 :∀(_:Unit),o24=Sum.inr ()→∀s,Wk 0 s ⟨76,AM [],[]⟩→K21 s:=by
      intro _ hq s hw
      subst o24
      try dsimp only at h0
      refine hK21 _ (AS hw ?_)
      refine zr tb U U ?_
      replace h0:=Sh.AK h0
      subst r
      exact AZ (xr (AF (L:=[(2,(.bool true))]) ⟨.rfl,trivial⟩))
     refine AY (Ap (σ:=Int) (fun n v=>A7 q7 n v=some o24) (fun i23=>⟨76,AM [(3,(.ptr 0 0 0 0)),(7,(i64 i23))],[⟨0,26,2,[(BB q7)]⟩]⟩) N 0 h1 (AP U) (fun _ hv=>by rw[A7] at hv;cases hv) ?_)
     rintro n i23 h1
     try dsimp only at h1 ⊢
     rw[A7] at h1
     refine AN fun K26 hK26=>?_
     refine sr U fun K27 hK27=>?_
     refine zm tb 3 U ?_
     refine zl tb U U ?_
     refine zq tb U ?_
     refine dn hK27 U ?_
     refine ci h1 U ?_ ?_ <;> clear h1
     ·intro b28 h1
      refine AU (hK26 _ ?_)
      refine AN fun K29 hK29=>?_
      refine AY ?_
      refine AN fun K30 hK30=>?_
      refine E9 (by kernel_rfl) (by kernel_rfl) (by rfl) ?_
      iterate 5 refine yq tb rfl ?_
      obtain⟨c31,gc31,h1⟩:=Sh.bind_some h1
      refine yx Av gc31 U U U ?_
      refine yq tb U ?_
      obtain⟨c32,gc32,h1⟩:=Sh.bind_some h1
      refine yx A3 gc32 U U U ?_
      iterate 3 refine yq tb rfl ?_
      refine DN (hK30 _ ?_)
      refine ci h1 U ?_ ?_ <;> clear h1
      ·intro b33 h1
       have b34:decide (c32.count=0)=false:=by simpa using b33
       refine zr tb U U ?_
       replace h1:=Sh.AK h1
       subst o24
       try dsimp only[id] at h0
       replace h0:=Sh.AK h0
       subst r
       exact AZ (xr (Be [(2,(.bool false))] U))
      ·intro b33 h1
       have b36:decide (c32.count=0)=true:=by simpa using b33
       refine AU (hK29 _ ?_)
       refine AR (by rfl) ?_
       refine zm tb 3 U ?_
       exact AE (xi (Sh.w (i23+1)) h1 (AP U))
     ·intro b28 h1
      exact Au (M24 () (Sh.AK h1).symm _ (Be _ U))
    refine AY (Ap (σ:=Int) (fun n v=>A8 N q7 n v=some o20) (fun i19=>⟨76,AM [(3,(.ptr 0 0 0 0)),(5,(i64 i19))],[⟨0,26,2,[(BB q7)]⟩]⟩) N 0 h1 (AP U) (fun _ hv=>by rw[A8] at hv;cases hv) ?_)
    rintro n i19 h1
    try dsimp only at h1 ⊢
    rw[A8] at h1
    refine AN fun K37 hK37=>?_
    refine sr U fun K38 hK38=>?_
    refine zm tb 3 U ?_
    refine zl tb U U ?_
    refine zq tb U ?_
    refine dn hK38 U ?_
    refine ci h1 U ?_ ?_ <;> clear h1
    ·intro b39 h1
     refine AU (hK37 _ ?_)
     refine AN fun K40 hK40=>?_
     refine AY ?_
     refine zr tb U U ?_
     obtain⟨o43,h2,h1⟩:=Sh.BP h1
     have M43 :∀(_:Unit),o43=Sum.inr ()→∀s,Wk 0 s ⟨76,AM [(3,(.ptr 0 0 0 0)),(5,(i64 i19))],[⟨0,26,2,[(BB q7)]⟩]⟩→K40 s:=by
      intro _ hq s hw
      subst o43
      try dsimp only at h1
      refine hK40 _ (AS hw ?_)
      refine AR (by rfl) ?_
      refine zm tb 3 U ?_
      exact AE (xi (Sh.w (i19+1)) h1 (AP U))
     refine AY (Ap (σ:=Int) (fun n v=>A9 N i19 q7 n v=some o43) (fun k42=>⟨76,AM [(3,(.ptr 0 0 0 0)),(5,(i64 i19)),(6,(i64 k42))],[⟨0,26,2,[(BB q7)]⟩]⟩) N 0 h2 (AP U) (fun _ hv=>by rw[A9] at hv;cases hv) ?_)
     rintro n k42 h2
     try dsimp only at h2 ⊢
     rw[A9] at h2
     refine AN fun K44 hK44=>?_
     refine sr U fun K45 hK45=>?_
     refine zm tb 4 U ?_
     obtain⟨c46,gc46,h2⟩:=Sh.bind_some h2
     refine zx A3 gc46 U U U ?_
     refine zm tb 2 U ?_
     refine zl tb U U ?_
     refine zq tb U ?_
     refine dn hK45 U ?_
     refine ci h2 U ?_ ?_ <;> clear h2
     ·intro b47 h2
      refine AU (hK44 _ ?_)
      refine AN fun K48 hK48=>?_
      refine AY ?_
      refine AN fun K49 hK49=>?_
      refine E9 (by kernel_rfl) (by kernel_rfl) (by rfl) ?_
      iterate 5 refine yq tb rfl ?_
      refine yx A3 gc46 U U U ?_
      iterate 3 refine yq tb rfl ?_
      obtain⟨c50,gc50,h2⟩:=Sh.bind_some h2
      refine yx Av gc50 U U U ?_
      iterate 2 refine yq tb rfl ?_
      obtain⟨q51,gq51,h2⟩:=Sh.bind_some h2
      refine KE (v:=(.bool q51)) Ae TQ (LX gq51) rfl U U ?_
      refine DN (hK49 _ ?_)
      refine ci h2 U ?_ ?_ <;> clear h2
      ·intro b52 h2
       refine zr tb U U ?_
       replace h2:=Sh.AK h2
       subst o43
       try dsimp only[id] at h1
       replace h1:=Sh.AK h1
       subst o20
       try dsimp only[id] at h0
       replace h0:=Sh.AK h0
       subst r
       exact AZ (xr (Be [(2,(.bool false))] U))
      ·intro b52 h2
       refine AU (hK48 _ ?_)
       refine AR (by rfl) ?_
       refine zm tb 3 U ?_
       exact AE (xi (Sh.w (k42+1)) h2 (AP U))
     ·intro b47 h2
      exact Au (M43 () (Sh.AK h2).symm _ (AP U))
    ·intro b39 h1
     exact Au (M20 () (Sh.AK h1).symm _ (AP U))
  refine AR (by rfl) ?_
  refine zm tb 2 U ?_
  obtain⟨q54,gq54,h1⟩:=Sh.bind_some h1
  refine zc TA (Fp gq54) rfl U U ?_
  refine zm tb 2 U ?_
  rcases Sh.Ar h1 with ⟨b55,h1⟩ | ⟨b55,h1⟩
  ·refine zs b55 U ?_
   refine zs b55 U ?_
   refine zt b55 U ?_
   exact AE (M13 true (Sh.AK h1).symm _ (AP U))
  ·refine zg tb b55 U ?_
   refine zg tb b55 U ?_
   refine zf b55 U ?_
   exact AE (M13 (!q9) (Sh.AK h1).symm _ (AP U))
end Go.Proofs.Ythapbpfhdnmboaa

