import Derived.Test.YtihdgoiebmfapaaGreatNSWalkP4
set_option linter.all false
namespace Go.Proofs.YtihdgoiebmfapaaGreat
open Go Go.Abs RC
attribute [local irreducible] Go.Abs.EK
set_option maxRecDepth 100000
set_option maxHeartbeats 4000000
theorem P9 {N:Nat}{p0:List Int}{r:Bool}(h0:Iz N p0=some r):BJ Tryz.prog 7 [ls FP p0] [] (λv st=>v=(.bool r)/\st=[]):=by
 unfold Iz at h0;refine ai Tryz.func7 AA AA AA AA (zr tb AA AA (AE λK2 hK2=>sr AA λK3 hK3=>zq tb AA (zl tb AA AA (zq tb AA (dn hK3 AA ?_)))));refine ci h0 AA ?_ ?_<;>clear h0
 .intro b4 h0;refine zr tb AA AA ?_;replace h0:=Sh.BU h0;subst r;exact Am (xr (Ag (L:=[(2,.bool true)]) ⟨.rfl,oz⟩))
 .intro b4 h0;refine AH (hK2 _ (sr AA λK6 hK6=>zq tb AA (bs h0 λq7 gq7 h0=>zc (v':=.C8 [.agg [ls Ah q7.1.decls,ls BP q7.1.funcs],i64 q7.2]) (hb 18) (Ry gq7) rfl AA AA (zm tb 3 AA (KB (m:=0) AN Is AA AA (Ja AN Dz AA AA AA AA AA AA tL rfl (zq tb AA (dn hK6 AA (sr AA λK8 hK8=>zm tb 2 AA ?_)))))))));refine bs h0 λq9 gq9 h0=>zc (v':=.C8 [.agg [ls Ah q9.1.decls,ls BP q9.1.funcs],.bool q9.2]) (hb 19) (Pz gq9) rfl AA AA (zm tb 3 AA (KB (m:=1) AN Is AA AA (Ja AN Dz AA AA AA AA AA AA tL rfl (zq tb AA (dn hK8 AA (sr AA λK10 hK10=>zm tb 2 AA (bs h0 λvb gq11 h0=>zc (v':=.C8 [.agg [ls Ah vb.1.decls,ls BP vb.1.funcs],.bool vb.2]) (hb 20) (WB gq11) rfl AA AA (zm tb 3 AA ?_))))))));refine KB (m:=2) AN Is AA AA (Ja AN Dz AA AA AA AA AA AA tL rfl (zq tb AA (dn hK10 AA (AE λK12 hK12=>AE λK13 hK13=>bs h0 λo15 h1 h0=>?_))));have M15:∀(t14:Bool),o15=t14->∀s,Wk 0 s ⟨75,AP [(3,.ptr 0 0 0 0),(4,i64 q7.2),(5,.ptr 1 0 0 0),(6,.bool q9.2),(7,.ptr 2 0 0 0),(8,.bool vb.2),(43,.bool t14)],[⟨0,26,2,[[ls Ah q7.1.decls,ls BP q7.1.funcs]]⟩,⟨0,26,2,[[ls Ah q9.1.decls,ls BP q9.1.funcs]]⟩,⟨0,26,2,[[ls Ah vb.1.decls,ls BP vb.1.funcs]]⟩]⟩->K13 s:=by
   intro t14 hq s hw;subst o15;try dsimp only at h0
   refine hK13 _ (AG hw ?_);refine ci h0 AA ?_ ?_<;>clear h0
   .intro b16 h0;refine AE λK17 hK17=>bs h0 λo19 h1 h0=>?_;have M19:∀(t18:Bool),o19=t18->∀s,Wk 0 s ⟨75,AP [(2,.bool t18)],[]⟩->K17 s:=by
     intro t18 hq s hw;subst o19;try dsimp only at h0
     refine hK17 _ (AG hw ?_);replace h0:=Sh.BU h0;subst r;exact Am (xr (Ag (L:=[(2,.bool t18)]) ⟨.rfl,oz⟩))
    refine AF AA (zm tb 2 AA (bs h1 λvz gq20 h1=>zc (hb 11) (Hj gq20) rfl AA AA (zq tb AA ?_)));rcases Sh.Ae h1 with ⟨b21,h1⟩|⟨b21,h1⟩
    .exact zg tb b21 AA (zg tb b21 AA (zg tb b21 AA (zt b21 AA (zq tb AA (AB (M19 (q9.2==vb.2) (Sh.BU h1).symm _ (Be _ AA)))))))
    .exact zs b21 AA (zs b21 AA (zs b21 AA (zf b21 AA (zq tb AA (AB (M19 false (Sh.BU h1).symm _ (Be _ AA)))))))
   .intro b16 h0;refine AH (hK12 _ (sr AA λK22 hK22=>zm tb 2 AA (bs h0 λvf gq23 h0=>zc (v':=.C8 [.agg [ls Ah vf.1.decls,ls BP vf.1.funcs],.bool vf.2]) (hb 19) (Pz gq23) rfl AA AA (zm tb 3 AA (KB (m:=3) AN Is AA AA (Ja AN Dz AA AA AA AA AA AA tL rfl (zq tb AA (dn hK22 AA (AE λK24 hK24=>bs h0 λo26 h1 h0=>?_)))))))));have M26:∀(t25:Bool),o26=t25->∀s,Wk 0 s ⟨75,AP [(2,.bool t25)],[]⟩->K24 s:=by
     intro t25 hq s hw;subst o26;try dsimp only at h0
     refine hK24 _ (AG hw ?_);replace h0:=Sh.BU h0;subst r;exact Am (xr (Ag (L:=[(2,.bool t25)]) ⟨.rfl,oz⟩))
    refine AF AA (zm tb 2 AA ?_);rcases Sh.Ae h1 with ⟨b27,h1⟩|⟨b27,h1⟩
    .refine zg tb b27 AA (zg tb b27 AA (bs h1 λwW gq28 h1=>zd b27 (hb 11) (Hj gq28) rfl AA AA AA (zt b27 AA (zq tb AA ?_))));rcases Sh.Ae h1 with ⟨b29,h1⟩|⟨b29,h1⟩
     .refine zg tb b29 AA (zg tb b29 AA (bs h1 λyK gq30 h1=>zd b29 (hb 23) (Sy gq30) rfl AA AA AA (zg tb b29 AA (zg tb b29 AA ?_))));rcases Sh.Ae h1 with ⟨b31,h1⟩|⟨b31,h1⟩
      .exact zs b31 AA (zs b31 AA (zs b31 AA (BW (v:=.bool true) (CR AA AA b29) rfl (Km AA b31 AA) (zt b29 AA (zq tb AA (AB (M26 true (Sh.BU h1).symm _ (Be _ AA))))))))
      .exact zg tb b31 AA (zg tb b31 AA (bs h1 λxy gq32 h1=>zd b31 (hb 11) (Hj gq32) rfl AA AA AA (BW (v:=.bool xy) (CR AA AA b29) rfl (LR AA b31 AA) (zt b29 AA (zq tb AA (AB (M26 xy (Sh.BU h1).symm _ (Be _ AA))))))))
     .refine zs b29 AA ?_;iterate 4 refine zs b29 rfl ?_
      iterate 3 refine zn rfl ?_
      exact zs b29 AA (zf b29 AA (zq tb AA (AB (M26 false (Sh.BU h1).symm _ (Be _ AA)))))
    .refine zs b27 AA (zs b27 AA (zs b27 AA (zf b27 AA (zq tb AA ?_))));iterate 5 refine zs rfl rfl ?_
     iterate 3 refine zn rfl ?_
     exact zs AA AA (zf AA AA (zq tb AA (AB (M26 false (Sh.BU h1).symm _ (Be _ AA)))))
  refine AF AA (zm tb 2 AA (bs h1 λyG gq33 h1=>zc (hb 11) (Hj gq33) rfl AA AA (zm tb 2 AA ?_)));rcases Sh.Ae h1 with ⟨b34,h1⟩|⟨b34,h1⟩
  .exact zs b34 AA (zs b34 AA (zs b34 AA (zt b34 AA (zq tb AA (zs AA AA (zs AA AA (zt AA AA (AB (M15 true (Sh.BU h1).symm _ (Bz AA))))))))))
  .refine zg tb b34 AA (zg tb b34 AA (zg tb b34 AA (zf b34 AA (zq tb AA ?_))));rcases Sh.Ae h1 with ⟨b35,h1⟩|⟨b35,h1⟩
   .exact zs b35 AA (zs b35 AA (zt b35 AA (AB (M15 true (Sh.BU h1).symm _ (Bz AA)))))
   .exact zg tb b35 AA (zg tb b35 AA (zf b35 AA (AB (M15 (!q9.2) (Sh.BU h1).symm _ (Bz AA)))))
end Go.Proofs.YtihdgoiebmfapaaGreat
