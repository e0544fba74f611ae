import Derived.Test.YtpahalfiiahddaaGreatProg
import Derived.Test.YtpahalfiiahddaaGreatGAbsXToAbsZN
import Derived.Test.YtpahalfiiahddaaGreatGAbsZPToSSDefs
import Derived.Test.YtpahalfiiahddaaGreatGHADefsToINDefs
import Derived.Test.YtpahalfiiahddaaGreatCFWalk
import Derived.Test.YtpahalfiiahddaaGreatLAWalk
import Derived.Test.YtpahalfiiahddaaGreatINWalkP4
namespace Go.Proofs.YtpahalfiiahddaaGreat
open Go Go.Abs RC
attribute [local irreducible] Go.Abs.DF
set_option maxRecDepth 100000
set_option maxHeartbeats 4000000


theorem S8 {N:Nat} {p0:AN} {p1:Int} {r:AN×Bool} (h0:D5 N p0 p1=some r):Aa Tryz.prog 16 [(HH p0),(i64 p1)] [] (fun v st=>v=(.DE [(.agg (Uu r.1.decls r.1.funcs)),(.bool r.2)])∧st=[(FD r.1.decls),(CM r.1.funcs)]):=by
 unfold D5 at h0
 refine Aa.wk (r0:=(.DE [(.agg (Uu r.1.decls r.1.funcs)),(.bool r.2)])) (st0:=(cN r.1.decls r.1.funcs)) ?_ (FZ (L:=[(0,(.DE [(.agg (Uu r.1.decls r.1.funcs)),(.bool r.2)]))]) (st':=[(FD r.1.decls),(CM r.1.funcs)]) [0,1] U (by decide) rfl U (.deep (AR fun _=>U) (.deep (AR fun _=>U) trivial)) (.same U))
 refine ai Tryz.func16 U U U U (sr U fun K1 hK1=>A7 (m:=0) Ac U U U U U (A7 (m:=1) Ac U U U U U (As (m:=2) Ac H5 U U (zq tb U (dn hK1 U (AB fun K2 hK2=>sr U fun K3 hK3=>zm tb 2 U (bs h0 fun q4 gq4 h0=>zc (hb 38) (Kp gq4) rfl U U ?_)))))))
 refine zq tb U (dn hK3 U ?_)
 refine ci h0 U ?_ ?_ <;> clear h0 <;> intro b5 h0
 ·have b6:q4=false:=by simpa using b5
  refine sr U fun K7 hK7=>zz (.agg [.zc,.zc]) (GA TW Tu H5 U U) rfl (Ay Ac Fw U U U U U U (show 0+2≤2 by decide) rfl (zq tb U (dn hK7 U ?_)))
  obtain rfl:=Sh.AA h0
  exact AI (Exists.intro _ (And.intro ((((G1 (id:=2) (st':=[(KQ p0.decls p0.funcs),(Oz p1),⟨0,30,2,[[(.own 3 0 (List.length ([]:List Ab))),.zc]]⟩,XQ]) (j:=0) rfl U 81 (size':=3) (by decide) rfl U U U).trans (G1 (id:=2) (st':=[(KQ p0.decls p0.funcs),(Oz p1),⟨0,30,2,[[(.own 3 0 (List.length ([]:List Ab))),(.own 4 0 (List.length ([]:List Ah)))]]⟩,XQ,Zo]) (j:=1) rfl U 48 (size':=5) (by decide) rfl U U U)).trans (A5 (L:=[(4,BD),(5,(.bool false))]) (st':=[XQ,Zo,⟨0,30,2,[dy]⟩]) (st1:=[XQ,Zo,⟨0,30,2,[[(.own 3 0 (List.length ([]:List Ab))),(.own 4 0 (List.length ([]:List Ah)))]]⟩]) [3,4,2] U .nil (by decide) rfl U (.deep (AR fun _=>U) (.deep (AR fun _=>U) (.raw U U .nil))) (.same U))).trans (AS (L:=[(4,BD),(5,(.bool false))]) (.same U))) (BM (x:=.tmp 4) (off:=0) (cs:=dy) (vs:=dy) Fw U U U (show 0+2≤2 by decide) rfl _ ⟨U,U⟩)))
 ·have b8:q4=true:=by simpa using b5
  refine AG (hK2 _ (sr U fun K9 hK9=>zq tb U (zz (.fn 39 [Aq,Am]) (Vz U) rfl (bs h0 fun q10 gq10 h0=>?_))))
  refine H0 (rowsP:=[(Oz p1),(KQ p0.decls p0.funcs)]) (rows0:=[(Oz p1),(KQ p0.decls p0.funcs)]) (rows1:=[(Oz q10.2.2),(KQ p0.decls p0.funcs)]) (rows2:=[(FD q10.1.decls),(CM q10.1.funcs)]) (rows1':=[(Oz q10.2.2),(KQ p0.decls p0.funcs)]) (rows2':=[(FD q10.1.decls),(CM q10.1.funcs)]) (st':=[(KQ p0.decls p0.funcs),(Oz q10.2.2),⟨0,30,2,[[.zc,.zc]]⟩,(FD q10.1.decls),(CM q10.1.funcs)]) (v':=(.DE [(.agg [(ow 3 0 q10.1.decls),(ow 4 0 q10.1.funcs)]),(.bool q10.2.1)])) [1,0] Ac (hb 25) (J4 gq10) rfl (by decide) rfl U (.raw U U (.raw U U .nil)) rfl U (.raw U U (.raw U U .nil)) (.deep (AR fun _=>U) (.deep (AR fun _=>U) .nil)) rfl U ?_
  refine zm tb 2 U (Ay Ac Fw U U U U U U (show 0+2≤2 by decide) rfl (zq tb U (dn hK9 U ?_)))
  obtain rfl:=Sh.AA h0
  exact AI (Exists.intro _ (And.intro ((A5 (L:=[(4,BD),(5,(.bool q10.2.1))]) (st':=(cN q10.1.decls q10.1.funcs)) (st1:=[(FD q10.1.decls),(CM q10.1.funcs),⟨0,30,2,[[(ow 3 0 q10.1.decls),(ow 4 0 q10.1.funcs)]]⟩]) [3,4,2] U .nil (by decide) rfl U (.deep (AR fun _=>U) (.deep (AR fun _=>U) (.raw U U .nil))) (.same U)).trans (AS (L:=[(4,BD),(5,(.bool q10.2.1))]) (.same U))) (BM (x:=.tmp 4) (off:=0) (cs:=(Uu q10.1.decls q10.1.funcs)) (vs:=(Uu q10.1.decls q10.1.funcs)) Fw U U U (show 0+2≤2 by decide) rfl _ ⟨U,U⟩)))
theorem NJ {N:Nat} {p0:(List Int)} {p1:(List Int)} {r:Bool} (h0:Hw N p0 p1=some r):Aa Tryz.prog 108 [(ls eI p0),(ls eI p1)] [] (fun v st=>v=(.bool r)∧st=[]):=by
 unfold Hw at h0
 refine ai Tryz.func108 U U U U (zr tb U U (AB fun K2 hK2=>sr U fun K3 hK3=>zq tb U (zl tb U U (zq tb U (zl tb U U (zq tb U (dn hK3 U ?_)))))))
 refine ci h0 U ?_ ?_ <;> clear h0 <;> intro b4 h0
 ·have b5:decide ((Sh.len p0)=(Sh.len p1))=false:=by simpa using b4
  refine zr tb U U ?_
  obtain rfl:=Sh.AA h0
  exact AI (xr (AS (L:=[(4,(.bool false))]) (.same U)))
 ·have b7:decide ((Sh.len p0)=(Sh.len p1))=true:=by simpa using b4
  refine AG (hK2 _ (AB fun K8 hK8=>zr tb U U ?_))
  obtain⟨o11,h1,h0⟩:=Sh.A8 h0
  have M11 :∀(_:Unit),o11=Sum.inr ()→∀s,Wk 0 s ⟨26,AL [],[]⟩→K8 s:=by
   intro _ hq s hw
   subst o11
   try dsimp only at h0
   refine hK8 _ (AM hw (zr tb U U ?_))
   obtain rfl:=Sh.AA h0
   exact AI (xr (AS (L:=[(4,(.bool true))]) (.same U)))
  refine AP (Ak (σ:=Int) (fun n v=>EX p0 p1 n v=some o11) (fun i10=>⟨26,AL [(0,(ls eI p0)),(1,(ls eI p1)),(5,(i64 i10))],[]⟩) N 0 h1 (AH U) (fun _ hv=>by rw[EX] at hv;cases hv) ?_)
  rintro n i10 h1
  try dsimp only at h1 ⊢
  rw[EX] at h1
  refine AB fun K13 hK13=>sr U fun K14 hK14=>zm tb 2 U (zl tb U U (zq tb U (dn hK14 U ?_)))
  refine ci h1 U ?_ ?_ <;> clear h1 <;> intro b15 h1
  ·refine AG (hK13 _ (AB fun K16 hK16=>AP (AB fun K17 hK17=>?_)))
   refine Bk (by kernel_rfl) (by kernel_rfl) (by rfl) ?_
   iterate 2 refine yq tb rfl ?_
   refine bs h1 fun c18 gc18 h1=>yx BJ gc18 U U U ?_
   iterate 3 refine yq tb rfl ?_
   refine bs h1 fun c19 gc19 h1=>yx BJ gc19 U U U ?_
   iterate 2 refine yq tb rfl ?_
   refine BL (hK17 _ ?_)
   refine ci h1 U ?_ ?_ <;> clear h1 <;> intro b20 h1
   ·have b21:decide (c18=c19)=false:=by simpa using b20
    refine zr tb U U ?_
    obtain rfl:=Sh.AA h1
    try dsimp only[id] at h0
    obtain rfl:=Sh.AA h0
    exact AI (xr (AS (L:=[(4,(.bool false))]) (.same U)))
   ·have b23:decide (c18=c19)=true:=by simpa using b20
    exact AG (hK16 _ (AF U (zm tb 3 U (AE (xi (Sh.w (i10+1)) h1 (AH U))))))
  ·exact Ao (M11 () (Sh.AA h1).symm _ (AH U))
theorem Ti {N:Nat} {p0:BP} {p1:BP} {r:Bool} (h0:KF N p0 p1=some r):Aa Tryz.prog 132 [(.agg (BR p0)),(.agg (BR p1))] [] (fun v st=>v=(.bool r)∧st=[]):=by
 unfold KF at h0
 refine ai Tryz.func132 U U U U (sr U fun K1 hK1=>A7 (m:=0) Ac U U U U U (A7 (m:=1) Ac U U U U U (zq tb U (dn hK1 U (AB fun K2 hK2=>sr U fun K3 hK3=>zm tb 4 U (bs h0 fun q4 gq4 h0=>zc (hb 108) (NJ gq4) rfl U U (zq tb U ?_)))))))
 refine dn hK3 U ?_
 refine ci h0 U ?_ ?_ <;> clear h0 <;> intro b5 h0
 ·have b6:q4=false:=by simpa using b5
  refine zr tb U U ?_
  obtain rfl:=Sh.AA h0
  exact AI (xr (Ai [(4,(.bool false))] U))
 ·have b8:q4=true:=by simpa using b5
  refine AG (hK2 _ (zr tb U U ?_))
  obtain rfl:=Sh.AA h0
  exact AI (xr (Ai [(4,(.bool true))] U))
theorem Sx {N:Nat} {p0:(List BP)} {p1:(List BP)} {r:Bool} (h0:I9 N p0 p1=some r):Aa Tryz.prog 107 [(ls BR p0),(ls BR p1)] [] (fun v st=>v=(.bool r)∧st=[]):=by
 unfold I9 at h0
 refine ai Tryz.func107 U U U U (zr tb U U (AB fun K2 hK2=>sr U fun K3 hK3=>zq tb U (zl tb U U (zq tb U (zl tb U U (zq tb U (dn hK3 U ?_)))))))
 refine ci h0 U ?_ ?_ <;> clear h0 <;> intro b4 h0
 ·have b5:decide ((Sh.len p0)=(Sh.len p1))=false:=by simpa using b4
  refine zr tb U U ?_
  obtain rfl:=Sh.AA h0
  exact AI (xr (AS (L:=[(4,(.bool false))]) (.same U)))
 ·have b7:decide ((Sh.len p0)=(Sh.len p1))=true:=by simpa using b4
  refine AG (hK2 _ (AB fun K8 hK8=>zr tb U U ?_))
  obtain⟨o11,h1,h0⟩:=Sh.A8 h0
  have M11 :∀(_:Unit),o11=Sum.inr ()→∀s,Wk 0 s ⟨27,AL [],[]⟩→K8 s:=by
   intro _ hq s hw
   subst o11
   try dsimp only at h0
   refine hK8 _ (AM hw (zr tb U U ?_))
   obtain rfl:=Sh.AA h0
   exact AI (xr (AS (L:=[(4,(.bool true))]) (.same U)))
  refine AP (Ak (σ:=Int) (fun n v=>Ez N p0 p1 n v=some o11) (fun i10=>⟨27,AL [(0,(ls BR p0)),(1,(ls BR p1)),(5,(i64 i10))],[]⟩) N 0 h1 (AH U) (fun _ hv=>by rw[Ez] at hv;cases hv) ?_)
  rintro n i10 h1
  try dsimp only at h1 ⊢
  rw[Ez] at h1
  refine AB fun K13 hK13=>sr U fun K14 hK14=>zm tb 2 U (zl tb U U (zq tb U (dn hK14 U ?_)))
  refine ci h1 U ?_ ?_ <;> clear h1 <;> intro b15 h1
  ·refine AG (hK13 _ (AB fun K16 hK16=>AP (AB fun K17 hK17=>?_)))
   refine Bk (by kernel_rfl) (by kernel_rfl) (by rfl) ?_
   iterate 2 refine yq tb rfl ?_
   refine bs h1 fun c18 gc18 h1=>yx Io gc18 U U U ?_
   iterate 3 refine yq tb rfl ?_
   refine bs h1 fun c19 gc19 h1=>yx Io gc19 U U U (yq tb U (bs h1 fun q20 gq20 h1=>Bh (v:=(.bool q20)) Ac (hb 132) (Ti gq20) rfl U U (yq tb U (BL (hK17 _ ?_)))))
   refine ci h1 U ?_ ?_ <;> clear h1 <;> intro b21 h1
   ·have b22:q20=false:=by simpa using b21
    refine zr tb U U ?_
    obtain rfl:=Sh.AA h1
    try dsimp only[id] at h0
    obtain rfl:=Sh.AA h0
    exact AI (xr (AS (L:=[(4,(.bool false))]) (.same U)))
   ·have b24:q20=true:=by simpa using b21
    exact AG (hK16 _ (AF U (zm tb 3 U (AE (xi (Sh.w (i10+1)) h1 (AH U))))))
  ·exact Ao (M11 () (Sh.AA h1).symm _ (AH U))
theorem Sf {N:Nat} {p0:Ab} {p1:Ab} {r:Bool} (h0:Iy N p0 p1=some r):Aa Tryz.prog 58 [(.agg (AT p0)),(.agg (AT p1))] [] (fun v st=>v=(.bool r)∧st=[]):=by
 unfold Iy at h0
 refine ai Tryz.func58 U U U U (sr U fun K1 hK1=>A7 (m:=0) Ac U U U U U (A7 (m:=1) Ac U U U U U (zq tb U (dn hK1 U (AB fun K2 hK2=>zr tb U U ?_)))))
 refine ci h0 U ?_ ?_ <;> clear h0 <;> intro b4 h0
 ·have b5:decide (p0.from_=p1.from_)=false:=by simpa using b4
  refine zr tb U U ?_
  obtain rfl:=Sh.AA h0
  exact AI (xr (Ai [(4,(.bool false))] U))
 ·have b7:decide (p0.from_=p1.from_)=true:=by simpa using b4
  refine AG (hK2 _ (AB fun K8 hK8=>zr tb U U ?_))
  refine ci h0 U ?_ ?_ <;> clear h0 <;> intro b10 h0
  ·have b11:decide (p0.to=p1.to)=false:=by simpa using b10
   refine zr tb U U ?_
   obtain rfl:=Sh.AA h0
   exact AI (xr (Ai [(4,(.bool false))] U))
  ·have b13:decide (p0.to=p1.to)=true:=by simpa using b10
   refine AG (hK8 _ (AB fun K14 hK14=>sr U fun K15 hK15=>zm tb 4 U (bs h0 fun q16 gq16 h0=>zc (hb 107) (Sx gq16) rfl U U (zq tb U (dn hK15 U ?_)))))
   refine ci h0 U ?_ ?_ <;> clear h0 <;> intro b17 h0
   ·have b18:q16=false:=by simpa using b17
    refine zr tb U U ?_
    obtain rfl:=Sh.AA h0
    exact AI (xr (Ai [(4,(.bool false))] U))
   ·have b20:q16=true:=by simpa using b17
    refine AG (hK14 _ (zr tb U U ?_))
    obtain rfl:=Sh.AA h0
    exact AI (xr (Ai [(4,(.bool true))] U))
theorem SG {N:Nat} {p0:(List Ab)} {p1:(List Ab)} {r:Bool} (h0:IP N p0 p1=some r):Aa Tryz.prog 27 [(Bf p0),(Bf p1)] [] (fun v st=>v=(.bool r)∧st=[]):=by
 unfold IP at h0
 refine ai Tryz.func27 U U U U (zr tb U U (AB fun K2 hK2=>sr U fun K3 hK3=>zq tb U (zl tb U U (zq tb U (zl tb U U (zq tb U (dn hK3 U ?_)))))))
 refine ci h0 U ?_ ?_ <;> clear h0 <;> intro b4 h0
 ·have b5:decide ((Sh.len p0)=(Sh.len p1))=false:=by simpa using b4
  refine zr tb U U ?_
  obtain rfl:=Sh.AA h0
  exact AI (xr (AS (L:=[(4,(.bool false))]) (.same U)))
 ·have b7:decide ((Sh.len p0)=(Sh.len p1))=true:=by simpa using b4
  refine AG (hK2 _ (AB fun K8 hK8=>zr tb U U ?_))
  obtain⟨o11,h1,h0⟩:=Sh.A8 h0
  have M11 :∀(_:Unit),o11=Sum.inr ()→∀s,Wk 0 s ⟨27,AL [],[]⟩→K8 s:=by
   intro _ hq s hw
   subst o11
   try dsimp only at h0
   refine hK8 _ (AM hw (zr tb U U ?_))
   obtain rfl:=Sh.AA h0
   exact AI (xr (AS (L:=[(4,(.bool true))]) (.same U)))
  refine AP (Ak (σ:=Int) (fun n v=>Eh N p0 p1 n v=some o11) (fun i10=>⟨27,AL [(0,(ls AT p0)),(1,(ls AT p1)),(5,(i64 i10))],[]⟩) N 0 h1 (AH U) (fun _ hv=>by rw[Eh] at hv;cases hv) ?_)
  rintro n i10 h1
  try dsimp only at h1 ⊢
  rw[Eh] at h1
  refine AB fun K13 hK13=>sr U fun K14 hK14=>zm tb 2 U (zl tb U U (zq tb U (dn hK14 U ?_)))
  refine ci h1 U ?_ ?_ <;> clear h1 <;> intro b15 h1
  ·refine AG (hK13 _ (AB fun K16 hK16=>AP (AB fun K17 hK17=>?_)))
   refine Bk (by kernel_rfl) (by kernel_rfl) (by rfl) ?_
   iterate 2 refine yq tb rfl ?_
   refine bs h1 fun c18 gc18 h1=>yx DO gc18 U U U ?_
   iterate 3 refine yq tb rfl ?_
   refine bs h1 fun c19 gc19 h1=>yx DO gc19 U U U (yq tb U (bs h1 fun q20 gq20 h1=>Bh (v:=(.bool q20)) Ac (hb 58) (Sf gq20) rfl U U (yq tb U (BL (hK17 _ ?_)))))
   refine ci h1 U ?_ ?_ <;> clear h1 <;> intro b21 h1
   ·have b22:q20=false:=by simpa using b21
    refine zr tb U U ?_
    obtain rfl:=Sh.AA h1
    try dsimp only[id] at h0
    obtain rfl:=Sh.AA h0
    exact AI (xr (AS (L:=[(4,(.bool false))]) (.same U)))
   ·have b24:q20=true:=by simpa using b21
    exact AG (hK16 _ (AF U (zm tb 3 U (AE (xi (Sh.w (i10+1)) h1 (AH U))))))
  ·exact Ao (M11 () (Sh.AA h1).symm _ (AH U))
theorem RJ {N:Nat} {rec_laws_eqExpr:AD→AD→Option (Bool)} (hrec_laws_eqExpr :∀{p0:AD} {p1:AD} {r:Bool},rec_laws_eqExpr p0 p1=some r→Aa Tryz.prog 109 [(Bt p0),(Bt p1)] [] (fun v st=>v=(.bool r)∧st=[])) {p0:(List AD)} {p1:(List AD)} {r:Bool} (h0:J3 N rec_laws_eqExpr p0 p1=some r):Aa Tryz.prog 133 [(EY p0),(EY p1)] [] (fun v st=>v=(.bool r)∧st=[]):=by
 unfold J3 at h0
 refine ai Tryz.func133 U U U U (zr tb U U (AB fun K2 hK2=>sr U fun K3 hK3=>zq tb U (zl tb U U (zq tb U (zl tb U U (zq tb U (dn hK3 U ?_)))))))
 refine ci h0 U ?_ ?_ <;> clear h0 <;> intro b4 h0
 ·have b5:decide ((Sh.len p0)=(Sh.len p1))=false:=by simpa using b4
  refine zr tb U U ?_
  obtain rfl:=Sh.AA h0
  exact AI (xr (AS (L:=[(4,(.bool false))]) (.same U)))
 ·have b7:decide ((Sh.len p0)=(Sh.len p1))=true:=by simpa using b4
  refine AG (hK2 _ (AB fun K8 hK8=>zr tb U U ?_))
  obtain⟨o11,h1,h0⟩:=Sh.A8 h0
  have M11 :∀(_:Unit),o11=Sum.inr ()→∀s,Wk 0 s ⟨27,AL [],[]⟩→K8 s:=by
   intro _ hq s hw
   subst o11
   try dsimp only at h0
   refine hK8 _ (AM hw (zr tb U U ?_))
   obtain rfl:=Sh.AA h0
   exact AI (xr (AS (L:=[(4,(.bool true))]) (.same U)))
  refine AP (Ak (σ:=Int) (fun n v=>Ee p0 p1 rec_laws_eqExpr n v=some o11) (fun i10=>⟨27,AL [(0,(ls A4 p0)),(1,(ls A4 p1)),(5,(i64 i10))],[]⟩) N 0 h1 (AH U) (fun _ hv=>by rw[Ee] at hv;cases hv) ?_)
  rintro n i10 h1
  try dsimp only at h1 ⊢
  rw[Ee] at h1
  refine AB fun K13 hK13=>sr U fun K14 hK14=>zm tb 2 U (zl tb U U (zq tb U (dn hK14 U ?_)))
  refine ci h1 U ?_ ?_ <;> clear h1 <;> intro b15 h1
  ·refine AG (hK13 _ (AB fun K16 hK16=>AP (AB fun K17 hK17=>?_)))
   refine Bk (by kernel_rfl) (by kernel_rfl) (by rfl) ?_
   iterate 2 refine yq tb rfl ?_
   refine bs h1 fun c18 gc18 h1=>yz (Ff c18) (BY Bw U U gc18 (Aw _) rfl) rfl ?_
   iterate 3 refine yq tb rfl ?_
   refine bs h1 fun c19 gc19 h1=>yz (Ff c19) (BY Bw U U gc19 (Aw _) rfl) rfl (yq tb U (bs h1 fun q20 gq20 h1=>Bh (v:=(.bool q20)) Ac (hb 109) (hrec_laws_eqExpr gq20) rfl U U (yq tb U (BL (hK17 _ ?_)))))
   refine ci h1 U ?_ ?_ <;> clear h1 <;> intro b21 h1
   ·have b22:q20=false:=by simpa using b21
    refine zr tb U U ?_
    obtain rfl:=Sh.AA h1
    try dsimp only[id] at h0
    obtain rfl:=Sh.AA h0
    exact AI (xr (AS (L:=[(4,(.bool false))]) (.same U)))
   ·have b24:q20=true:=by simpa using b21
    exact AG (hK16 _ (AF U (zm tb 3 U (AE (xi (Sh.w (i10+1)) h1 (AH U))))))
  ·exact Ao (M11 () (Sh.AA h1).symm _ (AH U))
theorem Q3 {N:Nat} {rec_laws_eqExpr:AD→AD→Option (Bool)} (hrec_laws_eqExpr :∀{p0:AD} {p1:AD} {r:Bool},rec_laws_eqExpr p0 p1=some r→Aa Tryz.prog 109 [(Bt p0),(Bt p1)] [] (fun v st=>v=(.bool r)∧st=[])) {p0:AD} {p1:AD} {r:Bool} (h0:I4 N rec_laws_eqExpr p0 p1=some r):Aa Tryz.prog 109 [(Bt p0),(Bt p1)] [] (fun v st=>v=(.bool r)∧st=[]):=by
 unfold I4 at h0
 refine ai Tryz.func109 U U U U (sr U fun K1 hK1=>A7 (m:=0) Ac U U U U U (A7 (m:=1) Ac U U U U U (zq tb U (dn hK1 U (AB fun K2 hK2=>zr tb U U ?_)))))
 refine ci h0 U ?_ ?_ <;> clear h0 <;> intro b4 h0
 ·have b5:decide (p0.op=p1.op)=false:=by simpa using b4
  refine zr tb U U ?_
  obtain rfl:=Sh.AA h0
  exact AI (xr (Ai [(4,(.bool false))] U))
 ·have b7:decide (p0.op=p1.op)=true:=by simpa using b4
  refine AG (hK2 _ (AB fun K8 hK8=>zr tb U U ?_))
  refine ci h0 U ?_ ?_ <;> clear h0 <;> intro b10 h0
  ·have b11:decide (p0.num=p1.num)=false:=by simpa using b10
   refine zr tb U U ?_
   obtain rfl:=Sh.AA h0
   exact AI (xr (Ai [(4,(.bool false))] U))
  ·have b13:decide (p0.num=p1.num)=true:=by simpa using b10
   refine AG (hK8 _ (AB fun K14 hK14=>sr U fun K15 hK15=>zm tb 4 U (bs h0 fun q16 gq16 h0=>zc (hb 133) (RJ hrec_laws_eqExpr gq16) rfl U U (zq tb U (dn hK15 U ?_)))))
   refine ci h0 U ?_ ?_ <;> clear h0 <;> intro b17 h0
   ·have b18:q16=false:=by simpa using b17
    refine zr tb U U ?_
    obtain rfl:=Sh.AA h0
    exact AI (xr (Ai [(4,(.bool false))] U))
   ·have b20:q16=true:=by simpa using b17
    refine AG (hK14 _ (zr tb U U ?_))
    obtain rfl:=Sh.AA h0
    exact AI (xr (Ai [(4,(.bool true))] U))

theorem QO {N:Nat} :∀(n:Nat),∀{p0:AD} {p1:AD} {r:Bool},Fz N n p0 p1=some r→Aa Tryz.prog 109 [(Bt p0),(Bt p1)] [] (fun v st=>v=(.bool r)∧st=[]):=by
 intro n
 induction n with
 | zero=>intro p0 p1 r h0;cases h0
 | succ n ih=>
  intro p0 p1 r h0
  rw[Fz] at h0
  exact Q3 (fun h=>ih h) h0
theorem Sw {N:Nat} :∀{p0:AD} {p1:AD} {r:Bool},KY N p0 p1=some r→Aa Tryz.prog 109 [(Bt p0),(Bt p1)] [] (fun v st=>v=(.bool r)∧st=[]):=by
 intro p0 p1 r h0
 exact QO N h0
theorem S4 {N:Nat} {p0:Ah} {p1:Ah} {r:Bool} (h0:Iz N p0 p1=some r):Aa Tryz.prog 59 [(.agg (T6 p0)),(.agg (T6 p1))] [] (fun v st=>v=(.bool r)∧st=[]):=by
 unfold Iz at h0
 refine ai Tryz.func59 U U U U (sr U fun K1 hK1=>A7 (m:=0) Ac U U U U U (A7 (m:=1) Ac U U U U U (zq tb U (dn hK1 U (AB fun K2 hK2=>sr U fun K3 hK3=>zm tb 4 U (bs h0 fun q4 gq4 h0=>zc (hb 108) (NJ gq4) rfl U U (zq tb U ?_)))))))
 refine dn hK3 U ?_
 refine ci h0 U ?_ ?_ <;> clear h0 <;> intro b5 h0
 ·have b6:q4=false:=by simpa using b5
  refine zr tb U U ?_
  obtain rfl:=Sh.AA h0
  exact AI (xr (Ai [(4,(.bool false))] U))
 ·have b8:q4=true:=by simpa using b5
  refine AG (hK2 _ (AB fun K9 hK9=>zr tb U U ?_))
  refine ci h0 U ?_ ?_ <;> clear h0 <;> intro b11 h0
  ·have b12:decide (p0.result=p1.result)=false:=by simpa using b11
   refine zr tb U U ?_
   obtain rfl:=Sh.AA h0
   exact AI (xr (Ai [(4,(.bool false))] U))
  ·have b14:decide (p0.result=p1.result)=true:=by simpa using b11
   refine AG (hK9 _ (AB fun K15 hK15=>sr U fun K16 hK16=>zm tb 4 U (bs h0 fun q17 gq17 h0=>zc (hb 109) (Sw gq17) rfl U U (zq tb U (dn hK16 U ?_)))))
   refine ci h0 U ?_ ?_ <;> clear h0 <;> intro b18 h0
   ·have b19:q17=false:=by simpa using b18
    refine zr tb U U ?_
    obtain rfl:=Sh.AA h0
    exact AI (xr (Ai [(4,(.bool false))] U))
   ·have b21:q17=true:=by simpa using b18
    refine AG (hK15 _ (zr tb U U ?_))
    obtain rfl:=Sh.AA h0
    exact AI (xr (Ai [(4,(.bool true))] U))
theorem Rv {N:Nat} {p0:(List Ah)} {p1:(List Ah)} {r:Bool} (h0:IL N p0 p1=some r):Aa Tryz.prog 28 [(ls Ar p0),(ls Ar p1)] [] (fun v st=>v=(.bool r)∧st=[]):=by
 unfold IL at h0
 refine ai Tryz.func28 U U U U (zr tb U U (AB fun K2 hK2=>sr U fun K3 hK3=>zq tb U (zl tb U U (zq tb U (zl tb U U (zq tb U (dn hK3 U ?_)))))))
 refine ci h0 U ?_ ?_ <;> clear h0 <;> intro b4 h0
 ·have b5:decide ((Sh.len p0)=(Sh.len p1))=false:=by simpa using b4
  refine zr tb U U ?_
  obtain rfl:=Sh.AA h0
  exact AI (xr (AS (L:=[(4,(.bool false))]) (.same U)))
 ·have b7:decide ((Sh.len p0)=(Sh.len p1))=true:=by simpa using b4
  refine AG (hK2 _ (AB fun K8 hK8=>zr tb U U ?_))
  obtain⟨o11,h1,h0⟩:=Sh.A8 h0
  have M11 :∀(_:Unit),o11=Sum.inr ()→∀s,Wk 0 s ⟨27,AL [],[]⟩→K8 s:=by
   intro _ hq s hw
   subst o11
   try dsimp only at h0
   refine hK8 _ (AM hw (zr tb U U ?_))
   obtain rfl:=Sh.AA h0
   exact AI (xr (AS (L:=[(4,(.bool true))]) (.same U)))
  refine AP (Ak (σ:=Int) (fun n v=>Ei N p0 p1 n v=some o11) (fun i10=>⟨27,AL [(0,(ls Ar p0)),(1,(ls Ar p1)),(5,(i64 i10))],[]⟩) N 0 h1 (AH U) (fun _ hv=>by rw[Ei] at hv;cases hv) ?_)
  rintro n i10 h1
  try dsimp only at h1 ⊢
  rw[Ei] at h1
  refine AB fun K13 hK13=>sr U fun K14 hK14=>zm tb 2 U (zl tb U U (zq tb U (dn hK14 U ?_)))
  refine ci h1 U ?_ ?_ <;> clear h1 <;> intro b15 h1
  ·refine AG (hK13 _ (AB fun K16 hK16=>AP (AB fun K17 hK17=>?_)))
   refine Bk (by kernel_rfl) (by kernel_rfl) (by rfl) ?_
   iterate 2 refine yq tb rfl ?_
   refine bs h1 fun c18 gc18 h1=>yx B3 gc18 U U U ?_
   iterate 3 refine yq tb rfl ?_
   refine bs h1 fun c19 gc19 h1=>yx B3 gc19 U U U (yq tb U (bs h1 fun q20 gq20 h1=>Bh (v:=(.bool q20)) Ac (hb 59) (S4 gq20) rfl U U (yq tb U (BL (hK17 _ ?_)))))
   refine ci h1 U ?_ ?_ <;> clear h1 <;> intro b21 h1
   ·have b22:q20=false:=by simpa using b21
    refine zr tb U U ?_
    obtain rfl:=Sh.AA h1
    try dsimp only[id] at h0
    obtain rfl:=Sh.AA h0
    exact AI (xr (AS (L:=[(4,(.bool false))]) (.same U)))
   ·have b24:q20=true:=by simpa using b21
    exact AG (hK16 _ (AF U (zm tb 3 U (AE (xi (Sh.w (i10+1)) h1 (AH U))))))
  ·exact Ao (M11 () (Sh.AA h1).symm _ (AH U))
theorem Gx {N:Nat} {p0:AN} {p1:AN} {r:Bool} (h0:E0 N p0 p1=some r):Aa Tryz.prog 10 [(HH p0),(HH p1)] [] (fun v st=>v=(.bool r)∧st=[]):=by
 unfold E0 at h0
 refine ai Tryz.func10 U U U U (sr U fun K1 hK1=>A7 (m:=0) Ac U U U U U (A7 (m:=1) Ac U U U U U (zq tb U (dn hK1 U (AB fun K2 hK2=>sr U fun K3 hK3=>zm tb 4 U (bs h0 fun q4 gq4 h0=>zc (hb 27) (SG gq4) rfl U U (zq tb U ?_)))))))
 refine dn hK3 U ?_
 refine ci h0 U ?_ ?_ <;> clear h0 <;> intro b5 h0
 ·have b6:q4=false:=by simpa using b5
  refine zr tb U U ?_
  obtain rfl:=Sh.AA h0
  exact AI (xr (Ai [(4,(.bool false))] U))
 ·have b8:q4=true:=by simpa using b5
  refine AG (hK2 _ (AB fun K9 hK9=>sr U fun K10 hK10=>zm tb 4 U (bs h0 fun q11 gq11 h0=>zc (hb 28) (Rv gq11) rfl U U (zq tb U (dn hK10 U ?_)))))
  refine ci h0 U ?_ ?_ <;> clear h0 <;> intro b12 h0
  ·have b13:q11=false:=by simpa using b12
   refine zr tb U U ?_
   obtain rfl:=Sh.AA h0
   exact AI (xr (Ai [(4,(.bool false))] U))
  ·have b15:q11=true:=by simpa using b12
   refine AG (hK9 _ (zr tb U U ?_))
   obtain rfl:=Sh.AA h0
   exact AI (xr (Ai [(4,(.bool true))] U))
theorem Lb {N:Nat} {s0:(List Int)} {p1:Int} {r:Int×(List Int)} (h0:Gg N s0 p1=some r):Aa Tryz.prog 61 [(ow 0 0 s0),(i64 p1)] [(BB s0)] (fun v st=>v=(i64 r.1)∧st=[(BB r.2)]):=by
 unfold Gg at h0
 refine ai Tryz.func61 U U U U (zr tb U U (AB fun K2 hK2=>zr tb U U (bs h0 fun o9 h1 h0=>?_)))
 have M9 :∀(k7:Int) (l8:(List Int)),o9=(k7,l8)→∀s,Wk 1 s ⟨19,AL [(1,(i64 k7))],[(BB l8)]⟩→K2 s:=by
  intro k7 l8 hq s hw
  subst o9
  try dsimp only at h0
  refine hK2 _ (AM hw (zr tb U U ?_))
  obtain rfl:=Sh.AA h0
  exact AI (xr (AS (L:=[(4,(i64 k7))]) (.same U)))
 refine AP (Ak (σ:=Int×Int×(List Int)) (fun n v=>EA  n v.1 v.2.1 v.2.2=some o9) (fun (k4,i5,l6)=>⟨19,AL [(0,(ow 0 0 l6)),(1,(i64 k4)),(5,(i64 i5))],[(ro 0 3 1 eI l6)]⟩) N (p1,0,s0) h1 (AH U) (fun _ hv=>by rw[EA] at hv;cases hv) ?_)
 rintro n ⟨k4,i5,l6⟩ h1
 try dsimp only at h1 ⊢
 rw[EA] at h1
 refine AB fun K11 hK11=>sr U fun K12 hK12=>zm tb 2 U (zz (B0 l6) (Cw Fp U U U) rfl (zq tb U (dn hK12 U ?_)))
 refine ci h1 U ?_ ?_ <;> clear h1 <;> intro b13 h1
 ·refine AG (hK11 _ (AB fun K14 hK14=>AP (sr U fun K15 hK15=>zm tb 3 U (bs h1 fun c16 gc16 h1=>zz (NR i5) (Bb BJ U U U U gc16) rfl (HW (u':=k4) Ac Ja U U gc16 U U U (show 0+1≤1 by decide) rfl U (dn hK15 U (AF U (zm tb 3 U (dn hK14 U ?_)))))))))
  refine AF U (zm tb 3 U ?_)
  exact AE (xi (Sh.w (k4+1),Sh.w (i5+1),Sh.put l6 i5 k4) h1 (AS (L:=[(0,(.own 0 0 (List.length (Sh.put l6 i5 k4)))),(1,(i64 (Sh.w (k4+1)))),(5,(i64 (Sh.w (i5+1))))]) ⟨(.len (by simp only[Sh.Az])),.rfl,.rfl,trivial⟩))
 ·exact Ao (M9 k4 l6 (Sh.AA h1).symm _ (AH U))
theorem Qq {N:Nat} {s0:(List BP)} {p1:Int} {r:Int×(List BP)} (h0:Hf N s0 p1=some r):Aa Tryz.prog 60 [(ow 0 0 s0),(i64 p1)] [(Xv s0)] (fun v st=>v=(i64 r.1)∧st=[(Xv r.2)]):=by
 unfold Hf at h0
 refine ai Tryz.func60 U U U U (zr tb U U (AB fun K2 hK2=>zr tb U U (bs h0 fun o9 h1 h0=>?_)))
 have M9 :∀(k7:Int) (l8:(List BP)),o9=(k7,l8)→∀s,Wk 1 s ⟨20,AL [(1,(i64 k7))],[(Xv l8)]⟩→K2 s:=by
  intro k7 l8 hq s hw
  subst o9
  try dsimp only at h0
  refine hK2 _ (AM hw (zr tb U U ?_))
  obtain rfl:=Sh.AA h0
  exact AI (xr (AS (L:=[(4,(i64 k7))]) (.same U)))
 refine AP (Ak (σ:=Int×Int×(List BP)) (fun n v=>EH N n v.1 v.2.1 v.2.2=some o9) (fun (k4,i5,l6)=>⟨20,AL [(0,(ow 0 0 l6)),(1,(i64 k4)),(5,(i64 i5))],[(ro 0 111 1 (CA 3) l6)]⟩) N (p1,0,s0) h1 (AH U) (fun _ hv=>by rw[EH] at hv;cases hv) ?_)
 rintro n ⟨k4,i5,l6⟩ h1
 try dsimp only at h1 ⊢
 rw[EH] at h1
 refine AB fun K11 hK11=>sr U fun K12 hK12=>zm tb 2 U (zz (B0 l6) (Cw O6 U U U) rfl (zq tb U (dn hK12 U ?_)))
 refine ci h1 U ?_ ?_ <;> clear h1 <;> intro b13 h1
 ·refine AG (hK11 _ (AB fun K14 hK14=>AP (AF U (zm tb 2 U (bs h1 fun c15 gc15 h1=>zz (NR i5) (Bb Io U U U U gc15) rfl (zq tb U (Af (Bj (id:=0) (j:=0) (i:=i5) (c:=c15) (ys:=c15.fields) (encY:=eI) rfl gc15 U U U U U) (zz (ow 1 0 c15.fields) (CZ H3 U U (Be gc15) rfl) rfl (zq tb U (bs h1 fun q16 gq16 h1=>?_))))))))))
  refine Fe (rowsP:=[⟨0,3,1,List.map eI c15.fields⟩]) (rows0:=[⟨0,3,1,List.map eI c15.fields⟩]) (rows1:=[(Zn q16.2)]) (rows2:=[]) (rows1':=[(Zn q16.2)]) (rows2':=[]) (st':=[⟨0,111,1,hole l6 (CA 3) i5 [(.own 1 0 (List.length c15.fields))]⟩,(Zn q16.2)]) (v':=(i64 q16.1)) [1] Ac (hb 61) (Lb gq16) rfl (by decide) rfl U (.pure (AJ fun _=>U) .nil) rfl U (.pure (AJ fun _=>U) .nil) .nil U U (fun hln=>?_)
  have ln17:List.length q16.2=List.length c15.fields:=by simpa only[List.length_map] using hln 0 _ _ rfl rfl rfl
  refine Af (Wk.take (id:=0) (m:=1) (j:=0) (i:=i5) (c:=c15) (ys:=q16.2) (encY:=eI) rfl gc15 U U (by first | (simp only[Sh.Az];done) | (simp only[Sh.Az];omega) | omega) (by decide) (show 1≤1 by decide) (fun _=>U) rfl U) ?_
  refine Af (Ew (id:=0) (i:=i5) (u:=(BP.mk q16.2)) rfl U U) ?_
  generalize hg901:Sh.put l6 i5 (BP.mk q16.2)=lg901 at h1 ⊢
  have ln901:=congrArg List.length hg901
  simp only[Sh.Az] at ln901
  refine zq tb U (dn hK14 U (AF U (zm tb 3 U ?_)))
  exact AE (xi (q16.1,Sh.w (i5+1),lg901) h1 (by refine Wk.trans (AU (L:=[(0,(.own 0 0 (List.length l6))),(1,(i64 q16.1)),(5,(i64 (Sh.w (i5+1))))]) (st':=[⟨0,111,1,List.map (CA 3) lg901⟩]) [0] U (by decide) rfl U (.deep (AR fun _=>U) .nil) ⟨.rfl,.rfl,.rfl,trivial⟩) ?_;exact AS (L:=[(0,(.own 0 0 (List.length lg901))),(1,(i64 q16.1)),(5,(i64 (Sh.w (i5+1))))]) ⟨(.len (by first | (simp only[Sh.Az];done) | (simp only[Sh.Az];omega) | omega)),.rfl,.rfl,trivial⟩))
 ·exact Ao (M9 k4 l6 (Sh.AA h1).symm _ (AH U))
theorem P2 {N:Nat} {s0:(List Ab)} {p1:Int} {r:Int×(List Ab)} (h0:G9 N s0 p1=some r):Aa Tryz.prog 29 [(ow 0 0 s0),(i64 p1)] [(FD s0)] (fun v st=>v=(i64 r.1)∧st=[(FD r.2)]):=by
 unfold G9 at h0
 refine ai Tryz.func29 U U U U (zr tb U U (AB fun K2 hK2=>zr tb U U (bs h0 fun o9 h1 h0=>?_)))
 have M9 :∀(k7:Int) (l8:(List Ab)),o9=(k7,l8)→∀s,Wk 1 s ⟨34,AL [(1,(i64 k7))],[(FD l8)]⟩→K2 s:=by
  intro k7 l8 hq s hw
  subst o9
  try dsimp only at h0
  refine hK2 _ (AM hw (zr tb U U ?_))
  obtain rfl:=Sh.AA h0
  exact AI (xr (AS (L:=[(4,(i64 k7))]) (.same U)))
 refine AP (Ak (σ:=Int×Int×(List Ab)) (fun n v=>Dt N n v.1 v.2.1 v.2.2=some o9) (fun (k4,i5,l6)=>⟨34,AL [(0,(ow 0 0 l6)),(1,(i64 k4)),(5,(i64 i5))],[(ro 0 81 3 (Ad 111 3) l6)]⟩) N (p1,0,s0) h1 (AH U) (fun _ hv=>by rw[Dt] at hv;cases hv) ?_)
 rintro n ⟨k4,i5,l6⟩ h1
 try dsimp only at h1 ⊢
 rw[Dt] at h1
 refine AB fun K11 hK11=>sr U fun K12 hK12=>zm tb 2 U (zz (B0 l6) (Cw Qu U U U) rfl (zq tb U (dn hK12 U ?_)))
 refine ci h1 U ?_ ?_ <;> clear h1 <;> intro b13 h1
 ·refine AG (hK11 _ (AB fun K14 hK14=>AP (sr U fun K15 hK15=>zm tb 3 U (bs h1 fun c16 gc16 h1=>zz (NR i5) (Bb DO U U U U gc16) rfl (zq tb U (HW (u':=(Ab.mk k4 c16.to c16.cons)) Ac Ja U U gc16 U U U (show 0+1≤3 by decide) rfl U ?_))))))
  generalize hg901:Sh.put l6 i5 (Ab.mk k4 c16.to c16.cons)=lg901 at h1 ⊢
  have ln901:=congrArg List.length hg901
  simp only[Sh.Az] at ln901
  refine dn hK15 U (zr tb U U (sr U fun K18 hK18=>zm tb 3 U (bs h1 fun c19 gc19 h1=>?_)))
  refine zz (.ptr 0 0 (Int.toNat i5) 0) (Bb DO U U U (by first | (simp only[Sh.Az];done) | omega) gc19) rfl ?_
  refine zq tb U (HW (u':=(Ab.mk c19.from_ (Sh.w (k4+1)) c19.cons)) Ac Ja U U gc19 U U U (show 1+1≤3 by decide) rfl U ?_)
  generalize hg902:Sh.put lg901 i5 (Ab.mk c19.from_ (Sh.w (k4+1)) c19.cons)=lg902 at h1 ⊢
  have ln902:=congrArg List.length hg902
  simp only[Sh.Az] at ln902
  refine dn hK18 U (zr tb U U (AF U (zm tb 2 U (bs h1 fun c21 gc21 h1=>?_))))
  refine zz (.ptr 0 0 (Int.toNat i5) 0) (Bb DO U U U (by first | (simp only[Sh.Az];done) | omega) gc21) rfl ?_
  refine zq tb U (Af (Bj (id:=0) (j:=2) (i:=i5) (c:=c21) (ys:=c21.cons) (encY:=(CA 3)) rfl gc21 U U U U U) (zz (ow 1 0 c21.cons) (CZ PA U U (Be gc21) rfl) rfl (zq tb U (bs h1 fun q22 gq22 h1=>?_))))
  refine Fe (rowsP:=[⟨0,111,1,List.map (CA 3) c21.cons⟩]) (rows0:=[⟨0,111,1,List.map (CA 3) c21.cons⟩]) (rows1:=[⟨0,111,1,List.map (CA 3) q22.2⟩]) (rows2:=[]) (rows1':=[⟨0,111,1,List.map (CA 3) q22.2⟩]) (rows2':=[]) (st':=[⟨0,81,3,hole lg902 (Ad 111 3) i5 [(i64 c21.from_),(i64 c21.to),(.own 1 0 (List.length c21.cons))]⟩,⟨0,111,1,List.map (CA 3) q22.2⟩]) (v':=(i64 q22.1)) [1] Ac (hb 60) (Qq gq22) rfl (by decide) rfl U (.deep (AR fun _=>U) .nil) rfl U (.deep (AR fun _=>U) .nil) .nil U U (fun hln=>?_)
  have ln23:List.length q22.2=List.length c21.cons:=by simpa only[List.length_map] using hln 0 _ _ rfl rfl rfl
  refine Af (Wk.take (id:=0) (m:=1) (j:=2) (i:=i5) (c:=c21) (ys:=q22.2) (encY:=(CA 3)) rfl gc21 U U (by first | (simp only[Sh.Az];done) | (simp only[Sh.Az];omega) | omega) (by decide) (show 1≤1 by decide) (fun _=>U) rfl U) ?_
  refine Af (Ew (id:=0) (i:=i5) (u:=(Ab.mk c21.from_ c21.to q22.2)) rfl U U) ?_
  generalize hg903:Sh.put lg902 i5 (Ab.mk c21.from_ c21.to q22.2)=lg903 at h1 ⊢
  have ln903:=congrArg List.length hg903
  simp only[Sh.Az] at ln903
  refine zq tb U (dn hK14 U (AF U (zm tb 3 U ?_)))
  exact AE (xi (q22.1,Sh.w (i5+1),lg903) h1 (by refine Wk.trans (AU (L:=[(0,(.own 0 0 (List.length l6))),(1,(i64 q22.1)),(5,(i64 (Sh.w (i5+1))))]) (st':=[⟨0,81,3,List.map (Ad 111 3) lg903⟩]) [0] U (by decide) rfl U (.deep (AR fun _=>U) .nil) ⟨.rfl,.rfl,.rfl,trivial⟩) ?_;exact AS (L:=[(0,(.own 0 0 (List.length lg903))),(1,(i64 q22.1)),(5,(i64 (Sh.w (i5+1))))]) ⟨(.len (by first | (simp only[Sh.Az];done) | (simp only[Sh.Az];omega) | omega)),.rfl,.rfl,trivial⟩))
 ·exact Ao (M9 k4 l6 (Sh.AA h1).symm _ (AH U))
theorem Nv {N:Nat} {rec_laws_markExprS:(List AD)→Int→Option (Int×(List AD))} (hrec_laws_markExprS :∀{s0:(List AD)} {p1:Int} {r:Int×(List AD)},rec_laws_markExprS s0 p1=some r→Aa Tryz.prog 62 [(ow 0 0 s0),(i64 p1)] [(CI s0)] (fun v st=>v=(i64 r.1)∧st=[(CI r.2)])) {s0:(List AD)} {p1:Int} {r:Int×(List AD)} (h0:Ha N rec_laws_markExprS s0 p1=some r):Aa Tryz.prog 62 [(ow 0 0 s0),(i64 p1)] [(CI s0)] (fun v st=>v=(i64 r.1)∧st=[(CI r.2)]):=by
 unfold Ha at h0
 refine ai Tryz.func62 U U U U (zr tb U U (AB fun K2 hK2=>zr tb U U (bs h0 fun o9 h1 h0=>?_)))
 have M9 :∀(k7:Int) (l8:(List AD)),o9=(k7,l8)→∀s,Wk 1 s ⟨34,AL [(1,(i64 k7))],[(CI l8)]⟩→K2 s:=by
  intro k7 l8 hq s hw
  subst o9
  try dsimp only at h0
  refine hK2 _ (AM hw (zr tb U U ?_))
  obtain rfl:=Sh.AA h0
  exact AI (xr (AS (L:=[(4,(i64 k7))]) (.same U)))
 refine AP (Ak (σ:=Int×Int×(List AD)) (fun n v=>C5 rec_laws_markExprS n v.1 v.2.1 v.2.2=some o9) (fun (k4,i5,l6)=>⟨34,AL [(0,(ow 0 0 l6)),(1,(i64 k4)),(5,(i64 i5))],[(ro 0 44 3 (Au 44) l6)]⟩) N (p1,0,s0) h1 (AH U) (fun _ hv=>by rw[C5] at hv;cases hv) ?_)
 rintro n ⟨k4,i5,l6⟩ h1
 try dsimp only at h1 ⊢
 rw[C5] at h1
 refine AB fun K11 hK11=>sr U fun K12 hK12=>zm tb 2 U (zz (B0 l6) (Cw US U U U) rfl (zq tb U (dn hK12 U ?_)))
 refine ci h1 U ?_ ?_ <;> clear h1 <;> intro b13 h1
 ·refine AG (hK11 _ (AB fun K14 hK14=>AP (sr U fun K15 hK15=>zm tb 3 U (bs h1 fun c16 gc16 h1=>zz (NR i5) (Bb Bw U U U U gc16) rfl (zq tb U ?_)))))
  refine HW (u':=(AD.mk k4 c16.num c16.kids)) Ac Ja U U gc16 U U U (show 0+1≤3 by decide) (by rw[CX,CX];rfl) rfl ?_
  generalize hg901:Sh.put l6 i5 (AD.mk k4 c16.num c16.kids)=lg901 at h1 ⊢
  have ln901:=congrArg List.length hg901
  simp only[Sh.Az] at ln901
  refine dn hK15 U (zr tb U U (sr U fun K18 hK18=>zm tb 3 U (bs h1 fun c19 gc19 h1=>?_)))
  refine zz (.ptr 0 0 (Int.toNat i5) 0) (Bb Bw U U U (by first | (simp only[Sh.Az];done) | omega) gc19) rfl ?_
  refine zq tb U ?_
  refine HW (u':=(AD.mk c19.op (Sh.w (k4+1)) c19.kids)) Ac Ja U U gc19 U U U (show 1+1≤3 by decide) (by rw[CX,CX];rfl) rfl ?_
  generalize hg902:Sh.put lg901 i5 (AD.mk c19.op (Sh.w (k4+1)) c19.kids)=lg902 at h1 ⊢
  have ln902:=congrArg List.length hg902
  simp only[Sh.Az] at ln902
  refine dn hK18 U (zr tb U U (AF U (zm tb 2 U (bs h1 fun c21 gc21 h1=>?_))))
  refine zz (.ptr 0 0 (Int.toNat i5) 0) (Bb Bw U U U (by first | (simp only[Sh.Az];done) | omega) gc21) rfl ?_
  refine zq tb U (Af (Bj (id:=0) (j:=2) (i:=i5) (c:=c21) (ys:=c21.kids) (encY:=(Au 44)) rfl gc21 (CX _) rfl U U U) (zz (ow 1 0 c21.kids) (CZ VZ U U (Be gc21) rfl) rfl (zq tb U (bs h1 fun q22 gq22 h1=>?_))))
  refine Fe (rowsP:=[⟨0,44,3,List.map (Au 44) c21.kids⟩]) (rows0:=[⟨0,44,3,List.map (Au 44) c21.kids⟩]) (rows1:=[(Z4 q22.2)]) (rows2:=[]) (rows1':=[(Z4 q22.2)]) (rows2':=[]) (st':=[⟨0,44,3,hole lg902 (Au 44) i5 [(i64 c21.op),(i64 c21.num),(.own 1 0 (List.length c21.kids))]⟩,(Z4 q22.2)]) (v':=(i64 q22.1)) [1] Ac (hb 62) (hrec_laws_markExprS gq22) rfl (by decide) rfl U (.deep (AR Ag) .nil) rfl U (.deep (AR Ag) .nil) .nil U U (fun hln=>?_)
  have ln23:List.length q22.2=List.length c21.kids:=by simpa only[List.length_map] using hln 0 _ _ rfl rfl rfl
  refine Af (Wk.take (id:=0) (m:=1) (j:=2) (i:=i5) (c:=c21) (ys:=q22.2) (encY:=(Au 44)) rfl gc21 U U (by first | (simp only[Sh.Az];done) | (simp only[Sh.Az];omega) | omega) (by decide) (show 1≤1 by decide) Dz U U) ?_
  refine Af (Ew (id:=0) (i:=i5) (u:=(AD.mk c21.op c21.num q22.2)) rfl (CX (AD.mk c21.op c21.num q22.2)).symm U) ?_
  generalize hg903:Sh.put lg902 i5 (AD.mk c21.op c21.num q22.2)=lg903 at h1 ⊢
  have ln903:=congrArg List.length hg903
  simp only[Sh.Az] at ln903
  refine zq tb U (dn hK14 U (AF U (zm tb 3 U ?_)))
  exact AE (xi (q22.1,Sh.w (i5+1),lg903) h1 (by refine Wk.trans (AU (L:=[(0,(.own 0 0 (List.length l6))),(1,(i64 q22.1)),(5,(i64 (Sh.w (i5+1))))]) (st':=[⟨0,44,3,List.map (Au 44) lg903⟩]) [0] U (by decide) rfl U (.deep (AR Ag) .nil) ⟨.rfl,.rfl,.rfl,trivial⟩) ?_;exact AS (L:=[(0,(.own 0 0 (List.length lg903))),(1,(i64 q22.1)),(5,(i64 (Sh.w (i5+1))))]) ⟨(.len (by first | (simp only[Sh.Az];done) | (simp only[Sh.Az];omega) | omega)),.rfl,.rfl,trivial⟩))
 ·exact Ao (M9 k4 l6 (Sh.AA h1).symm _ (AH U))

theorem OA {N:Nat} :∀(n:Nat),∀{s0:(List AD)} {p1:Int} {r:Int×(List AD)},ED N n s0 p1=some r→Aa Tryz.prog 62 [(ow 0 0 s0),(i64 p1)] [(CI s0)] (fun v st=>v=(i64 r.1)∧st=[(CI r.2)]):=by
 intro n
 induction n with
 | zero=>intro s0 p1 r h0;cases h0
 | succ n ih=>
  intro s0 p1 r h0
  rw[ED] at h0
  exact Nv (fun h=>ih h) h0
theorem PZ {N:Nat} :∀{s0:(List AD)} {p1:Int} {r:Int×(List AD)},IU N s0 p1=some r→Aa Tryz.prog 62 [(ow 0 0 s0),(i64 p1)] [(CI s0)] (fun v st=>v=(i64 r.1)∧st=[(CI r.2)]):=by
 intro s0 p1 r h0
 exact OA N h0
theorem Pv {N:Nat} {s0:(List Ah)} {p1:Int} {r:Int×(List Ah)} (h0:G4 N s0 p1=some r):Aa Tryz.prog 30 [(ow 0 0 s0),(i64 p1)] [(CM s0)] (fun v st=>v=(i64 r.1)∧st=[(CM r.2)]):=by
 unfold G4 at h0
 refine ai Tryz.func30 U U U U (zr tb U U (AB fun K2 hK2=>zr tb U U (bs h0 fun o9 h1 h0=>?_)))
 have M9 :∀(k7:Int) (l8:(List Ah)),o9=(k7,l8)→∀s,Wk 1 s ⟨51,AL [(1,(i64 k7))],[(CM l8)]⟩→K2 s:=by
  intro k7 l8 hq s hw
  subst o9
  try dsimp only at h0
  refine hK2 _ (AM hw (zr tb U U ?_))
  obtain rfl:=Sh.AA h0
  exact AI (xr (AS (L:=[(4,(i64 k7))]) (.same U)))
 refine AP (Ak (σ:=Int×Int×(List Ah)) (fun n v=>Dg N n v.1 v.2.1 v.2.2=some o9) (fun (k4,i5,l6)=>⟨51,AL [(0,(ow 0 0 l6)),(1,(i64 k4)),(5,(i64 i5))],[(ro 0 48 5 (A2 3 44) l6)]⟩) N (p1,0,s0) h1 (AH U) (fun _ hv=>by rw[Dg] at hv;cases hv) ?_)
 rintro n ⟨k4,i5,l6⟩ h1
 try dsimp only at h1 ⊢
 rw[Dg] at h1
 refine AB fun K11 hK11=>sr U fun K12 hK12=>zm tb 2 U (zz (B0 l6) (Cw Vo U U U) rfl (zq tb U (dn hK12 U ?_)))
 refine ci h1 U ?_ ?_ <;> clear h1 <;> intro b13 h1
 ·refine AG (hK11 _ (AB fun K14 hK14=>AP (sr U fun K15 hK15=>zm tb 2 U (bs h1 fun c16 gc16 h1=>zz (NR i5) (Bb B3 U U U U gc16) rfl (zq tb U (Af (Bj (id:=0) (j:=0) (i:=i5) (c:=c16) (ys:=c16.params) (encY:=eI) rfl gc16 U U U U U) (zz (ow 1 0 c16.params) (CZ H3 U U (Be gc16) rfl) rfl (zq tb U (bs h1 fun q17 gq17 h1=>?_)))))))))
  refine Fe (rowsP:=[⟨0,3,1,List.map eI c16.params⟩]) (rows0:=[⟨0,3,1,List.map eI c16.params⟩]) (rows1:=[(Zn q17.2)]) (rows2:=[]) (rows1':=[(Zn q17.2)]) (rows2':=[]) (st':=[⟨0,48,5,hole l6 (A2 3 44) i5 [(.own 1 0 (List.length c16.params)),(i64 c16.result),(i64 c16.body.op),(i64 c16.body.num),(.dv 44 3 (List.map (Au 44) c16.body.kids))]⟩,(Zn q17.2)]) (v':=(i64 q17.1)) [1] Ac (hb 61) (Lb gq17) rfl (by decide) rfl U (.pure (AJ fun _=>U) .nil) rfl U (.pure (AJ fun _=>U) .nil) .nil U U (fun hln=>?_)
  have ln18:List.length q17.2=List.length c16.params:=by simpa only[List.length_map] using hln 0 _ _ rfl rfl rfl
  refine Af (Wk.take (id:=0) (m:=1) (j:=0) (i:=i5) (c:=c16) (ys:=q17.2) (encY:=eI) rfl gc16 U U (by first | (simp only[Sh.Az];done) | (simp only[Sh.Az];omega) | omega) (by decide) (show 1≤1 by decide) (fun _=>U) rfl U) ?_
  refine Af (Ew (id:=0) (i:=i5) (u:=(Ah.mk q17.2 c16.result c16.body)) rfl U U) ?_
  generalize hg901:Sh.put l6 i5 (Ah.mk q17.2 c16.result c16.body)=lg901 at h1 ⊢
  have ln901:=congrArg List.length hg901
  simp only[Sh.Az] at ln901
  refine zq tb U (dn hK15 U (sr U fun K19 hK19=>zm tb 3 U (bs h1 fun c20 gc20 h1=>?_)))
  refine zz (.ptr 0 0 (Int.toNat i5) 0) (Bb B3 U U U (by first | (simp only[Sh.Az];done) | (simp only[Sh.Az];omega) | omega) gc20) rfl ?_
  refine zq tb U (HW (u':=(Ah.mk c20.params q17.1 c20.body)) Ac Ja U U gc20 U U U (show 1+1≤5 by decide) rfl U ?_)
  generalize hg902:Sh.put lg901 i5 (Ah.mk c20.params q17.1 c20.body)=lg902 at h1 ⊢
  have ln902:=congrArg List.length hg902
  simp only[Sh.Az] at ln902
  refine dn hK19 U (zr tb U U (sr U fun K22 hK22=>zm tb 3 U (bs h1 fun c23 gc23 h1=>?_)))
  refine zz (.ptr 0 0 (Int.toNat i5) 0) (Bb B3 U U U (by first | (simp only[Sh.Az];done) | (simp only[Sh.Az];omega) | omega) gc23) rfl ?_
  refine zm tb 2 U (HW (u':=(Ah.mk c23.params c23.result (AD.mk (Sh.w (q17.1+1)) c23.body.num c23.body.kids))) Ac Ja U U gc23 U U U (show 2+1≤5 by decide) rfl U ?_)
  generalize hg903:Sh.put lg902 i5 (Ah.mk c23.params c23.result (AD.mk (Sh.w (q17.1+1)) c23.body.num c23.body.kids))=lg903 at h1 ⊢
  have ln903:=congrArg List.length hg903
  simp only[Sh.Az] at ln903
  refine dn hK22 U (zr tb U U (sr U fun K25 hK25=>zm tb 3 U (bs h1 fun c26 gc26 h1=>?_)))
  refine zz (.ptr 0 0 (Int.toNat i5) 0) (Bb B3 U U U (by first | (simp only[Sh.Az];done) | (simp only[Sh.Az];omega) | omega) gc26) rfl ?_
  refine zm tb 2 U (HW (u':=(Ah.mk c26.params c26.result (AD.mk c26.body.op (Sh.w ((Sh.w (q17.1+1)) + 1)) c26.body.kids))) Ac Ja U U gc26 U U U (show 3+1≤5 by decide) rfl U ?_)
  generalize hg904:Sh.put lg903 i5 (Ah.mk c26.params c26.result (AD.mk c26.body.op (Sh.w ((Sh.w (q17.1+1)) + 1)) c26.body.kids))=lg904 at h1 ⊢
  have ln904:=congrArg List.length hg904
  simp only[Sh.Az] at ln904
  refine dn hK25 U (zr tb U U (AF U (zm tb 2 U (bs h1 fun c28 gc28 h1=>?_))))
  refine zz (.ptr 0 0 (Int.toNat i5) 0) (Bb B3 U U U (by first | (simp only[Sh.Az];done) | (simp only[Sh.Az];omega) | omega) gc28) rfl ?_
  refine zm tb 2 U (Af (Bj (id:=0) (j:=4) (i:=i5) (c:=c28) (ys:=c28.body.kids) (encY:=(Au 44)) rfl gc28 U U U U U) (zz (ow 2 0 c28.body.kids) (CZ VZ U U (Be gc28) rfl) rfl (zq tb U (bs h1 fun q29 gq29 h1=>?_))))
  refine Fe (rowsP:=[⟨0,44,3,List.map (Au 44) c28.body.kids⟩]) (rows0:=[⟨0,44,3,List.map (Au 44) c28.body.kids⟩]) (rows1:=[(Z4 q29.2)]) (rows2:=[]) (rows1':=[(Z4 q29.2)]) (rows2':=[]) (st':=[⟨0,48,5,hole lg904 (A2 3 44) i5 [(.dv 3 1 (List.map eI c28.params)),(i64 c28.result),(i64 c28.body.op),(i64 c28.body.num),(.own 2 0 (List.length c28.body.kids))]⟩,⟨1,3,1,[]⟩,(Z4 q29.2)]) (v':=(i64 q29.1)) [2] Ac (hb 62) (PZ gq29) rfl (by decide) rfl U (.deep (AR Ag) .nil) rfl U (.deep (AR Ag) .nil) .nil U U (fun hln=>?_)
  have ln30:List.length q29.2=List.length c28.body.kids:=by simpa only[List.length_map] using hln 0 _ _ rfl rfl rfl
  refine Af (Wk.take (id:=0) (m:=2) (j:=4) (i:=i5) (c:=c28) (ys:=q29.2) (encY:=(Au 44)) rfl gc28 U U (by first | (simp only[Sh.Az];done) | (simp only[Sh.Az];omega) | omega) (by decide) (show 1≤2 by decide) Dz U U) ?_
  refine Af (Ew (id:=0) (i:=i5) (u:=(Ah.mk c28.params c28.result (AD.mk c28.body.op c28.body.num q29.2))) rfl U U) ?_
  generalize hg905:Sh.put lg904 i5 (Ah.mk c28.params c28.result (AD.mk c28.body.op c28.body.num q29.2))=lg905 at h1 ⊢
  have ln905:=congrArg List.length hg905
  simp only[Sh.Az] at ln905
  refine zq tb U (dn hK14 U (AF U (zm tb 3 U ?_)))
  exact AE (xi (q29.1,Sh.w (i5+1),lg905) h1 (by refine Wk.trans (AU (L:=[(0,(.own 0 0 (List.length l6))),(1,(i64 q29.1)),(5,(i64 (Sh.w (i5+1))))]) (st':=[⟨0,48,5,List.map (A2 3 44) lg905⟩]) [0] U (by decide) rfl U (.deep (AR fun _=>U) .nil) ⟨.rfl,.rfl,.rfl,trivial⟩) ?_;exact AS (L:=[(0,(.own 0 0 (List.length lg905))),(1,(i64 q29.1)),(5,(i64 (Sh.w (i5+1))))]) ⟨(.len (by first | (simp only[Sh.Az];done) | (simp only[Sh.Az];omega) | omega)),.rfl,.rfl,trivial⟩))
 ·exact Ao (M9 k4 l6 (Sh.AA h1).symm _ (AH U))
theorem J9 {N:Nat} {s0:(List Ab)} {s1:(List Ah)} {p1:Int} {r:Int×(List Ab)×(List Ah)} (h0:Fa N s0 s1 p1=some r):Aa Tryz.prog 11 [(.agg (Uu s0 s1)),(i64 p1)] [(FD s0),(CM s1)] (fun v st=>v=(i64 r.1)∧st=[(FD r.2.1),(CM r.2.2)]):=by
 unfold Fa at h0
 refine ai Tryz.func11 U U U U (sr U fun K1 hK1=>A7 (m:=2) Ac U U U U U (zq tb U (dn hK1 U (sr U fun K2 hK2=>zm tb 3 U (bs h0 fun q3 gq3 h0=>?_)))))
 refine Fe (rowsP:=[(P4 s0)]) (rows0:=[(P4 s0)]) (rows1:=[(P4 q3.2)]) (rows2:=[]) (rows1':=[(P4 q3.2)]) (rows2':=[]) (st':=[(P4 q3.2),(PR s1),⟨0,30,2,[[(.own 0 0 (List.length s0)),(.own 1 0 (List.length s1))]]⟩]) (v':=(i64 q3.1)) [0] Ac (hb 29) (P2 gq3) rfl (by decide) rfl U (.deep (AR fun _=>U) .nil) rfl U (.deep (AR fun _=>U) .nil) .nil U U (fun hln=>?_)
 have ln4:List.length q3.2=List.length s0:=by simpa only[List.length_map] using hln 0 _ _ rfl rfl rfl
 refine zq tb U (dn hK2 U (sr U fun K5 hK5=>zm tb 3 U (bs h0 fun q6 gq6 h0=>?_)))
 refine Fe (rowsP:=[(PR s1)]) (rows0:=[(PR s1)]) (rows1:=[(PR q6.2)]) (rows2:=[]) (rows1':=[(PR q6.2)]) (rows2':=[]) (st':=[(P4 q3.2),(PR q6.2),⟨0,30,2,[[(.own 0 0 (List.length s0)),(.own 1 0 (List.length s1))]]⟩]) (v':=(i64 q6.1)) [1] Ac (hb 30) (Pv gq6) rfl (by decide) rfl U (.deep (AR fun _=>U) .nil) rfl U (.deep (AR fun _=>U) .nil) .nil U U (fun hln=>?_)
 have ln7:List.length q6.2=List.length s1:=by simpa only[List.length_map] using hln 0 _ _ rfl rfl rfl
 refine zq tb U (dn hK5 U (zr tb U U ?_))
 obtain rfl:=Sh.AA h0
 exact AI (Exists.intro _ (And.intro (((C9 (st:=[⟨0,81,3,List.map (Ad 111 3) q3.2⟩,⟨0,48,5,List.map (A2 3 44) q6.2⟩,⟨0,30,2,[[(.own 0 0 (List.length s0)),(.own 1 0 (List.length s1))]]⟩]) (st':=[⟨0,81,3,List.map (Ad 111 3) q3.2⟩,⟨0,48,5,List.map (A2 3 44) q6.2⟩,⟨0,30,2,[[(.own 0 0 (List.length q3.2)),(.own 1 0 (List.length q6.2))]]⟩]) (by first | (simp only[Sh.Az];done) | simp only[Sh.Az,ln4,ln7] | simp only[ln4,ln7])).trans (AU (L:=[(4,(i64 q6.1))]) (st':=[⟨0,81,3,List.map (Ad 111 3) q3.2⟩,⟨0,48,5,List.map (A2 3 44) q6.2⟩]) [0,1] U (by decide) rfl U (.deep (AR fun _=>U) (.deep (AR fun _=>U) .nil)) ⟨.rfl,trivial⟩)).trans (AS (L:=[(4,(i64 q6.1))]) ⟨.rfl,trivial⟩)) (And.intro U U)))
theorem LO {N:Nat} {p0:(List Int)} {p1:Int} {r:Int} (h0:Gj N p0 p1=some r):Aa Tryz.prog 64 [(ls eI p0),(i64 p1)] [] (fun v st=>v=(i64 r)∧st=[]):=by
 unfold Gj at h0
 refine ai Tryz.func64 U U U U (zr tb U U (AB fun K2 hK2=>zr tb U U ?_))
 obtain⟨o7,h1,h0⟩:=Sh.A8 h0
 have M7 :∀(k6:Int),o7=Sum.inr k6→∀s,Wk 0 s ⟨21,AL [(1,(i64 k6))],[]⟩→K2 s:=by
  intro k6 hq s hw
  subst o7
  try dsimp only at h0
  refine hK2 _ (AM hw (zr tb U U ?_))
  obtain rfl:=Sh.AA h0
  exact AI (xr (AS (L:=[(4,(i64 k6))]) (.same U)))
 refine AP (Ak (σ:=Int×Int) (fun n v=>EI p0 n v.1 v.2=some o7) (fun (k4,i5)=>⟨21,AL [(0,(ls eI p0)),(1,(i64 k4)),(5,(i64 i5))],[]⟩) N (p1,0) h1 (AH U) (fun _ hv=>by rw[EI] at hv;cases hv) ?_)
 rintro n ⟨k4,i5⟩ h1
 try dsimp only at h1 ⊢
 rw[EI] at h1
 refine AB fun K9 hK9=>sr U fun K10 hK10=>zm tb 2 U (zl tb U U (zq tb U (dn hK10 U ?_)))
 refine ci h1 U ?_ ?_ <;> clear h1 <;> intro b11 h1
 ·refine AG (hK9 _ (AB fun K12 hK12=>AP (AB fun K13 hK13=>sr U fun K14 hK14=>zm tb 2 U (bs h1 fun c15 gc15 h1=>zx BJ gc15 U U U (zm tb 3 U (dn hK14 U ?_))))))
  refine ci h1 U ?_ ?_ <;> clear h1 <;> intro b16 h1
  ·have b17:decide (c15=k4)=false:=by simpa using b16
   refine zr tb U U ?_
   obtain rfl:=Sh.AA h1
   try dsimp only[id] at h0
   obtain rfl:=Sh.AA h0
   exact AI (xr (AS (L:=[(4,(i64 (-1)))]) (.same U)))
  ·have b19:decide (c15=k4)=true:=by simpa using b16
   exact AG (hK13 _ (AF U (zm tb 3 U (dn hK12 U (AF U (zm tb 3 U (AE (xi (Sh.w (k4+1),Sh.w (i5+1)) h1 (AH U)))))))))
 ·exact Ao (M7 k4 (Sh.AA h1).symm _ (AH U))
theorem Qb {N:Nat} {p0:(List BP)} {p1:Int} {r:Int} (h0:Hj N p0 p1=some r):Aa Tryz.prog 63 [(ls BR p0),(i64 p1)] [] (fun v st=>v=(i64 r)∧st=[]):=by
 unfold Hj at h0
 refine ai Tryz.func63 U U U U (zr tb U U (AB fun K2 hK2=>zr tb U U ?_))
 obtain⟨o7,h1,h0⟩:=Sh.A8 h0
 have M7 :∀(k6:Int),o7=Sum.inr k6→∀s,Wk 0 s ⟨22,AL [(1,(i64 k6))],[]⟩→K2 s:=by
  intro k6 hq s hw
  subst o7
  try dsimp only at h0
  refine hK2 _ (AM hw (zr tb U U ?_))
  obtain rfl:=Sh.AA h0
  exact AI (xr (AS (L:=[(4,(i64 k6))]) (.same U)))
 refine AP (Ak (σ:=Int×Int) (fun n v=>D9 N p0 n v.1 v.2=some o7) (fun (k4,i5)=>⟨22,AL [(0,(ls BR p0)),(1,(i64 k4)),(5,(i64 i5))],[]⟩) N (p1,0) h1 (AH U) (fun _ hv=>by rw[D9] at hv;cases hv) ?_)
 rintro n ⟨k4,i5⟩ h1
 try dsimp only at h1 ⊢
 rw[D9] at h1
 refine AB fun K9 hK9=>sr U fun K10 hK10=>zm tb 2 U (zl tb U U (zq tb U (dn hK10 U ?_)))
 refine ci h1 U ?_ ?_ <;> clear h1 <;> intro b11 h1
 ·refine AG (hK9 _ (AB fun K12 hK12=>AP (sr U fun K13 hK13=>zm tb 2 U (bs h1 fun c14 gc14 h1=>zx Io gc14 U U U (zm tb 3 U (bs h1 fun q15 gq15 h1=>zc (hb 64) (LO gq15) rfl U U (zq tb U (dn hK13 U ?_))))))))
  refine zr tb U U ?_
  refine ci h1 U ?_ ?_ <;> clear h1 <;> intro b17 h1
  ·refine zr tb U U ?_
   obtain rfl:=Sh.AA h1
   try dsimp only[id] at h0
   obtain rfl:=Sh.AA h0
   exact AI (xr (AS (L:=[(4,(i64 (-1)))]) (.same U)))
  ·exact AG (hK12 _ (AF U (zm tb 3 U (AE (xi (q15,Sh.w (i5+1)) h1 (AH U))))))
 ·exact Ao (M7 k4 (Sh.AA h1).symm _ (AH U))
theorem Po {N:Nat} {p0:(List Ab)} {p1:Int} {r:Int} (h0:HK N p0 p1=some r):Aa Tryz.prog 31 [(Bf p0),(i64 p1)] [] (fun v st=>v=(i64 r)∧st=[]):=by
 unfold HK at h0
 refine ai Tryz.func31 U U U U (zr tb U U (AB fun K2 hK2=>zr tb U U ?_))
 obtain⟨o7,h1,h0⟩:=Sh.A8 h0
 have M7 :∀(k6:Int),o7=Sum.inr k6→∀s,Wk 0 s ⟨40,AL [(1,(i64 k6))],[]⟩→K2 s:=by
  intro k6 hq s hw
  subst o7
  try dsimp only at h0
  refine hK2 _ (AM hw (zr tb U U ?_))
  obtain rfl:=Sh.AA h0
  exact AI (xr (AS (L:=[(4,(i64 k6))]) (.same U)))
 refine AP (Ak (σ:=Int×Int) (fun n v=>Dw N p0 n v.1 v.2=some o7) (fun (k4,i5)=>⟨40,AL [(0,(ls AT p0)),(1,(i64 k4)),(5,(i64 i5))],[]⟩) N (p1,0) h1 (AH U) (fun _ hv=>by rw[Dw] at hv;cases hv) ?_)
 rintro n ⟨k4,i5⟩ h1
 try dsimp only at h1 ⊢
 rw[Dw] at h1
 refine AB fun K9 hK9=>sr U fun K10 hK10=>zm tb 2 U (zl tb U U (zq tb U (dn hK10 U ?_)))
 refine ci h1 U ?_ ?_ <;> clear h1 <;> intro b11 h1
 ·refine AG (hK9 _ (AB fun K12 hK12=>AP (AB fun K13 hK13=>sr U fun K14 hK14=>zm tb 2 U (bs h1 fun c15 gc15 h1=>zx DO gc15 U U U (zm tb 4 U (dn hK14 U ?_))))))
  refine ci h1 U ?_ ?_ <;> clear h1 <;> intro b16 h1
  ·have b17:decide (c15.from_=k4)=false:=by simpa using b16
   refine zr tb U U ?_
   obtain rfl:=Sh.AA h1
   try dsimp only[id] at h0
   obtain rfl:=Sh.AA h0
   exact AI (xr (AS (L:=[(4,(i64 (-1)))]) (.same U)))
  ·have b19:decide (c15.from_=k4)=true:=by simpa using b16
   refine AG (hK13 _ (zr tb U U (AB fun K21 hK21=>sr U fun K22 hK22=>zm tb 2 U (zx DO gc15 U U U (zm tb 4 U (dn hK22 U ?_))))))
   refine ci h1 U ?_ ?_ <;> clear h1 <;> intro b23 h1
   ·have b24:decide (c15.to=(Sh.w (k4+1)))=false:=by simpa using b23
    refine zr tb U U ?_
    obtain rfl:=Sh.AA h1
    try dsimp only[id] at h0
    obtain rfl:=Sh.AA h0
    exact AI (xr (AS (L:=[(4,(i64 (-1)))]) (.same U)))
   ·have b26:decide (c15.to=(Sh.w (k4+1)))=true:=by simpa using b23
    refine AG (hK21 _ (zr tb U U (sr U fun K28 hK28=>zm tb 2 U (zx DO gc15 U U U (zm tb 3 U (bs h1 fun q29 gq29 h1=>zc (hb 63) (Qb gq29) rfl U U (zq tb U (dn hK28 U (zr tb U U ?_)))))))))
    refine ci h1 U ?_ ?_ <;> clear h1 <;> intro b31 h1
    ·refine zr tb U U ?_
     obtain rfl:=Sh.AA h1
     try dsimp only[id] at h0
     obtain rfl:=Sh.AA h0
     exact AI (xr (AS (L:=[(4,(i64 (-1)))]) (.same U)))
    ·exact AG (hK12 _ (AF U (zm tb 3 U (AE (xi (q29,Sh.w (i5+1)) h1 (AH U))))))
 ·exact Ao (M7 k4 (Sh.AA h1).symm _ (AH U))
theorem Ny {N:Nat} {rec_laws_heldExprS:(List AD)→Int→Option (Int)} (hrec_laws_heldExprS :∀{p0:(List AD)} {p1:Int} {r:Int},rec_laws_heldExprS p0 p1=some r→Aa Tryz.prog 65 [(EY p0),(i64 p1)] [] (fun v st=>v=(i64 r)∧st=[])) {p0:(List AD)} {p1:Int} {r:Int} (h0:Hd N rec_laws_heldExprS p0 p1=some r):Aa Tryz.prog 65 [(EY p0),(i64 p1)] [] (fun v st=>v=(i64 r)∧st=[]):=by
 unfold Hd at h0
 refine ai Tryz.func65 U U U U (zr tb U U (AB fun K2 hK2=>zr tb U U ?_))
 obtain⟨o7,h1,h0⟩:=Sh.A8 h0
 have M7 :∀(k6:Int),o7=Sum.inr k6→∀s,Wk 0 s ⟨40,AL [(1,(i64 k6))],[]⟩→K2 s:=by
  intro k6 hq s hw
  subst o7
  try dsimp only at h0
  refine hK2 _ (AM hw (zr tb U U ?_))
  obtain rfl:=Sh.AA h0
  exact AI (xr (AS (L:=[(4,(i64 k6))]) (.same U)))
 refine AP (Ak (σ:=Int×Int) (fun n v=>C2 p0 rec_laws_heldExprS n v.1 v.2=some o7) (fun (k4,i5)=>⟨40,AL [(0,(ls A4 p0)),(1,(i64 k4)),(5,(i64 i5))],[]⟩) N (p1,0) h1 (AH U) (fun _ hv=>by rw[C2] at hv;cases hv) ?_)
 rintro n ⟨k4,i5⟩ h1
 try dsimp only at h1 ⊢
 rw[C2] at h1
 refine AB fun K9 hK9=>sr U fun K10 hK10=>zm tb 2 U (zl tb U U (zq tb U (dn hK10 U ?_)))
 refine ci h1 U ?_ ?_ <;> clear h1 <;> intro b11 h1
 ·refine AG (hK9 _ (AB fun K12 hK12=>AP (AB fun K13 hK13=>sr U fun K14 hK14=>zm tb 2 U (bs h1 fun c15 gc15 h1=>zz (Ff c15) (BY Bw U U gc15 (Aw _) rfl) rfl (zm tb 4 U (dn hK14 U ?_))))))
  refine ci h1 U ?_ ?_ <;> clear h1 <;> intro b16 h1
  ·have b17:decide (c15.op=k4)=false:=by simpa using b16
   refine zr tb U U ?_
   obtain rfl:=Sh.AA h1
   try dsimp only[id] at h0
   obtain rfl:=Sh.AA h0
   exact AI (xr (AS (L:=[(4,(i64 (-1)))]) (.same U)))
  ·have b19:decide (c15.op=k4)=true:=by simpa using b16
   refine AG (hK13 _ (zr tb U U (AB fun K21 hK21=>sr U fun K22 hK22=>zm tb 2 U (zz (Ff c15) (BY Bw U U gc15 (Aw _) rfl) rfl (zm tb 4 U (dn hK22 U ?_))))))
   refine ci h1 U ?_ ?_ <;> clear h1 <;> intro b23 h1
   ·have b24:decide (c15.num=(Sh.w (k4+1)))=false:=by simpa using b23
    refine zr tb U U ?_
    obtain rfl:=Sh.AA h1
    try dsimp only[id] at h0
    obtain rfl:=Sh.AA h0
    exact AI (xr (AS (L:=[(4,(i64 (-1)))]) (.same U)))
   ·have b26:decide (c15.num=(Sh.w (k4+1)))=true:=by simpa using b23
    refine AG (hK21 _ (zr tb U U (sr U fun K28 hK28=>zm tb 2 U (zz (Ff c15) (BY Bw U U gc15 (Aw _) rfl) rfl (zm tb 3 U (bs h1 fun q29 gq29 h1=>zc (hb 65) (hrec_laws_heldExprS gq29) rfl U U (zq tb U (dn hK28 U (zr tb U U ?_)))))))))
    refine ci h1 U ?_ ?_ <;> clear h1 <;> intro b31 h1
    ·refine zr tb U U ?_
     obtain rfl:=Sh.AA h1
     try dsimp only[id] at h0
     obtain rfl:=Sh.AA h0
     exact AI (xr (AS (L:=[(4,(i64 (-1)))]) (.same U)))
    ·exact AG (hK12 _ (AF U (zm tb 3 U (AE (xi (q29,Sh.w (i5+1)) h1 (AH U))))))
 ·exact Ao (M7 k4 (Sh.AA h1).symm _ (AH U))

theorem Nq {N:Nat} :∀(n:Nat),∀{p0:(List AD)} {p1:Int} {r:Int},EE N n p0 p1=some r→Aa Tryz.prog 65 [(EY p0),(i64 p1)] [] (fun v st=>v=(i64 r)∧st=[]):=by
 intro n
 induction n with
 | zero=>intro p0 p1 r h0;cases h0
 | succ n ih=>
  intro p0 p1 r h0
  rw[EE] at h0
  exact Ny (fun h=>ih h) h0
theorem P6 {N:Nat} :∀{p0:(List AD)} {p1:Int} {r:Int},IV N p0 p1=some r→Aa Tryz.prog 65 [(EY p0),(i64 p1)] [] (fun v st=>v=(i64 r)∧st=[]):=by
 intro p0 p1 r h0
 exact Nq N h0
theorem Pt {N:Nat} {p0:(List Ah)} {p1:Int} {r:Int} (h0:HB N p0 p1=some r):Aa Tryz.prog 32 [(ls Ar p0),(i64 p1)] [] (fun v st=>v=(i64 r)∧st=[]):=by
 unfold HB at h0
 refine ai Tryz.func32 U U U U (zr tb U U (AB fun K2 hK2=>zr tb U U ?_))
 obtain⟨o7,h1,h0⟩:=Sh.A8 h0
 have M7 :∀(k6:Int),o7=Sum.inr k6→∀s,Wk 0 s ⟨61,AL [(1,(i64 k6))],[]⟩→K2 s:=by
  intro k6 hq s hw
  subst o7
  try dsimp only at h0
  refine hK2 _ (AM hw (zr tb U U ?_))
  obtain rfl:=Sh.AA h0
  exact AI (xr (AS (L:=[(4,(i64 k6))]) (.same U)))
 refine AP (Ak (σ:=Int×Int) (fun n v=>Dx N p0 n v.1 v.2=some o7) (fun (k4,i5)=>⟨61,AL [(0,(ls Ar p0)),(1,(i64 k4)),(5,(i64 i5))],[]⟩) N (p1,0) h1 (AH U) (fun _ hv=>by rw[Dx] at hv;cases hv) ?_)
 rintro n ⟨k4,i5⟩ h1
 try dsimp only at h1 ⊢
 rw[Dx] at h1
 refine AB fun K9 hK9=>sr U fun K10 hK10=>zm tb 2 U (zl tb U U (zq tb U (dn hK10 U ?_)))
 refine ci h1 U ?_ ?_ <;> clear h1 <;> intro b11 h1
 ·refine AG (hK9 _ (AB fun K12 hK12=>AP (sr U fun K13 hK13=>zm tb 2 U (bs h1 fun c14 gc14 h1=>zx B3 gc14 U U U (zm tb 3 U (bs h1 fun q15 gq15 h1=>zc (hb 64) (LO gq15) rfl U U (zq tb U (dn hK13 U ?_))))))))
  refine AB fun K16 hK16=>zr tb U U ?_
  refine ci h1 U ?_ ?_ <;> clear h1 <;> intro b18 h1
  ·refine zr tb U U ?_
   obtain rfl:=Sh.AA h1
   try dsimp only[id] at h0
   obtain rfl:=Sh.AA h0
   exact AI (xr (AS (L:=[(4,(i64 (-1)))]) (.same U)))
  ·refine AG (hK16 _ (AB fun K20 hK20=>sr U fun K21 hK21=>zm tb 2 U (zx B3 gc14 U U U (zm tb 4 U (dn hK21 U ?_)))))
   refine ci h1 U ?_ ?_ <;> clear h1 <;> intro b22 h1
   ·have b23:decide (c14.result=q15)=false:=by simpa using b22
    refine zr tb U U ?_
    obtain rfl:=Sh.AA h1
    try dsimp only[id] at h0
    obtain rfl:=Sh.AA h0
    exact AI (xr (AS (L:=[(4,(i64 (-1)))]) (.same U)))
   ·have b25:decide (c14.result=q15)=true:=by simpa using b22
    refine AG (hK20 _ (zr tb U U (AB fun K27 hK27=>sr U fun K28 hK28=>zm tb 2 U (zx B3 gc14 U U U (zm tb 5 U (dn hK28 U ?_))))))
    refine ci h1 U ?_ ?_ <;> clear h1 <;> intro b29 h1
    ·have b30:decide (c14.body.op=(Sh.w (q15+1)))=false:=by simpa using b29
     refine zr tb U U ?_
     obtain rfl:=Sh.AA h1
     try dsimp only[id] at h0
     obtain rfl:=Sh.AA h0
     exact AI (xr (AS (L:=[(4,(i64 (-1)))]) (.same U)))
    ·have b32:decide (c14.body.op=(Sh.w (q15+1)))=true:=by simpa using b29
     refine AG (hK27 _ (zr tb U U (AB fun K34 hK34=>sr U fun K35 hK35=>zm tb 2 U (zx B3 gc14 U U U (zm tb 5 U (dn hK35 U ?_))))))
     refine ci h1 U ?_ ?_ <;> clear h1 <;> intro b36 h1
     ·have b37:decide (c14.body.num=(Sh.w ((Sh.w (q15+1)) + 1)))=false:=by simpa using b36
      refine zr tb U U ?_
      obtain rfl:=Sh.AA h1
      try dsimp only[id] at h0
      obtain rfl:=Sh.AA h0
      exact AI (xr (AS (L:=[(4,(i64 (-1)))]) (.same U)))
     ·have b39:decide (c14.body.num=(Sh.w ((Sh.w (q15+1)) + 1)))=true:=by simpa using b36
      refine AG (hK34 _ (zr tb U U (sr U fun K41 hK41=>zm tb 2 U (zx B3 gc14 U U U (zm tb 4 U (bs h1 fun q42 gq42 h1=>zc (hb 65) (P6 gq42) rfl U U (zq tb U (dn hK41 U (zr tb U U ?_)))))))))
      refine ci h1 U ?_ ?_ <;> clear h1 <;> intro b44 h1
      ·refine zr tb U U ?_
       obtain rfl:=Sh.AA h1
       try dsimp only[id] at h0
       obtain rfl:=Sh.AA h0
       exact AI (xr (AS (L:=[(4,(i64 (-1)))]) (.same U)))
      ·exact AG (hK12 _ (AF U (zm tb 3 U (AE (xi (q42,Sh.w (i5+1)) h1 (AH U))))))
 ·exact Ao (M7 k4 (Sh.AA h1).symm _ (AH U))
theorem KG {N:Nat} {p0:AN} {p1:Int} {r:Int} (h0:FY N p0 p1=some r):Aa Tryz.prog 12 [(HH p0),(i64 p1)] [] (fun v st=>v=(i64 r)∧st=[]):=by
 unfold FY at h0
 refine ai Tryz.func12 U U U U (sr U fun K1 hK1=>A7 (m:=0) Ac U U U U U (zq tb U (dn hK1 U (sr U fun K2 hK2=>zm tb 3 U (bs h0 fun q3 gq3 h0=>zc (hb 31) (Po gq3) rfl U U (zq tb U (dn hK2 U (AB fun K4 hK4=>?_))))))))
 refine zr tb U U ?_
 refine ci h0 U ?_ ?_ <;> clear h0 <;> intro b6 h0
 ·refine zr tb U U ?_
  obtain rfl:=Sh.AA h0
  exact AI (xr (Ai [(4,(i64 (-1)))] U))
 ·refine AG (hK4 _ (sr U fun K8 hK8=>zm tb 3 U (bs h0 fun q9 gq9 h0=>zc (hb 32) (Pt gq9) rfl U U (zq tb U (dn hK8 U (AB fun K10 hK10=>zr tb U U ?_))))))
  refine ci h0 U ?_ ?_ <;> clear h0 <;> intro b12 h0
  ·refine zr tb U U ?_
   obtain rfl:=Sh.AA h0
   exact AI (xr (Ai [(4,(i64 (-1)))] U))
  ·refine AG (hK10 _ (zr tb U U ?_))
   obtain rfl:=Sh.AA h0
   exact AI (xr (Ai [(4,(i64 q9))] U))
theorem Qx {N:Nat} {p0:AN} {p1:Int} {r:AN×Bool} (h0:D5 N p0 p1=some r):Aa Tryz.prog 16 [(HH p0),(i64 p1)] [] (fun v st=>v=(aV r.1.decls r.1.funcs r.2)∧st=[]):=by
 unfold D5 at h0
 refine EM U (ai Tryz.func16 U U U U (sr U fun K1 hK1=>A7 (m:=0) Ac U U U U U (A7 (m:=1) Ac U U U U U (As (m:=2) Ac H5 U U (zq tb U (dn hK1 U (AB fun K2 hK2=>sr U fun K3 hK3=>zm tb 2 U (bs h0 fun q4 gq4 h0=>?_))))))))
 refine zc (hb 38) (Kp gq4) rfl U U (zq tb U (dn hK3 U ?_))
 refine ci h0 U ?_ ?_ <;> clear h0 <;> intro b5 h0
 ·have b6:q4=false:=by simpa using b5
  refine sr U fun K7 hK7=>zz (.agg [.zc,.zc]) (GA TW Tu H5 U U) rfl (Ay Ac Fw U U U U U U (show 0+2≤2 by decide) rfl (zq tb U (dn hK7 U ?_)))
  obtain rfl:=Sh.AA h0
  exact AI (Exists.intro _ (And.intro ((((GH (id:=2) (cs:=[.zc,.zc]) (cs':=WS) (st':=[(KQ p0.decls p0.funcs),(Oz p1),⟨0,30,2,[WS]⟩]) rfl ⟨le.zc,le.rfl,trivial⟩ U U).trans (GH (id:=2) (cs:=WS) (cs':=VA) (st':=[(KQ p0.decls p0.funcs),(Oz p1),Z7]) rfl ⟨le.rfl,le.zc,trivial⟩ U U)).trans (AU (L:=[(4,Am),(5,(.bool false))]) (st':=[Z7]) [2] U (by decide) rfl U (.raw U U .nil) ⟨.rfl,.rfl,trivial⟩)).trans (AS (L:=[(4,Am),(5,(.bool false))]) ⟨.rfl,.rfl,trivial⟩)) (BM (x:=.tmp 4) (off:=0) (cs:=VA) (vs:=VA) Fw U U U (show 0+2≤2 by decide) rfl _ U)))
 ·have b8:q4=true:=by simpa using b5
  refine AG (hK2 _ (sr U fun K9 hK9=>zq tb U (zz (.fn 39 [Aq,Am]) (Vz U) rfl (bs h0 fun q10 gq10 h0=>?_))))
  refine H0 (rowsP:=[(Oz p1),(KQ p0.decls p0.funcs)]) (rows0:=[(Oz p1),(KQ p0.decls p0.funcs)]) (rows1:=[(Oz q10.2.2),(KQ p0.decls p0.funcs)]) (rows2:=[(FD q10.1.decls),(CM q10.1.funcs)]) (rows1':=[(Oz q10.2.2),(KQ p0.decls p0.funcs)]) (rows2':=[(FD q10.1.decls),(CM q10.1.funcs)]) (st':=[(KQ p0.decls p0.funcs),(Oz q10.2.2),⟨0,30,2,[[.zc,.zc]]⟩,(FD q10.1.decls),(CM q10.1.funcs)]) (v':=(.DE [(.agg [(ow 3 0 q10.1.decls),(ow 4 0 q10.1.funcs)]),(.bool q10.2.1)])) [1,0] Ac (hb 25) (J4 gq10) rfl (by decide) rfl U (.raw U U (.raw U U .nil)) rfl U (.raw U U (.raw U U .nil)) (.deep (AR fun _=>U) (.deep (AR fun _=>U) .nil)) rfl U ?_
  refine zm tb 2 U (Af (Gy (L:=[(4,BD),(14,(.agg [(Bf q10.1.decls),(ow 4 0 q10.1.funcs)])),(15,(.bool q10.2.1))]) (st':=[(KQ p0.decls p0.funcs),(Oz q10.2.2),⟨0,30,2,[[.zc,.zc]]⟩,WJ,(CM q10.1.funcs)]) (id:=3) rfl (show 0≤3 by decide) (Go.Abs.Ev (fun _=>U)) ⟨.rfl,(.agg ⟨(.Jj U (fun x=>FJ x)),.rfl,trivial⟩),.rfl,trivial⟩ U) (Af (Gy (L:=[(4,BD),(14,(.agg (Ws q10.1.decls q10.1.funcs))),(15,(.bool q10.2.1))]) (st':=[(KQ p0.decls p0.funcs),(Oz q10.2.2),⟨0,30,2,[[.zc,.zc]]⟩,WJ,⟨1,48,5,[]⟩]) (id:=4) rfl (show 0≤4 by decide) (Go.Abs.Ev (fun _=>U)) ⟨.rfl,(.agg ⟨.rfl,(.Jj U (fun x=>FP x)),trivial⟩),.rfl,trivial⟩ U) (Ay Ac Fw U U U U U U (show 0+2≤2 by decide) rfl (zq tb U (dn hK9 U ?_)))))
  obtain rfl:=Sh.AA h0
  exact AI (Exists.intro _ (And.intro ((AU (L:=[(4,Am),(5,(.bool q10.2.1))]) (st':=[(KQ q10.1.decls q10.1.funcs)]) [2] U (by decide) rfl U (.raw U U .nil) ⟨.rfl,.rfl,trivial⟩).trans (AS (L:=[(4,Am),(5,(.bool q10.2.1))]) ⟨.rfl,.rfl,trivial⟩)) (BM (x:=.tmp 4) (off:=0) (cs:=(Ws q10.1.decls q10.1.funcs)) (vs:=(Ws q10.1.decls q10.1.funcs)) Fw U U U (show 0+2≤2 by decide) rfl _ U)))
theorem Mt {N:Nat} {p0:AN} {p1:Int} {r:Bool} (h0:GV N p0 p1=some r):Aa Tryz.prog 5 [(HH p0),(i64 p1)] [] (fun v st=>v=(.bool r)∧st=[]):=by
 unfold GV at h0
 refine ai Tryz.func5 U U U U (sr U fun K1 hK1=>A7 (m:=0) Ac U U U U U (zq tb U (dn hK1 U (zr tb U U (sr U fun K3 hK3=>zm tb 2 U (bs h0 fun q4 gq4 h0=>zc (hb 6) (QC gq4) rfl U U (zq tb U (dn hK3 U ?_))))))))
 refine AB fun K5 hK5=>zr tb U U ?_
 refine ci h0 U ?_ ?_ <;> clear h0 <;> intro b7 h0
 ·refine zr tb U U ?_
  obtain rfl:=Sh.AA h0
  exact AI (xr (Ai [(4,(.bool true))] U))
 ·refine AG (hK5 _ (sr U fun K9 hK9=>zq tb U (bs h0 fun q10 gq10 h0=>BF (v':=(.agg [(ow 1 0 q10.decls),(ow 2 0 q10.funcs)])) Ac (hb 8) (Gq gq10) rfl U ⟨(AR fun _=>U),⟨(AR fun _=>U),trivial⟩⟩ U U (zq tb U (Af (Gy (L:=[(1,(i64 p1)),(2,Am),(23,(.agg [(ls AT q10.decls),(ow 2 0 q10.funcs)])),(24,(i64 p1))]) (st':=[(U9 p0.decls p0.funcs),WJ,(QM q10)]) (id:=1) rfl (show 0≤1 by decide) (Go.Abs.Ev (fun _=>U)) ⟨.rfl,.rfl,(.agg ⟨(.Jj U (fun x=>FJ x)),.rfl,trivial⟩),.rfl,trivial⟩ U) (Af (Gy (L:=[(1,(i64 p1)),(2,Am),(23,(HH q10)),(24,(i64 p1))]) (st':=[(U9 p0.decls p0.funcs),WJ,⟨1,48,5,[]⟩]) (id:=2) rfl (show 0≤2 by decide) (Go.Abs.Ev (fun _=>U)) ⟨.rfl,.rfl,(.agg ⟨.rfl,(.Jj U (fun x=>FP x)),trivial⟩),.rfl,trivial⟩ U) (bs h0 fun q11 gq11 h0=>zc (v':=(aV q11.1.decls q11.1.funcs q11.2)) (hb 15) (S6 gq11) rfl U U (zm tb 3 U (As (m:=3) Ac H5 U U ?_)))))))))
  refine Ay Ac Fw U U U U U U (show 0+2≤2 by decide) rfl (zq tb U (dn hK9 U (sr U fun K12 hK12=>zq tb U (bs h0 fun q13 gq13 h0=>BF (v':=(.agg [(ow 4 0 q13.decls),(ow 5 0 q13.funcs)])) Ac (hb 8) (Gq gq13) rfl U ⟨(AR fun _=>U),⟨(AR fun _=>U),trivial⟩⟩ U U (As (m:=6) Ac H5 U U (Ay Ac Fw U U U U U U (show 0+2≤2 by decide) rfl (dn hK12 U (sr U fun K14 hK14=>zm tb 2 U ?_))))))))
  refine bs h0 fun q15 gq15 h0=>Jv (v':=(.DE [(.agg [(ow 7 0 q15.1.decls),(ow 8 0 q15.1.funcs)]),(.bool q15.2)])) Ac (hb 16) (S8 gq15) rfl (.agg (.ownD U U (fun _=>U) (fun x=>FJ x) (.ownD U U (fun _=>U) (fun x=>FP x) .nil)) (.val U .nil)) rfl (bL (fun _=>U) (bL (fun _=>U) trivial)) rfl U (zm tb 3 U (As (m:=9) Ac H5 U U (Ay Ac Fw U U U U U U (show 0+2≤2 by decide) rfl (zq tb U (dn hK14 U (AB fun K16 hK16=>AB fun K17 hK17=>bs h0 fun o19 h1 h0=>?_))))))
  have M19 :∀(t18:Bool),o19=t18→∀s,Wk 0 s ⟨101,AL [(1,(i64 p1)),(2,Am),(6,Aq),(7,(.bool q11.2)),(8,Fc),(9,(.ptr 7 0 0 0)),(10,(.bool q15.2)),(44,(.bool t18))],[(U9 p0.decls p0.funcs),(KQ q11.1.decls q11.1.funcs),(ro 0 81 3 (Ad 111 3) q13.decls),(QM q13),⟨0,30,2,[[(ow 2 0 q13.decls),(ow 3 0 q13.funcs)]]⟩,(FD q15.1.decls),(CM q15.1.funcs),⟨0,30,2,[[(ow 5 0 q15.1.decls),(ow 6 0 q15.1.funcs)]]⟩]⟩→K17 s:=by
   intro t18 hq s hw
   subst o19
   try dsimp only at h0
   refine hK17 _ (AM hw ?_)
   refine ci h0 U ?_ ?_ <;> clear h0 <;> intro b20 h0
   ·refine zr tb U U ?_
    obtain rfl:=Sh.AA h0
    exact AI (xr (Ai [(4,(.bool false))] U))
   ·refine AG (hK16 _ (AB fun K22 hK22=>AB fun K23 hK23=>?_))
    refine Bk (by kernel_rfl) (by kernel_rfl) (by rfl) ?_
    iterate 2 refine yq tb rfl ?_
    refine bs h0 fun q24 gq24 h0=>?_
    refine Bh (v:=(HH q24)) Ac (hb 8) (Aa.wk (Gq gq24) (by refine Wk.trans (Gy (L:=[(0,(.agg [(ls AT q24.decls),(ow 1 0 q24.funcs)]))]) (st':=[WJ,(QM q24)]) (id:=0) rfl (show 0≤0 by decide) (Go.Abs.Ev (fun _=>U)) ⟨(.agg ⟨(.Jj U (fun x=>FJ x)),.rfl,trivial⟩),trivial⟩ U) ?_;refine Wk.trans (Gy (L:=[(0,(HH q24))]) (st':=[WJ,⟨1,48,5,[]⟩]) (id:=1) rfl (show 0≤1 by decide) (Go.Abs.Ev (fun _=>U)) ⟨(.agg ⟨.rfl,(.Jj U (fun x=>FP x)),trivial⟩),trivial⟩ U) ?_;exact AU [] U (by decide) rfl U .nil (.same U))) rfl U U ?_
    refine bs h0 fun q25 gq25 h0=>T7 (v':=(.bool q25)) Ac (hb 10) (Gx gq25) rfl (.agg (.ownD U U (fun _=>U) (fun x=>FJ x) (.ownD U U (fun _=>U) (fun x=>FP x) .nil)) (.val U .nil)) rfl U (yq tb U (BL (hK23 _ ?_)))
    refine ci h0 U ?_ ?_ <;> clear h0 <;> intro b26 h0
    ·have b27:q25=false:=by simpa using b26
     refine zr tb U U ?_
     obtain rfl:=Sh.AA h0
     exact AI (xr (Ai [(4,(.bool false))] U))
    ·have b29:q25=true:=by simpa using b26
     refine AG (hK22 _ (zr tb U U (sr U fun K31 hK31=>zm tb 2 U (bs h0 fun q32 gq32 h0=>?_))))
     refine Fe (rowsP:=[⟨0,81,3,List.map (Ad 111 3) q13.decls⟩,⟨0,48,5,List.map (A2 3 44) q13.funcs⟩]) (rows0:=[⟨0,81,3,List.map (Ad 111 3) q13.decls⟩,⟨0,48,5,List.map (A2 3 44) q13.funcs⟩]) (rows1:=[(P4 q32.2.1),(PR q32.2.2)]) (rows2:=[]) (rows1':=[(P4 q32.2.1),(PR q32.2.2)]) (rows2':=[]) (st':=[⟨0,25,2,(du p0)⟩,⟨0,30,2,[[(.sl (List.map AT q11.1.decls)),(.sl (List.map Ar q11.1.funcs))]]⟩,(P4 q32.2.1),(PR q32.2.2),⟨0,30,2,[[(.own 2 0 (List.length q13.decls)),(.own 3 0 (List.length q13.funcs))]]⟩,(P4 q15.1.decls),(PR q15.1.funcs),⟨0,30,2,[[(.own 5 0 (List.length q15.1.decls)),(.own 6 0 (List.length q15.1.funcs))]]⟩]) (v':=(i64 q32.1)) [2,3] Ac (hb 11) (J9 gq32) rfl (by decide) rfl U (.deep (AR fun _=>U) (.deep (AR fun _=>U) .nil)) rfl U (.deep (AR fun _=>U) (.deep (AR fun _=>U) .nil)) .nil U U (fun hln=>?_)
     have ln33:List.length q32.2.1=List.length q13.decls:=by simpa only[List.length_map] using hln 0 _ _ rfl rfl rfl
     have ln34:List.length q32.2.2=List.length q13.funcs:=by simpa only[List.length_map] using hln 1 _ _ rfl rfl rfl
     refine zq tb U (dn hK31 U (AB fun K35 hK35=>AB fun K36 hK36=>bs h0 fun o38 h1 h0=>?_))
     have M38 :∀(t37:Bool),o38=t37→∀s,Wk 0 s ⟨101,AL [(1,(i64 p1)),(2,Am),(6,Aq),(7,(.bool q11.2)),(9,Fc),(65,(.bool t37))],[(U9 p0.decls p0.funcs),(KQ q11.1.decls q11.1.funcs),(FD q15.1.decls),(CM q15.1.funcs),(KM q15.1.decls q15.1.funcs)]⟩→K36 s:=by
      intro t37 hq s hw
      subst o38
      try dsimp only at h0
      refine hK36 _ (AM hw ?_)
      refine ci h0 U ?_ ?_ <;> clear h0 <;> intro b39 h0
      ·refine zr tb U U ?_
       obtain rfl:=Sh.AA h0
       exact AI (xr (Ai [(4,(.bool false))] U))
      ·refine AG (hK35 _ (zr tb U U (sr U fun K42 hK42=>zm tb 2 U (bs h0 fun q43 gq43 h0=>?_))))
       refine Fe (rowsP:=[(P4 q15.1.decls),(PR q15.1.funcs)]) (rows0:=[(P4 q15.1.decls),(PR q15.1.funcs)]) (rows1:=[(P4 q43.2.1),(PR q43.2.2)]) (rows2:=[]) (rows1':=[(P4 q43.2.1),(PR q43.2.2)]) (rows2':=[]) (st':=[⟨0,25,2,(du p0)⟩,⟨0,30,2,[[(.sl (List.map AT q11.1.decls)),(.sl (List.map Ar q11.1.funcs))]]⟩,(P4 q43.2.1),(PR q43.2.2),⟨0,30,2,[[(.own 2 0 (List.length q15.1.decls)),(.own 3 0 (List.length q15.1.funcs))]]⟩]) (v':=(i64 q43.1)) [2,3] Ac (hb 11) (J9 gq43) rfl (by decide) rfl U (.deep (AR fun _=>U) (.deep (AR fun _=>U) .nil)) rfl U (.deep (AR fun _=>U) (.deep (AR fun _=>U) .nil)) .nil U U (fun hln=>?_)
       have ln44:List.length q43.2.1=List.length q15.1.decls:=by simpa only[List.length_map] using hln 0 _ _ rfl rfl rfl
       have ln45:List.length q43.2.2=List.length q15.1.funcs:=by simpa only[List.length_map] using hln 1 _ _ rfl rfl rfl
       refine zq tb U (dn hK42 U (zr tb U U (sr U fun K47 hK47=>zm tb 2 U (bs h0 fun q48 gq48 h0=>?_))))
       refine Jv (v':=(i64 q48)) Ac (hb 12) (KG gq48) rfl (.agg (.ownD U (by first | (simp only[Sh.Az];done) | (simp only[Sh.Az];omega) | omega) (fun _=>U) (fun x=>FJ x) (.ownD U (by first | (simp only[Sh.Az];done) | (simp only[Sh.Az];omega) | omega) (fun _=>U) (fun x=>FP x) .nil)) (.val U .nil)) rfl trivial U U ?_
       refine zq tb U (dn hK47 U (AB fun K49 hK49=>zr tb U U ?_))
       refine ci h0 U ?_ ?_ <;> clear h0 <;> intro b51 h0
       ·refine zr tb U U ?_
        obtain rfl:=Sh.AA h0
        exact AI (Exists.intro _ (And.intro (((C9 (st:=[⟨0,25,2,[[(.sl (List.map AT p0.decls)),(.sl (List.map Ar p0.funcs))]]⟩,⟨0,30,2,[[(.sl (List.map AT q11.1.decls)),(.sl (List.map Ar q11.1.funcs))]]⟩,⟨0,81,3,List.map (Ad 111 3) q43.2.1⟩,⟨0,48,5,List.map (A2 3 44) q43.2.2⟩,⟨0,30,2,[[(.own 2 0 (List.length q15.1.decls)),(.own 3 0 (List.length q15.1.funcs))]]⟩]) (st':=[⟨0,25,2,[[(.sl (List.map AT p0.decls)),(.sl (List.map Ar p0.funcs))]]⟩,⟨0,30,2,[[(.sl (List.map AT q11.1.decls)),(.sl (List.map Ar q11.1.funcs))]]⟩,⟨0,81,3,List.map (Ad 111 3) q43.2.1⟩,⟨0,48,5,List.map (A2 3 44) q43.2.2⟩,⟨0,30,2,[[(.own 2 0 (List.length q43.2.1)),(.own 3 0 (List.length q43.2.2))]]⟩]) (by first | (simp only[Sh.Az];done) | simp only[Sh.Az,ln33,ln34,ln44,ln45] | simp only[ln33,ln34,ln44,ln45])).trans (AU (L:=[(4,(.bool false))]) (st':=[]) [] U (by decide) rfl U .nil ⟨.rfl,trivial⟩)).trans (AS (L:=[(4,(.bool false))]) ⟨.rfl,trivial⟩)) (And.intro U U)))
       ·refine AG (hK49 _ (AB fun K53 hK53=>zr tb U U ?_))
        refine ci h0 U ?_ ?_ <;> clear h0 <;> intro b55 h0
        ·have b56:decide (q48=q43.1)=false:=by simpa using b55
         refine zr tb U U ?_
         obtain rfl:=Sh.AA h0
         exact AI (Exists.intro _ (And.intro (((C9 (st:=[⟨0,25,2,[[(.sl (List.map AT p0.decls)),(.sl (List.map Ar p0.funcs))]]⟩,⟨0,30,2,[[(.sl (List.map AT q11.1.decls)),(.sl (List.map Ar q11.1.funcs))]]⟩,⟨0,81,3,List.map (Ad 111 3) q43.2.1⟩,⟨0,48,5,List.map (A2 3 44) q43.2.2⟩,⟨0,30,2,[[(.own 2 0 (List.length q15.1.decls)),(.own 3 0 (List.length q15.1.funcs))]]⟩]) (st':=[⟨0,25,2,[[(.sl (List.map AT p0.decls)),(.sl (List.map Ar p0.funcs))]]⟩,⟨0,30,2,[[(.sl (List.map AT q11.1.decls)),(.sl (List.map Ar q11.1.funcs))]]⟩,⟨0,81,3,List.map (Ad 111 3) q43.2.1⟩,⟨0,48,5,List.map (A2 3 44) q43.2.2⟩,⟨0,30,2,[[(.own 2 0 (List.length q43.2.1)),(.own 3 0 (List.length q43.2.2))]]⟩]) (by first | (simp only[Sh.Az];done) | simp only[Sh.Az,ln33,ln34,ln44,ln45] | simp only[ln33,ln34,ln44,ln45])).trans (AU (L:=[(4,(.bool false))]) (st':=[]) [] U (by decide) rfl U .nil ⟨.rfl,trivial⟩)).trans (AS (L:=[(4,(.bool false))]) ⟨.rfl,trivial⟩)) (And.intro U U)))
        ·have b58:decide (q48=q43.1)=true:=by simpa using b55
         refine AG (hK53 _ (sr U fun K59 hK59=>zq tb U (bs h0 fun q60 gq60 h0=>BF (v':=(.agg [(ow 5 0 q60.decls),(ow 6 0 q60.funcs)])) Ac (hb 8) (Gq gq60) rfl U ⟨(AR fun _=>U),⟨(AR fun _=>U),trivial⟩⟩ U U (zq tb U (Af (Gy (L:=[(6,Aq),(7,(.bool q11.2)),(9,Fc),(12,(i64 q43.1)),(79,(.agg [(ls AT q60.decls),(ow 6 0 q60.funcs)])),(80,(i64 p1))]) (st':=[(U9 p0.decls p0.funcs),(KQ q11.1.decls q11.1.funcs),(FD q43.2.1),(CM q43.2.2),(KM q15.1.decls q15.1.funcs),WJ,(QM q60)]) (id:=5) rfl (show 0≤5 by decide) (Go.Abs.Ev (fun _=>U)) ⟨.rfl,.rfl,.rfl,.rfl,(.agg ⟨(.Jj U (fun x=>FJ x)),.rfl,trivial⟩),.rfl,trivial⟩ U) (Af (Gy (L:=[(6,Aq),(7,(.bool q11.2)),(9,Fc),(12,(i64 q43.1)),(79,(HH q60)),(80,(i64 p1))]) (st':=[(U9 p0.decls p0.funcs),(KQ q11.1.decls q11.1.funcs),(FD q43.2.1),(CM q43.2.2),(KM q15.1.decls q15.1.funcs),WJ,⟨1,48,5,[]⟩]) (id:=6) rfl (show 0≤6 by decide) (Go.Abs.Ev (fun _=>U)) ⟨.rfl,.rfl,.rfl,.rfl,(.agg ⟨.rfl,(.Jj U (fun x=>FP x)),trivial⟩),.rfl,trivial⟩ U) (bs h0 fun q61 gq61 h0=>zc (v':=(aV q61.1.decls q61.1.funcs q61.2)) (hb 16) (Qx gq61) rfl U U (zm tb 3 U (As (m:=7) Ac H5 U U ?_)))))))))
         refine Ay Ac Fw U U U U U U (show 0+2≤2 by decide) rfl (zq tb U (dn hK59 U (AB fun K62 hK62=>AB fun K63 hK63=>bs h0 fun o65 h1 h0=>?_)))
         have M65 :∀(t64:Bool),o65=t64→∀s,Wk 0 s ⟨101,AL [(9,BD),(12,(i64 q43.1)),(92,(.bool t64))],(cN q43.2.1 q43.2.2)⟩→K63 s:=by
          intro t64 hq s hw
          subst o65
          try dsimp only at h0
          refine hK63 _ (AM hw ?_)
          refine ci h0 U ?_ ?_ <;> clear h0 <;> intro b66 h0
          ·refine zr tb U U ?_
           obtain rfl:=Sh.AA h0
           exact AI (xr (Ai [(4,(.bool false))] U))
          ·refine AG (hK62 _ (zr tb U U (sr U fun K69 hK69=>zm tb 2 U (bs h0 fun q70 gq70 h0=>Jv (v':=(i64 q70)) Ac (hb 12) (KG gq70) rfl (.agg (.ownD U U (fun _=>U) (fun x=>FJ x) (.ownD U U (fun _=>U) (fun x=>FP x) .nil)) (.val U .nil)) rfl trivial U U (zq tb U (dn hK69 U (AB fun K71 hK71=>zr tb U U ?_)))))))
           refine ci h0 U ?_ ?_ <;> clear h0 <;> intro b73 h0
           ·refine zr tb U U ?_
            obtain rfl:=Sh.AA h0
            exact AI (xr (Ai [(4,(.bool false))] U))
           ·refine AG (hK71 _ (AB fun K75 hK75=>zr tb U U ?_))
            refine ci h0 U ?_ ?_ <;> clear h0 <;> intro b77 h0
            ·have b78:decide (q70=q43.1)=false:=by simpa using b77
             refine zr tb U U ?_
             obtain rfl:=Sh.AA h0
             exact AI (xr (Ai [(4,(.bool false))] U))
            ·have b80:decide (q70=q43.1)=true:=by simpa using b77
             refine AG (hK75 _ (zr tb U U ?_))
             obtain rfl:=Sh.AA h0
             exact AI (xr (Ai [(4,(.bool true))] U))
         refine AF U (zm tb 2 U (bs h1 fun q82 gq82 h1=>zc (hb 10) (Gx gq82) rfl U U (zm tb 2 U ?_)))
         rcases Sh.Ap h1 with ⟨b83,h1⟩ | ⟨b83,h1⟩
         ·refine zs b83 U (zs b83 U (zs b83 U (zt b83 U ?_)))
          exact AE (M65 true (Sh.AA h1).symm _ (by refine Wk.trans (C9 (st:=[⟨0,25,2,[[(.sl (List.map AT p0.decls)),(.sl (List.map Ar p0.funcs))]]⟩,⟨0,30,2,[[(.sl (List.map AT q11.1.decls)),(.sl (List.map Ar q11.1.funcs))]]⟩,⟨0,81,3,List.map (Ad 111 3) q43.2.1⟩,⟨0,48,5,List.map (A2 3 44) q43.2.2⟩,⟨0,30,2,[[(.own 2 0 (List.length q15.1.decls)),(.own 3 0 (List.length q15.1.funcs))]]⟩,⟨1,81,3,[]⟩,⟨1,48,5,[]⟩,⟨0,30,2,[[(.sl (List.map AT q61.1.decls)),(.sl (List.map Ar q61.1.funcs))]]⟩]) (st':=[⟨0,25,2,[[(.sl (List.map AT p0.decls)),(.sl (List.map Ar p0.funcs))]]⟩,⟨0,30,2,[[(.sl (List.map AT q11.1.decls)),(.sl (List.map Ar q11.1.funcs))]]⟩,⟨0,81,3,List.map (Ad 111 3) q43.2.1⟩,⟨0,48,5,List.map (A2 3 44) q43.2.2⟩,⟨0,30,2,[[(.own 2 0 (List.length q43.2.1)),(.own 3 0 (List.length q43.2.2))]]⟩,⟨1,81,3,[]⟩,⟨1,48,5,[]⟩,⟨0,30,2,[[(.sl (List.map AT q61.1.decls)),(.sl (List.map Ar q61.1.funcs))]]⟩]) (by first | (simp only[Sh.Az];done) | simp only[Sh.Az,ln33,ln34,ln44,ln45] | simp only[ln33,ln34,ln44,ln45])) ?_;exact A5 (L:=[(9,(.ptr 2 0 0 0)),(12,(i64 q43.1)),(92,(.bool true))]) (st':=[⟨0,81,3,List.map (Ad 111 3) q43.2.1⟩,⟨0,48,5,List.map (A2 3 44) q43.2.2⟩,⟨0,30,2,[[(.own 0 0 (List.length q43.2.1)),(.own 1 0 (List.length q43.2.2))]]⟩]) (st1:=[⟨0,81,3,List.map (Ad 111 3) q43.2.1⟩,⟨0,48,5,List.map (A2 3 44) q43.2.2⟩,⟨0,30,2,[[(.own 2 0 (List.length q43.2.1)),(.own 3 0 (List.length q43.2.2))]]⟩]) [2,3,4] U .nil (by decide) rfl U (.deep (AR fun _=>U) (.deep (AR fun _=>U) (.raw U U .nil))) (.same U)))
         ·refine zg tb b83 U (zg tb b83 U (zg tb b83 U (zf b83 U ?_)))
          exact AE (M65 (q61.2 != q11.2) (Sh.AA h1).symm _ (by refine Wk.trans (C9 (st:=[⟨0,25,2,[[(.sl (List.map AT p0.decls)),(.sl (List.map Ar p0.funcs))]]⟩,⟨0,30,2,[[(.sl (List.map AT q11.1.decls)),(.sl (List.map Ar q11.1.funcs))]]⟩,⟨0,81,3,List.map (Ad 111 3) q43.2.1⟩,⟨0,48,5,List.map (A2 3 44) q43.2.2⟩,⟨0,30,2,[[(.own 2 0 (List.length q15.1.decls)),(.own 3 0 (List.length q15.1.funcs))]]⟩,⟨1,81,3,[]⟩,⟨1,48,5,[]⟩,⟨0,30,2,[[(.sl (List.map AT q61.1.decls)),(.sl (List.map Ar q61.1.funcs))]]⟩]) (st':=[⟨0,25,2,[[(.sl (List.map AT p0.decls)),(.sl (List.map Ar p0.funcs))]]⟩,⟨0,30,2,[[(.sl (List.map AT q11.1.decls)),(.sl (List.map Ar q11.1.funcs))]]⟩,⟨0,81,3,List.map (Ad 111 3) q43.2.1⟩,⟨0,48,5,List.map (A2 3 44) q43.2.2⟩,⟨0,30,2,[[(.own 2 0 (List.length q43.2.1)),(.own 3 0 (List.length q43.2.2))]]⟩,⟨1,81,3,[]⟩,⟨1,48,5,[]⟩,⟨0,30,2,[[(.sl (List.map AT q61.1.decls)),(.sl (List.map Ar q61.1.funcs))]]⟩]) (by first | (simp only[Sh.Az];done) | simp only[Sh.Az,ln33,ln34,ln44,ln45] | simp only[ln33,ln34,ln44,ln45])) ?_;exact A5 (L:=[(9,(.ptr 2 0 0 0)),(12,(i64 q43.1)),(92,(.bool (q61.2 != q11.2)))]) (st':=[⟨0,81,3,List.map (Ad 111 3) q43.2.1⟩,⟨0,48,5,List.map (A2 3 44) q43.2.2⟩,⟨0,30,2,[[(.own 0 0 (List.length q43.2.1)),(.own 1 0 (List.length q43.2.2))]]⟩]) (st1:=[⟨0,81,3,List.map (Ad 111 3) q43.2.1⟩,⟨0,48,5,List.map (A2 3 44) q43.2.2⟩,⟨0,30,2,[[(.own 2 0 (List.length q43.2.1)),(.own 3 0 (List.length q43.2.2))]]⟩]) [2,3,4] U .nil (by decide) rfl U (.deep (AR fun _=>U) (.deep (AR fun _=>U) (.raw U U .nil))) (.same U)))
     refine AF U (zm tb 3 U ?_)
     rcases Sh.Ap h1 with ⟨b84,h1⟩ | ⟨b84,h1⟩
     ·refine zs b84 U ?_
      iterate 3 refine zs b84 rfl ?_
      refine zt b84 U (zq tb U ?_)
      iterate 3 refine zs rfl rfl ?_
      refine zt U U ?_
      exact AE (M38 true (Sh.AA h1).symm _ (by refine Wk.trans (C9 (st:=[⟨0,25,2,[[(.sl (List.map AT p0.decls)),(.sl (List.map Ar p0.funcs))]]⟩,⟨0,30,2,[[(.sl (List.map AT q11.1.decls)),(.sl (List.map Ar q11.1.funcs))]]⟩,⟨0,81,3,List.map (Ad 111 3) q32.2.1⟩,⟨0,48,5,List.map (A2 3 44) q32.2.2⟩,⟨0,30,2,[[(.own 2 0 (List.length q13.decls)),(.own 3 0 (List.length q13.funcs))]]⟩,⟨0,81,3,List.map (Ad 111 3) q15.1.decls⟩,⟨0,48,5,List.map (A2 3 44) q15.1.funcs⟩,⟨0,30,2,[[(.own 5 0 (List.length q15.1.decls)),(.own 6 0 (List.length q15.1.funcs))]]⟩]) (st':=[⟨0,25,2,[[(.sl (List.map AT p0.decls)),(.sl (List.map Ar p0.funcs))]]⟩,⟨0,30,2,[[(.sl (List.map AT q11.1.decls)),(.sl (List.map Ar q11.1.funcs))]]⟩,⟨0,81,3,List.map (Ad 111 3) q32.2.1⟩,⟨0,48,5,List.map (A2 3 44) q32.2.2⟩,⟨0,30,2,[[(.own 2 0 (List.length q32.2.1)),(.own 3 0 (List.length q32.2.2))]]⟩,⟨0,81,3,List.map (Ad 111 3) q15.1.decls⟩,⟨0,48,5,List.map (A2 3 44) q15.1.funcs⟩,⟨0,30,2,[[(.own 5 0 (List.length q15.1.decls)),(.own 6 0 (List.length q15.1.funcs))]]⟩]) (by first | (simp only[Sh.Az];done) | simp only[Sh.Az,ln33,ln34] | simp only[ln33,ln34])) ?_;exact A5 (L:=[(1,(i64 p1)),(2,(.ptr 0 0 0 0)),(6,(.ptr 1 0 0 0)),(7,(.bool q11.2)),(9,(.ptr 4 0 0 0)),(65,(.bool true))]) (st':=[⟨0,25,2,[[(.sl (List.map AT p0.decls)),(.sl (List.map Ar p0.funcs))]]⟩,⟨0,30,2,[[(.sl (List.map AT q11.1.decls)),(.sl (List.map Ar q11.1.funcs))]]⟩,⟨0,81,3,List.map (Ad 111 3) q15.1.decls⟩,⟨0,48,5,List.map (A2 3 44) q15.1.funcs⟩,⟨0,30,2,[[(.own 2 0 (List.length q15.1.decls)),(.own 3 0 (List.length q15.1.funcs))]]⟩]) (st1:=[⟨0,25,2,[[(.sl (List.map AT p0.decls)),(.sl (List.map Ar p0.funcs))]]⟩,⟨0,30,2,[[(.sl (List.map AT q11.1.decls)),(.sl (List.map Ar q11.1.funcs))]]⟩,⟨0,81,3,List.map (Ad 111 3) q15.1.decls⟩,⟨0,48,5,List.map (A2 3 44) q15.1.funcs⟩,⟨0,30,2,[[(.own 5 0 (List.length q15.1.decls)),(.own 6 0 (List.length q15.1.funcs))]]⟩]) [0,1,5,6,7] U .nil (by decide) rfl U (.raw U U (.raw U U (.deep (AR fun _=>U) (.deep (AR fun _=>U) (.raw U U .nil))))) (.same U)))
     ·refine zg tb b84 U (zg tb b84 U (bs h1 fun q85 gq85 h1=>Jv (v':=(.bool q85)) (DT U U b84) (hb 10) (Gx gq85) rfl (.agg (.ownD U U (fun _=>U) (fun x=>FJ x) (.ownD U U (fun _=>U) (fun x=>FP x) .nil)) (.val U .nil)) rfl trivial U U (zg tb b84 U (zf b84 U (zq tb U ?_)))))
      rcases Sh.Ap h1 with ⟨b86,h1⟩ | ⟨b86,h1⟩
      ·refine zs b86 U (zs b86 U (zs b86 U (zt b86 U ?_)))
       exact AE (M38 true (Sh.AA h1).symm _ (by refine Wk.trans (C9 (st:=[⟨0,25,2,[[(.sl (List.map AT p0.decls)),(.sl (List.map Ar p0.funcs))]]⟩,⟨0,30,2,[[(.sl (List.map AT q11.1.decls)),(.sl (List.map Ar q11.1.funcs))]]⟩,⟨0,81,3,List.map (Ad 111 3) q32.2.1⟩,⟨0,48,5,List.map (A2 3 44) q32.2.2⟩,⟨0,30,2,[[(.own 2 0 (List.length q13.decls)),(.own 3 0 (List.length q13.funcs))]]⟩,⟨0,81,3,List.map (Ad 111 3) q15.1.decls⟩,⟨0,48,5,List.map (A2 3 44) q15.1.funcs⟩,⟨0,30,2,[[(.own 5 0 (List.length q15.1.decls)),(.own 6 0 (List.length q15.1.funcs))]]⟩]) (st':=[⟨0,25,2,[[(.sl (List.map AT p0.decls)),(.sl (List.map Ar p0.funcs))]]⟩,⟨0,30,2,[[(.sl (List.map AT q11.1.decls)),(.sl (List.map Ar q11.1.funcs))]]⟩,⟨0,81,3,List.map (Ad 111 3) q32.2.1⟩,⟨0,48,5,List.map (A2 3 44) q32.2.2⟩,⟨0,30,2,[[(.own 2 0 (List.length q32.2.1)),(.own 3 0 (List.length q32.2.2))]]⟩,⟨0,81,3,List.map (Ad 111 3) q15.1.decls⟩,⟨0,48,5,List.map (A2 3 44) q15.1.funcs⟩,⟨0,30,2,[[(.own 5 0 (List.length q15.1.decls)),(.own 6 0 (List.length q15.1.funcs))]]⟩]) (by first | (simp only[Sh.Az];done) | simp only[Sh.Az,ln33,ln34] | simp only[ln33,ln34])) ?_;exact A5 (L:=[(1,(i64 p1)),(2,(.ptr 0 0 0 0)),(6,(.ptr 1 0 0 0)),(7,(.bool q11.2)),(9,(.ptr 4 0 0 0)),(65,(.bool true))]) (st':=[⟨0,25,2,[[(.sl (List.map AT p0.decls)),(.sl (List.map Ar p0.funcs))]]⟩,⟨0,30,2,[[(.sl (List.map AT q11.1.decls)),(.sl (List.map Ar q11.1.funcs))]]⟩,⟨0,81,3,List.map (Ad 111 3) q15.1.decls⟩,⟨0,48,5,List.map (A2 3 44) q15.1.funcs⟩,⟨0,30,2,[[(.own 2 0 (List.length q15.1.decls)),(.own 3 0 (List.length q15.1.funcs))]]⟩]) (st1:=[⟨0,25,2,[[(.sl (List.map AT p0.decls)),(.sl (List.map Ar p0.funcs))]]⟩,⟨0,30,2,[[(.sl (List.map AT q11.1.decls)),(.sl (List.map Ar q11.1.funcs))]]⟩,⟨0,81,3,List.map (Ad 111 3) q15.1.decls⟩,⟨0,48,5,List.map (A2 3 44) q15.1.funcs⟩,⟨0,30,2,[[(.own 5 0 (List.length q15.1.decls)),(.own 6 0 (List.length q15.1.funcs))]]⟩]) [0,1,5,6,7] U .nil (by decide) rfl U (.raw U U (.raw U U (.deep (AR fun _=>U) (.deep (AR fun _=>U) (.raw U U .nil))))) (.same U)))
      ·refine zg tb b86 U (zg tb b86 U (zg tb b86 U (zf b86 U ?_)))
       exact AE (M38 (q15.2 != q11.2) (Sh.AA h1).symm _ (by refine Wk.trans (C9 (st:=[⟨0,25,2,[[(.sl (List.map AT p0.decls)),(.sl (List.map Ar p0.funcs))]]⟩,⟨0,30,2,[[(.sl (List.map AT q11.1.decls)),(.sl (List.map Ar q11.1.funcs))]]⟩,⟨0,81,3,List.map (Ad 111 3) q32.2.1⟩,⟨0,48,5,List.map (A2 3 44) q32.2.2⟩,⟨0,30,2,[[(.own 2 0 (List.length q13.decls)),(.own 3 0 (List.length q13.funcs))]]⟩,⟨0,81,3,List.map (Ad 111 3) q15.1.decls⟩,⟨0,48,5,List.map (A2 3 44) q15.1.funcs⟩,⟨0,30,2,[[(.own 5 0 (List.length q15.1.decls)),(.own 6 0 (List.length q15.1.funcs))]]⟩]) (st':=[⟨0,25,2,[[(.sl (List.map AT p0.decls)),(.sl (List.map Ar p0.funcs))]]⟩,⟨0,30,2,[[(.sl (List.map AT q11.1.decls)),(.sl (List.map Ar q11.1.funcs))]]⟩,⟨0,81,3,List.map (Ad 111 3) q32.2.1⟩,⟨0,48,5,List.map (A2 3 44) q32.2.2⟩,⟨0,30,2,[[(.own 2 0 (List.length q32.2.1)),(.own 3 0 (List.length q32.2.2))]]⟩,⟨0,81,3,List.map (Ad 111 3) q15.1.decls⟩,⟨0,48,5,List.map (A2 3 44) q15.1.funcs⟩,⟨0,30,2,[[(.own 5 0 (List.length q15.1.decls)),(.own 6 0 (List.length q15.1.funcs))]]⟩]) (by first | (simp only[Sh.Az];done) | simp only[Sh.Az,ln33,ln34] | simp only[ln33,ln34])) ?_;exact A5 (L:=[(1,(i64 p1)),(2,(.ptr 0 0 0 0)),(6,(.ptr 1 0 0 0)),(7,(.bool q11.2)),(9,(.ptr 4 0 0 0)),(65,(.bool (q15.2 != q11.2)))]) (st':=[⟨0,25,2,[[(.sl (List.map AT p0.decls)),(.sl (List.map Ar p0.funcs))]]⟩,⟨0,30,2,[[(.sl (List.map AT q11.1.decls)),(.sl (List.map Ar q11.1.funcs))]]⟩,⟨0,81,3,List.map (Ad 111 3) q15.1.decls⟩,⟨0,48,5,List.map (A2 3 44) q15.1.funcs⟩,⟨0,30,2,[[(.own 2 0 (List.length q15.1.decls)),(.own 3 0 (List.length q15.1.funcs))]]⟩]) (st1:=[⟨0,25,2,[[(.sl (List.map AT p0.decls)),(.sl (List.map Ar p0.funcs))]]⟩,⟨0,30,2,[[(.sl (List.map AT q11.1.decls)),(.sl (List.map Ar q11.1.funcs))]]⟩,⟨0,81,3,List.map (Ad 111 3) q15.1.decls⟩,⟨0,48,5,List.map (A2 3 44) q15.1.funcs⟩,⟨0,30,2,[[(.own 5 0 (List.length q15.1.decls)),(.own 6 0 (List.length q15.1.funcs))]]⟩]) [0,1,5,6,7] U .nil (by decide) rfl U (.raw U U (.raw U U (.deep (AR fun _=>U) (.deep (AR fun _=>U) (.raw U U .nil))))) (.same U)))
  refine AF U (zm tb 2 U (bs h1 fun q87 gq87 h1=>Jv (v':=(.bool q87)) Ac (hb 10) (Gx gq87) rfl (.agg (.ownD U U (fun _=>U) (fun x=>FJ x) (.ownD U U (fun _=>U) (fun x=>FP x) .nil)) (.val U .nil)) rfl trivial U U (zm tb 2 U ?_)))
  rcases Sh.Ap h1 with ⟨b88,h1⟩ | ⟨b88,h1⟩
  ·refine zs b88 U (zs b88 U (zs b88 U (zt b88 U ?_)))
   exact AE (M19 true (Sh.AA h1).symm _ (A5 (L:=[(1,(i64 p1)),(2,Am),(6,Aq),(7,(.bool q11.2)),(8,Fc),(9,(.ptr 7 0 0 0)),(10,(.bool q15.2)),(44,(.bool true))]) (st':=[(U9 p0.decls p0.funcs),(KQ q11.1.decls q11.1.funcs),(ro 0 81 3 (Ad 111 3) q13.decls),(QM q13),⟨0,30,2,[[(ow 2 0 q13.decls),(ow 3 0 q13.funcs)]]⟩,(FD q15.1.decls),(CM q15.1.funcs),⟨0,30,2,[[(ow 5 0 q15.1.decls),(ow 6 0 q15.1.funcs)]]⟩]) (st1:=[(U9 p0.decls p0.funcs),(KQ q11.1.decls q11.1.funcs),(ro 0 81 3 (Ad 111 3) q13.decls),(QM q13),⟨0,30,2,[[(ow 4 0 q13.decls),(ow 5 0 q13.funcs)]]⟩,(FD q15.1.decls),(CM q15.1.funcs),⟨0,30,2,[[(ow 7 0 q15.1.decls),(ow 8 0 q15.1.funcs)]]⟩]) [0,3,4,5,6,7,8,9] U .nil (by decide) rfl U (.raw U U (.raw U U (.deep (AR fun _=>U) (.deep (AR fun _=>U) (.raw U U (.deep (AR fun _=>U) (.deep (AR fun _=>U) (.raw U U .nil)))))))) (.same U)))
  ·refine zg tb b88 U (zg tb b88 U (zg tb b88 U (zf b88 U ?_)))
   exact AE (M19 (q15.2 != q11.2) (Sh.AA h1).symm _ (A5 (L:=[(1,(i64 p1)),(2,Am),(6,Aq),(7,(.bool q11.2)),(8,Fc),(9,(.ptr 7 0 0 0)),(10,(.bool q15.2)),(44,(.bool (q15.2 != q11.2)))]) (st':=[(U9 p0.decls p0.funcs),(KQ q11.1.decls q11.1.funcs),(ro 0 81 3 (Ad 111 3) q13.decls),(QM q13),⟨0,30,2,[[(ow 2 0 q13.decls),(ow 3 0 q13.funcs)]]⟩,(FD q15.1.decls),(CM q15.1.funcs),⟨0,30,2,[[(ow 5 0 q15.1.decls),(ow 6 0 q15.1.funcs)]]⟩]) (st1:=[(U9 p0.decls p0.funcs),(KQ q11.1.decls q11.1.funcs),(ro 0 81 3 (Ad 111 3) q13.decls),(QM q13),⟨0,30,2,[[(ow 4 0 q13.decls),(ow 5 0 q13.funcs)]]⟩,(FD q15.1.decls),(CM q15.1.funcs),⟨0,30,2,[[(ow 7 0 q15.1.decls),(ow 8 0 q15.1.funcs)]]⟩]) [0,3,4,5,6,7,8,9] U .nil (by decide) rfl U (.raw U U (.raw U U (.deep (AR fun _=>U) (.deep (AR fun _=>U) (.raw U U (.deep (AR fun _=>U) (.deep (AR fun _=>U) (.raw U U .nil)))))))) (.same U)))
end Go.Proofs.YtpahalfiiahddaaGreat

