import Derived.Test.YtpahalfiiahddaaProg
import Derived.Test.YtpahalfiiahddaaGHADefsToFCDefs
import Derived.Test.YtpahalfiiahddaaFCWalkP0
namespace Go.Proofs.Ytpahalfiiahddaa
open Go Go.Abs RC
attribute [local irreducible] Go.Abs.Co
set_option maxRecDepth 100000
set_option maxHeartbeats 4000000

noncomputable abbrev As (z0:List Int) (z1:Int):Go.Abs.Row:=⟨0,88,2,[[(ls Cr z0),(i64 z1)]]⟩
noncomputable abbrev CH (z0:Int) (z1:Int) (z2:List AP):Go.Abs.Row:=⟨0,50,3,[[(i64 z0),(i64 z1),(ls AA z2)]]⟩
noncomputable abbrev Bm:Go.Abs.Row:=⟨0,50,3,[[(i64 0),(i64 0),.zc]]⟩
theorem KO:HR Try.prog 31 1=some 1:=by kernel_rfl
theorem PR:HR Try.prog 52 0=some 0:=by kernel_rfl
theorem Nk:HR Try.prog 52 1=some 1:=by kernel_rfl
theorem Xr:Au Try.prog 112=true:=by kernel_rfl
theorem X2:Au Try.prog 113=true:=by kernel_rfl
theorem X1:Au Try.prog 114=true:=by kernel_rfl
theorem Xz:Au Try.prog 115=true:=by kernel_rfl
theorem X5:Au Try.prog 116=true:=by kernel_rfl
theorem V2:Au Try.prog 117=true:=by kernel_rfl
theorem YD:Au Try.prog 126=true:=by kernel_rfl
theorem Xq:Au Try.prog 129=true:=by kernel_rfl
theorem XZ:Au Try.prog 131=true:=by kernel_rfl
theorem Xk:Au Try.prog 132=true:=by kernel_rfl
theorem Xc:Au Try.prog 133=true:=by kernel_rfl
theorem VW:Au Try.prog 43=true:=by kernel_rfl
theorem XP:Au Try.prog 68=true:=by kernel_rfl
theorem MB:D7 Try.prog 29=some (false,1):=by kernel_rfl

theorem QT {N:Nat} {rec_spec_gen:(List Int)→Int→(List Ar)→(List Ac)→(List Int)→Int→Int→Option (AP×Int)} (hrec_spec_gen :∀{s0_0:(List Int)} {s0_1:Int} {s1:(List Ar)} {p1_0:(List Ac)} {p2:(List Int)} {p3:Int} {p4:Int} {r:AP×Int},rec_spec_gen s0_0 s0_1 s1 p1_0 p2 p3 p4=some r→Aj Try.prog 125 [(.ptr 0 0 0 0),(.agg [(ls AI p1_0),(ow 1 0 s1)]),(ls eI p2),(i64 p3),(i64 p4)] [(As s0_0 s0_1),(ro 0 52 5 AH s1)] (fun v st=>v=(.agg [(i64 r.1.op),(i64 r.1.num),(ls AA r.1.kids)])∧st=[(As s0_0 r.2),(ro 0 52 5 AH s1)])) {s0_0:(List Int)} {s0_1:Int} {s1:(List Ar)} {p1_0:(List Ac)} {p2:(List Int)} {p3:Int} {p4:Int} {r:AP×Int} (h0:IN N rec_spec_gen s0_0 s0_1 s1 p1_0 p2 p3 p4=some r):Aj Try.prog 125 [(.ptr 0 0 0 0),(.agg [(ls AI p1_0),(ow 1 0 s1)]),(ls eI p2),(i64 p3),(i64 p4)] [(As s0_0 s0_1),(ro 0 52 5 AH s1)] (fun v st=>v=(.agg [(i64 r.1.op),(i64 r.1.num),(ls AA r.1.kids)])∧st=[(As s0_0 r.2),(ro 0 52 5 AH s1)]):=by
 unfold IN at h0
 refine Aj.wk (r0:=(.agg [(i64 r.1.op),(i64 r.1.num),(ls AA r.1.kids)])) (st0:=[(As s0_0 r.2),(ro 0 52 5 AH s1),(CH r.1.op r.1.num r.1.kids)]) ?_ (D0 (L:=[(0,(.agg [(i64 r.1.op),(i64 r.1.num),(ls AA r.1.kids)]))]) (st':=[(As s0_0 r.2),(ro 0 52 5 AH s1)]) [0,1] U (by decide) rfl U (.raw U (.pure (AD fun _=>U) trivial)) ⟨.rfl,trivial⟩)
 refine ai Try.func125 U U U U (sr U fun K1 hK1=>Bj (m:=2) AK U U U U U (A0 (m:=3) AK Dw U U (dn hK1 U (AJ fun K2 hK2=>zr tb U U ?_))))
 refine ci h0 U ?_ ?_ <;> clear h0
 ·intro b4 h0
  refine sr U fun K5 hK5=>zm tb 4 U (bs h0 fun q6 gq6 h0=>?_)
  refine A4 (rowsP:=[(As s0_0 s0_1),(ro 0 52 5 AH s1)]) (rows0:=[(As s0_0 s0_1),(ro 0 52 5 AH s1)]) (rows1:=[(As s0_0 q6.2),(ro 0 52 5 AH s1)]) (rows2:=[]) (rows1':=[(As s0_0 q6.2),(ro 0 52 5 AH s1)]) (rows2':=[]) (st':=[(As s0_0 q6.2),(ro 0 52 5 AH s1),⟨0,31,2,[[(ls AI p1_0),(ow 1 0 s1)]]⟩,Bm]) (v':=(.agg [(i64 q6.1.op),(i64 q6.1.num),(ls AA q6.1.kids)])) [0,1] AK N8 (F5 gq6) rfl (by decide) rfl U (.raw U U (.pure (AD fun _=>U) .nil)) rfl U (.raw U U (.pure (AD fun _=>U) .nil)) .nil U U ?_
  refine Az AK BP U U U U U U (show 0+3≤3 by decide) rfl (dn hK5 U ?_)
  replace h0:=Sh.AE h0
  subst r
  exact AZ (Exists.intro _ (And.intro ((AT (L:=[(10,(.ptr 2 0 0 0))]) (st':=[(As s0_0 q6.2),(ro 0 52 5 AH s1),(CH q6.1.op q6.1.num q6.1.kids)]) [0,1,3] U (by decide) rfl U (.raw U U (.pure (AD fun _=>U) (.raw U U .nil))) ⟨.rfl,trivial⟩).trans (Ah (L:=[(10,(.ptr 2 0 0 0))]) ⟨.rfl,trivial⟩)) (BD (x:=.tmp 10) (off:=0) (cs:=[(i64 q6.1.op),(i64 q6.1.num),(ls AA q6.1.kids)]) (vs:=[(i64 q6.1.op),(i64 q6.1.num),(ls AA q6.1.kids)]) BP U U U (show 0+3≤3 by decide) rfl _ ⟨U,U⟩)))
 ·intro b4 h0
  refine AU (hK2 _ (AJ fun K7 hK7=>?_))
  obtain⟨o9,h1,h0⟩:=Sh.Bh h0
  have M9 :∀(f8:Int),o9=Sum.inr f8→∀s,Wk 2 s ⟨114,Ab [(0,(.ptr 0 0 0 0)),(2,(ls eI p2)),(3,(i64 p3)),(4,(i64 p4)),(6,(.ptr 2 0 0 0)),(10,(.ptr 3 0 0 0))],[(As s0_0 f8),(ro 0 52 5 AH s1),⟨0,31,2,[[(ls AI p1_0),(ow 1 0 s1)]]⟩,Bm]⟩→K7 s:=by
   intro f8 hq s hw
   subst o9
   try dsimp only at h0
   refine hK7 _ (AS hw (sr U fun K10 hK10=>zm tb 5 U (bs h0 fun q11 gq11 h0=>?_)))
   refine A4 (rowsP:=[(As s0_0 f8),(ro 0 52 5 AH s1)]) (rows0:=[(As s0_0 f8),(ro 0 52 5 AH s1)]) (rows1:=[(As s0_0 q11.2),(ro 0 52 5 AH s1)]) (rows2:=[]) (rows1':=[(As s0_0 q11.2),(ro 0 52 5 AH s1)]) (rows2':=[]) (st':=[(As s0_0 q11.2),(ro 0 52 5 AH s1),⟨0,31,2,[[(ls AI p1_0),(ow 1 0 s1)]]⟩,Bm]) (v':=(.agg [(i64 q11.1.op),(i64 q11.1.num),(ls AA q11.1.kids)])) [0,1] AK Xc (Nu hrec_spec_gen gq11) rfl (by decide) rfl U (.raw U U (.pure (AD fun _=>U) .nil)) rfl U (.raw U U (.pure (AD fun _=>U) .nil)) .nil U U ?_
   refine Az AK BP U U U U U U (show 0+3≤3 by decide) rfl (dn hK10 U ?_)
   replace h0:=Sh.AE h0
   subst r
   exact AZ (Exists.intro _ (And.intro ((AT (L:=[(10,(.ptr 2 0 0 0))]) (st':=[(As s0_0 q11.2),(ro 0 52 5 AH s1),(CH q11.1.op q11.1.num q11.1.kids)]) [0,1,3] U (by decide) rfl U (.raw U U (.pure (AD fun _=>U) (.raw U U .nil))) ⟨.rfl,trivial⟩).trans (Ah (L:=[(10,(.ptr 2 0 0 0))]) ⟨.rfl,trivial⟩)) (BD (x:=.tmp 10) (off:=0) (cs:=[(i64 q11.1.op),(i64 q11.1.num),(ls AA q11.1.kids)]) (vs:=[(i64 q11.1.op),(i64 q11.1.num),(ls AA q11.1.kids)]) BP U U U (show 0+3≤3 by decide) rfl _ ⟨U,U⟩)))
  refine sr U fun K12 hK12=>zq tb U (bs h1 fun q13 gq13 h1=>?_)
  refine A4 (rowsP:=[(As s0_0 s0_1)]) (rows0:=[(As s0_0 s0_1)]) (rows1:=[(As s0_0 q13.2)]) (rows2:=[]) (rows1':=[(As s0_0 q13.2)]) (rows2':=[]) (st':=[(As s0_0 q13.2),(ro 0 52 5 AH s1),⟨0,31,2,[[(ls AI p1_0),(ow 1 0 s1)]]⟩,Bm]) (v':=(i64 q13.1)) [0] AK Ef (Aw gq13) rfl (by decide) rfl U (.raw U U .nil) rfl U (.raw U U .nil) .nil U U ?_
  refine dn hK12 U (Ae (zr tb U U ?_))
  refine ci h1 U ?_ ?_ <;> clear h1
  ·intro b15 h1
   refine sr U fun K16 hK16=>zm tb 4 U (bs h1 fun q17 gq17 h1=>?_)
   refine A4 (rowsP:=[(As s0_0 q13.2),(ro 0 52 5 AH s1)]) (rows0:=[(As s0_0 q13.2),(ro 0 52 5 AH s1)]) (rows1:=[(As s0_0 q17.2),(ro 0 52 5 AH s1)]) (rows2:=[]) (rows1':=[(As s0_0 q17.2),(ro 0 52 5 AH s1)]) (rows2':=[]) (st':=[(As s0_0 q17.2),(ro 0 52 5 AH s1),⟨0,31,2,[[(ls AI p1_0),(ow 1 0 s1)]]⟩,Bm]) (v':=(.agg [(i64 q17.1.op),(i64 q17.1.num),(ls AA q17.1.kids)])) [0,1] AK N8 (F5 gq17) rfl (by decide) rfl U (.raw U U (.pure (AD fun _=>U) .nil)) rfl U (.raw U U (.pure (AD fun _=>U) .nil)) .nil U U ?_
   refine Az AK BP U U U U U U (show 0+3≤3 by decide) rfl (dn hK16 U ?_)
   replace h1:=Sh.AE h1
   subst o9
   try dsimp only[id] at h0
   replace h0:=Sh.AE h0
   subst r
   exact AZ (Exists.intro _ (And.intro ((AT (L:=[(10,(.ptr 2 0 0 0))]) (st':=[(As s0_0 q17.2),(ro 0 52 5 AH s1),(CH q17.1.op q17.1.num q17.1.kids)]) [0,1,3] U (by decide) rfl U (.raw U U (.pure (AD fun _=>U) (.raw U U .nil))) ⟨.rfl,trivial⟩).trans (Ah (L:=[(10,(.ptr 2 0 0 0))]) ⟨.rfl,trivial⟩)) (BD (x:=.tmp 10) (off:=0) (cs:=[(i64 q17.1.op),(i64 q17.1.num),(ls AA q17.1.kids)]) (vs:=[(i64 q17.1.op),(i64 q17.1.num),(ls AA q17.1.kids)]) BP U U U (show 0+3≤3 by decide) rfl _ ⟨U,U⟩)))
  ·intro b15 h1
   refine AJ fun K18 hK18=>bs h1 fun o20 h2 h1=>?_
   have M20 :∀(t19:Bool),o20=t19→∀s,Wk 2 s ⟨114,Ab [(0,(.ptr 0 0 0 0)),(2,(ls eI p2)),(3,(i64 p3)),(4,(i64 p4)),(6,(.ptr 2 0 0 0)),(10,(.ptr 3 0 0 0)),(22,(i64 q13.1)),(30,(.bool t19))],[(As s0_0 q13.2),(ro 0 52 5 AH s1),⟨0,31,2,[[(ls AI p1_0),(ow 1 0 s1)]]⟩,Bm]⟩→K18 s:=by
    intro t19 hq s hw
    subst o20
    try dsimp only at h1
    refine hK18 _ (AS hw ?_)
    refine ci h1 U ?_ ?_ <;> clear h1
    ·intro b21 h1
     refine sr U fun K22 hK22=>zm tb 3 U (bs h1 fun q23 gq23 h1=>?_)
     refine A4 (rowsP:=[(As s0_0 q13.2),(ro 0 52 5 AH s1)]) (rows0:=[(As s0_0 q13.2),(ro 0 52 5 AH s1)]) (rows1:=[(As s0_0 q23.2),(ro 0 52 5 AH s1)]) (rows2:=[]) (rows1':=[(As s0_0 q23.2),(ro 0 52 5 AH s1)]) (rows2':=[]) (st':=[(As s0_0 q23.2),(ro 0 52 5 AH s1),⟨0,31,2,[[(ls AI p1_0),(ow 1 0 s1)]]⟩,Bm]) (v':=(i64 q23.1)) [0,1] AK Xq (OL gq23) rfl (by decide) rfl U (.raw U U (.pure (AD fun _=>U) .nil)) rfl U (.raw U U (.pure (AD fun _=>U) .nil)) .nil U U ?_
     refine zq tb U (dn hK22 U (AJ fun K24 hK24=>?_))
     refine BQ [(ro 0 52 5 AH s1),⟨0,31,2,[[(ls AI p1_0),(ow 1 0 s1)]]⟩,Bm] 19 (by kernel_rfl) (by kernel_rfl) (by kernel_rfl) (by rfl) ?_
     refine A1 AK (fun x0 zz=>A9 (v:=(.ptr 0 0 0 0)) AK U (BO U) (AR U)) (A1 AK (fun x0 zz=>A9 (v:=(.agg [(ls AI p1_0),(ow 1 0 s1)])) AK U (BD Ee U U U (show 0+2≤2 by decide) rfl) (AR U)) (A1 AK (fun x0 zz=>A9 (v:=(ls eI p2)) AK U (BO U) (AR U)) (A1 AK (fun x0 zz=>A9 (v:=(i64 q23.1)) AK U (BO U) (AR U)) (A1 AK (fun x0 zz=>A9 (v:=(i64 p4)) AK U (BO U) (AR U)) ?_))))
     refine A1 AK (fun x0 zz=>A9 (v:=(i64 (Sh.w (Int.tdiv p4 2)))) AK U (PJ U U (by decide)) (AR U)) ?_
     refine bs h1 fun q25 gq25 h1=>?_
     refine B7 (rowsP:=[(As s0_0 q23.2),(ro 0 52 5 AH s1)]) (rows0:=[(As s0_0 q23.2),(ro 0 52 5 AH s1)]) (rows1:=[(As s0_0 q25.2),(ro 0 52 5 AH s1)]) (rows1':=[(As s0_0 q25.2),(ro 0 52 5 AH s1)]) (v':=(.agg [(i64 q25.1.op),(i64 q25.1.num),(ls AA q25.1.kids)])) (y0:=(As s0_0 q25.2)) [0,1] AK G4 (hrec_spec_gen gq25) rfl (by decide) rfl U (.raw U U (.pure (AD fun _=>U) .nil)) rfl U (fun _=>(.raw U U (.pure (AD fun _=>U) .nil))) (fun _=>U) rfl ?_
     refine A1 AK (fun x0 zz=>A9 (v:=(.ptr 0 0 0 0)) AK U (BO U) (AR U)) (A1 AK (fun x0 zz=>A9 (v:=(.agg [(ls AI p1_0),(ow 1 0 s1)])) AK U (BD Ee U U U (show 0+2≤2 by decide) rfl) (AR U)) (A1 AK (fun x0 zz=>A9 (v:=(ls eI p2)) AK U (BO U) (AR U)) (A1 AK (fun x0 zz=>A9 (v:=(i64 q23.1)) AK U (BO U) (AR U)) ?_)))
     refine A1 AK (fun x0 zz=>Eu (l:=[q23.1]) (enc:=eI) AK BF (by decide) rfl U U U U (AD fun _=>U) (AR U)) ?_
     refine bs h1 fun q26 gq26 h1=>?_
     refine A1 AK (fun x0 zz=>BX (v:=(ls eI q26)) AK NP (Aj.wk (Dq gq26) (by refine Wk.trans (Wk.BH (L:=[(0,(ls eI q26))]) (st':=[⟨1,3,1,[]⟩]) (id:=0) rfl (show 0≤0 by decide) (AD fun _=>U) ⟨(.BH U),trivial⟩ U) ?_;exact AT (L:=[(0,(ls eI q26))]) (st':=[]) [] U (by decide) rfl U .nil ⟨.rfl,trivial⟩)) rfl U U (AR U)) ?_
     refine A1 AK (fun x0 zz=>A9 (v:=(i64 p3)) AK U (BO U) (AR U)) (A1 AK (fun x0 zz=>A9 (v:=(i64 p4)) AK U (BO U) (AR U)) ?_)
     refine A1 AK (fun x0 zz=>A9 (v:=(i64 (Sh.w (Int.tdiv p4 2)))) AK U (PJ U U (by decide)) (AR U)) ?_
     refine bs h1 fun q27 gq27 h1=>?_
     refine B7 (rowsP:=[(As s0_0 q25.2),(ro 0 52 5 AH s1)]) (rows0:=[(As s0_0 q25.2),(ro 0 52 5 AH s1)]) (rows1:=[(As s0_0 q27.2),(ro 0 52 5 AH s1)]) (rows1':=[(As s0_0 q27.2),(ro 0 52 5 AH s1)]) (v':=(.agg [(i64 q27.1.op),(i64 q27.1.num),(ls AA q27.1.kids)])) (y0:=(As s0_0 q27.2)) [0,1] AK G4 (hrec_spec_gen gq27) rfl (by decide) rfl U (.raw U U (.pure (AD fun _=>U) .nil)) rfl U (fun _=>(.raw U U (.pure (AD fun _=>U) .nil))) (fun _=>U) rfl ?_
     refine A1 AK (fun x0 zz=>Eu (l:=[q25.1,q27.1]) (enc:=AA) AK BW (by decide) rfl U U (by simp only[List.map,Ao];rfl) rfl (AD Ag) (AR U)) ?_
     refine bs h1 fun q28 gq28 h1=>A1 AK (fun x0 zz=>BX (v:=(.agg [(i64 q28.op),(i64 q28.num),(ls AA q28.kids)])) AK C1 (BJ gq28) rfl U U (AR U)) (Da U (Az AK BP U U U U U U (show 0+3≤3 by decide) rfl (dn hK24 U ?_)))
     replace h1:=Sh.AE h1
     subst o9
     try dsimp only[id] at h0
     replace h0:=Sh.AE h0
     subst r
     exact AZ (Exists.intro _ (And.intro ((AT (L:=[(10,(.ptr 2 0 0 0))]) (st':=[(As s0_0 q27.2),(ro 0 52 5 AH s1),(CH q28.op q28.num q28.kids)]) [0,1,3] U (by decide) rfl U (.raw U U (.pure (AD fun _=>U) (.raw U U .nil))) ⟨.rfl,trivial⟩).trans (Ah (L:=[(10,(.ptr 2 0 0 0))]) ⟨.rfl,trivial⟩)) (BD (x:=.tmp 10) (off:=0) (cs:=[(i64 q28.op),(i64 q28.num),(ls AA q28.kids)]) (vs:=[(i64 q28.op),(i64 q28.num),(ls AA q28.kids)]) BP U U U (show 0+3≤3 by decide) rfl _ ⟨U,U⟩)))
    ·intro b21 h1
     refine zr tb U U ?_
     refine ci h1 U ?_ ?_ <;> clear h1
     ·intro b30 h1
      refine sr U fun K31 hK31=>zm tb 5 U ?_
      refine A8 (m:=4) (l:=[0,p3,p3]) (enc:=eI) AK BF (by decide) rfl U U U U U ?_
      refine zm tb 2 U (Af (Wk.BH (L:=[(10,(.ptr 3 0 0 0)),(58,(.ptr 0 0 0 0)),(59,(.agg [(ls AI p1_0),(ow 1 0 s1)])),(60,(ls eI p2)),(63,(ls eI [0,p3,p3])),(65,(i64 (Sh.w (p4 - 1))))]) (st':=[(As s0_0 q13.2),(ro 0 52 5 AH s1),⟨0,31,2,[[(ls AI p1_0),(ow 1 0 s1)]]⟩,Bm,⟨1,3,1,[]⟩]) (id:=4) rfl (show 2≤4 by decide) (AD fun _=>U) ⟨.rfl,.rfl,(.agg ⟨.rfl,.rfl,trivial⟩),.rfl,(.BH U),.rfl,trivial⟩ U) (bs h1 fun q32 gq32 h1=>?_))
      refine A4 (rowsP:=[(As s0_0 q13.2),(ro 0 52 5 AH s1)]) (rows0:=[(As s0_0 q13.2),(ro 0 52 5 AH s1)]) (rows1:=[(As s0_0 q32.2),(ro 0 52 5 AH s1)]) (rows2:=[(ro 0 50 3 AA q32.1)]) (rows1':=[(As s0_0 q32.2),(ro 0 52 5 AH s1)]) (rows2':=[(ro 0 50 3 AA q32.1)]) (st':=[(As s0_0 q32.2),(ro 0 52 5 AH s1),⟨0,31,2,[[(ls AI p1_0),(ow 1 0 s1)]]⟩,Bm,⟨1,3,1,[]⟩,(ro 0 50 3 AA q32.1)]) (v':=(ow 5 0 q32.1)) [0,1] AK Pb (Fw hrec_spec_gen gq32) rfl (by decide) rfl U (.raw U U (.pure (AD fun _=>U) .nil)) rfl U (.raw U U (.pure (AD fun _=>U) .nil)) (.pure (AD Ag) .nil) rfl U ?_
      refine Af (Wk.BH (L:=[(10,(.ptr 3 0 0 0)),(66,(ls AA q32.1))]) (st':=[(As s0_0 q32.2),(ro 0 52 5 AH s1),⟨0,31,2,[[(ls AI p1_0),(ow 1 0 s1)]]⟩,Bm,⟨1,3,1,[]⟩,⟨1,50,3,[]⟩]) (id:=5) rfl (show 2≤5 by decide) (AD Ag) ⟨.rfl,(.BH U),trivial⟩ U) (bs h1 fun q33 gq33 h1=>zc (v':=(.agg [(i64 q33.op),(i64 q33.num),(ls AA q33.kids)])) C1 (BJ gq33) rfl U U (Az AK BP U U U U U U (show 0+3≤3 by decide) rfl (dn hK31 U ?_)))
      replace h1:=Sh.AE h1
      subst o9
      try dsimp only[id] at h0
      replace h0:=Sh.AE h0
      subst r
      exact AZ (Exists.intro _ (And.intro ((AT (L:=[(10,(.ptr 2 0 0 0))]) (st':=[(As s0_0 q32.2),(ro 0 52 5 AH s1),(CH q33.op q33.num q33.kids)]) [0,1,3] U (by decide) rfl U (.raw U U (.pure (AD fun _=>U) (.raw U U .nil))) ⟨.rfl,trivial⟩).trans (Ah (L:=[(10,(.ptr 2 0 0 0))]) ⟨.rfl,trivial⟩)) (BD (x:=.tmp 10) (off:=0) (cs:=[(i64 q33.op),(i64 q33.num),(ls AA q33.kids)]) (vs:=[(i64 q33.op),(i64 q33.num),(ls AA q33.kids)]) BP U U U (show 0+3≤3 by decide) rfl _ ⟨U,U⟩)))
     ·intro b30 h1
      refine AJ fun K34 hK34=>bs h1 fun o36 h2 h1=>?_
      have M36 :∀(t35:Bool),o36=t35→∀s,Wk 2 s ⟨114,Ab [(0,(.ptr 0 0 0 0)),(2,(ls eI p2)),(3,(i64 p3)),(4,(i64 p4)),(6,(.ptr 2 0 0 0)),(10,(.ptr 3 0 0 0)),(22,(i64 q13.1)),(68,(.bool t35))],[(As s0_0 q13.2),(ro 0 52 5 AH s1),⟨0,31,2,[[(ls AI p1_0),(ow 1 0 s1)]]⟩,Bm]⟩→K34 s:=by
       intro t35 hq s hw
       subst o36
       try dsimp only at h1
       refine hK34 _ (AS hw ?_)
       refine ci h1 U ?_ ?_ <;> clear h1
       ·intro b37 h1
        refine sr U fun K38 hK38=>zm tb 5 U (bs h1 fun q39 gq39 h1=>?_)
        refine A4 (rowsP:=[(As s0_0 q13.2),(ro 0 52 5 AH s1)]) (rows0:=[(As s0_0 q13.2),(ro 0 52 5 AH s1)]) (rows1:=[(As s0_0 q39.2),(ro 0 52 5 AH s1)]) (rows2:=[]) (rows1':=[(As s0_0 q39.2),(ro 0 52 5 AH s1)]) (rows2':=[]) (st':=[(As s0_0 q39.2),(ro 0 52 5 AH s1),⟨0,31,2,[[(ls AI p1_0),(ow 1 0 s1)]]⟩,Bm]) (v':=(.agg [(i64 q39.1.op),(i64 q39.1.num),(ls AA q39.1.kids)])) [0,1] AK XZ (Nn hrec_spec_gen gq39) rfl (by decide) rfl U (.raw U U (.pure (AD fun _=>U) .nil)) rfl U (.raw U U (.pure (AD fun _=>U) .nil)) .nil U U ?_
        refine Az AK BP U U U U U U (show 0+3≤3 by decide) rfl (dn hK38 U ?_)
        replace h1:=Sh.AE h1
        subst o9
        try dsimp only[id] at h0
        replace h0:=Sh.AE h0
        subst r
        exact AZ (Exists.intro _ (And.intro ((AT (L:=[(10,(.ptr 2 0 0 0))]) (st':=[(As s0_0 q39.2),(ro 0 52 5 AH s1),(CH q39.1.op q39.1.num q39.1.kids)]) [0,1,3] U (by decide) rfl U (.raw U U (.pure (AD fun _=>U) (.raw U U .nil))) ⟨.rfl,trivial⟩).trans (Ah (L:=[(10,(.ptr 2 0 0 0))]) ⟨.rfl,trivial⟩)) (BD (x:=.tmp 10) (off:=0) (cs:=[(i64 q39.1.op),(i64 q39.1.num),(ls AA q39.1.kids)]) (vs:=[(i64 q39.1.op),(i64 q39.1.num),(ls AA q39.1.kids)]) BP U U U (show 0+3≤3 by decide) rfl _ ⟨U,U⟩)))
       ·intro b37 h1
        refine AJ fun K40 hK40=>bs h1 fun o42 h2 h1=>?_
        have M42 :∀(t41:Bool),o42=t41→∀s,Wk 2 s ⟨114,Ab [(0,(.ptr 0 0 0 0)),(2,(ls eI p2)),(3,(i64 p3)),(4,(i64 p4)),(6,(.ptr 2 0 0 0)),(10,(.ptr 3 0 0 0)),(78,(.bool t41))],[(As s0_0 q13.2),(ro 0 52 5 AH s1),⟨0,31,2,[[(ls AI p1_0),(ow 1 0 s1)]]⟩,Bm]⟩→K40 s:=by
         intro t41 hq s hw
         subst o42
         try dsimp only at h1
         refine hK40 _ (AS hw ?_)
         refine ci h1 U ?_ ?_ <;> clear h1
         ·intro b43 h1
          refine sr U fun K44 hK44=>zm tb 2 U (bs h1 fun q45 gq45 h1=>J2 (v':=(ow 4 0 q45)) AK Xk (NI gq45) rfl (.agg (.val U (.own U U (fun _=>U) .nil)) (.val U .nil)) rfl (XB (fun _=>U) trivial) rfl U (zq tb U (dn hK44 U (sr U fun K46 hK46=>zq tb U (zz (i64 (Sh.len q45)) (Ch Ek U U U) rfl (zq tb U (dn hK46 U ?_)))))))
          refine ci h1 U ?_ ?_ <;> clear h1
          ·intro b47 h1
           refine sr U fun K48 hK48=>zm tb 3 U (zz (i64 (Sh.len q45)) (Ch Ek U U U) rfl (bs h1 fun q49 gq49 h1=>?_))
           refine A4 (rowsP:=[(As s0_0 q13.2)]) (rows0:=[(As s0_0 q13.2)]) (rows1:=[(As s0_0 q49.2)]) (rows2:=[]) (rows1':=[(As s0_0 q49.2)]) (rows2':=[]) (st':=[(As s0_0 q49.2),(ro 0 52 5 AH s1),⟨0,31,2,[[(ls AI p1_0),(ow 1 0 s1)]]⟩,Bm,(ro 0 3 1 eI q45)]) (v':=(i64 q49.1)) [0] AK Ef (Aw gq49) rfl (by decide) rfl U (.raw U U .nil) rfl U (.raw U U .nil) .nil U U ?_
           refine bs h1 fun c50 gc50 h1=>zz (.ptr 4 0 (Int.toNat q49.1) 0) (Br BF U U U U gc50) rfl (zz (i64 c50) (B5 Fx U U (By gc50) rfl) rfl (zq tb U (dn hK48 U (AJ fun K51 hK51=>?_))))
           refine BQ [(ro 0 52 5 AH s1),⟨0,31,2,[[(ls AI p1_0),(ow 1 0 s1)]]⟩,Bm,(ro 0 3 1 eI q45)] 14 (by kernel_rfl) (by kernel_rfl) (by kernel_rfl) (by rfl) ?_
           refine A1 AK (fun x0 zz=>A9 (v:=(i64 c50)) AK U (BO U) (AR U)) (A1 AK (fun x0 zz=>A9 (v:=(.ptr 0 0 0 0)) AK U (BO U) (AR U)) (A1 AK (fun x0 zz=>A9 (v:=(.agg [(ls AI p1_0),(ow 1 0 s1)])) AK U (BD Ee U U U (show 0+2≤2 by decide) rfl) (AR U)) (A1 AK (fun x0 zz=>A9 (v:=(ls eI p2)) AK U (BO U) (AR U)) (A1 AK (fun x0 zz=>A9 (v:=(.ptr 2 0 0 1)) AK U (Fl KO U U (show 0+1≤2 by decide) rfl) (AR U)) (A1 AK (fun x0 zz=>A9 (v:=(ow 1 0 s1)) AK U (B5 MB U U U U) (AR U)) (A1 AK (fun x0 zz=>A9 (v:=(i64 c50)) AK U (BO U) (AR U)) (bs h1 fun c52 gc52 h1=>A1 AK (fun x0 zz=>A9 (v:=(.ptr 1 0 (Int.toNat c50) 0)) AK U (Br C3 U U U U gc52) (AR U)) (A1 AK (fun x0 zz=>A9 (v:=(.ptr 1 0 (Int.toNat c50) 0)) AK U (Fl PR U U (show 0+0≤5 by decide) rfl) (AR U)) (A1 AK (fun x0 zz=>A9 (v:=(ls eI c52.params)) AK U (B5 La U U (By gc52) rfl) (AR U)) (A1 AK (fun x0 zz=>A9 (v:=(i64 p4)) AK U (BO U) (AR U)) ?_))))))))))
           refine A1 AK (fun x0 zz=>A9 (v:=(i64 (Sh.w (p4 - 1)))) AK U (KY U U) (AR U)) (bs h1 fun q53 gq53 h1=>?_)
           refine B7 (rowsP:=[(As s0_0 q49.2),(ro 0 52 5 AH s1)]) (rows0:=[(As s0_0 q49.2),(ro 0 52 5 AH s1)]) (rows1:=[(As s0_0 q53.2),(ro 0 52 5 AH s1)]) (rows1':=[(As s0_0 q53.2),(ro 0 52 5 AH s1)]) (v':=(ls AA q53.1)) (y0:=(As s0_0 q53.2)) [0,1] AK Pb (Aj.wk (Fw hrec_spec_gen gq53) (by refine Wk.trans (Wk.BH (L:=[(0,(ls AA q53.1))]) (st':=[(As s0_0 q53.2),(ro 0 52 5 AH s1),⟨1,50,3,[]⟩]) (id:=2) rfl (show 2≤2 by decide) (AD Ag) ⟨(.BH U),trivial⟩ U) ?_;exact AT (L:=[(0,(ls AA q53.1))]) (st':=[(As s0_0 q53.2),(ro 0 52 5 AH s1)]) [0,1] U (by decide) rfl U (.raw U U (.pure (AD fun _=>U) .nil)) ⟨.rfl,trivial⟩)) rfl (by decide) rfl U (.raw U U (.pure (AD fun _=>U) .nil)) rfl U (fun _=>(.raw U U (.pure (AD fun _=>U) .nil))) (fun _=>U) rfl ?_
           refine bs h1 fun q54 gq54 h1=>A1 AK (fun x0 zz=>BX (v:=(.agg [(i64 q54.op),(i64 q54.num),(ls AA q54.kids)])) AK C1 (BJ gq54) rfl U U (AR U)) (Da U (Az AK BP U U U U U U (show 0+3≤3 by decide) rfl (dn hK51 U ?_)))
           replace h1:=Sh.AE h1
           subst o9
           try dsimp only[id] at h0
           replace h0:=Sh.AE h0
           subst r
           exact AZ (Exists.intro _ (And.intro ((AT (L:=[(10,(.ptr 2 0 0 0))]) (st':=[(As s0_0 q53.2),(ro 0 52 5 AH s1),(CH q54.op q54.num q54.kids)]) [0,1,3] U (by decide) rfl U (.raw U U (.pure (AD fun _=>U) (.raw U U .nil))) ⟨.rfl,trivial⟩).trans (Ah (L:=[(10,(.ptr 2 0 0 0))]) ⟨.rfl,trivial⟩)) (BD (x:=.tmp 10) (off:=0) (cs:=[(i64 q54.op),(i64 q54.num),(ls AA q54.kids)]) (vs:=[(i64 q54.op),(i64 q54.num),(ls AA q54.kids)]) BP U U U (show 0+3≤3 by decide) rfl _ ⟨U,U⟩)))
          ·intro b47 h1
           exact AU (M9 q13.2 (Sh.AE h1).symm _ (AT (L:=[(0,(.ptr 0 0 0 0)),(2,(ls eI p2)),(3,(i64 p3)),(4,(i64 p4)),(6,(.ptr 2 0 0 0)),(10,(.ptr 3 0 0 0))]) (st':=[(As s0_0 q13.2),(ro 0 52 5 AH s1),⟨0,31,2,[[(ls AI p1_0),(ow 1 0 s1)]]⟩,Bm]) [0,1,2,3] U (by decide) rfl U (.raw U U (.pure (AD fun _=>U) (.raw U U (.raw U U .nil)))) ⟨.rfl,.rfl,.rfl,.rfl,.rfl,.rfl,trivial⟩))
         ·intro b43 h1
          exact AU (M9 q13.2 (Sh.AE h1).symm _ (AG U))
        refine zr tb U U ?_
        refine ci h2 U ?_ ?_ <;> clear h2
        ·intro b56 h2
         exact AU (M42 true (Sh.AE h2).symm _ (Ah (L:=[(0,(.ptr 0 0 0 0)),(2,(ls eI p2)),(3,(i64 p3)),(4,(i64 p4)),(6,(.ptr 2 0 0 0)),(10,(.ptr 3 0 0 0)),(78,(.bool true))]) ⟨.rfl,.rfl,.rfl,.rfl,.rfl,.rfl,(.of (congrArg AV.bool b56)),trivial⟩))
        ·intro b56 h2
         exact AN U (zm tb 2 U (AB (M42 (decide (q13.1=8)) (Sh.AE h2).symm _ (AG U))))
      refine zr tb U U ?_
      refine ci h2 U ?_ ?_ <;> clear h2
      ·intro b58 h2
       exact AU (M36 true (Sh.AE h2).symm _ (Ah (L:=[(0,(.ptr 0 0 0 0)),(2,(ls eI p2)),(3,(i64 p3)),(4,(i64 p4)),(6,(.ptr 2 0 0 0)),(10,(.ptr 3 0 0 0)),(22,(i64 q13.1)),(68,(.bool true))]) ⟨.rfl,.rfl,.rfl,.rfl,.rfl,.rfl,.rfl,(.of (congrArg AV.bool b58)),trivial⟩))
      ·intro b58 h2
       refine zr tb U U ?_
       refine ci h2 U ?_ ?_ <;> clear h2
       ·intro b60 h2
        exact AU (M36 true (Sh.AE h2).symm _ (Ah (L:=[(0,(.ptr 0 0 0 0)),(2,(ls eI p2)),(3,(i64 p3)),(4,(i64 p4)),(6,(.ptr 2 0 0 0)),(10,(.ptr 3 0 0 0)),(22,(i64 q13.1)),(68,(.bool true))]) ⟨.rfl,.rfl,.rfl,.rfl,.rfl,.rfl,.rfl,(.of (congrArg AV.bool b60)),trivial⟩))
       ·intro b60 h2
        exact AN U (zm tb 2 U (AB (M36 (decide (q13.1=6)) (Sh.AE h2).symm _ (AG U))))
   refine zr tb U U ?_
   refine ci h2 U ?_ ?_ <;> clear h2
   ·intro b62 h2
    exact AU (M20 true (Sh.AE h2).symm _ (Ah (L:=[(0,(.ptr 0 0 0 0)),(2,(ls eI p2)),(3,(i64 p3)),(4,(i64 p4)),(6,(.ptr 2 0 0 0)),(10,(.ptr 3 0 0 0)),(22,(i64 q13.1)),(30,(.bool true))]) ⟨.rfl,.rfl,.rfl,.rfl,.rfl,.rfl,.rfl,(.of (congrArg AV.bool b62)),trivial⟩))
   ·intro b62 h2
    exact AN U (zm tb 2 U (AB (M20 (decide (q13.1=2)) (Sh.AE h2).symm _ (AG U))))

theorem P5 {N:Nat} :∀(n:Nat),∀{s0_0:(List Int)} {s0_1:Int} {s1:(List Ar)} {p1_0:(List Ac)} {p2:(List Int)} {p3:Int} {p4:Int} {r:AP×Int},Gn N n s0_0 s0_1 s1 p1_0 p2 p3 p4=some r→Aj Try.prog 125 [(.ptr 0 0 0 0),(.agg [(ls AI p1_0),(ow 1 0 s1)]),(ls eI p2),(i64 p3),(i64 p4)] [(As s0_0 s0_1),(ro 0 52 5 AH s1)] (fun v st=>v=(.agg [(i64 r.1.op),(i64 r.1.num),(ls AA r.1.kids)])∧st=[(As s0_0 r.2),(ro 0 52 5 AH s1)]):=by
 intro n
 induction n with
 | zero=>intro s0_0 s0_1 s1 p1_0 p2 p3 p4 r h0;cases h0
 | succ n ih=>
  intro s0_0 s0_1 s1 p1_0 p2 p3 p4 r h0
  rw[Gn] at h0
  exact QT (fun h=>ih h) h0
theorem EC {N:Nat} :∀{s0_0:(List Int)} {s0_1:Int} {s1:(List Ar)} {p1_0:(List Ac)} {p2:(List Int)} {p3:Int} {p4:Int} {r:AP×Int},Ew N s0_0 s0_1 s1 p1_0 p2 p3 p4=some r→Aj Try.prog 125 [(.ptr 0 0 0 0),(.agg [(ls AI p1_0),(ow 1 0 s1)]),(ls eI p2),(i64 p3),(i64 p4)] [(As s0_0 s0_1),(ro 0 52 5 AH s1)] (fun v st=>v=(.agg [(i64 r.1.op),(i64 r.1.num),(ls AA r.1.kids)])∧st=[(As s0_0 r.2),(ro 0 52 5 AH s1)]):=by
 intro s0_0 s0_1 s1 p1_0 p2 p3 p4 r h0
 exact P5 N h0
theorem OT {N:Nat} {s0_0:(List Int)} {s0_1:Int} {p1:Int} {r:AP×Int} (h0:HC N s0_0 s0_1 p1=some r):Aj Try.prog 126 [(.ptr 0 0 0 0),(i64 p1)] [(As s0_0 s0_1)] (fun v st=>v=(.agg [(i64 r.1.op),(i64 r.1.num),(ls AA r.1.kids)])∧st=[(As s0_0 r.2)]):=by
 unfold HC at h0
 refine Aj.wk (r0:=(.agg [(i64 r.1.op),(i64 r.1.num),(ls AA r.1.kids)])) (st0:=[(As s0_0 r.2),(CH r.1.op r.1.num r.1.kids)]) ?_ (D0 (L:=[(0,(.agg [(i64 r.1.op),(i64 r.1.num),(ls AA r.1.kids)]))]) (st':=[(As s0_0 r.2)]) [0] U (by decide) rfl U (.raw U trivial) ⟨.rfl,trivial⟩)
 refine ai Try.func126 U U U U (sr U fun K1 hK1=>A0 (m:=1) AK Dw U U (dn hK1 U (sr U fun K2 hK2=>?_)))
 refine A8 (m:=2) (l:=([]:List AP)) (enc:=AA) AK BW (by decide) rfl U (by simp only[List.map,Ao];rfl) rfl U U ?_
 refine Af (Wk.BH (L:=[(0,(.ptr 0 0 0 0)),(1,(i64 p1)),(4,(.ptr 1 0 0 0)),(10,(.sl (List.map AA [])))]) (st':=[(As s0_0 s0_1),Bm,⟨1,50,3,[]⟩]) (id:=2) rfl (show 1≤2 by decide) (AD Ag) ⟨.rfl,.rfl,.rfl,(.BH U),trivial⟩ U) (bs h0 fun q3 gq3 h0=>zc (v':=(.agg [(i64 q3.op),(i64 q3.num),(ls AA q3.kids)])) C1 (BJ gq3) rfl U U (A0 (m:=3) AK Dw U U (Az AK BP U U U U U U (show 0+3≤3 by decide) rfl (Af (Wk.BH (L:=[(0,(.ptr 0 0 0 0)),(1,(i64 p1)),(4,(.ptr 1 0 0 0)),(5,(.Al [(i64 q3.op),(i64 q3.num),(ls AA q3.kids)] 0))]) (st':=[(As s0_0 s0_1),Bm,⟨1,50,3,[]⟩,⟨1,50,3,[]⟩]) (id:=3) rfl (show 1≤3 by decide) (Cp U) ⟨.rfl,.rfl,.rfl,.rfl,trivial⟩ U) (dn hK2 U (AJ fun K4 hK4=>zr tb U U ?_))))))
 refine ci h0 U ?_ ?_ <;> clear h0
 ·intro b6 h0
  refine sr U fun K7 hK7=>?_
  refine A8 (m:=4) (l:=([]:List AP)) (enc:=AA) AK BW (by decide) rfl U (by simp only[List.map,Ao];rfl) rfl U U ?_
  refine Af (Wk.BH (L:=[(0,(.ptr 0 0 0 0)),(4,(.ptr 1 0 0 0)),(14,(.sl (List.map AA [])))]) (st':=[(As s0_0 s0_1),Bm,⟨1,50,3,[]⟩,⟨1,50,3,[]⟩,⟨1,50,3,[]⟩]) (id:=4) rfl (show 1≤4 by decide) (AD Ag) ⟨.rfl,.rfl,(.BH U),trivial⟩ U) (bs h0 fun q8 gq8 h0=>zc (v':=(.agg [(i64 q8.op),(i64 q8.num),(ls AA q8.kids)])) C1 (BJ gq8) rfl U U (A0 (m:=5) AK Dw U U (Az AK BP U U U U U U (show 0+3≤3 by decide) rfl (Af (Wk.BH (L:=[(0,(.ptr 0 0 0 0)),(4,(.ptr 1 0 0 0)),(6,(.Al [(i64 q8.op),(i64 q8.num),(ls AA q8.kids)] 0))]) (st':=[(As s0_0 s0_1),Bm,⟨1,50,3,[]⟩,⟨1,50,3,[]⟩,⟨1,50,3,[]⟩,⟨1,50,3,[]⟩]) (id:=5) rfl (show 1≤5 by decide) (Cp U) ⟨.rfl,.rfl,.rfl,trivial⟩ U) (dn hK7 U (AJ fun K9 hK9=>?_))))))
  refine AS (B6 (L:=[(0,(.ptr 0 0 0 0)),(4,(.ptr 1 0 0 0)),(6,(.Al [(i64 q8.op),(i64 q8.num),(ls AA q8.kids)] 0))]) (st':=[(As s0_0 s0_1),Bm,⟨0,50,3,[]⟩,⟨0,50,3,[]⟩,⟨0,50,3,[]⟩,⟨0,50,3,[]⟩]) (.raw U U U (.raw U U U (.pure U (by intro x hx;cases hx) (.pure U (by intro x hx;cases hx) (.pure U (by intro x hx;cases hx) (.pure U (by intro x hx;cases hx) .nil)))))) ⟨.rfl,.rfl,.rfl,trivial⟩) ?_
  refine BQ [Bm,⟨0,50,3,[]⟩,⟨0,50,3,[]⟩,⟨0,50,3,[]⟩,⟨0,50,3,[]⟩] 8 (by kernel_rfl) (by kernel_rfl) (by kernel_rfl) (by rfl) ?_
  refine A1 AK (fun x0 zz=>A9 (v:=(.agg [(i64 q8.op),(i64 q8.num),(ls AA q8.kids)])) AK U (Ff BP U (show 0+3≤3 by decide) rfl) (AR U)) (A1 AK (fun x0 zz=>A9 (v:=(.ptr 0 0 0 0)) AK U (BO U) (AR U)) (bs h0 fun q10 gq10 h0=>?_))
  refine B7 (rowsP:=[(As s0_0 s0_1)]) (rows0:=[(As s0_0 s0_1)]) (rows1:=[(As s0_0 q10.2)]) (rows1':=[(As s0_0 q10.2)]) (v':=(i64 q10.1)) (y0:=(As s0_0 q10.2)) [0] AK Ef (Aw gq10) rfl (by decide) rfl U (.raw U U .nil) rfl U (fun _=>(.raw U U .nil)) (fun _=>U) rfl ?_
  refine bs h0 fun q11 gq11 h0=>A1 AK (fun x0 zz=>BX (v:=(.agg [(i64 q11.op),(i64 q11.num),(ls AA q11.kids)])) AK Gh (Bp gq11) rfl U U (AR U)) (A1 AK (fun x0 zz=>A9 (v:=(.agg [(i64 q8.op),(i64 q8.num),(ls AA q8.kids)])) AK U (Ff BP U (show 0+3≤3 by decide) rfl) (AR U)) ?_)
  refine A1 AK (fun x0 zz=>Eu (l:=[q8,q11,q8]) (enc:=AA) AK BW (by decide) rfl U U (by simp only[List.map,Ao];rfl) rfl (AD Ag) (AR U)) ?_
  refine bs h0 fun q12 gq12 h0=>A1 AK (fun x0 zz=>BX (v:=(.agg [(i64 q12.op),(i64 q12.num),(ls AA q12.kids)])) AK C1 (BJ gq12) rfl U U (AR U)) (SN Dw U (Da U (Az AK BP U U U U U U (show 0+3≤3 by decide) rfl (Af (Wk.BH (L:=[(0,(.ptr 0 0 0 0)),(4,(.ptr 1 0 0 0)),(6,(.Al [(i64 q8.op),(i64 q8.num),(ls AA q8.kids)] 0)),(7,(.Al [(i64 q12.op),(i64 q12.num),(ls AA q12.kids)] 0))]) (st':=[(As s0_0 q10.2),Bm,⟨0,50,3,[]⟩,⟨0,50,3,[]⟩,⟨0,50,3,[]⟩,⟨0,50,3,[]⟩,⟨1,50,3,[]⟩]) (id:=6) rfl (show 1≤6 by decide) (Cp U) ⟨.rfl,.rfl,.rfl,.rfl,trivial⟩ U) (dn hK9 U (AJ fun K13 hK13=>?_))))))
  refine AS (B6 (L:=[(0,(.ptr 0 0 0 0)),(4,(.ptr 1 0 0 0)),(6,(.Al [(i64 q8.op),(i64 q8.num),(ls AA q8.kids)] 0)),(7,(.Al [(i64 q12.op),(i64 q12.num),(ls AA q12.kids)] 0))]) (st':=[(As s0_0 q10.2),Bm,⟨0,50,3,[]⟩,⟨0,50,3,[]⟩,⟨0,50,3,[]⟩,⟨0,50,3,[]⟩,⟨0,50,3,[]⟩]) (.raw U U U (.raw U U U (.pure U (by intro x hx;cases hx) (.pure U (by intro x hx;cases hx) (.pure U (by intro x hx;cases hx) (.pure U (by intro x hx;cases hx) (.pure U (by intro x hx;cases hx) .nil))))))) ⟨.rfl,.rfl,.rfl,.rfl,trivial⟩) ?_
  refine BQ [Bm,⟨0,50,3,[]⟩,⟨0,50,3,[]⟩,⟨0,50,3,[]⟩,⟨0,50,3,[]⟩,⟨0,50,3,[]⟩] 7 (by kernel_rfl) (by kernel_rfl) (by kernel_rfl) (by rfl) ?_
  refine A1 AK (fun x0 zz=>A9 (v:=(.agg [(i64 q12.op),(i64 q12.num),(ls AA q12.kids)])) AK U (Ff BP U (show 0+3≤3 by decide) rfl) (AR U)) (A1 AK (fun x0 zz=>A9 (v:=(.ptr 0 0 0 0)) AK U (BO U) (AR U)) (bs h0 fun q14 gq14 h0=>?_))
  refine B7 (rowsP:=[(As s0_0 q10.2)]) (rows0:=[(As s0_0 q10.2)]) (rows1:=[(As s0_0 q14.2)]) (rows1':=[(As s0_0 q14.2)]) (v':=(i64 q14.1)) (y0:=(As s0_0 q14.2)) [0] AK Ef (Aw gq14) rfl (by decide) rfl U (.raw U U .nil) rfl U (fun _=>(.raw U U .nil)) (fun _=>U) rfl ?_
  refine bs h0 fun q15 gq15 h0=>A1 AK (fun x0 zz=>BX (v:=(.agg [(i64 q15.op),(i64 q15.num),(ls AA q15.kids)])) AK Gh (Bp gq15) rfl U U (AR U)) (A1 AK (fun x0 zz=>A9 (v:=(.agg [(i64 q8.op),(i64 q8.num),(ls AA q8.kids)])) AK U (Ff BP U (show 0+3≤3 by decide) rfl) (AR U)) ?_)
  refine A1 AK (fun x0 zz=>Eu (l:=[q12,q15,q8]) (enc:=AA) AK BW (by decide) rfl U U (by simp only[List.map,Ao];rfl) rfl (AD Ag) (AR U)) ?_
  refine bs h0 fun q16 gq16 h0=>A1 AK (fun x0 zz=>BX (v:=(.agg [(i64 q16.op),(i64 q16.num),(ls AA q16.kids)])) AK C1 (BJ gq16) rfl U U (AR U)) (Da U (Az AK BP U U U U U U (show 0+3≤3 by decide) rfl (dn hK13 U ?_)))
  replace h0:=Sh.AE h0
  subst r
  exact AZ (Exists.intro _ (And.intro ((AT (L:=[(4,(.ptr 1 0 0 0))]) (st':=[(As s0_0 q14.2),(CH q16.op q16.num q16.kids)]) [0,1] U (by decide) rfl U (.raw U U (.raw U U .nil)) ⟨.rfl,trivial⟩).trans (Ah (L:=[(4,(.ptr 1 0 0 0))]) ⟨.rfl,trivial⟩)) (BD (x:=.tmp 4) (off:=0) (cs:=[(i64 q16.op),(i64 q16.num),(ls AA q16.kids)]) (vs:=[(i64 q16.op),(i64 q16.num),(ls AA q16.kids)]) BP U U U (show 0+3≤3 by decide) rfl _ ⟨U,U⟩)))
 ·intro b6 h0
  refine AU (hK4 _ (sr U fun K17 hK17=>zq tb U (A0 (m:=4) AK Dw U U (Az AK BP U U U U U U (show 0+3≤3 by decide) rfl (dn hK17 U (AJ fun K18 hK18=>sr U fun K19 hK19=>zq tb U (bs h0 fun q20 gq20 h0=>?_)))))))
  refine A4 (rowsP:=[(As s0_0 s0_1)]) (rows0:=[(As s0_0 s0_1)]) (rows1:=[(As s0_0 q20.2)]) (rows2:=[]) (rows1':=[(As s0_0 q20.2)]) (rows2':=[]) (st':=[(As s0_0 q20.2),Bm,⟨1,50,3,[]⟩,⟨1,50,3,[]⟩,(CH q3.op q3.num q3.kids)]) (v':=(i64 q20.1)) [0] AK Ef (Aw gq20) rfl (by decide) rfl U (.raw U U .nil) rfl U (.raw U U .nil) .nil U U ?_
  refine zm tb 2 U (dn hK19 U (bs h0 fun o30 h1 h0=>?_))
  have M30 :∀(f26:Int) (f27:Int) (f28:Int) (f29:(List AP)),o30=(f26,f27,f28,f29)→∀s,Wk 1 s ⟨45,Ab [(4,(.ptr 1 0 0 0)),(8,(.ptr 2 0 0 0))],[(As s0_0 f26),Bm,(CH f27 f28 f29)]⟩→K18 s:=by
   intro f26 f27 f28 f29 hq s hw
   subst o30
   try dsimp only at h0
   refine hK18 _ (AS hw (sr U fun K31 hK31=>zq tb U (Az AK BP U U U U U U (show 0+3≤3 by decide) rfl (dn hK31 U ?_))))
   replace h0:=Sh.AE h0
   subst r
   exact AZ (Exists.intro _ (And.intro ((AT (L:=[(4,(.ptr 1 0 0 0))]) (st':=[(As s0_0 f26),(CH f27 f28 f29)]) [0,1] U (by decide) rfl U (.raw U U (.raw U U .nil)) ⟨.rfl,trivial⟩).trans (Ah (L:=[(4,(.ptr 1 0 0 0))]) ⟨.rfl,trivial⟩)) (BD (x:=.tmp 4) (off:=0) (cs:=[(i64 f27),(i64 f28),(ls AA f29)]) (vs:=[(i64 f27),(i64 f28),(ls AA f29)]) BP U U U (show 0+3≤3 by decide) rfl _ ⟨U,U⟩)))
  refine Ae (A5 (σ:=Int×Int×Int×Int×(List AP)) (fun n v=>D2 s0_0 n v.1 v.2.1 v.2.2.1 v.2.2.2.1 v.2.2.2.2=some o30) (fun (n21,f22,f23,f24,f25)=>⟨45,Ab [(0,(.ptr 0 0 0 0)),(4,(.ptr 1 0 0 0)),(8,(.ptr 2 0 0 0)),(9,(i64 n21))],[(As s0_0 f22),Bm,(CH f23 f24 f25)]⟩) N (Sh.w (1+q20.1),q20.2,q3.op,q3.num,q3.kids) h1 (AT (L:=[(0,(.ptr 0 0 0 0)),(4,(.ptr 1 0 0 0)),(8,(.ptr 2 0 0 0)),(9,(i64 (Sh.w (1+q20.1))))]) (st':=[(As s0_0 q20.2),Bm,(CH q3.op q3.num q3.kids)]) [0,1,4] U (by decide) rfl U (.raw U U (.raw U U (.raw U U .nil))) ⟨.rfl,.rfl,.rfl,.rfl,trivial⟩) (fun _ hv=>by rw[D2] at hv;cases hv) ?_)
  rintro n ⟨n21,f22,f23,f24,f25⟩ h1
  try dsimp only at h1 ⊢
  rw[D2] at h1
  refine AJ fun K32 hK32=>zr tb U U ?_
  refine ci h1 U ?_ ?_ <;> clear h1
  ·intro b34 h1
   refine AU (hK32 _ (AJ fun K35 hK35=>Ae ?_))
   refine BQ [Bm,(CH f23 f24 f25)] 6 (by kernel_rfl) (by kernel_rfl) (by kernel_rfl) (by rfl) ?_
   refine A1 AK (fun x0 zz=>A9 (v:=(.ptr 0 0 0 0)) AK U (BO U) (AR U)) (bs h1 fun q36 gq36 h1=>?_)
   refine B7 (rowsP:=[(As s0_0 f22)]) (rows0:=[(As s0_0 f22)]) (rows1:=[(As s0_0 q36.2)]) (rows1':=[(As s0_0 q36.2)]) (v':=(i64 q36.1)) (y0:=(As s0_0 q36.2)) [0] AK Vh (J0 gq36) rfl (by decide) rfl U (.raw U U .nil) rfl U (fun _=>(.raw U U .nil)) (fun _=>U) rfl ?_
   refine bs h1 fun q37 gq37 h1=>A1 AK (fun x0 zz=>BX (v:=(.agg [(i64 q37.op),(i64 q37.num),(ls AA q37.kids)])) AK Gh (Bp gq37) rfl U U (AR U)) (A1 AK (fun x0 zz=>A9 (v:=(.agg [(i64 f23),(i64 f24),(ls AA f25)])) AK U (BD BP U U U (show 0+3≤3 by decide) rfl) (AR U)) ?_)
   refine A1 AK (fun x0 zz=>Eu (l:=[q37,(AP.mk f23 f24 f25)]) (enc:=AA) AK BW (by decide) rfl U U (by simp only[List.map,Ao];rfl) rfl (AD Ag) (AR U)) ?_
   exact bs h1 fun q38 gq38 h1=>A1 AK (fun x0 zz=>BX (v:=(.agg [(i64 q38.op),(i64 q38.num),(ls AA q38.kids)])) AK C1 (BJ gq38) rfl U U (AR U)) (Da U (Az AK BP U U U U U U (show 0+3≤3 by decide) rfl (dn hK35 U (AN U (zm tb 3 U (AB (xi (Sh.w (n21 - 1),q36.2,q38.op,q38.num,q38.kids) h1 (AG U))))))))
  ·intro b34 h1
   exact BE (M30 f22 f23 f24 f25 (Sh.AE h1).symm _ (AG U))
theorem Mt {N:Nat} {s0_0:(List Int)} {s0_1:Int} {s1:(List Ar)} {p1_0:(List Ac)} {r:AP×Int} (h0:Gj N s0_0 s0_1 s1 p1_0=some r):Aj Try.prog 113 [(.ptr 0 0 0 0),(.agg [(ls AI p1_0),(ow 1 0 s1)])] [(As s0_0 s0_1),(ro 0 52 5 AH s1)] (fun v st=>v=(.agg [(i64 r.1.op),(i64 r.1.num),(ls AA r.1.kids)])∧st=[(As s0_0 r.2),(ro 0 52 5 AH s1)]):=by
 unfold Gj at h0
 refine Aj.wk (r0:=(.agg [(i64 r.1.op),(i64 r.1.num),(ls AA r.1.kids)])) (st0:=[(As s0_0 r.2),(ro 0 52 5 AH s1),(CH r.1.op r.1.num r.1.kids)]) ?_ (D0 (L:=[(0,(.agg [(i64 r.1.op),(i64 r.1.num),(ls AA r.1.kids)]))]) (st':=[(As s0_0 r.2),(ro 0 52 5 AH s1)]) [0,1] U (by decide) rfl U (.raw U (.pure (AD fun _=>U) trivial)) ⟨.rfl,trivial⟩)
 refine ai Try.func113 U U U U (sr U fun K1 hK1=>Bj (m:=2) AK U U U U U (A0 (m:=3) AK Dw U U (dn hK1 U (sr U fun K2 hK2=>zq tb U ?_))))
 refine A8 (m:=4) (l:=[(1:Int),1,3]) (enc:=eI) AK BF (by decide) rfl U U U U U ?_
 refine Af (Wk.BH (L:=[(0,(.ptr 0 0 0 0)),(3,(.ptr 2 0 0 0)),(4,(.ptr 3 0 0 0)),(7,(.ptr 0 0 0 0)),(8,(ls eI [(1:Int),1,3]))]) (st':=[(As s0_0 s0_1),(ro 0 52 5 AH s1),⟨0,31,2,[[(ls AI p1_0),(ow 1 0 s1)]]⟩,Bm,⟨1,3,1,[]⟩]) (id:=4) rfl (show 2≤4 by decide) (AD fun _=>U) ⟨.rfl,.rfl,.rfl,.rfl,(.BH U),trivial⟩ U) (bs h0 fun q3 gq3 h0=>?_)
 refine A4 (rowsP:=[(As s0_0 s0_1)]) (rows0:=[(As s0_0 s0_1)]) (rows1:=[(As s0_0 q3.2)]) (rows2:=[]) (rows1':=[(As s0_0 q3.2)]) (rows2':=[]) (st':=[(As s0_0 q3.2),(ro 0 52 5 AH s1),⟨0,31,2,[[(ls AI p1_0),(ow 1 0 s1)]]⟩,Bm,⟨1,3,1,[]⟩]) (v':=(i64 q3.1)) [0] AK HZ (BV gq3) rfl (by decide) rfl U (.raw U U .nil) rfl U (.raw U U .nil) .nil U U ?_
 refine zq tb U (dn hK2 U (sr U fun K4 hK4=>zm tb 3 U ?_))
 refine A8 (m:=5) (l:=[q3.1]) (enc:=eI) AK BF (by decide) rfl U U U U U ?_
 refine Af (Wk.BH (L:=[(0,(.ptr 0 0 0 0)),(4,(.ptr 3 0 0 0)),(5,(i64 q3.1)),(10,(.ptr 0 0 0 0)),(11,(.agg [(ls AI p1_0),(ow 1 0 s1)])),(13,(ls eI [q3.1]))]) (st':=[(As s0_0 q3.2),(ro 0 52 5 AH s1),⟨0,31,2,[[(ls AI p1_0),(ow 1 0 s1)]]⟩,Bm,⟨1,3,1,[]⟩,⟨1,3,1,[]⟩]) (id:=5) rfl (show 2≤5 by decide) (AD fun _=>U) ⟨.rfl,.rfl,.rfl,.rfl,(.agg ⟨.rfl,.rfl,trivial⟩),(.BH U),trivial⟩ U) (bs h0 fun q5 gq5 h0=>?_)
 refine A4 (rowsP:=[(As s0_0 q3.2),(ro 0 52 5 AH s1)]) (rows0:=[(As s0_0 q3.2),(ro 0 52 5 AH s1)]) (rows1:=[(As s0_0 q5.2),(ro 0 52 5 AH s1)]) (rows2:=[]) (rows1':=[(As s0_0 q5.2),(ro 0 52 5 AH s1)]) (rows2':=[]) (st':=[(As s0_0 q5.2),(ro 0 52 5 AH s1),⟨0,31,2,[[(ls AI p1_0),(ow 1 0 s1)]]⟩,Bm,⟨1,3,1,[]⟩,⟨1,3,1,[]⟩]) (v':=(.agg [(i64 q5.1.op),(i64 q5.1.num),(ls AA q5.1.kids)])) [0,1] AK G4 (EC gq5) rfl (by decide) rfl U (.raw U U (.pure (AD fun _=>U) .nil)) rfl U (.raw U U (.pure (AD fun _=>U) .nil)) .nil U U ?_
 refine A0 (m:=6) AK Dw U U (Az AK BP U U U U U U (show 0+3≤3 by decide) rfl (dn hK4 U (AJ fun K6 hK6=>bs h0 fun o11 h1 h0=>?_)))
 have M11 :∀(f7:Int) (f8:Int) (f9:Int) (f10:(List AP)),o11=(f7,f8,f9,f10)→∀s,Wk 2 s ⟨27,Ab [(0,(.ptr 0 0 0 0)),(4,(.ptr 2 0 0 0)),(5,(i64 q3.1)),(6,(.ptr 3 0 0 0))],[(As s0_0 f7),(ro 0 52 5 AH s1),Bm,(CH f8 f9 f10)]⟩→K6 s:=by
  intro f7 f8 f9 f10 hq s hw
  subst o11
  try dsimp only at h0
  refine hK6 _ (AS hw (AJ fun K12 hK12=>?_))
  refine BQ [(ro 0 52 5 AH s1),Bm,(CH f8 f9 f10)] 6 (by kernel_rfl) (by kernel_rfl) (by kernel_rfl) (by rfl) ?_
  refine A1 AK (fun x0 zz=>A9 (v:=(.ptr 0 0 0 0)) AK U (BO U) (AR U)) (A1 AK (fun x0 zz=>A9 (v:=(i64 q3.1)) AK U (BO U) (AR U)) (bs h0 fun q13 gq13 h0=>?_))
  refine B7 (rowsP:=[(As s0_0 f7)]) (rows0:=[(As s0_0 f7)]) (rows1:=[(As s0_0 q13.2)]) (rows1':=[(As s0_0 q13.2)]) (v':=(.agg [(i64 q13.1.op),(i64 q13.1.num),(ls AA q13.1.kids)])) (y0:=(As s0_0 q13.2)) [0] AK YD (OT gq13) rfl (by decide) rfl U (.raw U U .nil) rfl U (fun _=>(.raw U U .nil)) (fun _=>U) rfl ?_
  refine A1 AK (fun x0 zz=>A9 (v:=(.agg [(i64 f8),(i64 f9),(ls AA f10)])) AK U (BD BP U U U (show 0+3≤3 by decide) rfl) (AR U)) ?_
  refine A1 AK (fun x0 zz=>Eu (l:=[q13.1,(AP.mk f8 f9 f10)]) (enc:=AA) AK BW (by decide) rfl U U (by simp only[List.map,Ao];rfl) rfl (AD Ag) (AR U)) ?_
  refine bs h0 fun q14 gq14 h0=>A1 AK (fun x0 zz=>BX (v:=(.agg [(i64 q14.op),(i64 q14.num),(ls AA q14.kids)])) AK C1 (BJ gq14) rfl U U (AR U)) (Da U (Az AK BP U U U U U U (show 0+3≤3 by decide) rfl (dn hK12 U ?_)))
  replace h0:=Sh.AE h0
  subst r
  exact AZ (Exists.intro _ (And.intro ((AT (L:=[(4,(.ptr 2 0 0 0))]) (st':=[(As s0_0 q13.2),(ro 0 52 5 AH s1),(CH q14.op q14.num q14.kids)]) [0,1,2] U (by decide) rfl U (.raw U U (.pure (AD fun _=>U) (.raw U U .nil))) ⟨.rfl,trivial⟩).trans (Ah (L:=[(4,(.ptr 2 0 0 0))]) ⟨.rfl,trivial⟩)) (BD (x:=.tmp 4) (off:=0) (cs:=[(i64 q14.op),(i64 q14.num),(ls AA q14.kids)]) (vs:=[(i64 q14.op),(i64 q14.num),(ls AA q14.kids)]) BP U U U (show 0+3≤3 by decide) rfl _ ⟨U,U⟩)))
 refine sr U fun K15 hK15=>zq tb U (bs h1 fun q16 gq16 h1=>?_)
 refine A4 (rowsP:=[(As s0_0 q5.2)]) (rows0:=[(As s0_0 q5.2)]) (rows1:=[(As s0_0 q16.2)]) (rows2:=[]) (rows1':=[(As s0_0 q16.2)]) (rows2':=[]) (st':=[(As s0_0 q16.2),(ro 0 52 5 AH s1),⟨0,31,2,[[(ls AI p1_0),(ow 1 0 s1)]]⟩,Bm,⟨1,3,1,[]⟩,⟨1,3,1,[]⟩,(CH q5.1.op q5.1.num q5.1.kids)]) (v':=(i64 q16.1)) [0] AK Ef (Aw gq16) rfl (by decide) rfl U (.raw U U .nil) rfl U (.raw U U .nil) .nil U U ?_
 refine zq tb U (dn hK15 U ?_)
 refine ci h1 U ?_ ?_ <;> clear h1
 ·intro b17 h1
  refine AN U (zq tb U ?_)
  refine A8 (m:=7) (l:=[q5.1]) (enc:=AA) AK BW (by decide) rfl U (by simp only[List.map,Ao];rfl) rfl U U ?_
  refine Af (Wk.BH (L:=[(0,(.ptr 0 0 0 0)),(4,(.ptr 3 0 0 0)),(5,(i64 q3.1)),(6,(.ptr 6 0 0 0)),(19,(ls AA [q5.1]))]) (st':=[(As s0_0 q16.2),(ro 0 52 5 AH s1),⟨0,31,2,[[(ls AI p1_0),(ow 1 0 s1)]]⟩,Bm,⟨1,3,1,[]⟩,⟨1,3,1,[]⟩,(CH q5.1.op q5.1.num q5.1.kids),⟨1,50,3,[]⟩]) (id:=7) rfl (show 2≤7 by decide) (AD Ag) ⟨.rfl,.rfl,.rfl,.rfl,(.BH U),trivial⟩ U) (bs h1 fun q18 gq18 h1=>zc (v':=(.agg [(i64 q18.op),(i64 q18.num),(ls AA q18.kids)])) C1 (BJ gq18) rfl U U (Az AK BP U U U U U U (show 0+3≤3 by decide) rfl ?_))
  exact AB (M11 q16.2 q18.op q18.num q18.kids (Sh.AE h1).symm _ (AT (L:=[(0,(.ptr 0 0 0 0)),(4,(.ptr 2 0 0 0)),(5,(i64 q3.1)),(6,(.ptr 3 0 0 0))]) (st':=[(As s0_0 q16.2),(ro 0 52 5 AH s1),Bm,(CH q18.op q18.num q18.kids)]) [0,1,3,6] U (by decide) rfl U (.raw U U (.pure (AD fun _=>U) (.raw U U (.raw U U .nil)))) ⟨.rfl,.rfl,.rfl,.rfl,trivial⟩))
 ·intro b17 h1
  exact AU (M11 q16.2 q5.1.op q5.1.num q5.1.kids (Sh.AE h1).symm _ (AT (L:=[(0,(.ptr 0 0 0 0)),(4,(.ptr 2 0 0 0)),(5,(i64 q3.1)),(6,(.ptr 3 0 0 0))]) (st':=[(As s0_0 q16.2),(ro 0 52 5 AH s1),Bm,(CH q5.1.op q5.1.num q5.1.kids)]) [0,1,3,6] U (by decide) rfl U (.raw U U (.pure (AD fun _=>U) (.raw U U (.raw U U .nil)))) ⟨.rfl,.rfl,.rfl,.rfl,trivial⟩))
theorem Nf {N:Nat} {s0_0:(List Int)} {s0_1:Int} {s1:(List Ar)} {p1_0:(List Ac)} {p2:Int} {p3:Int} {r:AP×Int} (h0:Gg N s0_0 s0_1 s1 p1_0 p2 p3=some r):Aj Try.prog 114 [(.ptr 0 0 0 0),(.agg [(ls AI p1_0),(ow 1 0 s1)]),(i64 p2),(i64 p3)] [(As s0_0 s0_1),(ro 0 52 5 AH s1)] (fun v st=>v=(.agg [(i64 r.1.op),(i64 r.1.num),(ls AA r.1.kids)])∧st=[(As s0_0 r.2),(ro 0 52 5 AH s1)]):=by
 unfold Gg at h0
 refine Aj.wk (r0:=(.agg [(i64 r.1.op),(i64 r.1.num),(ls AA r.1.kids)])) (st0:=[(As s0_0 r.2),(ro 0 52 5 AH s1),(CH r.1.op r.1.num r.1.kids)]) ?_ (D0 (L:=[(0,(.agg [(i64 r.1.op),(i64 r.1.num),(ls AA r.1.kids)]))]) (st':=[(As s0_0 r.2),(ro 0 52 5 AH s1)]) [0,1] U (by decide) rfl U (.raw U (.pure (AD fun _=>U) trivial)) ⟨.rfl,trivial⟩)
 refine ai Try.func114 U U U U (sr U fun K1 hK1=>Bj (m:=2) AK U U U U U (A0 (m:=3) AK Dw U U (dn hK1 U (sr U fun K2 hK2=>zm tb 3 U (bs h0 fun c3 gc3 h0=>zz (.ptr 1 0 (Int.toNat p2) 0) (Br C3 U U U U gc3) rfl (zq tb U (zz (ls eI c3.params) (B5 La U U (By gc3) rfl) rfl (zq tb U ?_))))))))
 refine dn hK2 U (sr U fun K4 hK4=>zq tb U (zl tb U U (zq tb U (dn hK4 U (sr U fun K5 hK5=>zq tb U ?_)))))
 refine A8 (m:=4) (l:=[(0:Int),1]) (enc:=eI) AK BF (by decide) rfl U U U U U ?_
 refine Af (Wk.BH (L:=[(0,(.ptr 0 0 0 0)),(2,(i64 p2)),(3,(i64 p3)),(5,(.ptr 2 0 0 0)),(8,(.ptr 3 0 0 0)),(9,(ls eI c3.params)),(10,(i64 (Sh.len c3.params))),(25,(ls eI c3.params)),(26,(ls eI [(0:Int),1]))]) (st':=[(As s0_0 s0_1),(ro 0 52 5 AH s1),⟨0,31,2,[[(ls AI p1_0),(ow 1 0 s1)]]⟩,Bm,⟨1,3,1,[]⟩]) (id:=4) rfl (show 2≤4 by decide) (AD fun _=>U) ⟨.rfl,.rfl,.rfl,.rfl,.rfl,.rfl,.rfl,.rfl,(.BH U),trivial⟩ U) (bs h0 fun q6 gq6 h0=>CC (v':=(ow 5 0 q6)) AK NP (Dq gq6) rfl U ⟨(Bs fun _=>U),trivial⟩ U U (zq tb U (dn hK5 U (sr U fun K7 hK7=>?_))))
 refine A8 (m:=6) (l:=([]:List AP)) (enc:=AA) AK BW (by decide) rfl U (by simp only[List.map,Ao];rfl) rfl U U ?_
 refine zq tb U (dn hK7 U (AJ fun K8 hK8=>zr tb U U (bs h0 fun o15 h1 h0=>?_)))
 have M15 :∀(f13:Int) (l14:(List AP)),o15=(f13,l14)→∀s,Wk 2 s ⟨136,Ab [(0,(.ptr 0 0 0 0)),(2,(i64 p2)),(3,(i64 p3)),(5,(.ptr 2 0 0 0)),(8,(.ptr 3 0 0 0)),(9,(ls eI c3.params)),(10,(i64 (Sh.len c3.params))),(11,(ow 4 0 q6)),(12,(ow 5 0 l14))],[(As s0_0 f13),(ro 0 52 5 AH s1),⟨0,31,2,[[(ls AI p1_0),(ow 1 0 s1)]]⟩,Bm,(ro 0 3 1 eI q6),(ro 0 50 3 AA l14)]⟩→K8 s:=by
  intro f13 l14 hq s hw
  subst o15
  try dsimp only at h0
  refine hK8 _ (AS hw (sr U fun K16 hK16=>zm tb 2 U (Af (Wk.BH (L:=[(0,(.ptr 0 0 0 0)),(2,(i64 p2)),(3,(i64 p3)),(5,(.ptr 2 0 0 0)),(8,(.ptr 3 0 0 0)),(9,(ls eI c3.params)),(10,(i64 (Sh.len c3.params))),(11,(ow 4 0 q6)),(67,(i64 p2)),(68,(ls AA l14))]) (st':=[(As s0_0 f13),(ro 0 52 5 AH s1),⟨0,31,2,[[(ls AI p1_0),(ow 1 0 s1)]]⟩,Bm,(ro 0 3 1 eI q6),⟨1,50,3,[]⟩]) (id:=5) rfl (show 2≤5 by decide) (AD Ag) ⟨.rfl,.rfl,.rfl,.rfl,.rfl,.rfl,.rfl,.rfl,.rfl,(.BH U),trivial⟩ U) (bs h0 fun q17 gq17 h0=>zc (v':=(.agg [(i64 q17.op),(i64 q17.num),(ls AA q17.kids)])) C1 (BJ gq17) rfl U U (A0 (m:=6) AK Dw U U (Az AK BP U U U U U U (show 0+3≤3 by decide) rfl (Af (Wk.BH (L:=[(0,(.ptr 0 0 0 0)),(2,(i64 p2)),(3,(i64 p3)),(5,(.ptr 2 0 0 0)),(8,(.ptr 3 0 0 0)),(9,(ls eI c3.params)),(10,(i64 (Sh.len c3.params))),(11,(ow 4 0 q6)),(14,(.Al [(i64 q17.op),(i64 q17.num),(ls AA q17.kids)] 0))]) (st':=[(As s0_0 f13),(ro 0 52 5 AH s1),⟨0,31,2,[[(ls AI p1_0),(ow 1 0 s1)]]⟩,Bm,(ro 0 3 1 eI q6),⟨1,50,3,[]⟩,⟨1,50,3,[]⟩]) (id:=6) rfl (show 2≤6 by decide) (Cp U) ⟨.rfl,.rfl,.rfl,.rfl,.rfl,.rfl,.rfl,.rfl,.rfl,trivial⟩ U) (dn hK16 U (sr U fun K18 hK18=>zq tb U ?_)))))))))
  refine A0 (m:=7) AK Dw U U (Az AK BP U U U U U U (show 0+3≤3 by decide) rfl (dn hK18 U (AJ fun K19 hK19=>bs h0 fun o24 h1 h0=>?_)))
  have M24 :∀(f20:Int) (f21:Int) (f22:Int) (f23:(List AP)),o24=(f20,f21,f22,f23)→∀s,Wk 2 s ⟨136,Ab [(0,(.ptr 0 0 0 0)),(2,(i64 p2)),(3,(i64 p3)),(5,(.ptr 2 0 0 0)),(8,(.ptr 3 0 0 0)),(9,(ls eI c3.params)),(15,(.ptr 4 0 0 0))],[(As s0_0 f20),(ro 0 52 5 AH s1),⟨0,31,2,[[(ls AI p1_0),(ow 1 0 s1)]]⟩,Bm,(CH f21 f22 f23)]⟩→K19 s:=by
   intro f20 f21 f22 f23 hq s hw
   subst o24
   try dsimp only at h0
   refine hK19 _ (AS hw (AJ fun K25 hK25=>?_))
   refine BQ [(ro 0 52 5 AH s1),⟨0,31,2,[[(ls AI p1_0),(ow 1 0 s1)]]⟩,Bm,(CH f21 f22 f23)] 15 (by kernel_rfl) (by kernel_rfl) (by kernel_rfl) (by rfl) ?_
   refine A1 AK (fun x0 zz=>A9 (v:=(i64 p3)) AK U (BO U) (AR U)) (bs h0 fun q26 gq26 h0=>A1 AK (fun x0 zz=>BX (v:=(.agg [(i64 q26.op),(i64 q26.num),(ls AA q26.kids)])) AK GZ (Bi gq26) rfl U U (AR U)) (A1 AK (fun x0 zz=>A9 (v:=(.ptr 0 0 0 0)) AK U (BO U) (AR U)) (A1 AK (fun x0 zz=>A9 (v:=(.agg [(ls AI p1_0),(ow 1 0 s1)])) AK U (BD Ee U U U (show 0+2≤2 by decide) rfl) (AR U)) (A1 AK (fun x0 zz=>A9 (v:=(ls eI c3.params)) AK U (BO U) (AR U)) (A1 AK (fun x0 zz=>A9 (v:=(.ptr 2 0 0 1)) AK U (Fl KO U U (show 0+1≤2 by decide) rfl) (AR U)) (A1 AK (fun x0 zz=>A9 (v:=(ow 1 0 s1)) AK U (B5 MB U U U U) (AR U)) (A1 AK (fun x0 zz=>A9 (v:=(i64 p2)) AK U (BO U) (AR U)) (A1 AK (fun x0 zz=>A9 (v:=(.ptr 1 0 (Int.toNat p2) 0)) AK U (Br C3 U U U U gc3) (AR U)) (A1 AK (fun x0 zz=>A9 (v:=(.ptr 1 0 (Int.toNat p2) 1)) AK U (Fl Nk U U (show 0+1≤5 by decide) rfl) (AR U)) (A1 AK (fun x0 zz=>A9 (v:=(i64 c3.result)) AK U (B5 Fx U U (By gc3) rfl) (AR U)) ?_))))))))))
   refine bs h0 fun q27 gq27 h0=>?_
   refine B7 (rowsP:=[(As s0_0 f20),(ro 0 52 5 AH s1)]) (rows0:=[(As s0_0 f20),(ro 0 52 5 AH s1)]) (rows1:=[(As s0_0 q27.2),(ro 0 52 5 AH s1)]) (rows1':=[(As s0_0 q27.2),(ro 0 52 5 AH s1)]) (v':=(.agg [(i64 q27.1.op),(i64 q27.1.num),(ls AA q27.1.kids)])) (y0:=(As s0_0 q27.2)) [0,1] AK G4 (EC gq27) rfl (by decide) rfl U (.raw U U (.pure (AD fun _=>U) .nil)) rfl U (fun _=>(.raw U U (.pure (AD fun _=>U) .nil))) (fun _=>U) rfl ?_
   refine A1 AK (fun x0 zz=>A9 (v:=(.agg [(i64 f21),(i64 f22),(ls AA f23)])) AK U (BD BP U U U (show 0+3≤3 by decide) rfl) (AR U)) ?_
   refine A1 AK (fun x0 zz=>Eu (l:=[q26,q27.1,(AP.mk f21 f22 f23)]) (enc:=AA) AK BW (by decide) rfl U U (by simp only[List.map,Ao];rfl) rfl (AD Ag) (AR U)) ?_
   refine bs h0 fun q28 gq28 h0=>A1 AK (fun x0 zz=>BX (v:=(.agg [(i64 q28.op),(i64 q28.num),(ls AA q28.kids)])) AK C1 (BJ gq28) rfl U U (AR U)) (Da U (Az AK BP U U U U U U (show 0+3≤3 by decide) rfl (dn hK25 U ?_)))
   replace h0:=Sh.AE h0
   subst r
   exact AZ (Exists.intro _ (And.intro ((AT (L:=[(8,(.ptr 2 0 0 0))]) (st':=[(As s0_0 q27.2),(ro 0 52 5 AH s1),(CH q28.op q28.num q28.kids)]) [0,1,3] U (by decide) rfl U (.raw U U (.pure (AD fun _=>U) (.raw U U .nil))) ⟨.rfl,trivial⟩).trans (Ah (L:=[(8,(.ptr 2 0 0 0))]) ⟨.rfl,trivial⟩)) (BD (x:=.tmp 8) (off:=0) (cs:=[(i64 q28.op),(i64 q28.num),(ls AA q28.kids)]) (vs:=[(i64 q28.op),(i64 q28.num),(ls AA q28.kids)]) BP U U U (show 0+3≤3 by decide) rfl _ ⟨U,U⟩)))
  refine AJ fun K29 hK29=>bs h1 fun o32 h2 h1=>?_
  have M32 :∀(t30:Bool) (f31:Int),o32=(t30,f31)→∀s,Wk 2 s ⟨136,Ab [(0,(.ptr 0 0 0 0)),(2,(i64 p2)),(3,(i64 p3)),(5,(.ptr 2 0 0 0)),(8,(.ptr 3 0 0 0)),(9,(ls eI c3.params)),(10,(i64 (Sh.len c3.params))),(11,(ow 4 0 q6)),(14,(.Al [(i64 q17.op),(i64 q17.num),(ls AA q17.kids)] 0)),(15,(.ptr 5 0 0 0)),(82,(.bool t30))],[(As s0_0 f31),(ro 0 52 5 AH s1),⟨0,31,2,[[(ls AI p1_0),(ow 1 0 s1)]]⟩,Bm,(ro 0 3 1 eI q6),(CH q17.op q17.num q17.kids)]⟩→K29 s:=by
   intro t30 f31 hq s hw
   subst o32
   try dsimp only at h1
   refine hK29 _ (AS hw ?_)
   refine ci h1 U ?_ ?_ <;> clear h1
   ·intro b33 h1
    refine sr U fun K34 hK34=>zm tb 3 U (Af (Wk.BH (L:=[(0,(.ptr 0 0 0 0)),(2,(i64 p2)),(3,(i64 p3)),(5,(.ptr 2 0 0 0)),(8,(.ptr 3 0 0 0)),(9,(ls eI c3.params)),(10,(i64 (Sh.len c3.params))),(14,(.Al [(i64 q17.op),(i64 q17.num),(ls AA q17.kids)] 0)),(15,(.ptr 5 0 0 0)),(83,(.ptr 0 0 0 0)),(84,(.agg [(ls AI p1_0),(ow 1 0 s1)])),(85,(ls eI q6))]) (st':=[(As s0_0 f31),(ro 0 52 5 AH s1),⟨0,31,2,[[(ls AI p1_0),(ow 1 0 s1)]]⟩,Bm,⟨1,3,1,[]⟩,(CH q17.op q17.num q17.kids)]) (id:=4) rfl (show 2≤4 by decide) (AD fun _=>U) ⟨.rfl,.rfl,.rfl,.rfl,.rfl,.rfl,.rfl,.rfl,.rfl,.rfl,(.agg ⟨.rfl,.rfl,trivial⟩),(.BH U),trivial⟩ U) (bs h1 fun q35 gq35 h1=>?_))
    refine A4 (rowsP:=[(As s0_0 f31),(ro 0 52 5 AH s1)]) (rows0:=[(As s0_0 f31),(ro 0 52 5 AH s1)]) (rows1:=[(As s0_0 q35.2),(ro 0 52 5 AH s1)]) (rows2:=[]) (rows1':=[(As s0_0 q35.2),(ro 0 52 5 AH s1)]) (rows2':=[]) (st':=[(As s0_0 q35.2),(ro 0 52 5 AH s1),⟨0,31,2,[[(ls AI p1_0),(ow 1 0 s1)]]⟩,Bm,⟨1,3,1,[]⟩,(CH q17.op q17.num q17.kids)]) (v':=(.agg [(i64 q35.1.op),(i64 q35.1.num),(ls AA q35.1.kids)])) [0,1] AK G4 (EC gq35) rfl (by decide) rfl U (.raw U U (.pure (AD fun _=>U) .nil)) rfl U (.raw U U (.pure (AD fun _=>U) .nil)) .nil U U ?_
    refine A0 (m:=6) AK Dw U U (Az AK BP U U U U U U (show 0+3≤3 by decide) rfl (dn hK34 U (AJ fun K36 hK36=>bs h1 fun o40 h2 h1=>?_)))
    have M40 :∀(f37:Int) (f38:Int) (f39:(List AP)),o40=(f37,f38,f39)→∀s,Wk 2 s ⟨136,Ab [(0,(.ptr 0 0 0 0)),(2,(i64 p2)),(3,(i64 p3)),(5,(.ptr 2 0 0 0)),(8,(.ptr 3 0 0 0)),(9,(ls eI c3.params)),(14,(.Al [(i64 q17.op),(i64 q17.num),(ls AA q17.kids)] 0)),(15,(.ptr 4 0 0 0)),(16,(.ptr 5 0 0 0))],[(As s0_0 q35.2),(ro 0 52 5 AH s1),⟨0,31,2,[[(ls AI p1_0),(ow 1 0 s1)]]⟩,Bm,(CH q17.op q17.num q17.kids),(CH f37 f38 f39)]⟩→K36 s:=by
     intro f37 f38 f39 hq s hw
     subst o40
     try dsimp only at h1
     refine hK36 _ (AS hw (AN U (zm tb 2 U ?_)))
     refine A8 (m:=6) (l:=[(AP.mk f37 f38 f39),q17]) (enc:=AA) AK BW (by decide) rfl U (by simp only[List.map,Ao];rfl) rfl U U ?_
     refine Af (Wk.BH (L:=[(0,(.ptr 0 0 0 0)),(2,(i64 p2)),(3,(i64 p3)),(5,(.ptr 2 0 0 0)),(8,(.ptr 3 0 0 0)),(9,(ls eI c3.params)),(15,(.ptr 4 0 0 0)),(102,(ls AA [(AP.mk f37 f38 f39),q17]))]) (st':=[(As s0_0 q35.2),(ro 0 52 5 AH s1),⟨0,31,2,[[(ls AI p1_0),(ow 1 0 s1)]]⟩,Bm,(CH q17.op q17.num q17.kids),(CH f37 f38 f39),⟨1,50,3,[]⟩]) (id:=6) rfl (show 2≤6 by decide) (AD Ag) ⟨.rfl,.rfl,.rfl,.rfl,.rfl,.rfl,.rfl,(.BH U),trivial⟩ U) (bs h1 fun q41 gq41 h1=>zc (v':=(.agg [(i64 q41.op),(i64 q41.num),(ls AA q41.kids)])) C1 (BJ gq41) rfl U U (Az AK BP U U U U U U (show 0+3≤3 by decide) rfl ?_))
     exact AB (M24 q35.2 q41.op q41.num q41.kids (Sh.AE h1).symm _ (AT (L:=[(0,(.ptr 0 0 0 0)),(2,(i64 p2)),(3,(i64 p3)),(5,(.ptr 2 0 0 0)),(8,(.ptr 3 0 0 0)),(9,(ls eI c3.params)),(15,(.ptr 4 0 0 0))]) (st':=[(As s0_0 q35.2),(ro 0 52 5 AH s1),⟨0,31,2,[[(ls AI p1_0),(ow 1 0 s1)]]⟩,Bm,(CH q41.op q41.num q41.kids)]) [0,1,2,3,4] U (by decide) rfl U (.raw U U (.pure (AD fun _=>U) (.raw U U (.raw U U (.raw U U .nil))))) ⟨.rfl,.rfl,.rfl,.rfl,.rfl,.rfl,.rfl,trivial⟩))
    refine AJ fun K42 hK42=>bs h2 fun o44 h3 h2=>?_
    have M44 :∀(t43:Bool),o44=t43→∀s,Wk 2 s ⟨136,Ab [(0,(.ptr 0 0 0 0)),(2,(i64 p2)),(3,(i64 p3)),(5,(.ptr 2 0 0 0)),(8,(.ptr 3 0 0 0)),(9,(ls eI c3.params)),(10,(i64 (Sh.len c3.params))),(14,(.Al [(i64 q17.op),(i64 q17.num),(ls AA q17.kids)] 0)),(15,(.ptr 4 0 0 0)),(16,(.ptr 5 0 0 0)),(94,(.bool t43))],[(As s0_0 q35.2),(ro 0 52 5 AH s1),⟨0,31,2,[[(ls AI p1_0),(ow 1 0 s1)]]⟩,Bm,(CH q17.op q17.num q17.kids),(CH q35.1.op q35.1.num q35.1.kids)]⟩→K42 s:=by
     intro t43 hq s hw
     subst o44
     try dsimp only at h2
     refine hK42 _ (AS hw ?_)
     refine ci h2 U ?_ ?_ <;> clear h2
     ·intro b45 h2
      refine AN U (bs h2 fun q46 gq46 h2=>zc (v':=(.agg [(i64 q46.op),(i64 q46.num),(ls AA q46.kids)])) GZ (Bi gq46) rfl U U (zq tb U (bs h2 fun q47 gq47 h2=>zc (v':=(.agg [(i64 q47.op),(i64 q47.num),(ls AA q47.kids)])) GZ (Bi gq47) rfl U U ?_)))
      refine A8 (m:=6) (l:=[q46,q47]) (enc:=AA) AK BW (by decide) rfl U (by simp only[List.map,Ao];rfl) rfl U U ?_
      refine Af (Wk.BH (L:=[(0,(.ptr 0 0 0 0)),(2,(i64 p2)),(3,(i64 p3)),(5,(.ptr 2 0 0 0)),(8,(.ptr 3 0 0 0)),(9,(ls eI c3.params)),(14,(.Al [(i64 q17.op),(i64 q17.num),(ls AA q17.kids)] 0)),(15,(.ptr 4 0 0 0)),(16,(.ptr 5 0 0 0)),(98,(ls AA [q46,q47]))]) (st':=[(As s0_0 q35.2),(ro 0 52 5 AH s1),⟨0,31,2,[[(ls AI p1_0),(ow 1 0 s1)]]⟩,Bm,(CH q17.op q17.num q17.kids),(CH q35.1.op q35.1.num q35.1.kids),⟨1,50,3,[]⟩]) (id:=6) rfl (show 2≤6 by decide) (AD Ag) ⟨.rfl,.rfl,.rfl,.rfl,.rfl,.rfl,.rfl,.rfl,.rfl,(.BH U),trivial⟩ U) (bs h2 fun q48 gq48 h2=>zc (v':=(.agg [(i64 q48.op),(i64 q48.num),(ls AA q48.kids)])) C1 (BJ gq48) rfl U U (Az AK BP U U U U U U (show 0+3≤3 by decide) rfl ?_))
      exact AB (M40 q48.op q48.num q48.kids (Sh.AE h2).symm _ (AT (L:=[(0,(.ptr 0 0 0 0)),(2,(i64 p2)),(3,(i64 p3)),(5,(.ptr 2 0 0 0)),(8,(.ptr 3 0 0 0)),(9,(ls eI c3.params)),(14,(.Al [(i64 q17.op),(i64 q17.num),(ls AA q17.kids)] 0)),(15,(.ptr 4 0 0 0)),(16,(.ptr 5 0 0 0))]) (st':=[(As s0_0 q35.2),(ro 0 52 5 AH s1),⟨0,31,2,[[(ls AI p1_0),(ow 1 0 s1)]]⟩,Bm,(CH q17.op q17.num q17.kids),(CH q48.op q48.num q48.kids)]) [0,1,2,3,4,5] U (by decide) rfl U (.raw U U (.pure (AD fun _=>U) (.raw U U (.raw U U (.raw U U (.raw U U .nil)))))) ⟨.rfl,.rfl,.rfl,.rfl,.rfl,.rfl,.rfl,.rfl,.rfl,trivial⟩))
     ·intro b45 h2
      exact AU (M40 q35.1.op q35.1.num q35.1.kids (Sh.AE h2).symm _ (AG U))
    refine AN U (zm tb 3 U ?_)
    rcases Sh.An h3 with ⟨b49,h3⟩ | ⟨b49,h3⟩
    ·refine zg tb b49 U (bs h3 fun c50 gc50 h3=>B3 (v:=(.Al (eI c50) 0)) (B0 U U b49) rfl (CV BF U U gc50 U) (zg tb b49 U (zg tb b49 U (zt b49 U ?_))))
     exact AB (M44 (decide (c50=2)) (Sh.AE h3).symm _ (AT (L:=[(0,(.ptr 0 0 0 0)),(2,(i64 p2)),(3,(i64 p3)),(5,(.ptr 2 0 0 0)),(8,(.ptr 3 0 0 0)),(9,(ls eI c3.params)),(10,(i64 (Sh.len c3.params))),(14,(.Al [(i64 q17.op),(i64 q17.num),(ls AA q17.kids)] 0)),(15,(.ptr 4 0 0 0)),(16,(.ptr 5 0 0 0)),(94,(.bool (decide (c50=2))))]) (st':=[(As s0_0 q35.2),(ro 0 52 5 AH s1),⟨0,31,2,[[(ls AI p1_0),(ow 1 0 s1)]]⟩,Bm,(CH q17.op q17.num q17.kids),(CH q35.1.op q35.1.num q35.1.kids)]) [0,1,2,3,5,6] U (by decide) rfl U (.raw U U (.pure (AD fun _=>U) (.raw U U (.raw U U (.raw U U (.raw U U .nil)))))) ⟨.rfl,.rfl,.rfl,.rfl,.rfl,.rfl,.rfl,.rfl,.rfl,.rfl,.rfl,trivial⟩))
    ·refine zs b49 U ?_
     iterate 3 refine zs b49 rfl ?_
     refine zf b49 U ?_
     exact AB (M44 false (Sh.AE h3).symm _ (AT (L:=[(0,(.ptr 0 0 0 0)),(2,(i64 p2)),(3,(i64 p3)),(5,(.ptr 2 0 0 0)),(8,(.ptr 3 0 0 0)),(9,(ls eI c3.params)),(10,(i64 (Sh.len c3.params))),(14,(.Al [(i64 q17.op),(i64 q17.num),(ls AA q17.kids)] 0)),(15,(.ptr 4 0 0 0)),(16,(.ptr 5 0 0 0)),(94,(.bool false))]) (st':=[(As s0_0 q35.2),(ro 0 52 5 AH s1),⟨0,31,2,[[(ls AI p1_0),(ow 1 0 s1)]]⟩,Bm,(CH q17.op q17.num q17.kids),(CH q35.1.op q35.1.num q35.1.kids)]) [0,1,2,3,5,6] U (by decide) rfl U (.raw U U (.pure (AD fun _=>U) (.raw U U (.raw U U (.raw U U (.raw U U .nil)))))) ⟨.rfl,.rfl,.rfl,.rfl,.rfl,.rfl,.rfl,.rfl,.rfl,.rfl,.rfl,trivial⟩))
   ·intro b33 h1
    refine sr U fun K51 hK51=>zm tb 3 U (zz (.ptr 1 0 (Int.toNat p2) 0) (Br C3 U U U U gc3) rfl (zq tb U (zz (i64 c3.result) (B5 Fx U U (By gc3) rfl) rfl (zq tb U (dn hK51 U ?_)))))
    refine ci h1 U ?_ ?_ <;> clear h1
    ·intro b52 h1
     refine AS (Wk.BH (L:=[(0,(.ptr 0 0 0 0)),(2,(i64 p2)),(3,(i64 p3)),(5,(.ptr 2 0 0 0)),(8,(.ptr 3 0 0 0)),(9,(ls eI c3.params)),(11,(ls eI q6)),(14,(.Al [(i64 q17.op),(i64 q17.num),(ls AA q17.kids)] 0)),(15,(.ptr 5 0 0 0))]) (st':=[(As s0_0 f31),(ro 0 52 5 AH s1),⟨0,31,2,[[(ls AI p1_0),(ow 1 0 s1)]]⟩,Bm,⟨1,3,1,[]⟩,(CH q17.op q17.num q17.kids)]) (id:=4) rfl (show 2≤4 by decide) (AD fun _=>U) ⟨.rfl,.rfl,.rfl,.rfl,.rfl,.rfl,(.BH U),.rfl,.rfl,trivial⟩ U) ?_
     refine AS (B6 (L:=[(0,(.ptr 0 0 0 0)),(2,(i64 p2)),(3,(i64 p3)),(5,(.ptr 2 0 0 0)),(8,(.ptr 3 0 0 0)),(9,(ls eI c3.params)),(11,(ls eI q6)),(14,(.Al [(i64 q17.op),(i64 q17.num),(ls AA q17.kids)] 0)),(15,(.ptr 5 0 0 0))]) (st':=[(As s0_0 f31),(ro 0 52 5 AH s1),⟨0,31,2,[[(ls AI p1_0),(ow 1 0 s1)]]⟩,Bm,⟨0,3,1,[]⟩,(CH q17.op q17.num q17.kids)]) (.raw U U U (.pure U (AD fun _=>U) (.raw U U U (.raw U U U (.pure U (by intro x hx;cases hx) (.raw U U U .nil)))))) ⟨.rfl,.rfl,.rfl,.rfl,.rfl,.rfl,.rfl,.rfl,.rfl,trivial⟩) ?_
     refine BQ [(ro 0 52 5 AH s1),⟨0,31,2,[[(ls AI p1_0),(ow 1 0 s1)]]⟩,Bm,⟨0,3,1,[]⟩,(CH q17.op q17.num q17.kids)] 10 (by kernel_rfl) (by kernel_rfl) (by kernel_rfl) (by rfl) ?_
     refine A1 AK (fun x0 zz=>A9 (v:=(.ptr 0 0 0 0)) AK U (BO U) (AR U)) ?_
     refine A1 AK (fun x0 zz=>Eu (l:=[(1:Int),2]) (enc:=eI) AK BF (by decide) rfl U U U U (AD fun _=>U) (AR U)) ?_
     refine bs h1 fun q53 gq53 h1=>?_
     refine B7 (rowsP:=[(As s0_0 f31)]) (rows0:=[(As s0_0 f31)]) (rows1:=[(As s0_0 q53.2)]) (rows1':=[(As s0_0 q53.2)]) (v':=(i64 q53.1)) (y0:=(As s0_0 q53.2)) [0] AK HZ (BV gq53) rfl (by decide) rfl U (.raw U U .nil) rfl U (fun _=>(.raw U U .nil)) (fun _=>U) rfl ?_
     refine A1 AK (fun x0 zz=>A9 (v:=(.ptr 0 0 0 0)) AK U (BO U) (AR U)) (A1 AK (fun x0 zz=>A9 (v:=(.agg [(ls AI p1_0),(ow 1 0 s1)])) AK U (BD Ee U U U (show 0+2≤2 by decide) rfl) (AR U)) (A1 AK (fun x0 zz=>A9 (v:=(ls eI q6)) AK U (BO U) (AR U)) (bs h1 fun q54 gq54 h1=>?_)))
     refine B7 (rowsP:=[(As s0_0 q53.2),(ro 0 52 5 AH s1)]) (rows0:=[(As s0_0 q53.2),(ro 0 52 5 AH s1)]) (rows1:=[(As s0_0 q54.2),(ro 0 52 5 AH s1)]) (rows1':=[(As s0_0 q54.2),(ro 0 52 5 AH s1)]) (v':=(.agg [(i64 q54.1.op),(i64 q54.1.num),(ls AA q54.1.kids)])) (y0:=(As s0_0 q54.2)) [0,1] AK G4 (EC gq54) rfl (by decide) rfl U (.raw U U (.pure (AD fun _=>U) .nil)) rfl U (fun _=>(.raw U U (.pure (AD fun _=>U) .nil))) (fun _=>U) rfl ?_
     refine A1 AK (fun x0 zz=>A9 (v:=(.agg [(i64 q17.op),(i64 q17.num),(ls AA q17.kids)])) AK U (Ff BP U (show 0+3≤3 by decide) rfl) (AR U)) ?_
     refine A1 AK (fun x0 zz=>Eu (l:=[q54.1,q17]) (enc:=AA) AK BW (by decide) rfl U U (by simp only[List.map,Ao];rfl) rfl (AD Ag) (AR U)) ?_
     refine bs h1 fun q55 gq55 h1=>A1 AK (fun x0 zz=>BX (v:=(.agg [(i64 q55.op),(i64 q55.num),(ls AA q55.kids)])) AK C1 (BJ gq55) rfl U U (AR U)) (Da U (Az AK BP U U U U U U (show 0+3≤3 by decide) rfl ?_))
     exact AB (M24 q54.2 q55.op q55.num q55.kids (Sh.AE h1).symm _ (AT (L:=[(0,(.ptr 0 0 0 0)),(2,(i64 p2)),(3,(i64 p3)),(5,(.ptr 2 0 0 0)),(8,(.ptr 3 0 0 0)),(9,(ls eI c3.params)),(15,(.ptr 4 0 0 0))]) (st':=[(As s0_0 q54.2),(ro 0 52 5 AH s1),⟨0,31,2,[[(ls AI p1_0),(ow 1 0 s1)]]⟩,Bm,(CH q55.op q55.num q55.kids)]) [0,1,2,3,5] U (by decide) rfl U (.raw U U (.pure (AD fun _=>U) (.raw U U (.raw U U (.raw U U .nil))))) ⟨.rfl,.rfl,.rfl,.rfl,.rfl,.rfl,.rfl,trivial⟩))
    ·intro b52 h1
     exact AU (M24 f31 q17.op q17.num q17.kids (Sh.AE h1).symm _ (AT (L:=[(0,(.ptr 0 0 0 0)),(2,(i64 p2)),(3,(i64 p3)),(5,(.ptr 2 0 0 0)),(8,(.ptr 3 0 0 0)),(9,(ls eI c3.params)),(15,(.ptr 4 0 0 0))]) (st':=[(As s0_0 f31),(ro 0 52 5 AH s1),⟨0,31,2,[[(ls AI p1_0),(ow 1 0 s1)]]⟩,Bm,(CH q17.op q17.num q17.kids)]) [0,1,2,3,5] U (by decide) rfl U (.raw U U (.pure (AD fun _=>U) (.raw U U (.raw U U (.raw U U .nil))))) ⟨.rfl,.rfl,.rfl,.rfl,.rfl,.rfl,.rfl,trivial⟩))
  refine AN U (zm tb 3 U (zz (.ptr 1 0 (Int.toNat p2) 0) (Br C3 U U U U gc3) rfl (zq tb U (zz (i64 c3.result) (B5 Fx U U (By gc3) rfl) rfl (zm tb 2 U ?_)))))
  rcases Sh.An h2 with ⟨b56,h2⟩ | ⟨b56,h2⟩
  ·refine zg tb b56 U (bs h2 fun q57 gq57 h2=>?_)
   refine A4 (rowsP:=[(As s0_0 f13)]) (rows0:=[(As s0_0 f13)]) (rows1:=[(As s0_0 q57.2)]) (rows2:=[]) (rows1':=[(As s0_0 q57.2)]) (rows2':=[]) (st':=[(As s0_0 q57.2),(ro 0 52 5 AH s1),⟨0,31,2,[[(ls AI p1_0),(ow 1 0 s1)]]⟩,Bm,(ro 0 3 1 eI q6),⟨1,50,3,[]⟩,⟨1,50,3,[]⟩,(CH q17.op q17.num q17.kids)]) (v':=(i64 q57.1)) [0] (B0 U U b56) Ef (Aw gq57) rfl (by decide) rfl U (.raw U U .nil) rfl U (.raw U U .nil) .nil U U ?_
   refine zg tb b56 U (zt b56 U ?_)
   exact AB (M32 (decide (0 < q57.1)) q57.2 (Sh.AE h2).symm _ (AT (L:=[(0,(.ptr 0 0 0 0)),(2,(i64 p2)),(3,(i64 p3)),(5,(.ptr 2 0 0 0)),(8,(.ptr 3 0 0 0)),(9,(ls eI c3.params)),(10,(i64 (Sh.len c3.params))),(11,(ow 4 0 q6)),(14,(.Al [(i64 q17.op),(i64 q17.num),(ls AA q17.kids)] 0)),(15,(.ptr 5 0 0 0)),(82,(.bool (decide (0 < q57.1))))]) (st':=[(As s0_0 q57.2),(ro 0 52 5 AH s1),⟨0,31,2,[[(ls AI p1_0),(ow 1 0 s1)]]⟩,Bm,(ro 0 3 1 eI q6),(CH q17.op q17.num q17.kids)]) [0,1,2,3,4,7] U (by decide) rfl U (.raw U U (.pure (AD fun _=>U) (.raw U U (.raw U U (.pure (AD fun _=>U) (.raw U U .nil)))))) ⟨.rfl,.rfl,.rfl,.rfl,.rfl,.rfl,.rfl,.rfl,.rfl,.rfl,.rfl,trivial⟩))
  ·refine zs b56 U (zs b56 U (zs b56 U (zf b56 U ?_)))
   exact AB (M32 false f13 (Sh.AE h2).symm _ (AT (L:=[(0,(.ptr 0 0 0 0)),(2,(i64 p2)),(3,(i64 p3)),(5,(.ptr 2 0 0 0)),(8,(.ptr 3 0 0 0)),(9,(ls eI c3.params)),(10,(i64 (Sh.len c3.params))),(11,(ow 4 0 q6)),(14,(.Al [(i64 q17.op),(i64 q17.num),(ls AA q17.kids)] 0)),(15,(.ptr 5 0 0 0)),(82,(.bool false))]) (st':=[(As s0_0 f13),(ro 0 52 5 AH s1),⟨0,31,2,[[(ls AI p1_0),(ow 1 0 s1)]]⟩,Bm,(ro 0 3 1 eI q6),(CH q17.op q17.num q17.kids)]) [0,1,2,3,4,7] U (by decide) rfl U (.raw U U (.pure (AD fun _=>U) (.raw U U (.raw U U (.pure (AD fun _=>U) (.raw U U .nil)))))) ⟨.rfl,.rfl,.rfl,.rfl,.rfl,.rfl,.rfl,.rfl,.rfl,.rfl,.rfl,trivial⟩))
 refine Ae (A5 (σ:=Int×Int×(List AP)) (fun n v=>DI c3 s0_0 p3 n v.1 v.2.1 v.2.2=some o15) (fun (i10,f11,l12)=>⟨136,Ab [(0,(.ptr 0 0 0 0)),(2,(i64 p2)),(3,(i64 p3)),(5,(.ptr 2 0 0 0)),(8,(.ptr 3 0 0 0)),(9,(ls eI c3.params)),(10,(i64 (Sh.len c3.params))),(11,(ow 4 0 q6)),(12,(ow 5 0 l12)),(13,(i64 i10))],[(As s0_0 f11),(ro 0 52 5 AH s1),⟨0,31,2,[[(ls AI p1_0),(ow 1 0 s1)]]⟩,Bm,(ro 0 3 1 eI q6),(ro 0 50 3 AA l12)]⟩) N (0,s0_1,[]) h1 (AT (L:=[(0,(.ptr 0 0 0 0)),(2,(i64 p2)),(3,(i64 p3)),(5,(.ptr 2 0 0 0)),(8,(.ptr 3 0 0 0)),(9,(ls eI c3.params)),(10,(i64 (Sh.len c3.params))),(11,(ow 4 0 q6)),(12,(.own 5 0 (List.length ([]:List AP)))),(13,(i64 0))]) (st':=[(As s0_0 s0_1),(ro 0 52 5 AH s1),⟨0,31,2,[[(ls AI p1_0),(ow 1 0 s1)]]⟩,Bm,(ro 0 3 1 eI q6),(ro 0 50 3 AA ([]:List AP))]) [0,1,2,3,5,6] U (by decide) rfl U (.raw U U (.pure (AD fun _=>U) (.raw U U (.raw U U (.pure (AD fun _=>U) (.pure (AD Ag) .nil)))))) ⟨.rfl,.rfl,.rfl,.rfl,.rfl,.rfl,.rfl,.rfl,.rfl,.rfl,trivial⟩) (fun _ hv=>by rw[DI] at hv;cases hv) ?_)
 rintro n ⟨i10,f11,l12⟩ h1
 try dsimp only at h1 ⊢
 rw[DI] at h1
 refine AJ fun K58 hK58=>zr tb U U ?_
 refine ci h1 U ?_ ?_ <;> clear h1
 ·intro b60 h1
  refine AU (hK58 _ (AJ fun K61 hK61=>bs h1 fun o64 h2 h1=>?_))
  have M64 :∀(f62:Int) (l63:(List AP)),o64=(f62,l63)→∀s,Wk 2 s ⟨136,Ab [(0,(.ptr 0 0 0 0)),(2,(i64 p2)),(3,(i64 p3)),(5,(.ptr 2 0 0 0)),(8,(.ptr 3 0 0 0)),(9,(ls eI c3.params)),(10,(i64 (Sh.len c3.params))),(11,(ow 4 0 q6)),(12,(ow 5 0 l63)),(13,(i64 i10))],[(As s0_0 f62),(ro 0 52 5 AH s1),⟨0,31,2,[[(ls AI p1_0),(ow 1 0 s1)]]⟩,Bm,(ro 0 3 1 eI q6),(ro 0 50 3 AA l63)]⟩→K61 s:=by
   intro f62 l63 hq s hw
   subst o64
   try dsimp only at h1
   exact hK61 _ (AS hw (AN U (zm tb 3 U (AB (xi (Sh.w (i10+1),f62,l63) h1 (AG U))))))
  refine Ae (zr tb U U ?_)
  refine ci h2 U ?_ ?_ <;> clear h2
  ·intro b66 h2
   refine AN U (zm tb 3 U (bs h2 fun q67 gq67 h2=>zc (v':=(.agg [(i64 q67.op),(i64 q67.num),(ls AA q67.kids)])) GZ (Bi gq67) rfl U U ?_))
   refine A8 (m:=6) (l:=[q67]) (enc:=AA) AK BW (by decide) rfl U (by simp only[List.map,Ao];rfl) rfl U U ?_
   refine bs h2 fun l68 gl68 h2=>CL (l2:=[q67]) AK BW U U U U (EP U U Cz) B4 gl68 U (zq tb U ?_)
   exact AB (M64 f11 l68 (Sh.AE h2).symm _ (by refine Wk.trans (B6 (L:=[(0,(.ptr 0 0 0 0)),(2,(i64 p2)),(3,(i64 p3)),(5,(.ptr 2 0 0 0)),(8,(.ptr 3 0 0 0)),(9,(ls eI c3.params)),(10,(i64 (Sh.len c3.params))),(11,(ow 4 0 q6)),(12,(ow 5 0 l68)),(13,(i64 i10))]) (st':=[(As s0_0 f11),(ro 0 52 5 AH s1),⟨0,31,2,[[(ls AI p1_0),(ow 1 0 s1)]]⟩,Bm,(ro 0 3 1 eI q6),(ro 0 50 3 AA l68),(ro 0 50 3 AA [q67])]) (.raw U U U (.pure U (AD fun _=>U) (.raw U U U (.raw U U U (.pure U (AD fun _=>U) (.pure U (AD Ag) (.pure U (AD Ag) .nil))))))) ⟨.rfl,.rfl,.rfl,.rfl,.rfl,.rfl,.rfl,.rfl,.rfl,.rfl,trivial⟩) ?_;exact AT (L:=[(0,(.ptr 0 0 0 0)),(2,(i64 p2)),(3,(i64 p3)),(5,(.ptr 2 0 0 0)),(8,(.ptr 3 0 0 0)),(9,(ls eI c3.params)),(10,(i64 (Sh.len c3.params))),(11,(ow 4 0 q6)),(12,(ow 5 0 l68)),(13,(i64 i10))]) (st':=[(As s0_0 f11),(ro 0 52 5 AH s1),⟨0,31,2,[[(ls AI p1_0),(ow 1 0 s1)]]⟩,Bm,(ro 0 3 1 eI q6),(ro 0 50 3 AA l68)]) [0,1,2,3,4,5] U (by decide) rfl U (.raw U U (.pure (AD fun _=>U) (.raw U U (.raw U U (.pure (AD fun _=>U) (.pure (AD Ag) .nil)))))) ⟨.rfl,.rfl,.rfl,.rfl,.rfl,.rfl,.rfl,.rfl,.rfl,.rfl,trivial⟩))
  ·intro b66 h2
   refine AJ fun K69 hK69=>bs h2 fun o72 h3 h2=>?_
   have M72 :∀(t70:Bool) (f71:Int),o72=(t70,f71)→∀s,Wk 2 s ⟨136,Ab [(0,(.ptr 0 0 0 0)),(2,(i64 p2)),(3,(i64 p3)),(5,(.ptr 2 0 0 0)),(8,(.ptr 3 0 0 0)),(9,(ls eI c3.params)),(10,(i64 (Sh.len c3.params))),(11,(ow 4 0 q6)),(12,(ow 5 0 l12)),(13,(i64 i10)),(52,(.bool t70))],[(As s0_0 f71),(ro 0 52 5 AH s1),⟨0,31,2,[[(ls AI p1_0),(ow 1 0 s1)]]⟩,Bm,(ro 0 3 1 eI q6),(ro 0 50 3 AA l12)]⟩→K69 s:=by
    intro t70 f71 hq s hw
    subst o72
    try dsimp only at h2
    refine hK69 _ (AS hw ?_)
    refine ci h2 U ?_ ?_ <;> clear h2
    ·intro b73 h2
     refine AN U (zm tb 2 U (bs h2 fun q74 gq74 h2=>zc (v':=(.agg [(i64 q74.op),(i64 q74.num),(ls AA q74.kids)])) GZ (Bi gq74) rfl U U (zq tb U (bs h2 fun q75 gq75 h2=>zc (v':=(.agg [(i64 q75.op),(i64 q75.num),(ls AA q75.kids)])) GZ (Bi gq75) rfl U U ?_))))
     refine A8 (m:=6) (l:=[q74,q75]) (enc:=AA) AK BW (by decide) rfl U (by simp only[List.map,Ao];rfl) rfl U U ?_
     refine Af (Wk.BH (L:=[(0,(.ptr 0 0 0 0)),(2,(i64 p2)),(3,(i64 p3)),(5,(.ptr 2 0 0 0)),(8,(.ptr 3 0 0 0)),(9,(ls eI c3.params)),(10,(i64 (Sh.len c3.params))),(11,(ow 4 0 q6)),(13,(i64 i10)),(53,(ow 5 0 l12)),(58,(ls AA [q74,q75]))]) (st':=[(As s0_0 f71),(ro 0 52 5 AH s1),⟨0,31,2,[[(ls AI p1_0),(ow 1 0 s1)]]⟩,Bm,(ro 0 3 1 eI q6),(ro 0 50 3 AA l12),⟨1,50,3,[]⟩]) (id:=6) rfl (show 2≤6 by decide) (AD Ag) ⟨.rfl,.rfl,.rfl,.rfl,.rfl,.rfl,.rfl,.rfl,.rfl,.rfl,(.BH U),trivial⟩ U) (bs h2 fun q76 gq76 h2=>zc (v':=(.agg [(i64 q76.op),(i64 q76.num),(ls AA q76.kids)])) C1 (BJ gq76) rfl U U ?_)
     refine A8 (m:=7) (l:=[q76]) (enc:=AA) AK BW (by decide) rfl U (by simp only[List.map,Ao];rfl) rfl U U ?_
     refine bs h2 fun l77 gl77 h2=>CL (l2:=[q76]) AK BW U U U U (EP U U Cz) B4 gl77 U (zq tb U ?_)
     exact AB (M64 f71 l77 (Sh.AE h2).symm _ (by refine Wk.trans (B6 (L:=[(0,(.ptr 0 0 0 0)),(2,(i64 p2)),(3,(i64 p3)),(5,(.ptr 2 0 0 0)),(8,(.ptr 3 0 0 0)),(9,(ls eI c3.params)),(10,(i64 (Sh.len c3.params))),(11,(ow 4 0 q6)),(12,(ow 5 0 l77)),(13,(i64 i10))]) (st':=[(As s0_0 f71),(ro 0 52 5 AH s1),⟨0,31,2,[[(ls AI p1_0),(ow 1 0 s1)]]⟩,Bm,(ro 0 3 1 eI q6),(ro 0 50 3 AA l77),⟨0,50,3,[]⟩,(ro 0 50 3 AA [q76])]) (.raw U U U (.pure U (AD fun _=>U) (.raw U U U (.raw U U U (.pure U (AD fun _=>U) (.pure U (AD Ag) (.pure U (by intro x hx;cases hx) (.pure U (AD Ag) .nil)))))))) ⟨.rfl,.rfl,.rfl,.rfl,.rfl,.rfl,.rfl,.rfl,.rfl,.rfl,trivial⟩) ?_;exact AT (L:=[(0,(.ptr 0 0 0 0)),(2,(i64 p2)),(3,(i64 p3)),(5,(.ptr 2 0 0 0)),(8,(.ptr 3 0 0 0)),(9,(ls eI c3.params)),(10,(i64 (Sh.len c3.params))),(11,(ow 4 0 q6)),(12,(ow 5 0 l77)),(13,(i64 i10))]) (st':=[(As s0_0 f71),(ro 0 52 5 AH s1),⟨0,31,2,[[(ls AI p1_0),(ow 1 0 s1)]]⟩,Bm,(ro 0 3 1 eI q6),(ro 0 50 3 AA l77)]) [0,1,2,3,4,5] U (by decide) rfl U (.raw U U (.pure (AD fun _=>U) (.raw U U (.raw U U (.pure (AD fun _=>U) (.pure (AD Ag) .nil)))))) ⟨.rfl,.rfl,.rfl,.rfl,.rfl,.rfl,.rfl,.rfl,.rfl,.rfl,trivial⟩))
    ·intro b73 h2
     refine AN U (zm tb 2 U (bs h2 fun q78 gq78 h2=>zc (v':=(.agg [(i64 q78.op),(i64 q78.num),(ls AA q78.kids)])) GZ (Bi gq78) rfl U U ?_))
     refine A8 (m:=6) (l:=[q78]) (enc:=AA) AK BW (by decide) rfl U (by simp only[List.map,Ao];rfl) rfl U U ?_
     refine bs h2 fun l79 gl79 h2=>CL (l2:=[q78]) AK BW U U U U (EP U U Cz) B4 gl79 U (zq tb U ?_)
     exact AB (M64 f71 l79 (Sh.AE h2).symm _ (by refine Wk.trans (B6 (L:=[(0,(.ptr 0 0 0 0)),(2,(i64 p2)),(3,(i64 p3)),(5,(.ptr 2 0 0 0)),(8,(.ptr 3 0 0 0)),(9,(ls eI c3.params)),(10,(i64 (Sh.len c3.params))),(11,(ow 4 0 q6)),(12,(ow 5 0 l79)),(13,(i64 i10))]) (st':=[(As s0_0 f71),(ro 0 52 5 AH s1),⟨0,31,2,[[(ls AI p1_0),(ow 1 0 s1)]]⟩,Bm,(ro 0 3 1 eI q6),(ro 0 50 3 AA l79),(ro 0 50 3 AA [q78])]) (.raw U U U (.pure U (AD fun _=>U) (.raw U U U (.raw U U U (.pure U (AD fun _=>U) (.pure U (AD Ag) (.pure U (AD Ag) .nil))))))) ⟨.rfl,.rfl,.rfl,.rfl,.rfl,.rfl,.rfl,.rfl,.rfl,.rfl,trivial⟩) ?_;exact AT (L:=[(0,(.ptr 0 0 0 0)),(2,(i64 p2)),(3,(i64 p3)),(5,(.ptr 2 0 0 0)),(8,(.ptr 3 0 0 0)),(9,(ls eI c3.params)),(10,(i64 (Sh.len c3.params))),(11,(ow 4 0 q6)),(12,(ow 5 0 l79)),(13,(i64 i10))]) (st':=[(As s0_0 f71),(ro 0 52 5 AH s1),⟨0,31,2,[[(ls AI p1_0),(ow 1 0 s1)]]⟩,Bm,(ro 0 3 1 eI q6),(ro 0 50 3 AA l79)]) [0,1,2,3,4,5] U (by decide) rfl U (.raw U U (.pure (AD fun _=>U) (.raw U U (.raw U U (.pure (AD fun _=>U) (.pure (AD Ag) .nil)))))) ⟨.rfl,.rfl,.rfl,.rfl,.rfl,.rfl,.rfl,.rfl,.rfl,.rfl,trivial⟩))
   refine AN U (zm tb 2 U (bs h3 fun c80 gc80 h3=>zx BF gc80 U U U (zm tb 3 U ?_)))
   rcases Sh.An h3 with ⟨b81,h3⟩ | ⟨b81,h3⟩
   ·refine zg tb b81 U (bs h3 fun q82 gq82 h3=>?_)
    refine A4 (rowsP:=[(As s0_0 f11)]) (rows0:=[(As s0_0 f11)]) (rows1:=[(As s0_0 q82.2)]) (rows2:=[]) (rows1':=[(As s0_0 q82.2)]) (rows2':=[]) (st':=[(As s0_0 q82.2),(ro 0 52 5 AH s1),⟨0,31,2,[[(ls AI p1_0),(ow 1 0 s1)]]⟩,Bm,(ro 0 3 1 eI q6),(ro 0 50 3 AA l12)]) (v':=(i64 q82.1)) [0] (B0 U U b81) Ef (Aw gq82) rfl (by decide) rfl U (.raw U U .nil) rfl U (.raw U U .nil) .nil U U ?_
    exact zg tb b81 U (zt b81 U (AB (M72 (decide (q82.1=0)) q82.2 (Sh.AE h3).symm _ (AG U))))
   ·exact zs b81 U (zs b81 U (zs b81 U (zf b81 U (AB (M72 false f11 (Sh.AE h3).symm _ (AG U))))))
 ·intro b60 h1
  exact BE (M15 f11 l12 (Sh.AE h1).symm _ (AG U))
theorem Nv {N:Nat} {s0_0:(List Int)} {s0_1:Int} {s1:(List Ar)} {p1_0:(List Ac)} {p2:Int} {r:AP×Int} (h0:GY N s0_0 s0_1 s1 p1_0 p2=some r):Aj Try.prog 115 [(.ptr 0 0 0 0),(.agg [(ls AI p1_0),(ow 1 0 s1)]),(i64 p2)] [(As s0_0 s0_1),(ro 0 52 5 AH s1)] (fun v st=>v=(.agg [(i64 r.1.op),(i64 r.1.num),(ls AA r.1.kids)])∧st=[(As s0_0 r.2),(ro 0 52 5 AH s1)]):=by
 unfold GY at h0
 refine Aj.wk (r0:=(.agg [(i64 r.1.op),(i64 r.1.num),(ls AA r.1.kids)])) (st0:=[(As s0_0 r.2),(ro 0 52 5 AH s1),(CH r.1.op r.1.num r.1.kids)]) ?_ (D0 (L:=[(0,(.agg [(i64 r.1.op),(i64 r.1.num),(ls AA r.1.kids)]))]) (st':=[(As s0_0 r.2),(ro 0 52 5 AH s1)]) [0,1] U (by decide) rfl U (.raw U (.pure (AD fun _=>U) trivial)) ⟨.rfl,trivial⟩)
 refine ai Try.func115 U U U U (sr U fun K1 hK1=>Bj (m:=2) AK U U U U U (A0 (m:=3) AK Dw U U (dn hK1 U (sr U fun K2 hK2=>zm tb 3 U (bs h0 fun c3 gc3 h0=>zz (.ptr 1 0 (Int.toNat p2) 0) (Br C3 U U U U gc3) rfl (zq tb U (zz (ls eI c3.params) (B5 La U U (By gc3) rfl) rfl (zq tb U ?_))))))))
 refine dn hK2 U (sr U fun K4 hK4=>zq tb U (zl tb U U (zq tb U (dn hK4 U (sr U fun K5 hK5=>zq tb U (bs h0 fun q6 gq6 h0=>zc (v':=(.agg [(i64 q6.op),(i64 q6.num),(ls AA q6.kids)])) GZ (Bi gq6) rfl U U ?_))))))
 refine A8 (m:=4) (l:=[q6]) (enc:=AA) AK BW (by decide) rfl U (by simp only[List.map,Ao];rfl) rfl U U ?_
 refine zq tb U (dn hK5 U (sr U fun K7 hK7=>zm tb 2 U (bs h0 fun q8 gq8 h0=>zc (v':=(.agg [(i64 q8.op),(i64 q8.num),(ls AA q8.kids)])) GZ (Bi gq8) rfl U U ?_)))
 refine A8 (m:=5) (l:=[q8]) (enc:=AA) AK BW (by decide) rfl U (by simp only[List.map,Ao];rfl) rfl U U ?_
 refine zq tb U (dn hK7 U (AJ fun K9 hK9=>zr tb U U (bs h0 fun o16 h1 h0=>?_)))
 have M16 :∀(l14:(List AP)) (l15:(List AP)),o16=(l14,l15)→∀s,Wk 2 s ⟨96,Ab [(0,(.ptr 0 0 0 0)),(2,(i64 p2)),(4,(.ptr 2 0 0 0)),(6,(.ptr 3 0 0 0)),(7,(ls eI c3.params)),(8,(i64 (Sh.len c3.params))),(9,(ow 4 0 l14)),(10,(ow 5 0 l15))],[(As s0_0 s0_1),(ro 0 52 5 AH s1),⟨0,31,2,[[(ls AI p1_0),(ow 1 0 s1)]]⟩,Bm,(ro 0 50 3 AA l14),(ro 0 50 3 AA l15)]⟩→K9 s:=by
  intro l14 l15 hq s hw
  subst o16
  try dsimp only at h0
  refine hK9 _ (AS hw (sr U fun K17 hK17=>zm tb 2 U (Af (Wk.BH (L:=[(0,(.ptr 0 0 0 0)),(2,(i64 p2)),(4,(.ptr 2 0 0 0)),(6,(.ptr 3 0 0 0)),(7,(ls eI c3.params)),(8,(i64 (Sh.len c3.params))),(10,(ow 5 0 l15)),(45,(i64 p2)),(46,(ls AA l14))]) (st':=[(As s0_0 s0_1),(ro 0 52 5 AH s1),⟨0,31,2,[[(ls AI p1_0),(ow 1 0 s1)]]⟩,Bm,⟨1,50,3,[]⟩,(ro 0 50 3 AA l15)]) (id:=4) rfl (show 2≤4 by decide) (AD Ag) ⟨.rfl,.rfl,.rfl,.rfl,.rfl,.rfl,.rfl,.rfl,(.BH U),trivial⟩ U) (bs h0 fun q18 gq18 h0=>zc (v':=(.agg [(i64 q18.op),(i64 q18.num),(ls AA q18.kids)])) C1 (BJ gq18) rfl U U (A0 (m:=6) AK Dw U U (Az AK BP U U U U U U (show 0+3≤3 by decide) rfl (Af (Wk.BH (L:=[(0,(.ptr 0 0 0 0)),(2,(i64 p2)),(4,(.ptr 2 0 0 0)),(6,(.ptr 3 0 0 0)),(7,(ls eI c3.params)),(8,(i64 (Sh.len c3.params))),(10,(ow 5 0 l15)),(12,(.Al [(i64 q18.op),(i64 q18.num),(ls AA q18.kids)] 0))]) (st':=[(As s0_0 s0_1),(ro 0 52 5 AH s1),⟨0,31,2,[[(ls AI p1_0),(ow 1 0 s1)]]⟩,Bm,⟨1,50,3,[]⟩,(ro 0 50 3 AA l15),⟨1,50,3,[]⟩]) (id:=6) rfl (show 2≤6 by decide) (Cp U) ⟨.rfl,.rfl,.rfl,.rfl,.rfl,.rfl,.rfl,.rfl,trivial⟩ U) (dn hK17 U (sr U fun K19 hK19=>zm tb 2 U ?_)))))))))
  refine Af (Wk.BH (L:=[(0,(.ptr 0 0 0 0)),(2,(i64 p2)),(4,(.ptr 2 0 0 0)),(6,(.ptr 3 0 0 0)),(7,(ls eI c3.params)),(8,(i64 (Sh.len c3.params))),(12,(.Al [(i64 q18.op),(i64 q18.num),(ls AA q18.kids)] 0)),(48,(i64 p2)),(49,(ls AA l15))]) (st':=[(As s0_0 s0_1),(ro 0 52 5 AH s1),⟨0,31,2,[[(ls AI p1_0),(ow 1 0 s1)]]⟩,Bm,⟨1,50,3,[]⟩,⟨1,50,3,[]⟩,⟨1,50,3,[]⟩]) (id:=5) rfl (show 2≤5 by decide) (AD Ag) ⟨.rfl,.rfl,.rfl,.rfl,.rfl,.rfl,.rfl,.rfl,(.BH U),trivial⟩ U) (bs h0 fun q20 gq20 h0=>zc (v':=(.agg [(i64 q20.op),(i64 q20.num),(ls AA q20.kids)])) C1 (BJ gq20) rfl U U (A0 (m:=7) AK Dw U U (Az AK BP U U U U U U (show 0+3≤3 by decide) rfl (Af (Wk.BH (L:=[(0,(.ptr 0 0 0 0)),(2,(i64 p2)),(4,(.ptr 2 0 0 0)),(6,(.ptr 3 0 0 0)),(7,(ls eI c3.params)),(8,(i64 (Sh.len c3.params))),(12,(.Al [(i64 q18.op),(i64 q18.num),(ls AA q18.kids)] 0)),(13,(.Al [(i64 q20.op),(i64 q20.num),(ls AA q20.kids)] 0))]) (st':=[(As s0_0 s0_1),(ro 0 52 5 AH s1),⟨0,31,2,[[(ls AI p1_0),(ow 1 0 s1)]]⟩,Bm,⟨1,50,3,[]⟩,⟨1,50,3,[]⟩,⟨1,50,3,[]⟩,⟨1,50,3,[]⟩]) (id:=7) rfl (show 2≤7 by decide) (Cp U) ⟨.rfl,.rfl,.rfl,.rfl,.rfl,.rfl,.rfl,.rfl,trivial⟩ U) (dn hK19 U (AJ fun K21 hK21=>?_))))))
  refine AS (B6 (L:=[(0,(.ptr 0 0 0 0)),(2,(i64 p2)),(4,(.ptr 2 0 0 0)),(6,(.ptr 3 0 0 0)),(7,(ls eI c3.params)),(8,(i64 (Sh.len c3.params))),(12,(.Al [(i64 q18.op),(i64 q18.num),(ls AA q18.kids)] 0)),(13,(.Al [(i64 q20.op),(i64 q20.num),(ls AA q20.kids)] 0))]) (st':=[(As s0_0 s0_1),(ro 0 52 5 AH s1),⟨0,31,2,[[(ls AI p1_0),(ow 1 0 s1)]]⟩,Bm,⟨0,50,3,[]⟩,⟨0,50,3,[]⟩,⟨0,50,3,[]⟩,⟨0,50,3,[]⟩]) (.raw U U U (.pure U (AD fun _=>U) (.raw U U U (.raw U U U (.pure U (by intro x hx;cases hx) (.pure U (by intro x hx;cases hx) (.pure U (by intro x hx;cases hx) (.pure U (by intro x hx;cases hx) .nil)))))))) ⟨.rfl,.rfl,.rfl,.rfl,.rfl,.rfl,.rfl,.rfl,trivial⟩) ?_
  refine BQ [(ro 0 52 5 AH s1),⟨0,31,2,[[(ls AI p1_0),(ow 1 0 s1)]]⟩,Bm,⟨0,50,3,[]⟩,⟨0,50,3,[]⟩,⟨0,50,3,[]⟩,⟨0,50,3,[]⟩] 13 (by kernel_rfl) (by kernel_rfl) (by kernel_rfl) (by rfl) ?_
  refine A1 AK (fun x0 zz=>A9 (v:=(.agg [(i64 q18.op),(i64 q18.num),(ls AA q18.kids)])) AK U (Ff BP U (show 0+3≤3 by decide) rfl) (AR U)) (A1 AK (fun x0 zz=>A9 (v:=(.ptr 0 0 0 0)) AK U (BO U) (AR U)) (A1 AK (fun x0 zz=>A9 (v:=(.agg [(ls AI p1_0),(ow 1 0 s1)])) AK U (BD Ee U U U (show 0+2≤2 by decide) rfl) (AR U)) (A1 AK (fun x0 zz=>A9 (v:=(ls eI c3.params)) AK U (BO U) (AR U)) ?_)))
  refine A1 AK (fun x0 zz=>Eu (l:=[(3:Int),0,3]) (enc:=eI) AK BF (by decide) rfl U U U U (AD fun _=>U) (AR U)) ?_
  refine bs h0 fun q22 gq22 h0=>?_
  refine A1 AK (fun x0 zz=>BX (v:=(ls eI q22)) AK NP (Aj.wk (Dq gq22) (by refine Wk.trans (Wk.BH (L:=[(0,(ls eI q22))]) (st':=[⟨1,3,1,[]⟩]) (id:=0) rfl (show 0≤0 by decide) (AD fun _=>U) ⟨(.BH U),trivial⟩ U) ?_;exact AT (L:=[(0,(ls eI q22))]) (st':=[]) [] U (by decide) rfl U .nil ⟨.rfl,trivial⟩)) rfl U U (AR U)) ?_
  refine bs h0 fun q23 gq23 h0=>?_
  refine B7 (rowsP:=[(As s0_0 s0_1),(ro 0 52 5 AH s1)]) (rows0:=[(As s0_0 s0_1),(ro 0 52 5 AH s1)]) (rows1:=[(As s0_0 q23.2),(ro 0 52 5 AH s1)]) (rows1':=[(As s0_0 q23.2),(ro 0 52 5 AH s1)]) (v':=(.agg [(i64 q23.1.op),(i64 q23.1.num),(ls AA q23.1.kids)])) (y0:=(As s0_0 q23.2)) [0,1] AK G4 (EC gq23) rfl (by decide) rfl U (.raw U U (.pure (AD fun _=>U) .nil)) rfl U (fun _=>(.raw U U (.pure (AD fun _=>U) .nil))) (fun _=>U) rfl ?_
  refine A1 AK (fun x0 zz=>A9 (v:=(.agg [(i64 q20.op),(i64 q20.num),(ls AA q20.kids)])) AK U (Ff BP U (show 0+3≤3 by decide) rfl) (AR U)) ?_
  refine A1 AK (fun x0 zz=>Eu (l:=[q23.1,q20]) (enc:=AA) AK BW (by decide) rfl U U (by simp only[List.map,Ao];rfl) rfl (AD Ag) (AR U)) ?_
  refine bs h0 fun q24 gq24 h0=>A1 AK (fun x0 zz=>BX (v:=(.agg [(i64 q24.op),(i64 q24.num),(ls AA q24.kids)])) AK C1 (BJ gq24) rfl U U (AR U)) ?_
  refine A1 AK (fun x0 zz=>Eu (l:=[q18,q24]) (enc:=AA) AK BW (by decide) rfl U U (by simp only[List.map,Ao];rfl) rfl (AD Ag) (AR U)) ?_
  refine bs h0 fun q25 gq25 h0=>A1 AK (fun x0 zz=>BX (v:=(.agg [(i64 q25.op),(i64 q25.num),(ls AA q25.kids)])) AK C1 (BJ gq25) rfl U U (AR U)) (SN Dw U (Da U (Az AK BP U U U U U U (show 0+3≤3 by decide) rfl (dn hK21 U (AJ fun K26 hK26=>bs h0 fun o31 h1 h0=>?_)))))
  have M31 :∀(f27:Int) (f28:Int) (f29:Int) (f30:(List AP)),o31=(f27,f28,f29,f30)→∀s,Wk 2 s ⟨96,Ab [(0,(.ptr 0 0 0 0)),(2,(i64 p2)),(4,(.ptr 2 0 0 0)),(6,(.ptr 3 0 0 0)),(7,(ls eI c3.params)),(14,(.ptr 4 0 0 0))],[(As s0_0 f27),(ro 0 52 5 AH s1),⟨0,31,2,[[(ls AI p1_0),(ow 1 0 s1)]]⟩,Bm,(CH f28 f29 f30)]⟩→K26 s:=by
   intro f27 f28 f29 f30 hq s hw
   subst o31
   try dsimp only at h0
   refine hK26 _ (AS hw (AJ fun K32 hK32=>?_))
   refine BQ [(ro 0 52 5 AH s1),⟨0,31,2,[[(ls AI p1_0),(ow 1 0 s1)]]⟩,Bm,(CH f28 f29 f30)] 14 (by kernel_rfl) (by kernel_rfl) (by kernel_rfl) (by rfl) ?_
   refine bs h0 fun q33 gq33 h0=>A1 AK (fun x0 zz=>BX (v:=(.agg [(i64 q33.op),(i64 q33.num),(ls AA q33.kids)])) AK GZ (Bi gq33) rfl U U (AR U)) (A1 AK (fun x0 zz=>A9 (v:=(.ptr 0 0 0 0)) AK U (BO U) (AR U)) (A1 AK (fun x0 zz=>A9 (v:=(.agg [(ls AI p1_0),(ow 1 0 s1)])) AK U (BD Ee U U U (show 0+2≤2 by decide) rfl) (AR U)) (A1 AK (fun x0 zz=>A9 (v:=(ls eI c3.params)) AK U (BO U) (AR U)) (A1 AK (fun x0 zz=>A9 (v:=(.ptr 2 0 0 1)) AK U (Fl KO U U (show 0+1≤2 by decide) rfl) (AR U)) (A1 AK (fun x0 zz=>A9 (v:=(ow 1 0 s1)) AK U (B5 MB U U U U) (AR U)) (A1 AK (fun x0 zz=>A9 (v:=(i64 p2)) AK U (BO U) (AR U)) (A1 AK (fun x0 zz=>A9 (v:=(.ptr 1 0 (Int.toNat p2) 0)) AK U (Br C3 U U U U gc3) (AR U)) (A1 AK (fun x0 zz=>A9 (v:=(.ptr 1 0 (Int.toNat p2) 1)) AK U (Fl Nk U U (show 0+1≤5 by decide) rfl) (AR U)) (A1 AK (fun x0 zz=>A9 (v:=(i64 c3.result)) AK U (B5 Fx U U (By gc3) rfl) (AR U)) (bs h0 fun q34 gq34 h0=>?_))))))))))
   refine B7 (rowsP:=[(As s0_0 f27),(ro 0 52 5 AH s1)]) (rows0:=[(As s0_0 f27),(ro 0 52 5 AH s1)]) (rows1:=[(As s0_0 q34.2),(ro 0 52 5 AH s1)]) (rows1':=[(As s0_0 q34.2),(ro 0 52 5 AH s1)]) (v':=(.agg [(i64 q34.1.op),(i64 q34.1.num),(ls AA q34.1.kids)])) (y0:=(As s0_0 q34.2)) [0,1] AK G4 (EC gq34) rfl (by decide) rfl U (.raw U U (.pure (AD fun _=>U) .nil)) rfl U (fun _=>(.raw U U (.pure (AD fun _=>U) .nil))) (fun _=>U) rfl ?_
   refine A1 AK (fun x0 zz=>A9 (v:=(.agg [(i64 f28),(i64 f29),(ls AA f30)])) AK U (BD BP U U U (show 0+3≤3 by decide) rfl) (AR U)) ?_
   refine A1 AK (fun x0 zz=>Eu (l:=[q33,q34.1,(AP.mk f28 f29 f30)]) (enc:=AA) AK BW (by decide) rfl U U (by simp only[List.map,Ao];rfl) rfl (AD Ag) (AR U)) ?_
   refine bs h0 fun q35 gq35 h0=>A1 AK (fun x0 zz=>BX (v:=(.agg [(i64 q35.op),(i64 q35.num),(ls AA q35.kids)])) AK C1 (BJ gq35) rfl U U (AR U)) (Da U (Az AK BP U U U U U U (show 0+3≤3 by decide) rfl (dn hK32 U ?_)))
   replace h0:=Sh.AE h0
   subst r
   exact AZ (Exists.intro _ (And.intro ((AT (L:=[(6,(.ptr 2 0 0 0))]) (st':=[(As s0_0 q34.2),(ro 0 52 5 AH s1),(CH q35.op q35.num q35.kids)]) [0,1,3] U (by decide) rfl U (.raw U U (.pure (AD fun _=>U) (.raw U U .nil))) ⟨.rfl,trivial⟩).trans (Ah (L:=[(6,(.ptr 2 0 0 0))]) ⟨.rfl,trivial⟩)) (BD (x:=.tmp 6) (off:=0) (cs:=[(i64 q35.op),(i64 q35.num),(ls AA q35.kids)]) (vs:=[(i64 q35.op),(i64 q35.num),(ls AA q35.kids)]) BP U U U (show 0+3≤3 by decide) rfl _ ⟨U,U⟩)))
  refine sr U fun K36 hK36=>zm tb 3 U (zz (.ptr 1 0 (Int.toNat p2) 0) (Br C3 U U U U gc3) rfl (zq tb U (zz (i64 c3.result) (B5 Fx U U (By gc3) rfl) rfl (zq tb U (dn hK36 U ?_)))))
  refine ci h1 U ?_ ?_ <;> clear h1
  ·intro b37 h1
   refine BQ [(ro 0 52 5 AH s1),⟨0,31,2,[[(ls AI p1_0),(ow 1 0 s1)]]⟩,Bm,⟨0,50,3,[]⟩,⟨0,50,3,[]⟩,⟨0,50,3,[]⟩,⟨0,50,3,[]⟩,(CH q25.op q25.num q25.kids)] 12 (by kernel_rfl) (by kernel_rfl) (by kernel_rfl) (by rfl) ?_
   refine A1 AK (fun x0 zz=>A9 (v:=(.agg [(i64 q18.op),(i64 q18.num),(ls AA q18.kids)])) AK U (Ff BP U (show 0+3≤3 by decide) rfl) (AR U)) (A1 AK (fun x0 zz=>A9 (v:=(.ptr 0 0 0 0)) AK U (BO U) (AR U)) (A1 AK (fun x0 zz=>A9 (v:=(.agg [(ls AI p1_0),(ow 1 0 s1)])) AK U (BD Ee U U U (show 0+2≤2 by decide) rfl) (AR U)) (A1 AK (fun x0 zz=>A9 (v:=(ls eI c3.params)) AK U (BO U) (AR U)) ?_)))
   refine A1 AK (fun x0 zz=>Eu (l:=[(3:Int),0,3]) (enc:=eI) AK BF (by decide) rfl U U U U (AD fun _=>U) (AR U)) ?_
   refine bs h1 fun q38 gq38 h1=>?_
   refine A1 AK (fun x0 zz=>BX (v:=(ls eI q38)) AK NP (Aj.wk (Dq gq38) (by refine Wk.trans (Wk.BH (L:=[(0,(ls eI q38))]) (st':=[⟨1,3,1,[]⟩]) (id:=0) rfl (show 0≤0 by decide) (AD fun _=>U) ⟨(.BH U),trivial⟩ U) ?_;exact AT (L:=[(0,(ls eI q38))]) (st':=[]) [] U (by decide) rfl U .nil ⟨.rfl,trivial⟩)) rfl U U (AR U)) ?_
   refine bs h1 fun q39 gq39 h1=>?_
   refine B7 (rowsP:=[(As s0_0 q23.2),(ro 0 52 5 AH s1)]) (rows0:=[(As s0_0 q23.2),(ro 0 52 5 AH s1)]) (rows1:=[(As s0_0 q39.2),(ro 0 52 5 AH s1)]) (rows1':=[(As s0_0 q39.2),(ro 0 52 5 AH s1)]) (v':=(.agg [(i64 q39.1.op),(i64 q39.1.num),(ls AA q39.1.kids)])) (y0:=(As s0_0 q39.2)) [0,1] AK G4 (EC gq39) rfl (by decide) rfl U (.raw U U (.pure (AD fun _=>U) .nil)) rfl U (fun _=>(.raw U U (.pure (AD fun _=>U) .nil))) (fun _=>U) rfl ?_
   refine A1 AK (fun x0 zz=>A9 (v:=(i64 (Sh.len c3.params))) AK U (BO U) (AR U)) (A1 AK (fun x0 zz=>A9 (v:=(i64 (Sh.w ((Sh.len c3.params) + 2)))) AK U (R3 U U) (AR U)) (bs h1 fun q40 gq40 h1=>A1 AK (fun x0 zz=>BX (v:=(.agg [(i64 q40.op),(i64 q40.num),(ls AA q40.kids)])) AK GZ (Bi gq40) rfl U U (AR U)) ?_))
   refine A1 AK (fun x0 zz=>Eu (l:=[q18,q39.1,q40]) (enc:=AA) AK BW (by decide) rfl U U (by simp only[List.map,Ao];rfl) rfl (AD Ag) (AR U)) ?_
   refine bs h1 fun q41 gq41 h1=>A1 AK (fun x0 zz=>BX (v:=(.agg [(i64 q41.op),(i64 q41.num),(ls AA q41.kids)])) AK C1 (BJ gq41) rfl U U (AR U)) (Da U (Az AK BP U U U U U U (show 0+3≤3 by decide) rfl ?_))
   exact AB (M31 q39.2 q41.op q41.num q41.kids (Sh.AE h1).symm _ (AT (L:=[(0,(.ptr 0 0 0 0)),(2,(i64 p2)),(4,(.ptr 2 0 0 0)),(6,(.ptr 3 0 0 0)),(7,(ls eI c3.params)),(14,(.ptr 4 0 0 0))]) (st':=[(As s0_0 q39.2),(ro 0 52 5 AH s1),⟨0,31,2,[[(ls AI p1_0),(ow 1 0 s1)]]⟩,Bm,(CH q41.op q41.num q41.kids)]) [0,1,2,3,8] U (by decide) rfl U (.raw U U (.pure (AD fun _=>U) (.raw U U (.raw U U (.raw U U .nil))))) ⟨.rfl,.rfl,.rfl,.rfl,.rfl,.rfl,trivial⟩))
  ·intro b37 h1
   exact AU (M31 q23.2 q25.op q25.num q25.kids (Sh.AE h1).symm _ (AT (L:=[(0,(.ptr 0 0 0 0)),(2,(i64 p2)),(4,(.ptr 2 0 0 0)),(6,(.ptr 3 0 0 0)),(7,(ls eI c3.params)),(14,(.ptr 4 0 0 0))]) (st':=[(As s0_0 q23.2),(ro 0 52 5 AH s1),⟨0,31,2,[[(ls AI p1_0),(ow 1 0 s1)]]⟩,Bm,(CH q25.op q25.num q25.kids)]) [0,1,2,3,8] U (by decide) rfl U (.raw U U (.pure (AD fun _=>U) (.raw U U (.raw U U (.raw U U .nil))))) ⟨.rfl,.rfl,.rfl,.rfl,.rfl,.rfl,trivial⟩))
 refine Ae (A5 (σ:=Int×(List AP)×(List AP)) (fun n v=>DG c3 n v.1 v.2.1 v.2.2=some o16) (fun (i11,l12,l13)=>⟨96,Ab [(0,(.ptr 0 0 0 0)),(2,(i64 p2)),(4,(.ptr 2 0 0 0)),(6,(.ptr 3 0 0 0)),(7,(ls eI c3.params)),(8,(i64 (Sh.len c3.params))),(9,(ow 4 0 l12)),(10,(ow 5 0 l13)),(11,(i64 i11))],[(As s0_0 s0_1),(ro 0 52 5 AH s1),⟨0,31,2,[[(ls AI p1_0),(ow 1 0 s1)]]⟩,Bm,(ro 0 50 3 AA l12),(ro 0 50 3 AA l13)]⟩) N (1,[q6],[q8]) h1 (AG U) (fun _ hv=>by rw[DG] at hv;cases hv) ?_)
 rintro n ⟨i11,l12,l13⟩ h1
 try dsimp only at h1 ⊢
 rw[DG] at h1
 refine AJ fun K42 hK42=>zr tb U U ?_
 refine ci h1 U ?_ ?_ <;> clear h1
 ·intro b44 h1
  refine AU (hK42 _ (AJ fun K45 hK45=>Ae (sr U fun K46 hK46=>zm tb 2 U (bs h1 fun q47 gq47 h1=>zc (v':=(.agg [(i64 q47.op),(i64 q47.num),(ls AA q47.kids)])) GZ (Bi gq47) rfl U U ?_))))
  refine A8 (m:=6) (l:=[q47]) (enc:=AA) AK BW (by decide) rfl U (by simp only[List.map,Ao];rfl) rfl U U ?_
  refine bs h1 fun l48 gl48 h1=>CL (l2:=[q47]) AK BW U U U U (EP U U Cz) B4 gl48 U (zq tb U (dn hK46 U (AN U (zm tb 2 U (bs h1 fun q49 gq49 h1=>zc (v':=(.agg [(i64 q49.op),(i64 q49.num),(ls AA q49.kids)])) GZ (Bi gq49) rfl U U ?_)))))
  refine A8 (m:=7) (l:=[q49]) (enc:=AA) AK BW (by decide) rfl U (by simp only[List.map,Ao];rfl) rfl U U ?_
  refine bs h1 fun l50 gl50 h1=>CL (l2:=[q49]) AK BW U U U U (EP U U Cz) B4 gl50 U (zq tb U (dn hK45 U (AN U (zm tb 3 U ?_))))
  exact AB (xi (Sh.w (i11+1),l48,l50) h1 (by refine Wk.trans (B6 (L:=[(0,(.ptr 0 0 0 0)),(2,(i64 p2)),(4,(.ptr 2 0 0 0)),(6,(.ptr 3 0 0 0)),(7,(ls eI c3.params)),(8,(i64 (Sh.len c3.params))),(9,(ow 4 0 l48)),(10,(ow 5 0 l50)),(11,(i64 (Sh.w (i11+1))))]) (st':=[(As s0_0 s0_1),(ro 0 52 5 AH s1),⟨0,31,2,[[(ls AI p1_0),(ow 1 0 s1)]]⟩,Bm,(ro 0 50 3 AA l48),(ro 0 50 3 AA l50),(ro 0 50 3 AA [q47]),(ro 0 50 3 AA [q49])]) (.raw U U U (.pure U (AD fun _=>U) (.raw U U U (.raw U U U (.pure U (AD Ag) (.pure U (AD Ag) (.pure U (AD Ag) (.pure U (AD Ag) .nil)))))))) ⟨.rfl,.rfl,.rfl,.rfl,.rfl,.rfl,.rfl,.rfl,.rfl,trivial⟩) ?_;exact AT (L:=[(0,(.ptr 0 0 0 0)),(2,(i64 p2)),(4,(.ptr 2 0 0 0)),(6,(.ptr 3 0 0 0)),(7,(ls eI c3.params)),(8,(i64 (Sh.len c3.params))),(9,(ow 4 0 l48)),(10,(ow 5 0 l50)),(11,(i64 (Sh.w (i11+1))))]) (st':=[(As s0_0 s0_1),(ro 0 52 5 AH s1),⟨0,31,2,[[(ls AI p1_0),(ow 1 0 s1)]]⟩,Bm,(ro 0 50 3 AA l48),(ro 0 50 3 AA l50)]) [0,1,2,3,4,5] U (by decide) rfl U (.raw U U (.pure (AD fun _=>U) (.raw U U (.raw U U (.pure (AD Ag) (.pure (AD Ag) .nil)))))) ⟨.rfl,.rfl,.rfl,.rfl,.rfl,.rfl,.rfl,.rfl,.rfl,trivial⟩))
 ·intro b44 h1
  exact BE (M16 l12 l13 (Sh.AE h1).symm _ (AG U))
theorem Mw {N:Nat} {s0_0:(List Int)} {s0_1:Int} {s1:(List Ar)} {p1_0:(List Ac)} {p2:Int} {r:AP×Int} (h0:Gi N s0_0 s0_1 s1 p1_0 p2=some r):Aj Try.prog 116 [(.ptr 0 0 0 0),(.agg [(ls AI p1_0),(ow 1 0 s1)]),(i64 p2)] [(As s0_0 s0_1),(ro 0 52 5 AH s1)] (fun v st=>v=(.agg [(i64 r.1.op),(i64 r.1.num),(ls AA r.1.kids)])∧st=[(As s0_0 r.2),(ro 0 52 5 AH s1)]):=by
 unfold Gi at h0
 refine Aj.wk (r0:=(.agg [(i64 r.1.op),(i64 r.1.num),(ls AA r.1.kids)])) (st0:=[(As s0_0 r.2),(ro 0 52 5 AH s1),(CH r.1.op r.1.num r.1.kids)]) ?_ (D0 (L:=[(0,(.agg [(i64 r.1.op),(i64 r.1.num),(ls AA r.1.kids)]))]) (st':=[(As s0_0 r.2),(ro 0 52 5 AH s1)]) [0,1] U (by decide) rfl U (.raw U (.pure (AD fun _=>U) trivial)) ⟨.rfl,trivial⟩)
 refine ai Try.func116 U U U U (sr U fun K1 hK1=>Bj (m:=2) AK U U U U U (A0 (m:=3) AK Dw U U (dn hK1 U (sr U fun K2 hK2=>zm tb 3 U (bs h0 fun c3 gc3 h0=>zz (.ptr 1 0 (Int.toNat p2) 0) (Br C3 U U U U gc3) rfl (zq tb U (zz (ls eI c3.params) (B5 La U U (By gc3) rfl) rfl (zq tb U ?_))))))))
 refine dn hK2 U (sr U fun K4 hK4=>bs h0 fun q5 gq5 h0=>zc (v':=(.agg [(i64 q5.op),(i64 q5.num),(ls AA q5.kids)])) GZ (Bi gq5) rfl U U (bs h0 fun q6 gq6 h0=>zc (v':=(.agg [(i64 q6.op),(i64 q6.num),(ls AA q6.kids)])) Gh (Bp gq6) rfl U U ?_))
 refine A8 (m:=4) (l:=[q5,q6]) (enc:=AA) AK BW (by decide) rfl U (by simp only[List.map,Ao];rfl) rfl U U ?_
 refine Af (Wk.BH (L:=[(0,(.ptr 0 0 0 0)),(2,(i64 p2)),(4,(.ptr 2 0 0 0)),(6,(.ptr 3 0 0 0)),(7,(ls eI c3.params)),(20,(ls AA [q5,q6]))]) (st':=[(As s0_0 s0_1),(ro 0 52 5 AH s1),⟨0,31,2,[[(ls AI p1_0),(ow 1 0 s1)]]⟩,Bm,⟨1,50,3,[]⟩]) (id:=4) rfl (show 2≤4 by decide) (AD Ag) ⟨.rfl,.rfl,.rfl,.rfl,.rfl,(.BH U),trivial⟩ U) (bs h0 fun q7 gq7 h0=>zc (v':=(.agg [(i64 q7.op),(i64 q7.num),(ls AA q7.kids)])) C1 (BJ gq7) rfl U U ?_)
 refine A8 (m:=5) (l:=[q7]) (enc:=AA) AK BW (by decide) rfl U (by simp only[List.map,Ao];rfl) rfl U U ?_
 refine zq tb U (dn hK4 U (AJ fun K8 hK8=>zr tb U U (bs h0 fun o15 h1 h0=>?_)))
 have M15 :∀(f13:Int) (l14:(List AP)),o15=(f13,l14)→∀s,Wk 2 s ⟨75,Ab [(0,(.ptr 0 0 0 0)),(2,(i64 p2)),(4,(.ptr 2 0 0 0)),(6,(.ptr 3 0 0 0)),(7,(ls eI c3.params)),(8,(ow 4 0 l14))],[(As s0_0 f13),(ro 0 52 5 AH s1),⟨0,31,2,[[(ls AI p1_0),(ow 1 0 s1)]]⟩,Bm,(ro 0 50 3 AA l14)]⟩→K8 s:=by
  intro f13 l14 hq s hw
  subst o15
  try dsimp only at h0
  refine hK8 _ (AS hw (sr U fun K16 hK16=>zm tb 2 U (Af (Wk.BH (L:=[(0,(.ptr 0 0 0 0)),(2,(i64 p2)),(4,(.ptr 2 0 0 0)),(6,(.ptr 3 0 0 0)),(7,(ls eI c3.params)),(40,(i64 p2)),(41,(ls AA l14))]) (st':=[(As s0_0 f13),(ro 0 52 5 AH s1),⟨0,31,2,[[(ls AI p1_0),(ow 1 0 s1)]]⟩,Bm,⟨1,50,3,[]⟩]) (id:=4) rfl (show 2≤4 by decide) (AD Ag) ⟨.rfl,.rfl,.rfl,.rfl,.rfl,.rfl,(.BH U),trivial⟩ U) (bs h0 fun q17 gq17 h0=>zc (v':=(.agg [(i64 q17.op),(i64 q17.num),(ls AA q17.kids)])) C1 (BJ gq17) rfl U U (A0 (m:=5) AK Dw U U (Az AK BP U U U U U U (show 0+3≤3 by decide) rfl (dn hK16 U (AJ fun K18 hK18=>bs h0 fun o23 h1 h0=>?_))))))))
  have M23 :∀(f19:Int) (f20:Int) (f21:Int) (f22:(List AP)),o23=(f19,f20,f21,f22)→∀s,Wk 2 s ⟨75,Ab [(0,(.ptr 0 0 0 0)),(2,(i64 p2)),(4,(.ptr 2 0 0 0)),(6,(.ptr 3 0 0 0)),(7,(ls eI c3.params)),(10,(.ptr 4 0 0 0))],[(As s0_0 f19),(ro 0 52 5 AH s1),⟨0,31,2,[[(ls AI p1_0),(ow 1 0 s1)]]⟩,Bm,(CH f20 f21 f22)]⟩→K18 s:=by
   intro f19 f20 f21 f22 hq s hw
   subst o23
   try dsimp only at h0
   refine hK18 _ (AS hw (sr U fun K24 hK24=>bs h0 fun q25 gq25 h0=>zc (v':=(.agg [(i64 q25.op),(i64 q25.num),(ls AA q25.kids)])) Gh (Bp gq25) rfl U U (bs h0 fun q26 gq26 h0=>zc (v':=(.agg [(i64 q26.op),(i64 q26.num),(ls AA q26.kids)])) GZ (Bi gq26) rfl U U ?_)))
   refine A8 (m:=5) (l:=[q25,q26]) (enc:=AA) AK BW (by decide) rfl U (by simp only[List.map,Ao];rfl) rfl U U ?_
   refine Af (Wk.BH (L:=[(0,(.ptr 0 0 0 0)),(2,(i64 p2)),(4,(.ptr 2 0 0 0)),(6,(.ptr 3 0 0 0)),(7,(ls eI c3.params)),(10,(.ptr 4 0 0 0)),(59,(ls AA [q25,q26]))]) (st':=[(As s0_0 f19),(ro 0 52 5 AH s1),⟨0,31,2,[[(ls AI p1_0),(ow 1 0 s1)]]⟩,Bm,(CH f20 f21 f22),⟨1,50,3,[]⟩]) (id:=5) rfl (show 2≤5 by decide) (AD Ag) ⟨.rfl,.rfl,.rfl,.rfl,.rfl,.rfl,(.BH U),trivial⟩ U) (bs h0 fun q27 gq27 h0=>zc (v':=(.agg [(i64 q27.op),(i64 q27.num),(ls AA q27.kids)])) C1 (BJ gq27) rfl U U (A0 (m:=6) AK Dw U U (Az AK BP U U U U U U (show 0+3≤3 by decide) rfl (Af (Wk.BH (L:=[(0,(.ptr 0 0 0 0)),(2,(i64 p2)),(4,(.ptr 2 0 0 0)),(6,(.ptr 3 0 0 0)),(7,(ls eI c3.params)),(10,(.ptr 4 0 0 0)),(11,(.Al [(i64 q27.op),(i64 q27.num),(ls AA q27.kids)] 0))]) (st':=[(As s0_0 f19),(ro 0 52 5 AH s1),⟨0,31,2,[[(ls AI p1_0),(ow 1 0 s1)]]⟩,Bm,(CH f20 f21 f22),⟨1,50,3,[]⟩,⟨1,50,3,[]⟩]) (id:=6) rfl (show 2≤6 by decide) (Cp U) ⟨.rfl,.rfl,.rfl,.rfl,.rfl,.rfl,.rfl,trivial⟩ U) (dn hK24 U (AJ fun K28 hK28=>?_))))))
   refine AS (B6 (L:=[(0,(.ptr 0 0 0 0)),(2,(i64 p2)),(4,(.ptr 2 0 0 0)),(6,(.ptr 3 0 0 0)),(7,(ls eI c3.params)),(10,(.ptr 4 0 0 0)),(11,(.Al [(i64 q27.op),(i64 q27.num),(ls AA q27.kids)] 0))]) (st':=[(As s0_0 f19),(ro 0 52 5 AH s1),⟨0,31,2,[[(ls AI p1_0),(ow 1 0 s1)]]⟩,Bm,(CH f20 f21 f22),⟨0,50,3,[]⟩,⟨0,50,3,[]⟩]) (.raw U U U (.pure U (AD fun _=>U) (.raw U U U (.raw U U U (.raw U U U (.pure U (by intro x hx;cases hx) (.pure U (by intro x hx;cases hx) .nil))))))) ⟨.rfl,.rfl,.rfl,.rfl,.rfl,.rfl,.rfl,trivial⟩) ?_
   refine BQ [(ro 0 52 5 AH s1),⟨0,31,2,[[(ls AI p1_0),(ow 1 0 s1)]]⟩,Bm,(CH f20 f21 f22),⟨0,50,3,[]⟩,⟨0,50,3,[]⟩] 14 (by kernel_rfl) (by kernel_rfl) (by kernel_rfl) (by rfl) ?_
   refine A1 AK (fun x0 zz=>A9 (v:=(.agg [(i64 q27.op),(i64 q27.num),(ls AA q27.kids)])) AK U (Ff BP U (show 0+3≤3 by decide) rfl) (AR U)) (A1 AK (fun x0 zz=>A9 (v:=(.agg [(i64 f20),(i64 f21),(ls AA f22)])) AK U (BD BP U U U (show 0+3≤3 by decide) rfl) (AR U)) (A1 AK (fun x0 zz=>A9 (v:=(.ptr 0 0 0 0)) AK U (BO U) (AR U)) (A1 AK (fun x0 zz=>A9 (v:=(.agg [(ls AI p1_0),(ow 1 0 s1)])) AK U (BD Ee U U U (show 0+2≤2 by decide) rfl) (AR U)) (A1 AK (fun x0 zz=>A9 (v:=(ls eI c3.params)) AK U (BO U) (AR U)) (A1 AK (fun x0 zz=>A9 (v:=(.ptr 2 0 0 1)) AK U (Fl KO U U (show 0+1≤2 by decide) rfl) (AR U)) (A1 AK (fun x0 zz=>A9 (v:=(ow 1 0 s1)) AK U (B5 MB U U U U) (AR U)) (A1 AK (fun x0 zz=>A9 (v:=(i64 p2)) AK U (BO U) (AR U)) (A1 AK (fun x0 zz=>A9 (v:=(.ptr 1 0 (Int.toNat p2) 0)) AK U (Br C3 U U U U gc3) (AR U)) (A1 AK (fun x0 zz=>A9 (v:=(.ptr 1 0 (Int.toNat p2) 1)) AK U (Fl Nk U U (show 0+1≤5 by decide) rfl) (AR U)) (A1 AK (fun x0 zz=>A9 (v:=(i64 c3.result)) AK U (B5 Fx U U (By gc3) rfl) (AR U)) (bs h0 fun q29 gq29 h0=>?_)))))))))))
   refine B7 (rowsP:=[(As s0_0 f19),(ro 0 52 5 AH s1)]) (rows0:=[(As s0_0 f19),(ro 0 52 5 AH s1)]) (rows1:=[(As s0_0 q29.2),(ro 0 52 5 AH s1)]) (rows1':=[(As s0_0 q29.2),(ro 0 52 5 AH s1)]) (v':=(.agg [(i64 q29.1.op),(i64 q29.1.num),(ls AA q29.1.kids)])) (y0:=(As s0_0 q29.2)) [0,1] AK G4 (EC gq29) rfl (by decide) rfl U (.raw U U (.pure (AD fun _=>U) .nil)) rfl U (fun _=>(.raw U U (.pure (AD fun _=>U) .nil))) (fun _=>U) rfl ?_
   refine A1 AK (fun x0 zz=>Eu (l:=[q27,(AP.mk f20 f21 f22),q29.1]) (enc:=AA) AK BW (by decide) rfl U U (by simp only[List.map,Ao];rfl) rfl (AD Ag) (AR U)) ?_
   refine bs h0 fun q30 gq30 h0=>A1 AK (fun x0 zz=>BX (v:=(.agg [(i64 q30.op),(i64 q30.num),(ls AA q30.kids)])) AK C1 (BJ gq30) rfl U U (AR U)) (Da U (Az AK BP U U U U U U (show 0+3≤3 by decide) rfl (dn hK28 U ?_)))
   replace h0:=Sh.AE h0
   subst r
   exact AZ (Exists.intro _ (And.intro ((AT (L:=[(6,(.ptr 2 0 0 0))]) (st':=[(As s0_0 q29.2),(ro 0 52 5 AH s1),(CH q30.op q30.num q30.kids)]) [0,1,3] U (by decide) rfl U (.raw U U (.pure (AD fun _=>U) (.raw U U .nil))) ⟨.rfl,trivial⟩).trans (Ah (L:=[(6,(.ptr 2 0 0 0))]) ⟨.rfl,trivial⟩)) (BD (x:=.tmp 6) (off:=0) (cs:=[(i64 q30.op),(i64 q30.num),(ls AA q30.kids)]) (vs:=[(i64 q30.op),(i64 q30.num),(ls AA q30.kids)]) BP U U U (show 0+3≤3 by decide) rfl _ ⟨U,U⟩)))
  refine sr U fun K31 hK31=>zm tb 3 U (zz (.ptr 1 0 (Int.toNat p2) 0) (Br C3 U U U U gc3) rfl (zq tb U (zz (i64 c3.result) (B5 Fx U U (By gc3) rfl) rfl (zq tb U (dn hK31 U ?_)))))
  refine ci h1 U ?_ ?_ <;> clear h1
  ·intro b32 h1
   refine AS (B6 (L:=[(0,(.ptr 0 0 0 0)),(2,(i64 p2)),(4,(.ptr 2 0 0 0)),(6,(.ptr 3 0 0 0)),(7,(ls eI c3.params)),(10,(.ptr 5 0 0 0))]) (st':=[(As s0_0 f13),(ro 0 52 5 AH s1),⟨0,31,2,[[(ls AI p1_0),(ow 1 0 s1)]]⟩,Bm,⟨0,50,3,[]⟩,(CH q17.op q17.num q17.kids)]) (.raw U U U (.pure U (AD fun _=>U) (.raw U U U (.raw U U U (.pure U (by intro x hx;cases hx) (.raw U U U .nil)))))) ⟨.rfl,.rfl,.rfl,.rfl,.rfl,.rfl,trivial⟩) ?_
   refine BQ [(ro 0 52 5 AH s1),⟨0,31,2,[[(ls AI p1_0),(ow 1 0 s1)]]⟩,Bm,⟨0,50,3,[]⟩,(CH q17.op q17.num q17.kids)] 7 (by kernel_rfl) (by kernel_rfl) (by kernel_rfl) (by rfl) ?_
   refine A1 AK (fun x0 zz=>A9 (v:=(.ptr 0 0 0 0)) AK U (BO U) (AR U)) (A1 AK (fun x0 zz=>A9 (v:=(.agg [(ls AI p1_0),(ow 1 0 s1)])) AK U (BD Ee U U U (show 0+2≤2 by decide) rfl) (AR U)) (A1 AK (fun x0 zz=>A9 (v:=(ls eI c3.params)) AK U (BO U) (AR U)) (bs h1 fun q33 gq33 h1=>?_)))
   refine B7 (rowsP:=[(As s0_0 f13),(ro 0 52 5 AH s1)]) (rows0:=[(As s0_0 f13),(ro 0 52 5 AH s1)]) (rows1:=[(As s0_0 q33.2),(ro 0 52 5 AH s1)]) (rows1':=[(As s0_0 q33.2),(ro 0 52 5 AH s1)]) (v':=(.agg [(i64 q33.1.op),(i64 q33.1.num),(ls AA q33.1.kids)])) (y0:=(As s0_0 q33.2)) [0,1] AK G4 (EC gq33) rfl (by decide) rfl U (.raw U U (.pure (AD fun _=>U) .nil)) rfl U (fun _=>(.raw U U (.pure (AD fun _=>U) .nil))) (fun _=>U) rfl ?_
   refine A1 AK (fun x0 zz=>A9 (v:=(.agg [(i64 q17.op),(i64 q17.num),(ls AA q17.kids)])) AK U (BD BP U U U (show 0+3≤3 by decide) rfl) (AR U)) ?_
   refine A1 AK (fun x0 zz=>Eu (l:=[q33.1,q17]) (enc:=AA) AK BW (by decide) rfl U U (by simp only[List.map,Ao];rfl) rfl (AD Ag) (AR U)) ?_
   refine bs h1 fun q34 gq34 h1=>A1 AK (fun x0 zz=>BX (v:=(.agg [(i64 q34.op),(i64 q34.num),(ls AA q34.kids)])) AK C1 (BJ gq34) rfl U U (AR U)) (Da U (Az AK BP U U U U U U (show 0+3≤3 by decide) rfl ?_))
   exact AB (M23 q33.2 q34.op q34.num q34.kids (Sh.AE h1).symm _ (AT (L:=[(0,(.ptr 0 0 0 0)),(2,(i64 p2)),(4,(.ptr 2 0 0 0)),(6,(.ptr 3 0 0 0)),(7,(ls eI c3.params)),(10,(.ptr 4 0 0 0))]) (st':=[(As s0_0 q33.2),(ro 0 52 5 AH s1),⟨0,31,2,[[(ls AI p1_0),(ow 1 0 s1)]]⟩,Bm,(CH q34.op q34.num q34.kids)]) [0,1,2,3,5] U (by decide) rfl U (.raw U U (.pure (AD fun _=>U) (.raw U U (.raw U U (.raw U U .nil))))) ⟨.rfl,.rfl,.rfl,.rfl,.rfl,.rfl,trivial⟩))
  ·intro b32 h1
   exact AU (M23 f13 q17.op q17.num q17.kids (Sh.AE h1).symm _ (AT (L:=[(0,(.ptr 0 0 0 0)),(2,(i64 p2)),(4,(.ptr 2 0 0 0)),(6,(.ptr 3 0 0 0)),(7,(ls eI c3.params)),(10,(.ptr 4 0 0 0))]) (st':=[(As s0_0 f13),(ro 0 52 5 AH s1),⟨0,31,2,[[(ls AI p1_0),(ow 1 0 s1)]]⟩,Bm,(CH q17.op q17.num q17.kids)]) [0,1,2,3,5] U (by decide) rfl U (.raw U U (.pure (AD fun _=>U) (.raw U U (.raw U U (.raw U U .nil))))) ⟨.rfl,.rfl,.rfl,.rfl,.rfl,.rfl,trivial⟩))
 refine Ae (A5 (σ:=Int×Int×(List AP)) (fun n v=>DD N c3 s0_0 s1 p1_0 n v.1 v.2.1 v.2.2=some o15) (fun (i10,f11,l12)=>⟨75,Ab [(0,(.ptr 0 0 0 0)),(2,(i64 p2)),(4,(.ptr 2 0 0 0)),(6,(.ptr 3 0 0 0)),(7,(ls eI c3.params)),(8,(ow 4 0 l12)),(9,(i64 i10))],[(As s0_0 f11),(ro 0 52 5 AH s1),⟨0,31,2,[[(ls AI p1_0),(ow 1 0 s1)]]⟩,Bm,(ro 0 50 3 AA l12)]⟩) N (1,s0_1,[q7]) h1 (AT (L:=[(0,(.ptr 0 0 0 0)),(2,(i64 p2)),(4,(.ptr 2 0 0 0)),(6,(.ptr 3 0 0 0)),(7,(ls eI c3.params)),(8,(ow 4 0 [q7])),(9,(i64 1))]) (st':=[(As s0_0 s0_1),(ro 0 52 5 AH s1),⟨0,31,2,[[(ls AI p1_0),(ow 1 0 s1)]]⟩,Bm,(ro 0 50 3 AA [q7])]) [0,1,2,3,5] U (by decide) rfl U (.raw U U (.pure (AD fun _=>U) (.raw U U (.raw U U (.pure (AD Ag) .nil))))) ⟨.rfl,.rfl,.rfl,.rfl,.rfl,.rfl,.rfl,trivial⟩) (fun _ hv=>by rw[DD] at hv;cases hv) ?_)
 rintro n ⟨i10,f11,l12⟩ h1
 try dsimp only at h1 ⊢
 rw[DD] at h1
 refine AJ fun K35 hK35=>sr U fun K36 hK36=>zm tb 2 U (zl tb U U (zq tb U (dn hK36 U ?_)))
 refine ci h1 U ?_ ?_ <;> clear h1
 ·intro b37 h1
  refine AU (hK35 _ (AJ fun K38 hK38=>Ae ?_))
  refine BQ [(ro 0 52 5 AH s1),⟨0,31,2,[[(ls AI p1_0),(ow 1 0 s1)]]⟩,Bm,(ro 0 50 3 AA l12)] 10 (by kernel_rfl) (by kernel_rfl) (by kernel_rfl) (by rfl) ?_
  refine A1 AK (fun x0 zz=>A9 (v:=(ow 4 0 l12)) AK U (BO U) (AR U)) (A1 AK (fun x0 zz=>A9 (v:=(.ptr 0 0 0 0)) AK U (BO U) (AR U)) (A1 AK (fun x0 zz=>A9 (v:=(.agg [(ls AI p1_0),(ow 1 0 s1)])) AK U (BD Ee U U U (show 0+2≤2 by decide) rfl) (AR U)) ?_))
  iterate 2 refine A1 AK (fun x0 zz=>A9 (v:=(ls eI c3.params)) AK rfl (BO rfl) (AR rfl)) ?_
  refine A1 AK (fun x0 zz=>A9 (v:=(i64 i10)) AK U (BO U) (AR U)) (bs h1 fun c39 gc39 h1=>A1 AK (fun x0 zz=>A9 (v:=(.Al (eI c39) 0)) AK U (CV BF U U gc39 U) (AR U)) (A1 AK (fun x0 zz=>A9 (v:=(i64 c39)) AK U (FR Fx U U) (AR U)) (bs h1 fun q40 gq40 h1=>?_)))
  refine B7 (rowsP:=[(As s0_0 f11),(ro 0 52 5 AH s1)]) (rows0:=[(As s0_0 f11),(ro 0 52 5 AH s1)]) (rows1:=[(As s0_0 q40.2),(ro 0 52 5 AH s1)]) (rows1':=[(As s0_0 q40.2),(ro 0 52 5 AH s1)]) (v':=(.agg [(i64 q40.1.op),(i64 q40.1.num),(ls AA q40.1.kids)])) (y0:=(As s0_0 q40.2)) [0,1] AK N8 (F5 gq40) rfl (by decide) rfl U (.raw U U (.pure (AD fun _=>U) .nil)) rfl U (fun _=>(.raw U U (.pure (AD fun _=>U) .nil))) (fun _=>U) rfl ?_
  refine A1 AK (fun x0 zz=>Eu (l:=[q40.1]) (enc:=AA) AK BW (by decide) rfl U U (by simp only[List.map,Ao];rfl) rfl (AD Ag) (AR U)) ?_
  exact Da U (bs h1 fun l41 gl41 h1=>CL (l2:=[q40.1]) AK BW U U U U NZ B4 gl41 U (zq tb U (dn hK38 U (AN U (zm tb 3 U (AB (xi (Sh.w (i10+1),q40.2,l41) h1 (B6 (L:=[(0,(.ptr 0 0 0 0)),(2,(i64 p2)),(4,(.ptr 2 0 0 0)),(6,(.ptr 3 0 0 0)),(7,(ls eI c3.params)),(8,(ow 4 0 l41)),(9,(i64 (Sh.w (i10+1))))]) (st':=[(As s0_0 q40.2),(ro 0 52 5 AH s1),⟨0,31,2,[[(ls AI p1_0),(ow 1 0 s1)]]⟩,Bm,(ro 0 50 3 AA l41)]) (.raw U U U (.pure U (AD fun _=>U) (.raw U U U (.raw U U U (.pure U (AD Ag) .nil))))) ⟨.rfl,.rfl,.rfl,.rfl,.rfl,.rfl,.rfl,trivial⟩))))))))
 ·intro b37 h1
  exact BE (M15 f11 l12 (Sh.AE h1).symm _ (AG U))
theorem LW {N:Nat} {rec_spec_nodesLeft:AP→Int→Option (Int)} (hrec_spec_nodesLeft :∀{p0:AP} {p1:Int} {r:Int},rec_spec_nodesLeft p0 p1=some r→Aj Try.prog 68 [(.agg [(i64 p0.op),(i64 p0.num),(ls AA p0.kids)]),(i64 p1)] [] (fun v st=>v=(i64 r)∧st=[])) {p0:AP} {p1:Int} {r:Int} (h0:GU N rec_spec_nodesLeft p0 p1=some r):Aj Try.prog 68 [(.agg [(i64 p0.op),(i64 p0.num),(ls AA p0.kids)]),(i64 p1)] [] (fun v st=>v=(i64 r)∧st=[]):=by
 unfold GU at h0
 refine ai Try.func68 U U U U (sr U fun K1 hK1=>Bj (m:=0) AK U U U U U (zq tb U (dn hK1 U (AJ fun K2 hK2=>zr tb U U ?_))))
 refine ci h0 U ?_ ?_ <;> clear h0
 ·intro b4 h0
  refine zr tb U U ?_
  replace h0:=Sh.AE h0
  subst r
  exact AZ (xr (Ax [(4,(i64 (-1)))] U))
 ·intro b4 h0
  refine AU (hK2 _ (zr tb U U (AJ fun K7 hK7=>zr tb U U ?_)))
  obtain⟨o12,h1,h0⟩:=Sh.Bh h0
  have M12 :∀(left11:Int),o12=Sum.inr left11→∀s,Wk 0 s ⟨27,Ab [(1,(i64 left11))],[]⟩→K7 s:=by
   intro left11 hq s hw
   subst o12
   try dsimp only at h0
   refine hK7 _ (AS hw (zr tb U U ?_))
   replace h0:=Sh.AE h0
   subst r
   exact AZ (xr (Ah (L:=[(4,(i64 left11))]) ⟨.rfl,trivial⟩))
  refine Ae (A5 (σ:=Int×Int) (fun n v=>CO p0 rec_spec_nodesLeft n v.1 v.2=some o12) (fun (left9,i10)=>⟨27,Ab [(1,(i64 left9)),(2,(.ptr 0 0 0 0)),(5,(i64 i10))],[(CH p0.op p0.num p0.kids)]⟩) N (Sh.w (p1 - 1),0) h1 (AG U) (fun _ hv=>by rw[CO] at hv;cases hv) ?_)
  rintro n ⟨left9,i10⟩ h1
  try dsimp only at h1 ⊢
  rw[CO] at h1
  refine AJ fun K14 hK14=>sr U fun K15 hK15=>zm tb 3 U (zl tb U U (zq tb U (dn hK15 U ?_)))
  refine ci h1 U ?_ ?_ <;> clear h1
  ·intro b16 h1
   refine AU (hK14 _ (AJ fun K17 hK17=>Ae (sr U fun K18 hK18=>zm tb 3 U (bs h1 fun c19 gc19 h1=>zz (.Al [(i64 c19.op),(i64 c19.num),(ls AA c19.kids)] 0) (CG BW U U gc19 (Ao _) rfl) rfl (zm tb 2 U (bs h1 fun q20 gq20 h1=>zc XP (hrec_spec_nodesLeft gq20) rfl U U (zq tb U (dn hK18 U ?_))))))))
   refine zr tb U U ?_
   refine ci h1 U ?_ ?_ <;> clear h1
   ·intro b22 h1
    refine zr tb U U ?_
    replace h1:=Sh.AE h1
    subst o12
    try dsimp only[id] at h0
    replace h0:=Sh.AE h0
    subst r
    exact AZ (xr (Ax [(4,(i64 (-1)))] U))
   ·intro b22 h1
    exact AU (hK17 _ (AN U (zm tb 3 U (AB (xi (q20,Sh.w (i10+1)) h1 (AG U))))))
  ·intro b16 h1
   exact BE (M12 left9 (Sh.AE h1).symm _ (Ax _ U))

theorem LX {N:Nat} :∀(n:Nat),∀{p0:AP} {p1:Int} {r:Int},Dh N n p0 p1=some r→Aj Try.prog 68 [(.agg [(i64 p0.op),(i64 p0.num),(ls AA p0.kids)]),(i64 p1)] [] (fun v st=>v=(i64 r)∧st=[]):=by
 intro n
 induction n with
 | zero=>intro p0 p1 r h0;cases h0
 | succ n ih=>
  intro p0 p1 r h0
  rw[Dh] at h0
  exact LW (fun h=>ih h) h0
theorem Mm {N:Nat} :∀{p0:AP} {p1:Int} {r:Int},IX N p0 p1=some r→Aj Try.prog 68 [(.agg [(i64 p0.op),(i64 p0.num),(ls AA p0.kids)]),(i64 p1)] [] (fun v st=>v=(i64 r)∧st=[]):=by
 intro p0 p1 r h0
 exact LX N h0
theorem H5 {N:Nat} {p0:AP} {r:Int} (h0:FJ N p0=some r):Aj Try.prog 43 [(.agg [(i64 p0.op),(i64 p0.num),(ls AA p0.kids)])] [] (fun v st=>v=(i64 r)∧st=[]):=by
 unfold FJ at h0
 refine ai Try.func43 U U U U (sr U fun K1 hK1=>Bj (m:=0) AK U U U U U (zq tb U (dn hK1 U (sr U fun K2 hK2=>zq tb U (bs h0 fun q3 gq3 h0=>zc XP (Mm gq3) rfl U U (zq tb U (dn hK2 U (AJ fun K4 hK4=>?_))))))))
 refine zr tb U U ?_
 refine ci h0 U ?_ ?_ <;> clear h0
 ·intro b6 h0
  refine zr tb U U ?_
  replace h0:=Sh.AE h0
  subst r
  exact AZ (xr (Ax [(2,(i64 (-1)))] U))
 ·intro b6 h0
  refine AU (hK4 _ (zr tb U U ?_))
  replace h0:=Sh.AE h0
  subst r
  exact AZ (xr (Ax [(2,(i64 (Sh.w (30 - q3))))] U))
theorem Jv {N:Nat} {s0_0:(List Int)} {s0_1:Int} {s1:(List Ar)} {p1_0:(List Ac)} {p2:(List Int)} {p3:Int} {p4:Int} {r:AP×Int} (h0:F7 N s0_0 s0_1 s1 p1_0 p2 p3 p4=some r):Aj Try.prog 117 [(.ptr 0 0 0 0),(.agg [(ls AI p1_0),(ow 1 0 s1)]),(ls eI p2),(i64 p3),(i64 p4)] [(As s0_0 s0_1),(ro 0 52 5 AH s1)] (fun v st=>v=(.agg [(i64 r.1.op),(i64 r.1.num),(ls AA r.1.kids)])∧st=[(As s0_0 r.2),(ro 0 52 5 AH s1)]):=by
 unfold F7 at h0
 refine Aj.wk (r0:=(.agg [(i64 r.1.op),(i64 r.1.num),(ls AA r.1.kids)])) (st0:=[(As s0_0 r.2),(ro 0 52 5 AH s1),(CH r.1.op r.1.num r.1.kids)]) ?_ (D0 (L:=[(0,(.agg [(i64 r.1.op),(i64 r.1.num),(ls AA r.1.kids)]))]) (st':=[(As s0_0 r.2),(ro 0 52 5 AH s1)]) [0,1] U (by decide) rfl U (.raw U (.pure (AD fun _=>U) trivial)) ⟨.rfl,trivial⟩)
 refine ai Try.func117 U U U U (sr U fun K1 hK1=>Bj (m:=2) AK U U U U U (A0 (m:=3) AK Dw U U (dn hK1 U (sr U fun K2 hK2=>zm tb 5 U (bs h0 fun q3 gq3 h0=>?_)))))
 refine A4 (rowsP:=[(As s0_0 s0_1),(ro 0 52 5 AH s1)]) (rows0:=[(As s0_0 s0_1),(ro 0 52 5 AH s1)]) (rows1:=[(As s0_0 q3.2),(ro 0 52 5 AH s1)]) (rows2:=[]) (rows1':=[(As s0_0 q3.2),(ro 0 52 5 AH s1)]) (rows2':=[]) (st':=[(As s0_0 q3.2),(ro 0 52 5 AH s1),⟨0,31,2,[[(ls AI p1_0),(ow 1 0 s1)]]⟩,Bm]) (v':=(.agg [(i64 q3.1.op),(i64 q3.1.num),(ls AA q3.1.kids)])) [0,1] AK G4 (EC gq3) rfl (by decide) rfl U (.raw U U (.pure (AD fun _=>U) .nil)) rfl U (.raw U U (.pure (AD fun _=>U) .nil)) .nil U U ?_
 refine A0 (m:=4) AK Dw U U (Az AK BP U U U U U U (show 0+3≤3 by decide) rfl (dn hK2 U (AJ fun K4 hK4=>bs h0 fun o14 h1 h0=>?_)))
 have M14 :∀(f10:Int) (f11:Int) (f12:Int) (f13:(List AP)),o14=(f10,f11,f12,f13)→∀s,Wk 2 s ⟨34,Ab [(10,(.ptr 2 0 0 0)),(11,(.ptr 3 0 0 0))],[(As s0_0 f10),(ro 0 52 5 AH s1),Bm,(CH f11 f12 f13)]⟩→K4 s:=by
  intro f10 f11 f12 f13 hq s hw
  subst o14
  try dsimp only at h0
  refine hK4 _ (AS hw (sr U fun K15 hK15=>zq tb U (Az AK BP U U U U U U (show 0+3≤3 by decide) rfl (dn hK15 U ?_))))
  replace h0:=Sh.AE h0
  subst r
  exact AZ (Exists.intro _ (And.intro ((AT (L:=[(10,(.ptr 2 0 0 0))]) (st':=[(As s0_0 f10),(ro 0 52 5 AH s1),(CH f11 f12 f13)]) [0,1,2] U (by decide) rfl U (.raw U U (.pure (AD fun _=>U) (.raw U U .nil))) ⟨.rfl,trivial⟩).trans (Ah (L:=[(10,(.ptr 2 0 0 0))]) ⟨.rfl,trivial⟩)) (BD (x:=.tmp 10) (off:=0) (cs:=[(i64 f11),(i64 f12),(ls AA f13)]) (vs:=[(i64 f11),(i64 f12),(ls AA f13)]) BP U U U (show 0+3≤3 by decide) rfl _ ⟨U,U⟩)))
 refine Ae (A5 (σ:=Int×Int×Int×Int×(List AP)) (fun n v=>EU N s0_0 s1 p1_0 p2 p3 n v.1 v.2.1 v.2.2.1 v.2.2.2.1 v.2.2.2.2=some o14) (fun (budget5,f6,f7,f8,f9)=>⟨34,Ab [(0,(.ptr 0 0 0 0)),(2,(ls eI p2)),(3,(i64 p3)),(4,(i64 budget5)),(6,(.ptr 2 0 0 0)),(10,(.ptr 3 0 0 0)),(11,(.ptr 4 0 0 0))],[(As s0_0 f6),(ro 0 52 5 AH s1),⟨0,31,2,[[(ls AI p1_0),(ow 1 0 s1)]]⟩,Bm,(CH f7 f8 f9)]⟩) N (p4,q3.2,q3.1.op,q3.1.num,q3.1.kids) h1 (AG U) (fun _ hv=>by rw[EU] at hv;cases hv) ?_)
 rintro n ⟨budget5,f6,f7,f8,f9⟩ h1
 try dsimp only at h1 ⊢
 rw[EU] at h1
 refine AJ fun K16 hK16=>AJ fun K17 hK17=>bs h1 fun o19 h2 h1=>?_
 have M19 :∀(t18:Bool),o19=t18→∀s,Wk 2 s ⟨34,Ab [(0,(.ptr 0 0 0 0)),(2,(ls eI p2)),(3,(i64 p3)),(4,(i64 budget5)),(6,(.ptr 2 0 0 0)),(10,(.ptr 3 0 0 0)),(11,(.ptr 4 0 0 0)),(24,(.bool t18))],[(As s0_0 f6),(ro 0 52 5 AH s1),⟨0,31,2,[[(ls AI p1_0),(ow 1 0 s1)]]⟩,Bm,(CH f7 f8 f9)]⟩→K17 s:=by
  intro t18 hq s hw
  subst o19
  try dsimp only at h1
  refine hK17 _ (AS hw ?_)
  refine ci h1 U ?_ ?_ <;> clear h1
  ·intro b20 h1
   refine AU (hK16 _ (Ae (sr U fun K21 hK21=>zq tb U ?_)))
   refine zz (i64 (Sh.w (Int.tdiv budget5 2))) (PJ U U (by decide)) rfl ?_
   refine zq tb U (dn hK21 U (AN U (zm tb 5 U (bs h1 fun q22 gq22 h1=>?_))))
   refine A4 (rowsP:=[(As s0_0 f6),(ro 0 52 5 AH s1)]) (rows0:=[(As s0_0 f6),(ro 0 52 5 AH s1)]) (rows1:=[(As s0_0 q22.2),(ro 0 52 5 AH s1)]) (rows2:=[]) (rows1':=[(As s0_0 q22.2),(ro 0 52 5 AH s1)]) (rows2':=[]) (st':=[(As s0_0 q22.2),(ro 0 52 5 AH s1),⟨0,31,2,[[(ls AI p1_0),(ow 1 0 s1)]]⟩,Bm,(CH f7 f8 f9)]) (v':=(.agg [(i64 q22.1.op),(i64 q22.1.num),(ls AA q22.1.kids)])) [0,1] AK G4 (EC gq22) rfl (by decide) rfl U (.raw U U (.pure (AD fun _=>U) .nil)) rfl U (.raw U U (.pure (AD fun _=>U) .nil)) .nil U U ?_
   exact Az AK BP U U U U U U (show 0+3≤3 by decide) rfl (AB (xi (Sh.w (Int.tdiv budget5 2),q22.2,q22.1.op,q22.1.num,q22.1.kids) h1 (AG U)))
  ·intro b20 h1
   exact BE (M14 f6 f7 f8 f9 (Sh.AE h1).symm _ (AT (L:=[(10,(.ptr 2 0 0 0)),(11,(.ptr 3 0 0 0))]) (st':=[(As s0_0 f6),(ro 0 52 5 AH s1),Bm,(CH f7 f8 f9)]) [0,1,3,4] U (by decide) rfl U (.raw U U (.pure (AD fun _=>U) (.raw U U (.raw U U .nil)))) ⟨.rfl,.rfl,trivial⟩))
 refine AN U (zq tb U (bs h2 fun q23 gq23 h2=>zc VW (H5 gq23) rfl U U (zm tb 2 U ?_)))
 rcases Sh.An h2 with ⟨b24,h2⟩ | ⟨b24,h2⟩
 ·exact zg tb b24 U (zg tb b24 U (zt b24 U (AB (M19 (decide (2 < budget5)) (Sh.AE h2).symm _ (AG U)))))
 ·exact zs b24 U (zs b24 U (zf b24 U (AB (M19 false (Sh.AE h2).symm _ (AG U)))))
theorem PE {N:Nat} {s0_0:(List Int)} {s0_1:Int} {s1:(List Ar)} {p1_0:(List Ac)} {p2:Int} {r:AP×Int} (h0:He N s0_0 s0_1 s1 p1_0 p2=some r):Aj Try.prog 88 [(.ptr 0 0 0 0),(.agg [(ls AI p1_0),(ow 1 0 s1)]),(i64 p2)] [(As s0_0 s0_1),(ro 0 52 5 AH s1)] (fun v st=>v=(.agg [(i64 r.1.op),(i64 r.1.num),(ls AA r.1.kids)])∧st=[(As s0_0 r.2),(ro 0 52 5 AH s1)]):=by
 unfold He at h0
 refine Aj.wk (r0:=(.agg [(i64 r.1.op),(i64 r.1.num),(ls AA r.1.kids)])) (st0:=[(As s0_0 r.2),(ro 0 52 5 AH s1),(CH r.1.op r.1.num r.1.kids)]) ?_ (D0 (L:=[(0,(.agg [(i64 r.1.op),(i64 r.1.num),(ls AA r.1.kids)]))]) (st':=[(As s0_0 r.2),(ro 0 52 5 AH s1)]) [0,1] U (by decide) rfl U (.raw U (.pure (AD fun _=>U) trivial)) ⟨.rfl,trivial⟩)
 refine ai Try.func88 U U U U (sr U fun K1 hK1=>Bj (m:=2) AK U U U U U (A0 (m:=3) AK Dw U U (dn hK1 U (sr U fun K2 hK2=>zm tb 3 U (bs h0 fun c3 gc3 h0=>zz (.ptr 1 0 (Int.toNat p2) 0) (Br C3 U U U U gc3) rfl (zq tb U (zz (ls eI c3.params) (B5 La U U (By gc3) rfl) rfl (zq tb U ?_))))))))
 refine dn hK2 U (sr U fun K4 hK4=>zm tb 3 U (zz (.ptr 1 0 (Int.toNat p2) 0) (Br C3 U U U U gc3) rfl (zq tb U (zz (i64 c3.result) (B5 Fx U U (By gc3) rfl) rfl (zq tb U (dn hK4 U (sr U fun K5 hK5=>zq tb U (bs h0 fun q6 gq6 h0=>zc Xr (OR gq6) rfl U U ?_))))))))
 refine zq tb U (dn hK5 U (sr U fun K7 hK7=>bs h0 fun q8 gq8 h0=>zc (v':=(.agg [(i64 q8.op),(i64 q8.num),(ls AA q8.kids)])) Gh (Bp gq8) rfl U U (A0 (m:=4) AK Dw U U (Az AK BP U U U U U U (show 0+3≤3 by decide) rfl (dn hK7 U (sr U fun K9 hK9=>zq tb U (bs h0 fun q10 gq10 h0=>?_)))))))
 refine A4 (rowsP:=[(As s0_0 s0_1)]) (rows0:=[(As s0_0 s0_1)]) (rows1:=[(As s0_0 q10.2)]) (rows2:=[]) (rows1':=[(As s0_0 q10.2)]) (rows2':=[]) (st':=[(As s0_0 q10.2),(ro 0 52 5 AH s1),⟨0,31,2,[[(ls AI p1_0),(ow 1 0 s1)]]⟩,Bm,(CH q8.op q8.num q8.kids)]) (v':=(i64 q10.1)) [0] AK Ef (Aw gq10) rfl (by decide) rfl U (.raw U U .nil) rfl U (.raw U U .nil) .nil U U ?_
 refine zq tb U (dn hK9 U (AJ fun K11 hK11=>bs h0 fun o16 h1 h0=>?_))
 have M16 :∀(f12:Int) (f13:Int) (f14:Int) (f15:(List AP)),o16=(f12,f13,f14,f15)→∀s,Wk 2 s ⟨121,Ab [(0,(.ptr 0 0 0 0)),(4,(.ptr 2 0 0 0)),(6,(.ptr 3 0 0 0)),(7,(ls eI c3.params)),(8,(i64 c3.result)),(10,(.ptr 4 0 0 0))],[(As s0_0 f12),(ro 0 52 5 AH s1),⟨0,31,2,[[(ls AI p1_0),(ow 1 0 s1)]]⟩,Bm,(CH f13 f14 f15)]⟩→K11 s:=by
  intro f12 f13 f14 f15 hq s hw
  subst o16
  try dsimp only at h0
  refine hK11 _ (AS hw (AJ fun K17 hK17=>sr U fun K18 hK18=>zq tb U (bs h0 fun q19 gq19 h0=>zc VW (H5 gq19) rfl U U (zq tb U (dn hK18 U ?_)))))
  refine ci h0 U ?_ ?_ <;> clear h0
  ·intro b20 h0
   refine sr U fun K21 hK21=>zm tb 4 U (bs h0 fun q22 gq22 h0=>?_)
   refine A4 (rowsP:=[(As s0_0 f12),(ro 0 52 5 AH s1)]) (rows0:=[(As s0_0 f12),(ro 0 52 5 AH s1)]) (rows1:=[(As s0_0 q22.2),(ro 0 52 5 AH s1)]) (rows2:=[]) (rows1':=[(As s0_0 q22.2),(ro 0 52 5 AH s1)]) (rows2':=[]) (st':=[(As s0_0 q22.2),(ro 0 52 5 AH s1),⟨0,31,2,[[(ls AI p1_0),(ow 1 0 s1)]]⟩,Bm,(CH f13 f14 f15)]) (v':=(.agg [(i64 q22.1.op),(i64 q22.1.num),(ls AA q22.1.kids)])) [0,1] AK V2 (Jv gq22) rfl (by decide) rfl U (.raw U U (.pure (AD fun _=>U) .nil)) rfl U (.raw U U (.pure (AD fun _=>U) .nil)) .nil U U ?_
   refine Az AK BP U U U U U U (show 0+3≤3 by decide) rfl (dn hK21 U ?_)
   replace h0:=Sh.AE h0
   subst r
   exact AZ (Exists.intro _ (And.intro ((AT (L:=[(6,(.ptr 2 0 0 0))]) (st':=[(As s0_0 q22.2),(ro 0 52 5 AH s1),(CH q22.1.op q22.1.num q22.1.kids)]) [0,1,3] U (by decide) rfl U (.raw U U (.pure (AD fun _=>U) (.raw U U .nil))) ⟨.rfl,trivial⟩).trans (Ah (L:=[(6,(.ptr 2 0 0 0))]) ⟨.rfl,trivial⟩)) (BD (x:=.tmp 6) (off:=0) (cs:=[(i64 q22.1.op),(i64 q22.1.num),(ls AA q22.1.kids)]) (vs:=[(i64 q22.1.op),(i64 q22.1.num),(ls AA q22.1.kids)]) BP U U U (show 0+3≤3 by decide) rfl _ ⟨U,U⟩)))
  ·intro b20 h0
   refine AU (hK17 _ (sr U fun K23 hK23=>zq tb U (Az AK BP U U U U U U (show 0+3≤3 by decide) rfl (dn hK23 U ?_))))
   replace h0:=Sh.AE h0
   subst r
   exact AZ (Exists.intro _ (And.intro ((AT (L:=[(6,(.ptr 2 0 0 0))]) (st':=[(As s0_0 f12),(ro 0 52 5 AH s1),(CH f13 f14 f15)]) [0,1,3] U (by decide) rfl U (.raw U U (.pure (AD fun _=>U) (.raw U U .nil))) ⟨.rfl,trivial⟩).trans (Ah (L:=[(6,(.ptr 2 0 0 0))]) ⟨.rfl,trivial⟩)) (BD (x:=.tmp 6) (off:=0) (cs:=[(i64 f13),(i64 f14),(ls AA f15)]) (vs:=[(i64 f13),(i64 f14),(ls AA f15)]) BP U U U (show 0+3≤3 by decide) rfl _ ⟨U,U⟩)))
 refine AJ fun K24 hK24=>bs h1 fun o26 h2 h1=>?_
 have M26 :∀(t25:Bool),o26=t25→∀s,Wk 2 s ⟨121,Ab [(0,(.ptr 0 0 0 0)),(2,(i64 p2)),(4,(.ptr 2 0 0 0)),(6,(.ptr 3 0 0 0)),(7,(ls eI c3.params)),(8,(i64 c3.result)),(9,(i64 q6)),(10,(.ptr 4 0 0 0)),(11,(i64 q10.1)),(34,(.bool t25))],[(As s0_0 q10.2),(ro 0 52 5 AH s1),⟨0,31,2,[[(ls AI p1_0),(ow 1 0 s1)]]⟩,Bm,(CH q8.op q8.num q8.kids)]⟩→K24 s:=by
  intro t25 hq s hw
  subst o26
  try dsimp only at h1
  refine hK24 _ (AS hw ?_)
  refine ci h1 U ?_ ?_ <;> clear h1
  ·intro b27 h1
   refine AN U (zm tb 2 U (bs h1 fun q28 gq28 h1=>?_))
   refine A4 (rowsP:=[(As s0_0 q10.2),(ro 0 52 5 AH s1)]) (rows0:=[(As s0_0 q10.2),(ro 0 52 5 AH s1)]) (rows1:=[(As s0_0 q28.2),(ro 0 52 5 AH s1)]) (rows2:=[]) (rows1':=[(As s0_0 q28.2),(ro 0 52 5 AH s1)]) (rows2':=[]) (st':=[(As s0_0 q28.2),(ro 0 52 5 AH s1),⟨0,31,2,[[(ls AI p1_0),(ow 1 0 s1)]]⟩,Bm,(CH q8.op q8.num q8.kids)]) (v':=(.agg [(i64 q28.1.op),(i64 q28.1.num),(ls AA q28.1.kids)])) [0,1] AK X2 (Mt gq28) rfl (by decide) rfl U (.raw U U (.pure (AD fun _=>U) .nil)) rfl U (.raw U U (.pure (AD fun _=>U) .nil)) .nil U U ?_
   exact Az AK BP U U U U U U (show 0+3≤3 by decide) rfl (AB (M16 q28.2 q28.1.op q28.1.num q28.1.kids (Sh.AE h1).symm _ (AG U)))
  ·intro b27 h1
   refine AJ fun K29 hK29=>bs h1 fun o31 h2 h1=>?_
   have M31 :∀(t30:Bool),o31=t30→∀s,Wk 2 s ⟨121,Ab [(0,(.ptr 0 0 0 0)),(2,(i64 p2)),(4,(.ptr 2 0 0 0)),(6,(.ptr 3 0 0 0)),(7,(ls eI c3.params)),(8,(i64 c3.result)),(9,(i64 q6)),(10,(.ptr 4 0 0 0)),(11,(i64 q10.1)),(51,(.bool t30))],[(As s0_0 q10.2),(ro 0 52 5 AH s1),⟨0,31,2,[[(ls AI p1_0),(ow 1 0 s1)]]⟩,Bm,(CH q8.op q8.num q8.kids)]⟩→K29 s:=by
    intro t30 hq s hw
    subst o31
    try dsimp only at h1
    refine hK29 _ (AS hw ?_)
    refine ci h1 U ?_ ?_ <;> clear h1
    ·intro b32 h1
     refine AN U (zm tb 4 U (bs h1 fun q33 gq33 h1=>?_))
     refine A4 (rowsP:=[(As s0_0 q10.2),(ro 0 52 5 AH s1)]) (rows0:=[(As s0_0 q10.2),(ro 0 52 5 AH s1)]) (rows1:=[(As s0_0 q33.2),(ro 0 52 5 AH s1)]) (rows2:=[]) (rows1':=[(As s0_0 q33.2),(ro 0 52 5 AH s1)]) (rows2':=[]) (st':=[(As s0_0 q33.2),(ro 0 52 5 AH s1),⟨0,31,2,[[(ls AI p1_0),(ow 1 0 s1)]]⟩,Bm,(CH q8.op q8.num q8.kids)]) (v':=(.agg [(i64 q33.1.op),(i64 q33.1.num),(ls AA q33.1.kids)])) [0,1] AK X1 (Nf gq33) rfl (by decide) rfl U (.raw U U (.pure (AD fun _=>U) .nil)) rfl U (.raw U U (.pure (AD fun _=>U) .nil)) .nil U U ?_
     exact Az AK BP U U U U U U (show 0+3≤3 by decide) rfl (AB (M16 q33.2 q33.1.op q33.1.num q33.1.kids (Sh.AE h1).symm _ (AG U)))
    ·intro b32 h1
     refine AJ fun K34 hK34=>bs h1 fun o36 h2 h1=>?_
     have M36 :∀(t35:Bool),o36=t35→∀s,Wk 2 s ⟨121,Ab [(0,(.ptr 0 0 0 0)),(2,(i64 p2)),(4,(.ptr 2 0 0 0)),(6,(.ptr 3 0 0 0)),(7,(ls eI c3.params)),(8,(i64 c3.result)),(10,(.ptr 4 0 0 0)),(11,(i64 q10.1)),(77,(.bool t35))],[(As s0_0 q10.2),(ro 0 52 5 AH s1),⟨0,31,2,[[(ls AI p1_0),(ow 1 0 s1)]]⟩,Bm,(CH q8.op q8.num q8.kids)]⟩→K34 s:=by
      intro t35 hq s hw
      subst o36
      try dsimp only at h1
      refine hK34 _ (AS hw ?_)
      refine ci h1 U ?_ ?_ <;> clear h1
      ·intro b37 h1
       refine AN U (zm tb 3 U (bs h1 fun q38 gq38 h1=>?_))
       refine A4 (rowsP:=[(As s0_0 q10.2),(ro 0 52 5 AH s1)]) (rows0:=[(As s0_0 q10.2),(ro 0 52 5 AH s1)]) (rows1:=[(As s0_0 q38.2),(ro 0 52 5 AH s1)]) (rows2:=[]) (rows1':=[(As s0_0 q38.2),(ro 0 52 5 AH s1)]) (rows2':=[]) (st':=[(As s0_0 q38.2),(ro 0 52 5 AH s1),⟨0,31,2,[[(ls AI p1_0),(ow 1 0 s1)]]⟩,Bm,(CH q8.op q8.num q8.kids)]) (v':=(.agg [(i64 q38.1.op),(i64 q38.1.num),(ls AA q38.1.kids)])) [0,1] AK Xz (Nv gq38) rfl (by decide) rfl U (.raw U U (.pure (AD fun _=>U) .nil)) rfl U (.raw U U (.pure (AD fun _=>U) .nil)) .nil U U ?_
       exact Az AK BP U U U U U U (show 0+3≤3 by decide) rfl (AB (M16 q38.2 q38.1.op q38.1.num q38.1.kids (Sh.AE h1).symm _ (AG U)))
      ·intro b37 h1
       refine AJ fun K39 hK39=>bs h1 fun o41 h2 h1=>?_
       have M41 :∀(t40:Bool),o41=t40→∀s,Wk 2 s ⟨121,Ab [(0,(.ptr 0 0 0 0)),(2,(i64 p2)),(4,(.ptr 2 0 0 0)),(6,(.ptr 3 0 0 0)),(7,(ls eI c3.params)),(8,(i64 c3.result)),(10,(.ptr 4 0 0 0)),(102,(.bool t40))],[(As s0_0 q10.2),(ro 0 52 5 AH s1),⟨0,31,2,[[(ls AI p1_0),(ow 1 0 s1)]]⟩,Bm,(CH q8.op q8.num q8.kids)]⟩→K39 s:=by
        intro t40 hq s hw
        subst o41
        try dsimp only at h1
        refine hK39 _ (AS hw ?_)
        refine ci h1 U ?_ ?_ <;> clear h1
        ·intro b42 h1
         refine AN U (zm tb 3 U (bs h1 fun q43 gq43 h1=>?_))
         refine A4 (rowsP:=[(As s0_0 q10.2),(ro 0 52 5 AH s1)]) (rows0:=[(As s0_0 q10.2),(ro 0 52 5 AH s1)]) (rows1:=[(As s0_0 q43.2),(ro 0 52 5 AH s1)]) (rows2:=[]) (rows1':=[(As s0_0 q43.2),(ro 0 52 5 AH s1)]) (rows2':=[]) (st':=[(As s0_0 q43.2),(ro 0 52 5 AH s1),⟨0,31,2,[[(ls AI p1_0),(ow 1 0 s1)]]⟩,Bm,(CH q8.op q8.num q8.kids)]) (v':=(.agg [(i64 q43.1.op),(i64 q43.1.num),(ls AA q43.1.kids)])) [0,1] AK X5 (Mw gq43) rfl (by decide) rfl U (.raw U U (.pure (AD fun _=>U) .nil)) rfl U (.raw U U (.pure (AD fun _=>U) .nil)) .nil U U ?_
         exact Az AK BP U U U U U U (show 0+3≤3 by decide) rfl (AB (M16 q43.2 q43.1.op q43.1.num q43.1.kids (Sh.AE h1).symm _ (AG U)))
        ·intro b42 h1
         refine AN U (zm tb 4 U (bs h1 fun q44 gq44 h1=>?_))
         refine A4 (rowsP:=[(As s0_0 q10.2),(ro 0 52 5 AH s1)]) (rows0:=[(As s0_0 q10.2),(ro 0 52 5 AH s1)]) (rows1:=[(As s0_0 q44.2),(ro 0 52 5 AH s1)]) (rows2:=[]) (rows1':=[(As s0_0 q44.2),(ro 0 52 5 AH s1)]) (rows2':=[]) (st':=[(As s0_0 q44.2),(ro 0 52 5 AH s1),⟨0,31,2,[[(ls AI p1_0),(ow 1 0 s1)]]⟩,Bm,(CH q8.op q8.num q8.kids)]) (v':=(.agg [(i64 q44.1.op),(i64 q44.1.num),(ls AA q44.1.kids)])) [0,1] AK V2 (Jv gq44) rfl (by decide) rfl U (.raw U U (.pure (AD fun _=>U) .nil)) rfl U (.raw U U (.pure (AD fun _=>U) .nil)) .nil U U ?_
         exact Az AK BP U U U U U U (show 0+3≤3 by decide) rfl (AB (M16 q44.2 q44.1.op q44.1.num q44.1.kids (Sh.AE h1).symm _ (AG U)))
       refine AN U (zm tb 3 U ?_)
       rcases Sh.An h2 with ⟨b45,h2⟩ | ⟨b45,h2⟩
       ·refine zg tb b45 U (B3 (v:=(i64 (Sh.len c3.params))) (B0 U U b45) rfl (B9 Ek U) (zg tb b45 U (zt b45 U (zq tb U ?_))))
        rcases Sh.An h2 with ⟨b46,h2⟩ | ⟨b46,h2⟩
        ·refine zg tb b46 U (bs h2 fun c47 gc47 h2=>B3 (v:=(.Al (eI c47) 0)) (B0 U U b46) rfl (CV BF U U gc47 U) (zg tb b46 U (zg tb b46 U (zt b46 U (zq tb U ?_)))))
         rcases Sh.An h2 with ⟨b48,h2⟩ | ⟨b48,h2⟩
         ·refine zg tb b48 U (zg tb b48 U (zg tb b48 U ?_))
          rcases Sh.An h2 with ⟨b49,h2⟩ | ⟨b49,h2⟩
          ·exact zs b49 U (zs b49 U (B3 (v:=(.bool true)) (B0 U U b48) rfl (Hm U b49 U) (zt b48 U (AB (M41 true (Sh.AE h2).symm _ (AG U))))))
          ·exact zg tb b49 U (zg tb b49 U (B3 (v:=(.bool (decide (c3.result=1)))) (B0 U U b48) rfl (IC U b49 U) (zt b48 U (AB (M41 (decide (c3.result=1)) (Sh.AE h2).symm _ (AG U))))))
         ·refine zs b48 U (zs b48 U (zs b48 U ?_))
          iterate 2 refine zn rfl ?_
          exact zs b48 U (zf b48 U (AB (M41 false (Sh.AE h2).symm _ (AG U))))
        ·refine zs b46 U ?_
         iterate 3 refine zs b46 rfl ?_
         refine zf b46 U (zq tb U ?_)
         iterate 3 refine zs rfl rfl ?_
         iterate 2 refine zn rfl ?_
         exact zs U U (zf U U (AB (M41 false (Sh.AE h2).symm _ (AG U))))
       ·refine zs b45 U (zs b45 U (zs b45 U (zf b45 U (zq tb U ?_))))
        iterate 4 refine zs rfl rfl ?_
        refine zf U U (zq tb U ?_)
        iterate 3 refine zs rfl rfl ?_
        iterate 2 refine zn rfl ?_
        exact zs U U (zf U U (AB (M41 false (Sh.AE h2).symm _ (AG U))))
     refine AN U (zm tb 3 U ?_)
     rcases Sh.An h2 with ⟨b50,h2⟩ | ⟨b50,h2⟩
     ·refine zg tb b50 U (B3 (v:=(i64 (Sh.len c3.params))) (B0 U U b50) rfl (B9 Ek U) (zg tb b50 U (zt b50 U (zq tb U ?_))))
      rcases Sh.An h2 with ⟨b51,h2⟩ | ⟨b51,h2⟩
      ·refine zg tb b51 U (bs h2 fun c52 gc52 h2=>B3 (v:=(.Al (eI c52) 0)) (B0 U U b51) rfl (CV BF U U gc52 U) (zg tb b51 U (zg tb b51 U (zt b51 U (zq tb U ?_)))))
       rcases Sh.An h2 with ⟨b53,h2⟩ | ⟨b53,h2⟩
       ·refine zg tb b53 U (zg tb b53 U (zg tb b53 U ?_))
        rcases Sh.An h2 with ⟨b54,h2⟩ | ⟨b54,h2⟩
        ·exact zs b54 U (zs b54 U (B3 (v:=(.bool true)) (B0 U U b53) rfl (Hm U b54 U) (zt b53 U (AB (M36 true (Sh.AE h2).symm _ (AG U))))))
        ·exact zg tb b54 U (zg tb b54 U (B3 (v:=(.bool (decide (c3.result=3)))) (B0 U U b53) rfl (IC U b54 U) (zt b53 U (AB (M36 (decide (c3.result=3)) (Sh.AE h2).symm _ (AG U))))))
       ·refine zs b53 U (zs b53 U (zs b53 U ?_))
        iterate 2 refine zn rfl ?_
        exact zs b53 U (zf b53 U (AB (M36 false (Sh.AE h2).symm _ (AG U))))
      ·refine zs b51 U ?_
       iterate 3 refine zs b51 rfl ?_
       refine zf b51 U (zq tb U ?_)
       iterate 3 refine zs rfl rfl ?_
       iterate 2 refine zn rfl ?_
       exact zs U U (zf U U (AB (M36 false (Sh.AE h2).symm _ (AG U))))
     ·refine zs b50 U (zs b50 U (zs b50 U (zf b50 U (zq tb U ?_))))
      iterate 4 refine zs rfl rfl ?_
      refine zf U U (zq tb U ?_)
      iterate 3 refine zs rfl rfl ?_
      iterate 2 refine zn rfl ?_
      exact zs U U (zf U U (AB (M36 false (Sh.AE h2).symm _ (AG U))))
   refine AN U (zm tb 3 U ?_)
   rcases Sh.An h2 with ⟨b55,h2⟩ | ⟨b55,h2⟩
   ·refine zg tb b55 U (zg tb b55 U (zt b55 U (zq tb U ?_)))
    rcases Sh.An h2 with ⟨b56,h2⟩ | ⟨b56,h2⟩
    ·refine zg tb b56 U (zg tb b56 U (zg tb b56 U ?_))
     rcases Sh.An h2 with ⟨b57,h2⟩ | ⟨b57,h2⟩
     ·exact zs b57 U (zs b57 U (B3 (v:=(.bool true)) (B0 U U b56) rfl (Hm U b57 U) (zt b56 U (AB (M31 true (Sh.AE h2).symm _ (AG U))))))
     ·exact zg tb b57 U (zg tb b57 U (B3 (v:=(.bool (decide (c3.result=1)))) (B0 U U b56) rfl (IC U b57 U) (zt b56 U (AB (M31 (decide (c3.result=1)) (Sh.AE h2).symm _ (AG U))))))
    ·refine zs b56 U (zs b56 U (zs b56 U ?_))
     iterate 2 refine zn rfl ?_
     exact zs b56 U (zf b56 U (AB (M31 false (Sh.AE h2).symm _ (AG U))))
   ·refine zs b55 U (zs b55 U (zf b55 U (zq tb U ?_)))
    iterate 3 refine zs rfl rfl ?_
    iterate 2 refine zn rfl ?_
    exact zs U U (zf U U (AB (M31 false (Sh.AE h2).symm _ (AG U))))
 refine AN U (zm tb 3 U ?_)
 rcases Sh.An h2 with ⟨b58,h2⟩ | ⟨b58,h2⟩
 ·exact zg tb b58 U (zg tb b58 U (zt b58 U (AB (M26 (decide (p2=0)) (Sh.AE h2).symm _ (AG U)))))
 ·exact zs b58 U (zs b58 U (zf b58 U (AB (M26 false (Sh.AE h2).symm _ (AG U)))))
end Go.Proofs.Ytpahalfiiahddaa

