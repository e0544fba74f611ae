import Derived.Test.YtpahalfiiahddaaProg
import Derived.Test.YtpahalfiiahddaaGAbsXToSSDefs
import Derived.Test.YtpahalfiiahddaaGHADefsToFIDefs
import Derived.Test.YtpahalfiiahddaaFIWalkP0
namespace Go.Proofs.Ytpahalfiiahddaa
open Go Go.Abs RC
attribute [local irreducible] Go.Abs.Cw
set_option maxRecDepth 100000
set_option maxHeartbeats 4000000

noncomputable abbrev A8 (z0:List Int) (z1:Int):Go.Abs.Row:=⟨0,88,2,[[(ls Dk z0),(i64 z1)]]⟩
noncomputable abbrev DJ (z0:Int) (z1:Int) (z2:List AP):Go.Abs.Row:=⟨0,50,3,[[(i64 z0),(i64 z1),(ls AD z2)]]⟩
noncomputable abbrev B5:Go.Abs.Row:=⟨0,50,3,[[(i64 0),(i64 0),.zc]]⟩
theorem Ka:Hf Try.prog 31 1=some 1:=by kernel_rfl
theorem Px:Hf Try.prog 52 0=some 0:=by kernel_rfl
theorem Nm:Hf Try.prog 52 1=some 1:=by kernel_rfl
theorem YH:Aq Try.prog 112=true:=by kernel_rfl
theorem Y0:Aq Try.prog 113=true:=by kernel_rfl
theorem Yh:Aq Try.prog 114=true:=by kernel_rfl
theorem Yw:Aq Try.prog 115=true:=by kernel_rfl
theorem YZ:Aq Try.prog 116=true:=by kernel_rfl
theorem Vt:Aq Try.prog 117=true:=by kernel_rfl
theorem Yf:Aq Try.prog 126=true:=by kernel_rfl
theorem YW:Aq Try.prog 129=true:=by kernel_rfl
theorem Yq:Aq Try.prog 131=true:=by kernel_rfl
theorem Yr:Aq Try.prog 132=true:=by kernel_rfl
theorem Ym:Aq Try.prog 133=true:=by kernel_rfl
theorem V5:Aq Try.prog 43=true:=by kernel_rfl
theorem X6:Aq Try.prog 68=true:=by kernel_rfl
theorem Mn:EN Try.prog 29=some (false,1):=by kernel_rfl

theorem Q8 {N:Nat} {rec_spec_gen:(List Int)→Int→(List Ar)→(List Ac)→(List Int)→Int→Int→Option (AP×Int)} (hrec_spec_gen :∀{s0_0:(List Int)} {s0_1:Int} {s1:(List Ar)} {p1_0:(List Ac)} {p2:(List Int)} {p3:Int} {p4:Int} {r:AP×Int},rec_spec_gen s0_0 s0_1 s1 p1_0 p2 p3 p4=some r→Ai Try.prog 125 [(.ptr 0 0 0 0),(.agg [(ls AI p1_0),(ow 1 0 s1)]),(ls eI p2),(i64 p3),(i64 p4)] [(A8 s0_0 s0_1),(ro 0 52 5 AJ s1)] (fun v st=>v=(.agg [(i64 r.1.op),(i64 r.1.num),(ls AD r.1.kids)])∧st=[(A8 s0_0 r.2),(ro 0 52 5 AJ s1)])) {s0_0:(List Int)} {s0_1:Int} {s1:(List Ar)} {p1_0:(List Ac)} {p2:(List Int)} {p3:Int} {p4:Int} {r:AP×Int} (h0:Ii N rec_spec_gen s0_0 s0_1 s1 p1_0 p2 p3 p4=some r):Ai Try.prog 125 [(.ptr 0 0 0 0),(.agg [(ls AI p1_0),(ow 1 0 s1)]),(ls eI p2),(i64 p3),(i64 p4)] [(A8 s0_0 s0_1),(ro 0 52 5 AJ s1)] (fun v st=>v=(.agg [(i64 r.1.op),(i64 r.1.num),(ls AD r.1.kids)])∧st=[(A8 s0_0 r.2),(ro 0 52 5 AJ s1)]):=by
 unfold Ii at h0
 refine Ai.wk (r0:=(.agg [(i64 r.1.op),(i64 r.1.num),(ls AD r.1.kids)])) (st0:=[(A8 s0_0 r.2),(ro 0 52 5 AJ s1),(DJ r.1.op r.1.num r.1.kids)]) ?_ (EG (L:=[(0,(.agg [(i64 r.1.op),(i64 r.1.num),(ls AD r.1.kids)]))]) (st':=[(A8 s0_0 r.2),(ro 0 52 5 AJ s1)]) [0,1] U (by decide) rfl U (.raw U (.pure (AB fun _=>U) trivial)) (.same U))
 refine ai Try.func125 U U U U (sr U fun K1 hK1=>Bl (m:=2) AM U U U U U (A1 (m:=3) AM EI U U (dn hK1 U (AH fun K2 hK2=>zr tb U U ?_))))
 refine ci h0 U ?_ ?_ <;> clear h0
 ·intro b4 h0
  refine sr U fun K5 hK5=>zm tb 4 U (bs h0 fun q6 gq6 h0=>?_)
  refine Bc (rows0:=[(A8 s0_0 s0_1),(ro 0 52 5 AJ s1)]) (rows1:=[(A8 s0_0 q6.2),(ro 0 52 5 AJ s1)]) (st':=[(A8 s0_0 q6.2),(ro 0 52 5 AJ s1),⟨0,31,2,[[(ls AI p1_0),(ow 1 0 s1)]]⟩,B5]) (v':=(.agg [(i64 q6.1.op),(i64 q6.1.num),(ls AD q6.1.kids)])) [0,1] AM Ol (GV gq6) rfl (by decide) rfl U (.raw U U (.pure (AB fun _=>U) .nil)) rfl U (.raw U U (.pure (AB fun _=>U) .nil)) .nil U U ?_
  refine Az AM BN U U U U U U (show 0+3≤3 by decide) rfl (dn hK5 U ?_)
  replace h0:=Sh.AE h0
  subst r
  exact AU (Exists.intro _ (And.intro ((AS (L:=[(10,(.ptr 2 0 0 0))]) (st':=[(A8 s0_0 q6.2),(ro 0 52 5 AJ s1),(DJ q6.1.op q6.1.num q6.1.kids)]) [0,1,3] U (by decide) rfl U (.raw U U (.pure (AB fun _=>U) (.raw U U .nil))) (.same U)).trans (Ah (L:=[(10,(.ptr 2 0 0 0))]) (.same U))) (A9 (x:=.tmp 10) (off:=0) (cs:=[(i64 q6.1.op),(i64 q6.1.num),(ls AD q6.1.kids)]) (vs:=[(i64 q6.1.op),(i64 q6.1.num),(ls AD q6.1.kids)]) BN U U U (show 0+3≤3 by decide) rfl _ ⟨U,U⟩)))
 ·intro b4 h0
  refine AR (hK2 _ (AH fun K7 hK7=>?_))
  obtain⟨o9,h1,h0⟩:=Sh.BZ h0
  have M9 :∀(f8:Int),o9=Sum.inr f8→∀s,Wk 2 s ⟨114,Aa [(0,(.ptr 0 0 0 0)),(2,(ls eI p2)),(3,(i64 p3)),(4,(i64 p4)),(6,(.ptr 2 0 0 0)),(10,(.ptr 3 0 0 0))],[(A8 s0_0 f8),(ro 0 52 5 AJ s1),⟨0,31,2,[[(ls AI p1_0),(ow 1 0 s1)]]⟩,B5]⟩→K7 s:=by
   intro f8 hq s hw
   subst o9
   try dsimp only at h0
   refine hK7 _ (AN hw (sr U fun K10 hK10=>zm tb 5 U (bs h0 fun q11 gq11 h0=>?_)))
   refine Bc (rows0:=[(A8 s0_0 f8),(ro 0 52 5 AJ s1)]) (rows1:=[(A8 s0_0 q11.2),(ro 0 52 5 AJ s1)]) (st':=[(A8 s0_0 q11.2),(ro 0 52 5 AJ s1),⟨0,31,2,[[(ls AI p1_0),(ow 1 0 s1)]]⟩,B5]) (v':=(.agg [(i64 q11.1.op),(i64 q11.1.num),(ls AD q11.1.kids)])) [0,1] AM Ym (OE hrec_spec_gen gq11) rfl (by decide) rfl U (.raw U U (.pure (AB fun _=>U) .nil)) rfl U (.raw U U (.pure (AB fun _=>U) .nil)) .nil U U ?_
   refine Az AM BN U U U U U U (show 0+3≤3 by decide) rfl (dn hK10 U ?_)
   replace h0:=Sh.AE h0
   subst r
   exact AU (Exists.intro _ (And.intro ((AS (L:=[(10,(.ptr 2 0 0 0))]) (st':=[(A8 s0_0 q11.2),(ro 0 52 5 AJ s1),(DJ q11.1.op q11.1.num q11.1.kids)]) [0,1,3] U (by decide) rfl U (.raw U U (.pure (AB fun _=>U) (.raw U U .nil))) (.same U)).trans (Ah (L:=[(10,(.ptr 2 0 0 0))]) (.same U))) (A9 (x:=.tmp 10) (off:=0) (cs:=[(i64 q11.1.op),(i64 q11.1.num),(ls AD q11.1.kids)]) (vs:=[(i64 q11.1.op),(i64 q11.1.num),(ls AD q11.1.kids)]) BN U U U (show 0+3≤3 by decide) rfl _ ⟨U,U⟩)))
  refine sr U fun K12 hK12=>zq tb U (bs h1 fun q13 gq13 h1=>?_)
  refine Bc (rows0:=[(A8 s0_0 s0_1)]) (rows1:=[(A8 s0_0 q13.2)]) (st':=[(A8 s0_0 q13.2),(ro 0 52 5 AJ s1),⟨0,31,2,[[(ls AI p1_0),(ow 1 0 s1)]]⟩,B5]) (v':=(i64 q13.1)) [0] AM Ez (Av gq13) rfl (by decide) rfl U (.raw U U .nil) rfl U (.raw U U .nil) .nil U U ?_
  refine dn hK12 U (Ab (zr tb U U ?_))
  refine ci h1 U ?_ ?_ <;> clear h1
  ·intro b15 h1
   refine sr U fun K16 hK16=>zm tb 4 U (bs h1 fun q17 gq17 h1=>?_)
   refine Bc (rows0:=[(A8 s0_0 q13.2),(ro 0 52 5 AJ s1)]) (rows1:=[(A8 s0_0 q17.2),(ro 0 52 5 AJ s1)]) (st':=[(A8 s0_0 q17.2),(ro 0 52 5 AJ s1),⟨0,31,2,[[(ls AI p1_0),(ow 1 0 s1)]]⟩,B5]) (v':=(.agg [(i64 q17.1.op),(i64 q17.1.num),(ls AD q17.1.kids)])) [0,1] AM Ol (GV gq17) rfl (by decide) rfl U (.raw U U (.pure (AB fun _=>U) .nil)) rfl U (.raw U U (.pure (AB fun _=>U) .nil)) .nil U U ?_
   refine Az AM BN U U U U U U (show 0+3≤3 by decide) rfl (dn hK16 U ?_)
   replace h1:=Sh.AE h1
   subst o9
   try dsimp only[id] at h0
   replace h0:=Sh.AE h0
   subst r
   exact AU (Exists.intro _ (And.intro ((AS (L:=[(10,(.ptr 2 0 0 0))]) (st':=[(A8 s0_0 q17.2),(ro 0 52 5 AJ s1),(DJ q17.1.op q17.1.num q17.1.kids)]) [0,1,3] U (by decide) rfl U (.raw U U (.pure (AB fun _=>U) (.raw U U .nil))) (.same U)).trans (Ah (L:=[(10,(.ptr 2 0 0 0))]) (.same U))) (A9 (x:=.tmp 10) (off:=0) (cs:=[(i64 q17.1.op),(i64 q17.1.num),(ls AD q17.1.kids)]) (vs:=[(i64 q17.1.op),(i64 q17.1.num),(ls AD q17.1.kids)]) BN U U U (show 0+3≤3 by decide) rfl _ ⟨U,U⟩)))
  ·intro b15 h1
   refine AH fun K18 hK18=>bs h1 fun o20 h2 h1=>?_
   have M20 :∀(t19:Bool),o20=t19→∀s,Wk 2 s ⟨114,Aa [(0,(.ptr 0 0 0 0)),(2,(ls eI p2)),(3,(i64 p3)),(4,(i64 p4)),(6,(.ptr 2 0 0 0)),(10,(.ptr 3 0 0 0)),(22,(i64 q13.1)),(30,(.bool t19))],[(A8 s0_0 q13.2),(ro 0 52 5 AJ s1),⟨0,31,2,[[(ls AI p1_0),(ow 1 0 s1)]]⟩,B5]⟩→K18 s:=by
    intro t19 hq s hw
    subst o20
    try dsimp only at h1
    refine hK18 _ (AN hw ?_)
    refine ci h1 U ?_ ?_ <;> clear h1
    ·intro b21 h1
     refine sr U fun K22 hK22=>zm tb 3 U (bs h1 fun q23 gq23 h1=>?_)
     refine Bc (rows0:=[(A8 s0_0 q13.2),(ro 0 52 5 AJ s1)]) (rows1:=[(A8 s0_0 q23.2),(ro 0 52 5 AJ s1)]) (st':=[(A8 s0_0 q23.2),(ro 0 52 5 AJ s1),⟨0,31,2,[[(ls AI p1_0),(ow 1 0 s1)]]⟩,B5]) (v':=(i64 q23.1)) [0,1] AM YW (O3 gq23) rfl (by decide) rfl U (.raw U U (.pure (AB fun _=>U) .nil)) rfl U (.raw U U (.pure (AB fun _=>U) .nil)) .nil U U ?_
     refine zq tb U (dn hK22 U (AH fun K24 hK24=>?_))
     refine BO [(ro 0 52 5 AJ s1),⟨0,31,2,[[(ls AI p1_0),(ow 1 0 s1)]]⟩,B5] 19 (by kernel_rfl) (by kernel_rfl) (by kernel_rfl) (by rfl) ?_
     refine BD (.ptr 0 0 0 0) AM U (fun _ _=>BL U) (BD (.agg [(ls AI p1_0),(ow 1 0 s1)]) AM U (fun _ _=>A9 FA U U U (show 0+2≤2 by decide) rfl) (BD (ls eI p2) AM U (fun _ _=>BL U) (BD (i64 q23.1) AM U (fun _ _=>BL U) (BD (i64 p4) AM U (fun _ _=>BL U) ?_))))
     refine BD (i64 (Sh.w (Int.tdiv p4 2))) AM U (fun _ _=>Pw U U (by decide)) ?_
     refine bs h1 fun q25 gq25 h1=>?_
     refine E2 (rows0:=[(A8 s0_0 q23.2),(ro 0 52 5 AJ s1)]) (rows1:=[(A8 s0_0 q25.2),(ro 0 52 5 AJ s1)]) (v':=(.agg [(i64 q25.1.op),(i64 q25.1.num),(ls AD q25.1.kids)])) (y0:=(A8 s0_0 q25.2)) [0,1] AM HI (hrec_spec_gen gq25) rfl (by decide) rfl U (.raw U U (.pure (AB fun _=>U) .nil)) rfl U (fun _=>(.raw U U (.pure (AB fun _=>U) .nil))) (fun _=>U) rfl ?_
     refine BD (.ptr 0 0 0 0) AM U (fun _ _=>BL U) (BD (.agg [(ls AI p1_0),(ow 1 0 s1)]) AM U (fun _ _=>A9 FA U U U (show 0+2≤2 by decide) rfl) (BD (ls eI p2) AM U (fun _ _=>BL U) (BD (i64 q23.1) AM U (fun _ _=>BL U) ?_)))
     refine D9 AM (fun x0 zz=>E9 (l:=[q23.1]) (enc:=eI) AM A4 (by decide) rfl U U U U (AB fun _=>U) (Ax U)) ?_
     refine bs h1 fun q26 gq26 h1=>?_
     refine D9 AM (fun x0 zz=>BS (v:=(ls eI q26)) AM Nh (Ai.wk (D8 gq26) (by refine Wk.trans (Wk.A7 (L:=[(0,(ls eI q26))]) (st':=[⟨1,3,1,[]⟩]) (id:=0) rfl (show 0≤0 by decide) (AB fun _=>U) ⟨(.A7 U),trivial⟩ U) ?_;exact AS [] U (by decide) rfl U .nil (.same U))) rfl U U (Ax U)) ?_
     refine BD (i64 p3) AM U (fun _ _=>BL U) (BD (i64 p4) AM U (fun _ _=>BL U) ?_)
     refine BD (i64 (Sh.w (Int.tdiv p4 2))) AM U (fun _ _=>Pw U U (by decide)) ?_
     refine bs h1 fun q27 gq27 h1=>?_
     refine E2 (rows0:=[(A8 s0_0 q25.2),(ro 0 52 5 AJ s1)]) (rows1:=[(A8 s0_0 q27.2),(ro 0 52 5 AJ s1)]) (v':=(.agg [(i64 q27.1.op),(i64 q27.1.num),(ls AD q27.1.kids)])) (y0:=(A8 s0_0 q27.2)) [0,1] AM HI (hrec_spec_gen gq27) rfl (by decide) rfl U (.raw U U (.pure (AB fun _=>U) .nil)) rfl U (fun _=>(.raw U U (.pure (AB fun _=>U) .nil))) (fun _=>U) rfl ?_
     refine D9 AM (fun x0 zz=>E9 (l:=[q25.1,q27.1]) (enc:=AD) AM BV (by decide) rfl U U (by simp only[List.map,Ap];rfl) rfl (AB Ag) (Ax U)) ?_
     refine bs h1 fun q28 gq28 h1=>D9 AM (fun x0 zz=>BS (v:=(.agg [(i64 q28.op),(i64 q28.num),(ls AD q28.kids)])) AM DB (BH gq28) rfl U U (Ax U)) (Di U (Az AM BN U U U U U U (show 0+3≤3 by decide) rfl (dn hK24 U ?_)))
     replace h1:=Sh.AE h1
     subst o9
     try dsimp only[id] at h0
     replace h0:=Sh.AE h0
     subst r
     exact AU (Exists.intro _ (And.intro ((AS (L:=[(10,(.ptr 2 0 0 0))]) (st':=[(A8 s0_0 q27.2),(ro 0 52 5 AJ s1),(DJ q28.op q28.num q28.kids)]) [0,1,3] U (by decide) rfl U (.raw U U (.pure (AB fun _=>U) (.raw U U .nil))) (.same U)).trans (Ah (L:=[(10,(.ptr 2 0 0 0))]) (.same U))) (A9 (x:=.tmp 10) (off:=0) (cs:=[(i64 q28.op),(i64 q28.num),(ls AD q28.kids)]) (vs:=[(i64 q28.op),(i64 q28.num),(ls AD q28.kids)]) BN U U U (show 0+3≤3 by decide) rfl _ ⟨U,U⟩)))
    ·intro b21 h1
     refine zr tb U U ?_
     refine ci h1 U ?_ ?_ <;> clear h1
     ·intro b30 h1
      refine sr U fun K31 hK31=>zm tb 5 U ?_
      refine A3 (m:=4) (l:=[0,p3,p3]) (enc:=eI) AM A4 (by decide) rfl U U U U U ?_
      refine zm tb 2 U (Ad (Wk.A7 (L:=[(10,(.ptr 3 0 0 0)),(58,(.ptr 0 0 0 0)),(59,(.agg [(ls AI p1_0),(ow 1 0 s1)])),(60,(ls eI p2)),(63,(ls eI [0,p3,p3])),(65,(i64 (Sh.w (p4 - 1))))]) (st':=[(A8 s0_0 q13.2),(ro 0 52 5 AJ s1),⟨0,31,2,[[(ls AI p1_0),(ow 1 0 s1)]]⟩,B5,⟨1,3,1,[]⟩]) (id:=4) rfl (show 2≤4 by decide) (AB fun _=>U) ⟨.rfl,.rfl,(.agg ⟨.rfl,.rfl,trivial⟩),.rfl,(.A7 U),.rfl,trivial⟩ U) (bs h1 fun q32 gq32 h1=>?_))
      refine Hk (rowsP:=[(A8 s0_0 q13.2),(ro 0 52 5 AJ s1)]) (rows0:=[(A8 s0_0 q13.2),(ro 0 52 5 AJ s1)]) (rows1:=[(A8 s0_0 q32.2),(ro 0 52 5 AJ s1)]) (rows2:=[(ro 0 50 3 AD q32.1)]) (rows1':=[(A8 s0_0 q32.2),(ro 0 52 5 AJ s1)]) (rows2':=[(ro 0 50 3 AD q32.1)]) (st':=[(A8 s0_0 q32.2),(ro 0 52 5 AJ s1),⟨0,31,2,[[(ls AI p1_0),(ow 1 0 s1)]]⟩,B5,⟨1,3,1,[]⟩,(ro 0 50 3 AD q32.1)]) (v':=(ow 5 0 q32.1)) [0,1] AM RE (GG hrec_spec_gen gq32) rfl (by decide) rfl U (.raw U U (.pure (AB fun _=>U) .nil)) rfl U (.raw U U (.pure (AB fun _=>U) .nil)) (.pure (AB Ag) .nil) rfl U ?_
      refine Ad (Wk.A7 (L:=[(10,(.ptr 3 0 0 0)),(66,(ls AD q32.1))]) (st':=[(A8 s0_0 q32.2),(ro 0 52 5 AJ s1),⟨0,31,2,[[(ls AI p1_0),(ow 1 0 s1)]]⟩,B5,⟨1,3,1,[]⟩,⟨1,50,3,[]⟩]) (id:=5) rfl (show 2≤5 by decide) (AB Ag) ⟨.rfl,(.A7 U),trivial⟩ U) (bs h1 fun q33 gq33 h1=>zc (v':=(.agg [(i64 q33.op),(i64 q33.num),(ls AD q33.kids)])) DB (BH gq33) rfl U U (Az AM BN U U U U U U (show 0+3≤3 by decide) rfl (dn hK31 U ?_)))
      replace h1:=Sh.AE h1
      subst o9
      try dsimp only[id] at h0
      replace h0:=Sh.AE h0
      subst r
      exact AU (Exists.intro _ (And.intro ((AS (L:=[(10,(.ptr 2 0 0 0))]) (st':=[(A8 s0_0 q32.2),(ro 0 52 5 AJ s1),(DJ q33.op q33.num q33.kids)]) [0,1,3] U (by decide) rfl U (.raw U U (.pure (AB fun _=>U) (.raw U U .nil))) (.same U)).trans (Ah (L:=[(10,(.ptr 2 0 0 0))]) (.same U))) (A9 (x:=.tmp 10) (off:=0) (cs:=[(i64 q33.op),(i64 q33.num),(ls AD q33.kids)]) (vs:=[(i64 q33.op),(i64 q33.num),(ls AD q33.kids)]) BN U U U (show 0+3≤3 by decide) rfl _ ⟨U,U⟩)))
     ·intro b30 h1
      refine AH fun K34 hK34=>bs h1 fun o36 h2 h1=>?_
      have M36 :∀(t35:Bool),o36=t35→∀s,Wk 2 s ⟨114,Aa [(0,(.ptr 0 0 0 0)),(2,(ls eI p2)),(3,(i64 p3)),(4,(i64 p4)),(6,(.ptr 2 0 0 0)),(10,(.ptr 3 0 0 0)),(22,(i64 q13.1)),(68,(.bool t35))],[(A8 s0_0 q13.2),(ro 0 52 5 AJ s1),⟨0,31,2,[[(ls AI p1_0),(ow 1 0 s1)]]⟩,B5]⟩→K34 s:=by
       intro t35 hq s hw
       subst o36
       try dsimp only at h1
       refine hK34 _ (AN hw ?_)
       refine ci h1 U ?_ ?_ <;> clear h1
       ·intro b37 h1
        refine sr U fun K38 hK38=>zm tb 5 U (bs h1 fun q39 gq39 h1=>?_)
        refine Bc (rows0:=[(A8 s0_0 q13.2),(ro 0 52 5 AJ s1)]) (rows1:=[(A8 s0_0 q39.2),(ro 0 52 5 AJ s1)]) (st':=[(A8 s0_0 q39.2),(ro 0 52 5 AJ s1),⟨0,31,2,[[(ls AI p1_0),(ow 1 0 s1)]]⟩,B5]) (v':=(.agg [(i64 q39.1.op),(i64 q39.1.num),(ls AD q39.1.kids)])) [0,1] AM Yq (Nt hrec_spec_gen gq39) rfl (by decide) rfl U (.raw U U (.pure (AB fun _=>U) .nil)) rfl U (.raw U U (.pure (AB fun _=>U) .nil)) .nil U U ?_
        refine Az AM BN U U U U U U (show 0+3≤3 by decide) rfl (dn hK38 U ?_)
        replace h1:=Sh.AE h1
        subst o9
        try dsimp only[id] at h0
        replace h0:=Sh.AE h0
        subst r
        exact AU (Exists.intro _ (And.intro ((AS (L:=[(10,(.ptr 2 0 0 0))]) (st':=[(A8 s0_0 q39.2),(ro 0 52 5 AJ s1),(DJ q39.1.op q39.1.num q39.1.kids)]) [0,1,3] U (by decide) rfl U (.raw U U (.pure (AB fun _=>U) (.raw U U .nil))) (.same U)).trans (Ah (L:=[(10,(.ptr 2 0 0 0))]) (.same U))) (A9 (x:=.tmp 10) (off:=0) (cs:=[(i64 q39.1.op),(i64 q39.1.num),(ls AD q39.1.kids)]) (vs:=[(i64 q39.1.op),(i64 q39.1.num),(ls AD q39.1.kids)]) BN U U U (show 0+3≤3 by decide) rfl _ ⟨U,U⟩)))
       ·intro b37 h1
        refine AH fun K40 hK40=>bs h1 fun o42 h2 h1=>?_
        have M42 :∀(t41:Bool),o42=t41→∀s,Wk 2 s ⟨114,Aa [(0,(.ptr 0 0 0 0)),(2,(ls eI p2)),(3,(i64 p3)),(4,(i64 p4)),(6,(.ptr 2 0 0 0)),(10,(.ptr 3 0 0 0)),(78,(.bool t41))],[(A8 s0_0 q13.2),(ro 0 52 5 AJ s1),⟨0,31,2,[[(ls AI p1_0),(ow 1 0 s1)]]⟩,B5]⟩→K40 s:=by
         intro t41 hq s hw
         subst o42
         try dsimp only at h1
         refine hK40 _ (AN hw ?_)
         refine ci h1 U ?_ ?_ <;> clear h1
         ·intro b43 h1
          refine sr U fun K44 hK44=>zm tb 2 U (bs h1 fun q45 gq45 h1=>JC (v':=(ow 4 0 q45)) AM Yr (Ns gq45) rfl (.agg (.val U (.own U U (fun _=>U) .nil)) (.val U .nil)) rfl (Xx (fun _=>U) trivial) rfl U (zq tb U (dn hK44 U (sr U fun K46 hK46=>zq tb U (zz (i64 (Sh.len q45)) (CW Em U U U) rfl (zq tb U (dn hK46 U ?_)))))))
          refine ci h1 U ?_ ?_ <;> clear h1
          ·intro b47 h1
           refine sr U fun K48 hK48=>zm tb 3 U (zz (i64 (Sh.len q45)) (CW Em U U U) rfl (bs h1 fun q49 gq49 h1=>?_))
           refine Bc (rows0:=[(A8 s0_0 q13.2)]) (rows1:=[(A8 s0_0 q49.2)]) (st':=[(A8 s0_0 q49.2),(ro 0 52 5 AJ s1),⟨0,31,2,[[(ls AI p1_0),(ow 1 0 s1)]]⟩,B5,(ro 0 3 1 eI q45)]) (v':=(i64 q49.1)) [0] AM Ez (Av gq49) rfl (by decide) rfl U (.raw U U .nil) rfl U (.raw U U .nil) .nil U U ?_
           refine bs h1 fun c50 gc50 h1=>zz (.ptr 4 0 (Int.toNat q49.1) 0) (Bn A4 U U U U gc50) rfl (zz (i64 c50) (B1 F6 U U (Bs gc50) rfl) rfl (zq tb U (dn hK48 U (AH fun K51 hK51=>?_))))
           refine BO [(ro 0 52 5 AJ s1),⟨0,31,2,[[(ls AI p1_0),(ow 1 0 s1)]]⟩,B5,(ro 0 3 1 eI q45)] 14 (by kernel_rfl) (by kernel_rfl) (by kernel_rfl) (by rfl) ?_
           refine BD (i64 c50) AM U (fun _ _=>BL U) (BD (.ptr 0 0 0 0) AM U (fun _ _=>BL U) (BD (.agg [(ls AI p1_0),(ow 1 0 s1)]) AM U (fun _ _=>A9 FA U U U (show 0+2≤2 by decide) rfl) (BD (ls eI p2) AM U (fun _ _=>BL U) (BD (.ptr 2 0 0 1) AM U (fun _ _=>F8 Ka U U (show 0+1≤2 by decide) rfl) (BD (ow 1 0 s1) AM U (fun _ _=>B1 Mn U U U U) (BD (i64 c50) AM U (fun _ _=>BL U) (bs h1 fun c52 gc52 h1=>BD (.ptr 1 0 (Int.toNat c50) 0) AM U (fun _ _=>Bn DD U U U U gc52) (BD (.ptr 1 0 (Int.toNat c50) 0) AM U (fun _ _=>F8 Px U U (show 0+0≤5 by decide) rfl) (BD (ls eI c52.params) AM U (fun _ _=>B1 Le U U (Bs gc52) rfl) (BD (i64 p4) AM U (fun _ _=>BL U) ?_))))))))))
           refine BD (i64 (Sh.w (p4 - 1))) AM U (fun _ _=>Kl U U) (bs h1 fun q53 gq53 h1=>?_)
           refine E2 (rows0:=[(A8 s0_0 q49.2),(ro 0 52 5 AJ s1)]) (rows1:=[(A8 s0_0 q53.2),(ro 0 52 5 AJ s1)]) (v':=(ls AD q53.1)) (y0:=(A8 s0_0 q53.2)) [0,1] AM RE (Ai.wk (GG hrec_spec_gen gq53) (by refine Wk.trans (Wk.A7 (L:=[(0,(ls AD q53.1))]) (st':=[(A8 s0_0 q53.2),(ro 0 52 5 AJ s1),⟨1,50,3,[]⟩]) (id:=2) rfl (show 2≤2 by decide) (AB Ag) ⟨(.A7 U),trivial⟩ U) ?_;exact AS [0,1] U (by decide) rfl U (.raw U U (.pure (AB fun _=>U) .nil)) (.same U))) rfl (by decide) rfl U (.raw U U (.pure (AB fun _=>U) .nil)) rfl U (fun _=>(.raw U U (.pure (AB fun _=>U) .nil))) (fun _=>U) rfl ?_
           refine bs h1 fun q54 gq54 h1=>D9 AM (fun x0 zz=>BS (v:=(.agg [(i64 q54.op),(i64 q54.num),(ls AD q54.kids)])) AM DB (BH gq54) rfl U U (Ax U)) (Di U (Az AM BN U U U U U U (show 0+3≤3 by decide) rfl (dn hK51 U ?_)))
           replace h1:=Sh.AE h1
           subst o9
           try dsimp only[id] at h0
           replace h0:=Sh.AE h0
           subst r
           exact AU (Exists.intro _ (And.intro ((AS (L:=[(10,(.ptr 2 0 0 0))]) (st':=[(A8 s0_0 q53.2),(ro 0 52 5 AJ s1),(DJ q54.op q54.num q54.kids)]) [0,1,3] U (by decide) rfl U (.raw U U (.pure (AB fun _=>U) (.raw U U .nil))) (.same U)).trans (Ah (L:=[(10,(.ptr 2 0 0 0))]) (.same U))) (A9 (x:=.tmp 10) (off:=0) (cs:=[(i64 q54.op),(i64 q54.num),(ls AD q54.kids)]) (vs:=[(i64 q54.op),(i64 q54.num),(ls AD q54.kids)]) BN U U U (show 0+3≤3 by decide) rfl _ ⟨U,U⟩)))
          ·intro b47 h1
           exact AR (M9 q13.2 (Sh.AE h1).symm _ (AS [0,1,2,3] U (by decide) rfl U (.raw U U (.pure (AB fun _=>U) (.raw U U (.raw U U .nil)))) (.same U)))
         ·intro b43 h1
          exact AR (M9 q13.2 (Sh.AE h1).symm _ (AG U))
        refine zr tb U U ?_
        refine ci h2 U ?_ ?_ <;> clear h2
        ·intro b56 h2
         exact AR (M42 true (Sh.AE h2).symm _ (Ah (L:=[(0,(.ptr 0 0 0 0)),(2,(ls eI p2)),(3,(i64 p3)),(4,(i64 p4)),(6,(.ptr 2 0 0 0)),(10,(.ptr 3 0 0 0)),(78,(.bool true))]) ⟨.rfl,.rfl,.rfl,.rfl,.rfl,.rfl,(.of (congrArg AV.bool b56)),trivial⟩))
        ·intro b56 h2
         exact AL U (zm tb 2 U (AA (M42 (decide (q13.1=8)) (Sh.AE h2).symm _ (AG U))))
      refine zr tb U U ?_
      refine ci h2 U ?_ ?_ <;> clear h2
      ·intro b58 h2
       exact AR (M36 true (Sh.AE h2).symm _ (Ah (L:=[(0,(.ptr 0 0 0 0)),(2,(ls eI p2)),(3,(i64 p3)),(4,(i64 p4)),(6,(.ptr 2 0 0 0)),(10,(.ptr 3 0 0 0)),(22,(i64 q13.1)),(68,(.bool true))]) ⟨.rfl,.rfl,.rfl,.rfl,.rfl,.rfl,.rfl,(.of (congrArg AV.bool b58)),trivial⟩))
      ·intro b58 h2
       refine zr tb U U ?_
       refine ci h2 U ?_ ?_ <;> clear h2
       ·intro b60 h2
        exact AR (M36 true (Sh.AE h2).symm _ (Ah (L:=[(0,(.ptr 0 0 0 0)),(2,(ls eI p2)),(3,(i64 p3)),(4,(i64 p4)),(6,(.ptr 2 0 0 0)),(10,(.ptr 3 0 0 0)),(22,(i64 q13.1)),(68,(.bool true))]) ⟨.rfl,.rfl,.rfl,.rfl,.rfl,.rfl,.rfl,(.of (congrArg AV.bool b60)),trivial⟩))
       ·intro b60 h2
        exact AL U (zm tb 2 U (AA (M36 (decide (q13.1=6)) (Sh.AE h2).symm _ (AG U))))
   refine zr tb U U ?_
   refine ci h2 U ?_ ?_ <;> clear h2
   ·intro b62 h2
    exact AR (M20 true (Sh.AE h2).symm _ (Ah (L:=[(0,(.ptr 0 0 0 0)),(2,(ls eI p2)),(3,(i64 p3)),(4,(i64 p4)),(6,(.ptr 2 0 0 0)),(10,(.ptr 3 0 0 0)),(22,(i64 q13.1)),(30,(.bool true))]) ⟨.rfl,.rfl,.rfl,.rfl,.rfl,.rfl,.rfl,(.of (congrArg AV.bool b62)),trivial⟩))
   ·intro b62 h2
    exact AL U (zm tb 2 U (AA (M20 (decide (q13.1=2)) (Sh.AE h2).symm _ (AG U))))

theorem Qi {N:Nat} :∀(n:Nat),∀{s0_0:(List Int)} {s0_1:Int} {s1:(List Ar)} {p1_0:(List Ac)} {p2:(List Int)} {p3:Int} {p4:Int} {r:AP×Int},Gx N n s0_0 s0_1 s1 p1_0 p2 p3 p4=some r→Ai Try.prog 125 [(.ptr 0 0 0 0),(.agg [(ls AI p1_0),(ow 1 0 s1)]),(ls eI p2),(i64 p3),(i64 p4)] [(A8 s0_0 s0_1),(ro 0 52 5 AJ s1)] (fun v st=>v=(.agg [(i64 r.1.op),(i64 r.1.num),(ls AD r.1.kids)])∧st=[(A8 s0_0 r.2),(ro 0 52 5 AJ s1)]):=by
 intro n
 induction n with
 | zero=>intro s0_0 s0_1 s1 p1_0 p2 p3 p4 r h0;cases h0
 | succ n ih=>
  intro s0_0 s0_1 s1 p1_0 p2 p3 p4 r h0
  rw[Gx] at h0
  exact Q8 (fun h=>ih h) h0
theorem Ec {N:Nat} :∀{s0_0:(List Int)} {s0_1:Int} {s1:(List Ar)} {p1_0:(List Ac)} {p2:(List Int)} {p3:Int} {p4:Int} {r:AP×Int},FG N s0_0 s0_1 s1 p1_0 p2 p3 p4=some r→Ai Try.prog 125 [(.ptr 0 0 0 0),(.agg [(ls AI p1_0),(ow 1 0 s1)]),(ls eI p2),(i64 p3),(i64 p4)] [(A8 s0_0 s0_1),(ro 0 52 5 AJ s1)] (fun v st=>v=(.agg [(i64 r.1.op),(i64 r.1.num),(ls AD r.1.kids)])∧st=[(A8 s0_0 r.2),(ro 0 52 5 AJ s1)]):=by
 intro s0_0 s0_1 s1 p1_0 p2 p3 p4 r h0
 exact Qi N h0
theorem Oq {N:Nat} {s0_0:(List Int)} {s0_1:Int} {p1:Int} {r:AP×Int} (h0:HO N s0_0 s0_1 p1=some r):Ai Try.prog 126 [(.ptr 0 0 0 0),(i64 p1)] [(A8 s0_0 s0_1)] (fun v st=>v=(.agg [(i64 r.1.op),(i64 r.1.num),(ls AD r.1.kids)])∧st=[(A8 s0_0 r.2)]):=by
 unfold HO at h0
 refine Ai.wk (r0:=(.agg [(i64 r.1.op),(i64 r.1.num),(ls AD r.1.kids)])) (st0:=[(A8 s0_0 r.2),(DJ r.1.op r.1.num r.1.kids)]) ?_ (EG (L:=[(0,(.agg [(i64 r.1.op),(i64 r.1.num),(ls AD r.1.kids)]))]) (st':=[(A8 s0_0 r.2)]) [0] U (by decide) rfl U (.raw U trivial) (.same U))
 refine ai Try.func126 U U U U (sr U fun K1 hK1=>A1 (m:=1) AM EI U U (dn hK1 U (sr U fun K2 hK2=>?_)))
 refine A3 (m:=2) (l:=([]:List AP)) (enc:=AD) AM BV (by decide) rfl U (by simp only[List.map,Ap];rfl) rfl U U ?_
 refine Ad (Wk.A7 (L:=[(0,(.ptr 0 0 0 0)),(1,(i64 p1)),(4,(.ptr 1 0 0 0)),(10,(.sl (List.map AD [])))]) (st':=[(A8 s0_0 s0_1),B5,⟨1,50,3,[]⟩]) (id:=2) rfl (show 1≤2 by decide) (AB Ag) ⟨.rfl,.rfl,.rfl,(.A7 U),trivial⟩ U) (bs h0 fun q3 gq3 h0=>zc (v':=(.agg [(i64 q3.op),(i64 q3.num),(ls AD q3.kids)])) DB (BH gq3) rfl U U (A1 (m:=3) AM EI U U (Az AM BN U U U U U U (show 0+3≤3 by decide) rfl (Ad (Wk.A7 (L:=[(0,(.ptr 0 0 0 0)),(1,(i64 p1)),(4,(.ptr 1 0 0 0)),(5,(.Al [(i64 q3.op),(i64 q3.num),(ls AD q3.kids)] 0))]) (st':=[(A8 s0_0 s0_1),B5,⟨1,50,3,[]⟩,⟨1,50,3,[]⟩]) (id:=3) rfl (show 1≤3 by decide) (Cz U) (.same U) rfl) (dn hK2 U (AH fun K4 hK4=>zr tb U U ?_))))))
 refine ci h0 U ?_ ?_ <;> clear h0
 ·intro b6 h0
  refine sr U fun K7 hK7=>?_
  refine A3 (m:=4) (l:=([]:List AP)) (enc:=AD) AM BV (by decide) rfl U (by simp only[List.map,Ap];rfl) rfl U U ?_
  refine Ad (Wk.A7 (L:=[(0,(.ptr 0 0 0 0)),(4,(.ptr 1 0 0 0)),(14,(.sl (List.map AD [])))]) (st':=[(A8 s0_0 s0_1),B5,⟨1,50,3,[]⟩,⟨1,50,3,[]⟩,⟨1,50,3,[]⟩]) (id:=4) rfl (show 1≤4 by decide) (AB Ag) ⟨.rfl,.rfl,(.A7 U),trivial⟩ U) (bs h0 fun q8 gq8 h0=>zc (v':=(.agg [(i64 q8.op),(i64 q8.num),(ls AD q8.kids)])) DB (BH gq8) rfl U U (A1 (m:=5) AM EI U U (Az AM BN U U U U U U (show 0+3≤3 by decide) rfl (Ad (Wk.A7 (L:=[(0,(.ptr 0 0 0 0)),(4,(.ptr 1 0 0 0)),(6,(.Al [(i64 q8.op),(i64 q8.num),(ls AD q8.kids)] 0))]) (st':=[(A8 s0_0 s0_1),B5,⟨1,50,3,[]⟩,⟨1,50,3,[]⟩,⟨1,50,3,[]⟩,⟨1,50,3,[]⟩]) (id:=5) rfl (show 1≤5 by decide) (Cz U) (.same U) rfl) (dn hK7 U (AH fun K9 hK9=>?_))))))
  refine AN (CA (L:=[(0,(.ptr 0 0 0 0)),(4,(.ptr 1 0 0 0)),(6,(.Al [(i64 q8.op),(i64 q8.num),(ls AD q8.kids)] 0))]) (st':=[(A8 s0_0 s0_1),B5,⟨0,50,3,[]⟩,⟨0,50,3,[]⟩,⟨0,50,3,[]⟩,⟨0,50,3,[]⟩]) (.raw U U U (.raw U U U (.pure U (by intro x hx;cases hx) (.pure U (by intro x hx;cases hx) (.pure U (by intro x hx;cases hx) (.pure U (by intro x hx;cases hx) .nil)))))) (.same U)) ?_
  refine BO [B5,⟨0,50,3,[]⟩,⟨0,50,3,[]⟩,⟨0,50,3,[]⟩,⟨0,50,3,[]⟩] 8 (by kernel_rfl) (by kernel_rfl) (by kernel_rfl) (by rfl) ?_
  refine BD (.agg [(i64 q8.op),(i64 q8.num),(ls AD q8.kids)]) AM U (fun _ _=>Fu BN U (show 0+3≤3 by decide) rfl) (BD (.ptr 0 0 0 0) AM U (fun _ _=>BL U) (bs h0 fun q10 gq10 h0=>?_))
  refine E2 (rows0:=[(A8 s0_0 s0_1)]) (rows1:=[(A8 s0_0 q10.2)]) (v':=(i64 q10.1)) (y0:=(A8 s0_0 q10.2)) [0] AM Ez (Av gq10) rfl (by decide) rfl U (.raw U U .nil) rfl U (fun _=>(.raw U U .nil)) (fun _=>U) rfl ?_
  refine bs h0 fun q11 gq11 h0=>D9 AM (fun x0 zz=>BS (v:=(.agg [(i64 q11.op),(i64 q11.num),(ls AD q11.kids)])) AM Gw (Br gq11) rfl U U (Ax U)) (BD (.agg [(i64 q8.op),(i64 q8.num),(ls AD q8.kids)]) AM U (fun _ _=>Fu BN U (show 0+3≤3 by decide) rfl) ?_)
  refine D9 AM (fun x0 zz=>E9 (l:=[q8,q11,q8]) (enc:=AD) AM BV (by decide) rfl U U (by simp only[List.map,Ap];rfl) rfl (AB Ag) (Ax U)) ?_
  refine bs h0 fun q12 gq12 h0=>D9 AM (fun x0 zz=>BS (v:=(.agg [(i64 q12.op),(i64 q12.num),(ls AD q12.kids)])) AM DB (BH gq12) rfl U U (Ax U)) (Ta EI U (Di U (Az AM BN U U U U U U (show 0+3≤3 by decide) rfl (Ad (Wk.A7 (L:=[(0,(.ptr 0 0 0 0)),(4,(.ptr 1 0 0 0)),(6,(.Al [(i64 q8.op),(i64 q8.num),(ls AD q8.kids)] 0)),(7,(.Al [(i64 q12.op),(i64 q12.num),(ls AD q12.kids)] 0))]) (st':=[(A8 s0_0 q10.2),B5,⟨0,50,3,[]⟩,⟨0,50,3,[]⟩,⟨0,50,3,[]⟩,⟨0,50,3,[]⟩,⟨1,50,3,[]⟩]) (id:=6) rfl (show 1≤6 by decide) (Cz U) (.same U) rfl) (dn hK9 U (AH fun K13 hK13=>?_))))))
  refine AN (CA (L:=[(0,(.ptr 0 0 0 0)),(4,(.ptr 1 0 0 0)),(6,(.Al [(i64 q8.op),(i64 q8.num),(ls AD q8.kids)] 0)),(7,(.Al [(i64 q12.op),(i64 q12.num),(ls AD q12.kids)] 0))]) (st':=[(A8 s0_0 q10.2),B5,⟨0,50,3,[]⟩,⟨0,50,3,[]⟩,⟨0,50,3,[]⟩,⟨0,50,3,[]⟩,⟨0,50,3,[]⟩]) (.raw U U U (.raw U U U (.pure U (by intro x hx;cases hx) (.pure U (by intro x hx;cases hx) (.pure U (by intro x hx;cases hx) (.pure U (by intro x hx;cases hx) (.pure U (by intro x hx;cases hx) .nil))))))) (.same U)) ?_
  refine BO [B5,⟨0,50,3,[]⟩,⟨0,50,3,[]⟩,⟨0,50,3,[]⟩,⟨0,50,3,[]⟩,⟨0,50,3,[]⟩] 7 (by kernel_rfl) (by kernel_rfl) (by kernel_rfl) (by rfl) ?_
  refine BD (.agg [(i64 q12.op),(i64 q12.num),(ls AD q12.kids)]) AM U (fun _ _=>Fu BN U (show 0+3≤3 by decide) rfl) (BD (.ptr 0 0 0 0) AM U (fun _ _=>BL U) (bs h0 fun q14 gq14 h0=>?_))
  refine E2 (rows0:=[(A8 s0_0 q10.2)]) (rows1:=[(A8 s0_0 q14.2)]) (v':=(i64 q14.1)) (y0:=(A8 s0_0 q14.2)) [0] AM Ez (Av gq14) rfl (by decide) rfl U (.raw U U .nil) rfl U (fun _=>(.raw U U .nil)) (fun _=>U) rfl ?_
  refine bs h0 fun q15 gq15 h0=>D9 AM (fun x0 zz=>BS (v:=(.agg [(i64 q15.op),(i64 q15.num),(ls AD q15.kids)])) AM Gw (Br gq15) rfl U U (Ax U)) (BD (.agg [(i64 q8.op),(i64 q8.num),(ls AD q8.kids)]) AM U (fun _ _=>Fu BN U (show 0+3≤3 by decide) rfl) ?_)
  refine D9 AM (fun x0 zz=>E9 (l:=[q12,q15,q8]) (enc:=AD) AM BV (by decide) rfl U U (by simp only[List.map,Ap];rfl) rfl (AB Ag) (Ax U)) ?_
  refine bs h0 fun q16 gq16 h0=>D9 AM (fun x0 zz=>BS (v:=(.agg [(i64 q16.op),(i64 q16.num),(ls AD q16.kids)])) AM DB (BH gq16) rfl U U (Ax U)) (Di U (Az AM BN U U U U U U (show 0+3≤3 by decide) rfl (dn hK13 U ?_)))
  replace h0:=Sh.AE h0
  subst r
  exact AU (Exists.intro _ (And.intro ((AS (L:=[(4,(.ptr 1 0 0 0))]) (st':=[(A8 s0_0 q14.2),(DJ q16.op q16.num q16.kids)]) [0,1] U (by decide) rfl U (.raw U U (.raw U U .nil)) (.same U)).trans (Ah (L:=[(4,(.ptr 1 0 0 0))]) (.same U))) (A9 (x:=.tmp 4) (off:=0) (cs:=[(i64 q16.op),(i64 q16.num),(ls AD q16.kids)]) (vs:=[(i64 q16.op),(i64 q16.num),(ls AD q16.kids)]) BN U U U (show 0+3≤3 by decide) rfl _ ⟨U,U⟩)))
 ·intro b6 h0
  refine AR (hK4 _ (sr U fun K17 hK17=>zq tb U (A1 (m:=4) AM EI U U (Az AM BN U U U U U U (show 0+3≤3 by decide) rfl (dn hK17 U (AH fun K18 hK18=>sr U fun K19 hK19=>zq tb U (bs h0 fun q20 gq20 h0=>?_)))))))
  refine Bc (rows0:=[(A8 s0_0 s0_1)]) (rows1:=[(A8 s0_0 q20.2)]) (st':=[(A8 s0_0 q20.2),B5,⟨1,50,3,[]⟩,⟨1,50,3,[]⟩,(DJ q3.op q3.num q3.kids)]) (v':=(i64 q20.1)) [0] AM Ez (Av gq20) rfl (by decide) rfl U (.raw U U .nil) rfl U (.raw U U .nil) .nil U U ?_
  refine zm tb 2 U (dn hK19 U (bs h0 fun o30 h1 h0=>?_))
  have M30 :∀(f26:Int) (f27:Int) (f28:Int) (f29:(List AP)),o30=(f26,f27,f28,f29)→∀s,Wk 1 s ⟨45,Aa [(4,(.ptr 1 0 0 0)),(8,(.ptr 2 0 0 0))],[(A8 s0_0 f26),B5,(DJ f27 f28 f29)]⟩→K18 s:=by
   intro f26 f27 f28 f29 hq s hw
   subst o30
   try dsimp only at h0
   refine hK18 _ (AN hw (sr U fun K31 hK31=>zq tb U (Az AM BN U U U U U U (show 0+3≤3 by decide) rfl (dn hK31 U ?_))))
   replace h0:=Sh.AE h0
   subst r
   exact AU (Exists.intro _ (And.intro ((AS (L:=[(4,(.ptr 1 0 0 0))]) (st':=[(A8 s0_0 f26),(DJ f27 f28 f29)]) [0,1] U (by decide) rfl U (.raw U U (.raw U U .nil)) (.same U)).trans (Ah (L:=[(4,(.ptr 1 0 0 0))]) (.same U))) (A9 (x:=.tmp 4) (off:=0) (cs:=[(i64 f27),(i64 f28),(ls AD f29)]) (vs:=[(i64 f27),(i64 f28),(ls AD f29)]) BN U U U (show 0+3≤3 by decide) rfl _ ⟨U,U⟩)))
  refine Ab (Ay (σ:=Int×Int×Int×Int×(List AP)) (fun n v=>EK s0_0 n v.1 v.2.1 v.2.2.1 v.2.2.2.1 v.2.2.2.2=some o30) (fun (n21,f22,f23,f24,f25)=>⟨45,Aa [(0,(.ptr 0 0 0 0)),(4,(.ptr 1 0 0 0)),(8,(.ptr 2 0 0 0)),(9,(i64 n21))],[(A8 s0_0 f22),B5,(DJ f23 f24 f25)]⟩) N (Sh.w (1+q20.1),q20.2,q3.op,q3.num,q3.kids) h1 (AS [0,1,4] U (by decide) rfl U (.raw U U (.raw U U (.raw U U .nil))) (.same U)) (fun _ hv=>by rw[EK] at hv;cases hv) ?_)
  rintro n ⟨n21,f22,f23,f24,f25⟩ h1
  try dsimp only at h1 ⊢
  rw[EK] at h1
  refine AH fun K32 hK32=>zr tb U U ?_
  refine ci h1 U ?_ ?_ <;> clear h1
  ·intro b34 h1
   refine AR (hK32 _ (AH fun K35 hK35=>Ab ?_))
   refine BO [B5,(DJ f23 f24 f25)] 6 (by kernel_rfl) (by kernel_rfl) (by kernel_rfl) (by rfl) ?_
   refine BD (.ptr 0 0 0 0) AM U (fun _ _=>BL U) (bs h1 fun q36 gq36 h1=>?_)
   refine E2 (rows0:=[(A8 s0_0 f22)]) (rows1:=[(A8 s0_0 q36.2)]) (v':=(i64 q36.1)) (y0:=(A8 s0_0 q36.2)) [0] AM W1 (KV gq36) rfl (by decide) rfl U (.raw U U .nil) rfl U (fun _=>(.raw U U .nil)) (fun _=>U) rfl ?_
   refine bs h1 fun q37 gq37 h1=>D9 AM (fun x0 zz=>BS (v:=(.agg [(i64 q37.op),(i64 q37.num),(ls AD q37.kids)])) AM Gw (Br gq37) rfl U U (Ax U)) (BD (.agg [(i64 f23),(i64 f24),(ls AD f25)]) AM U (fun _ _=>A9 BN U U U (show 0+3≤3 by decide) rfl) ?_)
   refine D9 AM (fun x0 zz=>E9 (l:=[q37,(AP.mk f23 f24 f25)]) (enc:=AD) AM BV (by decide) rfl U U (by simp only[List.map,Ap];rfl) rfl (AB Ag) (Ax U)) ?_
   exact bs h1 fun q38 gq38 h1=>D9 AM (fun x0 zz=>BS (v:=(.agg [(i64 q38.op),(i64 q38.num),(ls AD q38.kids)])) AM DB (BH gq38) rfl U U (Ax U)) (Di U (Az AM BN U U U U U U (show 0+3≤3 by decide) rfl (dn hK35 U (AL U (zm tb 3 U (AA (xi (Sh.w (n21 - 1),q36.2,q38.op,q38.num,q38.kids) h1 (AG U))))))))
  ·intro b34 h1
   exact A5 (M30 f22 f23 f24 f25 (Sh.AE h1).symm _ (AG U))
theorem N8 {N:Nat} {s0_0:(List Int)} {s0_1:Int} {s1:(List Ar)} {p1_0:(List Ac)} {r:AP×Int} (h0:Gu N s0_0 s0_1 s1 p1_0=some r):Ai Try.prog 113 [(.ptr 0 0 0 0),(.agg [(ls AI p1_0),(ow 1 0 s1)])] [(A8 s0_0 s0_1),(ro 0 52 5 AJ s1)] (fun v st=>v=(.agg [(i64 r.1.op),(i64 r.1.num),(ls AD r.1.kids)])∧st=[(A8 s0_0 r.2),(ro 0 52 5 AJ s1)]):=by
 unfold Gu at h0
 refine Ai.wk (r0:=(.agg [(i64 r.1.op),(i64 r.1.num),(ls AD r.1.kids)])) (st0:=[(A8 s0_0 r.2),(ro 0 52 5 AJ s1),(DJ r.1.op r.1.num r.1.kids)]) ?_ (EG (L:=[(0,(.agg [(i64 r.1.op),(i64 r.1.num),(ls AD r.1.kids)]))]) (st':=[(A8 s0_0 r.2),(ro 0 52 5 AJ s1)]) [0,1] U (by decide) rfl U (.raw U (.pure (AB fun _=>U) trivial)) (.same U))
 refine ai Try.func113 U U U U (sr U fun K1 hK1=>Bl (m:=2) AM U U U U U (A1 (m:=3) AM EI U U (dn hK1 U (sr U fun K2 hK2=>zq tb U ?_))))
 refine A3 (m:=4) (l:=[(1:Int),1,3]) (enc:=eI) AM A4 (by decide) rfl U U U U U ?_
 refine Ad (Wk.A7 (L:=[(0,(.ptr 0 0 0 0)),(3,(.ptr 2 0 0 0)),(4,(.ptr 3 0 0 0)),(7,(.ptr 0 0 0 0)),(8,(ls eI [(1:Int),1,3]))]) (st':=[(A8 s0_0 s0_1),(ro 0 52 5 AJ s1),⟨0,31,2,[[(ls AI p1_0),(ow 1 0 s1)]]⟩,B5,⟨1,3,1,[]⟩]) (id:=4) rfl (show 2≤4 by decide) (AB fun _=>U) ⟨.rfl,.rfl,.rfl,.rfl,(.A7 U),trivial⟩ U) (bs h0 fun q3 gq3 h0=>?_)
 refine Bc (rows0:=[(A8 s0_0 s0_1)]) (rows1:=[(A8 s0_0 q3.2)]) (st':=[(A8 s0_0 q3.2),(ro 0 52 5 AJ s1),⟨0,31,2,[[(ls AI p1_0),(ow 1 0 s1)]]⟩,B5,⟨1,3,1,[]⟩]) (v':=(i64 q3.1)) [0] AM H5 (BU gq3) rfl (by decide) rfl U (.raw U U .nil) rfl U (.raw U U .nil) .nil U U ?_
 refine zq tb U (dn hK2 U (sr U fun K4 hK4=>zm tb 3 U ?_))
 refine A3 (m:=5) (l:=[q3.1]) (enc:=eI) AM A4 (by decide) rfl U U U U U ?_
 refine Ad (Wk.A7 (L:=[(0,(.ptr 0 0 0 0)),(4,(.ptr 3 0 0 0)),(5,(i64 q3.1)),(10,(.ptr 0 0 0 0)),(11,(.agg [(ls AI p1_0),(ow 1 0 s1)])),(13,(ls eI [q3.1]))]) (st':=[(A8 s0_0 q3.2),(ro 0 52 5 AJ s1),⟨0,31,2,[[(ls AI p1_0),(ow 1 0 s1)]]⟩,B5,⟨1,3,1,[]⟩,⟨1,3,1,[]⟩]) (id:=5) rfl (show 2≤5 by decide) (AB fun _=>U) ⟨.rfl,.rfl,.rfl,.rfl,(.agg ⟨.rfl,.rfl,trivial⟩),(.A7 U),trivial⟩ U) (bs h0 fun q5 gq5 h0=>?_)
 refine Bc (rows0:=[(A8 s0_0 q3.2),(ro 0 52 5 AJ s1)]) (rows1:=[(A8 s0_0 q5.2),(ro 0 52 5 AJ s1)]) (st':=[(A8 s0_0 q5.2),(ro 0 52 5 AJ s1),⟨0,31,2,[[(ls AI p1_0),(ow 1 0 s1)]]⟩,B5,⟨1,3,1,[]⟩,⟨1,3,1,[]⟩]) (v':=(.agg [(i64 q5.1.op),(i64 q5.1.num),(ls AD q5.1.kids)])) [0,1] AM HI (Ec gq5) rfl (by decide) rfl U (.raw U U (.pure (AB fun _=>U) .nil)) rfl U (.raw U U (.pure (AB fun _=>U) .nil)) .nil U U ?_
 refine A1 (m:=6) AM EI U U (Az AM BN U U U U U U (show 0+3≤3 by decide) rfl (dn hK4 U (AH fun K6 hK6=>bs h0 fun o11 h1 h0=>?_)))
 have M11 :∀(f7:Int) (f8:Int) (f9:Int) (f10:(List AP)),o11=(f7,f8,f9,f10)→∀s,Wk 2 s ⟨27,Aa [(0,(.ptr 0 0 0 0)),(4,(.ptr 2 0 0 0)),(5,(i64 q3.1)),(6,(.ptr 3 0 0 0))],[(A8 s0_0 f7),(ro 0 52 5 AJ s1),B5,(DJ f8 f9 f10)]⟩→K6 s:=by
  intro f7 f8 f9 f10 hq s hw
  subst o11
  try dsimp only at h0
  refine hK6 _ (AN hw (AH fun K12 hK12=>?_))
  refine BO [(ro 0 52 5 AJ s1),B5,(DJ f8 f9 f10)] 6 (by kernel_rfl) (by kernel_rfl) (by kernel_rfl) (by rfl) ?_
  refine BD (.ptr 0 0 0 0) AM U (fun _ _=>BL U) (BD (i64 q3.1) AM U (fun _ _=>BL U) (bs h0 fun q13 gq13 h0=>?_))
  refine E2 (rows0:=[(A8 s0_0 f7)]) (rows1:=[(A8 s0_0 q13.2)]) (v':=(.agg [(i64 q13.1.op),(i64 q13.1.num),(ls AD q13.1.kids)])) (y0:=(A8 s0_0 q13.2)) [0] AM Yf (Oq gq13) rfl (by decide) rfl U (.raw U U .nil) rfl U (fun _=>(.raw U U .nil)) (fun _=>U) rfl ?_
  refine BD (.agg [(i64 f8),(i64 f9),(ls AD f10)]) AM U (fun _ _=>A9 BN U U U (show 0+3≤3 by decide) rfl) ?_
  refine D9 AM (fun x0 zz=>E9 (l:=[q13.1,(AP.mk f8 f9 f10)]) (enc:=AD) AM BV (by decide) rfl U U (by simp only[List.map,Ap];rfl) rfl (AB Ag) (Ax U)) ?_
  refine bs h0 fun q14 gq14 h0=>D9 AM (fun x0 zz=>BS (v:=(.agg [(i64 q14.op),(i64 q14.num),(ls AD q14.kids)])) AM DB (BH gq14) rfl U U (Ax U)) (Di U (Az AM BN U U U U U U (show 0+3≤3 by decide) rfl (dn hK12 U ?_)))
  replace h0:=Sh.AE h0
  subst r
  exact AU (Exists.intro _ (And.intro ((AS (L:=[(4,(.ptr 2 0 0 0))]) (st':=[(A8 s0_0 q13.2),(ro 0 52 5 AJ s1),(DJ q14.op q14.num q14.kids)]) [0,1,2] U (by decide) rfl U (.raw U U (.pure (AB fun _=>U) (.raw U U .nil))) (.same U)).trans (Ah (L:=[(4,(.ptr 2 0 0 0))]) (.same U))) (A9 (x:=.tmp 4) (off:=0) (cs:=[(i64 q14.op),(i64 q14.num),(ls AD q14.kids)]) (vs:=[(i64 q14.op),(i64 q14.num),(ls AD q14.kids)]) BN U U U (show 0+3≤3 by decide) rfl _ ⟨U,U⟩)))
 refine sr U fun K15 hK15=>zq tb U (bs h1 fun q16 gq16 h1=>?_)
 refine Bc (rows0:=[(A8 s0_0 q5.2)]) (rows1:=[(A8 s0_0 q16.2)]) (st':=[(A8 s0_0 q16.2),(ro 0 52 5 AJ s1),⟨0,31,2,[[(ls AI p1_0),(ow 1 0 s1)]]⟩,B5,⟨1,3,1,[]⟩,⟨1,3,1,[]⟩,(DJ q5.1.op q5.1.num q5.1.kids)]) (v':=(i64 q16.1)) [0] AM Ez (Av gq16) rfl (by decide) rfl U (.raw U U .nil) rfl U (.raw U U .nil) .nil U U ?_
 refine zq tb U (dn hK15 U ?_)
 refine ci h1 U ?_ ?_ <;> clear h1
 ·intro b17 h1
  refine AL U (zq tb U ?_)
  refine A3 (m:=7) (l:=[q5.1]) (enc:=AD) AM BV (by decide) rfl U (by simp only[List.map,Ap];rfl) rfl U U ?_
  refine Ad (Wk.A7 (L:=[(0,(.ptr 0 0 0 0)),(4,(.ptr 3 0 0 0)),(5,(i64 q3.1)),(6,(.ptr 6 0 0 0)),(19,(ls AD [q5.1]))]) (st':=[(A8 s0_0 q16.2),(ro 0 52 5 AJ s1),⟨0,31,2,[[(ls AI p1_0),(ow 1 0 s1)]]⟩,B5,⟨1,3,1,[]⟩,⟨1,3,1,[]⟩,(DJ q5.1.op q5.1.num q5.1.kids),⟨1,50,3,[]⟩]) (id:=7) rfl (show 2≤7 by decide) (AB Ag) ⟨.rfl,.rfl,.rfl,.rfl,(.A7 U),trivial⟩ U) (bs h1 fun q18 gq18 h1=>zc (v':=(.agg [(i64 q18.op),(i64 q18.num),(ls AD q18.kids)])) DB (BH gq18) rfl U U (Az AM BN U U U U U U (show 0+3≤3 by decide) rfl ?_))
  exact AA (M11 q16.2 q18.op q18.num q18.kids (Sh.AE h1).symm _ (AS [0,1,3,6] U (by decide) rfl U (.raw U U (.pure (AB fun _=>U) (.raw U U (.raw U U .nil)))) (.same U)))
 ·intro b17 h1
  exact AR (M11 q16.2 q5.1.op q5.1.num q5.1.kids (Sh.AE h1).symm _ (AS [0,1,3,6] U (by decide) rfl U (.raw U U (.pure (AB fun _=>U) (.raw U U (.raw U U .nil)))) (.same U)))
theorem N3 {N:Nat} {s0_0:(List Int)} {s0_1:Int} {s1:(List Ar)} {p1_0:(List Ac)} {p2:Int} {p3:Int} {r:AP×Int} (h0:HA N s0_0 s0_1 s1 p1_0 p2 p3=some r):Ai Try.prog 114 [(.ptr 0 0 0 0),(.agg [(ls AI p1_0),(ow 1 0 s1)]),(i64 p2),(i64 p3)] [(A8 s0_0 s0_1),(ro 0 52 5 AJ s1)] (fun v st=>v=(.agg [(i64 r.1.op),(i64 r.1.num),(ls AD r.1.kids)])∧st=[(A8 s0_0 r.2),(ro 0 52 5 AJ s1)]):=by
 unfold HA at h0
 refine Ai.wk (r0:=(.agg [(i64 r.1.op),(i64 r.1.num),(ls AD r.1.kids)])) (st0:=[(A8 s0_0 r.2),(ro 0 52 5 AJ s1),(DJ r.1.op r.1.num r.1.kids)]) ?_ (EG (L:=[(0,(.agg [(i64 r.1.op),(i64 r.1.num),(ls AD r.1.kids)]))]) (st':=[(A8 s0_0 r.2),(ro 0 52 5 AJ s1)]) [0,1] U (by decide) rfl U (.raw U (.pure (AB fun _=>U) trivial)) (.same U))
 refine ai Try.func114 U U U U (sr U fun K1 hK1=>Bl (m:=2) AM U U U U U (A1 (m:=3) AM EI U U (dn hK1 U (sr U fun K2 hK2=>zm tb 3 U (bs h0 fun c3 gc3 h0=>zz (.ptr 1 0 (Int.toNat p2) 0) (Bn DD U U U U gc3) rfl (zq tb U (zz (ls eI c3.params) (B1 Le U U (Bs gc3) rfl) rfl (zq tb U ?_))))))))
 refine dn hK2 U (sr U fun K4 hK4=>zq tb U (zl tb U U (zq tb U (dn hK4 U (sr U fun K5 hK5=>zq tb U ?_)))))
 refine A3 (m:=4) (l:=[(0:Int),1]) (enc:=eI) AM A4 (by decide) rfl U U U U U ?_
 refine Ad (Wk.A7 (L:=[(0,(.ptr 0 0 0 0)),(2,(i64 p2)),(3,(i64 p3)),(5,(.ptr 2 0 0 0)),(8,(.ptr 3 0 0 0)),(9,(ls eI c3.params)),(10,(i64 (Sh.len c3.params))),(25,(ls eI c3.params)),(26,(ls eI [(0:Int),1]))]) (st':=[(A8 s0_0 s0_1),(ro 0 52 5 AJ s1),⟨0,31,2,[[(ls AI p1_0),(ow 1 0 s1)]]⟩,B5,⟨1,3,1,[]⟩]) (id:=4) rfl (show 2≤4 by decide) (AB fun _=>U) ⟨.rfl,.rfl,.rfl,.rfl,.rfl,.rfl,.rfl,.rfl,(.A7 U),trivial⟩ U) (bs h0 fun q6 gq6 h0=>Bz (v':=(ow 5 0 q6)) AM Nh (D8 gq6) rfl U ⟨(Bi fun _=>U),trivial⟩ U U (zq tb U (dn hK5 U (sr U fun K7 hK7=>?_))))
 refine A3 (m:=6) (l:=([]:List AP)) (enc:=AD) AM BV (by decide) rfl U (by simp only[List.map,Ap];rfl) rfl U U ?_
 refine zq tb U (dn hK7 U (AH fun K8 hK8=>zr tb U U (bs h0 fun o15 h1 h0=>?_)))
 have M15 :∀(f13:Int) (l14:(List AP)),o15=(f13,l14)→∀s,Wk 2 s ⟨136,Aa [(0,(.ptr 0 0 0 0)),(2,(i64 p2)),(3,(i64 p3)),(5,(.ptr 2 0 0 0)),(8,(.ptr 3 0 0 0)),(9,(ls eI c3.params)),(10,(i64 (Sh.len c3.params))),(11,(ow 4 0 q6)),(12,(ow 5 0 l14))],[(A8 s0_0 f13),(ro 0 52 5 AJ s1),⟨0,31,2,[[(ls AI p1_0),(ow 1 0 s1)]]⟩,B5,(ro 0 3 1 eI q6),(ro 0 50 3 AD l14)]⟩→K8 s:=by
  intro f13 l14 hq s hw
  subst o15
  try dsimp only at h0
  refine hK8 _ (AN hw (sr U fun K16 hK16=>zm tb 2 U (Ad (Wk.A7 (L:=[(0,(.ptr 0 0 0 0)),(2,(i64 p2)),(3,(i64 p3)),(5,(.ptr 2 0 0 0)),(8,(.ptr 3 0 0 0)),(9,(ls eI c3.params)),(10,(i64 (Sh.len c3.params))),(11,(ow 4 0 q6)),(67,(i64 p2)),(68,(ls AD l14))]) (st':=[(A8 s0_0 f13),(ro 0 52 5 AJ s1),⟨0,31,2,[[(ls AI p1_0),(ow 1 0 s1)]]⟩,B5,(ro 0 3 1 eI q6),⟨1,50,3,[]⟩]) (id:=5) rfl (show 2≤5 by decide) (AB Ag) ⟨.rfl,.rfl,.rfl,.rfl,.rfl,.rfl,.rfl,.rfl,.rfl,(.A7 U),trivial⟩ U) (bs h0 fun q17 gq17 h0=>zc (v':=(.agg [(i64 q17.op),(i64 q17.num),(ls AD q17.kids)])) DB (BH gq17) rfl U U (A1 (m:=6) AM EI U U (Az AM BN U U U U U U (show 0+3≤3 by decide) rfl (Ad (Wk.A7 (L:=[(0,(.ptr 0 0 0 0)),(2,(i64 p2)),(3,(i64 p3)),(5,(.ptr 2 0 0 0)),(8,(.ptr 3 0 0 0)),(9,(ls eI c3.params)),(10,(i64 (Sh.len c3.params))),(11,(ow 4 0 q6)),(14,(.Al [(i64 q17.op),(i64 q17.num),(ls AD q17.kids)] 0))]) (st':=[(A8 s0_0 f13),(ro 0 52 5 AJ s1),⟨0,31,2,[[(ls AI p1_0),(ow 1 0 s1)]]⟩,B5,(ro 0 3 1 eI q6),⟨1,50,3,[]⟩,⟨1,50,3,[]⟩]) (id:=6) rfl (show 2≤6 by decide) (Cz U) (.same U) rfl) (dn hK16 U (sr U fun K18 hK18=>zq tb U ?_)))))))))
  refine A1 (m:=7) AM EI U U (Az AM BN U U U U U U (show 0+3≤3 by decide) rfl (dn hK18 U (AH fun K19 hK19=>bs h0 fun o24 h1 h0=>?_)))
  have M24 :∀(f20:Int) (f21:Int) (f22:Int) (f23:(List AP)),o24=(f20,f21,f22,f23)→∀s,Wk 2 s ⟨136,Aa [(0,(.ptr 0 0 0 0)),(2,(i64 p2)),(3,(i64 p3)),(5,(.ptr 2 0 0 0)),(8,(.ptr 3 0 0 0)),(9,(ls eI c3.params)),(15,(.ptr 4 0 0 0))],[(A8 s0_0 f20),(ro 0 52 5 AJ s1),⟨0,31,2,[[(ls AI p1_0),(ow 1 0 s1)]]⟩,B5,(DJ f21 f22 f23)]⟩→K19 s:=by
   intro f20 f21 f22 f23 hq s hw
   subst o24
   try dsimp only at h0
   refine hK19 _ (AN hw (AH fun K25 hK25=>?_))
   refine BO [(ro 0 52 5 AJ s1),⟨0,31,2,[[(ls AI p1_0),(ow 1 0 s1)]]⟩,B5,(DJ f21 f22 f23)] 15 (by kernel_rfl) (by kernel_rfl) (by kernel_rfl) (by rfl) ?_
   refine BD (i64 p3) AM U (fun _ _=>BL U) (bs h0 fun q26 gq26 h0=>D9 AM (fun x0 zz=>BS (v:=(.agg [(i64 q26.op),(i64 q26.num),(ls AD q26.kids)])) AM Gv (Bm gq26) rfl U U (Ax U)) (BD (.ptr 0 0 0 0) AM U (fun _ _=>BL U) (BD (.agg [(ls AI p1_0),(ow 1 0 s1)]) AM U (fun _ _=>A9 FA U U U (show 0+2≤2 by decide) rfl) (BD (ls eI c3.params) AM U (fun _ _=>BL U) (BD (.ptr 2 0 0 1) AM U (fun _ _=>F8 Ka U U (show 0+1≤2 by decide) rfl) (BD (ow 1 0 s1) AM U (fun _ _=>B1 Mn U U U U) (BD (i64 p2) AM U (fun _ _=>BL U) (BD (.ptr 1 0 (Int.toNat p2) 0) AM U (fun _ _=>Bn DD U U U U gc3) (BD (.ptr 1 0 (Int.toNat p2) 1) AM U (fun _ _=>F8 Nm U U (show 0+1≤5 by decide) rfl) (BD (i64 c3.result) AM U (fun _ _=>B1 F6 U U (Bs gc3) rfl) ?_))))))))))
   refine bs h0 fun q27 gq27 h0=>?_
   refine E2 (rows0:=[(A8 s0_0 f20),(ro 0 52 5 AJ s1)]) (rows1:=[(A8 s0_0 q27.2),(ro 0 52 5 AJ s1)]) (v':=(.agg [(i64 q27.1.op),(i64 q27.1.num),(ls AD q27.1.kids)])) (y0:=(A8 s0_0 q27.2)) [0,1] AM HI (Ec gq27) rfl (by decide) rfl U (.raw U U (.pure (AB fun _=>U) .nil)) rfl U (fun _=>(.raw U U (.pure (AB fun _=>U) .nil))) (fun _=>U) rfl ?_
   refine BD (.agg [(i64 f21),(i64 f22),(ls AD f23)]) AM U (fun _ _=>A9 BN U U U (show 0+3≤3 by decide) rfl) ?_
   refine D9 AM (fun x0 zz=>E9 (l:=[q26,q27.1,(AP.mk f21 f22 f23)]) (enc:=AD) AM BV (by decide) rfl U U (by simp only[List.map,Ap];rfl) rfl (AB Ag) (Ax U)) ?_
   refine bs h0 fun q28 gq28 h0=>D9 AM (fun x0 zz=>BS (v:=(.agg [(i64 q28.op),(i64 q28.num),(ls AD q28.kids)])) AM DB (BH gq28) rfl U U (Ax U)) (Di U (Az AM BN U U U U U U (show 0+3≤3 by decide) rfl (dn hK25 U ?_)))
   replace h0:=Sh.AE h0
   subst r
   exact AU (Exists.intro _ (And.intro ((AS (L:=[(8,(.ptr 2 0 0 0))]) (st':=[(A8 s0_0 q27.2),(ro 0 52 5 AJ s1),(DJ q28.op q28.num q28.kids)]) [0,1,3] U (by decide) rfl U (.raw U U (.pure (AB fun _=>U) (.raw U U .nil))) (.same U)).trans (Ah (L:=[(8,(.ptr 2 0 0 0))]) (.same U))) (A9 (x:=.tmp 8) (off:=0) (cs:=[(i64 q28.op),(i64 q28.num),(ls AD q28.kids)]) (vs:=[(i64 q28.op),(i64 q28.num),(ls AD q28.kids)]) BN U U U (show 0+3≤3 by decide) rfl _ ⟨U,U⟩)))
  refine AH fun K29 hK29=>bs h1 fun o32 h2 h1=>?_
  have M32 :∀(t30:Bool) (f31:Int),o32=(t30,f31)→∀s,Wk 2 s ⟨136,Aa [(0,(.ptr 0 0 0 0)),(2,(i64 p2)),(3,(i64 p3)),(5,(.ptr 2 0 0 0)),(8,(.ptr 3 0 0 0)),(9,(ls eI c3.params)),(10,(i64 (Sh.len c3.params))),(11,(ow 4 0 q6)),(14,(.Al [(i64 q17.op),(i64 q17.num),(ls AD q17.kids)] 0)),(15,(.ptr 5 0 0 0)),(82,(.bool t30))],[(A8 s0_0 f31),(ro 0 52 5 AJ s1),⟨0,31,2,[[(ls AI p1_0),(ow 1 0 s1)]]⟩,B5,(ro 0 3 1 eI q6),(DJ q17.op q17.num q17.kids)]⟩→K29 s:=by
   intro t30 f31 hq s hw
   subst o32
   try dsimp only at h1
   refine hK29 _ (AN hw ?_)
   refine ci h1 U ?_ ?_ <;> clear h1
   ·intro b33 h1
    refine sr U fun K34 hK34=>zm tb 3 U (Ad (Wk.A7 (L:=[(0,(.ptr 0 0 0 0)),(2,(i64 p2)),(3,(i64 p3)),(5,(.ptr 2 0 0 0)),(8,(.ptr 3 0 0 0)),(9,(ls eI c3.params)),(10,(i64 (Sh.len c3.params))),(14,(.Al [(i64 q17.op),(i64 q17.num),(ls AD q17.kids)] 0)),(15,(.ptr 5 0 0 0)),(83,(.ptr 0 0 0 0)),(84,(.agg [(ls AI p1_0),(ow 1 0 s1)])),(85,(ls eI q6))]) (st':=[(A8 s0_0 f31),(ro 0 52 5 AJ s1),⟨0,31,2,[[(ls AI p1_0),(ow 1 0 s1)]]⟩,B5,⟨1,3,1,[]⟩,(DJ q17.op q17.num q17.kids)]) (id:=4) rfl (show 2≤4 by decide) (AB fun _=>U) ⟨.rfl,.rfl,.rfl,.rfl,.rfl,.rfl,.rfl,.rfl,.rfl,.rfl,(.agg ⟨.rfl,.rfl,trivial⟩),(.A7 U),trivial⟩ U) (bs h1 fun q35 gq35 h1=>?_))
    refine Bc (rows0:=[(A8 s0_0 f31),(ro 0 52 5 AJ s1)]) (rows1:=[(A8 s0_0 q35.2),(ro 0 52 5 AJ s1)]) (st':=[(A8 s0_0 q35.2),(ro 0 52 5 AJ s1),⟨0,31,2,[[(ls AI p1_0),(ow 1 0 s1)]]⟩,B5,⟨1,3,1,[]⟩,(DJ q17.op q17.num q17.kids)]) (v':=(.agg [(i64 q35.1.op),(i64 q35.1.num),(ls AD q35.1.kids)])) [0,1] AM HI (Ec gq35) rfl (by decide) rfl U (.raw U U (.pure (AB fun _=>U) .nil)) rfl U (.raw U U (.pure (AB fun _=>U) .nil)) .nil U U ?_
    refine A1 (m:=6) AM EI U U (Az AM BN U U U U U U (show 0+3≤3 by decide) rfl (dn hK34 U (AH fun K36 hK36=>bs h1 fun o40 h2 h1=>?_)))
    have M40 :∀(f37:Int) (f38:Int) (f39:(List AP)),o40=(f37,f38,f39)→∀s,Wk 2 s ⟨136,Aa [(0,(.ptr 0 0 0 0)),(2,(i64 p2)),(3,(i64 p3)),(5,(.ptr 2 0 0 0)),(8,(.ptr 3 0 0 0)),(9,(ls eI c3.params)),(14,(.Al [(i64 q17.op),(i64 q17.num),(ls AD q17.kids)] 0)),(15,(.ptr 4 0 0 0)),(16,(.ptr 5 0 0 0))],[(A8 s0_0 q35.2),(ro 0 52 5 AJ s1),⟨0,31,2,[[(ls AI p1_0),(ow 1 0 s1)]]⟩,B5,(DJ q17.op q17.num q17.kids),(DJ f37 f38 f39)]⟩→K36 s:=by
     intro f37 f38 f39 hq s hw
     subst o40
     try dsimp only at h1
     refine hK36 _ (AN hw (AL U (zm tb 2 U ?_)))
     refine A3 (m:=6) (l:=[(AP.mk f37 f38 f39),q17]) (enc:=AD) AM BV (by decide) rfl U (by simp only[List.map,Ap];rfl) rfl U U ?_
     refine Ad (Wk.A7 (L:=[(0,(.ptr 0 0 0 0)),(2,(i64 p2)),(3,(i64 p3)),(5,(.ptr 2 0 0 0)),(8,(.ptr 3 0 0 0)),(9,(ls eI c3.params)),(15,(.ptr 4 0 0 0)),(102,(ls AD [(AP.mk f37 f38 f39),q17]))]) (st':=[(A8 s0_0 q35.2),(ro 0 52 5 AJ s1),⟨0,31,2,[[(ls AI p1_0),(ow 1 0 s1)]]⟩,B5,(DJ q17.op q17.num q17.kids),(DJ f37 f38 f39),⟨1,50,3,[]⟩]) (id:=6) rfl (show 2≤6 by decide) (AB Ag) ⟨.rfl,.rfl,.rfl,.rfl,.rfl,.rfl,.rfl,(.A7 U),trivial⟩ U) (bs h1 fun q41 gq41 h1=>zc (v':=(.agg [(i64 q41.op),(i64 q41.num),(ls AD q41.kids)])) DB (BH gq41) rfl U U (Az AM BN U U U U U U (show 0+3≤3 by decide) rfl ?_))
     exact AA (M24 q35.2 q41.op q41.num q41.kids (Sh.AE h1).symm _ (AS [0,1,2,3,4] U (by decide) rfl U (.raw U U (.pure (AB fun _=>U) (.raw U U (.raw U U (.raw U U .nil))))) (.same U)))
    refine AH fun K42 hK42=>bs h2 fun o44 h3 h2=>?_
    have M44 :∀(t43:Bool),o44=t43→∀s,Wk 2 s ⟨136,Aa [(0,(.ptr 0 0 0 0)),(2,(i64 p2)),(3,(i64 p3)),(5,(.ptr 2 0 0 0)),(8,(.ptr 3 0 0 0)),(9,(ls eI c3.params)),(10,(i64 (Sh.len c3.params))),(14,(.Al [(i64 q17.op),(i64 q17.num),(ls AD q17.kids)] 0)),(15,(.ptr 4 0 0 0)),(16,(.ptr 5 0 0 0)),(94,(.bool t43))],[(A8 s0_0 q35.2),(ro 0 52 5 AJ s1),⟨0,31,2,[[(ls AI p1_0),(ow 1 0 s1)]]⟩,B5,(DJ q17.op q17.num q17.kids),(DJ q35.1.op q35.1.num q35.1.kids)]⟩→K42 s:=by
     intro t43 hq s hw
     subst o44
     try dsimp only at h2
     refine hK42 _ (AN hw ?_)
     refine ci h2 U ?_ ?_ <;> clear h2
     ·intro b45 h2
      refine AL U (bs h2 fun q46 gq46 h2=>zc (v':=(.agg [(i64 q46.op),(i64 q46.num),(ls AD q46.kids)])) Gv (Bm gq46) rfl U U (zq tb U (bs h2 fun q47 gq47 h2=>zc (v':=(.agg [(i64 q47.op),(i64 q47.num),(ls AD q47.kids)])) Gv (Bm gq47) rfl U U ?_)))
      refine A3 (m:=6) (l:=[q46,q47]) (enc:=AD) AM BV (by decide) rfl U (by simp only[List.map,Ap];rfl) rfl U U ?_
      refine Ad (Wk.A7 (L:=[(0,(.ptr 0 0 0 0)),(2,(i64 p2)),(3,(i64 p3)),(5,(.ptr 2 0 0 0)),(8,(.ptr 3 0 0 0)),(9,(ls eI c3.params)),(14,(.Al [(i64 q17.op),(i64 q17.num),(ls AD q17.kids)] 0)),(15,(.ptr 4 0 0 0)),(16,(.ptr 5 0 0 0)),(98,(ls AD [q46,q47]))]) (st':=[(A8 s0_0 q35.2),(ro 0 52 5 AJ s1),⟨0,31,2,[[(ls AI p1_0),(ow 1 0 s1)]]⟩,B5,(DJ q17.op q17.num q17.kids),(DJ q35.1.op q35.1.num q35.1.kids),⟨1,50,3,[]⟩]) (id:=6) rfl (show 2≤6 by decide) (AB Ag) ⟨.rfl,.rfl,.rfl,.rfl,.rfl,.rfl,.rfl,.rfl,.rfl,(.A7 U),trivial⟩ U) (bs h2 fun q48 gq48 h2=>zc (v':=(.agg [(i64 q48.op),(i64 q48.num),(ls AD q48.kids)])) DB (BH gq48) rfl U U (Az AM BN U U U U U U (show 0+3≤3 by decide) rfl ?_))
      exact AA (M40 q48.op q48.num q48.kids (Sh.AE h2).symm _ (AS [0,1,2,3,4,5] U (by decide) rfl U (.raw U U (.pure (AB fun _=>U) (.raw U U (.raw U U (.raw U U (.raw U U .nil)))))) (.same U)))
     ·intro b45 h2
      exact AR (M40 q35.1.op q35.1.num q35.1.kids (Sh.AE h2).symm _ (AG U))
    refine AL U (zm tb 3 U ?_)
    rcases Sh.Am h3 with ⟨b49,h3⟩ | ⟨b49,h3⟩
    ·refine zg tb b49 U (bs h3 fun c50 gc50 h3=>B3 (v:=(.Al (eI c50) 0)) (Bw U U b49) rfl (CZ A4 U U gc50 U) (zg tb b49 U (zg tb b49 U (zt b49 U ?_))))
     exact AA (M44 (decide (c50=2)) (Sh.AE h3).symm _ (AS [0,1,2,3,5,6] U (by decide) rfl U (.raw U U (.pure (AB fun _=>U) (.raw U U (.raw U U (.raw U U (.raw U U .nil)))))) (.same U)))
    ·refine zs b49 U ?_
     iterate 3 refine zs b49 rfl ?_
     refine zf b49 U ?_
     exact AA (M44 false (Sh.AE h3).symm _ (AS [0,1,2,3,5,6] U (by decide) rfl U (.raw U U (.pure (AB fun _=>U) (.raw U U (.raw U U (.raw U U (.raw U U .nil)))))) (.same U)))
   ·intro b33 h1
    refine sr U fun K51 hK51=>zm tb 3 U (zz (.ptr 1 0 (Int.toNat p2) 0) (Bn DD U U U U gc3) rfl (zq tb U (zz (i64 c3.result) (B1 F6 U U (Bs gc3) rfl) rfl (zq tb U (dn hK51 U ?_)))))
    refine ci h1 U ?_ ?_ <;> clear h1
    ·intro b52 h1
     refine AN (Wk.A7 (L:=[(0,(.ptr 0 0 0 0)),(2,(i64 p2)),(3,(i64 p3)),(5,(.ptr 2 0 0 0)),(8,(.ptr 3 0 0 0)),(9,(ls eI c3.params)),(11,(ls eI q6)),(14,(.Al [(i64 q17.op),(i64 q17.num),(ls AD q17.kids)] 0)),(15,(.ptr 5 0 0 0))]) (st':=[(A8 s0_0 f31),(ro 0 52 5 AJ s1),⟨0,31,2,[[(ls AI p1_0),(ow 1 0 s1)]]⟩,B5,⟨1,3,1,[]⟩,(DJ q17.op q17.num q17.kids)]) (id:=4) rfl (show 2≤4 by decide) (AB fun _=>U) ⟨.rfl,.rfl,.rfl,.rfl,.rfl,.rfl,(.A7 U),.rfl,.rfl,trivial⟩ U) ?_
     refine AN (CA (L:=[(0,(.ptr 0 0 0 0)),(2,(i64 p2)),(3,(i64 p3)),(5,(.ptr 2 0 0 0)),(8,(.ptr 3 0 0 0)),(9,(ls eI c3.params)),(11,(ls eI q6)),(14,(.Al [(i64 q17.op),(i64 q17.num),(ls AD q17.kids)] 0)),(15,(.ptr 5 0 0 0))]) (st':=[(A8 s0_0 f31),(ro 0 52 5 AJ s1),⟨0,31,2,[[(ls AI p1_0),(ow 1 0 s1)]]⟩,B5,⟨0,3,1,[]⟩,(DJ q17.op q17.num q17.kids)]) (.raw U U U (.pure U (AB fun _=>U) (.raw U U U (.raw U U U (.pure U (by intro x hx;cases hx) (.raw U U U .nil)))))) (.same U)) ?_
     refine BO [(ro 0 52 5 AJ s1),⟨0,31,2,[[(ls AI p1_0),(ow 1 0 s1)]]⟩,B5,⟨0,3,1,[]⟩,(DJ q17.op q17.num q17.kids)] 10 (by kernel_rfl) (by kernel_rfl) (by kernel_rfl) (by rfl) ?_
     refine BD (.ptr 0 0 0 0) AM U (fun _ _=>BL U) ?_
     refine D9 AM (fun x0 zz=>E9 (l:=[(1:Int),2]) (enc:=eI) AM A4 (by decide) rfl U U U U (AB fun _=>U) (Ax U)) ?_
     refine bs h1 fun q53 gq53 h1=>?_
     refine E2 (rows0:=[(A8 s0_0 f31)]) (rows1:=[(A8 s0_0 q53.2)]) (v':=(i64 q53.1)) (y0:=(A8 s0_0 q53.2)) [0] AM H5 (BU gq53) rfl (by decide) rfl U (.raw U U .nil) rfl U (fun _=>(.raw U U .nil)) (fun _=>U) rfl ?_
     refine BD (.ptr 0 0 0 0) AM U (fun _ _=>BL U) (BD (.agg [(ls AI p1_0),(ow 1 0 s1)]) AM U (fun _ _=>A9 FA U U U (show 0+2≤2 by decide) rfl) (BD (ls eI q6) AM U (fun _ _=>BL U) (bs h1 fun q54 gq54 h1=>?_)))
     refine E2 (rows0:=[(A8 s0_0 q53.2),(ro 0 52 5 AJ s1)]) (rows1:=[(A8 s0_0 q54.2),(ro 0 52 5 AJ s1)]) (v':=(.agg [(i64 q54.1.op),(i64 q54.1.num),(ls AD q54.1.kids)])) (y0:=(A8 s0_0 q54.2)) [0,1] AM HI (Ec gq54) rfl (by decide) rfl U (.raw U U (.pure (AB fun _=>U) .nil)) rfl U (fun _=>(.raw U U (.pure (AB fun _=>U) .nil))) (fun _=>U) rfl ?_
     refine BD (.agg [(i64 q17.op),(i64 q17.num),(ls AD q17.kids)]) AM U (fun _ _=>Fu BN U (show 0+3≤3 by decide) rfl) ?_
     refine D9 AM (fun x0 zz=>E9 (l:=[q54.1,q17]) (enc:=AD) AM BV (by decide) rfl U U (by simp only[List.map,Ap];rfl) rfl (AB Ag) (Ax U)) ?_
     refine bs h1 fun q55 gq55 h1=>D9 AM (fun x0 zz=>BS (v:=(.agg [(i64 q55.op),(i64 q55.num),(ls AD q55.kids)])) AM DB (BH gq55) rfl U U (Ax U)) (Di U (Az AM BN U U U U U U (show 0+3≤3 by decide) rfl ?_))
     exact AA (M24 q54.2 q55.op q55.num q55.kids (Sh.AE h1).symm _ (AS [0,1,2,3,5] U (by decide) rfl U (.raw U U (.pure (AB fun _=>U) (.raw U U (.raw U U (.raw U U .nil))))) (.same U)))
    ·intro b52 h1
     exact AR (M24 f31 q17.op q17.num q17.kids (Sh.AE h1).symm _ (AS [0,1,2,3,5] U (by decide) rfl U (.raw U U (.pure (AB fun _=>U) (.raw U U (.raw U U (.raw U U .nil))))) (.same U)))
  refine AL U (zm tb 3 U (zz (.ptr 1 0 (Int.toNat p2) 0) (Bn DD U U U U gc3) rfl (zq tb U (zz (i64 c3.result) (B1 F6 U U (Bs gc3) rfl) rfl (zm tb 2 U ?_)))))
  rcases Sh.Am h2 with ⟨b56,h2⟩ | ⟨b56,h2⟩
  ·refine zg tb b56 U (bs h2 fun q57 gq57 h2=>?_)
   refine Bc (rows0:=[(A8 s0_0 f13)]) (rows1:=[(A8 s0_0 q57.2)]) (st':=[(A8 s0_0 q57.2),(ro 0 52 5 AJ s1),⟨0,31,2,[[(ls AI p1_0),(ow 1 0 s1)]]⟩,B5,(ro 0 3 1 eI q6),⟨1,50,3,[]⟩,⟨1,50,3,[]⟩,(DJ q17.op q17.num q17.kids)]) (v':=(i64 q57.1)) [0] (Bw U U b56) Ez (Av gq57) rfl (by decide) rfl U (.raw U U .nil) rfl U (.raw U U .nil) .nil U U ?_
   refine zg tb b56 U (zt b56 U ?_)
   exact AA (M32 (decide (0 < q57.1)) q57.2 (Sh.AE h2).symm _ (AS [0,1,2,3,4,7] U (by decide) rfl U (.raw U U (.pure (AB fun _=>U) (.raw U U (.raw U U (.pure (AB fun _=>U) (.raw U U .nil)))))) (.same U)))
  ·refine zs b56 U (zs b56 U (zs b56 U (zf b56 U ?_)))
   exact AA (M32 false f13 (Sh.AE h2).symm _ (AS [0,1,2,3,4,7] U (by decide) rfl U (.raw U U (.pure (AB fun _=>U) (.raw U U (.raw U U (.pure (AB fun _=>U) (.raw U U .nil)))))) (.same U)))
 refine Ab (Ay (σ:=Int×Int×(List AP)) (fun n v=>DV c3 s0_0 p3 n v.1 v.2.1 v.2.2=some o15) (fun (i10,f11,l12)=>⟨136,Aa [(0,(.ptr 0 0 0 0)),(2,(i64 p2)),(3,(i64 p3)),(5,(.ptr 2 0 0 0)),(8,(.ptr 3 0 0 0)),(9,(ls eI c3.params)),(10,(i64 (Sh.len c3.params))),(11,(ow 4 0 q6)),(12,(ow 5 0 l12)),(13,(i64 i10))],[(A8 s0_0 f11),(ro 0 52 5 AJ s1),⟨0,31,2,[[(ls AI p1_0),(ow 1 0 s1)]]⟩,B5,(ro 0 3 1 eI q6),(ro 0 50 3 AD l12)]⟩) N (0,s0_1,[]) h1 (AS [0,1,2,3,5,6] U (by decide) rfl U (.raw U U (.pure (AB fun _=>U) (.raw U U (.raw U U (.pure (AB fun _=>U) (.pure (AB Ag) .nil)))))) (.same U)) (fun _ hv=>by rw[DV] at hv;cases hv) ?_)
 rintro n ⟨i10,f11,l12⟩ h1
 try dsimp only at h1 ⊢
 rw[DV] at h1
 refine AH fun K58 hK58=>zr tb U U ?_
 refine ci h1 U ?_ ?_ <;> clear h1
 ·intro b60 h1
  refine AR (hK58 _ (AH fun K61 hK61=>bs h1 fun o64 h2 h1=>?_))
  have M64 :∀(f62:Int) (l63:(List AP)),o64=(f62,l63)→∀s,Wk 2 s ⟨136,Aa [(0,(.ptr 0 0 0 0)),(2,(i64 p2)),(3,(i64 p3)),(5,(.ptr 2 0 0 0)),(8,(.ptr 3 0 0 0)),(9,(ls eI c3.params)),(10,(i64 (Sh.len c3.params))),(11,(ow 4 0 q6)),(12,(ow 5 0 l63)),(13,(i64 i10))],[(A8 s0_0 f62),(ro 0 52 5 AJ s1),⟨0,31,2,[[(ls AI p1_0),(ow 1 0 s1)]]⟩,B5,(ro 0 3 1 eI q6),(ro 0 50 3 AD l63)]⟩→K61 s:=by
   intro f62 l63 hq s hw
   subst o64
   try dsimp only at h1
   exact hK61 _ (AN hw (AL U (zm tb 3 U (AA (xi (Sh.w (i10+1),f62,l63) h1 (AG U))))))
  refine Ab (zr tb U U ?_)
  refine ci h2 U ?_ ?_ <;> clear h2
  ·intro b66 h2
   refine AL U (zm tb 3 U (bs h2 fun q67 gq67 h2=>zc (v':=(.agg [(i64 q67.op),(i64 q67.num),(ls AD q67.kids)])) Gv (Bm gq67) rfl U U ?_))
   refine A3 (m:=6) (l:=[q67]) (enc:=AD) AM BV (by decide) rfl U (by simp only[List.map,Ap];rfl) rfl U U ?_
   refine bs h2 fun l68 gl68 h2=>CB (l2:=[q67]) AM BV U U U U (EO U U C0) B8 gl68 U (zq tb U ?_)
   exact AA (M64 f11 l68 (Sh.AE h2).symm _ (by refine Wk.trans (CA (L:=[(0,(.ptr 0 0 0 0)),(2,(i64 p2)),(3,(i64 p3)),(5,(.ptr 2 0 0 0)),(8,(.ptr 3 0 0 0)),(9,(ls eI c3.params)),(10,(i64 (Sh.len c3.params))),(11,(ow 4 0 q6)),(12,(ow 5 0 l68)),(13,(i64 i10))]) (st':=[(A8 s0_0 f11),(ro 0 52 5 AJ s1),⟨0,31,2,[[(ls AI p1_0),(ow 1 0 s1)]]⟩,B5,(ro 0 3 1 eI q6),(ro 0 50 3 AD l68),(ro 0 50 3 AD [q67])]) (.raw U U U (.pure U (AB fun _=>U) (.raw U U U (.raw U U U (.pure U (AB fun _=>U) (.pure U (AB Ag) (.pure U (AB Ag) .nil))))))) (.same U)) ?_;exact AS [0,1,2,3,4,5] U (by decide) rfl U (.raw U U (.pure (AB fun _=>U) (.raw U U (.raw U U (.pure (AB fun _=>U) (.pure (AB Ag) .nil)))))) (.same U)))
  ·intro b66 h2
   refine AH fun K69 hK69=>bs h2 fun o72 h3 h2=>?_
   have M72 :∀(t70:Bool) (f71:Int),o72=(t70,f71)→∀s,Wk 2 s ⟨136,Aa [(0,(.ptr 0 0 0 0)),(2,(i64 p2)),(3,(i64 p3)),(5,(.ptr 2 0 0 0)),(8,(.ptr 3 0 0 0)),(9,(ls eI c3.params)),(10,(i64 (Sh.len c3.params))),(11,(ow 4 0 q6)),(12,(ow 5 0 l12)),(13,(i64 i10)),(52,(.bool t70))],[(A8 s0_0 f71),(ro 0 52 5 AJ s1),⟨0,31,2,[[(ls AI p1_0),(ow 1 0 s1)]]⟩,B5,(ro 0 3 1 eI q6),(ro 0 50 3 AD l12)]⟩→K69 s:=by
    intro t70 f71 hq s hw
    subst o72
    try dsimp only at h2
    refine hK69 _ (AN hw ?_)
    refine ci h2 U ?_ ?_ <;> clear h2
    ·intro b73 h2
     refine AL U (zm tb 2 U (bs h2 fun q74 gq74 h2=>zc (v':=(.agg [(i64 q74.op),(i64 q74.num),(ls AD q74.kids)])) Gv (Bm gq74) rfl U U (zq tb U (bs h2 fun q75 gq75 h2=>zc (v':=(.agg [(i64 q75.op),(i64 q75.num),(ls AD q75.kids)])) Gv (Bm gq75) rfl U U ?_))))
     refine A3 (m:=6) (l:=[q74,q75]) (enc:=AD) AM BV (by decide) rfl U (by simp only[List.map,Ap];rfl) rfl U U ?_
     refine Ad (Wk.A7 (L:=[(0,(.ptr 0 0 0 0)),(2,(i64 p2)),(3,(i64 p3)),(5,(.ptr 2 0 0 0)),(8,(.ptr 3 0 0 0)),(9,(ls eI c3.params)),(10,(i64 (Sh.len c3.params))),(11,(ow 4 0 q6)),(13,(i64 i10)),(53,(ow 5 0 l12)),(58,(ls AD [q74,q75]))]) (st':=[(A8 s0_0 f71),(ro 0 52 5 AJ s1),⟨0,31,2,[[(ls AI p1_0),(ow 1 0 s1)]]⟩,B5,(ro 0 3 1 eI q6),(ro 0 50 3 AD l12),⟨1,50,3,[]⟩]) (id:=6) rfl (show 2≤6 by decide) (AB Ag) ⟨.rfl,.rfl,.rfl,.rfl,.rfl,.rfl,.rfl,.rfl,.rfl,.rfl,(.A7 U),trivial⟩ U) (bs h2 fun q76 gq76 h2=>zc (v':=(.agg [(i64 q76.op),(i64 q76.num),(ls AD q76.kids)])) DB (BH gq76) rfl U U ?_)
     refine A3 (m:=7) (l:=[q76]) (enc:=AD) AM BV (by decide) rfl U (by simp only[List.map,Ap];rfl) rfl U U ?_
     refine bs h2 fun l77 gl77 h2=>CB (l2:=[q76]) AM BV U U U U (EO U U C0) B8 gl77 U (zq tb U ?_)
     exact AA (M64 f71 l77 (Sh.AE h2).symm _ (by refine Wk.trans (CA (L:=[(0,(.ptr 0 0 0 0)),(2,(i64 p2)),(3,(i64 p3)),(5,(.ptr 2 0 0 0)),(8,(.ptr 3 0 0 0)),(9,(ls eI c3.params)),(10,(i64 (Sh.len c3.params))),(11,(ow 4 0 q6)),(12,(ow 5 0 l77)),(13,(i64 i10))]) (st':=[(A8 s0_0 f71),(ro 0 52 5 AJ s1),⟨0,31,2,[[(ls AI p1_0),(ow 1 0 s1)]]⟩,B5,(ro 0 3 1 eI q6),(ro 0 50 3 AD l77),⟨0,50,3,[]⟩,(ro 0 50 3 AD [q76])]) (.raw U U U (.pure U (AB fun _=>U) (.raw U U U (.raw U U U (.pure U (AB fun _=>U) (.pure U (AB Ag) (.pure U (by intro x hx;cases hx) (.pure U (AB Ag) .nil)))))))) (.same U)) ?_;exact AS [0,1,2,3,4,5] U (by decide) rfl U (.raw U U (.pure (AB fun _=>U) (.raw U U (.raw U U (.pure (AB fun _=>U) (.pure (AB Ag) .nil)))))) (.same U)))
    ·intro b73 h2
     refine AL U (zm tb 2 U (bs h2 fun q78 gq78 h2=>zc (v':=(.agg [(i64 q78.op),(i64 q78.num),(ls AD q78.kids)])) Gv (Bm gq78) rfl U U ?_))
     refine A3 (m:=6) (l:=[q78]) (enc:=AD) AM BV (by decide) rfl U (by simp only[List.map,Ap];rfl) rfl U U ?_
     refine bs h2 fun l79 gl79 h2=>CB (l2:=[q78]) AM BV U U U U (EO U U C0) B8 gl79 U (zq tb U ?_)
     exact AA (M64 f71 l79 (Sh.AE h2).symm _ (by refine Wk.trans (CA (L:=[(0,(.ptr 0 0 0 0)),(2,(i64 p2)),(3,(i64 p3)),(5,(.ptr 2 0 0 0)),(8,(.ptr 3 0 0 0)),(9,(ls eI c3.params)),(10,(i64 (Sh.len c3.params))),(11,(ow 4 0 q6)),(12,(ow 5 0 l79)),(13,(i64 i10))]) (st':=[(A8 s0_0 f71),(ro 0 52 5 AJ s1),⟨0,31,2,[[(ls AI p1_0),(ow 1 0 s1)]]⟩,B5,(ro 0 3 1 eI q6),(ro 0 50 3 AD l79),(ro 0 50 3 AD [q78])]) (.raw U U U (.pure U (AB fun _=>U) (.raw U U U (.raw U U U (.pure U (AB fun _=>U) (.pure U (AB Ag) (.pure U (AB Ag) .nil))))))) (.same U)) ?_;exact AS [0,1,2,3,4,5] U (by decide) rfl U (.raw U U (.pure (AB fun _=>U) (.raw U U (.raw U U (.pure (AB fun _=>U) (.pure (AB Ag) .nil)))))) (.same U)))
   refine AL U (zm tb 2 U (bs h3 fun c80 gc80 h3=>zx A4 gc80 U U U (zm tb 3 U ?_)))
   rcases Sh.Am h3 with ⟨b81,h3⟩ | ⟨b81,h3⟩
   ·refine zg tb b81 U (bs h3 fun q82 gq82 h3=>?_)
    refine Bc (rows0:=[(A8 s0_0 f11)]) (rows1:=[(A8 s0_0 q82.2)]) (st':=[(A8 s0_0 q82.2),(ro 0 52 5 AJ s1),⟨0,31,2,[[(ls AI p1_0),(ow 1 0 s1)]]⟩,B5,(ro 0 3 1 eI q6),(ro 0 50 3 AD l12)]) (v':=(i64 q82.1)) [0] (Bw U U b81) Ez (Av gq82) rfl (by decide) rfl U (.raw U U .nil) rfl U (.raw U U .nil) .nil U U ?_
    exact zg tb b81 U (zt b81 U (AA (M72 (decide (q82.1=0)) q82.2 (Sh.AE h3).symm _ (AG U))))
   ·exact zs b81 U (zs b81 U (zs b81 U (zf b81 U (AA (M72 false f11 (Sh.AE h3).symm _ (AG U))))))
 ·intro b60 h1
  exact A5 (M15 f11 l12 (Sh.AE h1).symm _ (AG U))
theorem OL {N:Nat} {s0_0:(List Int)} {s0_1:Int} {s1:(List Ar)} {p1_0:(List Ac)} {p2:Int} {r:AP×Int} (h0:Gq N s0_0 s0_1 s1 p1_0 p2=some r):Ai Try.prog 115 [(.ptr 0 0 0 0),(.agg [(ls AI p1_0),(ow 1 0 s1)]),(i64 p2)] [(A8 s0_0 s0_1),(ro 0 52 5 AJ s1)] (fun v st=>v=(.agg [(i64 r.1.op),(i64 r.1.num),(ls AD r.1.kids)])∧st=[(A8 s0_0 r.2),(ro 0 52 5 AJ s1)]):=by
 unfold Gq at h0
 refine Ai.wk (r0:=(.agg [(i64 r.1.op),(i64 r.1.num),(ls AD r.1.kids)])) (st0:=[(A8 s0_0 r.2),(ro 0 52 5 AJ s1),(DJ r.1.op r.1.num r.1.kids)]) ?_ (EG (L:=[(0,(.agg [(i64 r.1.op),(i64 r.1.num),(ls AD r.1.kids)]))]) (st':=[(A8 s0_0 r.2),(ro 0 52 5 AJ s1)]) [0,1] U (by decide) rfl U (.raw U (.pure (AB fun _=>U) trivial)) (.same U))
 refine ai Try.func115 U U U U (sr U fun K1 hK1=>Bl (m:=2) AM U U U U U (A1 (m:=3) AM EI U U (dn hK1 U (sr U fun K2 hK2=>zm tb 3 U (bs h0 fun c3 gc3 h0=>zz (.ptr 1 0 (Int.toNat p2) 0) (Bn DD U U U U gc3) rfl (zq tb U (zz (ls eI c3.params) (B1 Le U U (Bs gc3) rfl) rfl (zq tb U ?_))))))))
 refine dn hK2 U (sr U fun K4 hK4=>zq tb U (zl tb U U (zq tb U (dn hK4 U (sr U fun K5 hK5=>zq tb U (bs h0 fun q6 gq6 h0=>zc (v':=(.agg [(i64 q6.op),(i64 q6.num),(ls AD q6.kids)])) Gv (Bm gq6) rfl U U ?_))))))
 refine A3 (m:=4) (l:=[q6]) (enc:=AD) AM BV (by decide) rfl U (by simp only[List.map,Ap];rfl) rfl U U ?_
 refine zq tb U (dn hK5 U (sr U fun K7 hK7=>zm tb 2 U (bs h0 fun q8 gq8 h0=>zc (v':=(.agg [(i64 q8.op),(i64 q8.num),(ls AD q8.kids)])) Gv (Bm gq8) rfl U U ?_)))
 refine A3 (m:=5) (l:=[q8]) (enc:=AD) AM BV (by decide) rfl U (by simp only[List.map,Ap];rfl) rfl U U ?_
 refine zq tb U (dn hK7 U (AH fun K9 hK9=>zr tb U U (bs h0 fun o16 h1 h0=>?_)))
 have M16 :∀(l14:(List AP)) (l15:(List AP)),o16=(l14,l15)→∀s,Wk 2 s ⟨96,Aa [(0,(.ptr 0 0 0 0)),(2,(i64 p2)),(4,(.ptr 2 0 0 0)),(6,(.ptr 3 0 0 0)),(7,(ls eI c3.params)),(8,(i64 (Sh.len c3.params))),(9,(ow 4 0 l14)),(10,(ow 5 0 l15))],[(A8 s0_0 s0_1),(ro 0 52 5 AJ s1),⟨0,31,2,[[(ls AI p1_0),(ow 1 0 s1)]]⟩,B5,(ro 0 50 3 AD l14),(ro 0 50 3 AD l15)]⟩→K9 s:=by
  intro l14 l15 hq s hw
  subst o16
  try dsimp only at h0
  refine hK9 _ (AN hw (sr U fun K17 hK17=>zm tb 2 U (Ad (Wk.A7 (L:=[(0,(.ptr 0 0 0 0)),(2,(i64 p2)),(4,(.ptr 2 0 0 0)),(6,(.ptr 3 0 0 0)),(7,(ls eI c3.params)),(8,(i64 (Sh.len c3.params))),(10,(ow 5 0 l15)),(45,(i64 p2)),(46,(ls AD l14))]) (st':=[(A8 s0_0 s0_1),(ro 0 52 5 AJ s1),⟨0,31,2,[[(ls AI p1_0),(ow 1 0 s1)]]⟩,B5,⟨1,50,3,[]⟩,(ro 0 50 3 AD l15)]) (id:=4) rfl (show 2≤4 by decide) (AB Ag) ⟨.rfl,.rfl,.rfl,.rfl,.rfl,.rfl,.rfl,.rfl,(.A7 U),trivial⟩ U) (bs h0 fun q18 gq18 h0=>zc (v':=(.agg [(i64 q18.op),(i64 q18.num),(ls AD q18.kids)])) DB (BH gq18) rfl U U (A1 (m:=6) AM EI U U (Az AM BN U U U U U U (show 0+3≤3 by decide) rfl (Ad (Wk.A7 (L:=[(0,(.ptr 0 0 0 0)),(2,(i64 p2)),(4,(.ptr 2 0 0 0)),(6,(.ptr 3 0 0 0)),(7,(ls eI c3.params)),(8,(i64 (Sh.len c3.params))),(10,(ow 5 0 l15)),(12,(.Al [(i64 q18.op),(i64 q18.num),(ls AD q18.kids)] 0))]) (st':=[(A8 s0_0 s0_1),(ro 0 52 5 AJ s1),⟨0,31,2,[[(ls AI p1_0),(ow 1 0 s1)]]⟩,B5,⟨1,50,3,[]⟩,(ro 0 50 3 AD l15),⟨1,50,3,[]⟩]) (id:=6) rfl (show 2≤6 by decide) (Cz U) (.same U) rfl) (dn hK17 U (sr U fun K19 hK19=>zm tb 2 U ?_)))))))))
  refine Ad (Wk.A7 (L:=[(0,(.ptr 0 0 0 0)),(2,(i64 p2)),(4,(.ptr 2 0 0 0)),(6,(.ptr 3 0 0 0)),(7,(ls eI c3.params)),(8,(i64 (Sh.len c3.params))),(12,(.Al [(i64 q18.op),(i64 q18.num),(ls AD q18.kids)] 0)),(48,(i64 p2)),(49,(ls AD l15))]) (st':=[(A8 s0_0 s0_1),(ro 0 52 5 AJ s1),⟨0,31,2,[[(ls AI p1_0),(ow 1 0 s1)]]⟩,B5,⟨1,50,3,[]⟩,⟨1,50,3,[]⟩,⟨1,50,3,[]⟩]) (id:=5) rfl (show 2≤5 by decide) (AB Ag) ⟨.rfl,.rfl,.rfl,.rfl,.rfl,.rfl,.rfl,.rfl,(.A7 U),trivial⟩ U) (bs h0 fun q20 gq20 h0=>zc (v':=(.agg [(i64 q20.op),(i64 q20.num),(ls AD q20.kids)])) DB (BH gq20) rfl U U (A1 (m:=7) AM EI U U (Az AM BN U U U U U U (show 0+3≤3 by decide) rfl (Ad (Wk.A7 (L:=[(0,(.ptr 0 0 0 0)),(2,(i64 p2)),(4,(.ptr 2 0 0 0)),(6,(.ptr 3 0 0 0)),(7,(ls eI c3.params)),(8,(i64 (Sh.len c3.params))),(12,(.Al [(i64 q18.op),(i64 q18.num),(ls AD q18.kids)] 0)),(13,(.Al [(i64 q20.op),(i64 q20.num),(ls AD q20.kids)] 0))]) (st':=[(A8 s0_0 s0_1),(ro 0 52 5 AJ s1),⟨0,31,2,[[(ls AI p1_0),(ow 1 0 s1)]]⟩,B5,⟨1,50,3,[]⟩,⟨1,50,3,[]⟩,⟨1,50,3,[]⟩,⟨1,50,3,[]⟩]) (id:=7) rfl (show 2≤7 by decide) (Cz U) (.same U) rfl) (dn hK19 U (AH fun K21 hK21=>?_))))))
  refine AN (CA (L:=[(0,(.ptr 0 0 0 0)),(2,(i64 p2)),(4,(.ptr 2 0 0 0)),(6,(.ptr 3 0 0 0)),(7,(ls eI c3.params)),(8,(i64 (Sh.len c3.params))),(12,(.Al [(i64 q18.op),(i64 q18.num),(ls AD q18.kids)] 0)),(13,(.Al [(i64 q20.op),(i64 q20.num),(ls AD q20.kids)] 0))]) (st':=[(A8 s0_0 s0_1),(ro 0 52 5 AJ s1),⟨0,31,2,[[(ls AI p1_0),(ow 1 0 s1)]]⟩,B5,⟨0,50,3,[]⟩,⟨0,50,3,[]⟩,⟨0,50,3,[]⟩,⟨0,50,3,[]⟩]) (.raw U U U (.pure U (AB fun _=>U) (.raw U U U (.raw U U U (.pure U (by intro x hx;cases hx) (.pure U (by intro x hx;cases hx) (.pure U (by intro x hx;cases hx) (.pure U (by intro x hx;cases hx) .nil)))))))) (.same U)) ?_
  refine BO [(ro 0 52 5 AJ s1),⟨0,31,2,[[(ls AI p1_0),(ow 1 0 s1)]]⟩,B5,⟨0,50,3,[]⟩,⟨0,50,3,[]⟩,⟨0,50,3,[]⟩,⟨0,50,3,[]⟩] 13 (by kernel_rfl) (by kernel_rfl) (by kernel_rfl) (by rfl) ?_
  refine BD (.agg [(i64 q18.op),(i64 q18.num),(ls AD q18.kids)]) AM U (fun _ _=>Fu BN U (show 0+3≤3 by decide) rfl) (BD (.ptr 0 0 0 0) AM U (fun _ _=>BL U) (BD (.agg [(ls AI p1_0),(ow 1 0 s1)]) AM U (fun _ _=>A9 FA U U U (show 0+2≤2 by decide) rfl) (BD (ls eI c3.params) AM U (fun _ _=>BL U) ?_)))
  refine D9 AM (fun x0 zz=>E9 (l:=[(3:Int),0,3]) (enc:=eI) AM A4 (by decide) rfl U U U U (AB fun _=>U) (Ax U)) ?_
  refine bs h0 fun q22 gq22 h0=>?_
  refine D9 AM (fun x0 zz=>BS (v:=(ls eI q22)) AM Nh (Ai.wk (D8 gq22) (by refine Wk.trans (Wk.A7 (L:=[(0,(ls eI q22))]) (st':=[⟨1,3,1,[]⟩]) (id:=0) rfl (show 0≤0 by decide) (AB fun _=>U) ⟨(.A7 U),trivial⟩ U) ?_;exact AS [] U (by decide) rfl U .nil (.same U))) rfl U U (Ax U)) ?_
  refine bs h0 fun q23 gq23 h0=>?_
  refine E2 (rows0:=[(A8 s0_0 s0_1),(ro 0 52 5 AJ s1)]) (rows1:=[(A8 s0_0 q23.2),(ro 0 52 5 AJ s1)]) (v':=(.agg [(i64 q23.1.op),(i64 q23.1.num),(ls AD q23.1.kids)])) (y0:=(A8 s0_0 q23.2)) [0,1] AM HI (Ec gq23) rfl (by decide) rfl U (.raw U U (.pure (AB fun _=>U) .nil)) rfl U (fun _=>(.raw U U (.pure (AB fun _=>U) .nil))) (fun _=>U) rfl ?_
  refine BD (.agg [(i64 q20.op),(i64 q20.num),(ls AD q20.kids)]) AM U (fun _ _=>Fu BN U (show 0+3≤3 by decide) rfl) ?_
  refine D9 AM (fun x0 zz=>E9 (l:=[q23.1,q20]) (enc:=AD) AM BV (by decide) rfl U U (by simp only[List.map,Ap];rfl) rfl (AB Ag) (Ax U)) ?_
  refine bs h0 fun q24 gq24 h0=>D9 AM (fun x0 zz=>BS (v:=(.agg [(i64 q24.op),(i64 q24.num),(ls AD q24.kids)])) AM DB (BH gq24) rfl U U (Ax U)) ?_
  refine D9 AM (fun x0 zz=>E9 (l:=[q18,q24]) (enc:=AD) AM BV (by decide) rfl U U (by simp only[List.map,Ap];rfl) rfl (AB Ag) (Ax U)) ?_
  refine bs h0 fun q25 gq25 h0=>D9 AM (fun x0 zz=>BS (v:=(.agg [(i64 q25.op),(i64 q25.num),(ls AD q25.kids)])) AM DB (BH gq25) rfl U U (Ax U)) (Ta EI U (Di U (Az AM BN U U U U U U (show 0+3≤3 by decide) rfl (dn hK21 U (AH fun K26 hK26=>bs h0 fun o31 h1 h0=>?_)))))
  have M31 :∀(f27:Int) (f28:Int) (f29:Int) (f30:(List AP)),o31=(f27,f28,f29,f30)→∀s,Wk 2 s ⟨96,Aa [(0,(.ptr 0 0 0 0)),(2,(i64 p2)),(4,(.ptr 2 0 0 0)),(6,(.ptr 3 0 0 0)),(7,(ls eI c3.params)),(14,(.ptr 4 0 0 0))],[(A8 s0_0 f27),(ro 0 52 5 AJ s1),⟨0,31,2,[[(ls AI p1_0),(ow 1 0 s1)]]⟩,B5,(DJ f28 f29 f30)]⟩→K26 s:=by
   intro f27 f28 f29 f30 hq s hw
   subst o31
   try dsimp only at h0
   refine hK26 _ (AN hw (AH fun K32 hK32=>?_))
   refine BO [(ro 0 52 5 AJ s1),⟨0,31,2,[[(ls AI p1_0),(ow 1 0 s1)]]⟩,B5,(DJ f28 f29 f30)] 14 (by kernel_rfl) (by kernel_rfl) (by kernel_rfl) (by rfl) ?_
   refine bs h0 fun q33 gq33 h0=>D9 AM (fun x0 zz=>BS (v:=(.agg [(i64 q33.op),(i64 q33.num),(ls AD q33.kids)])) AM Gv (Bm gq33) rfl U U (Ax U)) (BD (.ptr 0 0 0 0) AM U (fun _ _=>BL U) (BD (.agg [(ls AI p1_0),(ow 1 0 s1)]) AM U (fun _ _=>A9 FA U U U (show 0+2≤2 by decide) rfl) (BD (ls eI c3.params) AM U (fun _ _=>BL U) (BD (.ptr 2 0 0 1) AM U (fun _ _=>F8 Ka U U (show 0+1≤2 by decide) rfl) (BD (ow 1 0 s1) AM U (fun _ _=>B1 Mn U U U U) (BD (i64 p2) AM U (fun _ _=>BL U) (BD (.ptr 1 0 (Int.toNat p2) 0) AM U (fun _ _=>Bn DD U U U U gc3) (BD (.ptr 1 0 (Int.toNat p2) 1) AM U (fun _ _=>F8 Nm U U (show 0+1≤5 by decide) rfl) (BD (i64 c3.result) AM U (fun _ _=>B1 F6 U U (Bs gc3) rfl) (bs h0 fun q34 gq34 h0=>?_))))))))))
   refine E2 (rows0:=[(A8 s0_0 f27),(ro 0 52 5 AJ s1)]) (rows1:=[(A8 s0_0 q34.2),(ro 0 52 5 AJ s1)]) (v':=(.agg [(i64 q34.1.op),(i64 q34.1.num),(ls AD q34.1.kids)])) (y0:=(A8 s0_0 q34.2)) [0,1] AM HI (Ec gq34) rfl (by decide) rfl U (.raw U U (.pure (AB fun _=>U) .nil)) rfl U (fun _=>(.raw U U (.pure (AB fun _=>U) .nil))) (fun _=>U) rfl ?_
   refine BD (.agg [(i64 f28),(i64 f29),(ls AD f30)]) AM U (fun _ _=>A9 BN U U U (show 0+3≤3 by decide) rfl) ?_
   refine D9 AM (fun x0 zz=>E9 (l:=[q33,q34.1,(AP.mk f28 f29 f30)]) (enc:=AD) AM BV (by decide) rfl U U (by simp only[List.map,Ap];rfl) rfl (AB Ag) (Ax U)) ?_
   refine bs h0 fun q35 gq35 h0=>D9 AM (fun x0 zz=>BS (v:=(.agg [(i64 q35.op),(i64 q35.num),(ls AD q35.kids)])) AM DB (BH gq35) rfl U U (Ax U)) (Di U (Az AM BN U U U U U U (show 0+3≤3 by decide) rfl (dn hK32 U ?_)))
   replace h0:=Sh.AE h0
   subst r
   exact AU (Exists.intro _ (And.intro ((AS (L:=[(6,(.ptr 2 0 0 0))]) (st':=[(A8 s0_0 q34.2),(ro 0 52 5 AJ s1),(DJ q35.op q35.num q35.kids)]) [0,1,3] U (by decide) rfl U (.raw U U (.pure (AB fun _=>U) (.raw U U .nil))) (.same U)).trans (Ah (L:=[(6,(.ptr 2 0 0 0))]) (.same U))) (A9 (x:=.tmp 6) (off:=0) (cs:=[(i64 q35.op),(i64 q35.num),(ls AD q35.kids)]) (vs:=[(i64 q35.op),(i64 q35.num),(ls AD q35.kids)]) BN U U U (show 0+3≤3 by decide) rfl _ ⟨U,U⟩)))
  refine sr U fun K36 hK36=>zm tb 3 U (zz (.ptr 1 0 (Int.toNat p2) 0) (Bn DD U U U U gc3) rfl (zq tb U (zz (i64 c3.result) (B1 F6 U U (Bs gc3) rfl) rfl (zq tb U (dn hK36 U ?_)))))
  refine ci h1 U ?_ ?_ <;> clear h1
  ·intro b37 h1
   refine BO [(ro 0 52 5 AJ s1),⟨0,31,2,[[(ls AI p1_0),(ow 1 0 s1)]]⟩,B5,⟨0,50,3,[]⟩,⟨0,50,3,[]⟩,⟨0,50,3,[]⟩,⟨0,50,3,[]⟩,(DJ q25.op q25.num q25.kids)] 12 (by kernel_rfl) (by kernel_rfl) (by kernel_rfl) (by rfl) ?_
   refine BD (.agg [(i64 q18.op),(i64 q18.num),(ls AD q18.kids)]) AM U (fun _ _=>Fu BN U (show 0+3≤3 by decide) rfl) (BD (.ptr 0 0 0 0) AM U (fun _ _=>BL U) (BD (.agg [(ls AI p1_0),(ow 1 0 s1)]) AM U (fun _ _=>A9 FA U U U (show 0+2≤2 by decide) rfl) (BD (ls eI c3.params) AM U (fun _ _=>BL U) ?_)))
   refine D9 AM (fun x0 zz=>E9 (l:=[(3:Int),0,3]) (enc:=eI) AM A4 (by decide) rfl U U U U (AB fun _=>U) (Ax U)) ?_
   refine bs h1 fun q38 gq38 h1=>?_
   refine D9 AM (fun x0 zz=>BS (v:=(ls eI q38)) AM Nh (Ai.wk (D8 gq38) (by refine Wk.trans (Wk.A7 (L:=[(0,(ls eI q38))]) (st':=[⟨1,3,1,[]⟩]) (id:=0) rfl (show 0≤0 by decide) (AB fun _=>U) ⟨(.A7 U),trivial⟩ U) ?_;exact AS [] U (by decide) rfl U .nil (.same U))) rfl U U (Ax U)) ?_
   refine bs h1 fun q39 gq39 h1=>?_
   refine E2 (rows0:=[(A8 s0_0 q23.2),(ro 0 52 5 AJ s1)]) (rows1:=[(A8 s0_0 q39.2),(ro 0 52 5 AJ s1)]) (v':=(.agg [(i64 q39.1.op),(i64 q39.1.num),(ls AD q39.1.kids)])) (y0:=(A8 s0_0 q39.2)) [0,1] AM HI (Ec gq39) rfl (by decide) rfl U (.raw U U (.pure (AB fun _=>U) .nil)) rfl U (fun _=>(.raw U U (.pure (AB fun _=>U) .nil))) (fun _=>U) rfl ?_
   refine BD (i64 (Sh.len c3.params)) AM U (fun _ _=>BL U) (BD (i64 (Sh.w ((Sh.len c3.params) + 2))) AM U (fun _ _=>Sd U U) (bs h1 fun q40 gq40 h1=>D9 AM (fun x0 zz=>BS (v:=(.agg [(i64 q40.op),(i64 q40.num),(ls AD q40.kids)])) AM Gv (Bm gq40) rfl U U (Ax U)) ?_))
   refine D9 AM (fun x0 zz=>E9 (l:=[q18,q39.1,q40]) (enc:=AD) AM BV (by decide) rfl U U (by simp only[List.map,Ap];rfl) rfl (AB Ag) (Ax U)) ?_
   refine bs h1 fun q41 gq41 h1=>D9 AM (fun x0 zz=>BS (v:=(.agg [(i64 q41.op),(i64 q41.num),(ls AD q41.kids)])) AM DB (BH gq41) rfl U U (Ax U)) (Di U (Az AM BN U U U U U U (show 0+3≤3 by decide) rfl ?_))
   exact AA (M31 q39.2 q41.op q41.num q41.kids (Sh.AE h1).symm _ (AS [0,1,2,3,8] U (by decide) rfl U (.raw U U (.pure (AB fun _=>U) (.raw U U (.raw U U (.raw U U .nil))))) (.same U)))
  ·intro b37 h1
   exact AR (M31 q23.2 q25.op q25.num q25.kids (Sh.AE h1).symm _ (AS [0,1,2,3,8] U (by decide) rfl U (.raw U U (.pure (AB fun _=>U) (.raw U U (.raw U U (.raw U U .nil))))) (.same U)))
 refine Ab (Ay (σ:=Int×(List AP)×(List AP)) (fun n v=>DR c3 n v.1 v.2.1 v.2.2=some o16) (fun (i11,l12,l13)=>⟨96,Aa [(0,(.ptr 0 0 0 0)),(2,(i64 p2)),(4,(.ptr 2 0 0 0)),(6,(.ptr 3 0 0 0)),(7,(ls eI c3.params)),(8,(i64 (Sh.len c3.params))),(9,(ow 4 0 l12)),(10,(ow 5 0 l13)),(11,(i64 i11))],[(A8 s0_0 s0_1),(ro 0 52 5 AJ s1),⟨0,31,2,[[(ls AI p1_0),(ow 1 0 s1)]]⟩,B5,(ro 0 50 3 AD l12),(ro 0 50 3 AD l13)]⟩) N (1,[q6],[q8]) h1 (AG U) (fun _ hv=>by rw[DR] at hv;cases hv) ?_)
 rintro n ⟨i11,l12,l13⟩ h1
 try dsimp only at h1 ⊢
 rw[DR] at h1
 refine AH fun K42 hK42=>zr tb U U ?_
 refine ci h1 U ?_ ?_ <;> clear h1
 ·intro b44 h1
  refine AR (hK42 _ (AH fun K45 hK45=>Ab (sr U fun K46 hK46=>zm tb 2 U (bs h1 fun q47 gq47 h1=>zc (v':=(.agg [(i64 q47.op),(i64 q47.num),(ls AD q47.kids)])) Gv (Bm gq47) rfl U U ?_))))
  refine A3 (m:=6) (l:=[q47]) (enc:=AD) AM BV (by decide) rfl U (by simp only[List.map,Ap];rfl) rfl U U ?_
  refine bs h1 fun l48 gl48 h1=>CB (l2:=[q47]) AM BV U U U U (EO U U C0) B8 gl48 U (zq tb U (dn hK46 U (AL U (zm tb 2 U (bs h1 fun q49 gq49 h1=>zc (v':=(.agg [(i64 q49.op),(i64 q49.num),(ls AD q49.kids)])) Gv (Bm gq49) rfl U U ?_)))))
  refine A3 (m:=7) (l:=[q49]) (enc:=AD) AM BV (by decide) rfl U (by simp only[List.map,Ap];rfl) rfl U U ?_
  refine bs h1 fun l50 gl50 h1=>CB (l2:=[q49]) AM BV U U U U (EO U U C0) B8 gl50 U (zq tb U (dn hK45 U (AL U (zm tb 3 U ?_))))
  exact AA (xi (Sh.w (i11+1),l48,l50) h1 (by refine Wk.trans (CA (L:=[(0,(.ptr 0 0 0 0)),(2,(i64 p2)),(4,(.ptr 2 0 0 0)),(6,(.ptr 3 0 0 0)),(7,(ls eI c3.params)),(8,(i64 (Sh.len c3.params))),(9,(ow 4 0 l48)),(10,(ow 5 0 l50)),(11,(i64 (Sh.w (i11+1))))]) (st':=[(A8 s0_0 s0_1),(ro 0 52 5 AJ s1),⟨0,31,2,[[(ls AI p1_0),(ow 1 0 s1)]]⟩,B5,(ro 0 50 3 AD l48),(ro 0 50 3 AD l50),(ro 0 50 3 AD [q47]),(ro 0 50 3 AD [q49])]) (.raw U U U (.pure U (AB fun _=>U) (.raw U U U (.raw U U U (.pure U (AB Ag) (.pure U (AB Ag) (.pure U (AB Ag) (.pure U (AB Ag) .nil)))))))) (.same U)) ?_;exact AS [0,1,2,3,4,5] U (by decide) rfl U (.raw U U (.pure (AB fun _=>U) (.raw U U (.raw U U (.pure (AB Ag) (.pure (AB Ag) .nil)))))) (.same U)))
 ·intro b44 h1
  exact A5 (M16 l12 l13 (Sh.AE h1).symm _ (AG U))
theorem OF {N:Nat} {s0_0:(List Int)} {s0_1:Int} {s1:(List Ar)} {p1_0:(List Ac)} {p2:Int} {r:AP×Int} (h0:G3 N s0_0 s0_1 s1 p1_0 p2=some r):Ai Try.prog 116 [(.ptr 0 0 0 0),(.agg [(ls AI p1_0),(ow 1 0 s1)]),(i64 p2)] [(A8 s0_0 s0_1),(ro 0 52 5 AJ s1)] (fun v st=>v=(.agg [(i64 r.1.op),(i64 r.1.num),(ls AD r.1.kids)])∧st=[(A8 s0_0 r.2),(ro 0 52 5 AJ s1)]):=by
 unfold G3 at h0
 refine Ai.wk (r0:=(.agg [(i64 r.1.op),(i64 r.1.num),(ls AD r.1.kids)])) (st0:=[(A8 s0_0 r.2),(ro 0 52 5 AJ s1),(DJ r.1.op r.1.num r.1.kids)]) ?_ (EG (L:=[(0,(.agg [(i64 r.1.op),(i64 r.1.num),(ls AD r.1.kids)]))]) (st':=[(A8 s0_0 r.2),(ro 0 52 5 AJ s1)]) [0,1] U (by decide) rfl U (.raw U (.pure (AB fun _=>U) trivial)) (.same U))
 refine ai Try.func116 U U U U (sr U fun K1 hK1=>Bl (m:=2) AM U U U U U (A1 (m:=3) AM EI U U (dn hK1 U (sr U fun K2 hK2=>zm tb 3 U (bs h0 fun c3 gc3 h0=>zz (.ptr 1 0 (Int.toNat p2) 0) (Bn DD U U U U gc3) rfl (zq tb U (zz (ls eI c3.params) (B1 Le U U (Bs gc3) rfl) rfl (zq tb U ?_))))))))
 refine dn hK2 U (sr U fun K4 hK4=>bs h0 fun q5 gq5 h0=>zc (v':=(.agg [(i64 q5.op),(i64 q5.num),(ls AD q5.kids)])) Gv (Bm gq5) rfl U U (bs h0 fun q6 gq6 h0=>zc (v':=(.agg [(i64 q6.op),(i64 q6.num),(ls AD q6.kids)])) Gw (Br gq6) rfl U U ?_))
 refine A3 (m:=4) (l:=[q5,q6]) (enc:=AD) AM BV (by decide) rfl U (by simp only[List.map,Ap];rfl) rfl U U ?_
 refine Ad (Wk.A7 (L:=[(0,(.ptr 0 0 0 0)),(2,(i64 p2)),(4,(.ptr 2 0 0 0)),(6,(.ptr 3 0 0 0)),(7,(ls eI c3.params)),(20,(ls AD [q5,q6]))]) (st':=[(A8 s0_0 s0_1),(ro 0 52 5 AJ s1),⟨0,31,2,[[(ls AI p1_0),(ow 1 0 s1)]]⟩,B5,⟨1,50,3,[]⟩]) (id:=4) rfl (show 2≤4 by decide) (AB Ag) ⟨.rfl,.rfl,.rfl,.rfl,.rfl,(.A7 U),trivial⟩ U) (bs h0 fun q7 gq7 h0=>zc (v':=(.agg [(i64 q7.op),(i64 q7.num),(ls AD q7.kids)])) DB (BH gq7) rfl U U ?_)
 refine A3 (m:=5) (l:=[q7]) (enc:=AD) AM BV (by decide) rfl U (by simp only[List.map,Ap];rfl) rfl U U ?_
 refine zq tb U (dn hK4 U (AH fun K8 hK8=>zr tb U U (bs h0 fun o15 h1 h0=>?_)))
 have M15 :∀(f13:Int) (l14:(List AP)),o15=(f13,l14)→∀s,Wk 2 s ⟨75,Aa [(0,(.ptr 0 0 0 0)),(2,(i64 p2)),(4,(.ptr 2 0 0 0)),(6,(.ptr 3 0 0 0)),(7,(ls eI c3.params)),(8,(ow 4 0 l14))],[(A8 s0_0 f13),(ro 0 52 5 AJ s1),⟨0,31,2,[[(ls AI p1_0),(ow 1 0 s1)]]⟩,B5,(ro 0 50 3 AD l14)]⟩→K8 s:=by
  intro f13 l14 hq s hw
  subst o15
  try dsimp only at h0
  refine hK8 _ (AN hw (sr U fun K16 hK16=>zm tb 2 U (Ad (Wk.A7 (L:=[(0,(.ptr 0 0 0 0)),(2,(i64 p2)),(4,(.ptr 2 0 0 0)),(6,(.ptr 3 0 0 0)),(7,(ls eI c3.params)),(40,(i64 p2)),(41,(ls AD l14))]) (st':=[(A8 s0_0 f13),(ro 0 52 5 AJ s1),⟨0,31,2,[[(ls AI p1_0),(ow 1 0 s1)]]⟩,B5,⟨1,50,3,[]⟩]) (id:=4) rfl (show 2≤4 by decide) (AB Ag) ⟨.rfl,.rfl,.rfl,.rfl,.rfl,.rfl,(.A7 U),trivial⟩ U) (bs h0 fun q17 gq17 h0=>zc (v':=(.agg [(i64 q17.op),(i64 q17.num),(ls AD q17.kids)])) DB (BH gq17) rfl U U (A1 (m:=5) AM EI U U (Az AM BN U U U U U U (show 0+3≤3 by decide) rfl (dn hK16 U (AH fun K18 hK18=>bs h0 fun o23 h1 h0=>?_))))))))
  have M23 :∀(f19:Int) (f20:Int) (f21:Int) (f22:(List AP)),o23=(f19,f20,f21,f22)→∀s,Wk 2 s ⟨75,Aa [(0,(.ptr 0 0 0 0)),(2,(i64 p2)),(4,(.ptr 2 0 0 0)),(6,(.ptr 3 0 0 0)),(7,(ls eI c3.params)),(10,(.ptr 4 0 0 0))],[(A8 s0_0 f19),(ro 0 52 5 AJ s1),⟨0,31,2,[[(ls AI p1_0),(ow 1 0 s1)]]⟩,B5,(DJ f20 f21 f22)]⟩→K18 s:=by
   intro f19 f20 f21 f22 hq s hw
   subst o23
   try dsimp only at h0
   refine hK18 _ (AN hw (sr U fun K24 hK24=>bs h0 fun q25 gq25 h0=>zc (v':=(.agg [(i64 q25.op),(i64 q25.num),(ls AD q25.kids)])) Gw (Br gq25) rfl U U (bs h0 fun q26 gq26 h0=>zc (v':=(.agg [(i64 q26.op),(i64 q26.num),(ls AD q26.kids)])) Gv (Bm gq26) rfl U U ?_)))
   refine A3 (m:=5) (l:=[q25,q26]) (enc:=AD) AM BV (by decide) rfl U (by simp only[List.map,Ap];rfl) rfl U U ?_
   refine Ad (Wk.A7 (L:=[(0,(.ptr 0 0 0 0)),(2,(i64 p2)),(4,(.ptr 2 0 0 0)),(6,(.ptr 3 0 0 0)),(7,(ls eI c3.params)),(10,(.ptr 4 0 0 0)),(59,(ls AD [q25,q26]))]) (st':=[(A8 s0_0 f19),(ro 0 52 5 AJ s1),⟨0,31,2,[[(ls AI p1_0),(ow 1 0 s1)]]⟩,B5,(DJ f20 f21 f22),⟨1,50,3,[]⟩]) (id:=5) rfl (show 2≤5 by decide) (AB Ag) ⟨.rfl,.rfl,.rfl,.rfl,.rfl,.rfl,(.A7 U),trivial⟩ U) (bs h0 fun q27 gq27 h0=>zc (v':=(.agg [(i64 q27.op),(i64 q27.num),(ls AD q27.kids)])) DB (BH gq27) rfl U U (A1 (m:=6) AM EI U U (Az AM BN U U U U U U (show 0+3≤3 by decide) rfl (Ad (Wk.A7 (L:=[(0,(.ptr 0 0 0 0)),(2,(i64 p2)),(4,(.ptr 2 0 0 0)),(6,(.ptr 3 0 0 0)),(7,(ls eI c3.params)),(10,(.ptr 4 0 0 0)),(11,(.Al [(i64 q27.op),(i64 q27.num),(ls AD q27.kids)] 0))]) (st':=[(A8 s0_0 f19),(ro 0 52 5 AJ s1),⟨0,31,2,[[(ls AI p1_0),(ow 1 0 s1)]]⟩,B5,(DJ f20 f21 f22),⟨1,50,3,[]⟩,⟨1,50,3,[]⟩]) (id:=6) rfl (show 2≤6 by decide) (Cz U) (.same U) rfl) (dn hK24 U (AH fun K28 hK28=>?_))))))
   refine AN (CA (L:=[(0,(.ptr 0 0 0 0)),(2,(i64 p2)),(4,(.ptr 2 0 0 0)),(6,(.ptr 3 0 0 0)),(7,(ls eI c3.params)),(10,(.ptr 4 0 0 0)),(11,(.Al [(i64 q27.op),(i64 q27.num),(ls AD q27.kids)] 0))]) (st':=[(A8 s0_0 f19),(ro 0 52 5 AJ s1),⟨0,31,2,[[(ls AI p1_0),(ow 1 0 s1)]]⟩,B5,(DJ f20 f21 f22),⟨0,50,3,[]⟩,⟨0,50,3,[]⟩]) (.raw U U U (.pure U (AB fun _=>U) (.raw U U U (.raw U U U (.raw U U U (.pure U (by intro x hx;cases hx) (.pure U (by intro x hx;cases hx) .nil))))))) (.same U)) ?_
   refine BO [(ro 0 52 5 AJ s1),⟨0,31,2,[[(ls AI p1_0),(ow 1 0 s1)]]⟩,B5,(DJ f20 f21 f22),⟨0,50,3,[]⟩,⟨0,50,3,[]⟩] 14 (by kernel_rfl) (by kernel_rfl) (by kernel_rfl) (by rfl) ?_
   refine BD (.agg [(i64 q27.op),(i64 q27.num),(ls AD q27.kids)]) AM U (fun _ _=>Fu BN U (show 0+3≤3 by decide) rfl) (BD (.agg [(i64 f20),(i64 f21),(ls AD f22)]) AM U (fun _ _=>A9 BN U U U (show 0+3≤3 by decide) rfl) (BD (.ptr 0 0 0 0) AM U (fun _ _=>BL U) (BD (.agg [(ls AI p1_0),(ow 1 0 s1)]) AM U (fun _ _=>A9 FA U U U (show 0+2≤2 by decide) rfl) (BD (ls eI c3.params) AM U (fun _ _=>BL U) (BD (.ptr 2 0 0 1) AM U (fun _ _=>F8 Ka U U (show 0+1≤2 by decide) rfl) (BD (ow 1 0 s1) AM U (fun _ _=>B1 Mn U U U U) (BD (i64 p2) AM U (fun _ _=>BL U) (BD (.ptr 1 0 (Int.toNat p2) 0) AM U (fun _ _=>Bn DD U U U U gc3) (BD (.ptr 1 0 (Int.toNat p2) 1) AM U (fun _ _=>F8 Nm U U (show 0+1≤5 by decide) rfl) (BD (i64 c3.result) AM U (fun _ _=>B1 F6 U U (Bs gc3) rfl) (bs h0 fun q29 gq29 h0=>?_)))))))))))
   refine E2 (rows0:=[(A8 s0_0 f19),(ro 0 52 5 AJ s1)]) (rows1:=[(A8 s0_0 q29.2),(ro 0 52 5 AJ s1)]) (v':=(.agg [(i64 q29.1.op),(i64 q29.1.num),(ls AD q29.1.kids)])) (y0:=(A8 s0_0 q29.2)) [0,1] AM HI (Ec gq29) rfl (by decide) rfl U (.raw U U (.pure (AB fun _=>U) .nil)) rfl U (fun _=>(.raw U U (.pure (AB fun _=>U) .nil))) (fun _=>U) rfl ?_
   refine D9 AM (fun x0 zz=>E9 (l:=[q27,(AP.mk f20 f21 f22),q29.1]) (enc:=AD) AM BV (by decide) rfl U U (by simp only[List.map,Ap];rfl) rfl (AB Ag) (Ax U)) ?_
   refine bs h0 fun q30 gq30 h0=>D9 AM (fun x0 zz=>BS (v:=(.agg [(i64 q30.op),(i64 q30.num),(ls AD q30.kids)])) AM DB (BH gq30) rfl U U (Ax U)) (Di U (Az AM BN U U U U U U (show 0+3≤3 by decide) rfl (dn hK28 U ?_)))
   replace h0:=Sh.AE h0
   subst r
   exact AU (Exists.intro _ (And.intro ((AS (L:=[(6,(.ptr 2 0 0 0))]) (st':=[(A8 s0_0 q29.2),(ro 0 52 5 AJ s1),(DJ q30.op q30.num q30.kids)]) [0,1,3] U (by decide) rfl U (.raw U U (.pure (AB fun _=>U) (.raw U U .nil))) (.same U)).trans (Ah (L:=[(6,(.ptr 2 0 0 0))]) (.same U))) (A9 (x:=.tmp 6) (off:=0) (cs:=[(i64 q30.op),(i64 q30.num),(ls AD q30.kids)]) (vs:=[(i64 q30.op),(i64 q30.num),(ls AD q30.kids)]) BN U U U (show 0+3≤3 by decide) rfl _ ⟨U,U⟩)))
  refine sr U fun K31 hK31=>zm tb 3 U (zz (.ptr 1 0 (Int.toNat p2) 0) (Bn DD U U U U gc3) rfl (zq tb U (zz (i64 c3.result) (B1 F6 U U (Bs gc3) rfl) rfl (zq tb U (dn hK31 U ?_)))))
  refine ci h1 U ?_ ?_ <;> clear h1
  ·intro b32 h1
   refine AN (CA (L:=[(0,(.ptr 0 0 0 0)),(2,(i64 p2)),(4,(.ptr 2 0 0 0)),(6,(.ptr 3 0 0 0)),(7,(ls eI c3.params)),(10,(.ptr 5 0 0 0))]) (st':=[(A8 s0_0 f13),(ro 0 52 5 AJ s1),⟨0,31,2,[[(ls AI p1_0),(ow 1 0 s1)]]⟩,B5,⟨0,50,3,[]⟩,(DJ q17.op q17.num q17.kids)]) (.raw U U U (.pure U (AB fun _=>U) (.raw U U U (.raw U U U (.pure U (by intro x hx;cases hx) (.raw U U U .nil)))))) (.same U)) ?_
   refine BO [(ro 0 52 5 AJ s1),⟨0,31,2,[[(ls AI p1_0),(ow 1 0 s1)]]⟩,B5,⟨0,50,3,[]⟩,(DJ q17.op q17.num q17.kids)] 7 (by kernel_rfl) (by kernel_rfl) (by kernel_rfl) (by rfl) ?_
   refine BD (.ptr 0 0 0 0) AM U (fun _ _=>BL U) (BD (.agg [(ls AI p1_0),(ow 1 0 s1)]) AM U (fun _ _=>A9 FA U U U (show 0+2≤2 by decide) rfl) (BD (ls eI c3.params) AM U (fun _ _=>BL U) (bs h1 fun q33 gq33 h1=>?_)))
   refine E2 (rows0:=[(A8 s0_0 f13),(ro 0 52 5 AJ s1)]) (rows1:=[(A8 s0_0 q33.2),(ro 0 52 5 AJ s1)]) (v':=(.agg [(i64 q33.1.op),(i64 q33.1.num),(ls AD q33.1.kids)])) (y0:=(A8 s0_0 q33.2)) [0,1] AM HI (Ec gq33) rfl (by decide) rfl U (.raw U U (.pure (AB fun _=>U) .nil)) rfl U (fun _=>(.raw U U (.pure (AB fun _=>U) .nil))) (fun _=>U) rfl ?_
   refine BD (.agg [(i64 q17.op),(i64 q17.num),(ls AD q17.kids)]) AM U (fun _ _=>A9 BN U U U (show 0+3≤3 by decide) rfl) ?_
   refine D9 AM (fun x0 zz=>E9 (l:=[q33.1,q17]) (enc:=AD) AM BV (by decide) rfl U U (by simp only[List.map,Ap];rfl) rfl (AB Ag) (Ax U)) ?_
   refine bs h1 fun q34 gq34 h1=>D9 AM (fun x0 zz=>BS (v:=(.agg [(i64 q34.op),(i64 q34.num),(ls AD q34.kids)])) AM DB (BH gq34) rfl U U (Ax U)) (Di U (Az AM BN U U U U U U (show 0+3≤3 by decide) rfl ?_))
   exact AA (M23 q33.2 q34.op q34.num q34.kids (Sh.AE h1).symm _ (AS [0,1,2,3,5] U (by decide) rfl U (.raw U U (.pure (AB fun _=>U) (.raw U U (.raw U U (.raw U U .nil))))) (.same U)))
  ·intro b32 h1
   exact AR (M23 f13 q17.op q17.num q17.kids (Sh.AE h1).symm _ (AS [0,1,2,3,5] U (by decide) rfl U (.raw U U (.pure (AB fun _=>U) (.raw U U (.raw U U (.raw U U .nil))))) (.same U)))
 refine Ab (Ay (σ:=Int×Int×(List AP)) (fun n v=>DQ N c3 s0_0 s1 p1_0 n v.1 v.2.1 v.2.2=some o15) (fun (i10,f11,l12)=>⟨75,Aa [(0,(.ptr 0 0 0 0)),(2,(i64 p2)),(4,(.ptr 2 0 0 0)),(6,(.ptr 3 0 0 0)),(7,(ls eI c3.params)),(8,(ow 4 0 l12)),(9,(i64 i10))],[(A8 s0_0 f11),(ro 0 52 5 AJ s1),⟨0,31,2,[[(ls AI p1_0),(ow 1 0 s1)]]⟩,B5,(ro 0 50 3 AD l12)]⟩) N (1,s0_1,[q7]) h1 (AS [0,1,2,3,5] U (by decide) rfl U (.raw U U (.pure (AB fun _=>U) (.raw U U (.raw U U (.pure (AB Ag) .nil))))) (.same U)) (fun _ hv=>by rw[DQ] at hv;cases hv) ?_)
 rintro n ⟨i10,f11,l12⟩ h1
 try dsimp only at h1 ⊢
 rw[DQ] at h1
 refine AH fun K35 hK35=>sr U fun K36 hK36=>zm tb 2 U (zl tb U U (zq tb U (dn hK36 U ?_)))
 refine ci h1 U ?_ ?_ <;> clear h1
 ·intro b37 h1
  refine AR (hK35 _ (AH fun K38 hK38=>Ab ?_))
  refine BO [(ro 0 52 5 AJ s1),⟨0,31,2,[[(ls AI p1_0),(ow 1 0 s1)]]⟩,B5,(ro 0 50 3 AD l12)] 10 (by kernel_rfl) (by kernel_rfl) (by kernel_rfl) (by rfl) ?_
  refine BD (ow 4 0 l12) AM U (fun _ _=>BL U) (BD (.ptr 0 0 0 0) AM U (fun _ _=>BL U) (BD (.agg [(ls AI p1_0),(ow 1 0 s1)]) AM U (fun _ _=>A9 FA U U U (show 0+2≤2 by decide) rfl) ?_))
  iterate 2 refine BD (ls eI c3.params) AM rfl (fun _ _=>BL rfl) ?_
  refine BD (i64 i10) AM U (fun _ _=>BL U) (bs h1 fun c39 gc39 h1=>BD (.Al (eI c39) 0) AM U (fun _ _=>CZ A4 U U gc39 U) (BD (i64 c39) AM U (fun _ _=>Fm F6 U U) (bs h1 fun q40 gq40 h1=>?_)))
  refine E2 (rows0:=[(A8 s0_0 f11),(ro 0 52 5 AJ s1)]) (rows1:=[(A8 s0_0 q40.2),(ro 0 52 5 AJ s1)]) (v':=(.agg [(i64 q40.1.op),(i64 q40.1.num),(ls AD q40.1.kids)])) (y0:=(A8 s0_0 q40.2)) [0,1] AM Ol (GV gq40) rfl (by decide) rfl U (.raw U U (.pure (AB fun _=>U) .nil)) rfl U (fun _=>(.raw U U (.pure (AB fun _=>U) .nil))) (fun _=>U) rfl ?_
  refine D9 AM (fun x0 zz=>E9 (l:=[q40.1]) (enc:=AD) AM BV (by decide) rfl U U (by simp only[List.map,Ap];rfl) rfl (AB Ag) (Ax U)) ?_
  exact Di U (bs h1 fun l41 gl41 h1=>CB (l2:=[q40.1]) AM BV U U U U OP B8 gl41 U (zq tb U (dn hK38 U (AL U (zm tb 3 U (AA (xi (Sh.w (i10+1),q40.2,l41) h1 (CA (L:=[(0,(.ptr 0 0 0 0)),(2,(i64 p2)),(4,(.ptr 2 0 0 0)),(6,(.ptr 3 0 0 0)),(7,(ls eI c3.params)),(8,(ow 4 0 l41)),(9,(i64 (Sh.w (i10+1))))]) (st':=[(A8 s0_0 q40.2),(ro 0 52 5 AJ s1),⟨0,31,2,[[(ls AI p1_0),(ow 1 0 s1)]]⟩,B5,(ro 0 50 3 AD l41)]) (.raw U U U (.pure U (AB fun _=>U) (.raw U U U (.raw U U U (.pure U (AB Ag) .nil))))) (.same U)))))))))
 ·intro b37 h1
  exact A5 (M15 f11 l12 (Sh.AE h1).symm _ (AG U))
theorem Lf {N:Nat} {rec_spec_nodesLeft:AP→Int→Option (Int)} (hrec_spec_nodesLeft :∀{p0:AP} {p1:Int} {r:Int},rec_spec_nodesLeft p0 p1=some r→Ai Try.prog 68 [(.agg [(i64 p0.op),(i64 p0.num),(ls AD p0.kids)]),(i64 p1)] [] (fun v st=>v=(i64 r)∧st=[])) {p0:AP} {p1:Int} {r:Int} (h0:Gk N rec_spec_nodesLeft p0 p1=some r):Ai Try.prog 68 [(.agg [(i64 p0.op),(i64 p0.num),(ls AD p0.kids)]),(i64 p1)] [] (fun v st=>v=(i64 r)∧st=[]):=by
 unfold Gk at h0
 refine ai Try.func68 U U U U (sr U fun K1 hK1=>Bl (m:=0) AM U U U U U (zq tb U (dn hK1 U (AH fun K2 hK2=>zr tb U U ?_))))
 refine ci h0 U ?_ ?_ <;> clear h0
 ·intro b4 h0
  refine zr tb U U ?_
  replace h0:=Sh.AE h0
  subst r
  exact AU (xr (As [(4,(i64 (-1)))] U))
 ·intro b4 h0
  refine AR (hK2 _ (zr tb U U (AH fun K7 hK7=>zr tb U U ?_)))
  obtain⟨o12,h1,h0⟩:=Sh.BZ h0
  have M12 :∀(left11:Int),o12=Sum.inr left11→∀s,Wk 0 s ⟨27,Aa [(1,(i64 left11))],[]⟩→K7 s:=by
   intro left11 hq s hw
   subst o12
   try dsimp only at h0
   refine hK7 _ (AN hw (zr tb U U ?_))
   replace h0:=Sh.AE h0
   subst r
   exact AU (xr (Ah (L:=[(4,(i64 left11))]) (.same U)))
  refine Ab (Ay (σ:=Int×Int) (fun n v=>CY p0 rec_spec_nodesLeft n v.1 v.2=some o12) (fun (left9,i10)=>⟨27,Aa [(1,(i64 left9)),(2,(.ptr 0 0 0 0)),(5,(i64 i10))],[(DJ p0.op p0.num p0.kids)]⟩) N (Sh.w (p1 - 1),0) h1 (AG U) (fun _ hv=>by rw[CY] at hv;cases hv) ?_)
  rintro n ⟨left9,i10⟩ h1
  try dsimp only at h1 ⊢
  rw[CY] at h1
  refine AH fun K14 hK14=>sr U fun K15 hK15=>zm tb 3 U (zl tb U U (zq tb U (dn hK15 U ?_)))
  refine ci h1 U ?_ ?_ <;> clear h1
  ·intro b16 h1
   refine AR (hK14 _ (AH fun K17 hK17=>Ab (sr U fun K18 hK18=>zm tb 3 U (bs h1 fun c19 gc19 h1=>zz (.Al [(i64 c19.op),(i64 c19.num),(ls AD c19.kids)] 0) (CK BV U U gc19 (Ap _) rfl) rfl (zm tb 2 U (bs h1 fun q20 gq20 h1=>zc X6 (hrec_spec_nodesLeft gq20) rfl U U (zq tb U (dn hK18 U ?_))))))))
   refine zr tb U U ?_
   refine ci h1 U ?_ ?_ <;> clear h1
   ·intro b22 h1
    refine zr tb U U ?_
    replace h1:=Sh.AE h1
    subst o12
    try dsimp only[id] at h0
    replace h0:=Sh.AE h0
    subst r
    exact AU (xr (As [(4,(i64 (-1)))] U))
   ·intro b22 h1
    exact AR (hK17 _ (AL U (zm tb 3 U (AA (xi (q20,Sh.w (i10+1)) h1 (AG U))))))
  ·intro b16 h1
   exact A5 (M12 left9 (Sh.AE h1).symm _ (As _ U))

theorem L7 {N:Nat} :∀(n:Nat),∀{p0:AP} {p1:Int} {r:Int},Dx N n p0 p1=some r→Ai Try.prog 68 [(.agg [(i64 p0.op),(i64 p0.num),(ls AD p0.kids)]),(i64 p1)] [] (fun v st=>v=(i64 r)∧st=[]):=by
 intro n
 induction n with
 | zero=>intro p0 p1 r h0;cases h0
 | succ n ih=>
  intro p0 p1 r h0
  rw[Dx] at h0
  exact Lf (fun h=>ih h) h0
theorem Mz {N:Nat} :∀{p0:AP} {p1:Int} {r:Int},Iv N p0 p1=some r→Ai Try.prog 68 [(.agg [(i64 p0.op),(i64 p0.num),(ls AD p0.kids)]),(i64 p1)] [] (fun v st=>v=(i64 r)∧st=[]):=by
 intro p0 p1 r h0
 exact L7 N h0
theorem IJ {N:Nat} {p0:AP} {r:Int} (h0:Fi N p0=some r):Ai Try.prog 43 [(.agg [(i64 p0.op),(i64 p0.num),(ls AD p0.kids)])] [] (fun v st=>v=(i64 r)∧st=[]):=by
 unfold Fi at h0
 refine ai Try.func43 U U U U (sr U fun K1 hK1=>Bl (m:=0) AM U U U U U (zq tb U (dn hK1 U (sr U fun K2 hK2=>zq tb U (bs h0 fun q3 gq3 h0=>zc X6 (Mz gq3) rfl U U (zq tb U (dn hK2 U (AH fun K4 hK4=>?_))))))))
 refine zr tb U U ?_
 refine ci h0 U ?_ ?_ <;> clear h0
 ·intro b6 h0
  refine zr tb U U ?_
  replace h0:=Sh.AE h0
  subst r
  exact AU (xr (As [(2,(i64 (-1)))] U))
 ·intro b6 h0
  refine AR (hK4 _ (zr tb U U ?_))
  replace h0:=Sh.AE h0
  subst r
  exact AU (xr (As [(2,(i64 (Sh.w (30 - q3))))] U))
theorem KA {N:Nat} {s0_0:(List Int)} {s0_1:Int} {s1:(List Ar)} {p1_0:(List Ac)} {p2:(List Int)} {p3:Int} {p4:Int} {r:AP×Int} (h0:GW N s0_0 s0_1 s1 p1_0 p2 p3 p4=some r):Ai Try.prog 117 [(.ptr 0 0 0 0),(.agg [(ls AI p1_0),(ow 1 0 s1)]),(ls eI p2),(i64 p3),(i64 p4)] [(A8 s0_0 s0_1),(ro 0 52 5 AJ s1)] (fun v st=>v=(.agg [(i64 r.1.op),(i64 r.1.num),(ls AD r.1.kids)])∧st=[(A8 s0_0 r.2),(ro 0 52 5 AJ s1)]):=by
 unfold GW at h0
 refine Ai.wk (r0:=(.agg [(i64 r.1.op),(i64 r.1.num),(ls AD r.1.kids)])) (st0:=[(A8 s0_0 r.2),(ro 0 52 5 AJ s1),(DJ r.1.op r.1.num r.1.kids)]) ?_ (EG (L:=[(0,(.agg [(i64 r.1.op),(i64 r.1.num),(ls AD r.1.kids)]))]) (st':=[(A8 s0_0 r.2),(ro 0 52 5 AJ s1)]) [0,1] U (by decide) rfl U (.raw U (.pure (AB fun _=>U) trivial)) (.same U))
 refine ai Try.func117 U U U U (sr U fun K1 hK1=>Bl (m:=2) AM U U U U U (A1 (m:=3) AM EI U U (dn hK1 U (sr U fun K2 hK2=>zm tb 5 U (bs h0 fun q3 gq3 h0=>?_)))))
 refine Bc (rows0:=[(A8 s0_0 s0_1),(ro 0 52 5 AJ s1)]) (rows1:=[(A8 s0_0 q3.2),(ro 0 52 5 AJ s1)]) (st':=[(A8 s0_0 q3.2),(ro 0 52 5 AJ s1),⟨0,31,2,[[(ls AI p1_0),(ow 1 0 s1)]]⟩,B5]) (v':=(.agg [(i64 q3.1.op),(i64 q3.1.num),(ls AD q3.1.kids)])) [0,1] AM HI (Ec gq3) rfl (by decide) rfl U (.raw U U (.pure (AB fun _=>U) .nil)) rfl U (.raw U U (.pure (AB fun _=>U) .nil)) .nil U U ?_
 refine A1 (m:=4) AM EI U U (Az AM BN U U U U U U (show 0+3≤3 by decide) rfl (dn hK2 U (AH fun K4 hK4=>bs h0 fun o14 h1 h0=>?_)))
 have M14 :∀(f10:Int) (f11:Int) (f12:Int) (f13:(List AP)),o14=(f10,f11,f12,f13)→∀s,Wk 2 s ⟨34,Aa [(10,(.ptr 2 0 0 0)),(11,(.ptr 3 0 0 0))],[(A8 s0_0 f10),(ro 0 52 5 AJ s1),B5,(DJ f11 f12 f13)]⟩→K4 s:=by
  intro f10 f11 f12 f13 hq s hw
  subst o14
  try dsimp only at h0
  refine hK4 _ (AN hw (sr U fun K15 hK15=>zq tb U (Az AM BN U U U U U U (show 0+3≤3 by decide) rfl (dn hK15 U ?_))))
  replace h0:=Sh.AE h0
  subst r
  exact AU (Exists.intro _ (And.intro ((AS (L:=[(10,(.ptr 2 0 0 0))]) (st':=[(A8 s0_0 f10),(ro 0 52 5 AJ s1),(DJ f11 f12 f13)]) [0,1,2] U (by decide) rfl U (.raw U U (.pure (AB fun _=>U) (.raw U U .nil))) (.same U)).trans (Ah (L:=[(10,(.ptr 2 0 0 0))]) (.same U))) (A9 (x:=.tmp 10) (off:=0) (cs:=[(i64 f11),(i64 f12),(ls AD f13)]) (vs:=[(i64 f11),(i64 f12),(ls AD f13)]) BN U U U (show 0+3≤3 by decide) rfl _ ⟨U,U⟩)))
 refine Ab (Ay (σ:=Int×Int×Int×Int×(List AP)) (fun n v=>El N s0_0 s1 p1_0 p2 p3 n v.1 v.2.1 v.2.2.1 v.2.2.2.1 v.2.2.2.2=some o14) (fun (budget5,f6,f7,f8,f9)=>⟨34,Aa [(0,(.ptr 0 0 0 0)),(2,(ls eI p2)),(3,(i64 p3)),(4,(i64 budget5)),(6,(.ptr 2 0 0 0)),(10,(.ptr 3 0 0 0)),(11,(.ptr 4 0 0 0))],[(A8 s0_0 f6),(ro 0 52 5 AJ s1),⟨0,31,2,[[(ls AI p1_0),(ow 1 0 s1)]]⟩,B5,(DJ f7 f8 f9)]⟩) N (p4,q3.2,q3.1.op,q3.1.num,q3.1.kids) h1 (AG U) (fun _ hv=>by rw[El] at hv;cases hv) ?_)
 rintro n ⟨budget5,f6,f7,f8,f9⟩ h1
 try dsimp only at h1 ⊢
 rw[El] at h1
 refine AH fun K16 hK16=>AH fun K17 hK17=>bs h1 fun o19 h2 h1=>?_
 have M19 :∀(t18:Bool),o19=t18→∀s,Wk 2 s ⟨34,Aa [(0,(.ptr 0 0 0 0)),(2,(ls eI p2)),(3,(i64 p3)),(4,(i64 budget5)),(6,(.ptr 2 0 0 0)),(10,(.ptr 3 0 0 0)),(11,(.ptr 4 0 0 0)),(24,(.bool t18))],[(A8 s0_0 f6),(ro 0 52 5 AJ s1),⟨0,31,2,[[(ls AI p1_0),(ow 1 0 s1)]]⟩,B5,(DJ f7 f8 f9)]⟩→K17 s:=by
  intro t18 hq s hw
  subst o19
  try dsimp only at h1
  refine hK17 _ (AN hw ?_)
  refine ci h1 U ?_ ?_ <;> clear h1
  ·intro b20 h1
   refine AR (hK16 _ (Ab (sr U fun K21 hK21=>zq tb U ?_)))
   refine zz (i64 (Sh.w (Int.tdiv budget5 2))) (Pw U U (by decide)) rfl ?_
   refine zq tb U (dn hK21 U (AL U (zm tb 5 U (bs h1 fun q22 gq22 h1=>?_))))
   refine Bc (rows0:=[(A8 s0_0 f6),(ro 0 52 5 AJ s1)]) (rows1:=[(A8 s0_0 q22.2),(ro 0 52 5 AJ s1)]) (st':=[(A8 s0_0 q22.2),(ro 0 52 5 AJ s1),⟨0,31,2,[[(ls AI p1_0),(ow 1 0 s1)]]⟩,B5,(DJ f7 f8 f9)]) (v':=(.agg [(i64 q22.1.op),(i64 q22.1.num),(ls AD q22.1.kids)])) [0,1] AM HI (Ec gq22) rfl (by decide) rfl U (.raw U U (.pure (AB fun _=>U) .nil)) rfl U (.raw U U (.pure (AB fun _=>U) .nil)) .nil U U ?_
   exact Az AM BN U U U U U U (show 0+3≤3 by decide) rfl (AA (xi (Sh.w (Int.tdiv budget5 2),q22.2,q22.1.op,q22.1.num,q22.1.kids) h1 (AG U)))
  ·intro b20 h1
   exact A5 (M14 f6 f7 f8 f9 (Sh.AE h1).symm _ (AS [0,1,3,4] U (by decide) rfl U (.raw U U (.pure (AB fun _=>U) (.raw U U (.raw U U .nil)))) (.same U)))
 refine AL U (zq tb U (bs h2 fun q23 gq23 h2=>zc V5 (IJ gq23) rfl U U (zm tb 2 U ?_)))
 rcases Sh.Am h2 with ⟨b24,h2⟩ | ⟨b24,h2⟩
 ·exact zg tb b24 U (zg tb b24 U (zt b24 U (AA (M19 (decide (2 < budget5)) (Sh.AE h2).symm _ (AG U)))))
 ·exact zs b24 U (zs b24 U (zf b24 U (AA (M19 false (Sh.AE h2).symm _ (AG U)))))
theorem Pb {N:Nat} {s0_0:(List Int)} {s0_1:Int} {s1:(List Ar)} {p1_0:(List Ac)} {p2:Int} {r:AP×Int} (h0:H8 N s0_0 s0_1 s1 p1_0 p2=some r):Ai Try.prog 88 [(.ptr 0 0 0 0),(.agg [(ls AI p1_0),(ow 1 0 s1)]),(i64 p2)] [(A8 s0_0 s0_1),(ro 0 52 5 AJ s1)] (fun v st=>v=(.agg [(i64 r.1.op),(i64 r.1.num),(ls AD r.1.kids)])∧st=[(A8 s0_0 r.2),(ro 0 52 5 AJ s1)]):=by
 unfold H8 at h0
 refine Ai.wk (r0:=(.agg [(i64 r.1.op),(i64 r.1.num),(ls AD r.1.kids)])) (st0:=[(A8 s0_0 r.2),(ro 0 52 5 AJ s1),(DJ r.1.op r.1.num r.1.kids)]) ?_ (EG (L:=[(0,(.agg [(i64 r.1.op),(i64 r.1.num),(ls AD r.1.kids)]))]) (st':=[(A8 s0_0 r.2),(ro 0 52 5 AJ s1)]) [0,1] U (by decide) rfl U (.raw U (.pure (AB fun _=>U) trivial)) (.same U))
 refine ai Try.func88 U U U U (sr U fun K1 hK1=>Bl (m:=2) AM U U U U U (A1 (m:=3) AM EI U U (dn hK1 U (sr U fun K2 hK2=>zm tb 3 U (bs h0 fun c3 gc3 h0=>zz (.ptr 1 0 (Int.toNat p2) 0) (Bn DD U U U U gc3) rfl (zq tb U (zz (ls eI c3.params) (B1 Le U U (Bs gc3) rfl) rfl (zq tb U ?_))))))))
 refine dn hK2 U (sr U fun K4 hK4=>zm tb 3 U (zz (.ptr 1 0 (Int.toNat p2) 0) (Bn DD U U U U gc3) rfl (zq tb U (zz (i64 c3.result) (B1 F6 U U (Bs gc3) rfl) rfl (zq tb U (dn hK4 U (sr U fun K5 hK5=>zq tb U (bs h0 fun q6 gq6 h0=>zc YH (OT gq6) rfl U U ?_))))))))
 refine zq tb U (dn hK5 U (sr U fun K7 hK7=>bs h0 fun q8 gq8 h0=>zc (v':=(.agg [(i64 q8.op),(i64 q8.num),(ls AD q8.kids)])) Gw (Br gq8) rfl U U (A1 (m:=4) AM EI U U (Az AM BN U U U U U U (show 0+3≤3 by decide) rfl (dn hK7 U (sr U fun K9 hK9=>zq tb U (bs h0 fun q10 gq10 h0=>?_)))))))
 refine Bc (rows0:=[(A8 s0_0 s0_1)]) (rows1:=[(A8 s0_0 q10.2)]) (st':=[(A8 s0_0 q10.2),(ro 0 52 5 AJ s1),⟨0,31,2,[[(ls AI p1_0),(ow 1 0 s1)]]⟩,B5,(DJ q8.op q8.num q8.kids)]) (v':=(i64 q10.1)) [0] AM Ez (Av gq10) rfl (by decide) rfl U (.raw U U .nil) rfl U (.raw U U .nil) .nil U U ?_
 refine zq tb U (dn hK9 U (AH fun K11 hK11=>bs h0 fun o16 h1 h0=>?_))
 have M16 :∀(f12:Int) (f13:Int) (f14:Int) (f15:(List AP)),o16=(f12,f13,f14,f15)→∀s,Wk 2 s ⟨121,Aa [(0,(.ptr 0 0 0 0)),(4,(.ptr 2 0 0 0)),(6,(.ptr 3 0 0 0)),(7,(ls eI c3.params)),(8,(i64 c3.result)),(10,(.ptr 4 0 0 0))],[(A8 s0_0 f12),(ro 0 52 5 AJ s1),⟨0,31,2,[[(ls AI p1_0),(ow 1 0 s1)]]⟩,B5,(DJ f13 f14 f15)]⟩→K11 s:=by
  intro f12 f13 f14 f15 hq s hw
  subst o16
  try dsimp only at h0
  refine hK11 _ (AN hw (AH fun K17 hK17=>sr U fun K18 hK18=>zq tb U (bs h0 fun q19 gq19 h0=>zc V5 (IJ gq19) rfl U U (zq tb U (dn hK18 U ?_)))))
  refine ci h0 U ?_ ?_ <;> clear h0
  ·intro b20 h0
   refine sr U fun K21 hK21=>zm tb 4 U (bs h0 fun q22 gq22 h0=>?_)
   refine Bc (rows0:=[(A8 s0_0 f12),(ro 0 52 5 AJ s1)]) (rows1:=[(A8 s0_0 q22.2),(ro 0 52 5 AJ s1)]) (st':=[(A8 s0_0 q22.2),(ro 0 52 5 AJ s1),⟨0,31,2,[[(ls AI p1_0),(ow 1 0 s1)]]⟩,B5,(DJ f13 f14 f15)]) (v':=(.agg [(i64 q22.1.op),(i64 q22.1.num),(ls AD q22.1.kids)])) [0,1] AM Vt (KA gq22) rfl (by decide) rfl U (.raw U U (.pure (AB fun _=>U) .nil)) rfl U (.raw U U (.pure (AB fun _=>U) .nil)) .nil U U ?_
   refine Az AM BN U U U U U U (show 0+3≤3 by decide) rfl (dn hK21 U ?_)
   replace h0:=Sh.AE h0
   subst r
   exact AU (Exists.intro _ (And.intro ((AS (L:=[(6,(.ptr 2 0 0 0))]) (st':=[(A8 s0_0 q22.2),(ro 0 52 5 AJ s1),(DJ q22.1.op q22.1.num q22.1.kids)]) [0,1,3] U (by decide) rfl U (.raw U U (.pure (AB fun _=>U) (.raw U U .nil))) (.same U)).trans (Ah (L:=[(6,(.ptr 2 0 0 0))]) (.same U))) (A9 (x:=.tmp 6) (off:=0) (cs:=[(i64 q22.1.op),(i64 q22.1.num),(ls AD q22.1.kids)]) (vs:=[(i64 q22.1.op),(i64 q22.1.num),(ls AD q22.1.kids)]) BN U U U (show 0+3≤3 by decide) rfl _ ⟨U,U⟩)))
  ·intro b20 h0
   refine AR (hK17 _ (sr U fun K23 hK23=>zq tb U (Az AM BN U U U U U U (show 0+3≤3 by decide) rfl (dn hK23 U ?_))))
   replace h0:=Sh.AE h0
   subst r
   exact AU (Exists.intro _ (And.intro ((AS (L:=[(6,(.ptr 2 0 0 0))]) (st':=[(A8 s0_0 f12),(ro 0 52 5 AJ s1),(DJ f13 f14 f15)]) [0,1,3] U (by decide) rfl U (.raw U U (.pure (AB fun _=>U) (.raw U U .nil))) (.same U)).trans (Ah (L:=[(6,(.ptr 2 0 0 0))]) (.same U))) (A9 (x:=.tmp 6) (off:=0) (cs:=[(i64 f13),(i64 f14),(ls AD f15)]) (vs:=[(i64 f13),(i64 f14),(ls AD f15)]) BN U U U (show 0+3≤3 by decide) rfl _ ⟨U,U⟩)))
 refine AH fun K24 hK24=>bs h1 fun o26 h2 h1=>?_
 have M26 :∀(t25:Bool),o26=t25→∀s,Wk 2 s ⟨121,Aa [(0,(.ptr 0 0 0 0)),(2,(i64 p2)),(4,(.ptr 2 0 0 0)),(6,(.ptr 3 0 0 0)),(7,(ls eI c3.params)),(8,(i64 c3.result)),(9,(i64 q6)),(10,(.ptr 4 0 0 0)),(11,(i64 q10.1)),(34,(.bool t25))],[(A8 s0_0 q10.2),(ro 0 52 5 AJ s1),⟨0,31,2,[[(ls AI p1_0),(ow 1 0 s1)]]⟩,B5,(DJ q8.op q8.num q8.kids)]⟩→K24 s:=by
  intro t25 hq s hw
  subst o26
  try dsimp only at h1
  refine hK24 _ (AN hw ?_)
  refine ci h1 U ?_ ?_ <;> clear h1
  ·intro b27 h1
   refine AL U (zm tb 2 U (bs h1 fun q28 gq28 h1=>?_))
   refine Bc (rows0:=[(A8 s0_0 q10.2),(ro 0 52 5 AJ s1)]) (rows1:=[(A8 s0_0 q28.2),(ro 0 52 5 AJ s1)]) (st':=[(A8 s0_0 q28.2),(ro 0 52 5 AJ s1),⟨0,31,2,[[(ls AI p1_0),(ow 1 0 s1)]]⟩,B5,(DJ q8.op q8.num q8.kids)]) (v':=(.agg [(i64 q28.1.op),(i64 q28.1.num),(ls AD q28.1.kids)])) [0,1] AM Y0 (N8 gq28) rfl (by decide) rfl U (.raw U U (.pure (AB fun _=>U) .nil)) rfl U (.raw U U (.pure (AB fun _=>U) .nil)) .nil U U ?_
   exact Az AM BN U U U U U U (show 0+3≤3 by decide) rfl (AA (M16 q28.2 q28.1.op q28.1.num q28.1.kids (Sh.AE h1).symm _ (AG U)))
  ·intro b27 h1
   refine AH fun K29 hK29=>bs h1 fun o31 h2 h1=>?_
   have M31 :∀(t30:Bool),o31=t30→∀s,Wk 2 s ⟨121,Aa [(0,(.ptr 0 0 0 0)),(2,(i64 p2)),(4,(.ptr 2 0 0 0)),(6,(.ptr 3 0 0 0)),(7,(ls eI c3.params)),(8,(i64 c3.result)),(9,(i64 q6)),(10,(.ptr 4 0 0 0)),(11,(i64 q10.1)),(51,(.bool t30))],[(A8 s0_0 q10.2),(ro 0 52 5 AJ s1),⟨0,31,2,[[(ls AI p1_0),(ow 1 0 s1)]]⟩,B5,(DJ q8.op q8.num q8.kids)]⟩→K29 s:=by
    intro t30 hq s hw
    subst o31
    try dsimp only at h1
    refine hK29 _ (AN hw ?_)
    refine ci h1 U ?_ ?_ <;> clear h1
    ·intro b32 h1
     refine AL U (zm tb 4 U (bs h1 fun q33 gq33 h1=>?_))
     refine Bc (rows0:=[(A8 s0_0 q10.2),(ro 0 52 5 AJ s1)]) (rows1:=[(A8 s0_0 q33.2),(ro 0 52 5 AJ s1)]) (st':=[(A8 s0_0 q33.2),(ro 0 52 5 AJ s1),⟨0,31,2,[[(ls AI p1_0),(ow 1 0 s1)]]⟩,B5,(DJ q8.op q8.num q8.kids)]) (v':=(.agg [(i64 q33.1.op),(i64 q33.1.num),(ls AD q33.1.kids)])) [0,1] AM Yh (N3 gq33) rfl (by decide) rfl U (.raw U U (.pure (AB fun _=>U) .nil)) rfl U (.raw U U (.pure (AB fun _=>U) .nil)) .nil U U ?_
     exact Az AM BN U U U U U U (show 0+3≤3 by decide) rfl (AA (M16 q33.2 q33.1.op q33.1.num q33.1.kids (Sh.AE h1).symm _ (AG U)))
    ·intro b32 h1
     refine AH fun K34 hK34=>bs h1 fun o36 h2 h1=>?_
     have M36 :∀(t35:Bool),o36=t35→∀s,Wk 2 s ⟨121,Aa [(0,(.ptr 0 0 0 0)),(2,(i64 p2)),(4,(.ptr 2 0 0 0)),(6,(.ptr 3 0 0 0)),(7,(ls eI c3.params)),(8,(i64 c3.result)),(10,(.ptr 4 0 0 0)),(11,(i64 q10.1)),(77,(.bool t35))],[(A8 s0_0 q10.2),(ro 0 52 5 AJ s1),⟨0,31,2,[[(ls AI p1_0),(ow 1 0 s1)]]⟩,B5,(DJ q8.op q8.num q8.kids)]⟩→K34 s:=by
      intro t35 hq s hw
      subst o36
      try dsimp only at h1
      refine hK34 _ (AN hw ?_)
      refine ci h1 U ?_ ?_ <;> clear h1
      ·intro b37 h1
       refine AL U (zm tb 3 U (bs h1 fun q38 gq38 h1=>?_))
       refine Bc (rows0:=[(A8 s0_0 q10.2),(ro 0 52 5 AJ s1)]) (rows1:=[(A8 s0_0 q38.2),(ro 0 52 5 AJ s1)]) (st':=[(A8 s0_0 q38.2),(ro 0 52 5 AJ s1),⟨0,31,2,[[(ls AI p1_0),(ow 1 0 s1)]]⟩,B5,(DJ q8.op q8.num q8.kids)]) (v':=(.agg [(i64 q38.1.op),(i64 q38.1.num),(ls AD q38.1.kids)])) [0,1] AM Yw (OL gq38) rfl (by decide) rfl U (.raw U U (.pure (AB fun _=>U) .nil)) rfl U (.raw U U (.pure (AB fun _=>U) .nil)) .nil U U ?_
       exact Az AM BN U U U U U U (show 0+3≤3 by decide) rfl (AA (M16 q38.2 q38.1.op q38.1.num q38.1.kids (Sh.AE h1).symm _ (AG U)))
      ·intro b37 h1
       refine AH fun K39 hK39=>bs h1 fun o41 h2 h1=>?_
       have M41 :∀(t40:Bool),o41=t40→∀s,Wk 2 s ⟨121,Aa [(0,(.ptr 0 0 0 0)),(2,(i64 p2)),(4,(.ptr 2 0 0 0)),(6,(.ptr 3 0 0 0)),(7,(ls eI c3.params)),(8,(i64 c3.result)),(10,(.ptr 4 0 0 0)),(102,(.bool t40))],[(A8 s0_0 q10.2),(ro 0 52 5 AJ s1),⟨0,31,2,[[(ls AI p1_0),(ow 1 0 s1)]]⟩,B5,(DJ q8.op q8.num q8.kids)]⟩→K39 s:=by
        intro t40 hq s hw
        subst o41
        try dsimp only at h1
        refine hK39 _ (AN hw ?_)
        refine ci h1 U ?_ ?_ <;> clear h1
        ·intro b42 h1
         refine AL U (zm tb 3 U (bs h1 fun q43 gq43 h1=>?_))
         refine Bc (rows0:=[(A8 s0_0 q10.2),(ro 0 52 5 AJ s1)]) (rows1:=[(A8 s0_0 q43.2),(ro 0 52 5 AJ s1)]) (st':=[(A8 s0_0 q43.2),(ro 0 52 5 AJ s1),⟨0,31,2,[[(ls AI p1_0),(ow 1 0 s1)]]⟩,B5,(DJ q8.op q8.num q8.kids)]) (v':=(.agg [(i64 q43.1.op),(i64 q43.1.num),(ls AD q43.1.kids)])) [0,1] AM YZ (OF gq43) rfl (by decide) rfl U (.raw U U (.pure (AB fun _=>U) .nil)) rfl U (.raw U U (.pure (AB fun _=>U) .nil)) .nil U U ?_
         exact Az AM BN U U U U U U (show 0+3≤3 by decide) rfl (AA (M16 q43.2 q43.1.op q43.1.num q43.1.kids (Sh.AE h1).symm _ (AG U)))
        ·intro b42 h1
         refine AL U (zm tb 4 U (bs h1 fun q44 gq44 h1=>?_))
         refine Bc (rows0:=[(A8 s0_0 q10.2),(ro 0 52 5 AJ s1)]) (rows1:=[(A8 s0_0 q44.2),(ro 0 52 5 AJ s1)]) (st':=[(A8 s0_0 q44.2),(ro 0 52 5 AJ s1),⟨0,31,2,[[(ls AI p1_0),(ow 1 0 s1)]]⟩,B5,(DJ q8.op q8.num q8.kids)]) (v':=(.agg [(i64 q44.1.op),(i64 q44.1.num),(ls AD q44.1.kids)])) [0,1] AM Vt (KA gq44) rfl (by decide) rfl U (.raw U U (.pure (AB fun _=>U) .nil)) rfl U (.raw U U (.pure (AB fun _=>U) .nil)) .nil U U ?_
         exact Az AM BN U U U U U U (show 0+3≤3 by decide) rfl (AA (M16 q44.2 q44.1.op q44.1.num q44.1.kids (Sh.AE h1).symm _ (AG U)))
       refine AL U (zm tb 3 U ?_)
       rcases Sh.Am h2 with ⟨b45,h2⟩ | ⟨b45,h2⟩
       ·refine zg tb b45 U (B3 (v:=(i64 (Sh.len c3.params))) (Bw U U b45) rfl (B6 Em U) (zg tb b45 U (zt b45 U (zq tb U ?_))))
        rcases Sh.Am h2 with ⟨b46,h2⟩ | ⟨b46,h2⟩
        ·refine zg tb b46 U (bs h2 fun c47 gc47 h2=>B3 (v:=(.Al (eI c47) 0)) (Bw U U b46) rfl (CZ A4 U U gc47 U) (zg tb b46 U (zg tb b46 U (zt b46 U (zq tb U ?_)))))
         rcases Sh.Am h2 with ⟨b48,h2⟩ | ⟨b48,h2⟩
         ·refine zg tb b48 U (zg tb b48 U (zg tb b48 U ?_))
          rcases Sh.Am h2 with ⟨b49,h2⟩ | ⟨b49,h2⟩
          ·exact zs b49 U (zs b49 U (B3 (v:=(.bool true)) (Bw U U b48) rfl (Hu U b49 U) (zt b48 U (AA (M41 true (Sh.AE h2).symm _ (AG U))))))
          ·exact zg tb b49 U (zg tb b49 U (B3 (v:=(.bool (decide (c3.result=1)))) (Bw U U b48) rfl (Ia U b49 U) (zt b48 U (AA (M41 (decide (c3.result=1)) (Sh.AE h2).symm _ (AG U))))))
         ·refine zs b48 U (zs b48 U (zs b48 U ?_))
          iterate 2 refine zn rfl ?_
          exact zs b48 U (zf b48 U (AA (M41 false (Sh.AE h2).symm _ (AG U))))
        ·refine zs b46 U ?_
         iterate 3 refine zs b46 rfl ?_
         refine zf b46 U (zq tb U ?_)
         iterate 3 refine zs rfl rfl ?_
         iterate 2 refine zn rfl ?_
         exact zs U U (zf U U (AA (M41 false (Sh.AE h2).symm _ (AG U))))
       ·refine zs b45 U (zs b45 U (zs b45 U (zf b45 U (zq tb U ?_))))
        iterate 4 refine zs rfl rfl ?_
        refine zf U U (zq tb U ?_)
        iterate 3 refine zs rfl rfl ?_
        iterate 2 refine zn rfl ?_
        exact zs U U (zf U U (AA (M41 false (Sh.AE h2).symm _ (AG U))))
     refine AL U (zm tb 3 U ?_)
     rcases Sh.Am h2 with ⟨b50,h2⟩ | ⟨b50,h2⟩
     ·refine zg tb b50 U (B3 (v:=(i64 (Sh.len c3.params))) (Bw U U b50) rfl (B6 Em U) (zg tb b50 U (zt b50 U (zq tb U ?_))))
      rcases Sh.Am h2 with ⟨b51,h2⟩ | ⟨b51,h2⟩
      ·refine zg tb b51 U (bs h2 fun c52 gc52 h2=>B3 (v:=(.Al (eI c52) 0)) (Bw U U b51) rfl (CZ A4 U U gc52 U) (zg tb b51 U (zg tb b51 U (zt b51 U (zq tb U ?_)))))
       rcases Sh.Am h2 with ⟨b53,h2⟩ | ⟨b53,h2⟩
       ·refine zg tb b53 U (zg tb b53 U (zg tb b53 U ?_))
        rcases Sh.Am h2 with ⟨b54,h2⟩ | ⟨b54,h2⟩
        ·exact zs b54 U (zs b54 U (B3 (v:=(.bool true)) (Bw U U b53) rfl (Hu U b54 U) (zt b53 U (AA (M36 true (Sh.AE h2).symm _ (AG U))))))
        ·exact zg tb b54 U (zg tb b54 U (B3 (v:=(.bool (decide (c3.result=3)))) (Bw U U b53) rfl (Ia U b54 U) (zt b53 U (AA (M36 (decide (c3.result=3)) (Sh.AE h2).symm _ (AG U))))))
       ·refine zs b53 U (zs b53 U (zs b53 U ?_))
        iterate 2 refine zn rfl ?_
        exact zs b53 U (zf b53 U (AA (M36 false (Sh.AE h2).symm _ (AG U))))
      ·refine zs b51 U ?_
       iterate 3 refine zs b51 rfl ?_
       refine zf b51 U (zq tb U ?_)
       iterate 3 refine zs rfl rfl ?_
       iterate 2 refine zn rfl ?_
       exact zs U U (zf U U (AA (M36 false (Sh.AE h2).symm _ (AG U))))
     ·refine zs b50 U (zs b50 U (zs b50 U (zf b50 U (zq tb U ?_))))
      iterate 4 refine zs rfl rfl ?_
      refine zf U U (zq tb U ?_)
      iterate 3 refine zs rfl rfl ?_
      iterate 2 refine zn rfl ?_
      exact zs U U (zf U U (AA (M36 false (Sh.AE h2).symm _ (AG U))))
   refine AL U (zm tb 3 U ?_)
   rcases Sh.Am h2 with ⟨b55,h2⟩ | ⟨b55,h2⟩
   ·refine zg tb b55 U (zg tb b55 U (zt b55 U (zq tb U ?_)))
    rcases Sh.Am h2 with ⟨b56,h2⟩ | ⟨b56,h2⟩
    ·refine zg tb b56 U (zg tb b56 U (zg tb b56 U ?_))
     rcases Sh.Am h2 with ⟨b57,h2⟩ | ⟨b57,h2⟩
     ·exact zs b57 U (zs b57 U (B3 (v:=(.bool true)) (Bw U U b56) rfl (Hu U b57 U) (zt b56 U (AA (M31 true (Sh.AE h2).symm _ (AG U))))))
     ·exact zg tb b57 U (zg tb b57 U (B3 (v:=(.bool (decide (c3.result=1)))) (Bw U U b56) rfl (Ia U b57 U) (zt b56 U (AA (M31 (decide (c3.result=1)) (Sh.AE h2).symm _ (AG U))))))
    ·refine zs b56 U (zs b56 U (zs b56 U ?_))
     iterate 2 refine zn rfl ?_
     exact zs b56 U (zf b56 U (AA (M31 false (Sh.AE h2).symm _ (AG U))))
   ·refine zs b55 U (zs b55 U (zf b55 U (zq tb U ?_)))
    iterate 3 refine zs rfl rfl ?_
    iterate 2 refine zn rfl ?_
    exact zs U U (zf U U (AA (M31 false (Sh.AE h2).symm _ (AG U))))
 refine AL U (zm tb 3 U ?_)
 rcases Sh.Am h2 with ⟨b58,h2⟩ | ⟨b58,h2⟩
 ·exact zg tb b58 U (zg tb b58 U (zt b58 U (AA (M26 (decide (p2=0)) (Sh.AE h2).symm _ (AG U)))))
 ·exact zs b58 U (zs b58 U (zf b58 U (AA (M26 false (Sh.AE h2).symm _ (AG U)))))
end Go.Proofs.Ytpahalfiiahddaa


