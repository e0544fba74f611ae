import Derived.Test.YtpahalfiiahddaaProg
import Derived.Test.YtpahalfiiahddaaGAbsXToSSDefs
import Derived.Test.YtpahalfiiahddaaGHADefsToFIDefs
import Derived.Test.YtpahalfiiahddaaFIWalkP3
namespace Go.Proofs.Ytpahalfiiahddaa
open Go Go.Abs RC
attribute [local irreducible] Go.Abs.Cw
set_option maxRecDepth 100000
set_option maxHeartbeats 4000000

noncomputable abbrev Ga (z0:Int) (z1:Int) (z2:List AP):Go.Abs.Row:=⟨0,50,3,[[(i64 z0),(i64 z1),(ls AD z2)]]⟩
noncomputable abbrev NS:Go.Abs.Row:=⟨0,80,3,[[(i64 0),(i64 0),.zc]]⟩
noncomputable abbrev Uh (z0:List Ac) (z1:List Ar):Go.Abs.Row:=⟨0,31,2,[[(ls AI z0),(ls AJ z1)]]⟩
theorem QF:Ct Try.prog 60=some ⟨4,1,1,[.bool false]⟩:=by kernel_rfl
theorem Vv:Aq Try.prog 121=true:=by kernel_rfl
theorem SV:Aq Try.prog 122=true:=by kernel_rfl
theorem YS:Aq Try.prog 123=true:=by kernel_rfl
theorem Uw:Aq Try.prog 18=true:=by kernel_rfl
theorem YD:Aq Try.prog 27=true:=by kernel_rfl
theorem Vo:Aq Try.prog 33=true:=by kernel_rfl
theorem Xs:Aq Try.prog 34=true:=by kernel_rfl
theorem YB:Aq Try.prog 38=true:=by kernel_rfl
theorem ZF:Aq Try.prog 39=true:=by kernel_rfl
theorem ZK:Aq Try.prog 53=true:=by kernel_rfl
theorem ZT:Aq Try.prog 58=true:=by kernel_rfl
theorem X7:Aq Try.prog 60=true:=by kernel_rfl
theorem X4:Aq Try.prog 62=true:=by kernel_rfl
theorem Xv:Aq Try.prog 92=true:=by kernel_rfl
theorem ZG:Aq Try.prog 93=true:=by kernel_rfl
theorem Zl:Aq Try.prog 94=true:=by kernel_rfl
theorem Zk:Aq Try.prog 95=true:=by kernel_rfl
theorem XB:EN Try.prog 4=some (false,1):=by kernel_rfl
theorem Y7:EN Try.prog 60=some (false,1):=by kernel_rfl
theorem Zg:Gr Try.prog 60=some [.zc]:=by kernel_rfl

theorem IN {N:Nat} {p0:BF} {p1:Int} {p2:Int} {p3:(List Int)} {r:Int×Bool} (h0:A6 N p0 p1 p2 p3=some r):Ai Try.prog 95 [(.agg (AZ p0)),(i64 p1),(i64 p2),(ls eI p3)] [] (fun v st=>v=(.CO [(i64 r.1),(.bool r.2)])∧st=[]):=by
 unfold A6 at h0
 refine ai Try.func95 U U U U (sr U fun K1 hK1=>Bl (m:=0) AM U U U U U (zm tb 2 U (dn hK1 U (zr tb U U (AH fun K3 hK3=>?_)))))
 obtain⟨o5,h1,h0⟩:=Sh.BZ h0
 have M5 :∀(l4:(List Int)),o5=Sum.inr l4→∀s,Wk 0 s ⟨149,Aa [(2,(i64 p2)),(3,(ls eI p3)),(10,(ow 0 0 l4)),(11,(i64 0))],[(ro 0 3 1 eI l4)]⟩→K3 s:=by
  intro l4 hq s hw
  subst o5
  try dsimp only at h0
  refine hK3 _ (AN hw (AH fun K6 hK6=>bs h0 fun o8 h1 h0=>?_))
  have M8 :∀(t7:Bool),o8=t7→∀s,Wk 0 s ⟨149,Aa [(8,(i64 0)),(9,(.bool t7))],[]⟩→K6 s:=by
   intro t7 hq s hw
   subst o8
   try dsimp only at h0
   refine hK6 _ (AN hw ?_)
   replace h0:=Sh.AE h0
   subst r
   exact AU (xr (Ah (L:=[(8,(i64 0)),(9,(.bool t7))]) (.same U)))
  refine AL U (zm tb 4 U ?_)
  rcases Sh.Am h1 with ⟨b9,h1⟩ | ⟨b9,h1⟩
  ·exact zg tb b9 U (zg tb b9 U (Ad (Wk.A7 (L:=[(141,(i64 0)),(144,(.bool (decide (p2=0)))),(145,(ls eI p3)),(146,(ls eI l4))]) (st':=[⟨1,3,1,[]⟩]) (id:=0) rfl (show 0≤0 by decide) (AB fun _=>U) ⟨.rfl,.rfl,.rfl,(.A7 U),trivial⟩ U) (bs h1 fun q10 gq10 h1=>zd b9 SV (Eo gq10) rfl U U U (zt b9 U (zm tb 2 U (AA (M8 q10 (Sh.AE h1).symm _ (As _ U))))))))
  ·exact zs b9 U (zs b9 U (zs b9 U (zf b9 U (zm tb 2 U (AA (M8 false (Sh.AE h1).symm _ (As _ U)))))))
 refine zr tb U U (Ab (zr tb U U ?_))
 refine ci h1 U ?_ ?_ <;> clear h1
 ·intro b13 h1
  refine AH fun K14 hK14=>bs h1 fun o16 h2 h1=>?_
  have M16 :∀(t15:Bool),o16=t15→∀s,Wk 0 s ⟨149,Aa [(8,(i64 0)),(9,(.bool t15))],[]⟩→K14 s:=by
   intro t15 hq s hw
   subst o16
   try dsimp only at h1
   refine hK14 _ (AN hw ?_)
   replace h1:=Sh.AE h1
   subst o5
   try dsimp only[id] at h0
   replace h0:=Sh.AE h0
   subst r
   exact AU (xr (Ah (L:=[(8,(i64 0)),(9,(.bool t15))]) (.same U)))
  refine AL U (zm tb 3 U ?_)
  rcases Sh.Am h2 with ⟨b17,h2⟩ | ⟨b17,h2⟩
  ·refine zg tb b17 U (zg tb b17 U (zt b17 U (zq tb U ?_)))
   rcases Sh.Am h2 with ⟨b18,h2⟩ | ⟨b18,h2⟩
   ·exact zg tb b18 U (B3 (v:=(i64 (Sh.len p3))) (Bw U U b18) rfl (B6 Em U) (zg tb b18 U (zt b18 U (zm tb 2 U (AA (M16 (decide ((Sh.len p3)=0)) (Sh.AE h2).symm _ (As _ U)))))))
   ·exact zs b18 U (zs b18 U (zs b18 U (zf b18 U (zm tb 2 U (AA (M16 false (Sh.AE h2).symm _ (As _ U)))))))
  ·refine zs b17 U (zs b17 U (zf b17 U (zq tb U ?_)))
   iterate 3 refine zs rfl rfl ?_
   exact zf U U (zm tb 2 U (AA (M16 false (Sh.AE h2).symm _ (As _ U))))
 ·intro b13 h1
  refine AH fun K19 hK19=>bs h1 fun o21 h2 h1=>?_
  have M21 :∀(t20:Bool),o21=t20→∀s,Wk 0 s ⟨149,Aa [(1,(i64 p1)),(2,(i64 p2)),(3,(ls eI p3)),(4,(.ptr 0 0 0 0)),(11,(i64 0)),(18,(i64 p1)),(32,(.bool t20))],[⟨0,97,2,[(AZ p0)]⟩]⟩→K19 s:=by
   intro t20 hq s hw
   subst o21
   try dsimp only at h1
   refine hK19 _ (AN hw ?_)
   refine ci h1 U ?_ ?_ <;> clear h1
   ·intro b22 h1
    refine AL U ?_
    refine A3 (m:=1) (l:=[(0:Int),0]) (enc:=eI) AM A4 (by decide) rfl U U U U U ?_
    refine zq tb U ?_
    exact AA (M5 [(0:Int),0] (Sh.AE h1).symm _ (AS [1] U (by decide) rfl U (.pure (AB fun _=>U) .nil) (.same U)))
   ·intro b22 h1
    refine zr tb U U ?_
    refine ci h1 U ?_ ?_ <;> clear h1
    ·intro b24 h1
     refine AL U ?_
     refine A3 (m:=1) (l:=[(0:Int)]) (enc:=eI) AM A4 (by decide) rfl U U U U U ?_
     refine zq tb U ?_
     exact AA (M5 [(0:Int)] (Sh.AE h1).symm _ (AS [1] U (by decide) rfl U (.pure (AB fun _=>U) .nil) (.same U)))
    ·intro b24 h1
     refine zr tb U U ?_
     refine ci h1 U ?_ ?_ <;> clear h1
     ·intro b26 h1
      refine AH fun K27 hK27=>sr U fun K28 hK28=>zq tb U (zl tb U U (zq tb U (dn hK28 U ?_)))
      refine ci h1 U ?_ ?_ <;> clear h1
      ·intro b29 h1
       have b30:decide ((Sh.len p3)=2)=false:=by simpa using b29
       refine zr tb U U ?_
       replace h1:=Sh.AE h1
       subst o5
       try dsimp only[id] at h0
       replace h0:=Sh.AE h0
       subst r
       exact AU (xr (As [(8,(i64 (-1))),(9,(.bool false))] U))
      ·intro b29 h1
       have b32:decide ((Sh.len p3)=2)=true:=by simpa using b29
       refine AR (hK27 _ (AH fun K33 hK33=>?_))
       refine Ho (by kernel_rfl) ?_
       refine bs h1 fun c34 gc34 h1=>bs h1 fun q35 gq35 h1=>MQ fun A36 hA36=>?_
       have A36_0123456789ab:A36 0 #[true,true,true,true,true,true,true,true,true,true,true,true] ⟨149,Aa [(2,(i64 p2)),(3,(ls eI p3)),(12,(.ptr 0 0 0 0)),(13,(.bool q35.2))],[⟨0,80,3,[(AI q35.1)]⟩]⟩:=(hA36 _ _ _).2 (by
        refine F5 U (by kernel_rfl) ?_
        refine hK33 _ (AH fun K37 hK37=>bs h1 fun o39 h2 h1=>?_)
        have M39 :∀(t38:Bool),o39=t38→∀s,Wk 0 s ⟨149,Aa [(8,(i64 q35.1.to)),(9,(.bool t38))],[]⟩→K37 s:=by
         intro t38 hq s hw
         subst o39
         try dsimp only at h1
         refine hK37 _ (AN hw ?_)
         replace h1:=Sh.AE h1
         subst o5
         try dsimp only[id] at h0
         replace h0:=Sh.AE h0
         subst r
         exact AU (xr (Ah (L:=[(8,(i64 q35.1.to)),(9,(.bool t38))]) (.same U)))
        refine CC (by kernel_rfl) (by kernel_rfl) (by rfl) ?_
        iterate 4 refine yq tb rfl ?_
        rcases Sh.Am h2 with ⟨b40,h2⟩ | ⟨b40,h2⟩
        ·refine yg tb b40 U (bs h2 fun c41 gc41 h2=>HN (v:=(.Al (eI c41) 0)) (Bw U U b40) rfl (CZ A4 U U gc41 U) ?_)
         iterate 4 refine yg tb b40 rfl ?_
         refine yt b40 U (yq tb U ?_)
         rcases Sh.Am h2 with ⟨b42,h2⟩ | ⟨b42,h2⟩
         ·refine yg tb b42 U (yg tb b42 U (yt b42 U ?_))
          iterate 2 refine yq tb rfl ?_
          exact Ax (M39 (decide (p2=0)) (Sh.AE h2).symm _ (As _ U))
         ·refine ys b42 U (ys b42 U (yf b42 U ?_))
          iterate 2 refine yq tb rfl ?_
          exact Ax (M39 false (Sh.AE h2).symm _ (As _ U))
        ·refine ys b40 U ?_
         iterate 5 refine ys b40 rfl ?_
         refine yf b40 U (yq tb U ?_)
         iterate 2 refine ys rfl rfl ?_
         refine yf U U ?_
         iterate 2 refine yq tb rfl ?_
         exact Ax (M39 false (Sh.AE h2).symm _ (by exact AS [] U (by decide) rfl U .nil (.same U))))
       have A36_0123456789a:A36 1 #[true,true,true,true,true,true,true,true,true,true,true,false] ⟨149,Aa [(2,(i64 p2)),(3,(ls eI p3)),(12,(.ptr 0 0 0 0)),(54,(.bool q35.2))],[⟨0,80,3,[(AI q35.1)]⟩]⟩:=(hA36 _ _ _).2 (by
        refine Cj 11 (v:=(.bool q35.2)) rfl U (by kernel_rfl) (by kernel_rfl) (by kernel_rfl) rfl (Hn U) ?_
        exact AF (by exact AG U) (AK (by kernel_rfl) ((hA36 _ _ _).1 A36_0123456789ab)) rfl)
       have A36_0123456789:A36 2 #[true,true,true,true,true,true,true,true,true,true,false,false] ⟨149,Aa [(2,(i64 p2)),(3,(ls eI p3)),(12,(.ptr 0 0 0 0)),(53,(.agg (AI q35.1))),(54,(.bool q35.2))],[NS]⟩:=(hA36 _ _ _).2 (by
        refine Ae [10] U (by kernel_rfl) (by decide) ⟨?_,trivial⟩
        ·refine Au.of (i:=10) rfl U (by rfl) ?_
         refine Az AM Ht U U U U U U (show 0+3≤3 by decide) rfl (AA ⟨U,?_⟩)
         exact AF (by exact AG U) (AK (by kernel_rfl) ((hA36 _ _ _).1 A36_0123456789a)) rfl)
       have A36_012345678:A36 3 #[true,true,true,true,true,true,true,true,true,false,false,false] ⟨149,Aa [(2,(i64 p2)),(3,(ls eI p3)),(53,(.agg (AI q35.1))),(54,(.bool q35.2))],[]⟩:=(hA36 _ _ _).2 (by
        refine Ae [9] U (by kernel_rfl) (by decide) ⟨?_,trivial⟩
        ·refine Au.of (i:=9) rfl U (by rfl) ?_
         refine A1 (m:=0) AM Eh U U (AA ⟨U,?_⟩)
         exact AF (by exact AG U) (AK (by kernel_rfl) ((hA36 _ _ _).1 A36_0123456789)) rfl)
       have A36_012345679a:A36 2 #[true,true,true,true,true,true,true,true,false,true,true,false] ⟨149,Aa [(2,(i64 p2)),(3,(ls eI p3)),(12,(.ptr 0 0 0 0)),(46,(.CO [(.agg (AI q35.1)),(.bool q35.2)]))],[⟨0,80,3,[(AI q35.1)]⟩]⟩:=(hA36 _ _ _).2 (by
        refine Ae [8] U (by kernel_rfl) (by decide) ⟨?_,trivial⟩
        ·refine Au.of (i:=8) rfl U (by rfl) ?_
         refine zq tb U (AA ⟨U,?_⟩)
         exact AF (by exact AG U) (AK (by kernel_rfl) ((hA36 _ _ _).1 A36_0123456789a)) rfl)
       have A36_012345679:A36 3 #[true,true,true,true,true,true,true,true,false,true,false,false] ⟨149,Aa [(2,(i64 p2)),(3,(ls eI p3)),(12,(.ptr 0 0 0 0)),(46,(.CO [(.agg (AI q35.1)),(.bool q35.2)])),(53,(.agg (AI q35.1)))],[NS]⟩:=(hA36 _ _ _).2 (by
        refine Ae [8,10] U (by kernel_rfl) (by decide) ⟨?_,?_,trivial⟩
        ·refine Au.of (i:=8) rfl U (by rfl) ?_
         refine zq tb U (AA ⟨U,?_⟩)
         exact AF (by exact AG U) (AK (by kernel_rfl) ((hA36 _ _ _).1 A36_0123456789)) rfl
        ·refine Au.of (i:=10) rfl U (by rfl) ?_
         refine Az AM Ht U U U U U U (show 0+3≤3 by decide) rfl (AA ⟨U,?_⟩)
         exact AF (by exact AG U) (AK (by kernel_rfl) ((hA36 _ _ _).1 A36_012345679a)) rfl)
       have A36_01234567:A36 4 #[true,true,true,true,true,true,true,true,false,false,false,false] ⟨149,Aa [(2,(i64 p2)),(3,(ls eI p3)),(46,(.CO [(.agg (AI q35.1)),(.bool q35.2)])),(53,(.agg (AI q35.1)))],[]⟩:=(hA36 _ _ _).2 (by
        refine Ae [8,9] U (by kernel_rfl) (by decide) ⟨?_,?_,trivial⟩
        ·refine Au.of (i:=8) rfl U (by rfl) ?_
         refine zq tb U (AA ⟨U,?_⟩)
         exact AF (by exact AG U) (AK (by kernel_rfl) ((hA36 _ _ _).1 A36_012345678)) rfl
        ·refine Au.of (i:=9) rfl U (by rfl) ?_
         refine A1 (m:=0) AM Eh U U (AA ⟨U,?_⟩)
         exact AF (by exact AG U) (AK (by kernel_rfl) ((hA36 _ _ _).1 A36_012345679)) rfl)
       have A36_012345689:A36 3 #[true,true,true,true,true,true,true,false,true,true,false,false] ⟨149,Aa [(2,(i64 p2)),(3,(ls eI p3)),(12,(.ptr 0 0 0 0)),(46,(.CO [(.agg (AI q35.1)),(.bool q35.2)])),(54,(.bool q35.2))],[NS]⟩:=(hA36 _ _ _).2 (by
        refine Ae [7] U (by kernel_rfl) (by decide) ⟨?_,trivial⟩
        ·refine Au.of (i:=7) rfl U (by rfl) ?_
         refine zq tb U (AA ⟨U,?_⟩)
         exact AF (by exact AG U) (AK (by kernel_rfl) ((hA36 _ _ _).1 A36_0123456789)) rfl)
       have A36_01234568:A36 4 #[true,true,true,true,true,true,true,false,true,false,false,false] ⟨149,Aa [(2,(i64 p2)),(3,(ls eI p3)),(46,(.CO [(.agg (AI q35.1)),(.bool q35.2)])),(54,(.bool q35.2))],[]⟩:=(hA36 _ _ _).2 (by
        refine Ae [7,9] U (by kernel_rfl) (by decide) ⟨?_,?_,trivial⟩
        ·refine Au.of (i:=7) rfl U (by rfl) ?_
         refine zq tb U (AA ⟨U,?_⟩)
         exact AF (by exact AG U) (AK (by kernel_rfl) ((hA36 _ _ _).1 A36_012345678)) rfl
        ·refine Au.of (i:=9) rfl U (by rfl) ?_
         refine A1 (m:=0) AM Eh U U (AA ⟨U,?_⟩)
         exact AF (by exact AG U) (AK (by kernel_rfl) ((hA36 _ _ _).1 A36_012345689)) rfl)
       have A36_01234569:A36 4 #[true,true,true,true,true,true,true,false,false,true,false,false] ⟨149,Aa [(2,(i64 p2)),(3,(ls eI p3)),(12,(.ptr 0 0 0 0)),(46,(.CO [(.agg (AI q35.1)),(.bool q35.2)]))],[NS]⟩:=(hA36 _ _ _).2 (by
        refine Ae [7,8] U (by kernel_rfl) (by decide) ⟨?_,?_,trivial⟩
        ·refine Au.of (i:=7) rfl U (by rfl) ?_
         refine zq tb U (AA ⟨U,?_⟩)
         exact AF (by exact AG U) (AK (by kernel_rfl) ((hA36 _ _ _).1 A36_012345679)) rfl
        ·refine Au.of (i:=8) rfl U (by rfl) ?_
         refine zq tb U (AA ⟨U,?_⟩)
         exact AF (by exact AG U) (AK (by kernel_rfl) ((hA36 _ _ _).1 A36_012345689)) rfl)
       have A36_0123456:A36 5 #[true,true,true,true,true,true,true,false,false,false,false,false] ⟨149,Aa [(2,(i64 p2)),(3,(ls eI p3)),(46,(.CO [(.agg (AI q35.1)),(.bool q35.2)]))],[]⟩:=(hA36 _ _ _).2 (by
        refine Ae [7,8,9] U (by kernel_rfl) (by decide) ⟨?_,?_,?_,trivial⟩
        ·refine Au.of (i:=7) rfl U (by rfl) ?_
         refine zq tb U (AA ⟨U,?_⟩)
         exact AF (by exact AG U) (AK (by kernel_rfl) ((hA36 _ _ _).1 A36_01234567)) rfl
        ·refine Au.of (i:=8) rfl U (by rfl) ?_
         refine zq tb U (AA ⟨U,?_⟩)
         exact AF (by exact AG U) (AK (by kernel_rfl) ((hA36 _ _ _).1 A36_01234568)) rfl
        ·refine Au.of (i:=9) rfl U (by rfl) ?_
         refine A1 (m:=0) AM Eh U U (AA ⟨U,?_⟩)
         exact AF (by exact AG U) (AK (by kernel_rfl) ((hA36 _ _ _).1 A36_01234569)) rfl)
       have A36_012345:A36 6 #[true,true,true,true,true,true,false,false,false,false,false,false] ⟨149,Aa [(2,(i64 p2)),(3,(ls eI p3)),(52,(.CO [(.agg (AI q35.1)),(.bool q35.2)]))],[]⟩:=(hA36 _ _ _).2 (by
        refine Cj 6 (v:=(.CO [(.agg (AI q35.1)),(.bool q35.2)])) rfl U (by kernel_rfl) (by kernel_rfl) (by kernel_rfl) rfl (GR U) ?_
        exact AF (by exact AG U) (AK (by kernel_rfl) ((hA36 _ _ _).1 A36_0123456)) rfl)
       have A36_0123459:A36 5 #[true,true,true,true,true,true,false,false,false,true,false,false] ⟨149,Aa [(2,(i64 p2)),(3,(ls eI p3)),(12,(.ptr 0 0 0 0)),(52,(.CO [(.agg (AI q35.1)),(.bool q35.2)]))],[NS]⟩:=(hA36 _ _ _).2 (by
        refine Cj 6 (v:=(.CO [(.agg (AI q35.1)),(.bool q35.2)])) rfl U (by kernel_rfl) (by kernel_rfl) (by kernel_rfl) rfl (GR U) ?_
        exact AF (by exact AG U) (AK (by kernel_rfl) ((hA36 _ _ _).1 A36_01234569)) rfl)
       have A36_012349:A36 6 #[true,true,true,true,true,false,false,false,false,true,false,false] ⟨149,Aa [(2,(i64 p2)),(3,(ls eI p3)),(12,(.ptr 0 0 0 0)),(48,(ls AI p0.decls)),(51,(i64 c34))],[NS]⟩:=(hA36 _ _ _).2 (by
        refine Ae [5] U (by kernel_rfl) (by decide) ⟨?_,trivial⟩
        ·refine Au.of (i:=5) rfl U (by rfl) ?_
         refine zc (v':=(.CO [(.agg (AI q35.1)),(.bool q35.2)])) Vv (KP gq35) rfl U U (AA ⟨U,?_⟩)
         exact AF (by exact AG U) (AK (by kernel_rfl) ((hA36 _ _ _).1 A36_0123459)) rfl)
       have A36_01234:A36 7 #[true,true,true,true,true,false,false,false,false,false,false,false] ⟨149,Aa [(2,(i64 p2)),(3,(ls eI p3)),(48,(ls AI p0.decls)),(51,(i64 c34))],[]⟩:=(hA36 _ _ _).2 (by
        refine Ae [5,9] U (by kernel_rfl) (by decide) ⟨?_,?_,trivial⟩
        ·refine Au.of (i:=5) rfl U (by rfl) ?_
         refine zc (v':=(.CO [(.agg (AI q35.1)),(.bool q35.2)])) Vv (KP gq35) rfl U U (AA ⟨U,?_⟩)
         exact AF (by exact AG U) (AK (by kernel_rfl) ((hA36 _ _ _).1 A36_012345)) rfl
        ·refine Au.of (i:=9) rfl U (by rfl) ?_
         refine A1 (m:=0) AM Eh U U (AA ⟨U,?_⟩)
         exact AF (by exact AG U) (AK (by kernel_rfl) ((hA36 _ _ _).1 A36_012349)) rfl)
       have A36_01239:A36 7 #[true,true,true,true,false,false,false,false,false,true,false,false] ⟨149,Aa [(2,(i64 p2)),(3,(ls eI p3)),(12,(.ptr 0 0 0 0)),(48,(ls AI p0.decls)),(50,(.Al (eI c34) 0))],[NS]⟩:=(hA36 _ _ _).2 (by
        refine Ae [4] U (by kernel_rfl) (by decide) ⟨?_,trivial⟩
        ·refine Au.of (i:=4) rfl U (by rfl) ?_
         refine zq tb U (AA ⟨U,?_⟩)
         exact AF (by exact AG U) (AK (by kernel_rfl) ((hA36 _ _ _).1 A36_012349)) rfl)
       have A36_0123:A36 8 #[true,true,true,true,false,false,false,false,false,false,false,false] ⟨149,Aa [(2,(i64 p2)),(3,(ls eI p3)),(48,(ls AI p0.decls)),(50,(.Al (eI c34) 0))],[]⟩:=(hA36 _ _ _).2 (by
        refine Ae [4,9] U (by kernel_rfl) (by decide) ⟨?_,?_,trivial⟩
        ·refine Au.of (i:=4) rfl U (by rfl) ?_
         refine zq tb U (AA ⟨U,?_⟩)
         exact AF (by exact AG U) (AK (by kernel_rfl) ((hA36 _ _ _).1 A36_01234)) rfl
        ·refine Au.of (i:=9) rfl U (by rfl) ?_
         refine A1 (m:=0) AM Eh U U (AA ⟨U,?_⟩)
         exact AF (by exact AG U) (AK (by kernel_rfl) ((hA36 _ _ _).1 A36_01239)) rfl)
       have A36_0129:A36 8 #[true,true,true,false,false,false,false,false,false,true,false,false] ⟨149,Aa [(2,(i64 p2)),(3,(ls eI p3)),(12,(.ptr 0 0 0 0)),(48,(ls AI p0.decls)),(49,(ls eI p3))],[NS]⟩:=(hA36 _ _ _).2 (by
        refine Ae [3] U (by kernel_rfl) (by decide) ⟨?_,trivial⟩
        ·refine Au.of (i:=3) rfl U (by rfl) ?_
         refine zx A4 gc34 U U U (AA ⟨U,?_⟩)
         exact AF (by exact AG U) (AK (by kernel_rfl) ((hA36 _ _ _).1 A36_01239)) rfl)
       have A36_012:A36 9 #[true,true,true,false,false,false,false,false,false,false,false,false] ⟨149,Aa [(2,(i64 p2)),(3,(ls eI p3)),(48,(ls AI p0.decls)),(49,(ls eI p3))],[]⟩:=(hA36 _ _ _).2 (by
        refine Ae [3,9] U (by kernel_rfl) (by decide) ⟨?_,?_,trivial⟩
        ·refine Au.of (i:=3) rfl U (by rfl) ?_
         refine zx A4 gc34 U U U (AA ⟨U,?_⟩)
         exact AF (by exact AG U) (AK (by kernel_rfl) ((hA36 _ _ _).1 A36_0123)) rfl
        ·refine Au.of (i:=9) rfl U (by rfl) ?_
         refine A1 (m:=0) AM Eh U U (AA ⟨U,?_⟩)
         exact AF (by exact AG U) (AK (by kernel_rfl) ((hA36 _ _ _).1 A36_0129)) rfl)
       have A36_02349:A36 7 #[true,false,true,true,true,false,false,false,false,true,false,false] ⟨149,Aa [(2,(i64 p2)),(3,(ls eI p3)),(12,(.ptr 0 0 0 0)),(47,(.ptr 1 0 0 0)),(51,(i64 c34))],[NS,⟨0,97,2,[(AZ p0)]⟩]⟩:=(hA36 _ _ _).2 (by
        refine Ae [1] U (by kernel_rfl) (by decide) ⟨?_,trivial⟩
        ·refine Au.of (i:=1) rfl U (by rfl) ?_
         refine zq tb U (AA ⟨U,?_⟩)
         exact AF (by exact AS [0] U (by decide) rfl U (.raw U U .nil) (.same U)) (AK (by kernel_rfl) ((hA36 _ _ _).1 A36_012349)) rfl)
       have A36_0234:A36 8 #[true,false,true,true,true,false,false,false,false,false,false,false] ⟨149,Aa [(2,(i64 p2)),(3,(ls eI p3)),(47,(.ptr 0 0 0 0)),(51,(i64 c34))],[⟨0,97,2,[(AZ p0)]⟩]⟩:=(hA36 _ _ _).2 (by
        refine Ae [1,9] U (by kernel_rfl) (by decide) ⟨?_,?_,trivial⟩
        ·refine Au.of (i:=1) rfl U (by rfl) ?_
         refine zq tb U (AA ⟨U,?_⟩)
         exact AF (by exact AS [] U (by decide) rfl U .nil (.same U)) (AK (by kernel_rfl) ((hA36 _ _ _).1 A36_01234)) rfl
        ·refine Au.of (i:=9) rfl U (by rfl) ?_
         refine A1 (m:=1) AM Eh U U (AA ⟨U,?_⟩)
         exact AF (by exact AS [1,0] U (by decide) rfl U (.raw U U (.raw U U .nil)) (.same U)) (AK (by kernel_rfl) ((hA36 _ _ _).1 A36_02349)) rfl)
       have A36_0239:A36 8 #[true,false,true,true,false,false,false,false,false,true,false,false] ⟨149,Aa [(2,(i64 p2)),(3,(ls eI p3)),(12,(.ptr 0 0 0 0)),(47,(.ptr 1 0 0 0)),(50,(.Al (eI c34) 0))],[NS,⟨0,97,2,[(AZ p0)]⟩]⟩:=(hA36 _ _ _).2 (by
        refine Ae [1,4] U (by kernel_rfl) (by decide) ⟨?_,?_,trivial⟩
        ·refine Au.of (i:=1) rfl U (by rfl) ?_
         refine zq tb U (AA ⟨U,?_⟩)
         exact AF (by exact AS [0] U (by decide) rfl U (.raw U U .nil) (.same U)) (AK (by kernel_rfl) ((hA36 _ _ _).1 A36_01239)) rfl
        ·refine Au.of (i:=4) rfl U (by rfl) ?_
         refine zq tb U (AA ⟨U,?_⟩)
         exact AF (by exact AG U) (AK (by kernel_rfl) ((hA36 _ _ _).1 A36_02349)) rfl)
       have A36_023:A36 9 #[true,false,true,true,false,false,false,false,false,false,false,false] ⟨149,Aa [(2,(i64 p2)),(3,(ls eI p3)),(47,(.ptr 0 0 0 0)),(50,(.Al (eI c34) 0))],[⟨0,97,2,[(AZ p0)]⟩]⟩:=(hA36 _ _ _).2 (by
        refine Ae [1,4,9] U (by kernel_rfl) (by decide) ⟨?_,?_,?_,trivial⟩
        ·refine Au.of (i:=1) rfl U (by rfl) ?_
         refine zq tb U (AA ⟨U,?_⟩)
         exact AF (by exact AS [] U (by decide) rfl U .nil (.same U)) (AK (by kernel_rfl) ((hA36 _ _ _).1 A36_0123)) rfl
        ·refine Au.of (i:=4) rfl U (by rfl) ?_
         refine zq tb U (AA ⟨U,?_⟩)
         exact AF (by exact AG U) (AK (by kernel_rfl) ((hA36 _ _ _).1 A36_0234)) rfl
        ·refine Au.of (i:=9) rfl U (by rfl) ?_
         refine A1 (m:=1) AM Eh U U (AA ⟨U,?_⟩)
         exact AF (by exact AS [1,0] U (by decide) rfl U (.raw U U (.raw U U .nil)) (.same U)) (AK (by kernel_rfl) ((hA36 _ _ _).1 A36_0239)) rfl)
       have A36_029:A36 9 #[true,false,true,false,false,false,false,false,false,true,false,false] ⟨149,Aa [(2,(i64 p2)),(3,(ls eI p3)),(12,(.ptr 0 0 0 0)),(47,(.ptr 1 0 0 0)),(49,(ls eI p3))],[NS,⟨0,97,2,[(AZ p0)]⟩]⟩:=(hA36 _ _ _).2 (by
        refine Ae [1,3] U (by kernel_rfl) (by decide) ⟨?_,?_,trivial⟩
        ·refine Au.of (i:=1) rfl U (by rfl) ?_
         refine zq tb U (AA ⟨U,?_⟩)
         exact AF (by exact AS [0] U (by decide) rfl U (.raw U U .nil) (.same U)) (AK (by kernel_rfl) ((hA36 _ _ _).1 A36_0129)) rfl
        ·refine Au.of (i:=3) rfl U (by rfl) ?_
         refine zx A4 gc34 U U U (AA ⟨U,?_⟩)
         exact AF (by exact AG U) (AK (by kernel_rfl) ((hA36 _ _ _).1 A36_0239)) rfl)
       have A36_02:A36 10 #[true,false,true,false,false,false,false,false,false,false,false,false] ⟨149,Aa [(2,(i64 p2)),(3,(ls eI p3)),(47,(.ptr 0 0 0 0)),(49,(ls eI p3))],[⟨0,97,2,[(AZ p0)]⟩]⟩:=(hA36 _ _ _).2 (by
        refine Ae [1,3,9] U (by kernel_rfl) (by decide) ⟨?_,?_,?_,trivial⟩
        ·refine Au.of (i:=1) rfl U (by rfl) ?_
         refine zq tb U (AA ⟨U,?_⟩)
         exact AF (by exact AS [] U (by decide) rfl U .nil (.same U)) (AK (by kernel_rfl) ((hA36 _ _ _).1 A36_012)) rfl
        ·refine Au.of (i:=3) rfl U (by rfl) ?_
         refine zx A4 gc34 U U U (AA ⟨U,?_⟩)
         exact AF (by exact AG U) (AK (by kernel_rfl) ((hA36 _ _ _).1 A36_023)) rfl
        ·refine Au.of (i:=9) rfl U (by rfl) ?_
         refine A1 (m:=1) AM Eh U U (AA ⟨U,?_⟩)
         exact AF (by exact AS [1,0] U (by decide) rfl U (.raw U U (.raw U U .nil)) (.same U)) (AK (by kernel_rfl) ((hA36 _ _ _).1 A36_029)) rfl)
       have A36_2349:A36 8 #[false,false,true,true,true,false,false,false,false,true,false,false] ⟨149,Aa [(2,(i64 p2)),(3,(ls eI p3)),(4,(.ptr 0 0 0 0)),(12,(.ptr 1 0 0 0)),(51,(i64 c34))],[⟨0,97,2,[(AZ p0)]⟩,NS]⟩:=(hA36 _ _ _).2 (by
        refine Ae [0] U (by kernel_rfl) (by decide) ⟨?_,trivial⟩
        ·refine Au.of (i:=0) rfl U (by rfl) ?_
         refine zq tb U (AA ⟨U,?_⟩)
         exact AF (by exact AS [1,0] U (by decide) rfl U (.raw U U (.raw U U .nil)) (.same U)) (AK (by kernel_rfl) ((hA36 _ _ _).1 A36_02349)) rfl)
       have A36_234:A36 9 #[false,false,true,true,true,false,false,false,false,false,false,false] ⟨149,Aa [(2,(i64 p2)),(3,(ls eI p3)),(4,(.ptr 0 0 0 0)),(51,(i64 c34))],[⟨0,97,2,[(AZ p0)]⟩]⟩:=(hA36 _ _ _).2 (by
        refine Ae [0,9] U (by kernel_rfl) (by decide) ⟨?_,?_,trivial⟩
        ·refine Au.of (i:=0) rfl U (by rfl) ?_
         refine zq tb U (AA ⟨U,?_⟩)
         exact AF (by exact AG U) (AK (by kernel_rfl) ((hA36 _ _ _).1 A36_0234)) rfl
        ·refine Au.of (i:=9) rfl U (by rfl) ?_
         refine A1 (m:=1) AM Eh U U (AA ⟨U,?_⟩)
         exact AF (by exact AG U) (AK (by kernel_rfl) ((hA36 _ _ _).1 A36_2349)) rfl)
       have A36_239:A36 9 #[false,false,true,true,false,false,false,false,false,true,false,false] ⟨149,Aa [(2,(i64 p2)),(3,(ls eI p3)),(4,(.ptr 0 0 0 0)),(12,(.ptr 1 0 0 0)),(50,(.Al (eI c34) 0))],[⟨0,97,2,[(AZ p0)]⟩,NS]⟩:=(hA36 _ _ _).2 (by
        refine Ae [0,4] U (by kernel_rfl) (by decide) ⟨?_,?_,trivial⟩
        ·refine Au.of (i:=0) rfl U (by rfl) ?_
         refine zq tb U (AA ⟨U,?_⟩)
         exact AF (by exact AS [1,0] U (by decide) rfl U (.raw U U (.raw U U .nil)) (.same U)) (AK (by kernel_rfl) ((hA36 _ _ _).1 A36_0239)) rfl
        ·refine Au.of (i:=4) rfl U (by rfl) ?_
         refine zq tb U (AA ⟨U,?_⟩)
         exact AF (by exact AG U) (AK (by kernel_rfl) ((hA36 _ _ _).1 A36_2349)) rfl)
       have A36_23:A36 10 #[false,false,true,true,false,false,false,false,false,false,false,false] ⟨149,Aa [(2,(i64 p2)),(3,(ls eI p3)),(4,(.ptr 0 0 0 0)),(50,(.Al (eI c34) 0))],[⟨0,97,2,[(AZ p0)]⟩]⟩:=(hA36 _ _ _).2 (by
        refine Ae [0,4,9] U (by kernel_rfl) (by decide) ⟨?_,?_,?_,trivial⟩
        ·refine Au.of (i:=0) rfl U (by rfl) ?_
         refine zq tb U (AA ⟨U,?_⟩)
         exact AF (by exact AG U) (AK (by kernel_rfl) ((hA36 _ _ _).1 A36_023)) rfl
        ·refine Au.of (i:=4) rfl U (by rfl) ?_
         refine zq tb U (AA ⟨U,?_⟩)
         exact AF (by exact AG U) (AK (by kernel_rfl) ((hA36 _ _ _).1 A36_234)) rfl
        ·refine Au.of (i:=9) rfl U (by rfl) ?_
         refine A1 (m:=1) AM Eh U U (AA ⟨U,?_⟩)
         exact AF (by exact AG U) (AK (by kernel_rfl) ((hA36 _ _ _).1 A36_239)) rfl)
       have A36_29:A36 10 #[false,false,true,false,false,false,false,false,false,true,false,false] ⟨149,Aa [(2,(i64 p2)),(3,(ls eI p3)),(4,(.ptr 0 0 0 0)),(12,(.ptr 1 0 0 0)),(49,(ls eI p3))],[⟨0,97,2,[(AZ p0)]⟩,NS]⟩:=(hA36 _ _ _).2 (by
        refine Ae [0,3] U (by kernel_rfl) (by decide) ⟨?_,?_,trivial⟩
        ·refine Au.of (i:=0) rfl U (by rfl) ?_
         refine zq tb U (AA ⟨U,?_⟩)
         exact AF (by exact AS [1,0] U (by decide) rfl U (.raw U U (.raw U U .nil)) (.same U)) (AK (by kernel_rfl) ((hA36 _ _ _).1 A36_029)) rfl
        ·refine Au.of (i:=3) rfl U (by rfl) ?_
         refine zx A4 gc34 U U U (AA ⟨U,?_⟩)
         exact AF (by exact AG U) (AK (by kernel_rfl) ((hA36 _ _ _).1 A36_239)) rfl)
       have A36_2:A36 11 #[false,false,true,false,false,false,false,false,false,false,false,false] ⟨149,Aa [(2,(i64 p2)),(3,(ls eI p3)),(4,(.ptr 0 0 0 0)),(49,(ls eI p3))],[⟨0,97,2,[(AZ p0)]⟩]⟩:=(hA36 _ _ _).2 (by
        refine Ae [0,3,9] U (by kernel_rfl) (by decide) ⟨?_,?_,?_,trivial⟩
        ·refine Au.of (i:=0) rfl U (by rfl) ?_
         refine zq tb U (AA ⟨U,?_⟩)
         exact AF (by exact AG U) (AK (by kernel_rfl) ((hA36 _ _ _).1 A36_02)) rfl
        ·refine Au.of (i:=3) rfl U (by rfl) ?_
         refine zx A4 gc34 U U U (AA ⟨U,?_⟩)
         exact AF (by exact AG U) (AK (by kernel_rfl) ((hA36 _ _ _).1 A36_23)) rfl
        ·refine Au.of (i:=9) rfl U (by rfl) ?_
         refine A1 (m:=1) AM Eh U U (AA ⟨U,?_⟩)
         exact AF (by exact AG U) (AK (by kernel_rfl) ((hA36 _ _ _).1 A36_29)) rfl)
       have A36_e:A36 12 #[false,false,false,false,false,false,false,false,false,false,false,false] ⟨149,Aa [(2,(i64 p2)),(3,(ls eI p3)),(4,(.ptr 0 0 0 0))],[⟨0,97,2,[(AZ p0)]⟩]⟩:=(hA36 _ _ _).2 (by
        refine Cj 2 (v:=(ls eI p3)) rfl U (by kernel_rfl) (by kernel_rfl) (by kernel_rfl) rfl (GR U) ?_
        exact AF (by exact AG U) (AK (by kernel_rfl) ((hA36 _ _ _).1 A36_2)) rfl)
       refine (hA36 _ _ _).2 ?_
       exact AF (by exact AG U) (AK (by kernel_rfl) ((hA36 _ _ _).1 A36_e)) rfl
     ·intro b26 h1
      refine zr tb U U ?_
      refine ci h1 U ?_ ?_ <;> clear h1
      ·intro b38 h1
       refine sr U fun K39 hK39=>zm tb 3 U (bs h1 fun q40 gq40 h1=>zc (v':=(.CO [(i64 q40.1),(.agg (BJ q40.2))])) Wj (Lk gq40) rfl U U (zm tb 3 U (A1 (m:=1) AM Mx U U (zq tb U (Az AM Kr U U U U U U (show 0+1≤1 by decide) rfl (dn hK39 U (AH fun K41 hK41=>bs h1 fun o43 h2 h1=>?_)))))))
       have M43 :∀(t42:Bool),o43=t42→∀s,Wk 0 s ⟨149,Aa [(8,(i64 q40.1)),(9,(.bool t42))],[]⟩→K41 s:=by
        intro t42 hq s hw
        subst o43
        try dsimp only at h1
        refine hK41 _ (AN hw ?_)
        replace h1:=Sh.AE h1
        subst o5
        try dsimp only[id] at h0
        replace h0:=Sh.AE h0
        subst r
        exact AU (xr (Ah (L:=[(8,(i64 q40.1)),(9,(.bool t42))]) (.same U)))
       refine AL U (zm tb 4 U ?_)
       rcases Sh.Am h2 with ⟨b44,h2⟩ | ⟨b44,h2⟩
       ·exact zg tb b44 U (zg tb b44 U (zg tb b44 U (bs h2 fun q45 gq45 h2=>zd b44 SV (Eo gq45) rfl U U U (zt b44 U (zm tb 2 U (AA (M43 q45 (Sh.AE h2).symm _ (As _ U))))))))
       ·refine zs b44 U ?_
        iterate 3 refine zs b44 rfl ?_
        exact zf b44 U (zm tb 2 U (AA (M43 false (Sh.AE h2).symm _ (As _ U))))
      ·intro b38 h1
       refine AH fun K46 hK46=>bs h1 fun o48 h2 h1=>?_
       have M48 :∀(t47:Bool),o48=t47→∀s,Wk 0 s ⟨149,Aa [(1,(i64 p1)),(2,(i64 p2)),(3,(ls eI p3)),(4,(.ptr 0 0 0 0)),(88,(.bool t47))],[⟨0,97,2,[(AZ p0)]⟩]⟩→K46 s:=by
        intro t47 hq s hw
        subst o48
        try dsimp only at h1
        refine hK46 _ (AN hw ?_)
        refine ci h1 U ?_ ?_ <;> clear h1
        ·intro b49 h1
         refine AH fun K50 hK50=>AH fun K51 hK51=>bs h1 fun o53 h2 h1=>?_
         have M53 :∀(t52:Bool),o53=t52→∀s,Wk 0 s ⟨149,Aa [(1,(i64 p1)),(2,(i64 p2)),(3,(ls eI p3)),(4,(.ptr 0 0 0 0)),(99,(.bool t52))],[⟨0,97,2,[(AZ p0)]⟩]⟩→K51 s:=by
          intro t52 hq s hw
          subst o53
          try dsimp only at h1
          refine hK51 _ (AN hw ?_)
          refine ci h1 U ?_ ?_ <;> clear h1
          ·intro b54 h1
           refine zr tb U U ?_
           replace h1:=Sh.AE h1
           subst o5
           try dsimp only[id] at h0
           replace h0:=Sh.AE h0
           subst r
           exact AU (xr (As [(8,(i64 (-1))),(9,(.bool false))] U))
          ·intro b54 h1
           refine AR (hK50 _ (AH fun K56 hK56=>?_))
           refine CC (by kernel_rfl) (by kernel_rfl) (by rfl) ?_
           iterate 3 refine yq tb rfl ?_
           refine bs h1 fun c57 gc57 h1=>yx Mi gc57 U U U ?_
           iterate 5 refine yq tb rfl ?_
           refine yx Mi gc57 U U U ?_
           iterate 4 refine yq tb rfl ?_
           refine Ax (hK56 _ (AH fun K58 hK58=>zr tb U U ?_))
           refine ci h1 U ?_ ?_ <;> clear h1
           ·intro b60 h1
            refine sr U fun K61 hK61=>zm tb 3 U (bs h1 fun q62 gq62 h1=>zc SV (Eo gq62) rfl U U (zm tb 2 U (dn hK61 U ?_)))
            replace h1:=Sh.AE h1
            subst o5
            try dsimp only[id] at h0
            replace h0:=Sh.AE h0
            subst r
            exact AU (xr (As [(8,(i64 c57.result)),(9,(.bool q62))] U))
           ·intro b60 h1
            refine AR (hK58 _ (sr U fun K63 hK63=>zq tb U (zl tb U U (zm tb 2 U (dn hK63 U (AH fun K64 hK64=>zr tb U U ?_))))))
            refine ci h1 U ?_ ?_ <;> clear h1
            ·intro b66 h1
             refine zr tb U U ?_
             replace h1:=Sh.AE h1
             subst o5
             try dsimp only[id] at h0
             replace h0:=Sh.AE h0
             subst r
             exact AU (xr (As [(8,(i64 (-1))),(9,(.bool false))] U))
            ·intro b66 h1
             refine AR (hK64 _ (AH fun K68 hK68=>?_))
             refine CC (by kernel_rfl) (by kernel_rfl) (by rfl) ?_
             iterate 4 refine yq tb rfl ?_
             refine bs h1 fun c69 gc69 h1=>yx A4 gc69 U U U ?_
             iterate 2 refine yq tb rfl ?_
             refine bs h1 fun q70 gq70 h1=>BS (v:=(i64 q70)) AM YS (Ov gq70) rfl U U (yq tb U (Ax (hK68 _ (AH fun K71 hK71=>bs h1 fun o73 h2 h1=>?_))))
             have M73 :∀(t72:Bool),o73=t72→∀s,Wk 0 s ⟨149,Aa [(8,(i64 q70)),(9,(.bool t72))],[]⟩→K71 s:=by
              intro t72 hq s hw
              subst o73
              try dsimp only at h1
              refine hK71 _ (AN hw ?_)
              replace h1:=Sh.AE h1
              subst o5
              try dsimp only[id] at h0
              replace h0:=Sh.AE h0
              subst r
              exact AU (xr (Ah (L:=[(8,(i64 q70)),(9,(.bool t72))]) (.same U)))
             refine AL U (zm tb 4 U ?_)
             rcases Sh.Am h2 with ⟨b74,h2⟩ | ⟨b74,h2⟩
             ·exact zg tb b74 U (zg tb b74 U (zg tb b74 U (bs h2 fun l75 gl75 h2=>Nr (i:=0) (j:=Sh.w ((Sh.len c57.params) - 1)) (Bw U U b74) A4 U U U (fun _=>U) gl75 (bs h2 fun q76 gq76 h2=>zd b74 SV (Eo gq76) rfl U U U (zt b74 U (zm tb 2 U (AA (M73 q76 (Sh.AE h2).symm _ (As _ U)))))))))
             ·refine zs b74 U ?_
              iterate 4 refine zs b74 rfl ?_
              exact zf b74 U (zm tb 2 U (AA (M73 false (Sh.AE h2).symm _ (As _ U))))
         refine AL U (zm tb 3 U ?_)
         rcases Sh.Am h2 with ⟨b77,h2⟩ | ⟨b77,h2⟩
         ·refine zs b77 U ?_
          iterate 4 refine zs b77 rfl ?_
          exact zt b77 U (AA (M53 true (Sh.AE h2).symm _ (AG U)))
         ·exact zg tb b77 U (zg tb b77 U (zg tb b77 U (B3 (v:=(i64 (Sh.len p0.funcs))) (Bw U U b77) rfl (B6 Wp U) (zg tb b77 U (zf b77 U (AA (M53 (decide ((Sh.len p0.funcs)≤p2)) (Sh.AE h2).symm _ (AG U))))))))
        ·intro b49 h1
         refine zr tb U U ?_
         replace h1:=Sh.AE h1
         subst o5
         try dsimp only[id] at h0
         replace h0:=Sh.AE h0
         subst r
         exact AU (xr (As [(8,(i64 (-1))),(9,(.bool false))] U))
       refine zr tb U U ?_
       refine ci h2 U ?_ ?_ <;> clear h2
       ·intro b80 h2
        exact AR (M48 true (Sh.AE h2).symm _ (Ah (L:=[(1,(i64 p1)),(2,(i64 p2)),(3,(ls eI p3)),(4,(.ptr 0 0 0 0)),(88,(.bool true))]) ⟨.rfl,.rfl,.rfl,.rfl,(.of (congrArg AV.bool b80)),trivial⟩))
       ·intro b80 h2
        exact AL U (zm tb 2 U (AA (M48 (decide (p1=10)) (Sh.AE h2).symm _ (AG U))))
  refine zr tb U U ?_
  refine ci h2 U ?_ ?_ <;> clear h2
  ·intro b82 h2
   exact AR (M21 true (Sh.AE h2).symm _ (Ah (L:=[(1,(i64 p1)),(2,(i64 p2)),(3,(ls eI p3)),(4,(.ptr 0 0 0 0)),(11,(i64 0)),(18,(i64 p1)),(32,(.bool true))]) ⟨.rfl,.rfl,.rfl,.rfl,.rfl,.rfl,(.of (congrArg AV.bool b82)),trivial⟩))
  ·intro b82 h2
   refine zr tb U U ?_
   refine ci h2 U ?_ ?_ <;> clear h2
   ·intro b84 h2
    exact AR (M21 true (Sh.AE h2).symm _ (Ah (L:=[(1,(i64 p1)),(2,(i64 p2)),(3,(ls eI p3)),(4,(.ptr 0 0 0 0)),(11,(i64 0)),(18,(i64 p1)),(32,(.bool true))]) ⟨.rfl,.rfl,.rfl,.rfl,.rfl,.rfl,(.of (congrArg AV.bool b84)),trivial⟩))
   ·intro b84 h2
    refine zr tb U U ?_
    refine ci h2 U ?_ ?_ <;> clear h2
    ·intro b86 h2
     exact AR (M21 true (Sh.AE h2).symm _ (Ah (L:=[(1,(i64 p1)),(2,(i64 p2)),(3,(ls eI p3)),(4,(.ptr 0 0 0 0)),(11,(i64 0)),(18,(i64 p1)),(32,(.bool true))]) ⟨.rfl,.rfl,.rfl,.rfl,.rfl,.rfl,(.of (congrArg AV.bool b86)),trivial⟩))
    ·intro b86 h2
     exact AL U (zm tb 2 U (AA (M21 (decide (p1=4)) (Sh.AE h2).symm _ (AG U))))
theorem Iq {N:Nat} {rec_impl_signatures_typeOf:(List Int)→BF→AP→Option (Int)} (hrec_impl_signatures_typeOf :∀{s0:(List Int)} {p0:BF} {p2:AP} {r:Int},rec_impl_signatures_typeOf s0 p0 p2=some r→Ai Try.prog 61 [(.agg (AZ p0)),(ow 0 0 s0),(.agg [(i64 p2.op),(i64 p2.num),(ls AD p2.kids)])] [(ro 0 3 1 eI s0)] (fun v st=>v=(i64 r)∧st=[(ro 0 3 1 eI s0)])) {s0:(List Int)} {p0:BF} {p2:AP} {r:Int} (h0:BK N rec_impl_signatures_typeOf s0 p0 p2=some r):Ai Try.prog 61 [(.agg (AZ p0)),(ow 0 0 s0),(.agg [(i64 p2.op),(i64 p2.num),(ls AD p2.kids)])] [(ro 0 3 1 eI s0)] (fun v st=>v=(i64 r)∧st=[(ro 0 3 1 eI s0)]):=by
 unfold BK at h0
 refine ai Try.func61 U U U U (sr U fun K1 hK1=>Bl (m:=1) AM U U U U U (Bl (m:=2) AM U U U U U (zq tb U (dn hK1 U (AH fun K2 hK2=>zr tb U U (Ab (zr tb U U ?_)))))))
 refine ci h0 U ?_ ?_ <;> clear h0
 ·intro b5 h0
  refine AH fun K6 hK6=>AH fun K7 hK7=>bs h0 fun o9 h1 h0=>?_
  have M9 :∀(t8:Bool),o9=t8→∀s,Wk 1 s ⟨194,Aa [(1,(ow 0 0 s0)),(5,(.ptr 1 0 0 0)),(36,(.bool t8))],[(ro 0 3 1 eI s0),(Ga p2.op p2.num p2.kids)]⟩→K7 s:=by
   intro t8 hq s hw
   subst o9
   try dsimp only at h0
   refine hK7 _ (AN hw ?_)
   refine ci h0 U ?_ ?_ <;> clear h0
   ·intro b10 h0
    refine zr tb U U ?_
    replace h0:=Sh.AE h0
    subst r
    exact AU (xr (AS (L:=[(6,(i64 (-1)))]) (st':=[(ro 0 3 1 eI s0)]) [0] U (by decide) rfl U (.pure (AB fun _=>U) .nil) (.same U)))
   ·intro b10 h0
    refine AR (hK6 _ (sr U fun K12 hK12=>zm tb 3 U (bs h0 fun c13 gc13 h0=>zz (.ptr 0 0 (Int.toNat p2.num) 0) (Bn A4 U U U U gc13) rfl (zz (i64 c13) (B1 F6 U U (Bs gc13) rfl) rfl (zq tb U (dn hK12 U ?_))))))
    replace h0:=Sh.AE h0
    subst r
    exact AU (xr (AS (L:=[(6,(i64 c13))]) (st':=[(ro 0 3 1 eI s0)]) [0] U (by decide) rfl U (.pure (AB fun _=>U) .nil) (.same U)))
  refine AL U (zm tb 2 U (zl tb U U (zm tb 2 U ?_)))
  rcases Sh.Am h1 with ⟨b14,h1⟩ | ⟨b14,h1⟩
  ·refine zs b14 U (zs b14 U (zs b14 U (zt b14 U (zq tb U ?_))))
   iterate 5 refine zs rfl rfl ?_
   refine zt U U ?_
   exact AA (M9 true (Sh.AE h1).symm _ (AS [0,2] U (by decide) rfl U (.pure (AB fun _=>U) (.raw U U .nil)) (.same U)))
  ·refine zg tb b14 U (zg tb b14 U (zg tb b14 U (zf b14 U (zq tb U ?_))))
   rcases Sh.Am h1 with ⟨b15,h1⟩ | ⟨b15,h1⟩
   ·refine zs b15 U ?_
    iterate 4 refine zs b15 rfl ?_
    refine zt b15 U ?_
    exact AA (M9 true (Sh.AE h1).symm _ (AS [0,2] U (by decide) rfl U (.pure (AB fun _=>U) (.raw U U .nil)) (.same U)))
   ·refine zg tb b15 U (zg tb b15 U (zg tb b15 U (B3 (v:=(i64 (Sh.len s0))) (Bw U U b15) rfl (CW Em U U U) (zg tb b15 U (zf b15 U ?_)))))
    exact AA (M9 (decide ((Sh.len s0)≤p2.num)) (Sh.AE h1).symm _ (AS [0,2] U (by decide) rfl U (.pure (AB fun _=>U) (.raw U U .nil)) (.same U)))
 ·intro b5 h0
  refine zr tb U U ?_
  refine ci h0 U ?_ ?_ <;> clear h0
  ·intro b17 h0
   refine AH fun K18 hK18=>AH fun K19 hK19=>bs h0 fun o21 h1 h0=>?_
   have M21 :∀(t20:Bool),o21=t20→∀s,Wk 1 s ⟨194,Aa [(1,(ow 0 0 s0)),(3,(.ptr 1 0 0 0)),(5,(.ptr 2 0 0 0)),(52,(.bool t20))],[(ro 0 3 1 eI s0),⟨0,97,2,[(AZ p0)]⟩,(Ga p2.op p2.num p2.kids)]⟩→K19 s:=by
    intro t20 hq s hw
    subst o21
    try dsimp only at h0
    refine hK19 _ (AN hw ?_)
    refine ci h0 U ?_ ?_ <;> clear h0
    ·intro b22 h0
     refine zr tb U U ?_
     replace h0:=Sh.AE h0
     subst r
     exact AU (xr (AS (L:=[(6,(i64 (-1)))]) (st':=[(ro 0 3 1 eI s0)]) [0] U (by decide) rfl U (.pure (AB fun _=>U) .nil) (.same U)))
    ·intro b22 h0
     refine AR (hK18 _ (AH fun K24 hK24=>?_))
     refine CC (by kernel_rfl) (by kernel_rfl) (by rfl) ?_
     iterate 4 refine yq tb rfl ?_
     refine bs h0 fun c25 gc25 h0=>yz (.Al [(i64 c25.op),(i64 c25.num),(ls AD c25.kids)] 0) (CK BV U U gc25 (Ap _) rfl) rfl (yq tb U (bs h0 fun q26 gq26 h0=>?_))
     refine Qo (rowsP:=[(ro 0 3 1 eI s0)]) (rows0:=[(ro 0 3 1 eI s0)]) (rows1:=[(ro 0 3 1 eI s0)]) (rows1':=[(ro 0 3 1 eI s0)]) (v':=(i64 q26)) [0] AM PG (hrec_impl_signatures_typeOf gq26) rfl (by decide) rfl U (.pure (AB fun _=>U) .nil) rfl U (.pure (AB fun _=>U) .nil) rfl U ?_
     refine yq tb U (Ax (hK24 _ (AH fun K27 hK27=>zr tb U U ?_)))
     refine ci h0 U ?_ ?_ <;> clear h0
     ·intro b29 h0
      refine zr tb U U ?_
      replace h0:=Sh.AE h0
      subst r
      exact AU (xr (AS (L:=[(6,(i64 (-1)))]) (st':=[(ro 0 3 1 eI s0)]) [0] U (by decide) rfl U (.pure (AB fun _=>U) .nil) (.same U)))
     ·intro b29 h0
      refine AR (hK27 _ (AH fun K31 hK31=>?_))
      refine Ho (by kernel_rfl) ?_
      refine bs h0 fun l32 gl32 h0=>bs h0 fun c33 gc33 h0=>bs h0 fun q34 gq34 h0=>AX.two (ro 0 3 1 eI s0) (ro 0 3 1 eI l32) fun A35 A35' hA35 hA35'=>?_
      have A35_0123456789aw0:A35' 0 #[true,true,true,true,true,true,true,true,true,true,true] ⟨194,Aa [(6,(i64 q34))],[(ro 0 3 1 eI l32)]⟩:=(hA35' _ _ _).2 (by
       refine F5 U (by kernel_rfl) ⟨⟨_,U⟩,?_⟩
       refine hK31 _ ?_
       replace h0:=Sh.AE h0
       subst r
       exact AU (Exists.intro _ (And.intro (Ah (L:=[(6,(i64 q34))]) (.same U)) (And.intro U U))))
      have A35_0123456789w0:A35' 1 #[true,true,true,true,true,true,true,true,true,true,false] ⟨194,Aa [(71,(i64 q34))],[(ro 0 3 1 eI l32)]⟩:=(hA35' _ _ _).2 (by
       refine Cj 10 (v:=(i64 q34)) rfl U (by kernel_rfl) (by kernel_rfl) (by kernel_rfl) rfl (Hn U) ?_
       exact AF (by exact AG U) (AK (by kernel_rfl) ((hA35' _ _ _).1 A35_0123456789aw0)) rfl)
      have A35_012345678w0:A35' 2 #[true,true,true,true,true,true,true,true,true,false,false] ⟨194,Aa [(62,(.agg (AZ p0))),(66,(ow 0 0 l32)),(70,(.agg [(i64 c33.op),(i64 c33.num),(ls AD c33.kids)]))],[(ro 0 3 1 eI l32)]⟩:=(hA35' _ _ _).2 (by
       refine Ae [9] U (by kernel_rfl) (by decide) ⟨?_,trivial⟩
       ·refine Au.of (i:=9) rfl U (by rfl) ?_
        refine Bc (rows0:=[(ro 0 3 1 eI l32)]) (rows1:=[(ro 0 3 1 eI l32)]) (st':=[(ro 0 3 1 eI l32)]) (v':=(i64 q34)) [0] AM PG (hrec_impl_signatures_typeOf gq34) rfl (by decide) rfl U (.pure (AB fun _=>U) .nil) rfl U (.pure (AB fun _=>U) .nil) .nil U U ?_
        refine AA ⟨U,?_⟩
        exact AF (by exact AG U) (AK (by kernel_rfl) ((hA35' _ _ _).1 A35_0123456789w0)) rfl)
      have A35_01234567w0:A35' 3 #[true,true,true,true,true,true,true,true,false,false,false] ⟨194,Aa [(62,(.agg (AZ p0))),(66,(ow 0 0 l32)),(69,(.Al [(i64 c33.op),(i64 c33.num),(ls AD c33.kids)] 0))],[(ro 0 3 1 eI l32)]⟩:=(hA35' _ _ _).2 (by
       refine Ae [8] U (by kernel_rfl) (by decide) ⟨?_,trivial⟩
       ·refine Au.of (i:=8) rfl U (by rfl) ?_
        refine zq tb U (AA ⟨U,?_⟩)
        exact AF (by exact AG U) (AK (by kernel_rfl) ((hA35' _ _ _).1 A35_012345678w0)) rfl)
      have A35_0123456w0:A35' 4 #[true,true,true,true,true,true,true,false,false,false,false] ⟨194,Aa [(62,(.agg (AZ p0))),(66,(ow 0 0 l32)),(68,(ls AD p2.kids))],[(ro 0 3 1 eI l32)]⟩:=(hA35' _ _ _).2 (by
       refine Ae [7] U (by kernel_rfl) (by decide) ⟨?_,trivial⟩
       ·refine Au.of (i:=7) rfl U (by rfl) ?_
        refine zz (.Al [(i64 c33.op),(i64 c33.num),(ls AD c33.kids)] 0) (CK BV U U gc33 (Ap _) rfl) rfl (AA ⟨U,?_⟩)
        exact AF (by exact AG U) (AK (by kernel_rfl) ((hA35' _ _ _).1 A35_01234567w0)) rfl)
      have A35_012345w0:A35' 5 #[true,true,true,true,true,true,false,false,false,false,false] ⟨194,Aa [(62,(.agg (AZ p0))),(66,(ow 0 0 l32)),(67,(.ptr 1 0 0 2))],[(ro 0 3 1 eI l32),(Ga p2.op p2.num p2.kids)]⟩:=(hA35' _ _ _).2 (by
       refine Ae [6] U (by kernel_rfl) (by decide) ⟨?_,trivial⟩
       ·refine Au.of (i:=6) rfl U (by rfl) ?_
        refine zq tb U (AA ⟨U,?_⟩)
        exact AF (by exact AS [0] U (by decide) rfl U (.pure (AB fun _=>U) .nil) (.same U)) (AK (by kernel_rfl) ((hA35' _ _ _).1 A35_0123456w0)) rfl)
      have A35_01234w0:A35' 6 #[true,true,true,true,true,false,false,false,false,false,false] ⟨194,Aa [(5,(.ptr 1 0 0 0)),(62,(.agg (AZ p0))),(66,(ow 0 0 l32))],[(ro 0 3 1 eI l32),(Ga p2.op p2.num p2.kids)]⟩:=(hA35' _ _ _).2 (by
       refine Ae [5] U (by kernel_rfl) (by decide) ⟨?_,trivial⟩
       ·refine Au.of (i:=5) rfl U (by rfl) ?_
        refine zq tb U (AA ⟨U,?_⟩)
        exact AF (by exact AG U) (AK (by kernel_rfl) ((hA35' _ _ _).1 A35_012345w0)) rfl)
      have A35_0123456789aw1:A35 0 #[true,true,true,true,true,true,true,true,true,true,true] ⟨194,Aa [(6,(i64 q34))],[(ro 0 3 1 eI s0)]⟩:=(hA35 _ _ _).2 (by
       refine F5 U (by kernel_rfl) ?_
       refine hK31 _ ?_
       replace h0:=Sh.AE h0
       subst r
       exact AU (Exists.intro _ (And.intro (Ah (L:=[(6,(i64 q34))]) (.same U)) (And.intro U U))))
      have A35_0123456789w1:A35 1 #[true,true,true,true,true,true,true,true,true,true,false] ⟨194,Aa [(71,(i64 q34))],[(ro 0 3 1 eI s0)]⟩:=(hA35 _ _ _).2 (by
       refine Cj 10 (v:=(i64 q34)) rfl U (by kernel_rfl) (by kernel_rfl) (by kernel_rfl) rfl (Hn U) ?_
       exact AF (by exact AG U) (AK (by kernel_rfl) ((hA35 _ _ _).1 A35_0123456789aw1)) rfl)
      have A35_012345678w1:A35 2 #[true,true,true,true,true,true,true,true,true,false,false] ⟨194,Aa [(62,(.agg (AZ p0))),(66,(ow 1 0 l32)),(70,(.agg [(i64 c33.op),(i64 c33.num),(ls AD c33.kids)]))],[(ro 0 3 1 eI s0),(ro 0 3 1 eI l32)]⟩:=(hA35 _ _ _).2 (by
       refine Ae [9] U (by kernel_rfl) (by decide) ⟨?_,trivial⟩
       ·refine Au.of (i:=9) rfl U (by rfl) ?_
        refine Bc (rows0:=[(ro 0 3 1 eI l32)]) (rows1:=[(ro 0 3 1 eI l32)]) (st':=[(ro 0 3 1 eI s0),(ro 0 3 1 eI l32)]) (v':=(i64 q34)) [1] AM PG (hrec_impl_signatures_typeOf gq34) rfl (by decide) rfl U (.pure (AB fun _=>U) .nil) rfl U (.pure (AB fun _=>U) .nil) .nil U U ?_
        refine AA ⟨U,?_⟩
        exact AF (by exact AS [0] U (by decide) rfl U (.pure (AB fun _=>U) .nil) (.same U)) (AK (by kernel_rfl) ((hA35 _ _ _).1 A35_0123456789w1)) rfl)
      have A35_01234567w1:A35 3 #[true,true,true,true,true,true,true,true,false,false,false] ⟨194,Aa [(62,(.agg (AZ p0))),(66,(ow 1 0 l32)),(69,(.Al [(i64 c33.op),(i64 c33.num),(ls AD c33.kids)] 0))],[(ro 0 3 1 eI s0),(ro 0 3 1 eI l32)]⟩:=(hA35 _ _ _).2 (by
       refine Ae [8] U (by kernel_rfl) (by decide) ⟨?_,trivial⟩
       ·refine Au.of (i:=8) rfl U (by rfl) ?_
        refine zq tb U (AA ⟨U,?_⟩)
        exact AF (by exact AG U) (AK (by kernel_rfl) ((hA35 _ _ _).1 A35_012345678w1)) rfl)
      have A35_0123456w1:A35 4 #[true,true,true,true,true,true,true,false,false,false,false] ⟨194,Aa [(62,(.agg (AZ p0))),(66,(ow 1 0 l32)),(68,(ls AD p2.kids))],[(ro 0 3 1 eI s0),(ro 0 3 1 eI l32)]⟩:=(hA35 _ _ _).2 (by
       refine Ae [7] U (by kernel_rfl) (by decide) ⟨?_,trivial⟩
       ·refine Au.of (i:=7) rfl U (by rfl) ?_
        refine zz (.Al [(i64 c33.op),(i64 c33.num),(ls AD c33.kids)] 0) (CK BV U U gc33 (Ap _) rfl) rfl (AA ⟨U,?_⟩)
        exact AF (by exact AG U) (AK (by kernel_rfl) ((hA35 _ _ _).1 A35_01234567w1)) rfl)
      have A35_012345w1:A35 5 #[true,true,true,true,true,true,false,false,false,false,false] ⟨194,Aa [(62,(.agg (AZ p0))),(66,(ow 1 0 l32)),(67,(.ptr 2 0 0 2))],[(ro 0 3 1 eI s0),(ro 0 3 1 eI l32),(Ga p2.op p2.num p2.kids)]⟩:=(hA35 _ _ _).2 (by
       refine Ae [6] U (by kernel_rfl) (by decide) ⟨?_,trivial⟩
       ·refine Au.of (i:=6) rfl U (by rfl) ?_
        refine zq tb U (AA ⟨U,?_⟩)
        exact AF (by exact AS [0,1] U (by decide) rfl U (.pure (AB fun _=>U) (.pure (AB fun _=>U) .nil)) (.same U)) (AK (by kernel_rfl) ((hA35 _ _ _).1 A35_0123456w1)) rfl)
      have A35_01234w1:A35 6 #[true,true,true,true,true,false,false,false,false,false,false] ⟨194,Aa [(5,(.ptr 1 0 0 0)),(62,(.agg (AZ p0))),(66,(ow 2 0 l32))],[(ro 0 3 1 eI s0),(Ga p2.op p2.num p2.kids),(ro 0 3 1 eI l32)]⟩:=(hA35 _ _ _).2 (by
       refine Ae [5] U (by kernel_rfl) (by decide) ⟨?_,trivial⟩
       ·refine Au.of (i:=5) rfl U (by rfl) ?_
        refine zq tb U (AA ⟨U,?_⟩)
        exact AF (by exact AS [0,2,1] U (by decide) rfl U (.pure (AB fun _=>U) (.pure (AB fun _=>U) (.raw U U .nil))) (.same U)) (AK (by kernel_rfl) ((hA35 _ _ _).1 A35_012345w1)) rfl)
      have A35_01235678:A35 3 #[true,true,true,true,false,true,true,true,true,false,false] ⟨194,Aa [(62,(.agg (AZ p0))),(63,(ow 0 0 s0)),(65,(ow 1 0 [q26])),(70,(.agg [(i64 c33.op),(i64 c33.num),(ls AD c33.kids)]))],[(ro 0 3 1 eI s0),(ro 0 3 1 eI [q26])]⟩:=(hA35 _ _ _).2 (by
       refine Ae [4] U (by kernel_rfl) (by decide) ⟨?_,trivial⟩
       ·refine FD (l:=s0) (l2:=[q26]) (l':=l32) rfl U A4 (Dp (AB fun _=>U) (fun _ hq=>nomatch hq)) rfl U U (EO U U) rfl (fun _=>U) (fun _=>(AB fun _=>U)) gl32 ?_ ?_
        ·exact AF (by exact AS [0] U (by decide) rfl U (.pure (AB fun _=>U) .nil) (.same U)) (AK (by kernel_rfl) ((hA35' _ _ _).1 A35_012345678w0)) rfl
        ·exact AF (by exact AS [0,2] U (by decide) rfl U (.pure (AB fun _=>U) (.pure (AB fun _=>U) .nil)) (.same U)) (AK (by kernel_rfl) ((hA35 _ _ _).1 A35_012345678w1)) rfl)
      have A35_0123567:A35 4 #[true,true,true,true,false,true,true,true,false,false,false] ⟨194,Aa [(62,(.agg (AZ p0))),(63,(ow 0 0 s0)),(65,(ow 1 0 [q26])),(69,(.Al [(i64 c33.op),(i64 c33.num),(ls AD c33.kids)] 0))],[(ro 0 3 1 eI s0),(ro 0 3 1 eI [q26])]⟩:=(hA35 _ _ _).2 (by
       refine Ae [4,8] U (by kernel_rfl) (by decide) ⟨?_,?_,trivial⟩
       ·refine FD (l:=s0) (l2:=[q26]) (l':=l32) rfl U A4 (Dp (AB fun _=>U) (fun _ hq=>nomatch hq)) rfl U U (EO U U) rfl (fun _=>U) (fun _=>(AB fun _=>U)) gl32 ?_ ?_
        ·exact AF (by exact AS [0] U (by decide) rfl U (.pure (AB fun _=>U) .nil) (.same U)) (AK (by kernel_rfl) ((hA35' _ _ _).1 A35_01234567w0)) rfl
        ·exact AF (by exact AS [0,2] U (by decide) rfl U (.pure (AB fun _=>U) (.pure (AB fun _=>U) .nil)) (.same U)) (AK (by kernel_rfl) ((hA35 _ _ _).1 A35_01234567w1)) rfl
       ·refine Au.of (i:=8) rfl U (by rfl) ?_
        refine zq tb U (AA ⟨U,?_⟩)
        exact AF (by exact AG U) (AK (by kernel_rfl) ((hA35 _ _ _).1 A35_01235678)) rfl)
      have A35_012356:A35 5 #[true,true,true,true,false,true,true,false,false,false,false] ⟨194,Aa [(62,(.agg (AZ p0))),(63,(ow 0 0 s0)),(65,(ow 1 0 [q26])),(68,(ls AD p2.kids))],[(ro 0 3 1 eI s0),(ro 0 3 1 eI [q26])]⟩:=(hA35 _ _ _).2 (by
       refine Ae [4,7] U (by kernel_rfl) (by decide) ⟨?_,?_,trivial⟩
       ·refine FD (l:=s0) (l2:=[q26]) (l':=l32) rfl U A4 (Dp (AB fun _=>U) (fun _ hq=>nomatch hq)) rfl U U (EO U U) rfl (fun _=>U) (fun _=>(AB fun _=>U)) gl32 ?_ ?_
        ·exact AF (by exact AS [0] U (by decide) rfl U (.pure (AB fun _=>U) .nil) (.same U)) (AK (by kernel_rfl) ((hA35' _ _ _).1 A35_0123456w0)) rfl
        ·exact AF (by exact AS [0,2] U (by decide) rfl U (.pure (AB fun _=>U) (.pure (AB fun _=>U) .nil)) (.same U)) (AK (by kernel_rfl) ((hA35 _ _ _).1 A35_0123456w1)) rfl
       ·refine Au.of (i:=7) rfl U (by rfl) ?_
        refine zz (.Al [(i64 c33.op),(i64 c33.num),(ls AD c33.kids)] 0) (CK BV U U gc33 (Ap _) rfl) rfl (AA ⟨U,?_⟩)
        exact AF (by exact AG U) (AK (by kernel_rfl) ((hA35 _ _ _).1 A35_0123567)) rfl)
      have A35_01235:A35 6 #[true,true,true,true,false,true,false,false,false,false,false] ⟨194,Aa [(62,(.agg (AZ p0))),(63,(ow 0 0 s0)),(65,(ow 1 0 [q26])),(67,(.ptr 2 0 0 2))],[(ro 0 3 1 eI s0),(ro 0 3 1 eI [q26]),(Ga p2.op p2.num p2.kids)]⟩:=(hA35 _ _ _).2 (by
       refine Ae [4,6] U (by kernel_rfl) (by decide) ⟨?_,?_,trivial⟩
       ·refine FD (l:=s0) (l2:=[q26]) (l':=l32) rfl U A4 (Dp (AB fun _=>U) (Dp (Cz U) (fun _ hq=>nomatch hq))) rfl U U (EO U U) rfl (fun _=>U) (fun _=>(AB fun _=>U)) gl32 ?_ ?_
        ·exact AF (by exact AS [0,2] U (by decide) rfl U (.pure (AB fun _=>U) (.raw U U .nil)) (.same U)) (AK (by kernel_rfl) ((hA35' _ _ _).1 A35_012345w0)) rfl
        ·exact AF (by exact AS [0,3,2] U (by decide) rfl U (.pure (AB fun _=>U) (.pure (AB fun _=>U) (.raw U U .nil))) (.same U)) (AK (by kernel_rfl) ((hA35 _ _ _).1 A35_012345w1)) rfl
       ·refine Au.of (i:=6) rfl U (by rfl) ?_
        refine zq tb U (AA ⟨U,?_⟩)
        exact AF (by exact AS [0,1] U (by decide) rfl U (.pure (AB fun _=>U) (.pure (AB fun _=>U) .nil)) (.same U)) (AK (by kernel_rfl) ((hA35 _ _ _).1 A35_012356)) rfl)
      have A35_0123:A35 7 #[true,true,true,true,false,false,false,false,false,false,false] ⟨194,Aa [(5,(.ptr 1 0 0 0)),(62,(.agg (AZ p0))),(63,(ow 0 0 s0)),(65,(ow 2 0 [q26]))],[(ro 0 3 1 eI s0),(Ga p2.op p2.num p2.kids),(ro 0 3 1 eI [q26])]⟩:=(hA35 _ _ _).2 (by
       refine Ae [4,5] U (by kernel_rfl) (by decide) ⟨?_,?_,trivial⟩
       ·refine FD (l:=s0) (l2:=[q26]) (l':=l32) rfl U A4 (Dp (Cz U) (Dp (AB fun _=>U) (fun _ hq=>nomatch hq))) rfl U U (EO U U) rfl (fun _=>U) (fun _=>(AB fun _=>U)) gl32 ?_ ?_
        ·exact AF (by exact AS [0,1] U (by decide) rfl U (.pure (AB fun _=>U) (.raw U U .nil)) (.same U)) (AK (by kernel_rfl) ((hA35' _ _ _).1 A35_01234w0)) rfl
        ·exact AF (by exact AS [0,1,3] U (by decide) rfl U (.pure (AB fun _=>U) (.raw U U (.pure (AB fun _=>U) .nil))) (.same U)) (AK (by kernel_rfl) ((hA35 _ _ _).1 A35_01234w1)) rfl
       ·refine Au.of (i:=5) rfl U (by rfl) ?_
        refine zq tb U (AA ⟨U,?_⟩)
        exact AF (by exact AS [0,2,1] U (by decide) rfl U (.pure (AB fun _=>U) (.pure (AB fun _=>U) (.raw U U .nil))) (.same U)) (AK (by kernel_rfl) ((hA35 _ _ _).1 A35_01235)) rfl)
      have A35_0125678:A35 4 #[true,true,true,false,false,true,true,true,true,false,false] ⟨194,Aa [(62,(.agg (AZ p0))),(63,(ow 0 0 s0)),(64,(i64 q26)),(70,(.agg [(i64 c33.op),(i64 c33.num),(ls AD c33.kids)]))],[(ro 0 3 1 eI s0)]⟩:=(hA35 _ _ _).2 (by
       refine Ae [3] U (by kernel_rfl) (by decide) ⟨?_,trivial⟩
       ·refine Au.of (i:=3) rfl U (by rfl) ?_
        refine A3 (m:=1) (l:=[q26]) (enc:=eI) AM A4 (by decide) rfl U U U U U ?_
        refine AA ⟨U,?_⟩
        exact AF (by exact AG U) (AK (by kernel_rfl) ((hA35 _ _ _).1 A35_01235678)) rfl)
      have A35_012567:A35 5 #[true,true,true,false,false,true,true,true,false,false,false] ⟨194,Aa [(62,(.agg (AZ p0))),(63,(ow 0 0 s0)),(64,(i64 q26)),(69,(.Al [(i64 c33.op),(i64 c33.num),(ls AD c33.kids)] 0))],[(ro 0 3 1 eI s0)]⟩:=(hA35 _ _ _).2 (by
       refine Ae [3,8] U (by kernel_rfl) (by decide) ⟨?_,?_,trivial⟩
       ·refine Au.of (i:=3) rfl U (by rfl) ?_
        refine A3 (m:=1) (l:=[q26]) (enc:=eI) AM A4 (by decide) rfl U U U U U ?_
        refine AA ⟨U,?_⟩
        exact AF (by exact AG U) (AK (by kernel_rfl) ((hA35 _ _ _).1 A35_0123567)) rfl
       ·refine Au.of (i:=8) rfl U (by rfl) ?_
        refine zq tb U (AA ⟨U,?_⟩)
        exact AF (by exact AG U) (AK (by kernel_rfl) ((hA35 _ _ _).1 A35_0125678)) rfl)
      have A35_01256:A35 6 #[true,true,true,false,false,true,true,false,false,false,false] ⟨194,Aa [(62,(.agg (AZ p0))),(63,(ow 0 0 s0)),(64,(i64 q26)),(68,(ls AD p2.kids))],[(ro 0 3 1 eI s0)]⟩:=(hA35 _ _ _).2 (by
       refine Ae [3,7] U (by kernel_rfl) (by decide) ⟨?_,?_,trivial⟩
       ·refine Au.of (i:=3) rfl U (by rfl) ?_
        refine A3 (m:=1) (l:=[q26]) (enc:=eI) AM A4 (by decide) rfl U U U U U ?_
        refine AA ⟨U,?_⟩
        exact AF (by exact AG U) (AK (by kernel_rfl) ((hA35 _ _ _).1 A35_012356)) rfl
       ·refine Au.of (i:=7) rfl U (by rfl) ?_
        refine zz (.Al [(i64 c33.op),(i64 c33.num),(ls AD c33.kids)] 0) (CK BV U U gc33 (Ap _) rfl) rfl (AA ⟨U,?_⟩)
        exact AF (by exact AG U) (AK (by kernel_rfl) ((hA35 _ _ _).1 A35_012567)) rfl)
      have A35_0125:A35 7 #[true,true,true,false,false,true,false,false,false,false,false] ⟨194,Aa [(62,(.agg (AZ p0))),(63,(ow 0 0 s0)),(64,(i64 q26)),(67,(.ptr 1 0 0 2))],[(ro 0 3 1 eI s0),(Ga p2.op p2.num p2.kids)]⟩:=(hA35 _ _ _).2 (by
       refine Ae [3,6] U (by kernel_rfl) (by decide) ⟨?_,?_,trivial⟩
       ·refine Au.of (i:=3) rfl U (by rfl) ?_
        refine A3 (m:=2) (l:=[q26]) (enc:=eI) AM A4 (by decide) rfl U U U U U ?_
        refine AA ⟨U,?_⟩
        exact AF (by exact AS [0,2,1] U (by decide) rfl U (.pure (AB fun _=>U) (.pure (AB fun _=>U) (.raw U U .nil))) (.same U)) (AK (by kernel_rfl) ((hA35 _ _ _).1 A35_01235)) rfl
       ·refine Au.of (i:=6) rfl U (by rfl) ?_
        refine zq tb U (AA ⟨U,?_⟩)
        exact AF (by exact AS [0] U (by decide) rfl U (.pure (AB fun _=>U) .nil) (.same U)) (AK (by kernel_rfl) ((hA35 _ _ _).1 A35_01256)) rfl)
      have A35_012:A35 8 #[true,true,true,false,false,false,false,false,false,false,false] ⟨194,Aa [(5,(.ptr 1 0 0 0)),(62,(.agg (AZ p0))),(63,(ow 0 0 s0)),(64,(i64 q26))],[(ro 0 3 1 eI s0),(Ga p2.op p2.num p2.kids)]⟩:=(hA35 _ _ _).2 (by
       refine Ae [3,5] U (by kernel_rfl) (by decide) ⟨?_,?_,trivial⟩
       ·refine Au.of (i:=3) rfl U (by rfl) ?_
        refine A3 (m:=2) (l:=[q26]) (enc:=eI) AM A4 (by decide) rfl U U U U U ?_
        refine AA ⟨U,?_⟩
        exact AF (by exact AG U) (AK (by kernel_rfl) ((hA35 _ _ _).1 A35_0123)) rfl
       ·refine Au.of (i:=5) rfl U (by rfl) ?_
        refine zq tb U (AA ⟨U,?_⟩)
        exact AF (by exact AG U) (AK (by kernel_rfl) ((hA35 _ _ _).1 A35_0125)) rfl)
      have A35_12345678w0:A35' 3 #[false,true,true,true,true,true,true,true,true,false,false] ⟨194,Aa [(3,(.ptr 1 0 0 0)),(66,(ow 0 0 l32)),(70,(.agg [(i64 c33.op),(i64 c33.num),(ls AD c33.kids)]))],[(ro 0 3 1 eI l32),⟨0,97,2,[(AZ p0)]⟩]⟩:=(hA35' _ _ _).2 (by
       refine Ae [0] U (by kernel_rfl) (by decide) ⟨?_,trivial⟩
       ·refine Au.of (i:=0) rfl U (by rfl) ?_
        refine zq tb U (AA ⟨U,?_⟩)
        exact AF (by exact AS [0] U (by decide) rfl U (.pure (AB fun _=>U) .nil) (.same U)) (AK (by kernel_rfl) ((hA35' _ _ _).1 A35_012345678w0)) rfl)
      have A35_1234567w0:A35' 4 #[false,true,true,true,true,true,true,true,false,false,false] ⟨194,Aa [(3,(.ptr 1 0 0 0)),(66,(ow 0 0 l32)),(69,(.Al [(i64 c33.op),(i64 c33.num),(ls AD c33.kids)] 0))],[(ro 0 3 1 eI l32),⟨0,97,2,[(AZ p0)]⟩]⟩:=(hA35' _ _ _).2 (by
       refine Ae [0,8] U (by kernel_rfl) (by decide) ⟨?_,?_,trivial⟩
       ·refine Au.of (i:=0) rfl U (by rfl) ?_
        refine zq tb U (AA ⟨U,?_⟩)
        exact AF (by exact AS [0] U (by decide) rfl U (.pure (AB fun _=>U) .nil) (.same U)) (AK (by kernel_rfl) ((hA35' _ _ _).1 A35_01234567w0)) rfl
       ·refine Au.of (i:=8) rfl U (by rfl) ?_
        refine zq tb U (AA ⟨U,?_⟩)
        exact AF (by exact AG U) (AK (by kernel_rfl) ((hA35' _ _ _).1 A35_12345678w0)) rfl)
      have A35_123456w0:A35' 5 #[false,true,true,true,true,true,true,false,false,false,false] ⟨194,Aa [(3,(.ptr 1 0 0 0)),(66,(ow 0 0 l32)),(68,(ls AD p2.kids))],[(ro 0 3 1 eI l32),⟨0,97,2,[(AZ p0)]⟩]⟩:=(hA35' _ _ _).2 (by
       refine Ae [0,7] U (by kernel_rfl) (by decide) ⟨?_,?_,trivial⟩
       ·refine Au.of (i:=0) rfl U (by rfl) ?_
        refine zq tb U (AA ⟨U,?_⟩)
        exact AF (by exact AS [0] U (by decide) rfl U (.pure (AB fun _=>U) .nil) (.same U)) (AK (by kernel_rfl) ((hA35' _ _ _).1 A35_0123456w0)) rfl
       ·refine Au.of (i:=7) rfl U (by rfl) ?_
        refine zz (.Al [(i64 c33.op),(i64 c33.num),(ls AD c33.kids)] 0) (CK BV U U gc33 (Ap _) rfl) rfl (AA ⟨U,?_⟩)
        exact AF (by exact AG U) (AK (by kernel_rfl) ((hA35' _ _ _).1 A35_1234567w0)) rfl)
      have A35_12345w0:A35' 6 #[false,true,true,true,true,true,false,false,false,false,false] ⟨194,Aa [(3,(.ptr 1 0 0 0)),(66,(ow 0 0 l32)),(67,(.ptr 2 0 0 2))],[(ro 0 3 1 eI l32),⟨0,97,2,[(AZ p0)]⟩,(Ga p2.op p2.num p2.kids)]⟩:=(hA35' _ _ _).2 (by
       refine Ae [0,6] U (by kernel_rfl) (by decide) ⟨?_,?_,trivial⟩
       ·refine Au.of (i:=0) rfl U (by rfl) ?_
        refine zq tb U (AA ⟨U,?_⟩)
        exact AF (by exact AS [0,2] U (by decide) rfl U (.pure (AB fun _=>U) (.raw U U .nil)) (.same U)) (AK (by kernel_rfl) ((hA35' _ _ _).1 A35_012345w0)) rfl
       ·refine Au.of (i:=6) rfl U (by rfl) ?_
        refine zq tb U (AA ⟨U,?_⟩)
        exact AF (by exact AS [0,1] U (by decide) rfl U (.pure (AB fun _=>U) (.raw U U .nil)) (.same U)) (AK (by kernel_rfl) ((hA35' _ _ _).1 A35_123456w0)) rfl)
      have A35_1234w0:A35' 7 #[false,true,true,true,true,false,false,false,false,false,false] ⟨194,Aa [(3,(.ptr 1 0 0 0)),(5,(.ptr 2 0 0 0)),(66,(ow 0 0 l32))],[(ro 0 3 1 eI l32),⟨0,97,2,[(AZ p0)]⟩,(Ga p2.op p2.num p2.kids)]⟩:=(hA35' _ _ _).2 (by
       refine Ae [0,5] U (by kernel_rfl) (by decide) ⟨?_,?_,trivial⟩
       ·refine Au.of (i:=0) rfl U (by rfl) ?_
        refine zq tb U (AA ⟨U,?_⟩)
        exact AF (by exact AS [0,2] U (by decide) rfl U (.pure (AB fun _=>U) (.raw U U .nil)) (.same U)) (AK (by kernel_rfl) ((hA35' _ _ _).1 A35_01234w0)) rfl
       ·refine Au.of (i:=5) rfl U (by rfl) ?_
        refine zq tb U (AA ⟨U,?_⟩)
        exact AF (by exact AG U) (AK (by kernel_rfl) ((hA35' _ _ _).1 A35_12345w0)) rfl)
      have A35_12345678w1:A35 3 #[false,true,true,true,true,true,true,true,true,false,false] ⟨194,Aa [(3,(.ptr 1 0 0 0)),(66,(ow 2 0 l32)),(70,(.agg [(i64 c33.op),(i64 c33.num),(ls AD c33.kids)]))],[(ro 0 3 1 eI s0),⟨0,97,2,[(AZ p0)]⟩,(ro 0 3 1 eI l32)]⟩:=(hA35 _ _ _).2 (by
       refine Ae [0] U (by kernel_rfl) (by decide) ⟨?_,trivial⟩
       ·refine Au.of (i:=0) rfl U (by rfl) ?_
        refine zq tb U (AA ⟨U,?_⟩)
        exact AF (by exact AS [0,2] U (by decide) rfl U (.pure (AB fun _=>U) (.pure (AB fun _=>U) .nil)) (.same U)) (AK (by kernel_rfl) ((hA35 _ _ _).1 A35_012345678w1)) rfl)
      have A35_1234567w1:A35 4 #[false,true,true,true,true,true,true,true,false,false,false] ⟨194,Aa [(3,(.ptr 1 0 0 0)),(66,(ow 2 0 l32)),(69,(.Al [(i64 c33.op),(i64 c33.num),(ls AD c33.kids)] 0))],[(ro 0 3 1 eI s0),⟨0,97,2,[(AZ p0)]⟩,(ro 0 3 1 eI l32)]⟩:=(hA35 _ _ _).2 (by
       refine Ae [0,8] U (by kernel_rfl) (by decide) ⟨?_,?_,trivial⟩
       ·refine Au.of (i:=0) rfl U (by rfl) ?_
        refine zq tb U (AA ⟨U,?_⟩)
        exact AF (by exact AS [0,2] U (by decide) rfl U (.pure (AB fun _=>U) (.pure (AB fun _=>U) .nil)) (.same U)) (AK (by kernel_rfl) ((hA35 _ _ _).1 A35_01234567w1)) rfl
       ·refine Au.of (i:=8) rfl U (by rfl) ?_
        refine zq tb U (AA ⟨U,?_⟩)
        exact AF (by exact AG U) (AK (by kernel_rfl) ((hA35 _ _ _).1 A35_12345678w1)) rfl)
      have A35_123456w1:A35 5 #[false,true,true,true,true,true,true,false,false,false,false] ⟨194,Aa [(3,(.ptr 1 0 0 0)),(66,(ow 2 0 l32)),(68,(ls AD p2.kids))],[(ro 0 3 1 eI s0),⟨0,97,2,[(AZ p0)]⟩,(ro 0 3 1 eI l32)]⟩:=(hA35 _ _ _).2 (by
       refine Ae [0,7] U (by kernel_rfl) (by decide) ⟨?_,?_,trivial⟩
       ·refine Au.of (i:=0) rfl U (by rfl) ?_
        refine zq tb U (AA ⟨U,?_⟩)
        exact AF (by exact AS [0,2] U (by decide) rfl U (.pure (AB fun _=>U) (.pure (AB fun _=>U) .nil)) (.same U)) (AK (by kernel_rfl) ((hA35 _ _ _).1 A35_0123456w1)) rfl
       ·refine Au.of (i:=7) rfl U (by rfl) ?_
        refine zz (.Al [(i64 c33.op),(i64 c33.num),(ls AD c33.kids)] 0) (CK BV U U gc33 (Ap _) rfl) rfl (AA ⟨U,?_⟩)
        exact AF (by exact AG U) (AK (by kernel_rfl) ((hA35 _ _ _).1 A35_1234567w1)) rfl)
      have A35_12345w1:A35 6 #[false,true,true,true,true,true,false,false,false,false,false] ⟨194,Aa [(3,(.ptr 1 0 0 0)),(66,(ow 2 0 l32)),(67,(.ptr 3 0 0 2))],[(ro 0 3 1 eI s0),⟨0,97,2,[(AZ p0)]⟩,(ro 0 3 1 eI l32),(Ga p2.op p2.num p2.kids)]⟩:=(hA35 _ _ _).2 (by
       refine Ae [0,6] U (by kernel_rfl) (by decide) ⟨?_,?_,trivial⟩
       ·refine Au.of (i:=0) rfl U (by rfl) ?_
        refine zq tb U (AA ⟨U,?_⟩)
        exact AF (by exact AS [0,2,3] U (by decide) rfl U (.pure (AB fun _=>U) (.pure (AB fun _=>U) (.raw U U .nil))) (.same U)) (AK (by kernel_rfl) ((hA35 _ _ _).1 A35_012345w1)) rfl
       ·refine Au.of (i:=6) rfl U (by rfl) ?_
        refine zq tb U (AA ⟨U,?_⟩)
        exact AF (by exact AS [0,1,2] U (by decide) rfl U (.pure (AB fun _=>U) (.raw U U (.pure (AB fun _=>U) .nil))) (.same U)) (AK (by kernel_rfl) ((hA35 _ _ _).1 A35_123456w1)) rfl)
      have A35_1234w1:A35 7 #[false,true,true,true,true,false,false,false,false,false,false] ⟨194,Aa [(3,(.ptr 1 0 0 0)),(5,(.ptr 2 0 0 0)),(66,(ow 3 0 l32))],[(ro 0 3 1 eI s0),⟨0,97,2,[(AZ p0)]⟩,(Ga p2.op p2.num p2.kids),(ro 0 3 1 eI l32)]⟩:=(hA35 _ _ _).2 (by
       refine Ae [0,5] U (by kernel_rfl) (by decide) ⟨?_,?_,trivial⟩
       ·refine Au.of (i:=0) rfl U (by rfl) ?_
        refine zq tb U (AA ⟨U,?_⟩)
        exact AF (by exact AS [0,2,3] U (by decide) rfl U (.pure (AB fun _=>U) (.raw U U (.pure (AB fun _=>U) .nil))) (.same U)) (AK (by kernel_rfl) ((hA35 _ _ _).1 A35_01234w1)) rfl
       ·refine Au.of (i:=5) rfl U (by rfl) ?_
        refine zq tb U (AA ⟨U,?_⟩)
        exact AF (by exact AS [0,1,3,2] U (by decide) rfl U (.pure (AB fun _=>U) (.raw U U (.pure (AB fun _=>U) (.raw U U .nil)))) (.same U)) (AK (by kernel_rfl) ((hA35 _ _ _).1 A35_12345w1)) rfl)
      have A35_1235678:A35 4 #[false,true,true,true,false,true,true,true,true,false,false] ⟨194,Aa [(3,(.ptr 1 0 0 0)),(63,(ow 0 0 s0)),(65,(ow 2 0 [q26])),(70,(.agg [(i64 c33.op),(i64 c33.num),(ls AD c33.kids)]))],[(ro 0 3 1 eI s0),⟨0,97,2,[(AZ p0)]⟩,(ro 0 3 1 eI [q26])]⟩:=(hA35 _ _ _).2 (by
       refine Ae [0,4] U (by kernel_rfl) (by decide) ⟨?_,?_,trivial⟩
       ·refine Au.of (i:=0) rfl U (by rfl) ?_
        refine zq tb U (AA ⟨U,?_⟩)
        exact AF (by exact AS [0,2] U (by decide) rfl U (.pure (AB fun _=>U) (.pure (AB fun _=>U) .nil)) (.same U)) (AK (by kernel_rfl) ((hA35 _ _ _).1 A35_01235678)) rfl
       ·refine FD (l:=s0) (l2:=[q26]) (l':=l32) rfl U A4 (Dp (Cz U) (Dp (AB fun _=>U) (fun _ hq=>nomatch hq))) rfl U U (EO U U) rfl (fun _=>U) (fun _=>(AB fun _=>U)) gl32 ?_ ?_
        ·exact AF (by exact AS [0,1] U (by decide) rfl U (.pure (AB fun _=>U) (.raw U U .nil)) (.same U)) (AK (by kernel_rfl) ((hA35' _ _ _).1 A35_12345678w0)) rfl
        ·exact AF (by exact AS [0,1,3] U (by decide) rfl U (.pure (AB fun _=>U) (.raw U U (.pure (AB fun _=>U) .nil))) (.same U)) (AK (by kernel_rfl) ((hA35 _ _ _).1 A35_12345678w1)) rfl)
      have A35_123567:A35 5 #[false,true,true,true,false,true,true,true,false,false,false] ⟨194,Aa [(3,(.ptr 1 0 0 0)),(63,(ow 0 0 s0)),(65,(ow 2 0 [q26])),(69,(.Al [(i64 c33.op),(i64 c33.num),(ls AD c33.kids)] 0))],[(ro 0 3 1 eI s0),⟨0,97,2,[(AZ p0)]⟩,(ro 0 3 1 eI [q26])]⟩:=(hA35 _ _ _).2 (by
       refine Ae [0,4,8] U (by kernel_rfl) (by decide) ⟨?_,?_,?_,trivial⟩
       ·refine Au.of (i:=0) rfl U (by rfl) ?_
        refine zq tb U (AA ⟨U,?_⟩)
        exact AF (by exact AS [0,2] U (by decide) rfl U (.pure (AB fun _=>U) (.pure (AB fun _=>U) .nil)) (.same U)) (AK (by kernel_rfl) ((hA35 _ _ _).1 A35_0123567)) rfl
       ·refine FD (l:=s0) (l2:=[q26]) (l':=l32) rfl U A4 (Dp (Cz U) (Dp (AB fun _=>U) (fun _ hq=>nomatch hq))) rfl U U (EO U U) rfl (fun _=>U) (fun _=>(AB fun _=>U)) gl32 ?_ ?_
        ·exact AF (by exact AS [0,1] U (by decide) rfl U (.pure (AB fun _=>U) (.raw U U .nil)) (.same U)) (AK (by kernel_rfl) ((hA35' _ _ _).1 A35_1234567w0)) rfl
        ·exact AF (by exact AS [0,1,3] U (by decide) rfl U (.pure (AB fun _=>U) (.raw U U (.pure (AB fun _=>U) .nil))) (.same U)) (AK (by kernel_rfl) ((hA35 _ _ _).1 A35_1234567w1)) rfl
       ·refine Au.of (i:=8) rfl U (by rfl) ?_
        refine zq tb U (AA ⟨U,?_⟩)
        exact AF (by exact AG U) (AK (by kernel_rfl) ((hA35 _ _ _).1 A35_1235678)) rfl)
      have A35_12356:A35 6 #[false,true,true,true,false,true,true,false,false,false,false] ⟨194,Aa [(3,(.ptr 1 0 0 0)),(63,(ow 0 0 s0)),(65,(ow 2 0 [q26])),(68,(ls AD p2.kids))],[(ro 0 3 1 eI s0),⟨0,97,2,[(AZ p0)]⟩,(ro 0 3 1 eI [q26])]⟩:=(hA35 _ _ _).2 (by
       refine Ae [0,4,7] U (by kernel_rfl) (by decide) ⟨?_,?_,?_,trivial⟩
       ·refine Au.of (i:=0) rfl U (by rfl) ?_
        refine zq tb U (AA ⟨U,?_⟩)
        exact AF (by exact AS [0,2] U (by decide) rfl U (.pure (AB fun _=>U) (.pure (AB fun _=>U) .nil)) (.same U)) (AK (by kernel_rfl) ((hA35 _ _ _).1 A35_012356)) rfl
       ·refine FD (l:=s0) (l2:=[q26]) (l':=l32) rfl U A4 (Dp (Cz U) (Dp (AB fun _=>U) (fun _ hq=>nomatch hq))) rfl U U (EO U U) rfl (fun _=>U) (fun _=>(AB fun _=>U)) gl32 ?_ ?_
        ·exact AF (by exact AS [0,1] U (by decide) rfl U (.pure (AB fun _=>U) (.raw U U .nil)) (.same U)) (AK (by kernel_rfl) ((hA35' _ _ _).1 A35_123456w0)) rfl
        ·exact AF (by exact AS [0,1,3] U (by decide) rfl U (.pure (AB fun _=>U) (.raw U U (.pure (AB fun _=>U) .nil))) (.same U)) (AK (by kernel_rfl) ((hA35 _ _ _).1 A35_123456w1)) rfl
       ·refine Au.of (i:=7) rfl U (by rfl) ?_
        refine zz (.Al [(i64 c33.op),(i64 c33.num),(ls AD c33.kids)] 0) (CK BV U U gc33 (Ap _) rfl) rfl (AA ⟨U,?_⟩)
        exact AF (by exact AG U) (AK (by kernel_rfl) ((hA35 _ _ _).1 A35_123567)) rfl)
      have A35_1235:A35 7 #[false,true,true,true,false,true,false,false,false,false,false] ⟨194,Aa [(3,(.ptr 1 0 0 0)),(63,(ow 0 0 s0)),(65,(ow 2 0 [q26])),(67,(.ptr 3 0 0 2))],[(ro 0 3 1 eI s0),⟨0,97,2,[(AZ p0)]⟩,(ro 0 3 1 eI [q26]),(Ga p2.op p2.num p2.kids)]⟩:=(hA35 _ _ _).2 (by
       refine Ae [0,4,6] U (by kernel_rfl) (by decide) ⟨?_,?_,?_,trivial⟩
       ·refine Au.of (i:=0) rfl U (by rfl) ?_
        refine zq tb U (AA ⟨U,?_⟩)
        exact AF (by exact AS [0,2,3] U (by decide) rfl U (.pure (AB fun _=>U) (.pure (AB fun _=>U) (.raw U U .nil))) (.same U)) (AK (by kernel_rfl) ((hA35 _ _ _).1 A35_01235)) rfl
       ·refine FD (l:=s0) (l2:=[q26]) (l':=l32) rfl U A4 (Dp (Cz U) (Dp (AB fun _=>U) (Dp (Cz U) (fun _ hq=>nomatch hq)))) rfl U U (EO U U) rfl (fun _=>U) (fun _=>(AB fun _=>U)) gl32 ?_ ?_
        ·exact AF (by exact AS [0,1,3] U (by decide) rfl U (.pure (AB fun _=>U) (.raw U U (.raw U U .nil))) (.same U)) (AK (by kernel_rfl) ((hA35' _ _ _).1 A35_12345w0)) rfl
        ·exact AF (by exact AS [0,1,4,3] U (by decide) rfl U (.pure (AB fun _=>U) (.raw U U (.pure (AB fun _=>U) (.raw U U .nil)))) (.same U)) (AK (by kernel_rfl) ((hA35 _ _ _).1 A35_12345w1)) rfl
       ·refine Au.of (i:=6) rfl U (by rfl) ?_
        refine zq tb U (AA ⟨U,?_⟩)
        exact AF (by exact AS [0,1,2] U (by decide) rfl U (.pure (AB fun _=>U) (.raw U U (.pure (AB fun _=>U) .nil))) (.same U)) (AK (by kernel_rfl) ((hA35 _ _ _).1 A35_12356)) rfl)
      have A35_123:A35 8 #[false,true,true,true,false,false,false,false,false,false,false] ⟨194,Aa [(3,(.ptr 1 0 0 0)),(5,(.ptr 2 0 0 0)),(63,(ow 0 0 s0)),(65,(ow 3 0 [q26]))],[(ro 0 3 1 eI s0),⟨0,97,2,[(AZ p0)]⟩,(Ga p2.op p2.num p2.kids),(ro 0 3 1 eI [q26])]⟩:=(hA35 _ _ _).2 (by
       refine Ae [0,4,5] U (by kernel_rfl) (by decide) ⟨?_,?_,?_,trivial⟩
       ·refine Au.of (i:=0) rfl U (by rfl) ?_
        refine zq tb U (AA ⟨U,?_⟩)
        exact AF (by exact AS [0,2,3] U (by decide) rfl U (.pure (AB fun _=>U) (.raw U U (.pure (AB fun _=>U) .nil))) (.same U)) (AK (by kernel_rfl) ((hA35 _ _ _).1 A35_0123)) rfl
       ·refine FD (l:=s0) (l2:=[q26]) (l':=l32) rfl U A4 (Dp (Cz U) (Dp (Cz U) (Dp (AB fun _=>U) (fun _ hq=>nomatch hq)))) rfl U U (EO U U) rfl (fun _=>U) (fun _=>(AB fun _=>U)) gl32 ?_ ?_
        ·exact AF (by exact AS [0,1,2] U (by decide) rfl U (.pure (AB fun _=>U) (.raw U U (.raw U U .nil))) (.same U)) (AK (by kernel_rfl) ((hA35' _ _ _).1 A35_1234w0)) rfl
        ·exact AF (by exact AS [0,1,2,4] U (by decide) rfl U (.pure (AB fun _=>U) (.raw U U (.raw U U (.pure (AB fun _=>U) .nil)))) (.same U)) (AK (by kernel_rfl) ((hA35 _ _ _).1 A35_1234w1)) rfl
       ·refine Au.of (i:=5) rfl U (by rfl) ?_
        refine zq tb U (AA ⟨U,?_⟩)
        exact AF (by exact AS [0,1,3,2] U (by decide) rfl U (.pure (AB fun _=>U) (.raw U U (.pure (AB fun _=>U) (.raw U U .nil)))) (.same U)) (AK (by kernel_rfl) ((hA35 _ _ _).1 A35_1235)) rfl)
      have A35_125678:A35 5 #[false,true,true,false,false,true,true,true,true,false,false] ⟨194,Aa [(3,(.ptr 1 0 0 0)),(63,(ow 0 0 s0)),(64,(i64 q26)),(70,(.agg [(i64 c33.op),(i64 c33.num),(ls AD c33.kids)]))],[(ro 0 3 1 eI s0),⟨0,97,2,[(AZ p0)]⟩]⟩:=(hA35 _ _ _).2 (by
       refine Ae [0,3] U (by kernel_rfl) (by decide) ⟨?_,?_,trivial⟩
       ·refine Au.of (i:=0) rfl U (by rfl) ?_
        refine zq tb U (AA ⟨U,?_⟩)
        exact AF (by exact AS [0] U (by decide) rfl U (.pure (AB fun _=>U) .nil) (.same U)) (AK (by kernel_rfl) ((hA35 _ _ _).1 A35_0125678)) rfl
       ·refine Au.of (i:=3) rfl U (by rfl) ?_
        refine A3 (m:=2) (l:=[q26]) (enc:=eI) AM A4 (by decide) rfl U U U U U ?_
        refine AA ⟨U,?_⟩
        exact AF (by exact AG U) (AK (by kernel_rfl) ((hA35 _ _ _).1 A35_1235678)) rfl)
      have A35_12567:A35 6 #[false,true,true,false,false,true,true,true,false,false,false] ⟨194,Aa [(3,(.ptr 1 0 0 0)),(63,(ow 0 0 s0)),(64,(i64 q26)),(69,(.Al [(i64 c33.op),(i64 c33.num),(ls AD c33.kids)] 0))],[(ro 0 3 1 eI s0),⟨0,97,2,[(AZ p0)]⟩]⟩:=(hA35 _ _ _).2 (by
       refine Ae [0,3,8] U (by kernel_rfl) (by decide) ⟨?_,?_,?_,trivial⟩
       ·refine Au.of (i:=0) rfl U (by rfl) ?_
        refine zq tb U (AA ⟨U,?_⟩)
        exact AF (by exact AS [0] U (by decide) rfl U (.pure (AB fun _=>U) .nil) (.same U)) (AK (by kernel_rfl) ((hA35 _ _ _).1 A35_012567)) rfl
       ·refine Au.of (i:=3) rfl U (by rfl) ?_
        refine A3 (m:=2) (l:=[q26]) (enc:=eI) AM A4 (by decide) rfl U U U U U ?_
        refine AA ⟨U,?_⟩
        exact AF (by exact AG U) (AK (by kernel_rfl) ((hA35 _ _ _).1 A35_123567)) rfl
       ·refine Au.of (i:=8) rfl U (by rfl) ?_
        refine zq tb U (AA ⟨U,?_⟩)
        exact AF (by exact AG U) (AK (by kernel_rfl) ((hA35 _ _ _).1 A35_125678)) rfl)
      have A35_1256:A35 7 #[false,true,true,false,false,true,true,false,false,false,false] ⟨194,Aa [(3,(.ptr 1 0 0 0)),(63,(ow 0 0 s0)),(64,(i64 q26)),(68,(ls AD p2.kids))],[(ro 0 3 1 eI s0),⟨0,97,2,[(AZ p0)]⟩]⟩:=(hA35 _ _ _).2 (by
       refine Ae [0,3,7] U (by kernel_rfl) (by decide) ⟨?_,?_,?_,trivial⟩
       ·refine Au.of (i:=0) rfl U (by rfl) ?_
        refine zq tb U (AA ⟨U,?_⟩)
        exact AF (by exact AS [0] U (by decide) rfl U (.pure (AB fun _=>U) .nil) (.same U)) (AK (by kernel_rfl) ((hA35 _ _ _).1 A35_01256)) rfl
       ·refine Au.of (i:=3) rfl U (by rfl) ?_
        refine A3 (m:=2) (l:=[q26]) (enc:=eI) AM A4 (by decide) rfl U U U U U ?_
        refine AA ⟨U,?_⟩
        exact AF (by exact AG U) (AK (by kernel_rfl) ((hA35 _ _ _).1 A35_12356)) rfl
       ·refine Au.of (i:=7) rfl U (by rfl) ?_
        refine zz (.Al [(i64 c33.op),(i64 c33.num),(ls AD c33.kids)] 0) (CK BV U U gc33 (Ap _) rfl) rfl (AA ⟨U,?_⟩)
        exact AF (by exact AG U) (AK (by kernel_rfl) ((hA35 _ _ _).1 A35_12567)) rfl)
      have A35_125:A35 8 #[false,true,true,false,false,true,false,false,false,false,false] ⟨194,Aa [(3,(.ptr 1 0 0 0)),(63,(ow 0 0 s0)),(64,(i64 q26)),(67,(.ptr 2 0 0 2))],[(ro 0 3 1 eI s0),⟨0,97,2,[(AZ p0)]⟩,(Ga p2.op p2.num p2.kids)]⟩:=(hA35 _ _ _).2 (by
       refine Ae [0,3,6] U (by kernel_rfl) (by decide) ⟨?_,?_,?_,trivial⟩
       ·refine Au.of (i:=0) rfl U (by rfl) ?_
        refine zq tb U (AA ⟨U,?_⟩)
        exact AF (by exact AS [0,2] U (by decide) rfl U (.pure (AB fun _=>U) (.raw U U .nil)) (.same U)) (AK (by kernel_rfl) ((hA35 _ _ _).1 A35_0125)) rfl
       ·refine Au.of (i:=3) rfl U (by rfl) ?_
        refine A3 (m:=3) (l:=[q26]) (enc:=eI) AM A4 (by decide) rfl U U U U U ?_
        refine AA ⟨U,?_⟩
        exact AF (by exact AS [0,1,3,2] U (by decide) rfl U (.pure (AB fun _=>U) (.raw U U (.pure (AB fun _=>U) (.raw U U .nil)))) (.same U)) (AK (by kernel_rfl) ((hA35 _ _ _).1 A35_1235)) rfl
       ·refine Au.of (i:=6) rfl U (by rfl) ?_
        refine zq tb U (AA ⟨U,?_⟩)
        exact AF (by exact AS [0,1] U (by decide) rfl U (.pure (AB fun _=>U) (.raw U U .nil)) (.same U)) (AK (by kernel_rfl) ((hA35 _ _ _).1 A35_1256)) rfl)
      have A35_12:A35 9 #[false,true,true,false,false,false,false,false,false,false,false] ⟨194,Aa [(3,(.ptr 1 0 0 0)),(5,(.ptr 2 0 0 0)),(63,(ow 0 0 s0)),(64,(i64 q26))],[(ro 0 3 1 eI s0),⟨0,97,2,[(AZ p0)]⟩,(Ga p2.op p2.num p2.kids)]⟩:=(hA35 _ _ _).2 (by
       refine Ae [0,3,5] U (by kernel_rfl) (by decide) ⟨?_,?_,?_,trivial⟩
       ·refine Au.of (i:=0) rfl U (by rfl) ?_
        refine zq tb U (AA ⟨U,?_⟩)
        exact AF (by exact AS [0,2] U (by decide) rfl U (.pure (AB fun _=>U) (.raw U U .nil)) (.same U)) (AK (by kernel_rfl) ((hA35 _ _ _).1 A35_012)) rfl
       ·refine Au.of (i:=3) rfl U (by rfl) ?_
        refine A3 (m:=3) (l:=[q26]) (enc:=eI) AM A4 (by decide) rfl U U U U U ?_
        refine AA ⟨U,?_⟩
        exact AF (by exact AG U) (AK (by kernel_rfl) ((hA35 _ _ _).1 A35_123)) rfl
       ·refine Au.of (i:=5) rfl U (by rfl) ?_
        refine zq tb U (AA ⟨U,?_⟩)
        exact AF (by exact AG U) (AK (by kernel_rfl) ((hA35 _ _ _).1 A35_125)) rfl)
      have A35_1:A35 10 #[false,true,false,false,false,false,false,false,false,false,false] ⟨194,Aa [(3,(.ptr 1 0 0 0)),(5,(.ptr 2 0 0 0)),(7,(i64 q26)),(63,(ow 0 0 s0))],[(ro 0 3 1 eI s0),⟨0,97,2,[(AZ p0)]⟩,(Ga p2.op p2.num p2.kids)]⟩:=(hA35 _ _ _).2 (by
       refine Cj 2 (v:=(i64 q26)) rfl U (by kernel_rfl) (by kernel_rfl) (by kernel_rfl) rfl (GR U) ?_
       exact AF (by exact AG U) (AK (by kernel_rfl) ((hA35 _ _ _).1 A35_12)) rfl)
      have A35_e:A35 11 #[false,false,false,false,false,false,false,false,false,false,false] ⟨194,Aa [(1,(ow 0 0 s0)),(3,(.ptr 1 0 0 0)),(5,(.ptr 2 0 0 0)),(7,(i64 q26))],[(ro 0 3 1 eI s0),⟨0,97,2,[(AZ p0)]⟩,(Ga p2.op p2.num p2.kids)]⟩:=(hA35 _ _ _).2 (by
       refine Cj 1 (v:=(ow 0 0 s0)) rfl U (by kernel_rfl) (by kernel_rfl) (by kernel_rfl) rfl (GR U) ?_
       exact AF (by exact AG U) (AK (by kernel_rfl) ((hA35 _ _ _).1 A35_1)) rfl)
      refine (hA35 _ _ _).2 ?_
      exact AF (by exact AG U) (AK (by kernel_rfl) ((hA35 _ _ _).1 A35_e)) rfl
   refine AL U (zm tb 2 U (zl tb U U (zm tb 2 U ?_)))
   rcases Sh.Am h1 with ⟨b36,h1⟩ | ⟨b36,h1⟩
   ·exact zs b36 U (zs b36 U (zs b36 U (zt b36 U (AA (M21 true (Sh.AE h1).symm _ (AG U))))))
   ·exact zg tb b36 U (zg tb b36 U (zg tb b36 U (zf b36 U (AA (M21 (!decide (p2.num=0)) (Sh.AE h1).symm _ (AG U))))))
  ·intro b17 h0
   refine zr tb U U ?_
   refine ci h0 U ?_ ?_ <;> clear h0
   ·intro b38 h0
    refine AH fun K39 hK39=>AH fun K40 hK40=>bs h0 fun o42 h1 h0=>?_
    have M42 :∀(t41:Bool),o42=t41→∀s,Wk 1 s ⟨194,Aa [(1,(ow 0 0 s0)),(3,(.ptr 1 0 0 0)),(5,(.ptr 2 0 0 0)),(92,(.bool t41))],[(ro 0 3 1 eI s0),⟨0,97,2,[(AZ p0)]⟩,(Ga p2.op p2.num p2.kids)]⟩→K40 s:=by
     intro t41 hq s hw
     subst o42
     try dsimp only at h0
     refine hK40 _ (AN hw ?_)
     refine ci h0 U ?_ ?_ <;> clear h0
     ·intro b43 h0
      refine zr tb U U ?_
      replace h0:=Sh.AE h0
      subst r
      exact AU (xr (AS (L:=[(6,(i64 (-1)))]) (st':=[(ro 0 3 1 eI s0)]) [0] U (by decide) rfl U (.pure (AB fun _=>U) .nil) (.same U)))
     ·intro b43 h0
      refine AR (hK39 _ (AH fun K45 hK45=>?_))
      refine CL 7 (by kernel_rfl) (by kernel_rfl) (by rfl) ?_
      iterate 4 refine yq tb rfl ?_
      refine bs h0 fun l46 gl46 h0=>T4 (i:=1) (j:=Sh.len p2.kids) AM BV U U U B8 gl46 (bs h0 fun l47 gl47 h0=>ZQ (enc:=(eS eI)) (u:=[]) AM IS U U U gl47 (AB fun _=>U) (bs h0 fun q48 gq48 h0=>S8 (v':=(i64 q48)) AM Xv (Gd hrec_impl_signatures_typeOf gq48) rfl (.val U (.own U U (fun _=>U) (.val U (.val U .nil)))) rfl U (Ax (zq tb U (dn hK45 U ?_)))))
      replace h0:=Sh.AE h0
      subst r
      exact AU (xr (AS (L:=[(6,(i64 q48))]) (st':=[(ro 0 3 1 eI s0)]) [0] U (by decide) rfl U (.pure (AB fun _=>U) .nil) (.same U)))
    refine CC (by kernel_rfl) (by kernel_rfl) (by rfl) ?_
    iterate 2 refine yq tb rfl ?_
    refine yl tb U U ?_
    iterate 2 refine yq tb rfl ?_
    rcases Sh.Am h1 with ⟨b49,h1⟩ | ⟨b49,h1⟩
    ·refine ys b49 U ?_
     iterate 2 refine ys b49 rfl ?_
     refine yt b49 U (yq tb U ?_)
     iterate 8 refine ys rfl rfl ?_
     exact yt U U (Ax (M42 true (Sh.AE h1).symm _ (AG U)))
    ·refine yg tb b49 U ?_
     iterate 2 refine yg tb b49 rfl ?_
     refine yf b49 U (yq tb U ?_)
     rcases Sh.Am h1 with ⟨b50,h1⟩ | ⟨b50,h1⟩
     ·refine ys b50 U ?_
      iterate 7 refine ys b50 rfl ?_
      exact yt b50 U (Ax (M42 true (Sh.AE h1).symm _ (AG U)))
     ·refine yg tb b50 U ?_
      iterate 3 refine yg tb b50 rfl ?_
      refine bs h1 fun c51 gc51 h1=>HN (v:=(.Al [(i64 c51.op),(i64 c51.num),(ls AD c51.kids)] 0)) (Bw U U b50) rfl (CK BV U U gc51 (Ap _) rfl) (yg tb b50 U (bs h1 fun q52 gq52 h1=>?_))
      refine Qo (rowsP:=[(ro 0 3 1 eI s0)]) (rows0:=[(ro 0 3 1 eI s0)]) (rows1:=[(ro 0 3 1 eI s0)]) (rows1':=[(ro 0 3 1 eI s0)]) (v':=(i64 q52)) [0] (Bw U U b50) PG (hrec_impl_signatures_typeOf gq52) rfl (by decide) rfl U (.pure (AB fun _=>U) .nil) rfl U (.pure (AB fun _=>U) .nil) rfl U ?_
      exact yg tb b50 U (yf b50 U (Ax (M42 (!decide (q52=0)) (Sh.AE h1).symm _ (AG U))))
   ·intro b38 h0
    refine zr tb U U ?_
    refine ci h0 U ?_ ?_ <;> clear h0
    ·intro b54 h0
     refine sr U fun K55 hK55=>zm tb 4 U (bs h0 fun q56 gq56 h0=>Bz (v':=(ow 3 0 q56)) AM ZG (Pm gq56) rfl U ⟨(Bi fun _=>U),trivial⟩ U U (zq tb U (dn hK55 U (AH fun K57 hK57=>AH fun K58 hK58=>bs h0 fun o60 h1 h0=>?_))))
     have M60 :∀(t59:Bool),o60=t59→∀s,Wk 1 s ⟨194,Aa [(1,(ow 0 0 s0)),(3,(.ptr 1 0 0 0)),(5,(.ptr 2 0 0 0)),(8,(ow 3 0 q56)),(130,(.bool t59))],[(ro 0 3 1 eI s0),⟨0,97,2,[(AZ p0)]⟩,(Ga p2.op p2.num p2.kids),(ro 0 3 1 eI q56)]⟩→K58 s:=by
      intro t59 hq s hw
      subst o60
      try dsimp only at h0
      refine hK58 _ (AN hw ?_)
      refine ci h0 U ?_ ?_ <;> clear h0
      ·intro b61 h0
       refine zr tb U U ?_
       replace h0:=Sh.AE h0
       subst r
       exact AU (xr (AS (L:=[(6,(i64 (-1)))]) (st':=[(ro 0 3 1 eI s0)]) [0] U (by decide) rfl U (.pure (AB fun _=>U) .nil) (.same U)))
      ·intro b61 h0
       refine AR (hK57 _ (sr U fun K63 hK63=>zq tb U (zz (i64 (Sh.len q56)) (CW Em U U U) rfl (bs h0 fun l64 gl64 h0=>OI (m:=4) (enc:=(eS eI)) (u:=[]) AM IS U U U gl64 U U (zq tb U (dn hK63 U (AH fun K65 hK65=>sr U fun K66 hK66=>zq tb U (zz (i64 (Sh.len q56)) (CW Em U U U) rfl ?_))))))))
       refine zq tb U (dn hK66 U (bs h0 fun o70 h1 h0=>?_))
       have M70 :∀(l69:(List (List Int))),o70=l69→∀s,Wk 1 s ⟨194,Aa [(1,(ow 0 0 s0)),(3,(.ptr 1 0 0 0)),(5,(.ptr 2 0 0 0)),(9,(ow 3 0 l69))],[(ro 0 3 1 eI s0),⟨0,97,2,[(AZ p0)]⟩,(Ga p2.op p2.num p2.kids),(ro 0 40 1 (eS eI) l69)]⟩→K65 s:=by
        intro l69 hq s hw
        subst o70
        try dsimp only at h0
        refine hK65 _ (AN hw (AH fun K71 hK71=>?_))
        refine CL 7 (by kernel_rfl) (by kernel_rfl) (by rfl) ?_
        iterate 4 refine yq tb rfl ?_
        refine bs h0 fun l72 gl72 h0=>T4 (i:=1) (j:=Sh.len p2.kids) AM BV U U U B8 gl72 (yq tb U (bs h0 fun q73 gq73 h0=>S8 (v':=(i64 q73)) AM Xv (Gd hrec_impl_signatures_typeOf gq73) rfl (.val U (.own U U (fun _=>U) (.val U (.own U U (fun _=>U) .nil)))) rfl U (Ax (zq tb U (dn hK71 U ?_)))))
        replace h0:=Sh.AE h0
        subst r
        exact AU (xr (AS (L:=[(6,(i64 q73))]) (st':=[(ro 0 3 1 eI s0)]) [0] U (by decide) rfl U (.pure (AB fun _=>U) .nil) (.same U)))
       refine Ab (Ay (σ:=Int×(List (List Int))) (fun n v=>Bg N p0 q56 n v.1 v.2=some o70) (fun (t67,l68)=>⟨194,Aa [(1,(ow 0 0 s0)),(3,(.ptr 1 0 0 0)),(5,(.ptr 2 0 0 0)),(9,(ow 4 0 l68)),(134,(ow 3 0 q56)),(135,(i64 (Sh.len q56))),(136,(i64 t67))],[(ro 0 3 1 eI s0),⟨0,97,2,[(AZ p0)]⟩,(Ga p2.op p2.num p2.kids),(ro 0 3 1 eI q56),(ro 0 40 1 (eS eI) l68)]⟩) N (0,l64) h1 (AG U) (fun _ hv=>by rw[Bg] at hv;cases hv) ?_)
       rintro n ⟨t67,l68⟩ h1
       try dsimp only at h1 ⊢
       rw[Bg] at h1
       refine zr tb U U (AH fun K75 hK75=>?_)
       refine ci h1 U ?_ ?_ <;> clear h1
       ·intro b76 h1
        refine AR (hK75 _ (AH fun K77 hK77=>Ab (sr U fun K78 hK78=>zq tb U (bs h1 fun c79 gc79 h1=>zz (.ptr 3 0 (Int.toNat t67) 0) (Bn A4 U U U U gc79) rfl (zz (i64 c79) (B1 F6 U U (Bs gc79) rfl) rfl (zm tb 2 U (dn hK78 U (AL U (zm tb 5 U ?_)))))))))
        refine bs h1 fun q80 gq80 h1=>zc Zl (Nz gq80) rfl U U (bs h1 fun c81 gc81 h1=>zz (.ptr 4 0 (Int.toNat t67) 0) (Bn IS U U U U gc81) rfl (Gf (u':=q80) AM Le U U gc81 U U U (show 0+1≤1 by decide) rfl U (dn hK77 U (AL U (zm tb 2 U ?_)))))
        exact AA (xi (Sh.w (t67+1),Sh.put l68 t67 q80) h1 (Ah (L:=[(1,(.own 0 0 (List.length s0))),(3,(.ptr 1 0 0 0)),(5,(.ptr 2 0 0 0)),(9,(.own 4 0 (List.length (Sh.put l68 t67 q80)))),(134,(.own 3 0 (List.length q56))),(135,(i64 (Sh.len q56))),(136,(i64 (Sh.w (t67+1))))]) ⟨.rfl,.rfl,.rfl,(.len (by simp only[Sh.FK])),.rfl,.rfl,.rfl,trivial⟩))
       ·intro b76 h1
        exact A5 (M70 l68 (Sh.AE h1).symm _ (AS [0,1,2,4] U (by decide) rfl U (.pure (AB fun _=>U) (.raw U U (.raw U U (.pure (AB fun _=>U) .nil)))) (.same U)))
     refine CC (by kernel_rfl) (by kernel_rfl) (by rfl) ?_
     refine yq tb U (yz (i64 (Sh.len q56)) (CW Em U U U) rfl ?_)
     iterate 2 refine yq tb rfl ?_
     rcases Sh.Am h1 with ⟨b82,h1⟩ | ⟨b82,h1⟩
     ·refine ys b82 U ?_
      iterate 6 refine ys b82 rfl ?_
      refine yt b82 U (yq tb U ?_)
      iterate 10 refine ys rfl rfl ?_
      exact yt U U (Ax (M60 true (Sh.AE h1).symm _ (AG U)))
     ·refine yg tb b82 U (yg tb b82 U (HN (v:=(i64 (Sh.len p2.kids))) (Bw U U b82) rfl (B6 R6 U) (yg tb b82 U (HN (v:=(i64 (Sh.len q56))) (Bw U U b82) rfl (CW Em U U U) ?_))))
      iterate 2 refine yg tb b82 rfl ?_
      refine yf b82 U (yq tb U ?_)
      rcases Sh.Am h1 with ⟨b83,h1⟩ | ⟨b83,h1⟩
      ·refine ys b83 U ?_
       iterate 9 refine ys b83 rfl ?_
       exact yt b83 U (Ax (M60 true (Sh.AE h1).symm _ (AG U)))
      ·refine yg tb b83 U ?_
       iterate 3 refine yg tb b83 rfl ?_
       refine bs h1 fun c84 gc84 h1=>HN (v:=(.Al [(i64 c84.op),(i64 c84.num),(ls AD c84.kids)] 0)) (Bw U U b83) rfl (CK BV U U gc84 (Ap _) rfl) (yg tb b83 U (bs h1 fun q85 gq85 h1=>?_))
       refine Qo (rowsP:=[(ro 0 3 1 eI s0)]) (rows0:=[(ro 0 3 1 eI s0)]) (rows1:=[(ro 0 3 1 eI s0)]) (rows1':=[(ro 0 3 1 eI s0)]) (v':=(i64 q85)) [0] (Bw U U b83) PG (hrec_impl_signatures_typeOf gq85) rfl (by decide) rfl U (.pure (AB fun _=>U) .nil) rfl U (.pure (AB fun _=>U) .nil) rfl U ?_
       iterate 3 refine yg tb b83 rfl ?_
       exact yf b83 U (Ax (M60 (!decide (q85=p2.num)) (Sh.AE h1).symm _ (AG U)))
    ·intro b54 h0
     refine AR (hK2 _ (sr U fun K86 hK86=>zm tb 2 U (zl tb U U (bs h0 fun l87 gl87 h0=>OI (m:=3) (enc:=eI) (u:=0) AM A4 U U U gl87 U U (zq tb U (dn hK86 U (AH fun K88 hK88=>sr U fun K89 hK89=>zm tb 2 U (zl tb U U ?_))))))))
     refine zq tb U (dn hK89 U ?_)
     obtain⟨o93,h1,h0⟩:=Sh.BZ h0
     have M93 :∀(l92:(List Int)),o93=Sum.inr l92→∀s,Wk 1 s ⟨194,Aa [(3,(.ptr 1 0 0 0)),(5,(.ptr 2 0 0 0)),(12,(ow 3 0 l92))],[(ro 0 3 1 eI s0),⟨0,97,2,[(AZ p0)]⟩,(Ga p2.op p2.num p2.kids),(ro 0 3 1 eI l92)]⟩→K88 s:=by
      intro l92 hq s hw
      subst o93
      try dsimp only at h0
      refine hK88 _ (AN hw (sr U fun K94 hK94=>zm tb 6 U (Ad (Wk.A7 (L:=[(182,(.agg (AZ p0))),(184,(i64 p2.op)),(186,(i64 p2.num)),(187,(ls eI l92))]) (st':=[(ro 0 3 1 eI s0),⟨0,97,2,[(AZ p0)]⟩,(Ga p2.op p2.num p2.kids),⟨1,3,1,[]⟩]) (id:=3) rfl (show 1≤3 by decide) (AB fun _=>U) ⟨.rfl,.rfl,.rfl,(.A7 U),trivial⟩ U) (bs h0 fun q95 gq95 h0=>zc (v':=(.CO [(i64 q95.1),(.bool q95.2)])) Zk (IN gq95) rfl U U (zm tb 5 U (dn hK94 U (AH fun K96 hK96=>zr tb U U ?_)))))))
      refine ci h0 U ?_ ?_ <;> clear h0
      ·intro b98 h0
       have b99:q95.2=false:=by simpa using b98
       refine zr tb U U ?_
       replace h0:=Sh.AE h0
       subst r
       exact AU (xr (AS (L:=[(6,(i64 (-1)))]) (st':=[(ro 0 3 1 eI s0)]) [0] U (by decide) rfl U (.pure (AB fun _=>U) .nil) (.same U)))
      ·intro b98 h0
       have b101:q95.2=true:=by simpa using b98
       refine AR (hK96 _ (zr tb U U ?_))
       replace h0:=Sh.AE h0
       subst r
       exact AU (xr (AS (L:=[(6,(i64 q95.1))]) (st':=[(ro 0 3 1 eI s0)]) [0] U (by decide) rfl U (.pure (AB fun _=>U) .nil) (.same U)))
     refine Ab (Ay (σ:=Int×(List Int)) (fun n v=>Bh s0 p0 p2 rec_impl_signatures_typeOf n v.1 v.2=some o93) (fun (t90,l91)=>⟨194,Aa [(1,(ow 0 0 s0)),(3,(.ptr 1 0 0 0)),(5,(.ptr 2 0 0 0)),(12,(ow 3 0 l91)),(161,(ls AD p2.kids)),(162,(i64 (Sh.len p2.kids))),(163,(i64 t90))],[(ro 0 3 1 eI s0),⟨0,97,2,[(AZ p0)]⟩,(Ga p2.op p2.num p2.kids),(ro 0 3 1 eI l91)]⟩) N (0,l87) h1 (AG U) (fun _ hv=>by rw[Bh] at hv;cases hv) ?_)
     rintro n ⟨t90,l91⟩ h1
     try dsimp only at h1 ⊢
     rw[Bh] at h1
     refine zr tb U U (AH fun K104 hK104=>?_)
     refine ci h1 U ?_ ?_ <;> clear h1
     ·intro b105 h1
      refine AR (hK104 _ (AH fun K106 hK106=>Ab (sr U fun K107 hK107=>zq tb U (bs h1 fun c108 gc108 h1=>zz (.Al [(i64 c108.op),(i64 c108.num),(ls AD c108.kids)] 0) (CK BV U U gc108 (Ap _) rfl) rfl (zq tb U (A1 (m:=4) AM EI U U (zq tb U (Az AM BN U U U U U U (show 0+3≤3 by decide) rfl (dn hK107 U ?_)))))))))
      refine sr U fun K109 hK109=>zm tb 5 U (bs h1 fun q110 gq110 h1=>?_)
      refine Bc (rows0:=[(ro 0 3 1 eI s0)]) (rows1:=[(ro 0 3 1 eI s0)]) (st':=[(ro 0 3 1 eI s0),⟨0,97,2,[(AZ p0)]⟩,(Ga p2.op p2.num p2.kids),(ro 0 3 1 eI l91),(Ga c108.op c108.num c108.kids)]) (v':=(i64 q110)) [0] AM PG (hrec_impl_signatures_typeOf gq110) rfl (by decide) rfl U (.pure (AB fun _=>U) .nil) rfl U (.pure (AB fun _=>U) .nil) .nil U U ?_
      refine bs h1 fun c111 gc111 h1=>zz (.ptr 3 0 (Int.toNat t90) 0) (Bn A4 U U U U gc111) rfl (Gf (u':=q110) AM F6 U U gc111 U U U (show 0+1≤1 by decide) rfl U (dn hK109 U (sr U fun K112 hK112=>zm tb 2 U (bs h1 fun c113 gc113 h1=>?_))))
      refine zz (.ptr 3 0 (Int.toNat t90) 0) (Bn A4 U U U (by simp only[Sh.FK]) gc113) rfl ?_
      refine zz (i64 c113) (B1 F6 U U (Bs gc113) rfl) rfl (zq tb U (dn hK112 U ?_))
      refine ci h1 U ?_ ?_ <;> clear h1
      ·intro b114 h1
       refine zr tb U U ?_
       replace h1:=Sh.AE h1
       subst o93
       try dsimp only[id] at h0
       replace h0:=Sh.AE h0
       subst r
       exact AU (xr (AS (L:=[(6,(i64 (-1)))]) (st':=[(ro 0 3 1 eI s0)]) [0] U (by decide) rfl U (.pure (AB fun _=>U) .nil) (.same U)))
      ·intro b114 h1
       refine AR (hK106 _ (AL U (zm tb 2 U ?_)))
       exact AA (xi (Sh.w (t90+1),Sh.put l91 t90 q110) h1 (by refine Wk.trans (AS (L:=[(1,(.own 0 0 (List.length s0))),(3,(.ptr 1 0 0 0)),(5,(.ptr 2 0 0 0)),(12,(.own 3 0 (List.length l91))),(161,(.sl (List.map AD p2.kids))),(162,(i64 (Sh.len p2.kids))),(163,(i64 (Sh.w (t90+1))))]) (st':=[⟨0,3,1,List.map eI s0⟩,⟨0,97,2,[(AZ p0)]⟩,⟨0,50,3,[[(i64 p2.op),(i64 p2.num),(.sl (List.map AD p2.kids))]]⟩,⟨0,3,1,List.map eI (Sh.put l91 t90 q110)⟩]) [0,1,2,3] U (by decide) rfl U (.pure (AB fun _=>U) (.raw U U (.raw U U (.pure (AB fun _=>U) .nil)))) (.same U)) ?_;exact Ah (L:=[(1,(.own 0 0 (List.length s0))),(3,(.ptr 1 0 0 0)),(5,(.ptr 2 0 0 0)),(12,(.own 3 0 (List.length (Sh.put l91 t90 q110)))),(161,(.sl (List.map AD p2.kids))),(162,(i64 (Sh.len p2.kids))),(163,(i64 (Sh.w (t90+1))))]) ⟨.rfl,.rfl,.rfl,(.len (by simp only[Sh.FK])),.rfl,.rfl,.rfl,trivial⟩))
     ·intro b105 h1
      exact A5 (M93 l91 (Sh.AE h1).symm _ (AG U))

theorem Ir {N:Nat} :∀(n:Nat),∀{s0:(List Int)} {p0:BF} {p2:AP} {r:Int},Bp N n s0 p0 p2=some r→Ai Try.prog 61 [(.agg (AZ p0)),(ow 0 0 s0),(.agg [(i64 p2.op),(i64 p2.num),(ls AD p2.kids)])] [(ro 0 3 1 eI s0)] (fun v st=>v=(i64 r)∧st=[(ro 0 3 1 eI s0)]):=by
 intro n
 induction n with
 | zero=>intro s0 p0 p2 r h0;cases h0
 | succ n ih=>
  intro s0 p0 p2 r h0
  rw[Bp] at h0
  exact Iq (fun h=>ih h) h0
theorem JF {N:Nat} :∀{s0:(List Int)} {p0:BF} {p2:AP} {r:Int},Ft N s0 p0 p2=some r→Ai Try.prog 61 [(.agg (AZ p0)),(ow 0 0 s0),(.agg [(i64 p2.op),(i64 p2.num),(ls AD p2.kids)])] [(ro 0 3 1 eI s0)] (fun v st=>v=(i64 r)∧st=[(ro 0 3 1 eI s0)]):=by
 intro s0 p0 p2 r h0
 exact Ir N h0
theorem Pr {N:Nat} {p0:Af} {p1:(List Int)} {p2:AP} {r:Int} (h0:I1 N p0 p1 p2=some r):Ai Try.prog 39 [(.agg [(ls AI p0.decls),(ls AJ p0.funcs)]),(ls eI p1),(.agg [(i64 p2.op),(i64 p2.num),(ls AD p2.kids)])] [] (fun v st=>v=(i64 r)∧st=[]):=by
 unfold I1 at h0
 refine ai Try.func39 U U U U (sr U fun K1 hK1=>Bl (m:=0) AM U U U U U (Bl (m:=1) AM U U U U U (zq tb U (dn hK1 U (AH fun K2 hK2=>AH fun K3 hK3=>bs h0 fun o5 h1 h0=>?_)))))
 have M5 :∀(t4:Bool),o5=t4→∀s,Wk 0 s ⟨28,Aa [(1,(ls eI p1)),(3,(.ptr 0 0 0 0)),(5,(.ptr 1 0 0 0)),(21,(.bool t4))],[(Uh p0.decls p0.funcs),(Ga p2.op p2.num p2.kids)]⟩→K3 s:=by
  intro t4 hq s hw
  subst o5
  try dsimp only at h0
  refine hK3 _ (AN hw ?_)
  refine ci h0 U ?_ ?_ <;> clear h0
  ·intro b6 h0
   refine zr tb U U ?_
   replace h0:=Sh.AE h0
   subst r
   exact AU (xr (As [(6,(i64 (-1)))] U))
  ·intro b6 h0
   refine AR (hK2 _ (AH fun K8 hK8=>?_))
   refine Ho (by kernel_rfl) ?_
   refine bs h0 fun q9 gq9 h0=>bs h0 fun q10 gq10 h0=>bs h0 fun q11 gq11 h0=>MQ fun A12 hA12=>?_
   have A12_0123456:A12 0 #[true,true,true,true,true,true,true] ⟨28,Aa [(6,(i64 q11))],[]⟩:=(hA12 _ _ _).2 (by
    refine F5 U (by kernel_rfl) ?_
    refine hK8 _ ?_
    replace h0:=Sh.AE h0
    subst r
    exact AU (Exists.intro _ (And.intro (Ah (L:=[(6,(i64 q11))]) (.same U)) (And.intro U U))))
   have A12_012345:A12 1 #[true,true,true,true,true,true,false] ⟨28,Aa [(27,(i64 q11))],[]⟩:=(hA12 _ _ _).2 (by
    refine Cj 6 (v:=(i64 q11)) rfl U (by kernel_rfl) (by kernel_rfl) (by kernel_rfl) rfl (Hn U) ?_
    exact AF (by exact AG U) (AK (by kernel_rfl) ((hA12 _ _ _).1 A12_0123456)) rfl)
   have A12_01234:A12 2 #[true,true,true,true,true,false,false] ⟨28,Aa [(23,(.agg (AZ q9))),(25,(ow 0 0 q10)),(26,(.agg [(i64 p2.op),(i64 p2.num),(ls AD p2.kids)]))],[(ro 0 3 1 eI q10)]⟩:=(hA12 _ _ _).2 (by
    refine Ae [5] U (by kernel_rfl) (by decide) ⟨?_,trivial⟩
    ·refine Au.of (i:=5) rfl U (by rfl) ?_
     refine Bc (rows0:=[(ro 0 3 1 eI q10)]) (rows1:=[(ro 0 3 1 eI q10)]) (st':=[(ro 0 3 1 eI q10)]) (v':=(i64 q11)) [0] AM PG (JF gq11) rfl (by decide) rfl U (.pure (AB fun _=>U) .nil) rfl U (.pure (AB fun _=>U) .nil) .nil U U ?_
     refine AA ⟨U,?_⟩
     exact AF (by exact AS [] U (by decide) rfl U .nil (.same U)) (AK (by kernel_rfl) ((hA12 _ _ _).1 A12_012345)) rfl)
   have A12_0123:A12 3 #[true,true,true,true,false,false,false] ⟨28,Aa [(5,(.ptr 0 0 0 0)),(23,(.agg (AZ q9))),(25,(ow 1 0 q10))],[(Ga p2.op p2.num p2.kids),(ro 0 3 1 eI q10)]⟩:=(hA12 _ _ _).2 (by
    refine Ae [4] U (by kernel_rfl) (by decide) ⟨?_,trivial⟩
    ·refine Au.of (i:=4) rfl U (by rfl) ?_
     refine zq tb U (AA ⟨U,?_⟩)
     exact AF (by exact AS [1] U (by decide) rfl U (.pure (AB fun _=>U) .nil) (.same U)) (AK (by kernel_rfl) ((hA12 _ _ _).1 A12_01234)) rfl)
   have A12_0124:A12 3 #[true,true,true,false,true,false,false] ⟨28,Aa [(23,(.agg (AZ q9))),(24,(ls eI p1)),(26,(.agg [(i64 p2.op),(i64 p2.num),(ls AD p2.kids)]))],[]⟩:=(hA12 _ _ _).2 (by
    refine Ae [3] U (by kernel_rfl) (by decide) ⟨?_,trivial⟩
    ·refine Au.of (i:=3) rfl U (by rfl) ?_
     refine Bz (v':=(ow 0 0 q10)) AM X4 (HW gq10) rfl U ⟨(Bi fun _=>U),trivial⟩ U U (AA ⟨U,?_⟩)
     exact AF (by exact AG U) (AK (by kernel_rfl) ((hA12 _ _ _).1 A12_01234)) rfl)
   have A12_012:A12 4 #[true,true,true,false,false,false,false] ⟨28,Aa [(5,(.ptr 0 0 0 0)),(23,(.agg (AZ q9))),(24,(ls eI p1))],[(Ga p2.op p2.num p2.kids)]⟩:=(hA12 _ _ _).2 (by
    refine Ae [3,4] U (by kernel_rfl) (by decide) ⟨?_,?_,trivial⟩
    ·refine Au.of (i:=3) rfl U (by rfl) ?_
     refine Bz (v':=(ow 1 0 q10)) AM X4 (HW gq10) rfl U ⟨(Bi fun _=>U),trivial⟩ U U (AA ⟨U,?_⟩)
     exact AF (by exact AG U) (AK (by kernel_rfl) ((hA12 _ _ _).1 A12_0123)) rfl
    ·refine Au.of (i:=4) rfl U (by rfl) ?_
     refine zq tb U (AA ⟨U,?_⟩)
     exact AF (by exact AS [] U (by decide) rfl U .nil (.same U)) (AK (by kernel_rfl) ((hA12 _ _ _).1 A12_0124)) rfl)
   have A12_024:A12 4 #[true,false,true,false,true,false,false] ⟨28,Aa [(22,(.agg [(ls AI p0.decls),(ls AJ p0.funcs)])),(24,(ls eI p1)),(26,(.agg [(i64 p2.op),(i64 p2.num),(ls AD p2.kids)]))],[]⟩:=(hA12 _ _ _).2 (by
    refine Ae [1] U (by kernel_rfl) (by decide) ⟨?_,trivial⟩
    ·refine Au.of (i:=1) rfl U (by rfl) ?_
     refine zc (v':=(.agg (AZ q9))) X7 (LA gq9) rfl U U (AA ⟨U,?_⟩)
     exact AF (by exact AG U) (AK (by kernel_rfl) ((hA12 _ _ _).1 A12_0124)) rfl)
   have A12_02:A12 5 #[true,false,true,false,false,false,false] ⟨28,Aa [(5,(.ptr 0 0 0 0)),(22,(.agg [(ls AI p0.decls),(ls AJ p0.funcs)])),(24,(ls eI p1))],[(Ga p2.op p2.num p2.kids)]⟩:=(hA12 _ _ _).2 (by
    refine Ae [1,4] U (by kernel_rfl) (by decide) ⟨?_,?_,trivial⟩
    ·refine Au.of (i:=1) rfl U (by rfl) ?_
     refine zc (v':=(.agg (AZ q9))) X7 (LA gq9) rfl U U (AA ⟨U,?_⟩)
     exact AF (by exact AG U) (AK (by kernel_rfl) ((hA12 _ _ _).1 A12_012)) rfl
    ·refine Au.of (i:=4) rfl U (by rfl) ?_
     refine zq tb U (AA ⟨U,?_⟩)
     exact AF (by exact AS [] U (by decide) rfl U .nil (.same U)) (AK (by kernel_rfl) ((hA12 _ _ _).1 A12_024)) rfl)
   have A12_24:A12 5 #[false,false,true,false,true,false,false] ⟨28,Aa [(3,(.ptr 0 0 0 0)),(24,(ls eI p1)),(26,(.agg [(i64 p2.op),(i64 p2.num),(ls AD p2.kids)]))],[(Uh p0.decls p0.funcs)]⟩:=(hA12 _ _ _).2 (by
    refine Ae [0] U (by kernel_rfl) (by decide) ⟨?_,trivial⟩
    ·refine Au.of (i:=0) rfl U (by rfl) ?_
     refine zq tb U (AA ⟨U,?_⟩)
     exact AF (by exact AS [] U (by decide) rfl U .nil (.same U)) (AK (by kernel_rfl) ((hA12 _ _ _).1 A12_024)) rfl)
   have A12_2:A12 6 #[false,false,true,false,false,false,false] ⟨28,Aa [(3,(.ptr 0 0 0 0)),(5,(.ptr 1 0 0 0)),(24,(ls eI p1))],[(Uh p0.decls p0.funcs),(Ga p2.op p2.num p2.kids)]⟩:=(hA12 _ _ _).2 (by
    refine Ae [0,4] U (by kernel_rfl) (by decide) ⟨?_,?_,trivial⟩
    ·refine Au.of (i:=0) rfl U (by rfl) ?_
     refine zq tb U (AA ⟨U,?_⟩)
     exact AF (by exact AS [1] U (by decide) rfl U (.raw U U .nil) (.same U)) (AK (by kernel_rfl) ((hA12 _ _ _).1 A12_02)) rfl
    ·refine Au.of (i:=4) rfl U (by rfl) ?_
     refine zq tb U (AA ⟨U,?_⟩)
     exact AF (by exact AS [0] U (by decide) rfl U (.raw U U .nil) (.same U)) (AK (by kernel_rfl) ((hA12 _ _ _).1 A12_24)) rfl)
   have A12_e:A12 7 #[false,false,false,false,false,false,false] ⟨28,Aa [(1,(ls eI p1)),(3,(.ptr 0 0 0 0)),(5,(.ptr 1 0 0 0))],[(Uh p0.decls p0.funcs),(Ga p2.op p2.num p2.kids)]⟩:=(hA12 _ _ _).2 (by
    refine Cj 2 (v:=(ls eI p1)) rfl U (by kernel_rfl) (by kernel_rfl) (by kernel_rfl) rfl (GR U) ?_
    exact AF (by exact AG U) (AK (by kernel_rfl) ((hA12 _ _ _).1 A12_2)) rfl)
   refine (hA12 _ _ _).2 ?_
   exact AF (by exact AG U) (AK (by kernel_rfl) ((hA12 _ _ _).1 A12_e)) rfl
 refine AL U (zq tb U (bs h1 fun q13 gq13 h1=>zc YB (JX gq13) rfl U U (zm tb 2 U ?_)))
 rcases Sh.Am h1 with ⟨b14,h1⟩ | ⟨b14,h1⟩
 ·refine zs b14 U (zs b14 U (zs b14 U (zt b14 U (zq tb U ?_))))
  iterate 5 refine zs rfl rfl ?_
  exact zt U U (AA (M5 true (Sh.AE h1).symm _ (AG U)))
 ·refine zg tb b14 U (bs h1 fun q15 gq15 h1=>zd b14 ZT (Ok gq15) rfl U U U (zg tb b14 U (zf b14 U (zq tb U ?_))))
  rcases Sh.Am h1 with ⟨b16,h1⟩ | ⟨b16,h1⟩
  ·refine zs b16 U ?_
   iterate 4 refine zs b16 rfl ?_
   exact zt b16 U (AA (M5 true (Sh.AE h1).symm _ (AG U)))
  ·exact zg tb b16 U (zg tb b16 U (zg tb b16 U (bs h1 fun q17 gq17 h1=>zd b16 Wa (Hr gq17) rfl U U U (zg tb b16 U (zf b16 U (AA (M5 (!q17) (Sh.AE h1).symm _ (AG U))))))))
theorem FN {N:Nat} {p0:Af} {r:Bool} (h0:B7 N p0=some r):Ai Try.prog 18 [(.agg [(ls AI p0.decls),(ls AJ p0.funcs)])] [] (fun v st=>v=(.bool r)∧st=[]):=by
 unfold B7 at h0
 refine ai Try.func18 U U U U (sr U fun K1 hK1=>Bl (m:=0) AM U U U U U (zq tb U (dn hK1 U (AH fun K2 hK2=>sr U fun K3 hK3=>zq tb U (bs h0 fun q4 gq4 h0=>zc YB (JX gq4) rfl U U (zq tb U (dn hK3 U ?_)))))))
 refine ci h0 U ?_ ?_ <;> clear h0
 ·intro b5 h0
  have b6:q4=false:=by simpa using b5
  refine zr tb U U ?_
  replace h0:=Sh.AE h0
  subst r
  exact AU (xr (As [(2,(.bool false))] U))
 ·intro b5 h0
  have b8:q4=true:=by simpa using b5
  refine AR (hK2 _ (AH fun K9 hK9=>sr U fun K10 hK10=>zm tb 2 U (zl tb U U (zq tb U (dn hK10 U ?_)))))
  obtain⟨o12,h1,h0⟩:=Sh.BZ h0
  have M12 :∀(_:Unit),o12=Sum.inr ()→∀s,Wk 0 s ⟨25,Aa [],[]⟩→K9 s:=by
   intro _ hq s hw
   subst o12
   try dsimp only at h0
   refine hK9 _ (AN hw (zr tb U U ?_))
   replace h0:=Sh.AE h0
   subst r
   exact AU (xr (Ah (L:=[(2,(.bool true))]) (.same U)))
  refine Ab (Ay (σ:=Int) (fun n v=>Ci N p0 n v=some o12) (fun t11=>⟨25,Aa [(1,(.ptr 0 0 0 0)),(9,(ls AJ p0.funcs)),(10,(i64 (Sh.len p0.funcs))),(11,(i64 t11))],[(Uh p0.decls p0.funcs)]⟩) N 0 h1 (AG U) (fun _ hv=>by rw[Ci] at hv;cases hv) ?_)
  rintro n t11 h1
  try dsimp only at h1 ⊢
  rw[Ci] at h1
  refine zr tb U U (AH fun K15 hK15=>?_)
  refine ci h1 U ?_ ?_ <;> clear h1
  ·intro b16 h1
   refine AR (hK15 _ (AH fun K17 hK17=>Ab (sr U fun K18 hK18=>bs h1 fun c19 gc19 h1=>zx DD gc19 U U U (zq tb U (A1 (m:=1) AM LD U U (Az AM Iy U U U U U U (show 0+5≤5 by decide) rfl (dn hK18 U (AH fun K20 hK20=>?_))))))))
   refine CC (by kernel_rfl) (by kernel_rfl) (by rfl) ?_
   iterate 5 refine yq tb rfl ?_
   refine bs h1 fun q21 gq21 h1=>BS (v:=(i64 q21)) AM ZF (Pr gq21) rfl U U ?_
   iterate 3 refine yq tb rfl ?_
   refine Ax (hK20 _ ?_)
   refine ci h1 U ?_ ?_ <;> clear h1
   ·intro b22 h1
    have b23:decide (q21=c19.result)=false:=by simpa using b22
    refine zr tb U U ?_
    replace h1:=Sh.AE h1
    subst o12
    try dsimp only[id] at h0
    replace h0:=Sh.AE h0
    subst r
    exact AU (xr (As [(2,(.bool false))] U))
   ·intro b22 h1
    have b25:decide (q21=c19.result)=true:=by simpa using b22
    refine AR (hK17 _ (AL U (zm tb 2 U ?_)))
    exact AA (xi (Sh.w (t11+1)) h1 (AS [0] U (by decide) rfl U (.raw U U .nil) (.same U)))
  ·intro b16 h1
   exact A5 (M12 () (Sh.AE h1).symm _ (As _ U))
theorem Lc {s1:(List Bool)} {p0:AP} {r:(List Bool)} (h0:Gg s1 p0=some r):Ai Try.prog 53 [(.agg [(i64 p0.op),(i64 p0.num),(ls AD p0.kids)]),(.ptr 0 0 0 0)] [⟨0,60,1,[[(ow 1 0 s1)]]⟩,(ro 0 4 1 eB s1)] (fun v st=>v=(.CO [])∧st=[⟨0,60,1,[[(ow 1 0 r)]]⟩,(ro 0 4 1 eB r)]):=by
 unfold Gg at h0
 refine ai Try.func53 U U U U (sr U fun K1 hK1=>Bl (m:=2) AM U U U U U (dn hK1 U (AH fun K2 hK2=>bs h0 fun o4 h1 h0=>?_)))
 have M4 :∀(t3:Bool),o4=t3→∀s,Wk 2 s ⟨15,Aa [(1,(.ptr 0 0 0 0)),(2,(.ptr 2 0 0 0)),(10,(.bool t3))],[⟨0,60,1,[[(ow 1 0 s1)]]⟩,(ro 0 4 1 eB s1),(Ga p0.op p0.num p0.kids)]⟩→K2 s:=by
  intro t3 hq s hw
  subst o4
  try dsimp only at h0
  refine hK2 _ (AN hw ?_)
  refine ci h0 U ?_ ?_ <;> clear h0
  ·intro b5 h0
   refine AL U (zm tb 3 U (bs h0 fun c6 gc6 h0=>zz (.ptr 1 0 (Int.toNat p0.num) 0) (Bn QF U U U U gc6) rfl (Gf (u':=true) AM XB U U gc6 U U U (show 0+1≤1 by decide) rfl U ?_)))
   replace h0:=Sh.AE h0
   subst r
   exact AA (Exists.intro _ (And.intro (((Jb (st:=[⟨0,60,1,[[(.own 1 0 (List.length s1))]]⟩,⟨0,4,1,List.map eB (Sh.put s1 p0.num true)⟩,⟨0,50,3,[[(i64 p0.op),(i64 p0.num),(.sl (List.map AD p0.kids))]]⟩]) (st':=[⟨0,60,1,[[(.own 1 0 (List.length (Sh.put s1 p0.num true)))]]⟩,⟨0,4,1,List.map eB (Sh.put s1 p0.num true)⟩,⟨0,50,3,[[(i64 p0.op),(i64 p0.num),(.sl (List.map AD p0.kids))]]⟩]) (by simp only[Sh.FK])).trans (AS (L:=[]) (st':=[⟨0,60,1,[[(.own 1 0 (List.length (Sh.put s1 p0.num true)))]]⟩,⟨0,4,1,List.map eB (Sh.put s1 p0.num true)⟩]) [0,1] U (by decide) rfl U (.raw U U (.pure (AB fun _=>U) .nil)) trivial)).trans (Ah (L:=[]) trivial)) (And.intro U U)))
  ·intro b5 h0
   replace h0:=Sh.AE h0
   subst r
   exact AR (xi _ ((AS (L:=[]) (st':=[⟨0,60,1,[[(ow 1 0 s1)]]⟩,(ro 0 4 1 eB s1)]) [0,1] U (by decide) rfl U (.raw U U (.pure (AB fun _=>U) .nil)) trivial).trans (Ah (L:=[]) trivial)) (And.intro U U))
 refine AL U (zm tb 4 U ?_)
 rcases Sh.Am h1 with ⟨b7,h1⟩ | ⟨b7,h1⟩
 ·exact zs b7 U (zs b7 U (zs b7 U (zt b7 U (AA (M4 true (Sh.AE h1).symm _ (AG U))))))
 ·exact zg tb b7 U (zg tb b7 U (zg tb b7 U (zf b7 U (AA (M4 (decide (p0.op=10)) (Sh.AE h1).symm _ (AG U))))))
theorem Ny {N:Nat} {rec_impl_walk_3:(List Bool)→AP→Option ((List Bool))} (hrec_impl_walk_3 :∀{s1:(List Bool)} {p0:AP} {r:(List Bool)},rec_impl_walk_3 s1 p0=some r→Ai Try.prog 27 [(.agg [(i64 p0.op),(i64 p0.num),(ls AD p0.kids)]),(.fn 53 [(.ptr 0 0 0 0)])] [⟨0,60,1,[[(ow 1 0 s1)]]⟩,(ro 0 4 1 eB s1)] (fun v st=>v=(.CO [])∧st=[⟨0,60,1,[[(ow 1 0 r)]]⟩,(ro 0 4 1 eB r)])) {s1:(List Bool)} {p0:AP} {r:(List Bool)} (h0:H0 N rec_impl_walk_3 s1 p0=some r):Ai Try.prog 27 [(.agg [(i64 p0.op),(i64 p0.num),(ls AD p0.kids)]),(.fn 53 [(.ptr 0 0 0 0)])] [⟨0,60,1,[[(ow 1 0 s1)]]⟩,(ro 0 4 1 eB s1)] (fun v st=>v=(.CO [])∧st=[⟨0,60,1,[[(ow 1 0 r)]]⟩,(ro 0 4 1 eB r)]):=by
 unfold H0 at h0
 refine ai Try.func27 U U U U (sr U fun K1 hK1=>Bl (m:=2) AM U U U U U (dn hK1 U (sr U fun K2 hK2=>zm tb 2 U (bs h0 fun q3 gq3 h0=>?_))))
 refine UE (rowsP:=[⟨0,60,1,[[(ow 1 0 s1)]]⟩,(ro 0 4 1 eB s1)]) (rows0:=[⟨0,60,1,[[(ow 1 0 s1)]]⟩,(ro 0 4 1 eB s1)]) (rows1:=[⟨0,60,1,[[(ow 1 0 q3)]]⟩,(ro 0 4 1 eB q3)]) (rows2:=[]) (rows1':=[⟨0,60,1,[[(ow 1 0 q3)]]⟩,(ro 0 4 1 eB q3)]) (rows2':=[]) (st':=[⟨0,60,1,[[(ow 1 0 q3)]]⟩,(ro 0 4 1 eB q3),(Ga p0.op p0.num p0.kids)]) (v':=(.CO [])) [0,1] AM U ZK (Lc gq3) rfl (by decide) rfl U (.raw U U (.pure (AB fun _=>U) .nil)) rfl U (.raw U U (.pure (AB fun _=>U) .nil)) .nil U U ?_
 refine dn hK2 U (sr U fun K4 hK4=>zm tb 2 U (zl tb U U (zq tb U (dn hK4 U (OV fun K5 hK5=>bs h0 fun o9 h1 h0=>?_)))))
 have M9 :∀(l8:(List Bool)),o9=l8→∀s,Wk 2 s ⟨20,Aa [],[⟨0,60,1,[[(ow 1 0 l8)]]⟩,(ro 0 4 1 eB l8)]⟩→K5 s:=by
  intro l8 hq s hw
  subst o9
  try dsimp only at h0
  refine hK5 _ ?_
  replace h0:=Sh.AE h0
  subst r
  exact Exists.intro _ (And.intro (hw.trans (Ah (L:=[]) trivial)) (And.intro U U))
 refine Ab (Ay (σ:=Int×(List Bool)) (fun n v=>DU p0 rec_impl_walk_3 n v.1 v.2=some o9) (fun (t6,l7)=>⟨20,Aa [(1,(.fn 53 [(.ptr 0 0 0 0)])),(10,(ls AD p0.kids)),(11,(i64 (Sh.len p0.kids))),(12,(i64 t6))],[⟨0,60,1,[[(ow 1 0 l7)]]⟩,(ro 0 4 1 eB l7)]⟩) N (0,q3) h1 (AS [0,1] U (by decide) rfl U (.raw U U (.pure (AB fun _=>U) .nil)) (.same U)) (fun _ hv=>by rw[DU] at hv;cases hv) ?_)
 rintro n ⟨t6,l7⟩ h1
 try dsimp only at h1 ⊢
 rw[DU] at h1
 refine zr tb U U (AH fun K11 hK11=>?_)
 refine ci h1 U ?_ ?_ <;> clear h1
 ·intro b12 h1
  refine AR (hK11 _ (AH fun K13 hK13=>Ab (sr U fun K14 hK14=>bs h1 fun c15 gc15 h1=>zz (.Al [(i64 c15.op),(i64 c15.num),(ls AD c15.kids)] 0) (CK BV U U gc15 (Ap _) rfl) rfl (zq tb U (A1 (m:=2) AM EI U U (Az AM BN U U U U U U (show 0+3≤3 by decide) rfl (dn hK14 U (AL U (zm tb 2 U ?_)))))))))
  refine bs h1 fun q16 gq16 h1=>?_
  refine NC (rowsP:=[⟨0,60,1,[[(.own 1 0 (List.length l7))]]⟩,⟨0,4,1,List.map eB l7⟩]) (rows0:=[⟨0,60,1,[[(.own 1 0 (List.length l7))]]⟩,⟨0,4,1,List.map eB l7⟩]) (rows1:=[⟨0,60,1,[[(.own 1 0 (List.length q16))]]⟩,⟨0,4,1,List.map eB q16⟩]) (rows2:=[]) (rows1':=[⟨0,60,1,[[(.own 1 0 (List.length q16))]]⟩,⟨0,4,1,List.map eB q16⟩]) (rows2':=[]) (st':=[⟨0,60,1,[[(.own 1 0 (List.length q16))]]⟩,⟨0,4,1,List.map eB q16⟩,⟨0,50,3,[[(i64 c15.op),(i64 c15.num),(.sl (List.map AD c15.kids))]]⟩]) (v':=(.CO [])) [0,1] AM YD (hrec_impl_walk_3 gq16) rfl (by decide) rfl U (.raw U U (.pure (AB fun _=>U) .nil)) rfl U (.raw U U (.pure (AB fun _=>U) .nil)) .nil U U (fun hln=>?_)
  have ln17:List.length q16=List.length l7:=by simpa only[List.length_map] using hln 1 _ _ rfl rfl rfl
  refine dn hK13 U (AL U (zm tb 2 U ?_))
  exact AA (xi (Sh.w (t6+1),q16) h1 (AS [0,1] U (by decide) rfl U (.raw U U (.pure (AB fun _=>U) .nil)) (.same U)))
 ·intro b12 h1
  exact A5 (M9 l7 (Sh.AE h1).symm _ (AG U))

theorem Nf {N:Nat} :∀(n:Nat),∀{s1:(List Bool)} {p0:AP} {r:(List Bool)},Eu N n s1 p0=some r→Ai Try.prog 27 [(.agg [(i64 p0.op),(i64 p0.num),(ls AD p0.kids)]),(.fn 53 [(.ptr 0 0 0 0)])] [⟨0,60,1,[[(ow 1 0 s1)]]⟩,(ro 0 4 1 eB s1)] (fun v st=>v=(.CO [])∧st=[⟨0,60,1,[[(ow 1 0 r)]]⟩,(ro 0 4 1 eB r)]):=by
 intro n
 induction n with
 | zero=>intro s1 p0 r h0;cases h0
 | succ n ih=>
  intro s1 p0 r h0
  rw[Eu] at h0
  exact Ny (fun h=>ih h) h0
theorem Pn {N:Nat} :∀{s1:(List Bool)} {p0:AP} {r:(List Bool)},Kh N s1 p0=some r→Ai Try.prog 27 [(.agg [(i64 p0.op),(i64 p0.num),(ls AD p0.kids)]),(.fn 53 [(.ptr 0 0 0 0)])] [⟨0,60,1,[[(ow 1 0 s1)]]⟩,(ro 0 4 1 eB s1)] (fun v st=>v=(.CO [])∧st=[⟨0,60,1,[[(ow 1 0 r)]]⟩,(ro 0 4 1 eB r)]):=by
 intro s1 p0 r h0
 exact Nf N h0
theorem Ja {N:Nat} {p0:Af} {p1:Int} {r:(List Bool)} (h0:FT N p0 p1=some r):Ai Try.prog 34 [(.agg [(ls AI p0.decls),(ls AJ p0.funcs)]),(i64 p1)] [] (fun v st=>v=(ow 0 0 r)∧st=[(ro 0 4 1 eB r)]):=by
 unfold FT at h0
 refine ai Try.func34 U U U U (sr U fun K1 hK1=>Bl (m:=0) AM U U U U U (zq tb U (dn hK1 U (sr U fun K2 hK2=>zm tb 2 U (zl tb U U (bs h0 fun l3 gl3 h0=>OI (m:=1) (enc:=eB) (u:=false) AM QF U U U gl3 U U (A1 (m:=2) AM Zg U U (Az AM Y7 U U U U U U (show 0+1≤1 by decide) rfl ?_))))))))
 refine dn hK2 U (sr U fun K4 hK4=>zm tb 3 U (bs h0 fun c5 gc5 h0=>zx DD gc5 U U U (zm tb 2 U (zz (.fn 53 [(.ptr 2 0 0 0)]) (YM U) rfl (bs h0 fun q6 gq6 h0=>?_)))))
 refine NC (rowsP:=[⟨0,60,1,[[(.own 1 0 (List.length l3))]]⟩,⟨0,4,1,List.map eB l3⟩]) (rows0:=[⟨0,60,1,[[(.own 1 0 (List.length l3))]]⟩,⟨0,4,1,List.map eB l3⟩]) (rows1:=[⟨0,60,1,[[(.own 1 0 (List.length q6))]]⟩,⟨0,4,1,List.map eB q6⟩]) (rows2:=[]) (rows1':=[⟨0,60,1,[[(.own 1 0 (List.length q6))]]⟩,⟨0,4,1,List.map eB q6⟩]) (rows2':=[]) (st':=[⟨0,31,2,[[(.sl (List.map AI p0.decls)),(.sl (List.map AJ p0.funcs))]]⟩,⟨0,4,1,List.map eB q6⟩,⟨0,60,1,[[(.own 1 0 (List.length q6))]]⟩]) (v':=(.CO [])) [2,1] AM YD (Pn gq6) rfl (by decide) rfl U (.raw U U (.pure (AB fun _=>U) .nil)) rfl U (.raw U U (.pure (AB fun _=>U) .nil)) .nil U U (fun hln=>?_)
 have ln7:List.length q6=List.length l3:=by simpa only[List.length_map] using hln 1 _ _ rfl rfl rfl
 refine dn hK4 U (zr tb U U ?_)
 replace h0:=Sh.AE h0
 subst r
 exact AU (xr (AS (L:=[(4,(ow 0 0 q6))]) (st':=[(ro 0 4 1 eB q6)]) [1] U (by decide) rfl U (.pure (AB fun _=>U) .nil) (.same U)))
theorem Hi {N:Nat} {p0:(List Bool)} {r:(List Int)} (h0:Ed N p0=some r):Ai Try.prog 33 [(ls eB p0)] [] (fun v st=>v=(ow 0 0 r)∧st=[(ro 0 3 1 eI r)]):=by
 unfold Ed at h0
 refine ai Try.func33 U U U U ?_
 iterate 2 refine zr tb rfl rfl ?_
 refine AH fun K3 hK3=>sr U fun K4 hK4=>zq tb U (zl tb U U (zq tb U (dn hK4 U (bs h0 fun o8 h1 h0=>?_))))
 have M8 :∀(l7:(List Int)),o8=l7→∀s,Wk 0 s ⟨20,Aa [(3,(ow 0 0 l7))],[(ro 0 3 1 eI l7)]⟩→K3 s:=by
  intro l7 hq s hw
  subst o8
  try dsimp only at h0
  refine hK3 _ (AN hw (zr tb U U ?_))
  replace h0:=Sh.AE h0
  subst r
  exact AU (xr (Ah (L:=[(2,(ow 0 0 l7))]) (.same U)))
 refine Ab (Ay (σ:=Int×(List Int)) (fun n v=>C3 p0 n v.1 v.2=some o8) (fun (t5,l6)=>⟨20,Aa [(3,(ow 0 0 l6)),(6,(ls eB p0)),(7,(i64 (Sh.len p0))),(8,(i64 t5))],[(ro 0 3 1 eI l6)]⟩) N (0,[]) h1 ((Gz (t:=3) rfl 3 (size:=1) (by decide)).trans (Ah (L:=[(3,(.own 0 0 (List.length ([]:List Int)))),(6,(ls eB p0)),(7,(i64 (Sh.len p0))),(8,(i64 0))]) (.same U))) (fun _ hv=>by rw[C3] at hv;cases hv) ?_)
 rintro n ⟨t5,l6⟩ h1
 try dsimp only at h1 ⊢
 rw[C3] at h1
 refine zr tb U U (AH fun K11 hK11=>?_)
 refine ci h1 U ?_ ?_ <;> clear h1
 ·intro b12 h1
  refine AR (hK11 _ (AH fun K13 hK13=>bs h1 fun o15 h2 h1=>?_))
  have M15 :∀(l14:(List Int)),o15=l14→∀s,Wk 0 s ⟨20,Aa [(3,(ow 0 0 l14)),(6,(ls eB p0)),(7,(i64 (Sh.len p0))),(8,(i64 t5))],[(ro 0 3 1 eI l14)]⟩→K13 s:=by
   intro l14 hq s hw
   subst o15
   try dsimp only at h1
   exact hK13 _ (AN hw (AL U (zm tb 2 U (AA (xi (Sh.w (t5+1),l14) h1 (AG U))))))
  refine Ab (sr U fun K16 hK16=>zq tb U (bs h2 fun c17 gc17 h2=>zx QF gc17 U U U (zm tb 3 U (dn hK16 U (zr tb U U ?_)))))
  refine ci h2 U ?_ ?_ <;> clear h2
  ·intro b19 h2
   refine AL U (zm tb 2 U ?_)
   refine A3 (m:=1) (l:=[t5]) (enc:=eI) AM A4 (by decide) rfl U U U U U ?_
   refine bs h2 fun l20 gl20 h2=>CB (l2:=[t5]) AM A4 U U U U (EO U U) (fun _=>U) gl20 U (zq tb U ?_)
   exact AA (M15 l20 (Sh.AE h2).symm _ (by refine Wk.trans (EW (L:=[(3,(ow 0 0 l20)),(6,(ls eB p0)),(7,(i64 (Sh.len p0))),(8,(i64 t5))]) (st':=[(ro 0 3 1 eI l20),(ro 0 3 1 eI [t5])]) (.pure (AB fun _=>U) (.pure (AB fun _=>U) .nil)) (.same U)) ?_;exact AS [0] U (by decide) rfl U (.pure (AB fun _=>U) .nil) (.same U)))
  ·intro b19 h2
   exact AR (M15 l6 (Sh.AE h2).symm _ (AG U))
 ·intro b12 h1
  exact A5 (M8 l6 (Sh.AE h1).symm _ (AG U))
theorem JQ {N:Nat} {p0:Af} {p1:Int} {r:(List Int)} (h0:Dh N p0 p1=some r):Ai Try.prog 16 [(.agg [(ls AI p0.decls),(ls AJ p0.funcs)]),(i64 p1)] [] (fun v st=>v=(ow 0 0 r)∧st=[(ro 0 3 1 eI r)]):=by
 unfold Dh at h0
 refine ai Try.func16 U U U U (sr U fun K1 hK1=>Bl (m:=0) AM U U U U U (zq tb U (dn hK1 U (AH fun K2 hK2=>AH fun K3 hK3=>bs h0 fun o5 h1 h0=>?_))))
 have M5 :∀(t4:Bool),o5=t4→∀s,Wk 0 s ⟨23,Aa [(1,(i64 p1)),(2,(.ptr 0 0 0 0)),(18,(.bool t4))],[(Uh p0.decls p0.funcs)]⟩→K3 s:=by
  intro t4 hq s hw
  subst o5
  try dsimp only at h0
  refine hK3 _ (AN hw ?_)
  refine ci h0 U ?_ ?_ <;> clear h0
  ·intro b6 h0
   refine zr tb U U ?_
   replace h0:=Sh.AE h0
   subst r
   exact AU (Exists.intro _ (And.intro ((((Gz (t:=4) rfl 3 (size:=1) (by decide)).trans (Ah (L:=[(4,(.own 1 0 (List.length ([]:List Int))))]) (.same U))).trans (AS (L:=[(4,(.own 0 0 (List.length ([]:List Int))))]) (st':=[(ro 0 3 1 eI ([]:List Int))]) [1] U (by decide) rfl U (.pure (AB fun _=>U) .nil) (.same U))).trans (Ah (L:=[(4,(.own 0 0 (List.length ([]:List Int))))]) (.same U))) (And.intro U U)))
  ·intro b6 h0
   refine AR (hK2 _ (sr U fun K8 hK8=>zm tb 2 U (bs h0 fun q9 gq9 h0=>Bz (v':=(ow 1 0 q9)) AM Xs (Ja gq9) rfl U ⟨(Bi fun _=>U),trivial⟩ U U (Ad (Wk.A7 (L:=[(21,(ls eB q9))]) (st':=[(Uh p0.decls p0.funcs),⟨1,4,1,[]⟩]) (id:=1) rfl (show 0≤1 by decide) (AB fun _=>U) ⟨(.A7 U),trivial⟩ U) (bs h0 fun q10 gq10 h0=>Bz (v':=(ow 2 0 q10)) AM Vo (Hi gq10) rfl U ⟨(Bi fun _=>U),trivial⟩ U U (zq tb U (dn hK8 U ?_)))))))
   replace h0:=Sh.AE h0
   subst r
   exact AU (xr (AS (L:=[(4,(ow 0 0 q10))]) (st':=[(ro 0 3 1 eI q10)]) [2] U (by decide) rfl U (.pure (AB fun _=>U) .nil) (.same U)))
 refine AL U (zq tb U (bs h1 fun q11 gq11 h1=>zc Uw (FN gq11) rfl U U (zm tb 2 U ?_)))
 rcases Sh.Am h1 with ⟨b12,h1⟩ | ⟨b12,h1⟩
 ·refine zs b12 U (zs b12 U (zt b12 U (zq tb U ?_)))
  iterate 5 refine zs rfl rfl ?_
  exact zt U U (AA (M5 true (Sh.AE h1).symm _ (AG U)))
 ·refine zg tb b12 U (zg tb b12 U (zf b12 U (zq tb U ?_)))
  rcases Sh.Am h1 with ⟨b13,h1⟩ | ⟨b13,h1⟩
  ·refine zs b13 U ?_
   iterate 4 refine zs b13 rfl ?_
   exact zt b13 U (AA (M5 true (Sh.AE h1).symm _ (AG U)))
  ·exact zg tb b13 U (zg tb b13 U (zg tb b13 U (B3 (v:=(i64 (Sh.len p0.funcs))) (Bw U U b13) rfl (B6 NU U) (zg tb b13 U (zf b13 U (AA (M5 (decide ((Sh.len p0.funcs)≤p1)) (Sh.AE h1).symm _ (AG U))))))))
end Go.Proofs.Ytpahalfiiahddaa


