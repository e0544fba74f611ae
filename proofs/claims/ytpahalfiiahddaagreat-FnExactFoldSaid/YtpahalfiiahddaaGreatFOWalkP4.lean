import Derived.Test.YtpahalfiiahddaaGreatProg
import Derived.Test.YtpahalfiiahddaaGreatGAbsXToSSDefs
import Derived.Test.YtpahalfiiahddaaGreatGHADefsToFODefs
import Derived.Test.YtpahalfiiahddaaGreatCFWalk
import Derived.Test.YtpahalfiiahddaaGreatLAWalk
import Derived.Test.YtpahalfiiahddaaGreatFOWalkP3
namespace Go.Proofs.YtpahalfiiahddaaGreat
open Go Go.Abs RC
attribute [local irreducible] Go.Abs.C3
set_option maxRecDepth 100000
set_option maxHeartbeats 4000000

theorem bk:Gy Tryz.prog 30 0=some 0:=by kernel_rfl
theorem aV:Ao Tryz.prog 108=true:=by kernel_rfl
theorem dm:Ao Tryz.prog 132=true:=by kernel_rfl
theorem cL:Ao Tryz.prog 24=true:=by kernel_rfl
theorem ct:Ao Tryz.prog 25=true:=by kernel_rfl
theorem eN:Ao Tryz.prog 55=true:=by kernel_rfl

theorem Ji {N:Nat} {s0_0:(List Ab)} {s0_1:(List Am)} {p0:Aa} {r:Aa×Bool} (h0:G7 N s0_0 s0_1 p0=some r):Ag Tryz.prog 25 [(HM p0),(.fn 34 [Ar])] [(Bs s0_0 s0_1)] (fun v st=>v=(.DT [(.agg [(ow 1 0 r.1.decls),(ow 2 0 r.1.funcs)]),(.bool r.2)])∧st=[(Bs s0_0 s0_1),(EC r.1.decls),(CA r.1.funcs)]):=by
 unfold G7 at h0
 refine Ag.wk (r0:=(.DT [(.agg [(ow 1 0 r.1.decls),(ow 2 0 r.1.funcs)]),(.bool r.2)])) (st0:=[(Bs s0_0 s0_1),(EC r.1.decls),(CA r.1.funcs),⟨0,30,2,[[(ow 1 0 r.1.decls),(ow 2 0 r.1.funcs)]]⟩]) ?_ (Ev (L:=[(0,(.DT [(.agg [(ow 1 0 r.1.decls),(ow 2 0 r.1.funcs)]),(.bool r.2)]))]) (st':=[(Bs s0_0 s0_1),(EC r.1.decls),(CA r.1.funcs)]) [0,1,2] U (by decide) rfl U (.raw U (.deep (AL fun _=>U) (.deep (AL fun _=>U) trivial))) (.same U))
 refine ai Tryz.func25 U U U U (sr U fun K1 hK1=>BH (m:=1) Ah U U U U U (Ak (Wk.Er (L:=[(1,(.fn 34 [Ar])),(2,(DK p0))]) (st':=[(Bs s0_0 s0_1),⟨1,30,2,[]⟩]) (id:=1) rfl (show 1≤1 by decide) (Fi U) (.same U) rfl) (A0 (m:=2) Ah HY U U (zq tb U (dn hK1 U (sr U fun K2 hK2=>zq tb U (bs h0 fun q3 gq3 h0=>BY (v':=(.agg [(ow 3 0 q3.decls),(ow 4 0 q3.funcs)])) Ah eN (Me gq3) rfl U ⟨(AL fun _=>U),⟨(AL fun _=>U),trivial⟩⟩ U U (A0 (m:=5) Ah HY U U ?_))))))))
 refine A1 Ah FV U U U U U U (show 0+2≤2 by decide) rfl (dn hK2 U (AF fun K4 hK4=>sr U fun K5 hK5=>zm tb 2 U (zz (i64 (Sh.len q3.funcs)) (Cs ZM U U U) rfl (zq tb U (dn hK5 U ?_)))))
 obtain⟨o9,h1,h0⟩:=Sh.BF h0
 have M9 :∀(l8:(List Am)),o9=Sum.inr l8→∀s,Wk 1 s ⟨49,AP [(4,Ay),(6,LG)],[(Bs s0_0 s0_1),CY,(ro 0 81 3 (Aj 111 3) q3.decls),(CA l8),⟨0,30,2,[[(ow 2 0 q3.decls),(ow 3 0 l8)]]⟩]⟩→K4 s:=by
  intro l8 hq s hw
  subst o9
  try dsimp only at h0
  refine hK4 _ (AR hw (sr U fun K10 hK10=>zq tb U (A1 Ah FV U U U U U U (show 0+2≤2 by decide) rfl (zq tb U (dn hK10 U ?_)))))
  replace h0:=Sh.AB h0
  subst r
  exact AJ (Exists.intro _ (And.intro ((A4 (L:=[(4,Ec),(5,(.bool true))]) (st':=[(Bs s0_0 s0_1),(ro 0 81 3 (Aj 111 3) q3.decls),(CA l8),⟨0,30,2,[[(ow 1 0 q3.decls),(ow 2 0 l8)]]⟩]) (st1:=[(Bs s0_0 s0_1),(ro 0 81 3 (Aj 111 3) q3.decls),(CA l8),⟨0,30,2,[[(ow 2 0 q3.decls),(ow 3 0 l8)]]⟩]) [0,2,3,1] U (.raw U U .nil) (by decide) rfl U (.raw U U (.deep (AL fun _=>U) (.deep (AL fun _=>U) (.raw U U .nil)))) (.same U)).trans (AT (L:=[(4,Ec),(5,(.bool true))]) (.same U))) (BE (x:=.tmp 4) (off:=0) (cs:=[(ow 1 0 q3.decls),(ow 2 0 l8)]) (vs:=[(ow 1 0 q3.decls),(ow 2 0 l8)]) FV U U U (show 0+2≤2 by decide) rfl _ ⟨U,U⟩)))
 refine AU (As (σ:=Int×(List Am)) (fun n v=>CZ N s0_0 s0_1 p0 q3 n v.1 v.2=some o9) (fun (t6,l7)=>⟨49,AP [(1,(.fn 34 [Ar])),(2,(DK p0)),(4,Ay),(6,LG),(12,(i64 (Sh.len q3.funcs))),(13,(i64 t6))],[(Bs s0_0 s0_1),CY,(ro 0 81 3 (Aj 111 3) q3.decls),(CA l7),⟨0,30,2,[[(ow 2 0 q3.decls),(ow 3 0 l7)]]⟩]⟩) N (0,q3.funcs) h1 (A4 (L:=[(1,(.fn 34 [Ar])),(2,(DK p0)),(4,Ay),(6,LG),(12,(i64 (Sh.len q3.funcs))),(13,(i64 0))]) (st':=[(Bs s0_0 s0_1),CY,(ro 0 81 3 (Aj 111 3) q3.decls),(Ny q3),⟨0,30,2,[[(ow 2 0 q3.decls),(ow 3 0 q3.funcs)]]⟩]) (st1:=[(Bs s0_0 s0_1),CY,(ro 0 81 3 (Aj 111 3) q3.decls),(Ny q3),⟨0,30,2,[[(ow 3 0 q3.decls),(ow 4 0 q3.funcs)]]⟩]) [0,2,3,4,5] U (.raw U U .nil) (by decide) rfl U (.raw U U (.raw U U (.deep (AL fun _=>U) (.deep (AL fun _=>U) (.raw U U .nil))))) (.same U)) (fun _ hv=>by rw[CZ] at hv;cases hv) ?_)
 rintro n ⟨t6,l7⟩ h1
 try dsimp only at h1 ⊢
 rw[CZ] at h1
 refine zr tb U U (AF fun K12 hK12=>?_)
 refine ci h1 U ?_ ?_ <;> clear h1
 ·intro b13 h1
  refine AI (hK12 _ (AF fun K14 hK14=>AU (zr tb U U (AF fun K16 hK16=>?_))))
  refine Mq (by kernel_rfl) ?_
  refine bs h1 fun c17 gc17 h1=>bs h1 fun q18 gq18 h1=>?_
  refine R9 (f':=23) (listed':=(bm 23 0)) rfl (by kernel_rfl) ?_
  refine CI 0 (v:=(.ptr 4 0 0 1)) rfl U (by kernel_rfl) (by kernel_rfl) (by kernel_rfl) rfl (Di (IB PT U U (show 0+1≤2 by decide) rfl)) ?_
  refine CI 2 (v:=(i64 t6)) rfl U (by kernel_rfl) (by kernel_rfl) (by kernel_rfl) rfl (Di (CS U)) ?_
  refine CI 3 (v:=(DK p0)) rfl U (by kernel_rfl) (by kernel_rfl) (by kernel_rfl) rfl (Di (L7 bk U U)) ?_
  refine CI 4 (v:=(ls Ai p0.decls)) rfl U (by kernel_rfl) (by kernel_rfl) (by kernel_rfl) rfl (Oj cu U U) ?_
  refine CI 5 (v:=(.ptr 4 0 0 1)) rfl U (by kernel_rfl) (by kernel_rfl) (by kernel_rfl) rfl (Di (IB PT U U (show 0+1≤2 by decide) rfl)) ?_
  refine CI 7 (v:=(i64 t6)) rfl U (by kernel_rfl) (by kernel_rfl) (by kernel_rfl) rfl (Di (CS U)) ?_
  refine CI 11 (v:=(.ptr 4 0 0 1)) rfl U (by kernel_rfl) (by kernel_rfl) (by kernel_rfl) rfl (Di (IB PT U U (show 0+1≤2 by decide) rfl)) ?_
  refine CI 13 (v:=(i64 t6)) rfl U (by kernel_rfl) (by kernel_rfl) (by kernel_rfl) rfl (Di (CS U)) ?_
  refine CI 18 (v:=(.fn 34 [Ar])) rfl U (by kernel_rfl) (by kernel_rfl) (by kernel_rfl) rfl (Di (CS U)) ?_
  refine TA (Qy fun A19 hA19=>?_)
  have A19_0123456789abcdefghijklm:A19 0 (bm 23 8388607) ⟨49,AP [(1,(.fn 34 [Ar])),(2,(DK p0)),(4,Ay),(6,BK),(7,(i64 t6)),(12,(i64 (Sh.len q3.funcs))),(13,(i64 t6))],[(Bs s0_0 s0_1),CY,⟨0,30,2,[[(ow 3 0 q3.decls),(ow 4 0 (Sh.put l7 t6 (Am.mk c17.params c17.result q18)))]]⟩,(ro 0 81 3 (Aj 111 3) q3.decls),(ro 0 48 5 (BB 3 44) (Sh.put l7 t6 (Am.mk c17.params c17.result q18)))]⟩:=(hA19 _ _ _).2 (by
   refine OU U (by kernel_rfl) ?_
   refine hK16 _ (sr U fun K20 hK20=>zm tb 3 U (bs h1 fun c21 gc21 h1=>zz (Ed t6) (Bf CR U U U U gc21) rfl (zq tb U (Ak (Bg (id:=4) (j:=4) (i:=t6) (c:=c21) (ys:=c21.body.kids) (encY:=(Av 44)) rfl gc21 U U U U U) (zz (NM c21) (BE Bl U U (Bd gc21) (show 2+3≤5 by decide) rfl) rfl (bs h1 fun q22 gq22 h1=>J8 (v':=(i64 q22)) Ah cD (LX gq22) rfl (.agg (.val U (.val U (.ownD U U Ac (fun x=>J7 x) .nil))) .nil) rfl trivial U U ?_))))))
   refine Ak (Wk.take (id:=4) (m:=5) (j:=4) (i:=t6) (c:=c21) (ys:=c21.body.kids) (encY:=(Av 44)) rfl gc21 U U U (by decide) (show 1≤5 by decide) CM U U) ?_
   refine Ak (FU (id:=4) (i:=t6) (c:=c21) rfl gc21 U U) (zq tb U (dn hK20 U ?_))
   refine ci h1 U ?_ ?_ <;> clear h1
   ·intro b23 h1
    refine sr U fun K24 hK24=>zz (.agg [.zc,.zc]) (FG Sw TJ HY U U) rfl (A1 Ah FV U U U U U U (show 0+2≤2 by decide) rfl (zq tb U (dn hK24 U ?_)))
    replace h1:=Sh.AB h1
    subst o9
    try dsimp only[id] at h0
    replace h0:=Sh.AB h0
    subst r
    exact AJ (Exists.intro _ (And.intro ((((Fq (id:=1) (st':=[(Bs s0_0 s0_1),⟨0,30,2,[[(.own 6 0 (List.length ([]:List Ab))),.zc]]⟩,⟨0,30,2,[[(ow 3 0 q3.decls),(ow 4 0 (Sh.put l7 t6 (Am.mk c17.params c17.result q18)))]]⟩,(ro 0 81 3 (Aj 111 3) q3.decls),(ro 0 48 5 (BB 3 44) (Sh.put l7 t6 (Am.mk c17.params c17.result q18))),B3,Vg]) (j:=0) rfl U 81 (size':=3) (by decide) rfl U U U).trans (Fq (id:=1) (st':=[(Bs s0_0 s0_1),⟨0,30,2,[[(.own 6 0 (List.length ([]:List Ab))),(.own 7 0 (List.length ([]:List Am)))]]⟩,⟨0,30,2,[[(ow 3 0 q3.decls),(ow 4 0 (Sh.put l7 t6 (Am.mk c17.params c17.result q18)))]]⟩,(ro 0 81 3 (Aj 111 3) q3.decls),(ro 0 48 5 (BB 3 44) (Sh.put l7 t6 (Am.mk c17.params c17.result q18))),B3,Vg,Uo]) (j:=1) rfl U 48 (size':=5) (by decide) rfl U U U)).trans (A4 (L:=[(4,Ec),(5,(.bool false))]) (st':=[(Bs s0_0 s0_1),Vg,Uo,⟨0,30,2,[dR]⟩]) (st1:=[(Bs s0_0 s0_1),Vg,Uo,⟨0,30,2,[[(.own 6 0 (List.length ([]:List Ab))),(.own 7 0 (List.length ([]:List Am)))]]⟩]) [0,6,7,1] U (.raw U U .nil) (by decide) rfl U (.raw U U (.deep (AL fun _=>U) (.deep (AL fun _=>U) (.raw U U .nil)))) (.same U))).trans (AT (L:=[(4,Ec),(5,(.bool false))]) (.same U))) (BE (x:=.tmp 4) (off:=0) (cs:=dR) (vs:=dR) FV U U U (show 0+2≤2 by decide) rfl _ ⟨U,U⟩)))
   ·intro b23 h1
    refine AI (hK14 _ (AK U (zm tb 2 U ?_)))
    exact AA (xi (Sh.w (t6+1),Sh.put l7 t6 (Am.mk c17.params c17.result q18)) h1 (by exact A4 (L:=[(1,(.fn 34 [Ar])),(2,(DK p0)),(4,Ay),(6,LG),(12,(i64 (Sh.len q3.funcs))),(13,(KL t6))]) (st':=[(Bs s0_0 s0_1),CY,(ro 0 81 3 (Aj 111 3) q3.decls),(ro 0 48 5 (BB 3 44) (Sh.put l7 t6 (Am.mk c17.params c17.result q18))),⟨0,30,2,[[(ow 2 0 q3.decls),(ow 3 0 (Sh.put l7 t6 (Am.mk c17.params c17.result q18)))]]⟩]) (st1:=[(Bs s0_0 s0_1),CY,(ro 0 81 3 (Aj 111 3) q3.decls),(ro 0 48 5 (BB 3 44) (Sh.put l7 t6 (Am.mk c17.params c17.result q18))),⟨0,30,2,[[(ow 3 0 q3.decls),(ow 4 0 (Sh.put l7 t6 (Am.mk c17.params c17.result q18)))]]⟩]) [0,1,3,4,2] U (.raw U U .nil) (by decide) rfl U (.raw U U (.raw U U (.deep (AL fun _=>U) (.deep (AL fun _=>U) (.raw U U .nil))))) (.same U))))
  have A19_0123456789abcdefghijkl:A19 1 (bm 23 4194303) ⟨49,AP [(1,(.fn 34 [Ar])),(2,(DK p0)),(4,Ay),(6,BK),(7,(i64 t6)),(12,(i64 (Sh.len q3.funcs))),(13,(i64 t6)),(35,(Y9 q18)),(37,(Q2 t6))],[(Bs s0_0 s0_1),CY,⟨0,30,2,[[(ow 3 0 q3.decls),(ow 4 0 l7)]]⟩,(ro 0 81 3 (Aj 111 3) q3.decls),(Nx l7 t6 c17),(ro 0 3 1 eI c17.params),B3,(Bj q18)]⟩:=(hA19 _ _ _).2 (by
   refine At [22] U (by kernel_rfl) (by decide) ⟨?_,trivial⟩
   ·refine BJ.of (i:=22) rfl U (by rfl) ?_
    refine YS (x':=[(ow 5 0 c17.params),(i64 c17.result),(i64 q18.op),(i64 q18.num),(ow 7 0 q18.kids)]) (st':=[(Bs s0_0 s0_1),CY,⟨0,30,2,[[(ow 3 0 q3.decls),(ow 4 0 l7)]]⟩,(ro 0 81 3 (Aj 111 3) q3.decls),⟨0,48,5,hole l7 (BB 3 44) t6 [(ow 5 0 c17.params),(i64 c17.result),(i64 q18.op),(i64 q18.num),(ow 7 0 q18.kids)]⟩,(ro 0 3 1 eI c17.params),B3,(Bj q18)]) Ah Bl U U gc17 U U U (show 2+3≤5 by decide) rfl U ?_
    refine Ak (Wk.take (id:=4) (m:=5) (j:=0) (i:=t6) (c:=c17) (ys:=c17.params) (encY:=eI) rfl gc17 U U U (by decide) (show 1≤5 by decide) (fun _=>U) rfl U) ?_
    refine Ak (Wk.take (id:=4) (m:=7) (j:=4) (i:=t6) (c:=c17) (ys:=q18.kids) (encY:=(Av 44)) rfl gc17 U U U (by decide) (show 1≤7 by decide) CM U U) ?_
    refine Ak (EW (id:=4) (i:=t6) (u:=(Am.mk c17.params c17.result q18)) rfl U U) (AA ⟨U,?_⟩)
    exact AM (by refine Wk.trans (AT (L:=[(1,(.fn 34 [(.ptr 0 0 0 0)])),(2,(.Bu [(.sl (List.map Ai p0.decls)),(.sl (List.map A3 p0.funcs))] 0)),(4,(.ptr 1 0 0 0)),(6,(.ptr 2 0 0 0)),(7,(i64 t6)),(12,(i64 (Sh.len q3.funcs))),(13,(i64 t6))]) (.same U)) ?_;refine Wk.trans (DG (st:=[⟨0,30,2,[[(.sl (List.map Ai s0_0)),(.sl (List.map A3 s0_1))]]⟩,CY,⟨0,30,2,[[(.own 3 0 (List.length q3.decls)),(.own 4 0 (List.length l7))]]⟩,⟨0,81,3,List.map (Aj 111 3) q3.decls⟩,⟨0,48,5,List.map (BB 3 44) (Sh.put l7 t6 (Am.mk c17.params c17.result q18))⟩,⟨1,3,1,[]⟩,⟨1,44,3,[]⟩,⟨1,44,3,[]⟩]) (st':=[⟨0,30,2,[[(.sl (List.map Ai s0_0)),(.sl (List.map A3 s0_1))]]⟩,CY,⟨0,30,2,[[(.own 3 0 (List.length q3.decls)),(.own 4 0 (List.length (Sh.put l7 t6 (Am.mk c17.params c17.result q18))))]]⟩,⟨0,81,3,List.map (Aj 111 3) q3.decls⟩,⟨0,48,5,List.map (BB 3 44) (Sh.put l7 t6 (Am.mk c17.params c17.result q18))⟩,⟨1,3,1,[]⟩,⟨1,44,3,[]⟩,⟨1,44,3,[]⟩]) (by simp only[Sh.A7])) ?_;exact Af [0,1,2,3,4] U (by decide) rfl U (.raw U U (.raw U U (.raw U U (.deep (AL fun _=>U) (.deep (AL fun _=>U) .nil))))) (.same U)) (Ad (by kernel_rfl) ((hA19 _ _ _).1 A19_0123456789abcdefghijklm)) rfl)
  have A19_0123456789abcdefghijk:A19 2 (bm 23 2097151) ⟨49,AP [(1,(.fn 34 [Ar])),(2,(DK p0)),(4,Ay),(6,BK),(7,(i64 t6)),(12,(i64 (Sh.len q3.funcs))),(13,(i64 t6)),(35,(Y9 q18)),(36,(Ed t6))],[(Bs s0_0 s0_1),CY,⟨0,30,2,[[(ow 3 0 q3.decls),(ow 4 0 l7)]]⟩,(ro 0 81 3 (Aj 111 3) q3.decls),(Nx l7 t6 c17),(ro 0 3 1 eI c17.params),B3,(Bj q18)]⟩:=(hA19 _ _ _).2 (by
   refine At [21] U (by kernel_rfl) (by decide) ⟨?_,trivial⟩
   ·refine BJ.of (i:=21) rfl U (by rfl) ?_
    refine zq tb U (AA ⟨U,?_⟩)
    exact AM (by exact AD U) (Ad (by kernel_rfl) ((hA19 _ _ _).1 A19_0123456789abcdefghijkl)) rfl)
  have A19_0123456789abcdefghij:A19 3 (bm 23 1048575) ⟨49,AP [(1,(.fn 34 [Ar])),(2,(DK p0)),(4,Ay),(6,BK),(7,(i64 t6)),(12,(i64 (Sh.len q3.funcs))),(13,(i64 t6)),(17,(ow 4 0 l7)),(18,(i64 t6)),(35,(Y9 q18))],[(Bs s0_0 s0_1),CY,⟨0,30,2,[[(ow 3 0 q3.decls),(ow 4 0 l7)]]⟩,(ro 0 81 3 (Aj 111 3) q3.decls),(Nx l7 t6 c17),(ro 0 3 1 eI c17.params),B3,(Bj q18)]⟩:=(hA19 _ _ _).2 (by
   refine At [20] U (by kernel_rfl) (by decide) ⟨?_,trivial⟩
   ·refine BJ.of (i:=20) rfl U (by rfl) ?_
    refine zz (Ed t6) (Ik CR U U U U gc17) rfl (AA ⟨U,?_⟩)
    exact AM (by exact AD U) (Ad (by kernel_rfl) ((hA19 _ _ _).1 A19_0123456789abcdefghijk)) rfl)
  have A19_0123456789abcdefghi:A19 4 (bm 23 524287) ⟨49,AP [(1,(.fn 34 [Ar])),(2,(DK p0)),(4,Ay),(6,BK),(7,(i64 t6)),(12,(i64 (Sh.len q3.funcs))),(13,(i64 t6)),(17,(ow 4 0 l7)),(18,(i64 t6)),(20,(ls Ai p0.decls)),(26,(Tq c17)),(33,(i64 (Sh.len c17.params))),(34,(.fn 34 [Ar]))],[(Bs s0_0 s0_1),CY,⟨0,30,2,[[(ow 3 0 q3.decls),(ow 4 0 l7)]]⟩,(ro 0 81 3 (Aj 111 3) q3.decls),(Nx l7 t6 c17),(ro 0 3 1 eI c17.params),(IK c17)]⟩:=(hA19 _ _ _).2 (by
   refine At [19] U (by kernel_rfl) (by decide) ⟨?_,trivial⟩
   ·refine BJ.of (i:=19) rfl U (by rfl) ?_
    refine Gu (rowsP:=[(IK c17),(Bs s0_0 s0_1)]) (rows0:=[(IK c17),(Bs s0_0 s0_1)]) (rows1:=[B3,(Bs s0_0 s0_1)]) (rows2:=[(Bj q18)]) (rows1':=[B3,(Bs s0_0 s0_1)]) (rows2':=[(Bj q18)]) (st':=[(Bs s0_0 s0_1),CY,⟨0,30,2,[[(ow 3 0 q3.decls),(ow 4 0 l7)]]⟩,(ro 0 81 3 (Aj 111 3) q3.decls),(Nx l7 t6 c17),(ro 0 3 1 eI c17.params),B3,(Bj q18)]) (v':=(Y9 q18)) [6,0] Ah Vq (Iy gq18) rfl (by decide) rfl U (.deep (AL Ac) (.raw U U .nil)) rfl U (.pure (by intro x hx;cases hx) (.raw U U .nil)) (.deep (AL Ac) .nil) rfl U ?_
    refine AA ⟨U,?_⟩
    exact AM (by exact AD U) (Ad (by kernel_rfl) ((hA19 _ _ _).1 A19_0123456789abcdefghij)) rfl)
  have A19_0123456789abcdefgi:A19 5 (bm 23 393215) ⟨49,AP [(1,(.fn 34 [Ar])),(2,(DK p0)),(4,Ay),(6,BK),(7,(i64 t6)),(12,(i64 (Sh.len q3.funcs))),(13,(i64 t6)),(17,(ow 4 0 l7)),(18,(i64 t6)),(20,(ls Ai p0.decls)),(26,(Tq c17)),(32,(ow 5 0 c17.params)),(34,(.fn 34 [Ar]))],[(Bs s0_0 s0_1),CY,⟨0,30,2,[[(ow 3 0 q3.decls),(ow 4 0 l7)]]⟩,(ro 0 81 3 (Aj 111 3) q3.decls),(Nx l7 t6 c17),(ro 0 3 1 eI c17.params),(IK c17)]⟩:=(hA19 _ _ _).2 (by
   refine At [17] U (by kernel_rfl) (by decide) ⟨?_,trivial⟩
   ·refine BJ.of (i:=17) rfl U (by rfl) ?_
    refine zz (i64 (Sh.len c17.params)) (Cs Ff U U U) rfl (AA ⟨U,?_⟩)
    exact AM (by exact AD U) (Ad (by kernel_rfl) ((hA19 _ _ _).1 A19_0123456789abcdefghi)) rfl)
  have A19_0123456789abcdefi:A19 6 (bm 23 327679) ⟨49,AP [(1,(.fn 34 [Ar])),(2,(DK p0)),(4,Ay),(6,BK),(7,(i64 t6)),(12,(i64 (Sh.len q3.funcs))),(13,(i64 t6)),(17,(ow 4 0 l7)),(18,(i64 t6)),(20,(ls Ai p0.decls)),(26,(NM c17)),(31,(Ed t6)),(34,(.fn 34 [Ar]))],[(Bs s0_0 s0_1),CY,⟨0,30,2,[[(ow 3 0 q3.decls),(ow 4 0 l7)]]⟩,(ro 0 81 3 (Aj 111 3) q3.decls),(WT l7 t6 c17),(IK c17)]⟩:=(hA19 _ _ _).2 (by
   refine At [16] U (by kernel_rfl) (by decide) ⟨?_,trivial⟩
   ·refine BJ.of (i:=16) rfl U (by rfl) ?_
    refine Ak (HV (id:=4) (j:=0) (i:=t6) (ys:=c17.params) (encY:=eI) (x':=(Yv c17)) (st':=[(Bs s0_0 s0_1),CY,⟨0,30,2,[[(ow 3 0 q3.decls),(ow 4 0 l7)]]⟩,(ro 0 81 3 (Aj 111 3) q3.decls),⟨0,48,5,hole l7 (BB 3 44) t6 (Yv c17)⟩,(IK c17),(ro 0 3 1 eI c17.params)]) rfl gc17 U U U U) (zz (ow 6 0 c17.params) (CP HZ U U (Bd gc17) rfl) rfl (AA ⟨U,?_⟩))
    exact AM (by exact A4 (L:=[(1,(.fn 34 [Ar])),(2,(DK p0)),(4,Ay),(6,BK),(7,(i64 t6)),(12,(i64 (Sh.len q3.funcs))),(13,(i64 t6)),(17,(ow 4 0 l7)),(18,(i64 t6)),(20,(ls Ai p0.decls)),(26,(Tq c17)),(32,(ow 5 0 c17.params)),(34,(.fn 34 [Ar]))]) (st':=[(Bs s0_0 s0_1),CY,⟨0,30,2,[[(ow 3 0 q3.decls),(ow 4 0 l7)]]⟩,(ro 0 81 3 (Aj 111 3) q3.decls),(Nx l7 t6 c17),(ro 0 3 1 eI c17.params),(IK c17)]) (st1:=[(Bs s0_0 s0_1),CY,⟨0,30,2,[[(ow 3 0 q3.decls),(ow 4 0 l7)]]⟩,(ro 0 81 3 (Aj 111 3) q3.decls),⟨0,48,5,hole l7 (BB 3 44) t6 (Yv c17)⟩,(ro 0 3 1 eI c17.params),(IK c17)]) [0,1,2,3,4,6,5] U (.raw U U .nil) (by decide) rfl U (.raw U U (.raw U U (.raw U U (.deep (AL fun _=>U) (.hol (AL fun _=>U) (Et fun _=>U) rfl U (.pure (AN fun _=>U) (.deep (AL Ac) .nil))))))) (.same U)) (Ad (by kernel_rfl) ((hA19 _ _ _).1 A19_0123456789abcdefgi)) rfl)
  have A19_0123456789abcdei:A19 7 (bm 23 294911) ⟨49,AP [(1,(.fn 34 [Ar])),(2,(DK p0)),(4,Ay),(6,BK),(7,(i64 t6)),(12,(i64 (Sh.len q3.funcs))),(13,(i64 t6)),(17,(ow 4 0 l7)),(18,(i64 t6)),(20,(ls Ai p0.decls)),(26,(NM c17)),(30,(Ed t6)),(34,(.fn 34 [Ar]))],[(Bs s0_0 s0_1),CY,⟨0,30,2,[[(ow 3 0 q3.decls),(ow 4 0 l7)]]⟩,(ro 0 81 3 (Aj 111 3) q3.decls),(WT l7 t6 c17),(IK c17)]⟩:=(hA19 _ _ _).2 (by
   refine At [15] U (by kernel_rfl) (by decide) ⟨?_,trivial⟩
   ·refine BJ.of (i:=15) rfl U (by rfl) ?_
    refine zq tb U (AA ⟨U,?_⟩)
    exact AM (by exact AD U) (Ad (by kernel_rfl) ((hA19 _ _ _).1 A19_0123456789abcdefi)) rfl)
  have A19_0123456789abcdi:A19 8 (bm 23 278527) ⟨49,AP [(1,(.fn 34 [Ar])),(2,(DK p0)),(4,Ay),(6,BK),(7,(i64 t6)),(12,(i64 (Sh.len q3.funcs))),(13,(i64 t6)),(17,(ow 4 0 l7)),(18,(i64 t6)),(20,(ls Ai p0.decls)),(26,(NM c17)),(28,(ow 4 0 l7)),(29,(i64 t6)),(34,(.fn 34 [Ar]))],[(Bs s0_0 s0_1),CY,⟨0,30,2,[[(ow 3 0 q3.decls),(ow 4 0 l7)]]⟩,(ro 0 81 3 (Aj 111 3) q3.decls),(WT l7 t6 c17),(IK c17)]⟩:=(hA19 _ _ _).2 (by
   refine At [14] U (by kernel_rfl) (by decide) ⟨?_,trivial⟩
   ·refine BJ.of (i:=14) rfl U (by rfl) ?_
    refine zz (Ed t6) (Ik CR U U U U gc17) rfl (AA ⟨U,?_⟩)
    exact AM (by exact AD U) (Ad (by kernel_rfl) ((hA19 _ _ _).1 A19_0123456789abcdei)) rfl)
  have A19_0123456789abdi:A19 9 (bm 23 274431) ⟨49,AP [(1,(.fn 34 [Ar])),(2,(DK p0)),(4,Ay),(6,BK),(7,(i64 t6)),(12,(i64 (Sh.len q3.funcs))),(13,(i64 t6)),(17,(ow 4 0 l7)),(18,(i64 t6)),(20,(ls Ai p0.decls)),(26,(NM c17)),(27,Ee),(29,(i64 t6)),(34,(.fn 34 [Ar]))],[(Bs s0_0 s0_1),CY,⟨0,30,2,[[(ow 3 0 q3.decls),(ow 4 0 l7)]]⟩,(ro 0 81 3 (Aj 111 3) q3.decls),(WT l7 t6 c17),(IK c17)]⟩:=(hA19 _ _ _).2 (by
   refine At [12] U (by kernel_rfl) (by decide) ⟨?_,trivial⟩
   ·refine BJ.of (i:=12) rfl U (by rfl) ?_
    refine zq tb U (AA ⟨U,?_⟩)
    exact AM (by exact AD U) (Ad (by kernel_rfl) ((hA19 _ _ _).1 A19_0123456789abcdi)) rfl)
  have A19_0123456789bcdefghi:A19 5 (bm 23 523263) ⟨49,AP [(1,(.fn 34 [Ar])),(2,(DK p0)),(4,Ay),(6,BK),(7,(i64 t6)),(12,(i64 (Sh.len q3.funcs))),(13,(i64 t6)),(17,(ow 4 0 l7)),(18,(i64 t6)),(20,(ls Ai p0.decls)),(25,(Q2 t6)),(33,(i64 (Sh.len c17.params))),(34,(.fn 34 [Ar]))],[(Bs s0_0 s0_1),CY,⟨0,30,2,[[(ow 3 0 q3.decls),(ow 4 0 l7)]]⟩,(ro 0 81 3 (Aj 111 3) q3.decls),(N3 l7 t6 c17),(ro 0 3 1 eI c17.params)]⟩:=(hA19 _ _ _).2 (by
   refine At [10] U (by kernel_rfl) (by decide) ⟨?_,trivial⟩
   ·refine BJ.of (i:=10) rfl U (by rfl) ?_
    refine Ak (HV (id:=4) (j:=4) (i:=t6) (ys:=c17.body.kids) (encY:=(Av 44)) (x':=(bZ c17)) (st':=[(Bs s0_0 s0_1),CY,⟨0,30,2,[[(ow 3 0 q3.decls),(ow 4 0 l7)]]⟩,(ro 0 81 3 (Aj 111 3) q3.decls),(Nx l7 t6 c17),(ro 0 3 1 eI c17.params),(IK c17)]) rfl gc17 U U U U) (zz (Tq c17) (BE Bl U U (Bd gc17) (show 2+3≤5 by decide) rfl) rfl (AA ⟨U,?_⟩))
    exact AM (by exact AD U) (Ad (by kernel_rfl) ((hA19 _ _ _).1 A19_0123456789abcdefghi)) rfl)
  have A19_0123456789bcdefgi:A19 6 (bm 23 392191) ⟨49,AP [(1,(.fn 34 [Ar])),(2,(DK p0)),(4,Ay),(6,BK),(7,(i64 t6)),(12,(i64 (Sh.len q3.funcs))),(13,(i64 t6)),(17,(ow 4 0 l7)),(18,(i64 t6)),(20,(ls Ai p0.decls)),(25,(Q2 t6)),(32,(ow 5 0 c17.params)),(34,(.fn 34 [Ar]))],[(Bs s0_0 s0_1),CY,⟨0,30,2,[[(ow 3 0 q3.decls),(ow 4 0 l7)]]⟩,(ro 0 81 3 (Aj 111 3) q3.decls),(N3 l7 t6 c17),(ro 0 3 1 eI c17.params)]⟩:=(hA19 _ _ _).2 (by
   refine At [10,17] U (by kernel_rfl) (by decide) ⟨?_,?_,trivial⟩
   ·refine BJ.of (i:=10) rfl U (by rfl) ?_
    refine Ak (HV (id:=4) (j:=4) (i:=t6) (ys:=c17.body.kids) (encY:=(Av 44)) (x':=(bZ c17)) (st':=[(Bs s0_0 s0_1),CY,⟨0,30,2,[[(ow 3 0 q3.decls),(ow 4 0 l7)]]⟩,(ro 0 81 3 (Aj 111 3) q3.decls),(Nx l7 t6 c17),(ro 0 3 1 eI c17.params),(IK c17)]) rfl gc17 U U U U) (zz (Tq c17) (BE Bl U U (Bd gc17) (show 2+3≤5 by decide) rfl) rfl (AA ⟨U,?_⟩))
    exact AM (by exact AD U) (Ad (by kernel_rfl) ((hA19 _ _ _).1 A19_0123456789abcdefgi)) rfl
   ·refine BJ.of (i:=17) rfl U (by rfl) ?_
    refine zz (i64 (Sh.len c17.params)) (Cs Ff U U U) rfl (AA ⟨U,?_⟩)
    exact AM (by exact AD U) (Ad (by kernel_rfl) ((hA19 _ _ _).1 A19_0123456789bcdefghi)) rfl)
  have A19_0123456789bcdefi:A19 7 (bm 23 326655) ⟨49,AP [(1,(.fn 34 [Ar])),(2,(DK p0)),(4,Ay),(6,BK),(7,(i64 t6)),(12,(i64 (Sh.len q3.funcs))),(13,(i64 t6)),(17,(ow 4 0 l7)),(18,(i64 t6)),(20,(ls Ai p0.decls)),(25,(Q2 t6)),(31,(Ed t6)),(34,(.fn 34 [Ar]))],[(Bs s0_0 s0_1),CY,⟨0,30,2,[[(ow 3 0 q3.decls),(ow 4 0 l7)]]⟩,(ro 0 81 3 (Aj 111 3) q3.decls),(CA l7)]⟩:=(hA19 _ _ _).2 (by
   refine At [10,16] U (by kernel_rfl) (by decide) ⟨?_,?_,trivial⟩
   ·refine BJ.of (i:=10) rfl U (by rfl) ?_
    refine Ak (Bg (id:=4) (j:=4) (i:=t6) (c:=c17) (ys:=c17.body.kids) (encY:=(Av 44)) rfl gc17 U U U U U) (zz (NM c17) (BE Bl U U (Bd gc17) (show 2+3≤5 by decide) rfl) rfl (AA ⟨U,?_⟩))
    exact AM (by exact AD U) (Ad (by kernel_rfl) ((hA19 _ _ _).1 A19_0123456789abcdefi)) rfl
   ·refine BJ.of (i:=16) rfl U (by rfl) ?_
    refine Ak (Bg (id:=4) (j:=0) (i:=t6) (c:=c17) (ys:=c17.params) (encY:=eI) rfl gc17 U U U U U) (zz (ow 5 0 c17.params) (CP HZ U U (Bd gc17) rfl) rfl (AA ⟨U,?_⟩))
    exact AM (by exact AD U) (Ad (by kernel_rfl) ((hA19 _ _ _).1 A19_0123456789bcdefgi)) rfl)
  have A19_0123456789bcdei:A19 8 (bm 23 293887) ⟨49,AP [(1,(.fn 34 [Ar])),(2,(DK p0)),(4,Ay),(6,BK),(7,(i64 t6)),(12,(i64 (Sh.len q3.funcs))),(13,(i64 t6)),(17,(ow 4 0 l7)),(18,(i64 t6)),(20,(ls Ai p0.decls)),(25,(Q2 t6)),(30,(Ed t6)),(34,(.fn 34 [Ar]))],[(Bs s0_0 s0_1),CY,⟨0,30,2,[[(ow 3 0 q3.decls),(ow 4 0 l7)]]⟩,(ro 0 81 3 (Aj 111 3) q3.decls),(CA l7)]⟩:=(hA19 _ _ _).2 (by
   refine At [10,15] U (by kernel_rfl) (by decide) ⟨?_,?_,trivial⟩
   ·refine BJ.of (i:=10) rfl U (by rfl) ?_
    refine Ak (Bg (id:=4) (j:=4) (i:=t6) (c:=c17) (ys:=c17.body.kids) (encY:=(Av 44)) rfl gc17 U U U U U) (zz (NM c17) (BE Bl U U (Bd gc17) (show 2+3≤5 by decide) rfl) rfl (AA ⟨U,?_⟩))
    exact AM (by exact AD U) (Ad (by kernel_rfl) ((hA19 _ _ _).1 A19_0123456789abcdei)) rfl
   ·refine BJ.of (i:=15) rfl U (by rfl) ?_
    refine zq tb U (AA ⟨U,?_⟩)
    exact AM (by exact AD U) (Ad (by kernel_rfl) ((hA19 _ _ _).1 A19_0123456789bcdefi)) rfl)
  have A19_0123456789bcdi:A19 9 (bm 23 277503) ⟨49,AP [(1,(.fn 34 [Ar])),(2,(DK p0)),(4,Ay),(6,BK),(7,(i64 t6)),(12,(i64 (Sh.len q3.funcs))),(13,(i64 t6)),(17,(ow 4 0 l7)),(18,(i64 t6)),(20,(ls Ai p0.decls)),(25,(Q2 t6)),(28,(ow 4 0 l7)),(29,(i64 t6)),(34,(.fn 34 [Ar]))],[(Bs s0_0 s0_1),CY,⟨0,30,2,[[(ow 3 0 q3.decls),(ow 4 0 l7)]]⟩,(ro 0 81 3 (Aj 111 3) q3.decls),(CA l7)]⟩:=(hA19 _ _ _).2 (by
   refine At [10,14] U (by kernel_rfl) (by decide) ⟨?_,?_,trivial⟩
   ·refine BJ.of (i:=10) rfl U (by rfl) ?_
    refine Ak (Bg (id:=4) (j:=4) (i:=t6) (c:=c17) (ys:=c17.body.kids) (encY:=(Av 44)) rfl gc17 U U U U U) (zz (NM c17) (BE Bl U U (Bd gc17) (show 2+3≤5 by decide) rfl) rfl (AA ⟨U,?_⟩))
    exact AM (by exact AD U) (Ad (by kernel_rfl) ((hA19 _ _ _).1 A19_0123456789abcdi)) rfl
   ·refine BJ.of (i:=14) rfl U (by rfl) ?_
    refine zz (Ed t6) (Bf CR U U U U gc17) rfl (AA ⟨U,?_⟩)
    exact AM (by exact AD U) (Ad (by kernel_rfl) ((hA19 _ _ _).1 A19_0123456789bcdei)) rfl)
  have A19_0123456789bdi:A19 10 (bm 23 273407) ⟨49,AP [(1,(.fn 34 [Ar])),(2,(DK p0)),(4,Ay),(6,BK),(7,(i64 t6)),(12,(i64 (Sh.len q3.funcs))),(13,(i64 t6)),(17,(ow 4 0 l7)),(18,(i64 t6)),(20,(ls Ai p0.decls)),(25,(Q2 t6)),(27,Ee),(29,(i64 t6)),(34,(.fn 34 [Ar]))],[(Bs s0_0 s0_1),CY,⟨0,30,2,[[(ow 3 0 q3.decls),(ow 4 0 l7)]]⟩,(ro 0 81 3 (Aj 111 3) q3.decls),(CA l7)]⟩:=(hA19 _ _ _).2 (by
   refine At [10,12] U (by kernel_rfl) (by decide) ⟨?_,?_,trivial⟩
   ·refine BJ.of (i:=10) rfl U (by rfl) ?_
    refine Ak (Bg (id:=4) (j:=4) (i:=t6) (c:=c17) (ys:=c17.body.kids) (encY:=(Av 44)) rfl gc17 U U U U U) (zz (NM c17) (BE Bl U U (Bd gc17) (show 2+3≤5 by decide) rfl) rfl (AA ⟨U,?_⟩))
    exact AM (by exact AD U) (Ad (by kernel_rfl) ((hA19 _ _ _).1 A19_0123456789abdi)) rfl
   ·refine BJ.of (i:=12) rfl U (by rfl) ?_
    refine zq tb U (AA ⟨U,?_⟩)
    exact AM (by exact AD U) (Ad (by kernel_rfl) ((hA19 _ _ _).1 A19_0123456789bcdi)) rfl)
  have A19_012345678bcdefghi:A19 6 (bm 23 522751) ⟨49,AP [(1,(.fn 34 [Ar])),(2,(DK p0)),(4,Ay),(6,BK),(7,(i64 t6)),(12,(i64 (Sh.len q3.funcs))),(13,(i64 t6)),(17,(ow 4 0 l7)),(18,(i64 t6)),(20,(ls Ai p0.decls)),(24,(Ed t6)),(33,(i64 (Sh.len c17.params))),(34,(.fn 34 [Ar]))],[(Bs s0_0 s0_1),CY,⟨0,30,2,[[(ow 3 0 q3.decls),(ow 4 0 l7)]]⟩,(ro 0 81 3 (Aj 111 3) q3.decls),(N3 l7 t6 c17),(ro 0 3 1 eI c17.params)]⟩:=(hA19 _ _ _).2 (by
   refine At [9] U (by kernel_rfl) (by decide) ⟨?_,trivial⟩
   ·refine BJ.of (i:=9) rfl U (by rfl) ?_
    refine zq tb U (AA ⟨U,?_⟩)
    exact AM (by exact AD U) (Ad (by kernel_rfl) ((hA19 _ _ _).1 A19_0123456789bcdefghi)) rfl)
  have A19_012345678bcdefgi:A19 7 (bm 23 391679) ⟨49,AP [(1,(.fn 34 [Ar])),(2,(DK p0)),(4,Ay),(6,BK),(7,(i64 t6)),(12,(i64 (Sh.len q3.funcs))),(13,(i64 t6)),(17,(ow 4 0 l7)),(18,(i64 t6)),(20,(ls Ai p0.decls)),(24,(Ed t6)),(32,(ow 5 0 c17.params)),(34,(.fn 34 [Ar]))],[(Bs s0_0 s0_1),CY,⟨0,30,2,[[(ow 3 0 q3.decls),(ow 4 0 l7)]]⟩,(ro 0 81 3 (Aj 111 3) q3.decls),(N3 l7 t6 c17),(ro 0 3 1 eI c17.params)]⟩:=(hA19 _ _ _).2 (by
   refine At [9,17] U (by kernel_rfl) (by decide) ⟨?_,?_,trivial⟩
   ·refine BJ.of (i:=9) rfl U (by rfl) ?_
    refine zq tb U (AA ⟨U,?_⟩)
    exact AM (by exact AD U) (Ad (by kernel_rfl) ((hA19 _ _ _).1 A19_0123456789bcdefgi)) rfl
   ·refine BJ.of (i:=17) rfl U (by rfl) ?_
    refine zz (i64 (Sh.len c17.params)) (Cs Ff U U U) rfl (AA ⟨U,?_⟩)
    exact AM (by exact AD U) (Ad (by kernel_rfl) ((hA19 _ _ _).1 A19_012345678bcdefghi)) rfl)
  have A19_012345678bcdefi:A19 8 (bm 23 326143) ⟨49,AP [(1,(.fn 34 [Ar])),(2,(DK p0)),(4,Ay),(6,BK),(7,(i64 t6)),(12,(i64 (Sh.len q3.funcs))),(13,(i64 t6)),(17,(ow 4 0 l7)),(18,(i64 t6)),(20,(ls Ai p0.decls)),(24,(Ed t6)),(31,(Ed t6)),(34,(.fn 34 [Ar]))],[(Bs s0_0 s0_1),CY,⟨0,30,2,[[(ow 3 0 q3.decls),(ow 4 0 l7)]]⟩,(ro 0 81 3 (Aj 111 3) q3.decls),(CA l7)]⟩:=(hA19 _ _ _).2 (by
   refine At [9,16] U (by kernel_rfl) (by decide) ⟨?_,?_,trivial⟩
   ·refine BJ.of (i:=9) rfl U (by rfl) ?_
    refine zq tb U (AA ⟨U,?_⟩)
    exact AM (by exact AD U) (Ad (by kernel_rfl) ((hA19 _ _ _).1 A19_0123456789bcdefi)) rfl
   ·refine BJ.of (i:=16) rfl U (by rfl) ?_
    refine Ak (Bg (id:=4) (j:=0) (i:=t6) (c:=c17) (ys:=c17.params) (encY:=eI) rfl gc17 U U U U U) (zz (ow 5 0 c17.params) (CP HZ U U (Bd gc17) rfl) rfl (AA ⟨U,?_⟩))
    exact AM (by exact AD U) (Ad (by kernel_rfl) ((hA19 _ _ _).1 A19_012345678bcdefgi)) rfl)
  have A19_012345678bcdei:A19 9 (bm 23 293375) ⟨49,AP [(1,(.fn 34 [Ar])),(2,(DK p0)),(4,Ay),(6,BK),(7,(i64 t6)),(12,(i64 (Sh.len q3.funcs))),(13,(i64 t6)),(17,(ow 4 0 l7)),(18,(i64 t6)),(20,(ls Ai p0.decls)),(24,(Ed t6)),(30,(Ed t6)),(34,(.fn 34 [Ar]))],[(Bs s0_0 s0_1),CY,⟨0,30,2,[[(ow 3 0 q3.decls),(ow 4 0 l7)]]⟩,(ro 0 81 3 (Aj 111 3) q3.decls),(CA l7)]⟩:=(hA19 _ _ _).2 (by
   refine At [9,15] U (by kernel_rfl) (by decide) ⟨?_,?_,trivial⟩
   ·refine BJ.of (i:=9) rfl U (by rfl) ?_
    refine zq tb U (AA ⟨U,?_⟩)
    exact AM (by exact AD U) (Ad (by kernel_rfl) ((hA19 _ _ _).1 A19_0123456789bcdei)) rfl
   ·refine BJ.of (i:=15) rfl U (by rfl) ?_
    refine zq tb U (AA ⟨U,?_⟩)
    exact AM (by exact AD U) (Ad (by kernel_rfl) ((hA19 _ _ _).1 A19_012345678bcdefi)) rfl)
  have A19_012345678bcdi:A19 10 (bm 23 276991) ⟨49,AP [(1,(.fn 34 [Ar])),(2,(DK p0)),(4,Ay),(6,BK),(7,(i64 t6)),(12,(i64 (Sh.len q3.funcs))),(13,(i64 t6)),(17,(ow 4 0 l7)),(18,(i64 t6)),(20,(ls Ai p0.decls)),(24,(Ed t6)),(28,(ow 4 0 l7)),(29,(i64 t6)),(34,(.fn 34 [Ar]))],[(Bs s0_0 s0_1),CY,⟨0,30,2,[[(ow 3 0 q3.decls),(ow 4 0 l7)]]⟩,(ro 0 81 3 (Aj 111 3) q3.decls),(CA l7)]⟩:=(hA19 _ _ _).2 (by
   refine At [9,14] U (by kernel_rfl) (by decide) ⟨?_,?_,trivial⟩
   ·refine BJ.of (i:=9) rfl U (by rfl) ?_
    refine zq tb U (AA ⟨U,?_⟩)
    exact AM (by exact AD U) (Ad (by kernel_rfl) ((hA19 _ _ _).1 A19_0123456789bcdi)) rfl
   ·refine BJ.of (i:=14) rfl U (by rfl) ?_
    refine zz (Ed t6) (Bf CR U U U U gc17) rfl (AA ⟨U,?_⟩)
    exact AM (by exact AD U) (Ad (by kernel_rfl) ((hA19 _ _ _).1 A19_012345678bcdei)) rfl)
  have A19_012345678bdi:A19 11 (bm 23 272895) ⟨49,AP [(1,(.fn 34 [Ar])),(2,(DK p0)),(4,Ay),(6,BK),(7,(i64 t6)),(12,(i64 (Sh.len q3.funcs))),(13,(i64 t6)),(17,(ow 4 0 l7)),(18,(i64 t6)),(20,(ls Ai p0.decls)),(24,(Ed t6)),(27,Ee),(29,(i64 t6)),(34,(.fn 34 [Ar]))],[(Bs s0_0 s0_1),CY,⟨0,30,2,[[(ow 3 0 q3.decls),(ow 4 0 l7)]]⟩,(ro 0 81 3 (Aj 111 3) q3.decls),(CA l7)]⟩:=(hA19 _ _ _).2 (by
   refine At [9,12] U (by kernel_rfl) (by decide) ⟨?_,?_,trivial⟩
   ·refine BJ.of (i:=9) rfl U (by rfl) ?_
    refine zq tb U (AA ⟨U,?_⟩)
    exact AM (by exact AD U) (Ad (by kernel_rfl) ((hA19 _ _ _).1 A19_0123456789bdi)) rfl
   ·refine BJ.of (i:=12) rfl U (by rfl) ?_
    refine zq tb U (AA ⟨U,?_⟩)
    exact AM (by exact AD U) (Ad (by kernel_rfl) ((hA19 _ _ _).1 A19_012345678bcdi)) rfl)
  have A19_01234567bcdefghi:A19 7 (bm 23 522495) ⟨49,AP [(1,(.fn 34 [Ar])),(2,(DK p0)),(4,Ay),(6,BK),(7,(i64 t6)),(12,(i64 (Sh.len q3.funcs))),(13,(i64 t6)),(17,(ow 4 0 l7)),(18,(i64 t6)),(20,(ls Ai p0.decls)),(22,(ow 4 0 l7)),(23,(i64 t6)),(33,(i64 (Sh.len c17.params))),(34,(.fn 34 [Ar]))],[(Bs s0_0 s0_1),CY,⟨0,30,2,[[(ow 3 0 q3.decls),(ow 4 0 l7)]]⟩,(ro 0 81 3 (Aj 111 3) q3.decls),(N3 l7 t6 c17),(ro 0 3 1 eI c17.params)]⟩:=(hA19 _ _ _).2 (by
   refine At [8] U (by kernel_rfl) (by decide) ⟨?_,trivial⟩
   ·refine BJ.of (i:=8) rfl U (by rfl) ?_
    refine zz (Ed t6) (Ik CR U U U U gc17) rfl (AA ⟨U,?_⟩)
    exact AM (by exact AD U) (Ad (by kernel_rfl) ((hA19 _ _ _).1 A19_012345678bcdefghi)) rfl)
  have A19_01234567bcdefgi:A19 8 (bm 23 391423) ⟨49,AP [(1,(.fn 34 [Ar])),(2,(DK p0)),(4,Ay),(6,BK),(7,(i64 t6)),(12,(i64 (Sh.len q3.funcs))),(13,(i64 t6)),(17,(ow 4 0 l7)),(18,(i64 t6)),(20,(ls Ai p0.decls)),(22,(ow 4 0 l7)),(23,(i64 t6)),(32,(ow 5 0 c17.params)),(34,(.fn 34 [Ar]))],[(Bs s0_0 s0_1),CY,⟨0,30,2,[[(ow 3 0 q3.decls),(ow 4 0 l7)]]⟩,(ro 0 81 3 (Aj 111 3) q3.decls),(N3 l7 t6 c17),(ro 0 3 1 eI c17.params)]⟩:=(hA19 _ _ _).2 (by
   refine At [8,17] U (by kernel_rfl) (by decide) ⟨?_,?_,trivial⟩
   ·refine BJ.of (i:=8) rfl U (by rfl) ?_
    refine zz (Ed t6) (Ik CR U U U U gc17) rfl (AA ⟨U,?_⟩)
    exact AM (by exact AD U) (Ad (by kernel_rfl) ((hA19 _ _ _).1 A19_012345678bcdefgi)) rfl
   ·refine BJ.of (i:=17) rfl U (by rfl) ?_
    refine zz (i64 (Sh.len c17.params)) (Cs Ff U U U) rfl (AA ⟨U,?_⟩)
    exact AM (by exact AD U) (Ad (by kernel_rfl) ((hA19 _ _ _).1 A19_01234567bcdefghi)) rfl)
  have A19_01234567bcdefi:A19 9 (bm 23 325887) ⟨49,AP [(1,(.fn 34 [Ar])),(2,(DK p0)),(4,Ay),(6,BK),(7,(i64 t6)),(12,(i64 (Sh.len q3.funcs))),(13,(i64 t6)),(17,(ow 4 0 l7)),(18,(i64 t6)),(20,(ls Ai p0.decls)),(22,(ow 4 0 l7)),(23,(i64 t6)),(31,(Ed t6)),(34,(.fn 34 [Ar]))],[(Bs s0_0 s0_1),CY,⟨0,30,2,[[(ow 3 0 q3.decls),(ow 4 0 l7)]]⟩,(ro 0 81 3 (Aj 111 3) q3.decls),(CA l7)]⟩:=(hA19 _ _ _).2 (by
   refine At [8,16] U (by kernel_rfl) (by decide) ⟨?_,?_,trivial⟩
   ·refine BJ.of (i:=8) rfl U (by rfl) ?_
    refine zz (Ed t6) (Bf CR U U U U gc17) rfl (AA ⟨U,?_⟩)
    exact AM (by exact AD U) (Ad (by kernel_rfl) ((hA19 _ _ _).1 A19_012345678bcdefi)) rfl
   ·refine BJ.of (i:=16) rfl U (by rfl) ?_
    refine Ak (Bg (id:=4) (j:=0) (i:=t6) (c:=c17) (ys:=c17.params) (encY:=eI) rfl gc17 U U U U U) (zz (ow 5 0 c17.params) (CP HZ U U (Bd gc17) rfl) rfl (AA ⟨U,?_⟩))
    exact AM (by exact AD U) (Ad (by kernel_rfl) ((hA19 _ _ _).1 A19_01234567bcdefgi)) rfl)
  have A19_01234567bcdei:A19 10 (bm 23 293119) ⟨49,AP [(1,(.fn 34 [Ar])),(2,(DK p0)),(4,Ay),(6,BK),(7,(i64 t6)),(12,(i64 (Sh.len q3.funcs))),(13,(i64 t6)),(17,(ow 4 0 l7)),(18,(i64 t6)),(20,(ls Ai p0.decls)),(22,(ow 4 0 l7)),(23,(i64 t6)),(30,(Ed t6)),(34,(.fn 34 [Ar]))],[(Bs s0_0 s0_1),CY,⟨0,30,2,[[(ow 3 0 q3.decls),(ow 4 0 l7)]]⟩,(ro 0 81 3 (Aj 111 3) q3.decls),(CA l7)]⟩:=(hA19 _ _ _).2 (by
   refine At [8,15] U (by kernel_rfl) (by decide) ⟨?_,?_,trivial⟩
   ·refine BJ.of (i:=8) rfl U (by rfl) ?_
    refine zz (Ed t6) (Bf CR U U U U gc17) rfl (AA ⟨U,?_⟩)
    exact AM (by exact AD U) (Ad (by kernel_rfl) ((hA19 _ _ _).1 A19_012345678bcdei)) rfl
   ·refine BJ.of (i:=15) rfl U (by rfl) ?_
    refine zq tb U (AA ⟨U,?_⟩)
    exact AM (by exact AD U) (Ad (by kernel_rfl) ((hA19 _ _ _).1 A19_01234567bcdefi)) rfl)
  have A19_01234567bcdi:A19 11 (bm 23 276735) ⟨49,AP [(1,(.fn 34 [Ar])),(2,(DK p0)),(4,Ay),(6,BK),(7,(i64 t6)),(12,(i64 (Sh.len q3.funcs))),(13,(i64 t6)),(17,(ow 4 0 l7)),(18,(i64 t6)),(20,(ls Ai p0.decls)),(22,(ow 4 0 l7)),(23,(i64 t6)),(28,(ow 4 0 l7)),(29,(i64 t6)),(34,(.fn 34 [Ar]))],[(Bs s0_0 s0_1),CY,⟨0,30,2,[[(ow 3 0 q3.decls),(ow 4 0 l7)]]⟩,(ro 0 81 3 (Aj 111 3) q3.decls),(CA l7)]⟩:=(hA19 _ _ _).2 (by
   refine At [8,14] U (by kernel_rfl) (by decide) ⟨?_,?_,trivial⟩
   ·refine BJ.of (i:=8) rfl U (by rfl) ?_
    refine zz (Ed t6) (Bf CR U U U U gc17) rfl (AA ⟨U,?_⟩)
    exact AM (by exact AD U) (Ad (by kernel_rfl) ((hA19 _ _ _).1 A19_012345678bcdi)) rfl
   ·refine BJ.of (i:=14) rfl U (by rfl) ?_
    refine zz (Ed t6) (Bf CR U U U U gc17) rfl (AA ⟨U,?_⟩)
    exact AM (by exact AD U) (Ad (by kernel_rfl) ((hA19 _ _ _).1 A19_01234567bcdei)) rfl)
  have A19_01234567bdi:A19 12 (bm 23 272639) ⟨49,AP [(1,(.fn 34 [Ar])),(2,(DK p0)),(4,Ay),(6,BK),(7,(i64 t6)),(12,(i64 (Sh.len q3.funcs))),(13,(i64 t6)),(17,(ow 4 0 l7)),(18,(i64 t6)),(20,(ls Ai p0.decls)),(22,(ow 4 0 l7)),(23,(i64 t6)),(27,Ee),(29,(i64 t6)),(34,(.fn 34 [Ar]))],[(Bs s0_0 s0_1),CY,⟨0,30,2,[[(ow 3 0 q3.decls),(ow 4 0 l7)]]⟩,(ro 0 81 3 (Aj 111 3) q3.decls),(CA l7)]⟩:=(hA19 _ _ _).2 (by
   refine At [8,12] U (by kernel_rfl) (by decide) ⟨?_,?_,trivial⟩
   ·refine BJ.of (i:=8) rfl U (by rfl) ?_
    refine zz (Ed t6) (Bf CR U U U U gc17) rfl (AA ⟨U,?_⟩)
    exact AM (by exact AD U) (Ad (by kernel_rfl) ((hA19 _ _ _).1 A19_012345678bdi)) rfl
   ·refine BJ.of (i:=12) rfl U (by rfl) ?_
    refine zq tb U (AA ⟨U,?_⟩)
    exact AM (by exact AD U) (Ad (by kernel_rfl) ((hA19 _ _ _).1 A19_01234567bcdi)) rfl)
  have A19_0123457bcdefghi:A19 8 (bm 23 522431) ⟨49,AP [(1,(.fn 34 [Ar])),(2,(DK p0)),(4,Ay),(6,BK),(7,(i64 t6)),(12,(i64 (Sh.len q3.funcs))),(13,(i64 t6)),(17,(ow 4 0 l7)),(18,(i64 t6)),(20,(ls Ai p0.decls)),(21,Ee),(23,(i64 t6)),(33,(i64 (Sh.len c17.params))),(34,(.fn 34 [Ar]))],[(Bs s0_0 s0_1),CY,⟨0,30,2,[[(ow 3 0 q3.decls),(ow 4 0 l7)]]⟩,(ro 0 81 3 (Aj 111 3) q3.decls),(N3 l7 t6 c17),(ro 0 3 1 eI c17.params)]⟩:=(hA19 _ _ _).2 (by
   refine At [6] U (by kernel_rfl) (by decide) ⟨?_,trivial⟩
   ·refine BJ.of (i:=6) rfl U (by rfl) ?_
    refine zq tb U (AA ⟨U,?_⟩)
    exact AM (by exact AD U) (Ad (by kernel_rfl) ((hA19 _ _ _).1 A19_01234567bcdefghi)) rfl)
  have A19_0123457bcdefgi:A19 9 (bm 23 391359) ⟨49,AP [(1,(.fn 34 [Ar])),(2,(DK p0)),(4,Ay),(6,BK),(7,(i64 t6)),(12,(i64 (Sh.len q3.funcs))),(13,(i64 t6)),(17,(ow 4 0 l7)),(18,(i64 t6)),(20,(ls Ai p0.decls)),(21,Ee),(23,(i64 t6)),(32,(ow 5 0 c17.params)),(34,(.fn 34 [Ar]))],[(Bs s0_0 s0_1),CY,⟨0,30,2,[[(ow 3 0 q3.decls),(ow 4 0 l7)]]⟩,(ro 0 81 3 (Aj 111 3) q3.decls),(N3 l7 t6 c17),(ro 0 3 1 eI c17.params)]⟩:=(hA19 _ _ _).2 (by
   refine At [6,17] U (by kernel_rfl) (by decide) ⟨?_,?_,trivial⟩
   ·refine BJ.of (i:=6) rfl U (by rfl) ?_
    refine zq tb U (AA ⟨U,?_⟩)
    exact AM (by exact AD U) (Ad (by kernel_rfl) ((hA19 _ _ _).1 A19_01234567bcdefgi)) rfl
   ·refine BJ.of (i:=17) rfl U (by rfl) ?_
    refine zz (i64 (Sh.len c17.params)) (Cs Ff U U U) rfl (AA ⟨U,?_⟩)
    exact AM (by exact AD U) (Ad (by kernel_rfl) ((hA19 _ _ _).1 A19_0123457bcdefghi)) rfl)
  have A19_0123457bcdefi:A19 10 (bm 23 325823) ⟨49,AP [(1,(.fn 34 [Ar])),(2,(DK p0)),(4,Ay),(6,BK),(7,(i64 t6)),(12,(i64 (Sh.len q3.funcs))),(13,(i64 t6)),(17,(ow 4 0 l7)),(18,(i64 t6)),(20,(ls Ai p0.decls)),(21,Ee),(23,(i64 t6)),(31,(Ed t6)),(34,(.fn 34 [Ar]))],[(Bs s0_0 s0_1),CY,⟨0,30,2,[[(ow 3 0 q3.decls),(ow 4 0 l7)]]⟩,(ro 0 81 3 (Aj 111 3) q3.decls),(CA l7)]⟩:=(hA19 _ _ _).2 (by
   refine At [6,16] U (by kernel_rfl) (by decide) ⟨?_,?_,trivial⟩
   ·refine BJ.of (i:=6) rfl U (by rfl) ?_
    refine zq tb U (AA ⟨U,?_⟩)
    exact AM (by exact AD U) (Ad (by kernel_rfl) ((hA19 _ _ _).1 A19_01234567bcdefi)) rfl
   ·refine BJ.of (i:=16) rfl U (by rfl) ?_
    refine Ak (Bg (id:=4) (j:=0) (i:=t6) (c:=c17) (ys:=c17.params) (encY:=eI) rfl gc17 U U U U U) (zz (ow 5 0 c17.params) (CP HZ U U (Bd gc17) rfl) rfl (AA ⟨U,?_⟩))
    exact AM (by exact AD U) (Ad (by kernel_rfl) ((hA19 _ _ _).1 A19_0123457bcdefgi)) rfl)
  have A19_0123457bcdei:A19 11 (bm 23 293055) ⟨49,AP [(1,(.fn 34 [Ar])),(2,(DK p0)),(4,Ay),(6,BK),(7,(i64 t6)),(12,(i64 (Sh.len q3.funcs))),(13,(i64 t6)),(17,(ow 4 0 l7)),(18,(i64 t6)),(20,(ls Ai p0.decls)),(21,Ee),(23,(i64 t6)),(30,(Ed t6)),(34,(.fn 34 [Ar]))],[(Bs s0_0 s0_1),CY,⟨0,30,2,[[(ow 3 0 q3.decls),(ow 4 0 l7)]]⟩,(ro 0 81 3 (Aj 111 3) q3.decls),(CA l7)]⟩:=(hA19 _ _ _).2 (by
   refine At [6,15] U (by kernel_rfl) (by decide) ⟨?_,?_,trivial⟩
   ·refine BJ.of (i:=6) rfl U (by rfl) ?_
    refine zq tb U (AA ⟨U,?_⟩)
    exact AM (by exact AD U) (Ad (by kernel_rfl) ((hA19 _ _ _).1 A19_01234567bcdei)) rfl
   ·refine BJ.of (i:=15) rfl U (by rfl) ?_
    refine zq tb U (AA ⟨U,?_⟩)
    exact AM (by exact AD U) (Ad (by kernel_rfl) ((hA19 _ _ _).1 A19_0123457bcdefi)) rfl)
  have A19_0123457bcdi:A19 12 (bm 23 276671) ⟨49,AP [(1,(.fn 34 [Ar])),(2,(DK p0)),(4,Ay),(6,BK),(7,(i64 t6)),(12,(i64 (Sh.len q3.funcs))),(13,(i64 t6)),(17,(ow 4 0 l7)),(18,(i64 t6)),(20,(ls Ai p0.decls)),(21,Ee),(23,(i64 t6)),(28,(ow 4 0 l7)),(29,(i64 t6)),(34,(.fn 34 [Ar]))],[(Bs s0_0 s0_1),CY,⟨0,30,2,[[(ow 3 0 q3.decls),(ow 4 0 l7)]]⟩,(ro 0 81 3 (Aj 111 3) q3.decls),(CA l7)]⟩:=(hA19 _ _ _).2 (by
   refine At [6,14] U (by kernel_rfl) (by decide) ⟨?_,?_,trivial⟩
   ·refine BJ.of (i:=6) rfl U (by rfl) ?_
    refine zq tb U (AA ⟨U,?_⟩)
    exact AM (by exact AD U) (Ad (by kernel_rfl) ((hA19 _ _ _).1 A19_01234567bcdi)) rfl
   ·refine BJ.of (i:=14) rfl U (by rfl) ?_
    refine zz (Ed t6) (Bf CR U U U U gc17) rfl (AA ⟨U,?_⟩)
    exact AM (by exact AD U) (Ad (by kernel_rfl) ((hA19 _ _ _).1 A19_0123457bcdei)) rfl)
  have A19_0123457bdi:A19 13 (bm 23 272575) ⟨49,AP [(1,(.fn 34 [Ar])),(2,(DK p0)),(4,Ay),(6,BK),(7,(i64 t6)),(12,(i64 (Sh.len q3.funcs))),(13,(i64 t6)),(17,(ow 4 0 l7)),(18,(i64 t6)),(20,(ls Ai p0.decls)),(21,Ee),(23,(i64 t6)),(27,Ee),(29,(i64 t6)),(34,(.fn 34 [Ar]))],[(Bs s0_0 s0_1),CY,⟨0,30,2,[[(ow 3 0 q3.decls),(ow 4 0 l7)]]⟩,(ro 0 81 3 (Aj 111 3) q3.decls),(CA l7)]⟩:=(hA19 _ _ _).2 (by
   refine At [6,12] U (by kernel_rfl) (by decide) ⟨?_,?_,trivial⟩
   ·refine BJ.of (i:=6) rfl U (by rfl) ?_
    refine zq tb U (AA ⟨U,?_⟩)
    exact AM (by exact AD U) (Ad (by kernel_rfl) ((hA19 _ _ _).1 A19_01234567bdi)) rfl
   ·refine BJ.of (i:=12) rfl U (by rfl) ?_
    refine zq tb U (AA ⟨U,?_⟩)
    exact AM (by exact AD U) (Ad (by kernel_rfl) ((hA19 _ _ _).1 A19_0123457bcdi)) rfl)
  have A19_023456789abcdefghij:A19 4 (bm 23 1048573) ⟨49,AP [(1,(.fn 34 [Ar])),(2,(DK p0)),(4,Ay),(6,BK),(7,(i64 t6)),(12,(i64 (Sh.len q3.funcs))),(13,(i64 t6)),(16,Ee),(18,(i64 t6)),(35,(Y9 q18))],[(Bs s0_0 s0_1),CY,⟨0,30,2,[[(ow 3 0 q3.decls),(ow 4 0 l7)]]⟩,(ro 0 81 3 (Aj 111 3) q3.decls),(Nx l7 t6 c17),(ro 0 3 1 eI c17.params),B3,(Bj q18)]⟩:=(hA19 _ _ _).2 (by
   refine At [1] U (by kernel_rfl) (by decide) ⟨?_,trivial⟩
   ·refine BJ.of (i:=1) rfl U (by rfl) ?_
    refine zq tb U (AA ⟨U,?_⟩)
    exact AM (by exact AD U) (Ad (by kernel_rfl) ((hA19 _ _ _).1 A19_0123456789abcdefghij)) rfl)
  have A19_023456789abcdefghi:A19 5 (bm 23 524285) ⟨49,AP [(1,(.fn 34 [Ar])),(2,(DK p0)),(4,Ay),(6,BK),(7,(i64 t6)),(12,(i64 (Sh.len q3.funcs))),(13,(i64 t6)),(16,Ee),(18,(i64 t6)),(20,(ls Ai p0.decls)),(26,(Tq c17)),(33,(i64 (Sh.len c17.params))),(34,(.fn 34 [Ar]))],[(Bs s0_0 s0_1),CY,⟨0,30,2,[[(ow 3 0 q3.decls),(ow 4 0 l7)]]⟩,(ro 0 81 3 (Aj 111 3) q3.decls),(Nx l7 t6 c17),(ro 0 3 1 eI c17.params),(IK c17)]⟩:=(hA19 _ _ _).2 (by
   refine At [1,19] U (by kernel_rfl) (by decide) ⟨?_,?_,trivial⟩
   ·refine BJ.of (i:=1) rfl U (by rfl) ?_
    refine zq tb U (AA ⟨U,?_⟩)
    exact AM (by exact AD U) (Ad (by kernel_rfl) ((hA19 _ _ _).1 A19_0123456789abcdefghi)) rfl
   ·refine BJ.of (i:=19) rfl U (by rfl) ?_
    refine Gu (rowsP:=[(IK c17),(Bs s0_0 s0_1)]) (rows0:=[(IK c17),(Bs s0_0 s0_1)]) (rows1:=[B3,(Bs s0_0 s0_1)]) (rows2:=[(Bj q18)]) (rows1':=[B3,(Bs s0_0 s0_1)]) (rows2':=[(Bj q18)]) (st':=[(Bs s0_0 s0_1),CY,⟨0,30,2,[[(ow 3 0 q3.decls),(ow 4 0 l7)]]⟩,(ro 0 81 3 (Aj 111 3) q3.decls),(Nx l7 t6 c17),(ro 0 3 1 eI c17.params),B3,(Bj q18)]) (v':=(Y9 q18)) [6,0] Ah Vq (Iy gq18) rfl (by decide) rfl U (.deep (AL Ac) (.raw U U .nil)) rfl U (.pure (by intro x hx;cases hx) (.raw U U .nil)) (.deep (AL Ac) .nil) rfl U ?_
    refine AA ⟨U,?_⟩
    exact AM (by exact AD U) (Ad (by kernel_rfl) ((hA19 _ _ _).1 A19_023456789abcdefghij)) rfl)
  have A19_023456789abcdefgi:A19 6 (bm 23 393213) ⟨49,AP [(1,(.fn 34 [Ar])),(2,(DK p0)),(4,Ay),(6,BK),(7,(i64 t6)),(12,(i64 (Sh.len q3.funcs))),(13,(i64 t6)),(16,Ee),(18,(i64 t6)),(20,(ls Ai p0.decls)),(26,(Tq c17)),(32,(ow 5 0 c17.params)),(34,(.fn 34 [Ar]))],[(Bs s0_0 s0_1),CY,⟨0,30,2,[[(ow 3 0 q3.decls),(ow 4 0 l7)]]⟩,(ro 0 81 3 (Aj 111 3) q3.decls),(Nx l7 t6 c17),(ro 0 3 1 eI c17.params),(IK c17)]⟩:=(hA19 _ _ _).2 (by
   refine At [1,17] U (by kernel_rfl) (by decide) ⟨?_,?_,trivial⟩
   ·refine BJ.of (i:=1) rfl U (by rfl) ?_
    refine zq tb U (AA ⟨U,?_⟩)
    exact AM (by exact AD U) (Ad (by kernel_rfl) ((hA19 _ _ _).1 A19_0123456789abcdefgi)) rfl
   ·refine BJ.of (i:=17) rfl U (by rfl) ?_
    refine zz (i64 (Sh.len c17.params)) (Cs Ff U U U) rfl (AA ⟨U,?_⟩)
    exact AM (by exact AD U) (Ad (by kernel_rfl) ((hA19 _ _ _).1 A19_023456789abcdefghi)) rfl)
  have A19_023456789abcdefi:A19 7 (bm 23 327677) ⟨49,AP [(1,(.fn 34 [Ar])),(2,(DK p0)),(4,Ay),(6,BK),(7,(i64 t6)),(12,(i64 (Sh.len q3.funcs))),(13,(i64 t6)),(16,Ee),(18,(i64 t6)),(20,(ls Ai p0.decls)),(26,(NM c17)),(31,(Ed t6)),(34,(.fn 34 [Ar]))],[(Bs s0_0 s0_1),CY,⟨0,30,2,[[(ow 3 0 q3.decls),(ow 4 0 l7)]]⟩,(ro 0 81 3 (Aj 111 3) q3.decls),(WT l7 t6 c17),(IK c17)]⟩:=(hA19 _ _ _).2 (by
   refine At [1,16] U (by kernel_rfl) (by decide) ⟨?_,?_,trivial⟩
   ·refine BJ.of (i:=1) rfl U (by rfl) ?_
    refine zq tb U (AA ⟨U,?_⟩)
    exact AM (by exact AD U) (Ad (by kernel_rfl) ((hA19 _ _ _).1 A19_0123456789abcdefi)) rfl
   ·refine BJ.of (i:=16) rfl U (by rfl) ?_
    refine Ak (HV (id:=4) (j:=0) (i:=t6) (ys:=c17.params) (encY:=eI) (x':=(Yv c17)) (st':=[(Bs s0_0 s0_1),CY,⟨0,30,2,[[(ow 3 0 q3.decls),(ow 4 0 l7)]]⟩,(ro 0 81 3 (Aj 111 3) q3.decls),⟨0,48,5,hole l7 (BB 3 44) t6 (Yv c17)⟩,(IK c17),(ro 0 3 1 eI c17.params)]) rfl gc17 U U U U) (zz (ow 6 0 c17.params) (CP HZ U U (Bd gc17) rfl) rfl (AA ⟨U,?_⟩))
    exact AM (by exact A4 (L:=[(1,(.fn 34 [Ar])),(2,(DK p0)),(4,Ay),(6,BK),(7,(i64 t6)),(12,(i64 (Sh.len q3.funcs))),(13,(i64 t6)),(16,Ee),(18,(i64 t6)),(20,(ls Ai p0.decls)),(26,(Tq c17)),(32,(ow 5 0 c17.params)),(34,(.fn 34 [Ar]))]) (st':=[(Bs s0_0 s0_1),CY,⟨0,30,2,[[(ow 3 0 q3.decls),(ow 4 0 l7)]]⟩,(ro 0 81 3 (Aj 111 3) q3.decls),(Nx l7 t6 c17),(ro 0 3 1 eI c17.params),(IK c17)]) (st1:=[(Bs s0_0 s0_1),CY,⟨0,30,2,[[(ow 3 0 q3.decls),(ow 4 0 l7)]]⟩,(ro 0 81 3 (Aj 111 3) q3.decls),⟨0,48,5,hole l7 (BB 3 44) t6 (Yv c17)⟩,(ro 0 3 1 eI c17.params),(IK c17)]) [0,1,2,3,4,6,5] U (.raw U U .nil) (by decide) rfl U (.raw U U (.raw U U (.raw U U (.deep (AL fun _=>U) (.hol (AL fun _=>U) (Et fun _=>U) rfl U (.pure (AN fun _=>U) (.deep (AL Ac) .nil))))))) (.same U)) (Ad (by kernel_rfl) ((hA19 _ _ _).1 A19_023456789abcdefgi)) rfl)
  have A19_023456789abcdei:A19 8 (bm 23 294909) ⟨49,AP [(1,(.fn 34 [Ar])),(2,(DK p0)),(4,Ay),(6,BK),(7,(i64 t6)),(12,(i64 (Sh.len q3.funcs))),(13,(i64 t6)),(16,Ee),(18,(i64 t6)),(20,(ls Ai p0.decls)),(26,(NM c17)),(30,(Ed t6)),(34,(.fn 34 [Ar]))],[(Bs s0_0 s0_1),CY,⟨0,30,2,[[(ow 3 0 q3.decls),(ow 4 0 l7)]]⟩,(ro 0 81 3 (Aj 111 3) q3.decls),(WT l7 t6 c17),(IK c17)]⟩:=(hA19 _ _ _).2 (by
   refine At [1,15] U (by kernel_rfl) (by decide) ⟨?_,?_,trivial⟩
   ·refine BJ.of (i:=1) rfl U (by rfl) ?_
    refine zq tb U (AA ⟨U,?_⟩)
    exact AM (by exact AD U) (Ad (by kernel_rfl) ((hA19 _ _ _).1 A19_0123456789abcdei)) rfl
   ·refine BJ.of (i:=15) rfl U (by rfl) ?_
    refine zq tb U (AA ⟨U,?_⟩)
    exact AM (by exact AD U) (Ad (by kernel_rfl) ((hA19 _ _ _).1 A19_023456789abcdefi)) rfl)
  have A19_023456789abcdi:A19 9 (bm 23 278525) ⟨49,AP [(1,(.fn 34 [Ar])),(2,(DK p0)),(4,Ay),(6,BK),(7,(i64 t6)),(12,(i64 (Sh.len q3.funcs))),(13,(i64 t6)),(16,Ee),(18,(i64 t6)),(20,(ls Ai p0.decls)),(26,(NM c17)),(28,(ow 4 0 l7)),(29,(i64 t6)),(34,(.fn 34 [Ar]))],[(Bs s0_0 s0_1),CY,⟨0,30,2,[[(ow 3 0 q3.decls),(ow 4 0 l7)]]⟩,(ro 0 81 3 (Aj 111 3) q3.decls),(WT l7 t6 c17),(IK c17)]⟩:=(hA19 _ _ _).2 (by
   refine At [1,14] U (by kernel_rfl) (by decide) ⟨?_,?_,trivial⟩
   ·refine BJ.of (i:=1) rfl U (by rfl) ?_
    refine zq tb U (AA ⟨U,?_⟩)
    exact AM (by exact AD U) (Ad (by kernel_rfl) ((hA19 _ _ _).1 A19_0123456789abcdi)) rfl
   ·refine BJ.of (i:=14) rfl U (by rfl) ?_
    refine zz (Ed t6) (Ik CR U U U U gc17) rfl (AA ⟨U,?_⟩)
    exact AM (by exact AD U) (Ad (by kernel_rfl) ((hA19 _ _ _).1 A19_023456789abcdei)) rfl)
  have A19_023456789abdi:A19 10 (bm 23 274429) ⟨49,AP [(1,(.fn 34 [Ar])),(2,(DK p0)),(4,Ay),(6,BK),(7,(i64 t6)),(12,(i64 (Sh.len q3.funcs))),(13,(i64 t6)),(16,Ee),(18,(i64 t6)),(20,(ls Ai p0.decls)),(26,(NM c17)),(27,Ee),(29,(i64 t6)),(34,(.fn 34 [Ar]))],[(Bs s0_0 s0_1),CY,⟨0,30,2,[[(ow 3 0 q3.decls),(ow 4 0 l7)]]⟩,(ro 0 81 3 (Aj 111 3) q3.decls),(WT l7 t6 c17),(IK c17)]⟩:=(hA19 _ _ _).2 (by
   refine At [1,12] U (by kernel_rfl) (by decide) ⟨?_,?_,trivial⟩
   ·refine BJ.of (i:=1) rfl U (by rfl) ?_
    refine zq tb U (AA ⟨U,?_⟩)
    exact AM (by exact AD U) (Ad (by kernel_rfl) ((hA19 _ _ _).1 A19_0123456789abdi)) rfl
   ·refine BJ.of (i:=12) rfl U (by rfl) ?_
    refine zq tb U (AA ⟨U,?_⟩)
    exact AM (by exact AD U) (Ad (by kernel_rfl) ((hA19 _ _ _).1 A19_023456789abcdi)) rfl)
  have A19_023456789bcdefghi:A19 6 (bm 23 523261) ⟨49,AP [(1,(.fn 34 [Ar])),(2,(DK p0)),(4,Ay),(6,BK),(7,(i64 t6)),(12,(i64 (Sh.len q3.funcs))),(13,(i64 t6)),(16,Ee),(18,(i64 t6)),(20,(ls Ai p0.decls)),(25,(Q2 t6)),(33,(i64 (Sh.len c17.params))),(34,(.fn 34 [Ar]))],[(Bs s0_0 s0_1),CY,⟨0,30,2,[[(ow 3 0 q3.decls),(ow 4 0 l7)]]⟩,(ro 0 81 3 (Aj 111 3) q3.decls),(N3 l7 t6 c17),(ro 0 3 1 eI c17.params)]⟩:=(hA19 _ _ _).2 (by
   refine At [1,10] U (by kernel_rfl) (by decide) ⟨?_,?_,trivial⟩
   ·refine BJ.of (i:=1) rfl U (by rfl) ?_
    refine zq tb U (AA ⟨U,?_⟩)
    exact AM (by exact AD U) (Ad (by kernel_rfl) ((hA19 _ _ _).1 A19_0123456789bcdefghi)) rfl
   ·refine BJ.of (i:=10) rfl U (by rfl) ?_
    refine Ak (HV (id:=4) (j:=4) (i:=t6) (ys:=c17.body.kids) (encY:=(Av 44)) (x':=(bZ c17)) (st':=[(Bs s0_0 s0_1),CY,⟨0,30,2,[[(ow 3 0 q3.decls),(ow 4 0 l7)]]⟩,(ro 0 81 3 (Aj 111 3) q3.decls),(Nx l7 t6 c17),(ro 0 3 1 eI c17.params),(IK c17)]) rfl gc17 U U U U) (zz (Tq c17) (BE Bl U U (Bd gc17) (show 2+3≤5 by decide) rfl) rfl (AA ⟨U,?_⟩))
    exact AM (by exact AD U) (Ad (by kernel_rfl) ((hA19 _ _ _).1 A19_023456789abcdefghi)) rfl)
  have A19_023456789bcdefgi:A19 7 (bm 23 392189) ⟨49,AP [(1,(.fn 34 [Ar])),(2,(DK p0)),(4,Ay),(6,BK),(7,(i64 t6)),(12,(i64 (Sh.len q3.funcs))),(13,(i64 t6)),(16,Ee),(18,(i64 t6)),(20,(ls Ai p0.decls)),(25,(Q2 t6)),(32,(ow 5 0 c17.params)),(34,(.fn 34 [Ar]))],[(Bs s0_0 s0_1),CY,⟨0,30,2,[[(ow 3 0 q3.decls),(ow 4 0 l7)]]⟩,(ro 0 81 3 (Aj 111 3) q3.decls),(N3 l7 t6 c17),(ro 0 3 1 eI c17.params)]⟩:=(hA19 _ _ _).2 (by
   refine At [1,10,17] U (by kernel_rfl) (by decide) ⟨?_,?_,?_,trivial⟩
   ·refine BJ.of (i:=1) rfl U (by rfl) ?_
    refine zq tb U (AA ⟨U,?_⟩)
    exact AM (by exact AD U) (Ad (by kernel_rfl) ((hA19 _ _ _).1 A19_0123456789bcdefgi)) rfl
   ·refine BJ.of (i:=10) rfl U (by rfl) ?_
    refine Ak (HV (id:=4) (j:=4) (i:=t6) (ys:=c17.body.kids) (encY:=(Av 44)) (x':=(bZ c17)) (st':=[(Bs s0_0 s0_1),CY,⟨0,30,2,[[(ow 3 0 q3.decls),(ow 4 0 l7)]]⟩,(ro 0 81 3 (Aj 111 3) q3.decls),(Nx l7 t6 c17),(ro 0 3 1 eI c17.params),(IK c17)]) rfl gc17 U U U U) (zz (Tq c17) (BE Bl U U (Bd gc17) (show 2+3≤5 by decide) rfl) rfl (AA ⟨U,?_⟩))
    exact AM (by exact AD U) (Ad (by kernel_rfl) ((hA19 _ _ _).1 A19_023456789abcdefgi)) rfl
   ·refine BJ.of (i:=17) rfl U (by rfl) ?_
    refine zz (i64 (Sh.len c17.params)) (Cs Ff U U U) rfl (AA ⟨U,?_⟩)
    exact AM (by exact AD U) (Ad (by kernel_rfl) ((hA19 _ _ _).1 A19_023456789bcdefghi)) rfl)
  have A19_023456789bcdefi:A19 8 (bm 23 326653) ⟨49,AP [(1,(.fn 34 [Ar])),(2,(DK p0)),(4,Ay),(6,BK),(7,(i64 t6)),(12,(i64 (Sh.len q3.funcs))),(13,(i64 t6)),(16,Ee),(18,(i64 t6)),(20,(ls Ai p0.decls)),(25,(Q2 t6)),(31,(Ed t6)),(34,(.fn 34 [Ar]))],[(Bs s0_0 s0_1),CY,⟨0,30,2,[[(ow 3 0 q3.decls),(ow 4 0 l7)]]⟩,(ro 0 81 3 (Aj 111 3) q3.decls),(CA l7)]⟩:=(hA19 _ _ _).2 (by
   refine At [1,10,16] U (by kernel_rfl) (by decide) ⟨?_,?_,?_,trivial⟩
   ·refine BJ.of (i:=1) rfl U (by rfl) ?_
    refine zq tb U (AA ⟨U,?_⟩)
    exact AM (by exact AD U) (Ad (by kernel_rfl) ((hA19 _ _ _).1 A19_0123456789bcdefi)) rfl
   ·refine BJ.of (i:=10) rfl U (by rfl) ?_
    refine Ak (Bg (id:=4) (j:=4) (i:=t6) (c:=c17) (ys:=c17.body.kids) (encY:=(Av 44)) rfl gc17 U U U U U) (zz (NM c17) (BE Bl U U (Bd gc17) (show 2+3≤5 by decide) rfl) rfl (AA ⟨U,?_⟩))
    exact AM (by exact AD U) (Ad (by kernel_rfl) ((hA19 _ _ _).1 A19_023456789abcdefi)) rfl
   ·refine BJ.of (i:=16) rfl U (by rfl) ?_
    refine Ak (Bg (id:=4) (j:=0) (i:=t6) (c:=c17) (ys:=c17.params) (encY:=eI) rfl gc17 U U U U U) (zz (ow 5 0 c17.params) (CP HZ U U (Bd gc17) rfl) rfl (AA ⟨U,?_⟩))
    exact AM (by exact AD U) (Ad (by kernel_rfl) ((hA19 _ _ _).1 A19_023456789bcdefgi)) rfl)
  have A19_023456789bcdei:A19 9 (bm 23 293885) ⟨49,AP [(1,(.fn 34 [Ar])),(2,(DK p0)),(4,Ay),(6,BK),(7,(i64 t6)),(12,(i64 (Sh.len q3.funcs))),(13,(i64 t6)),(16,Ee),(18,(i64 t6)),(20,(ls Ai p0.decls)),(25,(Q2 t6)),(30,(Ed t6)),(34,(.fn 34 [Ar]))],[(Bs s0_0 s0_1),CY,⟨0,30,2,[[(ow 3 0 q3.decls),(ow 4 0 l7)]]⟩,(ro 0 81 3 (Aj 111 3) q3.decls),(CA l7)]⟩:=(hA19 _ _ _).2 (by
   refine At [1,10,15] U (by kernel_rfl) (by decide) ⟨?_,?_,?_,trivial⟩
   ·refine BJ.of (i:=1) rfl U (by rfl) ?_
    refine zq tb U (AA ⟨U,?_⟩)
    exact AM (by exact AD U) (Ad (by kernel_rfl) ((hA19 _ _ _).1 A19_0123456789bcdei)) rfl
   ·refine BJ.of (i:=10) rfl U (by rfl) ?_
    refine Ak (Bg (id:=4) (j:=4) (i:=t6) (c:=c17) (ys:=c17.body.kids) (encY:=(Av 44)) rfl gc17 U U U U U) (zz (NM c17) (BE Bl U U (Bd gc17) (show 2+3≤5 by decide) rfl) rfl (AA ⟨U,?_⟩))
    exact AM (by exact AD U) (Ad (by kernel_rfl) ((hA19 _ _ _).1 A19_023456789abcdei)) rfl
   ·refine BJ.of (i:=15) rfl U (by rfl) ?_
    refine zq tb U (AA ⟨U,?_⟩)
    exact AM (by exact AD U) (Ad (by kernel_rfl) ((hA19 _ _ _).1 A19_023456789bcdefi)) rfl)
  have A19_023456789bcdi:A19 10 (bm 23 277501) ⟨49,AP [(1,(.fn 34 [Ar])),(2,(DK p0)),(4,Ay),(6,BK),(7,(i64 t6)),(12,(i64 (Sh.len q3.funcs))),(13,(i64 t6)),(16,Ee),(18,(i64 t6)),(20,(ls Ai p0.decls)),(25,(Q2 t6)),(28,(ow 4 0 l7)),(29,(i64 t6)),(34,(.fn 34 [Ar]))],[(Bs s0_0 s0_1),CY,⟨0,30,2,[[(ow 3 0 q3.decls),(ow 4 0 l7)]]⟩,(ro 0 81 3 (Aj 111 3) q3.decls),(CA l7)]⟩:=(hA19 _ _ _).2 (by
   refine At [1,10,14] U (by kernel_rfl) (by decide) ⟨?_,?_,?_,trivial⟩
   ·refine BJ.of (i:=1) rfl U (by rfl) ?_
    refine zq tb U (AA ⟨U,?_⟩)
    exact AM (by exact AD U) (Ad (by kernel_rfl) ((hA19 _ _ _).1 A19_0123456789bcdi)) rfl
   ·refine BJ.of (i:=10) rfl U (by rfl) ?_
    refine Ak (Bg (id:=4) (j:=4) (i:=t6) (c:=c17) (ys:=c17.body.kids) (encY:=(Av 44)) rfl gc17 U U U U U) (zz (NM c17) (BE Bl U U (Bd gc17) (show 2+3≤5 by decide) rfl) rfl (AA ⟨U,?_⟩))
    exact AM (by exact AD U) (Ad (by kernel_rfl) ((hA19 _ _ _).1 A19_023456789abcdi)) rfl
   ·refine BJ.of (i:=14) rfl U (by rfl) ?_
    refine zz (Ed t6) (Bf CR U U U U gc17) rfl (AA ⟨U,?_⟩)
    exact AM (by exact AD U) (Ad (by kernel_rfl) ((hA19 _ _ _).1 A19_023456789bcdei)) rfl)
  have A19_023456789bdi:A19 11 (bm 23 273405) ⟨49,AP [(1,(.fn 34 [Ar])),(2,(DK p0)),(4,Ay),(6,BK),(7,(i64 t6)),(12,(i64 (Sh.len q3.funcs))),(13,(i64 t6)),(16,Ee),(18,(i64 t6)),(20,(ls Ai p0.decls)),(25,(Q2 t6)),(27,Ee),(29,(i64 t6)),(34,(.fn 34 [Ar]))],[(Bs s0_0 s0_1),CY,⟨0,30,2,[[(ow 3 0 q3.decls),(ow 4 0 l7)]]⟩,(ro 0 81 3 (Aj 111 3) q3.decls),(CA l7)]⟩:=(hA19 _ _ _).2 (by
   refine At [1,10,12] U (by kernel_rfl) (by decide) ⟨?_,?_,?_,trivial⟩
   ·refine BJ.of (i:=1) rfl U (by rfl) ?_
    refine zq tb U (AA ⟨U,?_⟩)
    exact AM (by exact AD U) (Ad (by kernel_rfl) ((hA19 _ _ _).1 A19_0123456789bdi)) rfl
   ·refine BJ.of (i:=10) rfl U (by rfl) ?_
    refine Ak (Bg (id:=4) (j:=4) (i:=t6) (c:=c17) (ys:=c17.body.kids) (encY:=(Av 44)) rfl gc17 U U U U U) (zz (NM c17) (BE Bl U U (Bd gc17) (show 2+3≤5 by decide) rfl) rfl (AA ⟨U,?_⟩))
    exact AM (by exact AD U) (Ad (by kernel_rfl) ((hA19 _ _ _).1 A19_023456789abdi)) rfl
   ·refine BJ.of (i:=12) rfl U (by rfl) ?_
    refine zq tb U (AA ⟨U,?_⟩)
    exact AM (by exact AD U) (Ad (by kernel_rfl) ((hA19 _ _ _).1 A19_023456789bcdi)) rfl)
  have A19_02345678bcdefghi:A19 7 (bm 23 522749) ⟨49,AP [(1,(.fn 34 [Ar])),(2,(DK p0)),(4,Ay),(6,BK),(7,(i64 t6)),(12,(i64 (Sh.len q3.funcs))),(13,(i64 t6)),(16,Ee),(18,(i64 t6)),(20,(ls Ai p0.decls)),(24,(Ed t6)),(33,(i64 (Sh.len c17.params))),(34,(.fn 34 [Ar]))],[(Bs s0_0 s0_1),CY,⟨0,30,2,[[(ow 3 0 q3.decls),(ow 4 0 l7)]]⟩,(ro 0 81 3 (Aj 111 3) q3.decls),(N3 l7 t6 c17),(ro 0 3 1 eI c17.params)]⟩:=(hA19 _ _ _).2 (by
   refine At [1,9] U (by kernel_rfl) (by decide) ⟨?_,?_,trivial⟩
   ·refine BJ.of (i:=1) rfl U (by rfl) ?_
    refine zq tb U (AA ⟨U,?_⟩)
    exact AM (by exact AD U) (Ad (by kernel_rfl) ((hA19 _ _ _).1 A19_012345678bcdefghi)) rfl
   ·refine BJ.of (i:=9) rfl U (by rfl) ?_
    refine zq tb U (AA ⟨U,?_⟩)
    exact AM (by exact AD U) (Ad (by kernel_rfl) ((hA19 _ _ _).1 A19_023456789bcdefghi)) rfl)
  have A19_02345678bcdefgi:A19 8 (bm 23 391677) ⟨49,AP [(1,(.fn 34 [Ar])),(2,(DK p0)),(4,Ay),(6,BK),(7,(i64 t6)),(12,(i64 (Sh.len q3.funcs))),(13,(i64 t6)),(16,Ee),(18,(i64 t6)),(20,(ls Ai p0.decls)),(24,(Ed t6)),(32,(ow 5 0 c17.params)),(34,(.fn 34 [Ar]))],[(Bs s0_0 s0_1),CY,⟨0,30,2,[[(ow 3 0 q3.decls),(ow 4 0 l7)]]⟩,(ro 0 81 3 (Aj 111 3) q3.decls),(N3 l7 t6 c17),(ro 0 3 1 eI c17.params)]⟩:=(hA19 _ _ _).2 (by
   refine At [1,9,17] U (by kernel_rfl) (by decide) ⟨?_,?_,?_,trivial⟩
   ·refine BJ.of (i:=1) rfl U (by rfl) ?_
    refine zq tb U (AA ⟨U,?_⟩)
    exact AM (by exact AD U) (Ad (by kernel_rfl) ((hA19 _ _ _).1 A19_012345678bcdefgi)) rfl
   ·refine BJ.of (i:=9) rfl U (by rfl) ?_
    refine zq tb U (AA ⟨U,?_⟩)
    exact AM (by exact AD U) (Ad (by kernel_rfl) ((hA19 _ _ _).1 A19_023456789bcdefgi)) rfl
   ·refine BJ.of (i:=17) rfl U (by rfl) ?_
    refine zz (i64 (Sh.len c17.params)) (Cs Ff U U U) rfl (AA ⟨U,?_⟩)
    exact AM (by exact AD U) (Ad (by kernel_rfl) ((hA19 _ _ _).1 A19_02345678bcdefghi)) rfl)
  have A19_02345678bcdefi:A19 9 (bm 23 326141) ⟨49,AP [(1,(.fn 34 [Ar])),(2,(DK p0)),(4,Ay),(6,BK),(7,(i64 t6)),(12,(i64 (Sh.len q3.funcs))),(13,(i64 t6)),(16,Ee),(18,(i64 t6)),(20,(ls Ai p0.decls)),(24,(Ed t6)),(31,(Ed t6)),(34,(.fn 34 [Ar]))],[(Bs s0_0 s0_1),CY,⟨0,30,2,[[(ow 3 0 q3.decls),(ow 4 0 l7)]]⟩,(ro 0 81 3 (Aj 111 3) q3.decls),(CA l7)]⟩:=(hA19 _ _ _).2 (by
   refine At [1,9,16] U (by kernel_rfl) (by decide) ⟨?_,?_,?_,trivial⟩
   ·refine BJ.of (i:=1) rfl U (by rfl) ?_
    refine zq tb U (AA ⟨U,?_⟩)
    exact AM (by exact AD U) (Ad (by kernel_rfl) ((hA19 _ _ _).1 A19_012345678bcdefi)) rfl
   ·refine BJ.of (i:=9) rfl U (by rfl) ?_
    refine zq tb U (AA ⟨U,?_⟩)
    exact AM (by exact AD U) (Ad (by kernel_rfl) ((hA19 _ _ _).1 A19_023456789bcdefi)) rfl
   ·refine BJ.of (i:=16) rfl U (by rfl) ?_
    refine Ak (Bg (id:=4) (j:=0) (i:=t6) (c:=c17) (ys:=c17.params) (encY:=eI) rfl gc17 U U U U U) (zz (ow 5 0 c17.params) (CP HZ U U (Bd gc17) rfl) rfl (AA ⟨U,?_⟩))
    exact AM (by exact AD U) (Ad (by kernel_rfl) ((hA19 _ _ _).1 A19_02345678bcdefgi)) rfl)
  have A19_02345678bcdei:A19 10 (bm 23 293373) ⟨49,AP [(1,(.fn 34 [Ar])),(2,(DK p0)),(4,Ay),(6,BK),(7,(i64 t6)),(12,(i64 (Sh.len q3.funcs))),(13,(i64 t6)),(16,Ee),(18,(i64 t6)),(20,(ls Ai p0.decls)),(24,(Ed t6)),(30,(Ed t6)),(34,(.fn 34 [Ar]))],[(Bs s0_0 s0_1),CY,⟨0,30,2,[[(ow 3 0 q3.decls),(ow 4 0 l7)]]⟩,(ro 0 81 3 (Aj 111 3) q3.decls),(CA l7)]⟩:=(hA19 _ _ _).2 (by
   refine At [1,9,15] U (by kernel_rfl) (by decide) ⟨?_,?_,?_,trivial⟩
   ·refine BJ.of (i:=1) rfl U (by rfl) ?_
    refine zq tb U (AA ⟨U,?_⟩)
    exact AM (by exact AD U) (Ad (by kernel_rfl) ((hA19 _ _ _).1 A19_012345678bcdei)) rfl
   ·refine BJ.of (i:=9) rfl U (by rfl) ?_
    refine zq tb U (AA ⟨U,?_⟩)
    exact AM (by exact AD U) (Ad (by kernel_rfl) ((hA19 _ _ _).1 A19_023456789bcdei)) rfl
   ·refine BJ.of (i:=15) rfl U (by rfl) ?_
    refine zq tb U (AA ⟨U,?_⟩)
    exact AM (by exact AD U) (Ad (by kernel_rfl) ((hA19 _ _ _).1 A19_02345678bcdefi)) rfl)
  have A19_02345678bcdi:A19 11 (bm 23 276989) ⟨49,AP [(1,(.fn 34 [Ar])),(2,(DK p0)),(4,Ay),(6,BK),(7,(i64 t6)),(12,(i64 (Sh.len q3.funcs))),(13,(i64 t6)),(16,Ee),(18,(i64 t6)),(20,(ls Ai p0.decls)),(24,(Ed t6)),(28,(ow 4 0 l7)),(29,(i64 t6)),(34,(.fn 34 [Ar]))],[(Bs s0_0 s0_1),CY,⟨0,30,2,[[(ow 3 0 q3.decls),(ow 4 0 l7)]]⟩,(ro 0 81 3 (Aj 111 3) q3.decls),(CA l7)]⟩:=(hA19 _ _ _).2 (by
   refine At [1,9,14] U (by kernel_rfl) (by decide) ⟨?_,?_,?_,trivial⟩
   ·refine BJ.of (i:=1) rfl U (by rfl) ?_
    refine zq tb U (AA ⟨U,?_⟩)
    exact AM (by exact AD U) (Ad (by kernel_rfl) ((hA19 _ _ _).1 A19_012345678bcdi)) rfl
   ·refine BJ.of (i:=9) rfl U (by rfl) ?_
    refine zq tb U (AA ⟨U,?_⟩)
    exact AM (by exact AD U) (Ad (by kernel_rfl) ((hA19 _ _ _).1 A19_023456789bcdi)) rfl
   ·refine BJ.of (i:=14) rfl U (by rfl) ?_
    refine zz (Ed t6) (Bf CR U U U U gc17) rfl (AA ⟨U,?_⟩)
    exact AM (by exact AD U) (Ad (by kernel_rfl) ((hA19 _ _ _).1 A19_02345678bcdei)) rfl)
  have A19_02345678bdi:A19 12 (bm 23 272893) ⟨49,AP [(1,(.fn 34 [Ar])),(2,(DK p0)),(4,Ay),(6,BK),(7,(i64 t6)),(12,(i64 (Sh.len q3.funcs))),(13,(i64 t6)),(16,Ee),(18,(i64 t6)),(20,(ls Ai p0.decls)),(24,(Ed t6)),(27,Ee),(29,(i64 t6)),(34,(.fn 34 [Ar]))],[(Bs s0_0 s0_1),CY,⟨0,30,2,[[(ow 3 0 q3.decls),(ow 4 0 l7)]]⟩,(ro 0 81 3 (Aj 111 3) q3.decls),(CA l7)]⟩:=(hA19 _ _ _).2 (by
   refine At [1,9,12] U (by kernel_rfl) (by decide) ⟨?_,?_,?_,trivial⟩
   ·refine BJ.of (i:=1) rfl U (by rfl) ?_
    refine zq tb U (AA ⟨U,?_⟩)
    exact AM (by exact AD U) (Ad (by kernel_rfl) ((hA19 _ _ _).1 A19_012345678bdi)) rfl
   ·refine BJ.of (i:=9) rfl U (by rfl) ?_
    refine zq tb U (AA ⟨U,?_⟩)
    exact AM (by exact AD U) (Ad (by kernel_rfl) ((hA19 _ _ _).1 A19_023456789bdi)) rfl
   ·refine BJ.of (i:=12) rfl U (by rfl) ?_
    refine zq tb U (AA ⟨U,?_⟩)
    exact AM (by exact AD U) (Ad (by kernel_rfl) ((hA19 _ _ _).1 A19_02345678bcdi)) rfl)
  have A19_0234567bcdefghi:A19 8 (bm 23 522493) ⟨49,AP [(1,(.fn 34 [Ar])),(2,(DK p0)),(4,Ay),(6,BK),(7,(i64 t6)),(12,(i64 (Sh.len q3.funcs))),(13,(i64 t6)),(16,Ee),(18,(i64 t6)),(20,(ls Ai p0.decls)),(22,(ow 4 0 l7)),(23,(i64 t6)),(33,(i64 (Sh.len c17.params))),(34,(.fn 34 [Ar]))],[(Bs s0_0 s0_1),CY,⟨0,30,2,[[(ow 3 0 q3.decls),(ow 4 0 l7)]]⟩,(ro 0 81 3 (Aj 111 3) q3.decls),(N3 l7 t6 c17),(ro 0 3 1 eI c17.params)]⟩:=(hA19 _ _ _).2 (by
   refine At [1,8] U (by kernel_rfl) (by decide) ⟨?_,?_,trivial⟩
   ·refine BJ.of (i:=1) rfl U (by rfl) ?_
    refine zq tb U (AA ⟨U,?_⟩)
    exact AM (by exact AD U) (Ad (by kernel_rfl) ((hA19 _ _ _).1 A19_01234567bcdefghi)) rfl
   ·refine BJ.of (i:=8) rfl U (by rfl) ?_
    refine zz (Ed t6) (Ik CR U U U U gc17) rfl (AA ⟨U,?_⟩)
    exact AM (by exact AD U) (Ad (by kernel_rfl) ((hA19 _ _ _).1 A19_02345678bcdefghi)) rfl)
  have A19_0234567bcdefgi:A19 9 (bm 23 391421) ⟨49,AP [(1,(.fn 34 [Ar])),(2,(DK p0)),(4,Ay),(6,BK),(7,(i64 t6)),(12,(i64 (Sh.len q3.funcs))),(13,(i64 t6)),(16,Ee),(18,(i64 t6)),(20,(ls Ai p0.decls)),(22,(ow 4 0 l7)),(23,(i64 t6)),(32,(ow 5 0 c17.params)),(34,(.fn 34 [Ar]))],[(Bs s0_0 s0_1),CY,⟨0,30,2,[[(ow 3 0 q3.decls),(ow 4 0 l7)]]⟩,(ro 0 81 3 (Aj 111 3) q3.decls),(N3 l7 t6 c17),(ro 0 3 1 eI c17.params)]⟩:=(hA19 _ _ _).2 (by
   refine At [1,8,17] U (by kernel_rfl) (by decide) ⟨?_,?_,?_,trivial⟩
   ·refine BJ.of (i:=1) rfl U (by rfl) ?_
    refine zq tb U (AA ⟨U,?_⟩)
    exact AM (by exact AD U) (Ad (by kernel_rfl) ((hA19 _ _ _).1 A19_01234567bcdefgi)) rfl
   ·refine BJ.of (i:=8) rfl U (by rfl) ?_
    refine zz (Ed t6) (Ik CR U U U U gc17) rfl (AA ⟨U,?_⟩)
    exact AM (by exact AD U) (Ad (by kernel_rfl) ((hA19 _ _ _).1 A19_02345678bcdefgi)) rfl
   ·refine BJ.of (i:=17) rfl U (by rfl) ?_
    refine zz (i64 (Sh.len c17.params)) (Cs Ff U U U) rfl (AA ⟨U,?_⟩)
    exact AM (by exact AD U) (Ad (by kernel_rfl) ((hA19 _ _ _).1 A19_0234567bcdefghi)) rfl)
  have A19_0234567bcdefi:A19 10 (bm 23 325885) ⟨49,AP [(1,(.fn 34 [Ar])),(2,(DK p0)),(4,Ay),(6,BK),(7,(i64 t6)),(12,(i64 (Sh.len q3.funcs))),(13,(i64 t6)),(16,Ee),(18,(i64 t6)),(20,(ls Ai p0.decls)),(22,(ow 4 0 l7)),(23,(i64 t6)),(31,(Ed t6)),(34,(.fn 34 [Ar]))],[(Bs s0_0 s0_1),CY,⟨0,30,2,[[(ow 3 0 q3.decls),(ow 4 0 l7)]]⟩,(ro 0 81 3 (Aj 111 3) q3.decls),(CA l7)]⟩:=(hA19 _ _ _).2 (by
   refine At [1,8,16] U (by kernel_rfl) (by decide) ⟨?_,?_,?_,trivial⟩
   ·refine BJ.of (i:=1) rfl U (by rfl) ?_
    refine zq tb U (AA ⟨U,?_⟩)
    exact AM (by exact AD U) (Ad (by kernel_rfl) ((hA19 _ _ _).1 A19_01234567bcdefi)) rfl
   ·refine BJ.of (i:=8) rfl U (by rfl) ?_
    refine zz (Ed t6) (Bf CR U U U U gc17) rfl (AA ⟨U,?_⟩)
    exact AM (by exact AD U) (Ad (by kernel_rfl) ((hA19 _ _ _).1 A19_02345678bcdefi)) rfl
   ·refine BJ.of (i:=16) rfl U (by rfl) ?_
    refine Ak (Bg (id:=4) (j:=0) (i:=t6) (c:=c17) (ys:=c17.params) (encY:=eI) rfl gc17 U U U U U) (zz (ow 5 0 c17.params) (CP HZ U U (Bd gc17) rfl) rfl (AA ⟨U,?_⟩))
    exact AM (by exact AD U) (Ad (by kernel_rfl) ((hA19 _ _ _).1 A19_0234567bcdefgi)) rfl)
  have A19_0234567bcdei:A19 11 (bm 23 293117) ⟨49,AP [(1,(.fn 34 [Ar])),(2,(DK p0)),(4,Ay),(6,BK),(7,(i64 t6)),(12,(i64 (Sh.len q3.funcs))),(13,(i64 t6)),(16,Ee),(18,(i64 t6)),(20,(ls Ai p0.decls)),(22,(ow 4 0 l7)),(23,(i64 t6)),(30,(Ed t6)),(34,(.fn 34 [Ar]))],[(Bs s0_0 s0_1),CY,⟨0,30,2,[[(ow 3 0 q3.decls),(ow 4 0 l7)]]⟩,(ro 0 81 3 (Aj 111 3) q3.decls),(CA l7)]⟩:=(hA19 _ _ _).2 (by
   refine At [1,8,15] U (by kernel_rfl) (by decide) ⟨?_,?_,?_,trivial⟩
   ·refine BJ.of (i:=1) rfl U (by rfl) ?_
    refine zq tb U (AA ⟨U,?_⟩)
    exact AM (by exact AD U) (Ad (by kernel_rfl) ((hA19 _ _ _).1 A19_01234567bcdei)) rfl
   ·refine BJ.of (i:=8) rfl U (by rfl) ?_
    refine zz (Ed t6) (Bf CR U U U U gc17) rfl (AA ⟨U,?_⟩)
    exact AM (by exact AD U) (Ad (by kernel_rfl) ((hA19 _ _ _).1 A19_02345678bcdei)) rfl
   ·refine BJ.of (i:=15) rfl U (by rfl) ?_
    refine zq tb U (AA ⟨U,?_⟩)
    exact AM (by exact AD U) (Ad (by kernel_rfl) ((hA19 _ _ _).1 A19_0234567bcdefi)) rfl)
  have A19_0234567bcdi:A19 12 (bm 23 276733) ⟨49,AP [(1,(.fn 34 [Ar])),(2,(DK p0)),(4,Ay),(6,BK),(7,(i64 t6)),(12,(i64 (Sh.len q3.funcs))),(13,(i64 t6)),(16,Ee),(18,(i64 t6)),(20,(ls Ai p0.decls)),(22,(ow 4 0 l7)),(23,(i64 t6)),(28,(ow 4 0 l7)),(29,(i64 t6)),(34,(.fn 34 [Ar]))],[(Bs s0_0 s0_1),CY,⟨0,30,2,[[(ow 3 0 q3.decls),(ow 4 0 l7)]]⟩,(ro 0 81 3 (Aj 111 3) q3.decls),(CA l7)]⟩:=(hA19 _ _ _).2 (by
   refine At [1,8,14] U (by kernel_rfl) (by decide) ⟨?_,?_,?_,trivial⟩
   ·refine BJ.of (i:=1) rfl U (by rfl) ?_
    refine zq tb U (AA ⟨U,?_⟩)
    exact AM (by exact AD U) (Ad (by kernel_rfl) ((hA19 _ _ _).1 A19_01234567bcdi)) rfl
   ·refine BJ.of (i:=8) rfl U (by rfl) ?_
    refine zz (Ed t6) (Bf CR U U U U gc17) rfl (AA ⟨U,?_⟩)
    exact AM (by exact AD U) (Ad (by kernel_rfl) ((hA19 _ _ _).1 A19_02345678bcdi)) rfl
   ·refine BJ.of (i:=14) rfl U (by rfl) ?_
    refine zz (Ed t6) (Bf CR U U U U gc17) rfl (AA ⟨U,?_⟩)
    exact AM (by exact AD U) (Ad (by kernel_rfl) ((hA19 _ _ _).1 A19_0234567bcdei)) rfl)
  have A19_0234567bdi:A19 13 (bm 23 272637) ⟨49,AP [(1,(.fn 34 [Ar])),(2,(DK p0)),(4,Ay),(6,BK),(7,(i64 t6)),(12,(i64 (Sh.len q3.funcs))),(13,(i64 t6)),(16,Ee),(18,(i64 t6)),(20,(ls Ai p0.decls)),(22,(ow 4 0 l7)),(23,(i64 t6)),(27,Ee),(29,(i64 t6)),(34,(.fn 34 [Ar]))],[(Bs s0_0 s0_1),CY,⟨0,30,2,[[(ow 3 0 q3.decls),(ow 4 0 l7)]]⟩,(ro 0 81 3 (Aj 111 3) q3.decls),(CA l7)]⟩:=(hA19 _ _ _).2 (by
   refine At [1,8,12] U (by kernel_rfl) (by decide) ⟨?_,?_,?_,trivial⟩
   ·refine BJ.of (i:=1) rfl U (by rfl) ?_
    refine zq tb U (AA ⟨U,?_⟩)
    exact AM (by exact AD U) (Ad (by kernel_rfl) ((hA19 _ _ _).1 A19_01234567bdi)) rfl
   ·refine BJ.of (i:=8) rfl U (by rfl) ?_
    refine zz (Ed t6) (Bf CR U U U U gc17) rfl (AA ⟨U,?_⟩)
    exact AM (by exact AD U) (Ad (by kernel_rfl) ((hA19 _ _ _).1 A19_02345678bdi)) rfl
   ·refine BJ.of (i:=12) rfl U (by rfl) ?_
    refine zq tb U (AA ⟨U,?_⟩)
    exact AM (by exact AD U) (Ad (by kernel_rfl) ((hA19 _ _ _).1 A19_0234567bcdi)) rfl)
  have A19_023457bcdefghi:A19 9 (bm 23 522429) ⟨49,AP [(1,(.fn 34 [Ar])),(2,(DK p0)),(4,Ay),(6,BK),(7,(i64 t6)),(12,(i64 (Sh.len q3.funcs))),(13,(i64 t6)),(16,Ee),(18,(i64 t6)),(20,(ls Ai p0.decls)),(21,Ee),(23,(i64 t6)),(33,(i64 (Sh.len c17.params))),(34,(.fn 34 [Ar]))],[(Bs s0_0 s0_1),CY,⟨0,30,2,[[(ow 3 0 q3.decls),(ow 4 0 l7)]]⟩,(ro 0 81 3 (Aj 111 3) q3.decls),(N3 l7 t6 c17),(ro 0 3 1 eI c17.params)]⟩:=(hA19 _ _ _).2 (by
   refine At [1,6] U (by kernel_rfl) (by decide) ⟨?_,?_,trivial⟩
   ·refine BJ.of (i:=1) rfl U (by rfl) ?_
    refine zq tb U (AA ⟨U,?_⟩)
    exact AM (by exact AD U) (Ad (by kernel_rfl) ((hA19 _ _ _).1 A19_0123457bcdefghi)) rfl
   ·refine BJ.of (i:=6) rfl U (by rfl) ?_
    refine zq tb U (AA ⟨U,?_⟩)
    exact AM (by exact AD U) (Ad (by kernel_rfl) ((hA19 _ _ _).1 A19_0234567bcdefghi)) rfl)
  have A19_023457bcdefgi:A19 10 (bm 23 391357) ⟨49,AP [(1,(.fn 34 [Ar])),(2,(DK p0)),(4,Ay),(6,BK),(7,(i64 t6)),(12,(i64 (Sh.len q3.funcs))),(13,(i64 t6)),(16,Ee),(18,(i64 t6)),(20,(ls Ai p0.decls)),(21,Ee),(23,(i64 t6)),(32,(ow 5 0 c17.params)),(34,(.fn 34 [Ar]))],[(Bs s0_0 s0_1),CY,⟨0,30,2,[[(ow 3 0 q3.decls),(ow 4 0 l7)]]⟩,(ro 0 81 3 (Aj 111 3) q3.decls),(N3 l7 t6 c17),(ro 0 3 1 eI c17.params)]⟩:=(hA19 _ _ _).2 (by
   refine At [1,6,17] U (by kernel_rfl) (by decide) ⟨?_,?_,?_,trivial⟩
   ·refine BJ.of (i:=1) rfl U (by rfl) ?_
    refine zq tb U (AA ⟨U,?_⟩)
    exact AM (by exact AD U) (Ad (by kernel_rfl) ((hA19 _ _ _).1 A19_0123457bcdefgi)) rfl
   ·refine BJ.of (i:=6) rfl U (by rfl) ?_
    refine zq tb U (AA ⟨U,?_⟩)
    exact AM (by exact AD U) (Ad (by kernel_rfl) ((hA19 _ _ _).1 A19_0234567bcdefgi)) rfl
   ·refine BJ.of (i:=17) rfl U (by rfl) ?_
    refine zz (i64 (Sh.len c17.params)) (Cs Ff U U U) rfl (AA ⟨U,?_⟩)
    exact AM (by exact AD U) (Ad (by kernel_rfl) ((hA19 _ _ _).1 A19_023457bcdefghi)) rfl)
  have A19_023457bcdefi:A19 11 (bm 23 325821) ⟨49,AP [(1,(.fn 34 [Ar])),(2,(DK p0)),(4,Ay),(6,BK),(7,(i64 t6)),(12,(i64 (Sh.len q3.funcs))),(13,(i64 t6)),(16,Ee),(18,(i64 t6)),(20,(ls Ai p0.decls)),(21,Ee),(23,(i64 t6)),(31,(Ed t6)),(34,(.fn 34 [Ar]))],[(Bs s0_0 s0_1),CY,⟨0,30,2,[[(ow 3 0 q3.decls),(ow 4 0 l7)]]⟩,(ro 0 81 3 (Aj 111 3) q3.decls),(CA l7)]⟩:=(hA19 _ _ _).2 (by
   refine At [1,6,16] U (by kernel_rfl) (by decide) ⟨?_,?_,?_,trivial⟩
   ·refine BJ.of (i:=1) rfl U (by rfl) ?_
    refine zq tb U (AA ⟨U,?_⟩)
    exact AM (by exact AD U) (Ad (by kernel_rfl) ((hA19 _ _ _).1 A19_0123457bcdefi)) rfl
   ·refine BJ.of (i:=6) rfl U (by rfl) ?_
    refine zq tb U (AA ⟨U,?_⟩)
    exact AM (by exact AD U) (Ad (by kernel_rfl) ((hA19 _ _ _).1 A19_0234567bcdefi)) rfl
   ·refine BJ.of (i:=16) rfl U (by rfl) ?_
    refine Ak (Bg (id:=4) (j:=0) (i:=t6) (c:=c17) (ys:=c17.params) (encY:=eI) rfl gc17 U U U U U) (zz (ow 5 0 c17.params) (CP HZ U U (Bd gc17) rfl) rfl (AA ⟨U,?_⟩))
    exact AM (by exact AD U) (Ad (by kernel_rfl) ((hA19 _ _ _).1 A19_023457bcdefgi)) rfl)
  have A19_023457bcdei:A19 12 (bm 23 293053) ⟨49,AP [(1,(.fn 34 [Ar])),(2,(DK p0)),(4,Ay),(6,BK),(7,(i64 t6)),(12,(i64 (Sh.len q3.funcs))),(13,(i64 t6)),(16,Ee),(18,(i64 t6)),(20,(ls Ai p0.decls)),(21,Ee),(23,(i64 t6)),(30,(Ed t6)),(34,(.fn 34 [Ar]))],[(Bs s0_0 s0_1),CY,⟨0,30,2,[[(ow 3 0 q3.decls),(ow 4 0 l7)]]⟩,(ro 0 81 3 (Aj 111 3) q3.decls),(CA l7)]⟩:=(hA19 _ _ _).2 (by
   refine At [1,6,15] U (by kernel_rfl) (by decide) ⟨?_,?_,?_,trivial⟩
   ·refine BJ.of (i:=1) rfl U (by rfl) ?_
    refine zq tb U (AA ⟨U,?_⟩)
    exact AM (by exact AD U) (Ad (by kernel_rfl) ((hA19 _ _ _).1 A19_0123457bcdei)) rfl
   ·refine BJ.of (i:=6) rfl U (by rfl) ?_
    refine zq tb U (AA ⟨U,?_⟩)
    exact AM (by exact AD U) (Ad (by kernel_rfl) ((hA19 _ _ _).1 A19_0234567bcdei)) rfl
   ·refine BJ.of (i:=15) rfl U (by rfl) ?_
    refine zq tb U (AA ⟨U,?_⟩)
    exact AM (by exact AD U) (Ad (by kernel_rfl) ((hA19 _ _ _).1 A19_023457bcdefi)) rfl)
  have A19_023457bcdi:A19 13 (bm 23 276669) ⟨49,AP [(1,(.fn 34 [Ar])),(2,(DK p0)),(4,Ay),(6,BK),(7,(i64 t6)),(12,(i64 (Sh.len q3.funcs))),(13,(i64 t6)),(16,Ee),(18,(i64 t6)),(20,(ls Ai p0.decls)),(21,Ee),(23,(i64 t6)),(28,(ow 4 0 l7)),(29,(i64 t6)),(34,(.fn 34 [Ar]))],[(Bs s0_0 s0_1),CY,⟨0,30,2,[[(ow 3 0 q3.decls),(ow 4 0 l7)]]⟩,(ro 0 81 3 (Aj 111 3) q3.decls),(CA l7)]⟩:=(hA19 _ _ _).2 (by
   refine At [1,6,14] U (by kernel_rfl) (by decide) ⟨?_,?_,?_,trivial⟩
   ·refine BJ.of (i:=1) rfl U (by rfl) ?_
    refine zq tb U (AA ⟨U,?_⟩)
    exact AM (by exact AD U) (Ad (by kernel_rfl) ((hA19 _ _ _).1 A19_0123457bcdi)) rfl
   ·refine BJ.of (i:=6) rfl U (by rfl) ?_
    refine zq tb U (AA ⟨U,?_⟩)
    exact AM (by exact AD U) (Ad (by kernel_rfl) ((hA19 _ _ _).1 A19_0234567bcdi)) rfl
   ·refine BJ.of (i:=14) rfl U (by rfl) ?_
    refine zz (Ed t6) (Bf CR U U U U gc17) rfl (AA ⟨U,?_⟩)
    exact AM (by exact AD U) (Ad (by kernel_rfl) ((hA19 _ _ _).1 A19_023457bcdei)) rfl)
  have A19_023457bdi:A19 14 (bm 23 272573) ⟨49,AP [(1,(.fn 34 [Ar])),(2,(DK p0)),(4,Ay),(6,BK),(7,(i64 t6)),(12,(i64 (Sh.len q3.funcs))),(13,(i64 t6)),(16,Ee),(18,(i64 t6)),(20,(ls Ai p0.decls)),(21,Ee),(23,(i64 t6)),(27,Ee),(29,(i64 t6)),(34,(.fn 34 [Ar]))],[(Bs s0_0 s0_1),CY,⟨0,30,2,[[(ow 3 0 q3.decls),(ow 4 0 l7)]]⟩,(ro 0 81 3 (Aj 111 3) q3.decls),(CA l7)]⟩:=(hA19 _ _ _).2 (by
   refine At [1,6,12] U (by kernel_rfl) (by decide) ⟨?_,?_,?_,trivial⟩
   ·refine BJ.of (i:=1) rfl U (by rfl) ?_
    refine zq tb U (AA ⟨U,?_⟩)
    exact AM (by exact AD U) (Ad (by kernel_rfl) ((hA19 _ _ _).1 A19_0123457bdi)) rfl
   ·refine BJ.of (i:=6) rfl U (by rfl) ?_
    refine zq tb U (AA ⟨U,?_⟩)
    exact AM (by exact AD U) (Ad (by kernel_rfl) ((hA19 _ _ _).1 A19_0234567bdi)) rfl
   ·refine BJ.of (i:=12) rfl U (by rfl) ?_
    refine zq tb U (AA ⟨U,?_⟩)
    exact AM (by exact AD U) (Ad (by kernel_rfl) ((hA19 _ _ _).1 A19_023457bcdi)) rfl)
  refine (hA19 _ _ _).2 ?_
  exact AM (by exact A4 (L:=[(1,(.fn 34 [Ar])),(2,(DK p0)),(4,Ay),(6,BK),(7,(i64 t6)),(12,(i64 (Sh.len q3.funcs))),(13,(i64 t6)),(16,Ee),(18,(i64 t6)),(20,(ls Ai p0.decls)),(21,Ee),(23,(i64 t6)),(27,Ee),(29,(i64 t6)),(34,(.fn 34 [Ar]))]) (st':=[(Bs s0_0 s0_1),CY,⟨0,30,2,[[(ow 3 0 q3.decls),(ow 4 0 l7)]]⟩,(ro 0 81 3 (Aj 111 3) q3.decls),(CA l7)]) (st1:=[(Bs s0_0 s0_1),CY,⟨0,30,2,[[(ow 2 0 q3.decls),(ow 3 0 l7)]]⟩,(ro 0 81 3 (Aj 111 3) q3.decls),(CA l7)]) [0,1,4,2,3] U (.raw U U .nil) (by decide) rfl U (.raw U U (.raw U U (.raw U U (.deep (AL fun _=>U) (.deep (AL fun _=>U) .nil))))) (.same U)) (Ad (by kernel_rfl) ((hA19 _ _ _).1 A19_023457bdi)) rfl
 ·intro b13 h1
  exact Aw (M9 l7 (Sh.AB h1).symm _ (AD U))
theorem T6 {N:Nat} {p0:Aa} {r:Aa×Bool} (h0:HD N p0=some r):Ag Tryz.prog 14 [(HM p0)] [] (fun v st=>v=(.DT [(.agg (Th r.1.decls r.1.funcs)),(.bool r.2)])∧st=[(EC r.1.decls),(CA r.1.funcs)]):=by
 unfold HD at h0
 refine Ag.wk (r0:=(.DT [(.agg (Th r.1.decls r.1.funcs)),(.bool r.2)])) (st0:=(aE r.1.decls r.1.funcs)) ?_ (Ev (L:=[(0,(.DT [(.agg (Th r.1.decls r.1.funcs)),(.bool r.2)]))]) (st':=[(EC r.1.decls),(CA r.1.funcs)]) [0,1] U (by decide) rfl U (.deep (AL fun _=>U) (.deep (AL fun _=>U) trivial)) (.same U))
 refine ai Tryz.func14 U U U U (sr U fun K1 hK1=>BH (m:=0) Ah U U U U U (A0 (m:=1) Ah HY U U (zq tb U (dn hK1 U (AF fun K2 hK2=>sr U fun K3 hK3=>zq tb U (bs h0 fun q4 gq4 h0=>zc cL (I8 gq4) rfl U U (zq tb U ?_)))))))
 refine dn hK3 U ?_
 refine ci h0 U ?_ ?_ <;> clear h0
 ·intro b5 h0
  have b6:q4=false:=by simpa using b5
  refine sr U fun K7 hK7=>zz (.agg [.zc,.zc]) (FG Sw TJ HY U U) rfl (A1 Ah FV U U U U U U (show 0+2≤2 by decide) rfl (zq tb U (dn hK7 U ?_)))
  replace h0:=Sh.AB h0
  subst r
  exact AJ (Exists.intro _ (And.intro ((((Fq (id:=1) (st':=[(Bs p0.decls p0.funcs),⟨0,30,2,[[(.own 2 0 (List.length ([]:List Ab))),.zc]]⟩,Vg]) (j:=0) rfl U 81 (size':=3) (by decide) rfl U U U).trans (Fq (id:=1) (st':=[(Bs p0.decls p0.funcs),⟨0,30,2,[[(.own 2 0 (List.length ([]:List Ab))),Y1]]⟩,Vg,Uo]) (j:=1) rfl U 48 (size':=5) (by decide) rfl U U U)).trans (A4 (L:=[(2,BK),(3,(.bool false))]) (st':=[Vg,Uo,⟨0,30,2,[dX]⟩]) (st1:=[Vg,Uo,⟨0,30,2,[[(.own 2 0 (List.length ([]:List Ab))),Y1]]⟩]) [2,3,1] U .nil (by decide) rfl U (.deep (AL fun _=>U) (.deep (AL fun _=>U) (.raw U U .nil))) (.same U))).trans (AT (L:=[(2,BK),(3,(.bool false))]) (.same U))) (BE (x:=.tmp 2) (off:=0) (cs:=dX) (vs:=dX) FV U U U (show 0+2≤2 by decide) rfl _ ⟨U,U⟩)))
 ·intro b5 h0
  have b8:q4=true:=by simpa using b5
  refine AI (hK2 _ (sr U fun K9 hK9=>zq tb U (zz (.fn 34 [Ar]) (W8 U) rfl (bs h0 fun q10 gq10 h0=>?_))))
  refine Gu (rowsP:=[(Bs p0.decls p0.funcs)]) (rows0:=[(Bs p0.decls p0.funcs)]) (rows1:=[(Bs p0.decls p0.funcs)]) (rows2:=[(EC q10.1.decls),(CA q10.1.funcs)]) (rows1':=[(Bs p0.decls p0.funcs)]) (rows2':=[(EC q10.1.decls),(CA q10.1.funcs)]) (st':=[(Bs p0.decls p0.funcs),CY,(EC q10.1.decls),(CA q10.1.funcs)]) (v':=(.DT [(.agg [(ow 2 0 q10.1.decls),(ow 3 0 q10.1.funcs)]),(.bool q10.2)])) [0] Ah ct (Ji gq10) rfl (by decide) rfl U (.raw U U .nil) rfl U (.raw U U .nil) (.deep (AL fun _=>U) (.deep (AL fun _=>U) .nil)) rfl U ?_
  refine zm tb 2 U (A1 Ah FV U U U U U U (show 0+2≤2 by decide) rfl (zq tb U (dn hK9 U ?_)))
  replace h0:=Sh.AB h0
  subst r
  exact AJ (Exists.intro _ (And.intro ((A4 (L:=[(2,BK),(3,(.bool q10.2))]) (st':=(aE q10.1.decls q10.1.funcs)) (st1:=[(EC q10.1.decls),(CA q10.1.funcs),(Jq q10.1.decls q10.1.funcs)]) [2,3,1] U .nil (by decide) rfl U (.deep (AL fun _=>U) (.deep (AL fun _=>U) (.raw U U .nil))) (.same U)).trans (AT (L:=[(2,BK),(3,(.bool q10.2))]) (.same U))) (BE (x:=.tmp 2) (off:=0) (cs:=(Th q10.1.decls q10.1.funcs)) (vs:=(Th q10.1.decls q10.1.funcs)) FV U U U (show 0+2≤2 by decide) rfl _ ⟨U,U⟩)))
theorem MT {N:Nat} {p0:(List Int)} {p1:(List Int)} {r:Bool} (h0:HO N p0 p1=some r):Ag Tryz.prog 108 [(ls eI p0),(ls eI p1)] [] (fun v st=>v=(.bool r)∧st=[]):=by
 unfold HO at h0
 refine ai Tryz.func108 U U U U (zr tb U U (AF fun K2 hK2=>sr U fun K3 hK3=>zq tb U (zl tb U U (zq tb U (zl tb U U (zq tb U (dn hK3 U ?_)))))))
 refine ci h0 U ?_ ?_ <;> clear h0
 ·intro b4 h0
  have b5:decide ((Sh.len p0)=(Sh.len p1))=false:=by simpa using b4
  refine zr tb U U ?_
  replace h0:=Sh.AB h0
  subst r
  exact AJ (xr (AT (L:=[(4,(.bool false))]) (.same U)))
 ·intro b4 h0
  have b7:decide ((Sh.len p0)=(Sh.len p1))=true:=by simpa using b4
  refine AI (hK2 _ (AF fun K8 hK8=>zr tb U U ?_))
  obtain⟨o11,h1,h0⟩:=Sh.BF h0
  have M11 :∀(_:Unit),o11=Sum.inr ()→∀s,Wk 0 s ⟨26,AP [],[]⟩→K8 s:=by
   intro _ hq s hw
   subst o11
   try dsimp only at h0
   refine hK8 _ (AR hw (zr tb U U ?_))
   replace h0:=Sh.AB h0
   subst r
   exact AJ (xr (AT (L:=[(4,(.bool true))]) (.same U)))
  refine AU (As (σ:=Int) (fun n v=>Dz p0 p1 n v=some o11) (fun i10=>⟨26,AP [(0,(ls eI p0)),(1,(ls eI p1)),(5,(i64 i10))],[]⟩) N 0 h1 (AD U) (fun _ hv=>by rw[Dz] at hv;cases hv) ?_)
  rintro n i10 h1
  try dsimp only at h1 ⊢
  rw[Dz] at h1
  refine AF fun K13 hK13=>sr U fun K14 hK14=>zm tb 2 U (zl tb U U (zq tb U (dn hK14 U ?_)))
  refine ci h1 U ?_ ?_ <;> clear h1
  ·intro b15 h1
   refine AI (hK13 _ (AF fun K16 hK16=>AU (AF fun K17 hK17=>?_)))
   refine By (by kernel_rfl) (by kernel_rfl) (by rfl) ?_
   iterate 2 refine yq tb rfl ?_
   refine bs h1 fun c18 gc18 h1=>yx Bm gc18 U U U ?_
   iterate 3 refine yq tb rfl ?_
   refine bs h1 fun c19 gc19 h1=>yx Bm gc19 U U U ?_
   iterate 2 refine yq tb rfl ?_
   refine BR (hK17 _ ?_)
   refine ci h1 U ?_ ?_ <;> clear h1
   ·intro b20 h1
    have b21:decide (c18=c19)=false:=by simpa using b20
    refine zr tb U U ?_
    replace h1:=Sh.AB h1
    subst o11
    try dsimp only[id] at h0
    replace h0:=Sh.AB h0
    subst r
    exact AJ (xr (AT (L:=[(4,(.bool false))]) (.same U)))
   ·intro b20 h1
    have b23:decide (c18=c19)=true:=by simpa using b20
    exact AI (hK16 _ (AK U (zm tb 3 U (AA (xi (Sh.w (i10+1)) h1 (AD U))))))
  ·intro b15 h1
   exact Aw (M11 () (Sh.AB h1).symm _ (AD U))
theorem Sx {N:Nat} {p0:BU} {p1:BU} {r:Bool} (h0:Jd N p0 p1=some r):Ag Tryz.prog 132 [(.agg (BZ p0)),(.agg (BZ p1))] [] (fun v st=>v=(.bool r)∧st=[]):=by
 unfold Jd at h0
 refine ai Tryz.func132 U U U U (sr U fun K1 hK1=>BH (m:=0) Ah U U U U U (BH (m:=1) Ah U U U U U (zq tb U (dn hK1 U (AF fun K2 hK2=>sr U fun K3 hK3=>zm tb 4 U (bs h0 fun q4 gq4 h0=>zc aV (MT gq4) rfl U U (zq tb U ?_)))))))
 refine dn hK3 U ?_
 refine ci h0 U ?_ ?_ <;> clear h0
 ·intro b5 h0
  have b6:q4=false:=by simpa using b5
  refine zr tb U U ?_
  replace h0:=Sh.AB h0
  subst r
  exact AJ (xr (An [(4,(.bool false))] U))
 ·intro b5 h0
  have b8:q4=true:=by simpa using b5
  refine AI (hK2 _ (zr tb U U ?_))
  replace h0:=Sh.AB h0
  subst r
  exact AJ (xr (An [(4,(.bool true))] U))
theorem RT {N:Nat} {p0:(List BU)} {p1:(List BU)} {r:Bool} (h0:Im N p0 p1=some r):Ag Tryz.prog 107 [(ls BZ p0),(ls BZ p1)] [] (fun v st=>v=(.bool r)∧st=[]):=by
 unfold Im at h0
 refine ai Tryz.func107 U U U U (zr tb U U (AF fun K2 hK2=>sr U fun K3 hK3=>zq tb U (zl tb U U (zq tb U (zl tb U U (zq tb U (dn hK3 U ?_)))))))
 refine ci h0 U ?_ ?_ <;> clear h0
 ·intro b4 h0
  have b5:decide ((Sh.len p0)=(Sh.len p1))=false:=by simpa using b4
  refine zr tb U U ?_
  replace h0:=Sh.AB h0
  subst r
  exact AJ (xr (AT (L:=[(4,(.bool false))]) (.same U)))
 ·intro b4 h0
  have b7:decide ((Sh.len p0)=(Sh.len p1))=true:=by simpa using b4
  refine AI (hK2 _ (AF fun K8 hK8=>zr tb U U ?_))
  obtain⟨o11,h1,h0⟩:=Sh.BF h0
  have M11 :∀(_:Unit),o11=Sum.inr ()→∀s,Wk 0 s ⟨27,AP [],[]⟩→K8 s:=by
   intro _ hq s hw
   subst o11
   try dsimp only at h0
   refine hK8 _ (AR hw (zr tb U U ?_))
   replace h0:=Sh.AB h0
   subst r
   exact AJ (xr (AT (L:=[(4,(.bool true))]) (.same U)))
  refine AU (As (σ:=Int) (fun n v=>Ek N p0 p1 n v=some o11) (fun i10=>⟨27,AP [(0,(ls BZ p0)),(1,(ls BZ p1)),(5,(i64 i10))],[]⟩) N 0 h1 (AD U) (fun _ hv=>by rw[Ek] at hv;cases hv) ?_)
  rintro n i10 h1
  try dsimp only at h1 ⊢
  rw[Ek] at h1
  refine AF fun K13 hK13=>sr U fun K14 hK14=>zm tb 2 U (zl tb U U (zq tb U (dn hK14 U ?_)))
  refine ci h1 U ?_ ?_ <;> clear h1
  ·intro b15 h1
   refine AI (hK13 _ (AF fun K16 hK16=>AU (AF fun K17 hK17=>?_)))
   refine By (by kernel_rfl) (by kernel_rfl) (by rfl) ?_
   iterate 2 refine yq tb rfl ?_
   refine bs h1 fun c18 gc18 h1=>yx ID gc18 U U U ?_
   iterate 3 refine yq tb rfl ?_
   refine bs h1 fun c19 gc19 h1=>yx ID gc19 U U U (yq tb U (bs h1 fun q20 gq20 h1=>Bk (v:=(.bool q20)) Ah dm (Sx gq20) rfl U U (yq tb U (BR (hK17 _ ?_)))))
   refine ci h1 U ?_ ?_ <;> clear h1
   ·intro b21 h1
    have b22:q20=false:=by simpa using b21
    refine zr tb U U ?_
    replace h1:=Sh.AB h1
    subst o11
    try dsimp only[id] at h0
    replace h0:=Sh.AB h0
    subst r
    exact AJ (xr (AT (L:=[(4,(.bool false))]) (.same U)))
   ·intro b21 h1
    have b24:q20=true:=by simpa using b21
    exact AI (hK16 _ (AK U (zm tb 3 U (AA (xi (Sh.w (i10+1)) h1 (AD U))))))
  ·intro b15 h1
   exact Aw (M11 () (Sh.AB h1).symm _ (AD U))
end Go.Proofs.YtpahalfiiahddaaGreat

