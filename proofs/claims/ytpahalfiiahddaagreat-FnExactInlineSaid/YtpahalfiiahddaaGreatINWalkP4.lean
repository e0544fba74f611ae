import Derived.Test.YtpahalfiiahddaaGreatProg
import Derived.Test.YtpahalfiiahddaaGreatGAbsXToAbsZN
import Derived.Test.YtpahalfiiahddaaGreatGAbsZPToSSDefs
import Derived.Test.YtpahalfiiahddaaGreatGHADefsToINDefs
import Derived.Test.YtpahalfiiahddaaGreatCFWalk
import Derived.Test.YtpahalfiiahddaaGreatLAWalk
import Derived.Test.YtpahalfiiahddaaGreatINWalkP3
namespace Go.Proofs.YtpahalfiiahddaaGreat
open Go Go.Abs RC
attribute [local irreducible] Go.Abs.DF
set_option maxRecDepth 100000
set_option maxHeartbeats 4000000

theorem cV:HR Tryz.prog 30 0=some 0:=by kernel_rfl

theorem J4 {N:Nat} {s0_0:Int} {s1_0:(List Ab)} {s1_1:(List Ah)} {p0:AN} {r:AN×Bool×Int} (h0:HT N s0_0 s1_0 s1_1 p0=some r):Aa Tryz.prog 25 [(HH p0),(.fn 39 [Am,Aq])] [(Bx s0_0),(Bz s1_0 s1_1)] (fun v st=>v=(.DE [(.agg [(ow 2 0 r.1.decls),(ow 3 0 r.1.funcs)]),(.bool r.2.1)])∧st=[(Bx r.2.2),(Bz s1_0 s1_1),(FD r.1.decls),(CM r.1.funcs)]):=by
 unfold HT at h0
 refine Aa.wk (r0:=(.DE [(.agg [(ow 2 0 r.1.decls),(ow 3 0 r.1.funcs)]),(.bool r.2.1)])) (st0:=[(Bx r.2.2),(Bz s1_0 s1_1),(FD r.1.decls),(CM r.1.funcs),(KM r.1.decls r.1.funcs)]) ?_ (FZ (L:=[(0,(.DE [(.agg [(ow 2 0 r.1.decls),(ow 3 0 r.1.funcs)]),(.bool r.2.1)]))]) (st':=[(Bx r.2.2),(Bz s1_0 s1_1),(FD r.1.decls),(CM r.1.funcs)]) [0,1,2,3] U (by decide) rfl U (.raw U (.raw U (.deep (AR fun _=>U) (.deep (AR fun _=>U) trivial)))) (.same U))
 refine ai Tryz.func25 U U U U (sr U fun K1 hK1=>A7 (m:=2) Ac U U U U U (Af (Wk.DN (L:=[(1,(.fn 39 [Am,Aq])),(2,(Df p0))]) (st':=[(Bx s0_0),(Bz s1_0 s1_1),⟨1,30,2,[]⟩]) (id:=2) rfl (show 2≤2 by decide) (GD U) (.same U) rfl) (As (m:=3) Ac H5 U U (zq tb U (dn hK1 U (sr U fun K2 hK2=>zq tb U (bs h0 fun q3 gq3 h0=>BF (v':=(.agg [(ow 4 0 q3.decls),(ow 5 0 q3.funcs)])) Ac (hb 55) (NS gq3) rfl U ⟨(AR fun _=>U),⟨(AR fun _=>U),trivial⟩⟩ U U (As (m:=6) Ac H5 U U ?_))))))))
 refine Ay Ac Fw U U U U U U (show 0+2≤2 by decide) rfl (dn hK2 U (AB fun K4 hK4=>sr U fun K5 hK5=>zm tb 2 U (zz (i64 (Sh.len q3.funcs)) (Cw Vo U U U) rfl (zq tb U (dn hK5 U ?_)))))
 obtain⟨o11,h1,h0⟩:=Sh.A8 h0
 have M11 :∀(f9:Int) (l10:(List Ah)),o11=Sum.inr (f9,l10)→∀s,Wk 2 s ⟨49,AL [(4,BD),(6,RL)],[(Bx f9),(Bz s1_0 s1_1),Cd,(ro 0 81 3 (Ad 111 3) q3.decls),(CM l10),⟨0,30,2,[[(ow 3 0 q3.decls),(ow 4 0 l10)]]⟩]⟩→K4 s:=by
  intro f9 l10 hq s hw
  subst o11
  try dsimp only at h0
  refine hK4 _ (AM hw (sr U fun K12 hK12=>zq tb U (Ay Ac Fw U U U U U U (show 0+2≤2 by decide) rfl (zq tb U (dn hK12 U ?_)))))
  obtain rfl:=Sh.AA h0
  exact AI (Exists.intro _ (And.intro ((A5 (L:=[(4,Fc),(5,(.bool true))]) (st':=[(Bx f9),(Bz s1_0 s1_1),(ro 0 81 3 (Ad 111 3) q3.decls),(CM l10),⟨0,30,2,[[(ow 2 0 q3.decls),(ow 3 0 l10)]]⟩]) (st1:=[(Bx f9),(Bz s1_0 s1_1),(ro 0 81 3 (Ad 111 3) q3.decls),(CM l10),⟨0,30,2,[[(ow 3 0 q3.decls),(ow 4 0 l10)]]⟩]) [0,1,3,4,2] U (.raw U U (.raw U U .nil)) (by decide) rfl U (.raw U U (.raw U U (.deep (AR fun _=>U) (.deep (AR fun _=>U) (.raw U U .nil))))) (.same U)).trans (AS (L:=[(4,Fc),(5,(.bool true))]) (.same U))) (BM (x:=.tmp 4) (off:=0) (cs:=[(ow 2 0 q3.decls),(ow 3 0 l10)]) (vs:=[(ow 2 0 q3.decls),(ow 3 0 l10)]) Fw U U U (show 0+2≤2 by decide) rfl _ ⟨U,U⟩)))
 refine AP (Ak (σ:=Int×Int×(List Ah)) (fun n v=>Cb N s1_0 s1_1 p0 q3 n v.1 v.2.1 v.2.2=some o11) (fun (t6,f7,l8)=>⟨49,AL [(1,(.fn 39 [(.ptr 0 0 0 0),(.ptr 1 0 0 0)])),(2,(.Bd [(ls AT p0.decls),(ls Ar p0.funcs)] 0)),(4,(.ptr 2 0 0 0)),(6,(.ptr 5 0 0 0)),(12,(i64 (Sh.len q3.funcs))),(13,(i64 t6))],[(Bx f7),(Bz s1_0 s1_1),Cd,(ro 0 81 3 (Ad 111 3) q3.decls),(ro 0 48 5 (A2 3 44) l8),⟨0,30,2,[[(ow 3 0 q3.decls),(ow 4 0 l8)]]⟩]⟩) N (0,s0_0,q3.funcs) h1 (A5 (L:=[(1,(.fn 39 [(.ptr 0 0 0 0),(.ptr 1 0 0 0)])),(2,(.Bd [(ls AT p0.decls),(ls Ar p0.funcs)] 0)),(4,(.ptr 2 0 0 0)),(6,(.ptr 5 0 0 0)),(12,(i64 (Sh.len q3.funcs))),(13,(i64 0))]) (st':=[(Bx s0_0),(Bz s1_0 s1_1),Cd,(ro 0 81 3 (Ad 111 3) q3.decls),(ro 0 48 5 (A2 3 44) q3.funcs),⟨0,30,2,[[(ow 3 0 q3.decls),(ow 4 0 q3.funcs)]]⟩]) (st1:=[(Bx s0_0),(Bz s1_0 s1_1),Cd,(ro 0 81 3 (Ad 111 3) q3.decls),(ro 0 48 5 (A2 3 44) q3.funcs),⟨0,30,2,[[(ow 4 0 q3.decls),(ow 5 0 q3.funcs)]]⟩]) [0,1,3,4,5,6] U (.raw U U (.raw U U .nil)) (by decide) rfl U (.raw U U (.raw U U (.raw U U (.deep (AR fun _=>U) (.deep (AR fun _=>U) (.raw U U .nil)))))) (.same U)) (fun _ hv=>by rw[Cb] at hv;cases hv) ?_)
 rintro n ⟨t6,f7,l8⟩ h1
 try dsimp only at h1 ⊢
 rw[Cb] at h1
 refine zr tb U U (AB fun K14 hK14=>?_)
 refine ci h1 U ?_ ?_ <;> clear h1 <;> intro b15 h1
 ·refine AG (hK14 _ (AB fun K16 hK16=>AP (zr tb U U (AB fun K18 hK18=>?_))))
  refine Nt (by kernel_rfl) ?_
  refine bs h1 fun c19 gc19 h1=>bs h1 fun q20 gq20 h1=>?_
  refine UP (f':=23) (listed':=(bm 23 0)) rfl (by kernel_rfl) ?_
  refine CF 0 (v:=(.ptr 5 0 0 1)) rfl U (by kernel_rfl) (by kernel_rfl) (by kernel_rfl) rfl (D8 (Ic OZ U U (show 0+1≤2 by decide) rfl)) ?_
  refine CF 2 (v:=(i64 t6)) rfl U (by kernel_rfl) (by kernel_rfl) (by kernel_rfl) rfl (D8 (CR U)) ?_
  refine CF 3 (v:=(Df p0)) rfl U (by kernel_rfl) (by kernel_rfl) (by kernel_rfl) rfl (D8 (Md cV U U)) ?_
  refine CF 4 (v:=(ls AT p0.decls)) rfl U (by kernel_rfl) (by kernel_rfl) (by kernel_rfl) rfl (Pg dd U U) ?_
  refine CF 5 (v:=(.ptr 5 0 0 1)) rfl U (by kernel_rfl) (by kernel_rfl) (by kernel_rfl) rfl (D8 (Ic OZ U U (show 0+1≤2 by decide) rfl)) ?_
  refine CF 7 (v:=(i64 t6)) rfl U (by kernel_rfl) (by kernel_rfl) (by kernel_rfl) rfl (D8 (CR U)) ?_
  refine CF 11 (v:=(.ptr 5 0 0 1)) rfl U (by kernel_rfl) (by kernel_rfl) (by kernel_rfl) rfl (D8 (Ic OZ U U (show 0+1≤2 by decide) rfl)) ?_
  refine CF 13 (v:=(i64 t6)) rfl U (by kernel_rfl) (by kernel_rfl) (by kernel_rfl) rfl (D8 (CR U)) ?_
  refine CF 18 (v:=(.fn 39 [Am,Aq])) rfl U (by kernel_rfl) (by kernel_rfl) (by kernel_rfl) rfl (D8 (CR U)) ?_
  refine UM (R3 fun A21 hA21=>?_)
  have A21_0123456789abcdefghijklm:A21 0 (bm 23 8388607) ⟨49,AL [(1,(.fn 39 [Am,Aq])),(2,(Df p0)),(4,BD),(6,Bg),(7,(i64 t6)),(12,(i64 (Sh.len q3.funcs))),(13,(i64 t6))],[(Bx q20.2),(Bz s1_0 s1_1),Cd,⟨0,30,2,[[(ow 4 0 q3.decls),(ow 5 0 (Sh.put l8 t6 (Ah.mk c19.params c19.result q20.1)))]]⟩,(ro 0 81 3 (Ad 111 3) q3.decls),(ro 0 48 5 (A2 3 44) (Sh.put l8 t6 (Ah.mk c19.params c19.result q20.1)))]⟩:=(hA21 _ _ _).2 (by
   refine PV U (by kernel_rfl) ?_
   refine hK18 _ (sr U fun K22 hK22=>zm tb 3 U (bs h1 fun c23 gc23 h1=>zz (E8 t6) (Bb B3 U U U U gc23) rfl (zq tb U (Af (Bj (id:=5) (j:=4) (i:=t6) (c:=c23) (ys:=c23.body.kids) (encY:=(Au 44)) rfl gc23 U U U U U) (zz (OF c23) (BM Cz U U (Be gc23) (show 2+3≤5 by decide) rfl) rfl (bs h1 fun q24 gq24 h1=>Jv (v':=(i64 q24)) Ac (hb 57) (MM gq24) rfl (.agg (.val U (.val U (.ownD U U Ag (fun x=>Kc x) .nil))) .nil) rfl trivial U U ?_))))))
   refine Af (Wk.take (id:=5) (m:=6) (j:=4) (i:=t6) (c:=c23) (ys:=c23.body.kids) (encY:=(Au 44)) rfl gc23 U U U (by decide) (show 2≤6 by decide) Dz U U) ?_
   refine Af (Kq (id:=5) (i:=t6) (c:=c23) rfl gc23 U U) (zq tb U (dn hK22 U ?_))
   refine ci h1 U ?_ ?_ <;> clear h1 <;> intro b25 h1
   ·refine sr U fun K26 hK26=>zz (.agg [.zc,.zc]) (GA TW Tu H5 U U) rfl (Ay Ac Fw U U U U U U (show 0+2≤2 by decide) rfl (zq tb U (dn hK26 U ?_)))
    obtain rfl:=Sh.AA h1
    try dsimp only[id] at h0
    obtain rfl:=Sh.AA h0
    exact AI (Exists.intro _ (And.intro ((((G1 (id:=2) (st':=[(Bx q20.2),(Bz s1_0 s1_1),⟨0,30,2,[[(.own 7 0 (List.length ([]:List Ab))),.zc]]⟩,⟨0,30,2,[[(ow 4 0 q3.decls),(ow 5 0 (Sh.put l8 t6 (Ah.mk c19.params c19.result q20.1)))]]⟩,(ro 0 81 3 (Ad 111 3) q3.decls),(ro 0 48 5 (A2 3 44) (Sh.put l8 t6 (Ah.mk c19.params c19.result q20.1))),C8,XQ]) (j:=0) rfl U 81 (size':=3) (by decide) rfl U U U).trans (G1 (id:=2) (st':=[(Bx q20.2),(Bz s1_0 s1_1),⟨0,30,2,[[(.own 7 0 (List.length ([]:List Ab))),(.own 8 0 (List.length ([]:List Ah)))]]⟩,⟨0,30,2,[[(ow 4 0 q3.decls),(ow 5 0 (Sh.put l8 t6 (Ah.mk c19.params c19.result q20.1)))]]⟩,(ro 0 81 3 (Ad 111 3) q3.decls),(ro 0 48 5 (A2 3 44) (Sh.put l8 t6 (Ah.mk c19.params c19.result q20.1))),C8,XQ,Zo]) (j:=1) rfl U 48 (size':=5) (by decide) rfl U U U)).trans (A5 (L:=[(4,Fc),(5,(.bool false))]) (st':=[(Bx q20.2),(Bz s1_0 s1_1),XQ,Zo,⟨0,30,2,[ea]⟩]) (st1:=[(Bx q20.2),(Bz s1_0 s1_1),XQ,Zo,⟨0,30,2,[[(.own 7 0 (List.length ([]:List Ab))),(.own 8 0 (List.length ([]:List Ah)))]]⟩]) [0,1,7,8,2] U (.raw U U (.raw U U .nil)) (by decide) rfl U (.raw U U (.raw U U (.deep (AR fun _=>U) (.deep (AR fun _=>U) (.raw U U .nil))))) (.same U))).trans (AS (L:=[(4,Fc),(5,(.bool false))]) (.same U))) (BM (x:=.tmp 4) (off:=0) (cs:=ea) (vs:=ea) Fw U U U (show 0+2≤2 by decide) rfl _ ⟨U,U⟩)))
   ·refine AG (hK16 _ (AF U (zm tb 2 U ?_)))
    exact AE (xi (Sh.w (t6+1),q20.2,Sh.put l8 t6 (Ah.mk c19.params c19.result q20.1)) h1 (by exact A5 (L:=[(1,(.fn 39 [Am,Aq])),(2,(Df p0)),(4,BD),(6,RL),(12,(i64 (Sh.len q3.funcs))),(13,(Ka t6))]) (st':=[(Bx q20.2),(Bz s1_0 s1_1),Cd,(ro 0 81 3 (Ad 111 3) q3.decls),(ro 0 48 5 (A2 3 44) (Sh.put l8 t6 (Ah.mk c19.params c19.result q20.1))),⟨0,30,2,[[(ow 3 0 q3.decls),(ow 4 0 (Sh.put l8 t6 (Ah.mk c19.params c19.result q20.1)))]]⟩]) (st1:=[(Bx q20.2),(Bz s1_0 s1_1),Cd,(ro 0 81 3 (Ad 111 3) q3.decls),(ro 0 48 5 (A2 3 44) (Sh.put l8 t6 (Ah.mk c19.params c19.result q20.1))),⟨0,30,2,[[(ow 4 0 q3.decls),(ow 5 0 (Sh.put l8 t6 (Ah.mk c19.params c19.result q20.1)))]]⟩]) [0,1,2,4,5,3] U (.raw U U (.raw U U .nil)) (by decide) rfl U (.raw U U (.raw U U (.raw U U (.deep (AR fun _=>U) (.deep (AR fun _=>U) (.raw U U .nil)))))) (.same U))))
  have A21_0123456789abcdefghijkl:A21 1 (bm 23 4194303) ⟨49,AL [(1,(.fn 39 [Am,Aq])),(2,(Df p0)),(4,BD),(6,Bg),(7,(i64 t6)),(12,(i64 (Sh.len q3.funcs))),(13,(i64 t6)),(35,(aT q20.1.op q20.1.num q20.1.kids)),(37,(RW t6))],[(Bx q20.2),(Bz s1_0 s1_1),Cd,⟨0,30,2,[[(ow 4 0 q3.decls),(ow 5 0 l8)]]⟩,(ro 0 81 3 (Ad 111 3) q3.decls),(Oo l8 t6 c19),(ro 0 3 1 eI c19.params),C8,(CI q20.1.kids)]⟩:=(hA21 _ _ _).2 (by
   refine ya [22] ⟨?_,trivial⟩
   ·refine yo 22 ?_
    refine ZZ (x':=[(ow 6 0 c19.params),(i64 c19.result),(i64 q20.1.op),(i64 q20.1.num),(ow 8 0 q20.1.kids)]) (st':=[(Bx q20.2),(Bz s1_0 s1_1),Cd,⟨0,30,2,[[(ow 4 0 q3.decls),(ow 5 0 l8)]]⟩,(ro 0 81 3 (Ad 111 3) q3.decls),⟨0,48,5,hole l8 (A2 3 44) t6 [(ow 6 0 c19.params),(i64 c19.result),(i64 q20.1.op),(i64 q20.1.num),(ow 8 0 q20.1.kids)]⟩,(ro 0 3 1 eI c19.params),C8,(CI q20.1.kids)]) Ac Cz U U gc19 U U U (show 2+3≤5 by decide) rfl U ?_
    refine Af (Wk.take (id:=5) (m:=6) (j:=0) (i:=t6) (c:=c19) (ys:=c19.params) (encY:=eI) rfl gc19 U U U (by decide) (show 2≤6 by decide) (fun _=>U) rfl U) ?_
    refine Af (Wk.take (id:=5) (m:=8) (j:=4) (i:=t6) (c:=c19) (ys:=q20.1.kids) (encY:=(Au 44)) rfl gc19 U U U (by decide) (show 2≤8 by decide) Dz U U) ?_
    refine Af (Ew (id:=5) (i:=t6) (u:=(Ah.mk c19.params c19.result q20.1)) rfl U U) (AE ⟨U,?_⟩)
    exact QX (by refine Wk.trans (AS (L:=[(1,(.fn 39 [(.ptr 0 0 0 0),(.ptr 1 0 0 0)])),(2,(.Bd [(.sl (List.map AT p0.decls)),(.sl (List.map Ar p0.funcs))] 0)),(4,(.ptr 2 0 0 0)),(6,(.ptr 3 0 0 0)),(7,(i64 t6)),(12,(i64 (Sh.len q3.funcs))),(13,(i64 t6))]) (.same U)) ?_;refine Wk.trans (C9 (st:=[(Bx q20.2),⟨0,30,2,[[(.sl (List.map AT s1_0)),(.sl (List.map Ar s1_1))]]⟩,Cd,⟨0,30,2,[[(.own 4 0 (List.length q3.decls)),(.own 5 0 (List.length l8))]]⟩,⟨0,81,3,List.map (Ad 111 3) q3.decls⟩,⟨0,48,5,List.map (A2 3 44) (Sh.put l8 t6 (Ah.mk c19.params c19.result q20.1))⟩,⟨1,3,1,[]⟩,⟨1,44,3,[]⟩,⟨1,44,3,[]⟩]) (st':=[(Bx q20.2),⟨0,30,2,[[(.sl (List.map AT s1_0)),(.sl (List.map Ar s1_1))]]⟩,Cd,⟨0,30,2,[[(.own 4 0 (List.length q3.decls)),(.own 5 0 (List.length (Sh.put l8 t6 (Ah.mk c19.params c19.result q20.1))))]]⟩,⟨0,81,3,List.map (Ad 111 3) q3.decls⟩,⟨0,48,5,List.map (A2 3 44) (Sh.put l8 t6 (Ah.mk c19.params c19.result q20.1))⟩,⟨1,3,1,[]⟩,⟨1,44,3,[]⟩,⟨1,44,3,[]⟩]) (by simp only[Sh.Az])) ?_;exact AU [0,1,2,3,4,5] U (by decide) rfl U (.raw U U (.raw U U (.raw U U (.raw U U (.deep (AR fun _=>U) (.deep (AR fun _=>U) .nil)))))) (.same U)) (Vc (by kernel_rfl) ((hA21 _ _ _).1 A21_0123456789abcdefghijklm)) rfl)
  have A21_0123456789abcdefghijk:A21 2 (bm 23 2097151) ⟨49,AL [(1,(.fn 39 [Am,Aq])),(2,(Df p0)),(4,BD),(6,Bg),(7,(i64 t6)),(12,(i64 (Sh.len q3.funcs))),(13,(i64 t6)),(35,(aT q20.1.op q20.1.num q20.1.kids)),(36,(E8 t6))],[(Bx q20.2),(Bz s1_0 s1_1),Cd,⟨0,30,2,[[(ow 4 0 q3.decls),(ow 5 0 l8)]]⟩,(ro 0 81 3 (Ad 111 3) q3.decls),(Oo l8 t6 c19),(ro 0 3 1 eI c19.params),C8,(CI q20.1.kids)]⟩:=(hA21 _ _ _).2 (by
   refine ya [21] ⟨?_,trivial⟩
   ·exact CH tb hA21 A21_0123456789abcdefghijkl)
  have A21_0123456789abcdefghij:A21 3 (bm 23 1048575) ⟨49,AL [(1,(.fn 39 [Am,Aq])),(2,(Df p0)),(4,BD),(6,Bg),(7,(i64 t6)),(12,(i64 (Sh.len q3.funcs))),(13,(i64 t6)),(17,(ow 5 0 l8)),(18,(i64 t6)),(35,(aT q20.1.op q20.1.num q20.1.kids))],[(Bx q20.2),(Bz s1_0 s1_1),Cd,⟨0,30,2,[[(ow 4 0 q3.decls),(ow 5 0 l8)]]⟩,(ro 0 81 3 (Ad 111 3) q3.decls),(Oo l8 t6 c19),(ro 0 3 1 eI c19.params),C8,(CI q20.1.kids)]⟩:=(hA21 _ _ _).2 (by
   refine ya [20] ⟨?_,trivial⟩
   ·refine yo 20 ?_
    exact zz (E8 t6) (LS B3 U U U U gc19) rfl (yd hA21 A21_0123456789abcdefghijk))
  have A21_0123456789abcdefghi:A21 4 (bm 23 524287) ⟨49,AL [(1,(.fn 39 [Am,Aq])),(2,(Df p0)),(4,BD),(6,Bg),(7,(i64 t6)),(12,(i64 (Sh.len q3.funcs))),(13,(i64 t6)),(17,(ow 5 0 l8)),(18,(i64 t6)),(20,(ls AT p0.decls)),(26,(VE c19)),(33,(i64 (Sh.len c19.params))),(34,(.fn 39 [Am,Aq]))],[(Bx f7),(Bz s1_0 s1_1),Cd,⟨0,30,2,[[(ow 4 0 q3.decls),(ow 5 0 l8)]]⟩,(ro 0 81 3 (Ad 111 3) q3.decls),(Oo l8 t6 c19),(ro 0 3 1 eI c19.params),(Iu c19)]⟩:=(hA21 _ _ _).2 (by
   refine ya [19] ⟨?_,trivial⟩
   ·refine yo 19 ?_
    refine H0 (rowsP:=[(Iu c19),(Bx f7),(Bz s1_0 s1_1)]) (rows0:=[(Iu c19),(Bx f7),(Bz s1_0 s1_1)]) (rows1:=[C8,(Bx q20.2),(Bz s1_0 s1_1)]) (rows2:=[(CI q20.1.kids)]) (rows1':=[C8,(Bx q20.2),(Bz s1_0 s1_1)]) (rows2':=[(CI q20.1.kids)]) (st':=[(Bx q20.2),(Bz s1_0 s1_1),Cd,⟨0,30,2,[[(ow 4 0 q3.decls),(ow 5 0 l8)]]⟩,(ro 0 81 3 (Ad 111 3) q3.decls),(Oo l8 t6 c19),(ro 0 3 1 eI c19.params),C8,(CI q20.1.kids)]) (v':=(aT q20.1.op q20.1.num q20.1.kids)) [7,0,1] Ac (hb 56) (I3 gq20) rfl (by decide) rfl U (.deep (AR Ag) (.raw U U (.raw U U .nil))) rfl U (.pure (by intro x hx;cases hx) (.raw U U (.raw U U .nil))) (.deep (AR Ag) .nil) rfl U ?_
    exact yd hA21 A21_0123456789abcdefghij)
  have A21_0123456789abcdefgi:A21 5 (bm 23 393215) ⟨49,AL [(1,(.fn 39 [Am,Aq])),(2,(Df p0)),(4,BD),(6,Bg),(7,(i64 t6)),(12,(i64 (Sh.len q3.funcs))),(13,(i64 t6)),(17,(ow 5 0 l8)),(18,(i64 t6)),(20,(ls AT p0.decls)),(26,(VE c19)),(32,(ow 6 0 c19.params)),(34,(.fn 39 [Am,Aq]))],[(Bx f7),(Bz s1_0 s1_1),Cd,⟨0,30,2,[[(ow 4 0 q3.decls),(ow 5 0 l8)]]⟩,(ro 0 81 3 (Ad 111 3) q3.decls),(Oo l8 t6 c19),(ro 0 3 1 eI c19.params),(Iu c19)]⟩:=(hA21 _ _ _).2 (by
   refine ya [17] ⟨?_,trivial⟩
   ·refine yo 17 ?_
    exact zz (i64 (Sh.len c19.params)) (Cw Fp U U U) rfl (yd hA21 A21_0123456789abcdefghi))
  have A21_0123456789abcdefi:A21 6 (bm 23 327679) ⟨49,AL [(1,(.fn 39 [Am,Aq])),(2,(Df p0)),(4,BD),(6,Bg),(7,(i64 t6)),(12,(i64 (Sh.len q3.funcs))),(13,(i64 t6)),(17,(ow 5 0 l8)),(18,(i64 t6)),(20,(ls AT p0.decls)),(26,(OF c19)),(31,(E8 t6)),(34,(.fn 39 [Am,Aq]))],[(Bx f7),(Bz s1_0 s1_1),Cd,⟨0,30,2,[[(ow 4 0 q3.decls),(ow 5 0 l8)]]⟩,(ro 0 81 3 (Ad 111 3) q3.decls),(Xp l8 t6 c19),(Iu c19)]⟩:=(hA21 _ _ _).2 (by
   refine ya [16] ⟨?_,trivial⟩
   ·refine yo 16 ?_
    exact Af (Ht (id:=5) (j:=0) (i:=t6) (ys:=c19.params) (encY:=eI) (x':=(Zg c19)) (st':=[(Bx f7),(Bz s1_0 s1_1),Cd,⟨0,30,2,[[(ow 4 0 q3.decls),(ow 5 0 l8)]]⟩,(ro 0 81 3 (Ad 111 3) q3.decls),⟨0,48,5,hole l8 (A2 3 44) t6 (Zg c19)⟩,(Iu c19),(ro 0 3 1 eI c19.params)]) rfl gc19 U U U U) (zz (ow 7 0 c19.params) (CZ H3 U U (Be gc19) rfl) rfl (P9 hA21 A21_0123456789abcdefgi (by exact A5 (L:=[(1,(.fn 39 [Am,Aq])),(2,(Df p0)),(4,BD),(6,Bg),(7,(i64 t6)),(12,(i64 (Sh.len q3.funcs))),(13,(i64 t6)),(17,(ow 5 0 l8)),(18,(i64 t6)),(20,(ls AT p0.decls)),(26,(VE c19)),(32,(ow 6 0 c19.params)),(34,(.fn 39 [Am,Aq]))]) (st':=[(Bx f7),(Bz s1_0 s1_1),Cd,⟨0,30,2,[[(ow 4 0 q3.decls),(ow 5 0 l8)]]⟩,(ro 0 81 3 (Ad 111 3) q3.decls),(Oo l8 t6 c19),(ro 0 3 1 eI c19.params),(Iu c19)]) (st1:=[(Bx f7),(Bz s1_0 s1_1),Cd,⟨0,30,2,[[(ow 4 0 q3.decls),(ow 5 0 l8)]]⟩,(ro 0 81 3 (Ad 111 3) q3.decls),⟨0,48,5,hole l8 (A2 3 44) t6 (Zg c19)⟩,(ro 0 3 1 eI c19.params),(Iu c19)]) [0,1,2,3,4,5,7,6] U (.raw U U (.raw U U .nil)) (by decide) rfl U (.raw U U (.raw U U (.raw U U (.raw U U (.deep (AR fun _=>U) (.hol (AR fun _=>U) (MQ fun _=>U) rfl U (.pure (AJ fun _=>U) (.deep (AR Ag) .nil)))))))) (.same U)))))
  have A21_0123456789abcdei:A21 7 (bm 23 294911) ⟨49,AL [(1,(.fn 39 [Am,Aq])),(2,(Df p0)),(4,BD),(6,Bg),(7,(i64 t6)),(12,(i64 (Sh.len q3.funcs))),(13,(i64 t6)),(17,(ow 5 0 l8)),(18,(i64 t6)),(20,(ls AT p0.decls)),(26,(OF c19)),(30,(E8 t6)),(34,(.fn 39 [Am,Aq]))],[(Bx f7),(Bz s1_0 s1_1),Cd,⟨0,30,2,[[(ow 4 0 q3.decls),(ow 5 0 l8)]]⟩,(ro 0 81 3 (Ad 111 3) q3.decls),(Xp l8 t6 c19),(Iu c19)]⟩:=(hA21 _ _ _).2 (by
   refine ya [15] ⟨?_,trivial⟩
   ·exact CH tb hA21 A21_0123456789abcdefi)
  have A21_0123456789abcdi:A21 8 (bm 23 278527) ⟨49,AL [(1,(.fn 39 [Am,Aq])),(2,(Df p0)),(4,BD),(6,Bg),(7,(i64 t6)),(12,(i64 (Sh.len q3.funcs))),(13,(i64 t6)),(17,(ow 5 0 l8)),(18,(i64 t6)),(20,(ls AT p0.decls)),(26,(OF c19)),(28,(ow 5 0 l8)),(29,(i64 t6)),(34,(.fn 39 [Am,Aq]))],[(Bx f7),(Bz s1_0 s1_1),Cd,⟨0,30,2,[[(ow 4 0 q3.decls),(ow 5 0 l8)]]⟩,(ro 0 81 3 (Ad 111 3) q3.decls),(Xp l8 t6 c19),(Iu c19)]⟩:=(hA21 _ _ _).2 (by
   refine ya [14] ⟨?_,trivial⟩
   ·refine yo 14 ?_
    exact zz (E8 t6) (LS B3 U U U U gc19) rfl (yd hA21 A21_0123456789abcdei))
  have A21_0123456789abdi:A21 9 (bm 23 274431) ⟨49,AL [(1,(.fn 39 [Am,Aq])),(2,(Df p0)),(4,BD),(6,Bg),(7,(i64 t6)),(12,(i64 (Sh.len q3.funcs))),(13,(i64 t6)),(17,(ow 5 0 l8)),(18,(i64 t6)),(20,(ls AT p0.decls)),(26,(OF c19)),(27,E7),(29,(i64 t6)),(34,(.fn 39 [Am,Aq]))],[(Bx f7),(Bz s1_0 s1_1),Cd,⟨0,30,2,[[(ow 4 0 q3.decls),(ow 5 0 l8)]]⟩,(ro 0 81 3 (Ad 111 3) q3.decls),(Xp l8 t6 c19),(Iu c19)]⟩:=(hA21 _ _ _).2 (by
   refine ya [12] ⟨?_,trivial⟩
   ·exact CH tb hA21 A21_0123456789abcdi)
  have A21_0123456789bcdefghi:A21 5 (bm 23 523263) ⟨49,AL [(1,(.fn 39 [Am,Aq])),(2,(Df p0)),(4,BD),(6,Bg),(7,(i64 t6)),(12,(i64 (Sh.len q3.funcs))),(13,(i64 t6)),(17,(ow 5 0 l8)),(18,(i64 t6)),(20,(ls AT p0.decls)),(25,(RW t6)),(33,(i64 (Sh.len c19.params))),(34,(.fn 39 [Am,Aq]))],[(Bx f7),(Bz s1_0 s1_1),Cd,⟨0,30,2,[[(ow 4 0 q3.decls),(ow 5 0 l8)]]⟩,(ro 0 81 3 (Ad 111 3) q3.decls),(Oe l8 t6 c19),(ro 0 3 1 eI c19.params)]⟩:=(hA21 _ _ _).2 (by
   refine ya [10] ⟨?_,trivial⟩
   ·refine yo 10 ?_
    exact Af (Ht (id:=5) (j:=4) (i:=t6) (ys:=c19.body.kids) (encY:=(Au 44)) (x':=(cr c19)) (st':=[(Bx f7),(Bz s1_0 s1_1),Cd,⟨0,30,2,[[(ow 4 0 q3.decls),(ow 5 0 l8)]]⟩,(ro 0 81 3 (Ad 111 3) q3.decls),(Oo l8 t6 c19),(ro 0 3 1 eI c19.params),(Iu c19)]) rfl gc19 U U U U) (zz (VE c19) (BM Cz U U (Be gc19) (show 2+3≤5 by decide) rfl) rfl (yd hA21 A21_0123456789abcdefghi)))
  have A21_0123456789bcdefgi:A21 6 (bm 23 392191) ⟨49,AL [(1,(.fn 39 [Am,Aq])),(2,(Df p0)),(4,BD),(6,Bg),(7,(i64 t6)),(12,(i64 (Sh.len q3.funcs))),(13,(i64 t6)),(17,(ow 5 0 l8)),(18,(i64 t6)),(20,(ls AT p0.decls)),(25,(RW t6)),(32,(ow 6 0 c19.params)),(34,(.fn 39 [Am,Aq]))],[(Bx f7),(Bz s1_0 s1_1),Cd,⟨0,30,2,[[(ow 4 0 q3.decls),(ow 5 0 l8)]]⟩,(ro 0 81 3 (Ad 111 3) q3.decls),(Oe l8 t6 c19),(ro 0 3 1 eI c19.params)]⟩:=(hA21 _ _ _).2 (by
   refine ya [10,17] ⟨?_,?_,trivial⟩
   ·refine yo 10 ?_
    exact Af (Ht (id:=5) (j:=4) (i:=t6) (ys:=c19.body.kids) (encY:=(Au 44)) (x':=(cr c19)) (st':=[(Bx f7),(Bz s1_0 s1_1),Cd,⟨0,30,2,[[(ow 4 0 q3.decls),(ow 5 0 l8)]]⟩,(ro 0 81 3 (Ad 111 3) q3.decls),(Oo l8 t6 c19),(ro 0 3 1 eI c19.params),(Iu c19)]) rfl gc19 U U U U) (zz (VE c19) (BM Cz U U (Be gc19) (show 2+3≤5 by decide) rfl) rfl (yd hA21 A21_0123456789abcdefgi))
   ·refine yo 17 ?_
    exact zz (i64 (Sh.len c19.params)) (Cw Fp U U U) rfl (yd hA21 A21_0123456789bcdefghi))
  have A21_0123456789bcdefi:A21 7 (bm 23 326655) ⟨49,AL [(1,(.fn 39 [Am,Aq])),(2,(Df p0)),(4,BD),(6,Bg),(7,(i64 t6)),(12,(i64 (Sh.len q3.funcs))),(13,(i64 t6)),(17,(ow 5 0 l8)),(18,(i64 t6)),(20,(ls AT p0.decls)),(25,(RW t6)),(31,(E8 t6)),(34,(.fn 39 [Am,Aq]))],[(Bx f7),(Bz s1_0 s1_1),Cd,⟨0,30,2,[[(ow 4 0 q3.decls),(ow 5 0 l8)]]⟩,(ro 0 81 3 (Ad 111 3) q3.decls),(CM l8)]⟩:=(hA21 _ _ _).2 (by
   refine ya [10,16] ⟨?_,?_,trivial⟩
   ·refine yo 10 ?_
    exact Af (Bj (id:=5) (j:=4) (i:=t6) (c:=c19) (ys:=c19.body.kids) (encY:=(Au 44)) rfl gc19 U U U U U) (zz (OF c19) (BM Cz U U (Be gc19) (show 2+3≤5 by decide) rfl) rfl (yd hA21 A21_0123456789abcdefi))
   ·refine yo 16 ?_
    exact Af (Bj (id:=5) (j:=0) (i:=t6) (c:=c19) (ys:=c19.params) (encY:=eI) rfl gc19 U U U U U) (zz (ow 6 0 c19.params) (CZ H3 U U (Be gc19) rfl) rfl (yd hA21 A21_0123456789bcdefgi)))
  have A21_0123456789bcdei:A21 8 (bm 23 293887) ⟨49,AL [(1,(.fn 39 [Am,Aq])),(2,(Df p0)),(4,BD),(6,Bg),(7,(i64 t6)),(12,(i64 (Sh.len q3.funcs))),(13,(i64 t6)),(17,(ow 5 0 l8)),(18,(i64 t6)),(20,(ls AT p0.decls)),(25,(RW t6)),(30,(E8 t6)),(34,(.fn 39 [Am,Aq]))],[(Bx f7),(Bz s1_0 s1_1),Cd,⟨0,30,2,[[(ow 4 0 q3.decls),(ow 5 0 l8)]]⟩,(ro 0 81 3 (Ad 111 3) q3.decls),(CM l8)]⟩:=(hA21 _ _ _).2 (by
   refine ya [10,15] ⟨?_,?_,trivial⟩
   ·refine yo 10 ?_
    exact Af (Bj (id:=5) (j:=4) (i:=t6) (c:=c19) (ys:=c19.body.kids) (encY:=(Au 44)) rfl gc19 U U U U U) (zz (OF c19) (BM Cz U U (Be gc19) (show 2+3≤5 by decide) rfl) rfl (yd hA21 A21_0123456789abcdei))
   ·exact CH tb hA21 A21_0123456789bcdefi)
  have A21_0123456789bcdi:A21 9 (bm 23 277503) ⟨49,AL [(1,(.fn 39 [Am,Aq])),(2,(Df p0)),(4,BD),(6,Bg),(7,(i64 t6)),(12,(i64 (Sh.len q3.funcs))),(13,(i64 t6)),(17,(ow 5 0 l8)),(18,(i64 t6)),(20,(ls AT p0.decls)),(25,(RW t6)),(28,(ow 5 0 l8)),(29,(i64 t6)),(34,(.fn 39 [Am,Aq]))],[(Bx f7),(Bz s1_0 s1_1),Cd,⟨0,30,2,[[(ow 4 0 q3.decls),(ow 5 0 l8)]]⟩,(ro 0 81 3 (Ad 111 3) q3.decls),(CM l8)]⟩:=(hA21 _ _ _).2 (by
   refine ya [10,14] ⟨?_,?_,trivial⟩
   ·refine yo 10 ?_
    exact Af (Bj (id:=5) (j:=4) (i:=t6) (c:=c19) (ys:=c19.body.kids) (encY:=(Au 44)) rfl gc19 U U U U U) (zz (OF c19) (BM Cz U U (Be gc19) (show 2+3≤5 by decide) rfl) rfl (yd hA21 A21_0123456789abcdi))
   ·refine yo 14 ?_
    exact zz (E8 t6) (Bb B3 U U U U gc19) rfl (yd hA21 A21_0123456789bcdei))
  have A21_0123456789bdi:A21 10 (bm 23 273407) ⟨49,AL [(1,(.fn 39 [Am,Aq])),(2,(Df p0)),(4,BD),(6,Bg),(7,(i64 t6)),(12,(i64 (Sh.len q3.funcs))),(13,(i64 t6)),(17,(ow 5 0 l8)),(18,(i64 t6)),(20,(ls AT p0.decls)),(25,(RW t6)),(27,E7),(29,(i64 t6)),(34,(.fn 39 [Am,Aq]))],[(Bx f7),(Bz s1_0 s1_1),Cd,⟨0,30,2,[[(ow 4 0 q3.decls),(ow 5 0 l8)]]⟩,(ro 0 81 3 (Ad 111 3) q3.decls),(CM l8)]⟩:=(hA21 _ _ _).2 (by
   refine ya [10,12] ⟨?_,?_,trivial⟩
   ·refine yo 10 ?_
    exact Af (Bj (id:=5) (j:=4) (i:=t6) (c:=c19) (ys:=c19.body.kids) (encY:=(Au 44)) rfl gc19 U U U U U) (zz (OF c19) (BM Cz U U (Be gc19) (show 2+3≤5 by decide) rfl) rfl (yd hA21 A21_0123456789abdi))
   ·exact CH tb hA21 A21_0123456789bcdi)
  have A21_012345678bcdefghi:A21 6 (bm 23 522751) ⟨49,AL [(1,(.fn 39 [Am,Aq])),(2,(Df p0)),(4,BD),(6,Bg),(7,(i64 t6)),(12,(i64 (Sh.len q3.funcs))),(13,(i64 t6)),(17,(ow 5 0 l8)),(18,(i64 t6)),(20,(ls AT p0.decls)),(24,(E8 t6)),(33,(i64 (Sh.len c19.params))),(34,(.fn 39 [Am,Aq]))],[(Bx f7),(Bz s1_0 s1_1),Cd,⟨0,30,2,[[(ow 4 0 q3.decls),(ow 5 0 l8)]]⟩,(ro 0 81 3 (Ad 111 3) q3.decls),(Oe l8 t6 c19),(ro 0 3 1 eI c19.params)]⟩:=(hA21 _ _ _).2 (by
   refine ya [9] ⟨?_,trivial⟩
   ·exact CH tb hA21 A21_0123456789bcdefghi)
  have A21_012345678bcdefgi:A21 7 (bm 23 391679) ⟨49,AL [(1,(.fn 39 [Am,Aq])),(2,(Df p0)),(4,BD),(6,Bg),(7,(i64 t6)),(12,(i64 (Sh.len q3.funcs))),(13,(i64 t6)),(17,(ow 5 0 l8)),(18,(i64 t6)),(20,(ls AT p0.decls)),(24,(E8 t6)),(32,(ow 6 0 c19.params)),(34,(.fn 39 [Am,Aq]))],[(Bx f7),(Bz s1_0 s1_1),Cd,⟨0,30,2,[[(ow 4 0 q3.decls),(ow 5 0 l8)]]⟩,(ro 0 81 3 (Ad 111 3) q3.decls),(Oe l8 t6 c19),(ro 0 3 1 eI c19.params)]⟩:=(hA21 _ _ _).2 (by
   refine ya [9,17] ⟨?_,?_,trivial⟩
   ·exact CH tb hA21 A21_0123456789bcdefgi
   ·refine yo 17 ?_
    exact zz (i64 (Sh.len c19.params)) (Cw Fp U U U) rfl (yd hA21 A21_012345678bcdefghi))
  have A21_012345678bcdefi:A21 8 (bm 23 326143) ⟨49,AL [(1,(.fn 39 [Am,Aq])),(2,(Df p0)),(4,BD),(6,Bg),(7,(i64 t6)),(12,(i64 (Sh.len q3.funcs))),(13,(i64 t6)),(17,(ow 5 0 l8)),(18,(i64 t6)),(20,(ls AT p0.decls)),(24,(E8 t6)),(31,(E8 t6)),(34,(.fn 39 [Am,Aq]))],[(Bx f7),(Bz s1_0 s1_1),Cd,⟨0,30,2,[[(ow 4 0 q3.decls),(ow 5 0 l8)]]⟩,(ro 0 81 3 (Ad 111 3) q3.decls),(CM l8)]⟩:=(hA21 _ _ _).2 (by
   refine ya [9,16] ⟨?_,?_,trivial⟩
   ·exact CH tb hA21 A21_0123456789bcdefi
   ·refine yo 16 ?_
    exact Af (Bj (id:=5) (j:=0) (i:=t6) (c:=c19) (ys:=c19.params) (encY:=eI) rfl gc19 U U U U U) (zz (ow 6 0 c19.params) (CZ H3 U U (Be gc19) rfl) rfl (yd hA21 A21_012345678bcdefgi)))
  have A21_012345678bcdei:A21 9 (bm 23 293375) ⟨49,AL [(1,(.fn 39 [Am,Aq])),(2,(Df p0)),(4,BD),(6,Bg),(7,(i64 t6)),(12,(i64 (Sh.len q3.funcs))),(13,(i64 t6)),(17,(ow 5 0 l8)),(18,(i64 t6)),(20,(ls AT p0.decls)),(24,(E8 t6)),(30,(E8 t6)),(34,(.fn 39 [Am,Aq]))],[(Bx f7),(Bz s1_0 s1_1),Cd,⟨0,30,2,[[(ow 4 0 q3.decls),(ow 5 0 l8)]]⟩,(ro 0 81 3 (Ad 111 3) q3.decls),(CM l8)]⟩:=(hA21 _ _ _).2 (by
   refine ya [9,15] ⟨?_,?_,trivial⟩
   ·exact CH tb hA21 A21_0123456789bcdei
   ·exact CH tb hA21 A21_012345678bcdefi)
  have A21_012345678bcdi:A21 10 (bm 23 276991) ⟨49,AL [(1,(.fn 39 [Am,Aq])),(2,(Df p0)),(4,BD),(6,Bg),(7,(i64 t6)),(12,(i64 (Sh.len q3.funcs))),(13,(i64 t6)),(17,(ow 5 0 l8)),(18,(i64 t6)),(20,(ls AT p0.decls)),(24,(E8 t6)),(28,(ow 5 0 l8)),(29,(i64 t6)),(34,(.fn 39 [Am,Aq]))],[(Bx f7),(Bz s1_0 s1_1),Cd,⟨0,30,2,[[(ow 4 0 q3.decls),(ow 5 0 l8)]]⟩,(ro 0 81 3 (Ad 111 3) q3.decls),(CM l8)]⟩:=(hA21 _ _ _).2 (by
   refine ya [9,14] ⟨?_,?_,trivial⟩
   ·exact CH tb hA21 A21_0123456789bcdi
   ·refine yo 14 ?_
    exact zz (E8 t6) (Bb B3 U U U U gc19) rfl (yd hA21 A21_012345678bcdei))
  have A21_012345678bdi:A21 11 (bm 23 272895) ⟨49,AL [(1,(.fn 39 [Am,Aq])),(2,(Df p0)),(4,BD),(6,Bg),(7,(i64 t6)),(12,(i64 (Sh.len q3.funcs))),(13,(i64 t6)),(17,(ow 5 0 l8)),(18,(i64 t6)),(20,(ls AT p0.decls)),(24,(E8 t6)),(27,E7),(29,(i64 t6)),(34,(.fn 39 [Am,Aq]))],[(Bx f7),(Bz s1_0 s1_1),Cd,⟨0,30,2,[[(ow 4 0 q3.decls),(ow 5 0 l8)]]⟩,(ro 0 81 3 (Ad 111 3) q3.decls),(CM l8)]⟩:=(hA21 _ _ _).2 (by
   refine ya [9,12] ⟨?_,?_,trivial⟩
   ·exact CH tb hA21 A21_0123456789bdi
   ·exact CH tb hA21 A21_012345678bcdi)
  have A21_01234567bcdefghi:A21 7 (bm 23 522495) ⟨49,AL [(1,(.fn 39 [Am,Aq])),(2,(Df p0)),(4,BD),(6,Bg),(7,(i64 t6)),(12,(i64 (Sh.len q3.funcs))),(13,(i64 t6)),(17,(ow 5 0 l8)),(18,(i64 t6)),(20,(ls AT p0.decls)),(22,(ow 5 0 l8)),(23,(i64 t6)),(33,(i64 (Sh.len c19.params))),(34,(.fn 39 [Am,Aq]))],[(Bx f7),(Bz s1_0 s1_1),Cd,⟨0,30,2,[[(ow 4 0 q3.decls),(ow 5 0 l8)]]⟩,(ro 0 81 3 (Ad 111 3) q3.decls),(Oe l8 t6 c19),(ro 0 3 1 eI c19.params)]⟩:=(hA21 _ _ _).2 (by
   refine ya [8] ⟨?_,trivial⟩
   ·refine yo 8 ?_
    exact zz (E8 t6) (LS B3 U U U U gc19) rfl (yd hA21 A21_012345678bcdefghi))
  have A21_01234567bcdefgi:A21 8 (bm 23 391423) ⟨49,AL [(1,(.fn 39 [Am,Aq])),(2,(Df p0)),(4,BD),(6,Bg),(7,(i64 t6)),(12,(i64 (Sh.len q3.funcs))),(13,(i64 t6)),(17,(ow 5 0 l8)),(18,(i64 t6)),(20,(ls AT p0.decls)),(22,(ow 5 0 l8)),(23,(i64 t6)),(32,(ow 6 0 c19.params)),(34,(.fn 39 [Am,Aq]))],[(Bx f7),(Bz s1_0 s1_1),Cd,⟨0,30,2,[[(ow 4 0 q3.decls),(ow 5 0 l8)]]⟩,(ro 0 81 3 (Ad 111 3) q3.decls),(Oe l8 t6 c19),(ro 0 3 1 eI c19.params)]⟩:=(hA21 _ _ _).2 (by
   refine ya [8,17] ⟨?_,?_,trivial⟩
   ·refine yo 8 ?_
    exact zz (E8 t6) (LS B3 U U U U gc19) rfl (yd hA21 A21_012345678bcdefgi)
   ·refine yo 17 ?_
    exact zz (i64 (Sh.len c19.params)) (Cw Fp U U U) rfl (yd hA21 A21_01234567bcdefghi))
  have A21_01234567bcdefi:A21 9 (bm 23 325887) ⟨49,AL [(1,(.fn 39 [Am,Aq])),(2,(Df p0)),(4,BD),(6,Bg),(7,(i64 t6)),(12,(i64 (Sh.len q3.funcs))),(13,(i64 t6)),(17,(ow 5 0 l8)),(18,(i64 t6)),(20,(ls AT p0.decls)),(22,(ow 5 0 l8)),(23,(i64 t6)),(31,(E8 t6)),(34,(.fn 39 [Am,Aq]))],[(Bx f7),(Bz s1_0 s1_1),Cd,⟨0,30,2,[[(ow 4 0 q3.decls),(ow 5 0 l8)]]⟩,(ro 0 81 3 (Ad 111 3) q3.decls),(CM l8)]⟩:=(hA21 _ _ _).2 (by
   refine ya [8,16] ⟨?_,?_,trivial⟩
   ·refine yo 8 ?_
    exact zz (E8 t6) (Bb B3 U U U U gc19) rfl (yd hA21 A21_012345678bcdefi)
   ·refine yo 16 ?_
    exact Af (Bj (id:=5) (j:=0) (i:=t6) (c:=c19) (ys:=c19.params) (encY:=eI) rfl gc19 U U U U U) (zz (ow 6 0 c19.params) (CZ H3 U U (Be gc19) rfl) rfl (yd hA21 A21_01234567bcdefgi)))
  have A21_01234567bcdei:A21 10 (bm 23 293119) ⟨49,AL [(1,(.fn 39 [Am,Aq])),(2,(Df p0)),(4,BD),(6,Bg),(7,(i64 t6)),(12,(i64 (Sh.len q3.funcs))),(13,(i64 t6)),(17,(ow 5 0 l8)),(18,(i64 t6)),(20,(ls AT p0.decls)),(22,(ow 5 0 l8)),(23,(i64 t6)),(30,(E8 t6)),(34,(.fn 39 [Am,Aq]))],[(Bx f7),(Bz s1_0 s1_1),Cd,⟨0,30,2,[[(ow 4 0 q3.decls),(ow 5 0 l8)]]⟩,(ro 0 81 3 (Ad 111 3) q3.decls),(CM l8)]⟩:=(hA21 _ _ _).2 (by
   refine ya [8,15] ⟨?_,?_,trivial⟩
   ·refine yo 8 ?_
    exact zz (E8 t6) (Bb B3 U U U U gc19) rfl (yd hA21 A21_012345678bcdei)
   ·exact CH tb hA21 A21_01234567bcdefi)
  have A21_01234567bcdi:A21 11 (bm 23 276735) ⟨49,AL [(1,(.fn 39 [Am,Aq])),(2,(Df p0)),(4,BD),(6,Bg),(7,(i64 t6)),(12,(i64 (Sh.len q3.funcs))),(13,(i64 t6)),(17,(ow 5 0 l8)),(18,(i64 t6)),(20,(ls AT p0.decls)),(22,(ow 5 0 l8)),(23,(i64 t6)),(28,(ow 5 0 l8)),(29,(i64 t6)),(34,(.fn 39 [Am,Aq]))],[(Bx f7),(Bz s1_0 s1_1),Cd,⟨0,30,2,[[(ow 4 0 q3.decls),(ow 5 0 l8)]]⟩,(ro 0 81 3 (Ad 111 3) q3.decls),(CM l8)]⟩:=(hA21 _ _ _).2 (by
   refine ya [8,14] ⟨?_,?_,trivial⟩
   ·refine yo 8 ?_
    exact zz (E8 t6) (Bb B3 U U U U gc19) rfl (yd hA21 A21_012345678bcdi)
   ·refine yo 14 ?_
    exact zz (E8 t6) (Bb B3 U U U U gc19) rfl (yd hA21 A21_01234567bcdei))
  have A21_01234567bdi:A21 12 (bm 23 272639) ⟨49,AL [(1,(.fn 39 [Am,Aq])),(2,(Df p0)),(4,BD),(6,Bg),(7,(i64 t6)),(12,(i64 (Sh.len q3.funcs))),(13,(i64 t6)),(17,(ow 5 0 l8)),(18,(i64 t6)),(20,(ls AT p0.decls)),(22,(ow 5 0 l8)),(23,(i64 t6)),(27,E7),(29,(i64 t6)),(34,(.fn 39 [Am,Aq]))],[(Bx f7),(Bz s1_0 s1_1),Cd,⟨0,30,2,[[(ow 4 0 q3.decls),(ow 5 0 l8)]]⟩,(ro 0 81 3 (Ad 111 3) q3.decls),(CM l8)]⟩:=(hA21 _ _ _).2 (by
   refine ya [8,12] ⟨?_,?_,trivial⟩
   ·refine yo 8 ?_
    exact zz (E8 t6) (Bb B3 U U U U gc19) rfl (yd hA21 A21_012345678bdi)
   ·exact CH tb hA21 A21_01234567bcdi)
  have A21_0123457bcdefghi:A21 8 (bm 23 522431) ⟨49,AL [(1,(.fn 39 [Am,Aq])),(2,(Df p0)),(4,BD),(6,Bg),(7,(i64 t6)),(12,(i64 (Sh.len q3.funcs))),(13,(i64 t6)),(17,(ow 5 0 l8)),(18,(i64 t6)),(20,(ls AT p0.decls)),(21,E7),(23,(i64 t6)),(33,(i64 (Sh.len c19.params))),(34,(.fn 39 [Am,Aq]))],[(Bx f7),(Bz s1_0 s1_1),Cd,⟨0,30,2,[[(ow 4 0 q3.decls),(ow 5 0 l8)]]⟩,(ro 0 81 3 (Ad 111 3) q3.decls),(Oe l8 t6 c19),(ro 0 3 1 eI c19.params)]⟩:=(hA21 _ _ _).2 (by
   refine ya [6] ⟨?_,trivial⟩
   ·exact CH tb hA21 A21_01234567bcdefghi)
  have A21_0123457bcdefgi:A21 9 (bm 23 391359) ⟨49,AL [(1,(.fn 39 [Am,Aq])),(2,(Df p0)),(4,BD),(6,Bg),(7,(i64 t6)),(12,(i64 (Sh.len q3.funcs))),(13,(i64 t6)),(17,(ow 5 0 l8)),(18,(i64 t6)),(20,(ls AT p0.decls)),(21,E7),(23,(i64 t6)),(32,(ow 6 0 c19.params)),(34,(.fn 39 [Am,Aq]))],[(Bx f7),(Bz s1_0 s1_1),Cd,⟨0,30,2,[[(ow 4 0 q3.decls),(ow 5 0 l8)]]⟩,(ro 0 81 3 (Ad 111 3) q3.decls),(Oe l8 t6 c19),(ro 0 3 1 eI c19.params)]⟩:=(hA21 _ _ _).2 (by
   refine ya [6,17] ⟨?_,?_,trivial⟩
   ·exact CH tb hA21 A21_01234567bcdefgi
   ·refine yo 17 ?_
    exact zz (i64 (Sh.len c19.params)) (Cw Fp U U U) rfl (yd hA21 A21_0123457bcdefghi))
  have A21_0123457bcdefi:A21 10 (bm 23 325823) ⟨49,AL [(1,(.fn 39 [Am,Aq])),(2,(Df p0)),(4,BD),(6,Bg),(7,(i64 t6)),(12,(i64 (Sh.len q3.funcs))),(13,(i64 t6)),(17,(ow 5 0 l8)),(18,(i64 t6)),(20,(ls AT p0.decls)),(21,E7),(23,(i64 t6)),(31,(E8 t6)),(34,(.fn 39 [Am,Aq]))],[(Bx f7),(Bz s1_0 s1_1),Cd,⟨0,30,2,[[(ow 4 0 q3.decls),(ow 5 0 l8)]]⟩,(ro 0 81 3 (Ad 111 3) q3.decls),(CM l8)]⟩:=(hA21 _ _ _).2 (by
   refine ya [6,16] ⟨?_,?_,trivial⟩
   ·exact CH tb hA21 A21_01234567bcdefi
   ·refine yo 16 ?_
    exact Af (Bj (id:=5) (j:=0) (i:=t6) (c:=c19) (ys:=c19.params) (encY:=eI) rfl gc19 U U U U U) (zz (ow 6 0 c19.params) (CZ H3 U U (Be gc19) rfl) rfl (yd hA21 A21_0123457bcdefgi)))
  have A21_0123457bcdei:A21 11 (bm 23 293055) ⟨49,AL [(1,(.fn 39 [Am,Aq])),(2,(Df p0)),(4,BD),(6,Bg),(7,(i64 t6)),(12,(i64 (Sh.len q3.funcs))),(13,(i64 t6)),(17,(ow 5 0 l8)),(18,(i64 t6)),(20,(ls AT p0.decls)),(21,E7),(23,(i64 t6)),(30,(E8 t6)),(34,(.fn 39 [Am,Aq]))],[(Bx f7),(Bz s1_0 s1_1),Cd,⟨0,30,2,[[(ow 4 0 q3.decls),(ow 5 0 l8)]]⟩,(ro 0 81 3 (Ad 111 3) q3.decls),(CM l8)]⟩:=(hA21 _ _ _).2 (by
   refine ya [6,15] ⟨?_,?_,trivial⟩
   ·exact CH tb hA21 A21_01234567bcdei
   ·exact CH tb hA21 A21_0123457bcdefi)
  have A21_0123457bcdi:A21 12 (bm 23 276671) ⟨49,AL [(1,(.fn 39 [Am,Aq])),(2,(Df p0)),(4,BD),(6,Bg),(7,(i64 t6)),(12,(i64 (Sh.len q3.funcs))),(13,(i64 t6)),(17,(ow 5 0 l8)),(18,(i64 t6)),(20,(ls AT p0.decls)),(21,E7),(23,(i64 t6)),(28,(ow 5 0 l8)),(29,(i64 t6)),(34,(.fn 39 [Am,Aq]))],[(Bx f7),(Bz s1_0 s1_1),Cd,⟨0,30,2,[[(ow 4 0 q3.decls),(ow 5 0 l8)]]⟩,(ro 0 81 3 (Ad 111 3) q3.decls),(CM l8)]⟩:=(hA21 _ _ _).2 (by
   refine ya [6,14] ⟨?_,?_,trivial⟩
   ·exact CH tb hA21 A21_01234567bcdi
   ·refine yo 14 ?_
    exact zz (E8 t6) (Bb B3 U U U U gc19) rfl (yd hA21 A21_0123457bcdei))
  have A21_0123457bdi:A21 13 (bm 23 272575) ⟨49,AL [(1,(.fn 39 [Am,Aq])),(2,(Df p0)),(4,BD),(6,Bg),(7,(i64 t6)),(12,(i64 (Sh.len q3.funcs))),(13,(i64 t6)),(17,(ow 5 0 l8)),(18,(i64 t6)),(20,(ls AT p0.decls)),(21,E7),(23,(i64 t6)),(27,E7),(29,(i64 t6)),(34,(.fn 39 [Am,Aq]))],[(Bx f7),(Bz s1_0 s1_1),Cd,⟨0,30,2,[[(ow 4 0 q3.decls),(ow 5 0 l8)]]⟩,(ro 0 81 3 (Ad 111 3) q3.decls),(CM l8)]⟩:=(hA21 _ _ _).2 (by
   refine ya [6,12] ⟨?_,?_,trivial⟩
   ·exact CH tb hA21 A21_01234567bdi
   ·exact CH tb hA21 A21_0123457bcdi)
  have A21_023456789abcdefghij:A21 4 (bm 23 1048573) ⟨49,AL [(1,(.fn 39 [Am,Aq])),(2,(Df p0)),(4,BD),(6,Bg),(7,(i64 t6)),(12,(i64 (Sh.len q3.funcs))),(13,(i64 t6)),(16,E7),(18,(i64 t6)),(35,(aT q20.1.op q20.1.num q20.1.kids))],[(Bx q20.2),(Bz s1_0 s1_1),Cd,⟨0,30,2,[[(ow 4 0 q3.decls),(ow 5 0 l8)]]⟩,(ro 0 81 3 (Ad 111 3) q3.decls),(Oo l8 t6 c19),(ro 0 3 1 eI c19.params),C8,(CI q20.1.kids)]⟩:=(hA21 _ _ _).2 (by
   refine ya [1] ⟨?_,trivial⟩
   ·exact CH tb hA21 A21_0123456789abcdefghij)
  have A21_023456789abcdefghi:A21 5 (bm 23 524285) ⟨49,AL [(1,(.fn 39 [Am,Aq])),(2,(Df p0)),(4,BD),(6,Bg),(7,(i64 t6)),(12,(i64 (Sh.len q3.funcs))),(13,(i64 t6)),(16,E7),(18,(i64 t6)),(20,(ls AT p0.decls)),(26,(VE c19)),(33,(i64 (Sh.len c19.params))),(34,(.fn 39 [Am,Aq]))],[(Bx f7),(Bz s1_0 s1_1),Cd,⟨0,30,2,[[(ow 4 0 q3.decls),(ow 5 0 l8)]]⟩,(ro 0 81 3 (Ad 111 3) q3.decls),(Oo l8 t6 c19),(ro 0 3 1 eI c19.params),(Iu c19)]⟩:=(hA21 _ _ _).2 (by
   refine ya [1,19] ⟨?_,?_,trivial⟩
   ·exact CH tb hA21 A21_0123456789abcdefghi
   ·refine yo 19 ?_
    refine H0 (rowsP:=[(Iu c19),(Bx f7),(Bz s1_0 s1_1)]) (rows0:=[(Iu c19),(Bx f7),(Bz s1_0 s1_1)]) (rows1:=[C8,(Bx q20.2),(Bz s1_0 s1_1)]) (rows2:=[(CI q20.1.kids)]) (rows1':=[C8,(Bx q20.2),(Bz s1_0 s1_1)]) (rows2':=[(CI q20.1.kids)]) (st':=[(Bx q20.2),(Bz s1_0 s1_1),Cd,⟨0,30,2,[[(ow 4 0 q3.decls),(ow 5 0 l8)]]⟩,(ro 0 81 3 (Ad 111 3) q3.decls),(Oo l8 t6 c19),(ro 0 3 1 eI c19.params),C8,(CI q20.1.kids)]) (v':=(aT q20.1.op q20.1.num q20.1.kids)) [7,0,1] Ac (hb 56) (I3 gq20) rfl (by decide) rfl U (.deep (AR Ag) (.raw U U (.raw U U .nil))) rfl U (.pure (by intro x hx;cases hx) (.raw U U (.raw U U .nil))) (.deep (AR Ag) .nil) rfl U ?_
    exact yd hA21 A21_023456789abcdefghij)
  have A21_023456789abcdefgi:A21 6 (bm 23 393213) ⟨49,AL [(1,(.fn 39 [Am,Aq])),(2,(Df p0)),(4,BD),(6,Bg),(7,(i64 t6)),(12,(i64 (Sh.len q3.funcs))),(13,(i64 t6)),(16,E7),(18,(i64 t6)),(20,(ls AT p0.decls)),(26,(VE c19)),(32,(ow 6 0 c19.params)),(34,(.fn 39 [Am,Aq]))],[(Bx f7),(Bz s1_0 s1_1),Cd,⟨0,30,2,[[(ow 4 0 q3.decls),(ow 5 0 l8)]]⟩,(ro 0 81 3 (Ad 111 3) q3.decls),(Oo l8 t6 c19),(ro 0 3 1 eI c19.params),(Iu c19)]⟩:=(hA21 _ _ _).2 (by
   refine ya [1,17] ⟨?_,?_,trivial⟩
   ·exact CH tb hA21 A21_0123456789abcdefgi
   ·refine yo 17 ?_
    exact zz (i64 (Sh.len c19.params)) (Cw Fp U U U) rfl (yd hA21 A21_023456789abcdefghi))
  have A21_023456789abcdefi:A21 7 (bm 23 327677) ⟨49,AL [(1,(.fn 39 [Am,Aq])),(2,(Df p0)),(4,BD),(6,Bg),(7,(i64 t6)),(12,(i64 (Sh.len q3.funcs))),(13,(i64 t6)),(16,E7),(18,(i64 t6)),(20,(ls AT p0.decls)),(26,(OF c19)),(31,(E8 t6)),(34,(.fn 39 [Am,Aq]))],[(Bx f7),(Bz s1_0 s1_1),Cd,⟨0,30,2,[[(ow 4 0 q3.decls),(ow 5 0 l8)]]⟩,(ro 0 81 3 (Ad 111 3) q3.decls),(Xp l8 t6 c19),(Iu c19)]⟩:=(hA21 _ _ _).2 (by
   refine ya [1,16] ⟨?_,?_,trivial⟩
   ·exact CH tb hA21 A21_0123456789abcdefi
   ·refine yo 16 ?_
    exact Af (Ht (id:=5) (j:=0) (i:=t6) (ys:=c19.params) (encY:=eI) (x':=(Zg c19)) (st':=[(Bx f7),(Bz s1_0 s1_1),Cd,⟨0,30,2,[[(ow 4 0 q3.decls),(ow 5 0 l8)]]⟩,(ro 0 81 3 (Ad 111 3) q3.decls),⟨0,48,5,hole l8 (A2 3 44) t6 (Zg c19)⟩,(Iu c19),(ro 0 3 1 eI c19.params)]) rfl gc19 U U U U) (zz (ow 7 0 c19.params) (CZ H3 U U (Be gc19) rfl) rfl (P9 hA21 A21_023456789abcdefgi (by exact A5 (L:=[(1,(.fn 39 [Am,Aq])),(2,(Df p0)),(4,BD),(6,Bg),(7,(i64 t6)),(12,(i64 (Sh.len q3.funcs))),(13,(i64 t6)),(16,E7),(18,(i64 t6)),(20,(ls AT p0.decls)),(26,(VE c19)),(32,(ow 6 0 c19.params)),(34,(.fn 39 [Am,Aq]))]) (st':=[(Bx f7),(Bz s1_0 s1_1),Cd,⟨0,30,2,[[(ow 4 0 q3.decls),(ow 5 0 l8)]]⟩,(ro 0 81 3 (Ad 111 3) q3.decls),(Oo l8 t6 c19),(ro 0 3 1 eI c19.params),(Iu c19)]) (st1:=[(Bx f7),(Bz s1_0 s1_1),Cd,⟨0,30,2,[[(ow 4 0 q3.decls),(ow 5 0 l8)]]⟩,(ro 0 81 3 (Ad 111 3) q3.decls),⟨0,48,5,hole l8 (A2 3 44) t6 (Zg c19)⟩,(ro 0 3 1 eI c19.params),(Iu c19)]) [0,1,2,3,4,5,7,6] U (.raw U U (.raw U U .nil)) (by decide) rfl U (.raw U U (.raw U U (.raw U U (.raw U U (.deep (AR fun _=>U) (.hol (AR fun _=>U) (MQ fun _=>U) rfl U (.pure (AJ fun _=>U) (.deep (AR Ag) .nil)))))))) (.same U)))))
  have A21_023456789abcdei:A21 8 (bm 23 294909) ⟨49,AL [(1,(.fn 39 [Am,Aq])),(2,(Df p0)),(4,BD),(6,Bg),(7,(i64 t6)),(12,(i64 (Sh.len q3.funcs))),(13,(i64 t6)),(16,E7),(18,(i64 t6)),(20,(ls AT p0.decls)),(26,(OF c19)),(30,(E8 t6)),(34,(.fn 39 [Am,Aq]))],[(Bx f7),(Bz s1_0 s1_1),Cd,⟨0,30,2,[[(ow 4 0 q3.decls),(ow 5 0 l8)]]⟩,(ro 0 81 3 (Ad 111 3) q3.decls),(Xp l8 t6 c19),(Iu c19)]⟩:=(hA21 _ _ _).2 (by
   refine ya [1,15] ⟨?_,?_,trivial⟩
   ·exact CH tb hA21 A21_0123456789abcdei
   ·exact CH tb hA21 A21_023456789abcdefi)
  have A21_023456789abcdi:A21 9 (bm 23 278525) ⟨49,AL [(1,(.fn 39 [Am,Aq])),(2,(Df p0)),(4,BD),(6,Bg),(7,(i64 t6)),(12,(i64 (Sh.len q3.funcs))),(13,(i64 t6)),(16,E7),(18,(i64 t6)),(20,(ls AT p0.decls)),(26,(OF c19)),(28,(ow 5 0 l8)),(29,(i64 t6)),(34,(.fn 39 [Am,Aq]))],[(Bx f7),(Bz s1_0 s1_1),Cd,⟨0,30,2,[[(ow 4 0 q3.decls),(ow 5 0 l8)]]⟩,(ro 0 81 3 (Ad 111 3) q3.decls),(Xp l8 t6 c19),(Iu c19)]⟩:=(hA21 _ _ _).2 (by
   refine ya [1,14] ⟨?_,?_,trivial⟩
   ·exact CH tb hA21 A21_0123456789abcdi
   ·refine yo 14 ?_
    exact zz (E8 t6) (LS B3 U U U U gc19) rfl (yd hA21 A21_023456789abcdei))
  have A21_023456789abdi:A21 10 (bm 23 274429) ⟨49,AL [(1,(.fn 39 [Am,Aq])),(2,(Df p0)),(4,BD),(6,Bg),(7,(i64 t6)),(12,(i64 (Sh.len q3.funcs))),(13,(i64 t6)),(16,E7),(18,(i64 t6)),(20,(ls AT p0.decls)),(26,(OF c19)),(27,E7),(29,(i64 t6)),(34,(.fn 39 [Am,Aq]))],[(Bx f7),(Bz s1_0 s1_1),Cd,⟨0,30,2,[[(ow 4 0 q3.decls),(ow 5 0 l8)]]⟩,(ro 0 81 3 (Ad 111 3) q3.decls),(Xp l8 t6 c19),(Iu c19)]⟩:=(hA21 _ _ _).2 (by
   refine ya [1,12] ⟨?_,?_,trivial⟩
   ·exact CH tb hA21 A21_0123456789abdi
   ·exact CH tb hA21 A21_023456789abcdi)
  have A21_023456789bcdefghi:A21 6 (bm 23 523261) ⟨49,AL [(1,(.fn 39 [Am,Aq])),(2,(Df p0)),(4,BD),(6,Bg),(7,(i64 t6)),(12,(i64 (Sh.len q3.funcs))),(13,(i64 t6)),(16,E7),(18,(i64 t6)),(20,(ls AT p0.decls)),(25,(RW t6)),(33,(i64 (Sh.len c19.params))),(34,(.fn 39 [Am,Aq]))],[(Bx f7),(Bz s1_0 s1_1),Cd,⟨0,30,2,[[(ow 4 0 q3.decls),(ow 5 0 l8)]]⟩,(ro 0 81 3 (Ad 111 3) q3.decls),(Oe l8 t6 c19),(ro 0 3 1 eI c19.params)]⟩:=(hA21 _ _ _).2 (by
   refine ya [1,10] ⟨?_,?_,trivial⟩
   ·exact CH tb hA21 A21_0123456789bcdefghi
   ·refine yo 10 ?_
    exact Af (Ht (id:=5) (j:=4) (i:=t6) (ys:=c19.body.kids) (encY:=(Au 44)) (x':=(cr c19)) (st':=[(Bx f7),(Bz s1_0 s1_1),Cd,⟨0,30,2,[[(ow 4 0 q3.decls),(ow 5 0 l8)]]⟩,(ro 0 81 3 (Ad 111 3) q3.decls),(Oo l8 t6 c19),(ro 0 3 1 eI c19.params),(Iu c19)]) rfl gc19 U U U U) (zz (VE c19) (BM Cz U U (Be gc19) (show 2+3≤5 by decide) rfl) rfl (yd hA21 A21_023456789abcdefghi)))
  have A21_023456789bcdefgi:A21 7 (bm 23 392189) ⟨49,AL [(1,(.fn 39 [Am,Aq])),(2,(Df p0)),(4,BD),(6,Bg),(7,(i64 t6)),(12,(i64 (Sh.len q3.funcs))),(13,(i64 t6)),(16,E7),(18,(i64 t6)),(20,(ls AT p0.decls)),(25,(RW t6)),(32,(ow 6 0 c19.params)),(34,(.fn 39 [Am,Aq]))],[(Bx f7),(Bz s1_0 s1_1),Cd,⟨0,30,2,[[(ow 4 0 q3.decls),(ow 5 0 l8)]]⟩,(ro 0 81 3 (Ad 111 3) q3.decls),(Oe l8 t6 c19),(ro 0 3 1 eI c19.params)]⟩:=(hA21 _ _ _).2 (by
   refine ya [1,10,17] ⟨?_,?_,?_,trivial⟩
   ·exact CH tb hA21 A21_0123456789bcdefgi
   ·refine yo 10 ?_
    exact Af (Ht (id:=5) (j:=4) (i:=t6) (ys:=c19.body.kids) (encY:=(Au 44)) (x':=(cr c19)) (st':=[(Bx f7),(Bz s1_0 s1_1),Cd,⟨0,30,2,[[(ow 4 0 q3.decls),(ow 5 0 l8)]]⟩,(ro 0 81 3 (Ad 111 3) q3.decls),(Oo l8 t6 c19),(ro 0 3 1 eI c19.params),(Iu c19)]) rfl gc19 U U U U) (zz (VE c19) (BM Cz U U (Be gc19) (show 2+3≤5 by decide) rfl) rfl (yd hA21 A21_023456789abcdefgi))
   ·refine yo 17 ?_
    exact zz (i64 (Sh.len c19.params)) (Cw Fp U U U) rfl (yd hA21 A21_023456789bcdefghi))
  have A21_023456789bcdefi:A21 8 (bm 23 326653) ⟨49,AL [(1,(.fn 39 [Am,Aq])),(2,(Df p0)),(4,BD),(6,Bg),(7,(i64 t6)),(12,(i64 (Sh.len q3.funcs))),(13,(i64 t6)),(16,E7),(18,(i64 t6)),(20,(ls AT p0.decls)),(25,(RW t6)),(31,(E8 t6)),(34,(.fn 39 [Am,Aq]))],[(Bx f7),(Bz s1_0 s1_1),Cd,⟨0,30,2,[[(ow 4 0 q3.decls),(ow 5 0 l8)]]⟩,(ro 0 81 3 (Ad 111 3) q3.decls),(CM l8)]⟩:=(hA21 _ _ _).2 (by
   refine ya [1,10,16] ⟨?_,?_,?_,trivial⟩
   ·exact CH tb hA21 A21_0123456789bcdefi
   ·refine yo 10 ?_
    exact Af (Bj (id:=5) (j:=4) (i:=t6) (c:=c19) (ys:=c19.body.kids) (encY:=(Au 44)) rfl gc19 U U U U U) (zz (OF c19) (BM Cz U U (Be gc19) (show 2+3≤5 by decide) rfl) rfl (yd hA21 A21_023456789abcdefi))
   ·refine yo 16 ?_
    exact Af (Bj (id:=5) (j:=0) (i:=t6) (c:=c19) (ys:=c19.params) (encY:=eI) rfl gc19 U U U U U) (zz (ow 6 0 c19.params) (CZ H3 U U (Be gc19) rfl) rfl (yd hA21 A21_023456789bcdefgi)))
  have A21_023456789bcdei:A21 9 (bm 23 293885) ⟨49,AL [(1,(.fn 39 [Am,Aq])),(2,(Df p0)),(4,BD),(6,Bg),(7,(i64 t6)),(12,(i64 (Sh.len q3.funcs))),(13,(i64 t6)),(16,E7),(18,(i64 t6)),(20,(ls AT p0.decls)),(25,(RW t6)),(30,(E8 t6)),(34,(.fn 39 [Am,Aq]))],[(Bx f7),(Bz s1_0 s1_1),Cd,⟨0,30,2,[[(ow 4 0 q3.decls),(ow 5 0 l8)]]⟩,(ro 0 81 3 (Ad 111 3) q3.decls),(CM l8)]⟩:=(hA21 _ _ _).2 (by
   refine ya [1,10,15] ⟨?_,?_,?_,trivial⟩
   ·exact CH tb hA21 A21_0123456789bcdei
   ·refine yo 10 ?_
    exact Af (Bj (id:=5) (j:=4) (i:=t6) (c:=c19) (ys:=c19.body.kids) (encY:=(Au 44)) rfl gc19 U U U U U) (zz (OF c19) (BM Cz U U (Be gc19) (show 2+3≤5 by decide) rfl) rfl (yd hA21 A21_023456789abcdei))
   ·exact CH tb hA21 A21_023456789bcdefi)
  have A21_023456789bcdi:A21 10 (bm 23 277501) ⟨49,AL [(1,(.fn 39 [Am,Aq])),(2,(Df p0)),(4,BD),(6,Bg),(7,(i64 t6)),(12,(i64 (Sh.len q3.funcs))),(13,(i64 t6)),(16,E7),(18,(i64 t6)),(20,(ls AT p0.decls)),(25,(RW t6)),(28,(ow 5 0 l8)),(29,(i64 t6)),(34,(.fn 39 [Am,Aq]))],[(Bx f7),(Bz s1_0 s1_1),Cd,⟨0,30,2,[[(ow 4 0 q3.decls),(ow 5 0 l8)]]⟩,(ro 0 81 3 (Ad 111 3) q3.decls),(CM l8)]⟩:=(hA21 _ _ _).2 (by
   refine ya [1,10,14] ⟨?_,?_,?_,trivial⟩
   ·exact CH tb hA21 A21_0123456789bcdi
   ·refine yo 10 ?_
    exact Af (Bj (id:=5) (j:=4) (i:=t6) (c:=c19) (ys:=c19.body.kids) (encY:=(Au 44)) rfl gc19 U U U U U) (zz (OF c19) (BM Cz U U (Be gc19) (show 2+3≤5 by decide) rfl) rfl (yd hA21 A21_023456789abcdi))
   ·refine yo 14 ?_
    exact zz (E8 t6) (Bb B3 U U U U gc19) rfl (yd hA21 A21_023456789bcdei))
  have A21_023456789bdi:A21 11 (bm 23 273405) ⟨49,AL [(1,(.fn 39 [Am,Aq])),(2,(Df p0)),(4,BD),(6,Bg),(7,(i64 t6)),(12,(i64 (Sh.len q3.funcs))),(13,(i64 t6)),(16,E7),(18,(i64 t6)),(20,(ls AT p0.decls)),(25,(RW t6)),(27,E7),(29,(i64 t6)),(34,(.fn 39 [Am,Aq]))],[(Bx f7),(Bz s1_0 s1_1),Cd,⟨0,30,2,[[(ow 4 0 q3.decls),(ow 5 0 l8)]]⟩,(ro 0 81 3 (Ad 111 3) q3.decls),(CM l8)]⟩:=(hA21 _ _ _).2 (by
   refine ya [1,10,12] ⟨?_,?_,?_,trivial⟩
   ·exact CH tb hA21 A21_0123456789bdi
   ·refine yo 10 ?_
    exact Af (Bj (id:=5) (j:=4) (i:=t6) (c:=c19) (ys:=c19.body.kids) (encY:=(Au 44)) rfl gc19 U U U U U) (zz (OF c19) (BM Cz U U (Be gc19) (show 2+3≤5 by decide) rfl) rfl (yd hA21 A21_023456789abdi))
   ·exact CH tb hA21 A21_023456789bcdi)
  have A21_02345678bcdefghi:A21 7 (bm 23 522749) ⟨49,AL [(1,(.fn 39 [Am,Aq])),(2,(Df p0)),(4,BD),(6,Bg),(7,(i64 t6)),(12,(i64 (Sh.len q3.funcs))),(13,(i64 t6)),(16,E7),(18,(i64 t6)),(20,(ls AT p0.decls)),(24,(E8 t6)),(33,(i64 (Sh.len c19.params))),(34,(.fn 39 [Am,Aq]))],[(Bx f7),(Bz s1_0 s1_1),Cd,⟨0,30,2,[[(ow 4 0 q3.decls),(ow 5 0 l8)]]⟩,(ro 0 81 3 (Ad 111 3) q3.decls),(Oe l8 t6 c19),(ro 0 3 1 eI c19.params)]⟩:=(hA21 _ _ _).2 (by
   refine ya [1,9] ⟨?_,?_,trivial⟩
   ·exact CH tb hA21 A21_012345678bcdefghi
   ·exact CH tb hA21 A21_023456789bcdefghi)
  have A21_02345678bcdefgi:A21 8 (bm 23 391677) ⟨49,AL [(1,(.fn 39 [Am,Aq])),(2,(Df p0)),(4,BD),(6,Bg),(7,(i64 t6)),(12,(i64 (Sh.len q3.funcs))),(13,(i64 t6)),(16,E7),(18,(i64 t6)),(20,(ls AT p0.decls)),(24,(E8 t6)),(32,(ow 6 0 c19.params)),(34,(.fn 39 [Am,Aq]))],[(Bx f7),(Bz s1_0 s1_1),Cd,⟨0,30,2,[[(ow 4 0 q3.decls),(ow 5 0 l8)]]⟩,(ro 0 81 3 (Ad 111 3) q3.decls),(Oe l8 t6 c19),(ro 0 3 1 eI c19.params)]⟩:=(hA21 _ _ _).2 (by
   refine ya [1,9,17] ⟨?_,?_,?_,trivial⟩
   ·exact CH tb hA21 A21_012345678bcdefgi
   ·exact CH tb hA21 A21_023456789bcdefgi
   ·refine yo 17 ?_
    exact zz (i64 (Sh.len c19.params)) (Cw Fp U U U) rfl (yd hA21 A21_02345678bcdefghi))
  have A21_02345678bcdefi:A21 9 (bm 23 326141) ⟨49,AL [(1,(.fn 39 [Am,Aq])),(2,(Df p0)),(4,BD),(6,Bg),(7,(i64 t6)),(12,(i64 (Sh.len q3.funcs))),(13,(i64 t6)),(16,E7),(18,(i64 t6)),(20,(ls AT p0.decls)),(24,(E8 t6)),(31,(E8 t6)),(34,(.fn 39 [Am,Aq]))],[(Bx f7),(Bz s1_0 s1_1),Cd,⟨0,30,2,[[(ow 4 0 q3.decls),(ow 5 0 l8)]]⟩,(ro 0 81 3 (Ad 111 3) q3.decls),(CM l8)]⟩:=(hA21 _ _ _).2 (by
   refine ya [1,9,16] ⟨?_,?_,?_,trivial⟩
   ·exact CH tb hA21 A21_012345678bcdefi
   ·exact CH tb hA21 A21_023456789bcdefi
   ·refine yo 16 ?_
    exact Af (Bj (id:=5) (j:=0) (i:=t6) (c:=c19) (ys:=c19.params) (encY:=eI) rfl gc19 U U U U U) (zz (ow 6 0 c19.params) (CZ H3 U U (Be gc19) rfl) rfl (yd hA21 A21_02345678bcdefgi)))
  have A21_02345678bcdei:A21 10 (bm 23 293373) ⟨49,AL [(1,(.fn 39 [Am,Aq])),(2,(Df p0)),(4,BD),(6,Bg),(7,(i64 t6)),(12,(i64 (Sh.len q3.funcs))),(13,(i64 t6)),(16,E7),(18,(i64 t6)),(20,(ls AT p0.decls)),(24,(E8 t6)),(30,(E8 t6)),(34,(.fn 39 [Am,Aq]))],[(Bx f7),(Bz s1_0 s1_1),Cd,⟨0,30,2,[[(ow 4 0 q3.decls),(ow 5 0 l8)]]⟩,(ro 0 81 3 (Ad 111 3) q3.decls),(CM l8)]⟩:=(hA21 _ _ _).2 (by
   refine ya [1,9,15] ⟨?_,?_,?_,trivial⟩
   ·exact CH tb hA21 A21_012345678bcdei
   ·exact CH tb hA21 A21_023456789bcdei
   ·exact CH tb hA21 A21_02345678bcdefi)
  have A21_02345678bcdi:A21 11 (bm 23 276989) ⟨49,AL [(1,(.fn 39 [Am,Aq])),(2,(Df p0)),(4,BD),(6,Bg),(7,(i64 t6)),(12,(i64 (Sh.len q3.funcs))),(13,(i64 t6)),(16,E7),(18,(i64 t6)),(20,(ls AT p0.decls)),(24,(E8 t6)),(28,(ow 5 0 l8)),(29,(i64 t6)),(34,(.fn 39 [Am,Aq]))],[(Bx f7),(Bz s1_0 s1_1),Cd,⟨0,30,2,[[(ow 4 0 q3.decls),(ow 5 0 l8)]]⟩,(ro 0 81 3 (Ad 111 3) q3.decls),(CM l8)]⟩:=(hA21 _ _ _).2 (by
   refine ya [1,9,14] ⟨?_,?_,?_,trivial⟩
   ·exact CH tb hA21 A21_012345678bcdi
   ·exact CH tb hA21 A21_023456789bcdi
   ·refine yo 14 ?_
    exact zz (E8 t6) (Bb B3 U U U U gc19) rfl (yd hA21 A21_02345678bcdei))
  have A21_02345678bdi:A21 12 (bm 23 272893) ⟨49,AL [(1,(.fn 39 [Am,Aq])),(2,(Df p0)),(4,BD),(6,Bg),(7,(i64 t6)),(12,(i64 (Sh.len q3.funcs))),(13,(i64 t6)),(16,E7),(18,(i64 t6)),(20,(ls AT p0.decls)),(24,(E8 t6)),(27,E7),(29,(i64 t6)),(34,(.fn 39 [Am,Aq]))],[(Bx f7),(Bz s1_0 s1_1),Cd,⟨0,30,2,[[(ow 4 0 q3.decls),(ow 5 0 l8)]]⟩,(ro 0 81 3 (Ad 111 3) q3.decls),(CM l8)]⟩:=(hA21 _ _ _).2 (by
   refine ya [1,9,12] ⟨?_,?_,?_,trivial⟩
   ·exact CH tb hA21 A21_012345678bdi
   ·exact CH tb hA21 A21_023456789bdi
   ·exact CH tb hA21 A21_02345678bcdi)
  have A21_0234567bcdefghi:A21 8 (bm 23 522493) ⟨49,AL [(1,(.fn 39 [Am,Aq])),(2,(Df p0)),(4,BD),(6,Bg),(7,(i64 t6)),(12,(i64 (Sh.len q3.funcs))),(13,(i64 t6)),(16,E7),(18,(i64 t6)),(20,(ls AT p0.decls)),(22,(ow 5 0 l8)),(23,(i64 t6)),(33,(i64 (Sh.len c19.params))),(34,(.fn 39 [Am,Aq]))],[(Bx f7),(Bz s1_0 s1_1),Cd,⟨0,30,2,[[(ow 4 0 q3.decls),(ow 5 0 l8)]]⟩,(ro 0 81 3 (Ad 111 3) q3.decls),(Oe l8 t6 c19),(ro 0 3 1 eI c19.params)]⟩:=(hA21 _ _ _).2 (by
   refine ya [1,8] ⟨?_,?_,trivial⟩
   ·exact CH tb hA21 A21_01234567bcdefghi
   ·refine yo 8 ?_
    exact zz (E8 t6) (LS B3 U U U U gc19) rfl (yd hA21 A21_02345678bcdefghi))
  have A21_0234567bcdefgi:A21 9 (bm 23 391421) ⟨49,AL [(1,(.fn 39 [Am,Aq])),(2,(Df p0)),(4,BD),(6,Bg),(7,(i64 t6)),(12,(i64 (Sh.len q3.funcs))),(13,(i64 t6)),(16,E7),(18,(i64 t6)),(20,(ls AT p0.decls)),(22,(ow 5 0 l8)),(23,(i64 t6)),(32,(ow 6 0 c19.params)),(34,(.fn 39 [Am,Aq]))],[(Bx f7),(Bz s1_0 s1_1),Cd,⟨0,30,2,[[(ow 4 0 q3.decls),(ow 5 0 l8)]]⟩,(ro 0 81 3 (Ad 111 3) q3.decls),(Oe l8 t6 c19),(ro 0 3 1 eI c19.params)]⟩:=(hA21 _ _ _).2 (by
   refine ya [1,8,17] ⟨?_,?_,?_,trivial⟩
   ·exact CH tb hA21 A21_01234567bcdefgi
   ·refine yo 8 ?_
    exact zz (E8 t6) (LS B3 U U U U gc19) rfl (yd hA21 A21_02345678bcdefgi)
   ·refine yo 17 ?_
    exact zz (i64 (Sh.len c19.params)) (Cw Fp U U U) rfl (yd hA21 A21_0234567bcdefghi))
  have A21_0234567bcdefi:A21 10 (bm 23 325885) ⟨49,AL [(1,(.fn 39 [Am,Aq])),(2,(Df p0)),(4,BD),(6,Bg),(7,(i64 t6)),(12,(i64 (Sh.len q3.funcs))),(13,(i64 t6)),(16,E7),(18,(i64 t6)),(20,(ls AT p0.decls)),(22,(ow 5 0 l8)),(23,(i64 t6)),(31,(E8 t6)),(34,(.fn 39 [Am,Aq]))],[(Bx f7),(Bz s1_0 s1_1),Cd,⟨0,30,2,[[(ow 4 0 q3.decls),(ow 5 0 l8)]]⟩,(ro 0 81 3 (Ad 111 3) q3.decls),(CM l8)]⟩:=(hA21 _ _ _).2 (by
   refine ya [1,8,16] ⟨?_,?_,?_,trivial⟩
   ·exact CH tb hA21 A21_01234567bcdefi
   ·refine yo 8 ?_
    exact zz (E8 t6) (Bb B3 U U U U gc19) rfl (yd hA21 A21_02345678bcdefi)
   ·refine yo 16 ?_
    exact Af (Bj (id:=5) (j:=0) (i:=t6) (c:=c19) (ys:=c19.params) (encY:=eI) rfl gc19 U U U U U) (zz (ow 6 0 c19.params) (CZ H3 U U (Be gc19) rfl) rfl (yd hA21 A21_0234567bcdefgi)))
  have A21_0234567bcdei:A21 11 (bm 23 293117) ⟨49,AL [(1,(.fn 39 [Am,Aq])),(2,(Df p0)),(4,BD),(6,Bg),(7,(i64 t6)),(12,(i64 (Sh.len q3.funcs))),(13,(i64 t6)),(16,E7),(18,(i64 t6)),(20,(ls AT p0.decls)),(22,(ow 5 0 l8)),(23,(i64 t6)),(30,(E8 t6)),(34,(.fn 39 [Am,Aq]))],[(Bx f7),(Bz s1_0 s1_1),Cd,⟨0,30,2,[[(ow 4 0 q3.decls),(ow 5 0 l8)]]⟩,(ro 0 81 3 (Ad 111 3) q3.decls),(CM l8)]⟩:=(hA21 _ _ _).2 (by
   refine ya [1,8,15] ⟨?_,?_,?_,trivial⟩
   ·exact CH tb hA21 A21_01234567bcdei
   ·refine yo 8 ?_
    exact zz (E8 t6) (Bb B3 U U U U gc19) rfl (yd hA21 A21_02345678bcdei)
   ·exact CH tb hA21 A21_0234567bcdefi)
  have A21_0234567bcdi:A21 12 (bm 23 276733) ⟨49,AL [(1,(.fn 39 [Am,Aq])),(2,(Df p0)),(4,BD),(6,Bg),(7,(i64 t6)),(12,(i64 (Sh.len q3.funcs))),(13,(i64 t6)),(16,E7),(18,(i64 t6)),(20,(ls AT p0.decls)),(22,(ow 5 0 l8)),(23,(i64 t6)),(28,(ow 5 0 l8)),(29,(i64 t6)),(34,(.fn 39 [Am,Aq]))],[(Bx f7),(Bz s1_0 s1_1),Cd,⟨0,30,2,[[(ow 4 0 q3.decls),(ow 5 0 l8)]]⟩,(ro 0 81 3 (Ad 111 3) q3.decls),(CM l8)]⟩:=(hA21 _ _ _).2 (by
   refine ya [1,8,14] ⟨?_,?_,?_,trivial⟩
   ·exact CH tb hA21 A21_01234567bcdi
   ·refine yo 8 ?_
    exact zz (E8 t6) (Bb B3 U U U U gc19) rfl (yd hA21 A21_02345678bcdi)
   ·refine yo 14 ?_
    exact zz (E8 t6) (Bb B3 U U U U gc19) rfl (yd hA21 A21_0234567bcdei))
  have A21_0234567bdi:A21 13 (bm 23 272637) ⟨49,AL [(1,(.fn 39 [Am,Aq])),(2,(Df p0)),(4,BD),(6,Bg),(7,(i64 t6)),(12,(i64 (Sh.len q3.funcs))),(13,(i64 t6)),(16,E7),(18,(i64 t6)),(20,(ls AT p0.decls)),(22,(ow 5 0 l8)),(23,(i64 t6)),(27,E7),(29,(i64 t6)),(34,(.fn 39 [Am,Aq]))],[(Bx f7),(Bz s1_0 s1_1),Cd,⟨0,30,2,[[(ow 4 0 q3.decls),(ow 5 0 l8)]]⟩,(ro 0 81 3 (Ad 111 3) q3.decls),(CM l8)]⟩:=(hA21 _ _ _).2 (by
   refine ya [1,8,12] ⟨?_,?_,?_,trivial⟩
   ·exact CH tb hA21 A21_01234567bdi
   ·refine yo 8 ?_
    exact zz (E8 t6) (Bb B3 U U U U gc19) rfl (yd hA21 A21_02345678bdi)
   ·exact CH tb hA21 A21_0234567bcdi)
  have A21_023457bcdefghi:A21 9 (bm 23 522429) ⟨49,AL [(1,(.fn 39 [Am,Aq])),(2,(Df p0)),(4,BD),(6,Bg),(7,(i64 t6)),(12,(i64 (Sh.len q3.funcs))),(13,(i64 t6)),(16,E7),(18,(i64 t6)),(20,(ls AT p0.decls)),(21,E7),(23,(i64 t6)),(33,(i64 (Sh.len c19.params))),(34,(.fn 39 [Am,Aq]))],[(Bx f7),(Bz s1_0 s1_1),Cd,⟨0,30,2,[[(ow 4 0 q3.decls),(ow 5 0 l8)]]⟩,(ro 0 81 3 (Ad 111 3) q3.decls),(Oe l8 t6 c19),(ro 0 3 1 eI c19.params)]⟩:=(hA21 _ _ _).2 (by
   refine ya [1,6] ⟨?_,?_,trivial⟩
   ·exact CH tb hA21 A21_0123457bcdefghi
   ·exact CH tb hA21 A21_0234567bcdefghi)
  have A21_023457bcdefgi:A21 10 (bm 23 391357) ⟨49,AL [(1,(.fn 39 [Am,Aq])),(2,(Df p0)),(4,BD),(6,Bg),(7,(i64 t6)),(12,(i64 (Sh.len q3.funcs))),(13,(i64 t6)),(16,E7),(18,(i64 t6)),(20,(ls AT p0.decls)),(21,E7),(23,(i64 t6)),(32,(ow 6 0 c19.params)),(34,(.fn 39 [Am,Aq]))],[(Bx f7),(Bz s1_0 s1_1),Cd,⟨0,30,2,[[(ow 4 0 q3.decls),(ow 5 0 l8)]]⟩,(ro 0 81 3 (Ad 111 3) q3.decls),(Oe l8 t6 c19),(ro 0 3 1 eI c19.params)]⟩:=(hA21 _ _ _).2 (by
   refine ya [1,6,17] ⟨?_,?_,?_,trivial⟩
   ·exact CH tb hA21 A21_0123457bcdefgi
   ·exact CH tb hA21 A21_0234567bcdefgi
   ·refine yo 17 ?_
    exact zz (i64 (Sh.len c19.params)) (Cw Fp U U U) rfl (yd hA21 A21_023457bcdefghi))
  have A21_023457bcdefi:A21 11 (bm 23 325821) ⟨49,AL [(1,(.fn 39 [Am,Aq])),(2,(Df p0)),(4,BD),(6,Bg),(7,(i64 t6)),(12,(i64 (Sh.len q3.funcs))),(13,(i64 t6)),(16,E7),(18,(i64 t6)),(20,(ls AT p0.decls)),(21,E7),(23,(i64 t6)),(31,(E8 t6)),(34,(.fn 39 [Am,Aq]))],[(Bx f7),(Bz s1_0 s1_1),Cd,⟨0,30,2,[[(ow 4 0 q3.decls),(ow 5 0 l8)]]⟩,(ro 0 81 3 (Ad 111 3) q3.decls),(CM l8)]⟩:=(hA21 _ _ _).2 (by
   refine ya [1,6,16] ⟨?_,?_,?_,trivial⟩
   ·exact CH tb hA21 A21_0123457bcdefi
   ·exact CH tb hA21 A21_0234567bcdefi
   ·refine yo 16 ?_
    exact Af (Bj (id:=5) (j:=0) (i:=t6) (c:=c19) (ys:=c19.params) (encY:=eI) rfl gc19 U U U U U) (zz (ow 6 0 c19.params) (CZ H3 U U (Be gc19) rfl) rfl (yd hA21 A21_023457bcdefgi)))
  have A21_023457bcdei:A21 12 (bm 23 293053) ⟨49,AL [(1,(.fn 39 [Am,Aq])),(2,(Df p0)),(4,BD),(6,Bg),(7,(i64 t6)),(12,(i64 (Sh.len q3.funcs))),(13,(i64 t6)),(16,E7),(18,(i64 t6)),(20,(ls AT p0.decls)),(21,E7),(23,(i64 t6)),(30,(E8 t6)),(34,(.fn 39 [Am,Aq]))],[(Bx f7),(Bz s1_0 s1_1),Cd,⟨0,30,2,[[(ow 4 0 q3.decls),(ow 5 0 l8)]]⟩,(ro 0 81 3 (Ad 111 3) q3.decls),(CM l8)]⟩:=(hA21 _ _ _).2 (by
   refine ya [1,6,15] ⟨?_,?_,?_,trivial⟩
   ·exact CH tb hA21 A21_0123457bcdei
   ·exact CH tb hA21 A21_0234567bcdei
   ·exact CH tb hA21 A21_023457bcdefi)
  have A21_023457bcdi:A21 13 (bm 23 276669) ⟨49,AL [(1,(.fn 39 [Am,Aq])),(2,(Df p0)),(4,BD),(6,Bg),(7,(i64 t6)),(12,(i64 (Sh.len q3.funcs))),(13,(i64 t6)),(16,E7),(18,(i64 t6)),(20,(ls AT p0.decls)),(21,E7),(23,(i64 t6)),(28,(ow 5 0 l8)),(29,(i64 t6)),(34,(.fn 39 [Am,Aq]))],[(Bx f7),(Bz s1_0 s1_1),Cd,⟨0,30,2,[[(ow 4 0 q3.decls),(ow 5 0 l8)]]⟩,(ro 0 81 3 (Ad 111 3) q3.decls),(CM l8)]⟩:=(hA21 _ _ _).2 (by
   refine ya [1,6,14] ⟨?_,?_,?_,trivial⟩
   ·exact CH tb hA21 A21_0123457bcdi
   ·exact CH tb hA21 A21_0234567bcdi
   ·refine yo 14 ?_
    exact zz (E8 t6) (Bb B3 U U U U gc19) rfl (yd hA21 A21_023457bcdei))
  have A21_023457bdi:A21 14 (bm 23 272573) ⟨49,AL [(1,(.fn 39 [Am,Aq])),(2,(Df p0)),(4,BD),(6,Bg),(7,(i64 t6)),(12,(i64 (Sh.len q3.funcs))),(13,(i64 t6)),(16,E7),(18,(i64 t6)),(20,(ls AT p0.decls)),(21,E7),(23,(i64 t6)),(27,E7),(29,(i64 t6)),(34,(.fn 39 [Am,Aq]))],[(Bx f7),(Bz s1_0 s1_1),Cd,⟨0,30,2,[[(ow 4 0 q3.decls),(ow 5 0 l8)]]⟩,(ro 0 81 3 (Ad 111 3) q3.decls),(CM l8)]⟩:=(hA21 _ _ _).2 (by
   refine ya [1,6,12] ⟨?_,?_,?_,trivial⟩
   ·exact CH tb hA21 A21_0123457bdi
   ·exact CH tb hA21 A21_0234567bdi
   ·exact CH tb hA21 A21_023457bcdi)
  refine (hA21 _ _ _).2 ?_
  exact yw hA21 A21_023457bdi (by exact A5 (L:=[(1,(.fn 39 [Am,Aq])),(2,(Df p0)),(4,BD),(6,Bg),(7,(i64 t6)),(12,(i64 (Sh.len q3.funcs))),(13,(i64 t6)),(16,E7),(18,(i64 t6)),(20,(ls AT p0.decls)),(21,E7),(23,(i64 t6)),(27,E7),(29,(i64 t6)),(34,(.fn 39 [Am,Aq]))]) (st':=[(Bx f7),(Bz s1_0 s1_1),Cd,⟨0,30,2,[[(ow 4 0 q3.decls),(ow 5 0 l8)]]⟩,(ro 0 81 3 (Ad 111 3) q3.decls),(CM l8)]) (st1:=[(Bx f7),(Bz s1_0 s1_1),Cd,⟨0,30,2,[[(ow 3 0 q3.decls),(ow 4 0 l8)]]⟩,(ro 0 81 3 (Ad 111 3) q3.decls),(CM l8)]) [0,1,2,5,3,4] U (.raw U U (.raw U U .nil)) (by decide) rfl U (.raw U U (.raw U U (.raw U U (.raw U U (.deep (AR fun _=>U) (.deep (AR fun _=>U) .nil)))))) (.same U))
 ·exact Ao (M11 f7 l8 (Sh.AA h1).symm _ (AH U))
end Go.Proofs.YtpahalfiiahddaaGreat

