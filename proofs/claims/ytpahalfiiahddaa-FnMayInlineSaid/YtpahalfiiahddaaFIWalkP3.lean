import Derived.Test.YtpahalfiiahddaaProg
import Derived.Test.YtpahalfiiahddaaGAbsXToSSDefs
import Derived.Test.YtpahalfiiahddaaGHADefsToFIDefs
import Derived.Test.YtpahalfiiahddaaFIWalkP2
namespace Go.Proofs.Ytpahalfiiahddaa
open Go Go.Abs RC
attribute [local irreducible] Go.Abs.Cw
set_option maxRecDepth 100000
set_option maxHeartbeats 4000000

noncomputable abbrev Dr (z0:List Int) (z1:Int):Go.Abs.Row:=⟨0,88,2,[[(ls Dk z0),(i64 z1)]]⟩
noncomputable abbrev Lw (z0:Int) (z1:Int) (z2:List AP):Go.Abs.Row:=⟨0,50,3,[[(i64 z0),(i64 z1),(ls AD z2)]]⟩
noncomputable abbrev GA:Go.Abs.Row:=⟨0,31,2,[[.zc,.zc]]⟩
noncomputable abbrev OX (z0:List Ac) (z1:List Ar):Go.Abs.Row:=⟨0,31,2,[[(ls AI z0),(ls AJ z1)]]⟩
noncomputable abbrev MX (z0:Int):Go.Abs.Row:=⟨0,3,1,[[(i64 z0)]]⟩
noncomputable abbrev Ud:Go.Abs.Row:=⟨0,97,2,[[.zc,.zc]]⟩
theorem X2:Gt Try.prog 93=true:=by kernel_rfl
theorem Zf:Gt Try.prog 97=true:=by kernel_rfl
theorem X5:Hx Try.prog 93=some [(0,1),(1,1),(2,1)]:=by kernel_rfl
theorem Zo:Hx Try.prog 97=some [(0,1),(1,1)]:=by kernel_rfl
theorem IS:Ct Try.prog 123=some ⟨40,1,24,[.sl []]⟩:=by kernel_rfl
theorem Mi:Ct Try.prog 91=some ⟨93,3,56,[.sl [],.sl [],.int .i64 0]⟩:=by kernel_rfl
theorem SL:Hf Try.prog 52 2=some 2:=by kernel_rfl
theorem Sb:Aq Try.prog 118=true:=by kernel_rfl
theorem Yk:Aq Try.prog 119=true:=by kernel_rfl
theorem Wj:Aq Try.prog 120=true:=by kernel_rfl
theorem YL:Aq Try.prog 128=true:=by kernel_rfl
theorem Zj:Aq Try.prog 35=true:=by kernel_rfl
theorem Zn:Aq Try.prog 36=true:=by kernel_rfl
theorem ZB:Aq Try.prog 54=true:=by kernel_rfl
theorem Zy:Aq Try.prog 55=true:=by kernel_rfl
theorem ZH:Aq Try.prog 57=true:=by kernel_rfl
theorem Wa:Aq Try.prog 59=true:=by kernel_rfl
theorem PG:Aq Try.prog 61=true:=by kernel_rfl
theorem ZE:Aq Try.prog 85=true:=by kernel_rfl
theorem ZM:Aq Try.prog 89=true:=by kernel_rfl
theorem U7:Aq Try.prog 90=true:=by kernel_rfl
theorem Xy:Aq Try.prog 91=true:=by kernel_rfl
theorem aF:Program.underlying Try.prog 3=some (.int .i64):=by kernel_rfl
theorem Wp:DG Try.prog 91=true:=by kernel_rfl
theorem Zs:EN Try.prog 91=some (false,1):=by kernel_rfl
theorem Z2:EN Try.prog 93=some (true,3):=by kernel_rfl
theorem V9:EN Try.prog 97=some (true,2):=by kernel_rfl
theorem Z7:Gr Try.prog 3=some [.int .i64 0]:=by kernel_rfl
theorem WC:Gr Try.prog 93=some [.zc,.zc,.int .i64 0]:=by kernel_rfl
theorem WM:Gr Try.prog 97=some [.zc,.zc]:=by kernel_rfl

theorem LM {N:Nat} {s0_0:(List Int)} {s0_1:Int} {s1:(List Ar)} {p1_0:(List Ac)} {r:Af×Int} (h0:FH N s0_0 s0_1 s1 p1_0=some r):Ai Try.prog 54 [(.ptr 0 0 0 0),(.agg [(ls AI p1_0),(ow 1 0 s1)])] [(Dr s0_0 s0_1),(ro 0 52 5 AJ s1)] (fun v st=>v=(.agg [(ls AI r.1.decls),(ow 1 1 r.1.funcs)])∧st=[(Dr s0_0 r.2),(ro 1 52 5 AJ r.1.funcs)]):=by
 unfold FH at h0
 refine Ai.wk (r0:=(.agg [(ls AI r.1.decls),(ow 1 1 r.1.funcs)])) (st0:=[(Dr s0_0 r.2),(ro 1 52 5 AJ r.1.funcs),⟨0,31,2,[[(ls AI r.1.decls),(ow 1 1 r.1.funcs)]]⟩]) ?_ (EG (L:=[(0,(.agg [(ls AI r.1.decls),(ow 1 1 r.1.funcs)]))]) (st':=[(Dr s0_0 r.2),(ro 1 52 5 AJ r.1.funcs)]) [0,1] U (by decide) rfl U (.raw U (.pure (AB fun _=>U) trivial)) (.same U))
 refine ai Try.func54 U U U U (sr U fun K1 hK1=>Bl (m:=2) AM U U U U U (A1 (m:=3) AM O9 U U (dn hK1 U (sr U fun K2 hK2=>zm tb 3 U (zz (i64 (Sh.len s1)) (CW NU U U U) rfl (bs h0 fun q3 gq3 h0=>?_))))))
 refine Bc (rows0:=[(Dr s0_0 s0_1)]) (rows1:=[(Dr s0_0 q3.2)]) (st':=[(Dr s0_0 q3.2),(ro 0 52 5 AJ s1),⟨0,31,2,[[(ls AI p1_0),(ow 1 0 s1)]]⟩,GA]) (v':=(i64 q3.1)) [0] AM Ez (Av gq3) rfl (by decide) rfl U (.raw U U .nil) rfl U (.raw U U .nil) .nil U U ?_
 refine zq tb U (dn hK2 U (sr U fun K4 hK4=>zm tb 3 U (bs h0 fun c5 gc5 h0=>zz (.ptr 1 0 (Int.toNat q3.1) 0) (Bn DD U U U U gc5) rfl (zz (.agg [(ls eI c5.params),(i64 c5.result),(i64 c5.body.op),(i64 c5.body.num),(ls AD c5.body.kids)]) (A9 Iy U U (Bs gc5) (show 0+5≤5 by decide) rfl) rfl (A1 (m:=4) AM LD U U (Az AM Iy U U U U U U (show 0+5≤5 by decide) rfl (Ad (Wk.A7 (L:=[(0,(.ptr 0 0 0 0)),(3,(.ptr 2 0 0 0)),(4,(.ptr 3 0 0 0)),(5,(i64 q3.1)),(6,(.Al [(ls eI c5.params),(i64 c5.result),(i64 c5.body.op),(i64 c5.body.num),(ls AD c5.body.kids)] 0))]) (st':=[(Dr s0_0 q3.2),(ro 0 52 5 AJ s1),⟨0,31,2,[[(ls AI p1_0),(ow 1 0 s1)]]⟩,GA,⟨1,52,5,[]⟩]) (id:=4) rfl (show 2≤4 by decide) (Cz U) (.same U) rfl) (dn hK4 U (AH fun K6 hK6=>?_)))))))))
 refine bs h0 fun o10 h1 h0=>?_
 have M10 :∀(f7:Int) (l8:(List Ar)) (f9:(List Ac)),o10=(f7,l8,f9)→∀s,Wk 2 s ⟨80,Aa [(3,(.ptr 2 0 0 0)),(4,(.ptr 3 0 0 0))],[(Dr s0_0 f7),(ro 1 52 5 AJ l8),⟨0,31,2,[[(ls AI f9),(ow 1 1 l8)]]⟩,GA]⟩→K6 s:=by
  intro f7 l8 f9 hq s hw
  subst o10
  try dsimp only at h0
  refine hK6 _ (AN hw (sr U fun K11 hK11=>zq tb U (Az AM FA U U U U U U (show 0+2≤2 by decide) rfl (dn hK11 U ?_))))
  replace h0:=Sh.AE h0
  subst r
  exact AU (Exists.intro _ (And.intro ((AS (L:=[(4,(.ptr 2 0 0 0))]) (st':=[(Dr s0_0 f7),(ro 1 52 5 AJ l8),⟨0,31,2,[[(ls AI f9),(ow 1 1 l8)]]⟩]) [0,1,3] U (by decide) rfl U (.raw U U (.pure (AB fun _=>U) (.raw U U .nil))) (.same U)).trans (Ah (L:=[(4,(.ptr 2 0 0 0))]) (.same U))) (A9 (x:=.tmp 4) (off:=0) (cs:=[(ls AI f9),(ow 1 1 l8)]) (vs:=[(ls AI f9),(ow 1 1 l8)]) FA U U U (show 0+2≤2 by decide) rfl _ ⟨U,U⟩)))
 refine sr U fun K12 hK12=>zq tb U (bs h1 fun q13 gq13 h1=>?_)
 refine Bc (rows0:=[(Dr s0_0 q3.2)]) (rows1:=[(Dr s0_0 q13.2)]) (st':=[(Dr s0_0 q13.2),(ro 0 52 5 AJ s1),⟨0,31,2,[[(ls AI p1_0),(ow 1 0 s1)]]⟩,GA,⟨1,52,5,[]⟩]) (v':=(i64 q13.1)) [0] AM Ez (Av gq13) rfl (by decide) rfl U (.raw U U .nil) rfl U (.raw U U .nil) .nil U U ?_
 refine dn hK12 U (Ab (zr tb U U ?_))
 refine ci h1 U ?_ ?_ <;> clear h1
 ·intro b15 h1
  refine AN (CA (L:=[(0,(.ptr 0 0 0 0)),(3,(.ptr 2 0 0 0)),(4,(.ptr 3 0 0 0)),(5,(i64 q3.1)),(6,(.Al [(ls eI c5.params),(i64 c5.result),(i64 c5.body.op),(i64 c5.body.num),(ls AD c5.body.kids)] 0))]) (st':=[(Dr s0_0 q13.2),(ro 0 52 5 AJ s1),⟨0,31,2,[[(ls AI p1_0),(ow 1 0 s1)]]⟩,GA,⟨0,52,5,[]⟩]) (.raw U U U (.pure U (AB fun _=>U) (.raw U U U (.raw U U U (.pure U (by intro x hx;cases hx) .nil))))) (.same U)) ?_
  refine BO [(ro 0 52 5 AJ s1),⟨0,31,2,[[(ls AI p1_0),(ow 1 0 s1)]]⟩,GA,⟨0,52,5,[]⟩] 13 (by kernel_rfl) (by kernel_rfl) (by kernel_rfl) (by rfl) ?_
  refine BD (.ptr 2 0 0 1) AM U (fun _ _=>F8 Ka U U (show 0+1≤2 by decide) rfl) (BD (ow 1 0 s1) AM U (fun _ _=>B1 Mn U U U U) (BD (i64 q3.1) AM U (fun _ _=>BL U) (BD (.Al [(ls eI c5.params),(i64 c5.result),(i64 c5.body.op),(i64 c5.body.num),(ls AD c5.body.kids)] 0) AM U (fun _ _=>GB Px U U) (BD (ls eI c5.params) AM U (fun _ _=>Fm Le U U) (BD (.Al [(ls eI c5.params),(i64 c5.result),(i64 c5.body.op),(i64 c5.body.num),(ls AD c5.body.kids)] 1) AM U (fun _ _=>GB Nm U U) (BD (i64 c5.result) AM U (fun _ _=>Fm F6 U U) (BD (.ptr 0 0 0 0) AM U (fun _ _=>BL U) (BD (.Al [(ls eI c5.params),(i64 c5.result),(i64 c5.body.op),(i64 c5.body.num),(ls AD c5.body.kids)] 2) AM U (fun _ _=>GB SL U U) (BD (.agg [(i64 c5.body.op),(i64 c5.body.num),(ls AD c5.body.kids)]) AM U (fun _ _=>Fu BN U (show 2+3≤5 by decide) rfl) (bs h1 fun q16 gq16 h1=>?_))))))))))
  refine E2 (rows0:=[(Dr s0_0 q13.2)]) (rows1:=[(Dr s0_0 q16.2)]) (v':=(.agg [(i64 q16.1.op),(i64 q16.1.num),(ls AD q16.1.kids)])) (y0:=(Dr s0_0 q16.2)) [0] AM Xu (RK gq16) rfl (by decide) rfl U (.raw U U .nil) rfl U (fun _=>(.raw U U .nil)) (fun _=>U) rfl ?_
  refine BD (.agg [(ls eI c5.params),(i64 c5.result),(i64 q16.1.op),(i64 q16.1.num),(ls AD q16.1.kids)]) AM U (fun _ _=>EF TI S3 LD U U) (BD (.ptr 1 0 (Int.toNat q3.1) 0) AM U (fun _ _=>Bn DD U U U U gc5) (Di U (Gf (u':=(Ar.mk c5.params c5.result q16.1)) AM Iy U U gc5 U U U (show 0+5≤5 by decide) rfl U ?_)))
  exact AA (M10 q16.2 (Sh.put s1 q3.1 (Ar.mk c5.params c5.result q16.1)) p1_0 (Sh.AE h1).symm _ (by refine Wk.trans (Jb (st:=[⟨0,88,2,[[(.sl (List.map Dk s0_0)),(i64 q16.2)]]⟩,⟨0,52,5,List.map AJ (Sh.put s1 q3.1 (Ar.mk c5.params c5.result q16.1))⟩,⟨0,31,2,[[(.sl (List.map AI p1_0)),(.own 1 0 (List.length s1))]]⟩,GA,⟨0,52,5,[]⟩]) (st':=[⟨0,88,2,[[(.sl (List.map Dk s0_0)),(i64 q16.2)]]⟩,⟨0,52,5,List.map AJ (Sh.put s1 q3.1 (Ar.mk c5.params c5.result q16.1))⟩,⟨0,31,2,[[(.sl (List.map AI p1_0)),(.own 1 0 (List.length (Sh.put s1 q3.1 (Ar.mk c5.params c5.result q16.1))))]]⟩,GA,⟨0,52,5,[]⟩]) (by simp only[Sh.FK])) ?_;refine Wk.trans (JU (L:=[(3,(.ptr 2 0 0 0)),(4,(.ptr 3 0 0 0))]) (st':=[⟨0,88,2,[[(.sl (List.map Dk s0_0)),(i64 q16.2)]]⟩,⟨1,52,5,List.map AJ (Sh.put s1 q3.1 (Ar.mk c5.params c5.result q16.1))⟩,⟨0,31,2,[[(.sl (List.map AI p1_0)),(.own 1 1 (List.length (Sh.put s1 q3.1 (Ar.mk c5.params c5.result q16.1))))]]⟩,GA,⟨0,52,5,[]⟩]) (st1:=[⟨0,88,2,[[(.sl (List.map Dk s0_0)),(i64 q16.2)]]⟩,⟨0,52,5,List.map AJ (Sh.put s1 q3.1 (Ar.mk c5.params c5.result q16.1))⟩,⟨0,31,2,[[(.sl (List.map AI p1_0)),(.own 1 1 (List.length (Sh.put s1 q3.1 (Ar.mk c5.params c5.result q16.1))))]]⟩,GA,⟨0,52,5,[]⟩]) 1 U (.raw U U (.pure (AB fun _=>U) (.raw U U (.raw U U (.pure (by intro x hx;cases hx) .nil))))) rfl (.same U)) ?_;exact AS [0,1,2,3] U (by decide) rfl U (.raw U U (.pure (AB fun _=>U) (.raw U U (.raw U U .nil)))) (.same U)))
 ·intro b15 h1
  refine zr tb U U ?_
  refine ci h1 U ?_ ?_ <;> clear h1
  ·intro b18 h1
   refine AN (CA (L:=[(0,(.ptr 0 0 0 0)),(3,(.ptr 2 0 0 0)),(4,(.ptr 3 0 0 0)),(5,(i64 q3.1)),(6,(.Al [(ls eI c5.params),(i64 c5.result),(i64 c5.body.op),(i64 c5.body.num),(ls AD c5.body.kids)] 0))]) (st':=[(Dr s0_0 q13.2),(ro 0 52 5 AJ s1),⟨0,31,2,[[(ls AI p1_0),(ow 1 0 s1)]]⟩,GA,⟨0,52,5,[]⟩]) (.raw U U U (.pure U (AB fun _=>U) (.raw U U U (.raw U U U (.pure U (by intro x hx;cases hx) .nil))))) (.same U)) ?_
   refine BO [(ro 0 52 5 AJ s1),⟨0,31,2,[[(ls AI p1_0),(ow 1 0 s1)]]⟩,GA,⟨0,52,5,[]⟩] 16 (by kernel_rfl) (by kernel_rfl) (by kernel_rfl) (by rfl) ?_
   refine BD (.ptr 2 0 0 1) AM U (fun _ _=>F8 Ka U U (show 0+1≤2 by decide) rfl) (BD (ow 1 0 s1) AM U (fun _ _=>B1 Mn U U U U) (BD (i64 q3.1) AM U (fun _ _=>BL U) (BD (.Al [(ls eI c5.params),(i64 c5.result),(i64 c5.body.op),(i64 c5.body.num),(ls AD c5.body.kids)] 0) AM U (fun _ _=>GB Px U U) (BD (ls eI c5.params) AM U (fun _ _=>Fm Le U U) (BD (.ptr 0 0 0 0) AM U (fun _ _=>BL U) ?_)))))
   refine D9 AM (fun x0 zz=>E9 (l:=[(0:Int),1,9,-1]) (enc:=eI) AM A4 (by decide) rfl U U U U (AB fun _=>U) (Ax U)) ?_
   refine bs h1 fun q19 gq19 h1=>?_
   refine E2 (rows0:=[(Dr s0_0 q13.2)]) (rows1:=[(Dr s0_0 q19.2)]) (v':=(i64 q19.1)) (y0:=(Dr s0_0 q19.2)) [0] AM H5 (BU gq19) rfl (by decide) rfl U (.raw U U .nil) rfl U (fun _=>(.raw U U .nil)) (fun _=>U) rfl ?_
   refine D9 AM (fun x0 zz=>E9 (l:=[q19.1]) (enc:=eI) AM A4 (by decide) rfl U U U U (AB fun _=>U) (Ax U)) ?_
   refine bs h1 fun q20 gq20 h1=>?_
   refine D9 AM (fun x0 zz=>BS (v:=(ls eI q20)) AM Nh (Ai.wk (D8 gq20) (by refine Wk.trans (Wk.A7 (L:=[(0,(ls eI q20))]) (st':=[⟨1,3,1,[]⟩]) (id:=0) rfl (show 0≤0 by decide) (AB fun _=>U) ⟨(.A7 U),trivial⟩ U) ?_;exact AS [] U (by decide) rfl U .nil (.same U))) rfl U U (Ax U)) ?_
   refine BD (.Al [(ls eI c5.params),(i64 c5.result),(i64 c5.body.op),(i64 c5.body.num),(ls AD c5.body.kids)] 1) AM U (fun _ _=>GB Nm U U) (BD (i64 c5.result) AM U (fun _ _=>Fm F6 U U) (BD (.Al [(ls eI c5.params),(i64 c5.result),(i64 c5.body.op),(i64 c5.body.num),(ls AD c5.body.kids)] 2) AM U (fun _ _=>GB SL U U) (BD (.agg [(i64 c5.body.op),(i64 c5.body.num),(ls AD c5.body.kids)]) AM U (fun _ _=>Fu BN U (show 2+3≤5 by decide) rfl) (BD (.agg [(ls eI q20),(i64 c5.result),(i64 c5.body.op),(i64 c5.body.num),(ls AD c5.body.kids)]) AM U (fun _ _=>EF TI S3 LD U U) (BD (.ptr 1 0 (Int.toNat q3.1) 0) AM U (fun _ _=>Bn DD U U U U gc5) (Di U (Gf (u':=(Ar.mk q20 c5.result c5.body)) AM Iy U U gc5 U U U (show 0+5≤5 by decide) rfl U ?_)))))))
   exact AA (M10 q19.2 (Sh.put s1 q3.1 (Ar.mk q20 c5.result c5.body)) p1_0 (Sh.AE h1).symm _ (by refine Wk.trans (Jb (st:=[⟨0,88,2,[[(.sl (List.map Dk s0_0)),(i64 q19.2)]]⟩,⟨0,52,5,List.map AJ (Sh.put s1 q3.1 (Ar.mk q20 c5.result c5.body))⟩,⟨0,31,2,[[(.sl (List.map AI p1_0)),(.own 1 0 (List.length s1))]]⟩,GA,⟨0,52,5,[]⟩]) (st':=[⟨0,88,2,[[(.sl (List.map Dk s0_0)),(i64 q19.2)]]⟩,⟨0,52,5,List.map AJ (Sh.put s1 q3.1 (Ar.mk q20 c5.result c5.body))⟩,⟨0,31,2,[[(.sl (List.map AI p1_0)),(.own 1 0 (List.length (Sh.put s1 q3.1 (Ar.mk q20 c5.result c5.body))))]]⟩,GA,⟨0,52,5,[]⟩]) (by simp only[Sh.FK])) ?_;refine Wk.trans (JU (L:=[(3,(.ptr 2 0 0 0)),(4,(.ptr 3 0 0 0))]) (st':=[⟨0,88,2,[[(.sl (List.map Dk s0_0)),(i64 q19.2)]]⟩,⟨1,52,5,List.map AJ (Sh.put s1 q3.1 (Ar.mk q20 c5.result c5.body))⟩,⟨0,31,2,[[(.sl (List.map AI p1_0)),(.own 1 1 (List.length (Sh.put s1 q3.1 (Ar.mk q20 c5.result c5.body))))]]⟩,GA,⟨0,52,5,[]⟩]) (st1:=[⟨0,88,2,[[(.sl (List.map Dk s0_0)),(i64 q19.2)]]⟩,⟨0,52,5,List.map AJ (Sh.put s1 q3.1 (Ar.mk q20 c5.result c5.body))⟩,⟨0,31,2,[[(.sl (List.map AI p1_0)),(.own 1 1 (List.length (Sh.put s1 q3.1 (Ar.mk q20 c5.result c5.body))))]]⟩,GA,⟨0,52,5,[]⟩]) 1 U (.raw U U (.pure (AB fun _=>U) (.raw U U (.raw U U (.pure (by intro x hx;cases hx) .nil))))) rfl (.same U)) ?_;exact AS [0,1,2,3] U (by decide) rfl U (.raw U U (.pure (AB fun _=>U) (.raw U U (.raw U U .nil)))) (.same U)))
  ·intro b18 h1
   refine zr tb U U ?_
   refine ci h1 U ?_ ?_ <;> clear h1
   ·intro b22 h1
    refine AN (CA (L:=[(0,(.ptr 0 0 0 0)),(3,(.ptr 2 0 0 0)),(4,(.ptr 3 0 0 0)),(5,(i64 q3.1)),(6,(.Al [(ls eI c5.params),(i64 c5.result),(i64 c5.body.op),(i64 c5.body.num),(ls AD c5.body.kids)] 0))]) (st':=[(Dr s0_0 q13.2),(ro 0 52 5 AJ s1),⟨0,31,2,[[(ls AI p1_0),(ow 1 0 s1)]]⟩,GA,⟨0,52,5,[]⟩]) (.raw U U U (.pure U (AB fun _=>U) (.raw U U U (.raw U U U (.pure U (by intro x hx;cases hx) .nil))))) (.same U)) ?_
    refine BO [(ro 0 52 5 AJ s1),⟨0,31,2,[[(ls AI p1_0),(ow 1 0 s1)]]⟩,GA,⟨0,52,5,[]⟩] 12 (by kernel_rfl) (by kernel_rfl) (by kernel_rfl) (by rfl) ?_
    refine BD (.ptr 2 0 0 1) AM U (fun _ _=>F8 Ka U U (show 0+1≤2 by decide) rfl) (BD (ow 1 0 s1) AM U (fun _ _=>B1 Mn U U U U) (BD (i64 q3.1) AM U (fun _ _=>BL U) (BD (.Al [(ls eI c5.params),(i64 c5.result),(i64 c5.body.op),(i64 c5.body.num),(ls AD c5.body.kids)] 0) AM U (fun _ _=>GB Px U U) (BD (ls eI c5.params) AM U (fun _ _=>Fm Le U U) (BD (.ptr 0 0 0 0) AM U (fun _ _=>BL U) ?_)))))
    refine D9 AM (fun x0 zz=>E9 (l:=[(0:Int),1,3,5,-1]) (enc:=eI) AM A4 (by decide) rfl U U U U (AB fun _=>U) (Ax U)) ?_
    refine bs h1 fun q23 gq23 h1=>?_
    refine E2 (rows0:=[(Dr s0_0 q13.2)]) (rows1:=[(Dr s0_0 q23.2)]) (v':=(i64 q23.1)) (y0:=(Dr s0_0 q23.2)) [0] AM H5 (BU gq23) rfl (by decide) rfl U (.raw U U .nil) rfl U (fun _=>(.raw U U .nil)) (fun _=>U) rfl ?_
    refine BD (.Al [(ls eI c5.params),(i64 c5.result),(i64 c5.body.op),(i64 c5.body.num),(ls AD c5.body.kids)] 2) AM U (fun _ _=>GB SL U U) (BD (.agg [(i64 c5.body.op),(i64 c5.body.num),(ls AD c5.body.kids)]) AM U (fun _ _=>Fu BN U (show 2+3≤5 by decide) rfl) (BD (.agg [(ls eI c5.params),(i64 q23.1),(i64 c5.body.op),(i64 c5.body.num),(ls AD c5.body.kids)]) AM U (fun _ _=>EF TI S3 LD U U) (BD (.ptr 1 0 (Int.toNat q3.1) 0) AM U (fun _ _=>Bn DD U U U U gc5) (Di U (Gf (u':=(Ar.mk c5.params q23.1 c5.body)) AM Iy U U gc5 U U U (show 0+5≤5 by decide) rfl U ?_)))))
    exact AA (M10 q23.2 (Sh.put s1 q3.1 (Ar.mk c5.params q23.1 c5.body)) p1_0 (Sh.AE h1).symm _ (by refine Wk.trans (Jb (st:=[⟨0,88,2,[[(.sl (List.map Dk s0_0)),(i64 q23.2)]]⟩,⟨0,52,5,List.map AJ (Sh.put s1 q3.1 (Ar.mk c5.params q23.1 c5.body))⟩,⟨0,31,2,[[(.sl (List.map AI p1_0)),(.own 1 0 (List.length s1))]]⟩,GA,⟨0,52,5,[]⟩]) (st':=[⟨0,88,2,[[(.sl (List.map Dk s0_0)),(i64 q23.2)]]⟩,⟨0,52,5,List.map AJ (Sh.put s1 q3.1 (Ar.mk c5.params q23.1 c5.body))⟩,⟨0,31,2,[[(.sl (List.map AI p1_0)),(.own 1 0 (List.length (Sh.put s1 q3.1 (Ar.mk c5.params q23.1 c5.body))))]]⟩,GA,⟨0,52,5,[]⟩]) (by simp only[Sh.FK])) ?_;refine Wk.trans (JU (L:=[(3,(.ptr 2 0 0 0)),(4,(.ptr 3 0 0 0))]) (st':=[⟨0,88,2,[[(.sl (List.map Dk s0_0)),(i64 q23.2)]]⟩,⟨1,52,5,List.map AJ (Sh.put s1 q3.1 (Ar.mk c5.params q23.1 c5.body))⟩,⟨0,31,2,[[(.sl (List.map AI p1_0)),(.own 1 1 (List.length (Sh.put s1 q3.1 (Ar.mk c5.params q23.1 c5.body))))]]⟩,GA,⟨0,52,5,[]⟩]) (st1:=[⟨0,88,2,[[(.sl (List.map Dk s0_0)),(i64 q23.2)]]⟩,⟨0,52,5,List.map AJ (Sh.put s1 q3.1 (Ar.mk c5.params q23.1 c5.body))⟩,⟨0,31,2,[[(.sl (List.map AI p1_0)),(.own 1 1 (List.length (Sh.put s1 q3.1 (Ar.mk c5.params q23.1 c5.body))))]]⟩,GA,⟨0,52,5,[]⟩]) 1 U (.raw U U (.pure (AB fun _=>U) (.raw U U (.raw U U (.pure (by intro x hx;cases hx) .nil))))) rfl (.same U)) ?_;exact AS [0,1,2,3] U (by decide) rfl U (.raw U U (.pure (AB fun _=>U) (.raw U U (.raw U U .nil)))) (.same U)))
   ·intro b22 h1
    refine zr tb U U ?_
    refine ci h1 U ?_ ?_ <;> clear h1
    ·intro b25 h1
     refine AL U (zq tb U (bs h1 fun q26 gq26 h1=>?_))
     refine Hk (rowsP:=[(Dr s0_0 q13.2)]) (rows0:=[(Dr s0_0 q13.2)]) (rows1:=[(Dr s0_0 q26.2)]) (rows2:=[(ro 0 80 3 AI q26.1)]) (rows1':=[(Dr s0_0 q26.2)]) (rows2':=[(ro 0 80 3 AI q26.1)]) (st':=[(Dr s0_0 q26.2),(ro 0 52 5 AJ s1),⟨0,31,2,[[(ls AI p1_0),(ow 1 0 s1)]]⟩,GA,⟨1,52,5,[]⟩,(ro 0 80 3 AI q26.1)]) (v':=(ow 5 0 q26.1)) [0] AM ZE (OK gq26) rfl (by decide) rfl U (.raw U U .nil) rfl U (.raw U U .nil) (.pure (AB fun _=>U) .nil) rfl U ?_
     refine zq tb U (Ad (Wk.A7 (L:=[(3,(.ptr 2 0 0 0)),(4,(.ptr 3 0 0 0)),(69,(ls AI q26.1)),(70,(.ptr 2 0 0 0))]) (st':=[(Dr s0_0 q26.2),(ro 0 52 5 AJ s1),⟨0,31,2,[[(ls AI p1_0),(ow 1 0 s1)]]⟩,GA,⟨1,52,5,[]⟩,⟨1,80,3,[]⟩]) (id:=5) rfl (show 2≤5 by decide) (AB fun _=>U) ⟨.rfl,.rfl,(.A7 U),.rfl,trivial⟩ U) (Az AM Uy U U U U U U (show 0+1≤2 by decide) rfl ?_))
     exact AA (M10 q26.2 s1 q26.1 (Sh.AE h1).symm _ (by refine Wk.trans (JU (L:=[(3,(.ptr 2 0 0 0)),(4,(.ptr 3 0 0 0))]) (st':=[(Dr s0_0 q26.2),(ro 1 52 5 AJ s1),⟨0,31,2,[[(ls AI q26.1),(ow 1 1 s1)]]⟩,GA,⟨1,52,5,[]⟩,⟨1,80,3,[]⟩]) (st1:=[(Dr s0_0 q26.2),(ro 0 52 5 AJ s1),⟨0,31,2,[[(ls AI q26.1),(ow 1 1 s1)]]⟩,GA,⟨1,52,5,[]⟩,⟨1,80,3,[]⟩]) 1 U (.raw U U (.pure (AB fun _=>U) (.raw U U (.raw U U (.pure (by intro x hx;cases hx) (.pure (by intro x hx;cases hx) .nil)))))) rfl (.same U)) ?_;exact AS [0,1,2,3] U (by decide) rfl U (.raw U U (.pure (AB fun _=>U) (.raw U U (.raw U U .nil)))) (.same U)))
    ·intro b25 h1
     refine zr tb U U ?_
     refine ci h1 U ?_ ?_ <;> clear h1
     ·intro b28 h1
      refine AL U (zm tb 3 U ?_)
      refine A3 (m:=5) (l:=[c5]) (enc:=AJ) AM DD (by decide) rfl U U U U U ?_
      refine bs h1 fun l29 gl29 h1=>CB (l2:=[c5]) AM DD U U U U (EO U U) (fun _=>U) gl29 U (zq tb U (Az AM Mn U U U U U U (show 1+1≤2 by decide) rfl ?_))
      exact AA (M10 q13.2 l29 p1_0 (Sh.AE h1).symm _ (AS [0,1,2,3] U (by decide) rfl U (.raw U U (.pure (AB fun _=>U) (.raw U U (.raw U U .nil)))) (.same U)))
     ·intro b28 h1
      exact AR (M10 q13.2 s1 p1_0 (Sh.AE h1).symm _ (by refine Wk.trans (JU (L:=[(3,(.ptr 2 0 0 0)),(4,(.ptr 3 0 0 0))]) (st':=[(Dr s0_0 q13.2),(ro 1 52 5 AJ s1),⟨0,31,2,[[(ls AI p1_0),(ow 1 1 s1)]]⟩,GA,⟨1,52,5,[]⟩]) (st1:=[(Dr s0_0 q13.2),(ro 0 52 5 AJ s1),⟨0,31,2,[[(ls AI p1_0),(ow 1 1 s1)]]⟩,GA,⟨1,52,5,[]⟩]) 1 U (.raw U U (.pure (AB fun _=>U) (.raw U U (.raw U U (.pure (by intro x hx;cases hx) .nil))))) rfl (.same U)) ?_;exact AS [0,1,2,3] U (by decide) rfl U (.raw U U (.pure (AB fun _=>U) (.raw U U (.raw U U .nil)))) (.same U)))
theorem MV {N:Nat} {s0_0:(List Int)} {s0_1:Int} {r:Af×Int} (h0:F3 N s0_0 s0_1=some r):Ai Try.prog 36 [(.ptr 0 0 0 0)] [(Dr s0_0 s0_1)] (fun v st=>v=(.agg [(ls AI r.1.decls),(ow 1 0 r.1.funcs)])∧st=[(Dr s0_0 r.2),(ro 0 52 5 AJ r.1.funcs)]):=by
 unfold F3 at h0
 refine Ai.wk (r0:=(.agg [(ls AI r.1.decls),(ow 1 0 r.1.funcs)])) (st0:=[(Dr s0_0 r.2),(ro 0 52 5 AJ r.1.funcs),⟨0,31,2,[[(ls AI r.1.decls),(ow 1 0 r.1.funcs)]]⟩]) ?_ (EG (L:=[(0,(.agg [(ls AI r.1.decls),(ow 1 0 r.1.funcs)]))]) (st':=[(Dr s0_0 r.2),(ro 0 52 5 AJ r.1.funcs)]) [0,1] U (by decide) rfl U (.raw U (.pure (AB fun _=>U) trivial)) (.same U))
 refine ai Try.func36 U U U U (sr U fun K1 hK1=>A1 (m:=1) AM O9 U U (dn hK1 U (sr U fun K2 hK2=>zm tb 2 U (bs h0 fun q3 gq3 h0=>?_))))
 refine Hk (rowsP:=[(Dr s0_0 s0_1)]) (rows0:=[(Dr s0_0 s0_1)]) (rows1:=[(Dr s0_0 q3.2)]) (rows2:=[(ro 0 52 5 AJ q3.1.funcs)]) (rows1':=[(Dr s0_0 q3.2)]) (rows2':=[(ro 0 52 5 AJ q3.1.funcs)]) (st':=[(Dr s0_0 q3.2),GA,(ro 0 52 5 AJ q3.1.funcs)]) (v':=(.agg [(ls AI q3.1.decls),(ow 2 0 q3.1.funcs)])) [0] AM Zy (LS gq3) rfl (by decide) rfl U (.raw U U .nil) rfl U (.raw U U .nil) (.pure (AB fun _=>U) .nil) rfl U ?_
 refine bs h0 fun q4 gq4 h0=>?_
 refine Bc (rows0:=[(Dr s0_0 q3.2),(ro 0 52 5 AJ q3.1.funcs)]) (rows1:=[(Dr s0_0 q4.2),(ro 1 52 5 AJ q4.1.funcs)]) (st':=[(Dr s0_0 q4.2),GA,(ro 1 52 5 AJ q4.1.funcs)]) (v':=(.agg [(ls AI q4.1.decls),(ow 2 1 q4.1.funcs)])) [0,2] AM ZB (LM gq4) rfl (by decide) rfl U (.raw U U (.pure (AB fun _=>U) .nil)) rfl U (.raw U U (.pure (AB fun _=>U) .nil)) .nil U U ?_
 refine Az AM FA U U U U U U (show 0+2≤2 by decide) rfl (dn hK2 U ?_)
 replace h0:=Sh.AE h0
 subst r
 exact AU (Exists.intro _ (And.intro (((CA (L:=[(2,(.ptr 1 0 0 0))]) (st':=[(Dr s0_0 q4.2),⟨0,31,2,[[(ls AI q4.1.decls),(ow 2 0 q4.1.funcs)]]⟩,(ro 0 52 5 AJ q4.1.funcs)]) (.raw U U U (.raw U U U (.pure U (AB fun _=>U) .nil))) (.same U)).trans (Ih (L:=[(2,(.ptr 2 0 0 0))]) (st':=[(Dr s0_0 q4.2),(ro 0 52 5 AJ q4.1.funcs),⟨0,31,2,[[(ls AI q4.1.decls),(ow 1 0 q4.1.funcs)]]⟩]) (st1:=[(Dr s0_0 q4.2),(ro 0 52 5 AJ q4.1.funcs),⟨0,31,2,[[(ls AI q4.1.decls),(ow 2 0 q4.1.funcs)]]⟩]) [0,2,1] U (.raw U U .nil) (by decide) rfl U (.raw U U (.pure (AB fun _=>U) (.raw U U .nil))) (.same U))).trans (Ah (L:=[(2,(.ptr 2 0 0 0))]) (.same U))) (A9 (x:=.tmp 2) (off:=0) (cs:=[(ls AI q4.1.decls),(ow 1 0 q4.1.funcs)]) (vs:=[(ls AI q4.1.decls),(ow 1 0 q4.1.funcs)]) FA U U U (show 0+2≤2 by decide) rfl _ ⟨U,U⟩)))
theorem Kq {N:Nat} {p0:(List Int)} {r:Af×Int} (h0:E3 N p0=some r):Ai Try.prog 17 [(ls Dk p0)] [] (fun v st=>v=(.CO [(.agg [(ls AI r.1.decls),(ls AJ r.1.funcs)]),(i64 r.2)])∧st=[]):=by
 unfold E3 at h0
 refine D3 U (ai Try.func17 U U U U (sr U fun K1 hK1=>A1 (m:=0) AM O9 U U (zq tb U (dn hK1 U (sr U fun K2 hK2=>zq tb U (bs h0 fun q3 gq3 h0=>Bz (v':=(.ptr 1 0 0 0)) AM Zj (NM gq3) rfl U ⟨(Cz U).any,trivial⟩ U U (zq tb U (dn hK2 U ?_))))))))
 refine sr U fun K4 hK4=>zq tb U (bs h0 fun q5 gq5 h0=>?_)
 refine Hk (rowsP:=[(Dr q3.1 q3.2)]) (rows0:=[(Dr q3.1 q3.2)]) (rows1:=[(Dr q3.1 q5.2)]) (rows2:=[(ro 0 52 5 AJ q5.1.funcs)]) (rows1':=[(Dr q3.1 q5.2)]) (rows2':=[(ro 0 52 5 AJ q5.1.funcs)]) (st':=[GA,(Dr q3.1 q5.2),(ro 0 52 5 AJ q5.1.funcs)]) (v':=(.agg [(ls AI q5.1.decls),(ow 2 0 q5.1.funcs)])) [1] AM Zn (MV gq5) rfl (by decide) rfl U (.raw U U .nil) rfl U (.raw U U .nil) (.pure (AB fun _=>U) .nil) rfl U ?_
 refine A1 (m:=3) AM O9 U U (Ad (Wk.A7 (L:=[(2,(.ptr 0 0 0 0)),(4,(.ptr 1 0 0 0)),(5,(.ptr 3 0 0 0)),(9,(.agg [(ls AI q5.1.decls),(ls AJ q5.1.funcs)]))]) (st':=[GA,(Dr q3.1 q5.2),⟨1,52,5,[]⟩,GA]) (id:=2) rfl (show 0≤2 by decide) (AB fun _=>U) ⟨.rfl,.rfl,.rfl,(.agg ⟨.rfl,(.Gj U),trivial⟩),trivial⟩ U) (Az AM FA U U U U U U (show 0+2≤2 by decide) rfl (dn hK4 U (AH fun K6 hK6=>bs h0 fun o8 h1 h0=>?_))))
 have M8 :∀(t7:Int),o8=t7→∀s,Wk 0 s ⟨14,Aa [(2,(.ptr 0 0 0 0)),(3,(i64 t7))],[(OX q5.1.decls q5.1.funcs)]⟩→K6 s:=by
  intro t7 hq s hw
  subst o8
  try dsimp only at h0
  refine hK6 _ (AN hw ?_)
  replace h0:=Sh.AE h0
  subst r
  exact AU (Exists.intro _ (And.intro (Ah (L:=[(2,(.ptr 0 0 0 0)),(3,(i64 t7))]) (.same U)) (A9 (x:=.tmp 2) (off:=0) (cs:=[(ls AI q5.1.decls),(ls AJ q5.1.funcs)]) (vs:=[(ls AI q5.1.decls),(ls AJ q5.1.funcs)]) FA U U U (show 0+2≤2 by decide) rfl _ U)))
 refine Ho (by kernel_rfl) ?_
 refine Cj 1 (v:=(.ptr 1 0 0 0)) rfl U (by kernel_rfl) (by kernel_rfl) (by kernel_rfl) rfl (GR U) ?_
 refine Ae [0,2] U (by kernel_rfl) (by decide) ⟨?_,?_,trivial⟩
 ·refine Au.of (i:=0) rfl U (by rfl) ?_
  refine zq tb U (AA ⟨U,?_⟩)
  refine Ae [2] U (by kernel_rfl) (by decide) ⟨?_,trivial⟩
  ·refine Au.of (i:=2) rfl U (by rfl) ?_
   refine A3 (m:=4) (l:=[(1:Int),2,3,1,3,0,-1,4]) (enc:=eI) AM A4 (by decide) rfl U U U U U ?_
   refine AA ⟨U,?_⟩
   refine Ae [3] U (by kernel_rfl) (by decide) ⟨?_,trivial⟩
   ·refine Au.of (i:=3) rfl U (by rfl) ?_
    refine Ad (Wk.A7 (L:=[(2,(.ptr 0 0 0 0)),(10,(.agg [(ls AI q5.1.decls),(ls AJ q5.1.funcs)])),(11,(.ptr 1 0 0 0)),(12,(ls eI [(1:Int),2,3,1,3,0,-1,4]))]) (st':=[GA,(Dr q3.1 q5.2),⟨1,52,5,[]⟩,(OX q5.1.decls q5.1.funcs),⟨1,3,1,[]⟩]) (id:=4) rfl (show 0≤4 by decide) (AB fun _=>U) ⟨.rfl,.rfl,.rfl,(.A7 U),trivial⟩ U) (bs h1 fun q9 gq9 h1=>?_)
    refine Bc (rows0:=[(Dr q3.1 q5.2)]) (rows1:=[(Dr q3.1 q9.2)]) (st':=[GA,(Dr q3.1 q9.2),⟨1,52,5,[]⟩,(OX q5.1.decls q5.1.funcs),⟨1,3,1,[]⟩]) (v':=(i64 q9.1)) [1] AM H5 (BU gq9) rfl (by decide) rfl U (.raw U U .nil) rfl U (.raw U U .nil) .nil U U ?_
    refine AA ⟨U,?_⟩
    refine Ae [4] U (by kernel_rfl) (by decide) ⟨?_,trivial⟩
    ·refine Au.of (i:=4) rfl U (by rfl) ?_
     refine Az AM FA U U U U U U (show 0+2≤2 by decide) rfl (AA ⟨U,?_⟩)
     refine Cj 5 (v:=(i64 q9.1)) rfl U (by kernel_rfl) (by kernel_rfl) (by kernel_rfl) rfl (Hn U) ?_
     exact F5 U (by kernel_rfl) (M8 q9.1 (Sh.AE h1).symm _ (by exact AS [0] U (by decide) rfl U (.raw U U .nil) (.same U)))
 ·refine Au.of (i:=2) rfl U (by rfl) ?_
  refine A3 (m:=4) (l:=[(1:Int),2,3,1,3,0,-1,4]) (enc:=eI) AM A4 (by decide) rfl U U U U U ?_
  refine AA ⟨U,?_⟩
  refine Ae [0,3] U (by kernel_rfl) (by decide) ⟨?_,?_,trivial⟩
  ·refine Au.of (i:=0) rfl U (by rfl) ?_
   refine zq tb U (AA ⟨U,?_⟩)
   refine Ae [3] U (by kernel_rfl) (by decide) ⟨?_,trivial⟩
   ·refine Au.of (i:=3) rfl U (by rfl) ?_
    refine Ad (Wk.A7 (L:=[(2,(.ptr 0 0 0 0)),(10,(.agg [(ls AI q5.1.decls),(ls AJ q5.1.funcs)])),(11,(.ptr 1 0 0 0)),(12,(ls eI [(1:Int),2,3,1,3,0,-1,4]))]) (st':=[GA,(Dr q3.1 q5.2),⟨1,52,5,[]⟩,(OX q5.1.decls q5.1.funcs),⟨1,3,1,[]⟩]) (id:=4) rfl (show 0≤4 by decide) (AB fun _=>U) ⟨.rfl,.rfl,.rfl,(.A7 U),trivial⟩ U) (bs h1 fun q10 gq10 h1=>?_)
    refine Bc (rows0:=[(Dr q3.1 q5.2)]) (rows1:=[(Dr q3.1 q10.2)]) (st':=[GA,(Dr q3.1 q10.2),⟨1,52,5,[]⟩,(OX q5.1.decls q5.1.funcs),⟨1,3,1,[]⟩]) (v':=(i64 q10.1)) [1] AM H5 (BU gq10) rfl (by decide) rfl U (.raw U U .nil) rfl U (.raw U U .nil) .nil U U ?_
    refine AA ⟨U,?_⟩
    refine Ae [4] U (by kernel_rfl) (by decide) ⟨?_,trivial⟩
    ·refine Au.of (i:=4) rfl U (by rfl) ?_
     refine Az AM FA U U U U U U (show 0+2≤2 by decide) rfl (AA ⟨U,?_⟩)
     refine Cj 5 (v:=(i64 q10.1)) rfl U (by kernel_rfl) (by kernel_rfl) (by kernel_rfl) rfl (Hn U) ?_
     exact F5 U (by kernel_rfl) (M8 q10.1 (Sh.AE h1).symm _ (by exact AS [0] U (by decide) rfl U (.raw U U .nil) (.same U)))
  ·refine Au.of (i:=3) rfl U (by rfl) ?_
   refine Ad (Wk.A7 (L:=[(2,(.ptr 0 0 0 0)),(5,(.ptr 3 0 0 0)),(11,(.ptr 1 0 0 0)),(12,(ls eI [(1:Int),2,3,1,3,0,-1,4]))]) (st':=[GA,(Dr q3.1 q5.2),⟨1,52,5,[]⟩,(OX q5.1.decls q5.1.funcs),⟨1,3,1,[]⟩]) (id:=4) rfl (show 0≤4 by decide) (AB fun _=>U) ⟨.rfl,.rfl,.rfl,(.A7 U),trivial⟩ U) (bs h1 fun q11 gq11 h1=>?_)
   refine Bc (rows0:=[(Dr q3.1 q5.2)]) (rows1:=[(Dr q3.1 q11.2)]) (st':=[GA,(Dr q3.1 q11.2),⟨1,52,5,[]⟩,(OX q5.1.decls q5.1.funcs),⟨1,3,1,[]⟩]) (v':=(i64 q11.1)) [1] AM H5 (BU gq11) rfl (by decide) rfl U (.raw U U .nil) rfl U (.raw U U .nil) .nil U U ?_
   refine AA ⟨U,?_⟩
   refine Ae [0] U (by kernel_rfl) (by decide) ⟨?_,trivial⟩
   ·refine Au.of (i:=0) rfl U (by rfl) ?_
    refine zq tb U (AA ⟨U,?_⟩)
    refine Ae [4] U (by kernel_rfl) (by decide) ⟨?_,trivial⟩
    ·refine Au.of (i:=4) rfl U (by rfl) ?_
     refine Az AM FA U U U U U U (show 0+2≤2 by decide) rfl (AA ⟨U,?_⟩)
     refine Cj 5 (v:=(i64 q11.1)) rfl U (by kernel_rfl) (by kernel_rfl) (by kernel_rfl) rfl (Hn U) ?_
     exact F5 U (by kernel_rfl) (M8 q11.1 (Sh.AE h1).symm _ (by exact AS [0] U (by decide) rfl U (.raw U U .nil) (.same U)))
theorem Ha {p0:(List Ac)} {p1:Int} {r:Bool} (h0:FY p0 p1=some r):Ai Try.prog 90 [(ls AI p0),(i64 p1)] [] (fun v st=>v=(.bool r)∧st=[]):=by
 unfold FY at h0
 refine ai Try.func90 U U U U (zr tb U U (AH fun K2 hK2=>bs h0 fun o4 h1 h0=>?_))
 have M4 :∀(t3:Bool),o4=t3→∀s,Wk 0 s ⟨13,Aa [(4,(.bool t3))],[]⟩→K2 s:=by
  intro t3 hq s hw
  subst o4
  try dsimp only at h0
  refine hK2 _ (AN hw ?_)
  replace h0:=Sh.AE h0
  subst r
  exact AU (xr (Ah (L:=[(4,(.bool t3))]) (.same U)))
 refine AL U (zm tb 3 U ?_)
 rcases Sh.Am h1 with ⟨b5,h1⟩ | ⟨b5,h1⟩
 ·exact zg tb b5 U (zg tb b5 U (B3 (v:=(i64 (Sh.len p0))) (Bw U U b5) rfl (B6 R9 U) (zg tb b5 U (zt b5 U (zq tb U (AA (M4 (decide (p1≤(Sh.len p0))) (Sh.AE h1).symm _ (AG U))))))))
 ·refine zs b5 U ?_
  iterate 3 refine zs b5 rfl ?_
  exact zf b5 U (zq tb U (AA (M4 false (Sh.AE h1).symm _ (AG U))))
theorem Hr {N:Nat} {p0:(List Ac)} {p1:(List Int)} {r:Bool} (h0:FJ N p0 p1=some r):Ai Try.prog 59 [(ls AI p0),(ls eI p1)] [] (fun v st=>v=(.bool r)∧st=[]):=by
 unfold FJ at h0
 refine ai Try.func59 U U U U (zr tb U U (AH fun K2 hK2=>sr U fun K3 hK3=>zq tb U (zl tb U U (zq tb U (dn hK3 U ?_)))))
 obtain⟨o5,h1,h0⟩:=Sh.BZ h0
 have M5 :∀(_:Unit),o5=Sum.inr ()→∀s,Wk 0 s ⟨18,Aa [],[]⟩→K2 s:=by
  intro _ hq s hw
  subst o5
  try dsimp only at h0
  refine hK2 _ (AN hw (zr tb U U ?_))
  replace h0:=Sh.AE h0
  subst r
  exact AU (xr (Ah (L:=[(4,(.bool true))]) (.same U)))
 refine Ab (Ay (σ:=Int) (fun n v=>Dy p0 p1 n v=some o5) (fun t4=>⟨18,Aa [(0,(ls AI p0)),(7,(ls eI p1)),(8,(i64 (Sh.len p1))),(9,(i64 t4))],[]⟩) N 0 h1 (AG U) (fun _ hv=>by rw[Dy] at hv;cases hv) ?_)
 rintro n t4 h1
 try dsimp only at h1 ⊢
 rw[Dy] at h1
 refine zr tb U U (AH fun K8 hK8=>?_)
 refine ci h1 U ?_ ?_ <;> clear h1
 ·intro b9 h1
  refine AR (hK8 _ (AH fun K10 hK10=>Ab (sr U fun K11 hK11=>bs h1 fun c12 gc12 h1=>zx A4 gc12 U U U (zm tb 2 U (dn hK11 U (sr U fun K13 hK13=>zm tb 2 U (bs h1 fun q14 gq14 h1=>zc U7 (Ha gq14) rfl U U ?_)))))))
  refine zq tb U (dn hK13 U ?_)
  refine ci h1 U ?_ ?_ <;> clear h1
  ·intro b15 h1
   have b16:q14=false:=by simpa using b15
   refine zr tb U U ?_
   replace h1:=Sh.AE h1
   subst o5
   try dsimp only[id] at h0
   replace h0:=Sh.AE h0
   subst r
   exact AU (xr (Ah (L:=[(4,(.bool false))]) (.same U)))
  ·intro b15 h1
   have b18:q14=true:=by simpa using b15
   exact AR (hK10 _ (AL U (zm tb 2 U (AA (xi (Sh.w (t4+1)) h1 (AG U))))))
 ·intro b9 h1
  exact A5 (M5 () (Sh.AE h1).symm _ (AG U))
theorem Mb {N:Nat} {p0:(List Ac)} {r:Bool} (h0:Fz N p0=some r):Ai Try.prog 89 [(ls AI p0)] [] (fun v st=>v=(.bool r)∧st=[]):=by
 unfold Fz at h0
 refine ai Try.func89 U U U U (zr tb U U (AH fun K2 hK2=>sr U fun K3 hK3=>zq tb U (zl tb U U (zq tb U (dn hK3 U ?_)))))
 refine ci h0 U ?_ ?_ <;> clear h0
 ·intro b4 h0
  refine zr tb U U ?_
  replace h0:=Sh.AE h0
  subst r
  exact AU (xr (Ah (L:=[(2,(.bool false))]) (.same U)))
 ·intro b4 h0
  refine AR (hK2 _ (AH fun K6 hK6=>sr U fun K7 hK7=>zq tb U (zl tb U U (zq tb U (dn hK7 U ?_)))))
  obtain⟨o9,h1,h0⟩:=Sh.BZ h0
  have M9 :∀(_:Unit),o9=Sum.inr ()→∀s,Wk 0 s ⟨106,Aa [],[]⟩→K6 s:=by
   intro _ hq s hw
   subst o9
   try dsimp only at h0
   refine hK6 _ (AN hw (zr tb U U ?_))
   replace h0:=Sh.AE h0
   subst r
   exact AU (xr (Ah (L:=[(2,(.bool true))]) (.same U)))
  refine Ab (Ay (σ:=Int) (fun n v=>DM N p0 n v=some o9) (fun t8=>⟨106,Aa [(0,(ls AI p0)),(12,(ls AI p0)),(13,(i64 (Sh.len p0))),(14,(i64 t8))],[]⟩) N 0 h1 (AG U) (fun _ hv=>by rw[DM] at hv;cases hv) ?_)
  rintro n t8 h1
  try dsimp only at h1 ⊢
  rw[DM] at h1
  refine zr tb U U (AH fun K12 hK12=>?_)
  refine ci h1 U ?_ ?_ <;> clear h1
  ·intro b13 h1
   refine AR (hK12 _ (AH fun K14 hK14=>Ab (sr U fun K15 hK15=>zq tb U (bs h1 fun c16 gc16 h1=>zx ER gc16 U U U (zq tb U (A1 (m:=0) AM Eh U U (zq tb U (Az AM Ht U U U U U U (show 0+3≤3 by decide) rfl (dn hK15 U ?_)))))))))
   refine AH fun K17 hK17=>AH fun K18 hK18=>bs h1 fun o20 h2 h1=>?_
   have M20 :∀(t19:Bool),o20=t19→∀s,Wk 0 s ⟨106,Aa [(0,(ls AI p0)),(3,(i64 t8)),(4,(.ptr 0 0 0 0)),(12,(ls AI p0)),(13,(i64 (Sh.len p0))),(14,(i64 t8)),(52,(.bool t19))],[⟨0,80,3,[(AI c16)]⟩]⟩→K18 s:=by
    intro t19 hq s hw
    subst o20
    try dsimp only at h1
    refine hK18 _ (AN hw ?_)
    refine ci h1 U ?_ ?_ <;> clear h1
    ·intro b21 h1
     refine zr tb U U ?_
     replace h1:=Sh.AE h1
     subst o9
     try dsimp only[id] at h0
     replace h0:=Sh.AE h0
     subst r
     exact AU (xr (As [(2,(.bool false))] U))
    ·intro b21 h1
     refine AR (hK17 _ (AH fun K23 hK23=>sr U fun K24 hK24=>zm tb 2 U (zl tb U U (zq tb U (dn hK24 U ?_)))))
     obtain⟨o26,h2,h1⟩:=Sh.BZ h1
     have M26 :∀(_:Unit),o26=Sum.inr ()→∀s,Wk 0 s ⟨106,Aa [(0,(ls AI p0)),(3,(i64 t8)),(4,(.ptr 0 0 0 0)),(12,(ls AI p0)),(13,(i64 (Sh.len p0))),(14,(i64 t8))],[⟨0,80,3,[(AI c16)]⟩]⟩→K23 s:=by
      intro _ hq s hw
      subst o26
      try dsimp only at h1
      refine hK23 _ (AN hw (sr U fun K27 hK27=>zm tb 2 U (bs h1 fun l28 gl28 h1=>Nr (i:=0) (j:=t8) AM ER U U U (fun _=>U) gl28 (zl tb U U (zq tb U (dn hK27 U ?_))))))
      obtain⟨o30,h2,h1⟩:=Sh.BZ h1
      have M30 :∀(_:Unit),o30=Sum.inr ()→∀s,Wk 0 s ⟨106,Aa [(0,(ls AI p0)),(12,(ls AI p0)),(13,(i64 (Sh.len p0))),(14,(i64 t8))],[]⟩→K14 s:=by
       intro _ hq s hw
       subst o30
       try dsimp only at h1
       exact hK14 _ (AN hw (AL U (zm tb 2 U (AA (xi (Sh.w (t8+1)) h1 (AG U))))))
      refine Ab (Ay (σ:=Int) (fun n v=>Co c16 l28 n v=some o30) (fun t29=>⟨106,Aa [(0,(ls AI p0)),(4,(.ptr 0 0 0 0)),(12,(ls AI p0)),(13,(i64 (Sh.len p0))),(14,(i64 t8)),(74,(ls AI l28)),(75,(i64 (Sh.len l28))),(76,(i64 t29))],[⟨0,80,3,[(AI c16)]⟩]⟩) N 0 h2 (AG U) (fun _ hv=>by rw[Co] at hv;cases hv) ?_)
      rintro n t29 h2
      try dsimp only at h2 ⊢
      rw[Co] at h2
      refine zr tb U U (AH fun K32 hK32=>?_)
      refine ci h2 U ?_ ?_ <;> clear h2
      ·intro b33 h2
       refine AR (hK32 _ (AH fun K34 hK34=>Ab (sr U fun K35 hK35=>bs h2 fun c36 gc36 h2=>zx ER gc36 U U U (zq tb U (A1 (m:=1) AM Eh U U (Az AM Ht U U U U U U (show 0+3≤3 by decide) rfl (dn hK35 U (AH fun K37 hK37=>bs h2 fun o39 h3 h2=>?_))))))))
       have M39 :∀(t38:Bool),o39=t38→∀s,Wk 0 s ⟨106,Aa [(0,(ls AI p0)),(4,(.ptr 0 0 0 0)),(12,(ls AI p0)),(13,(i64 (Sh.len p0))),(14,(i64 t8)),(74,(ls AI l28)),(75,(i64 (Sh.len l28))),(76,(i64 t29)),(103,(.bool t38))],[⟨0,80,3,[(AI c16)]⟩]⟩→K37 s:=by
        intro t38 hq s hw
        subst o39
        try dsimp only at h2
        refine hK37 _ (AN hw ?_)
        refine ci h2 U ?_ ?_ <;> clear h2
        ·intro b40 h2
         refine zr tb U U ?_
         replace h2:=Sh.AE h2
         subst o30
         try dsimp only[id] at h1
         replace h1:=Sh.AE h1
         subst o9
         try dsimp only[id] at h0
         replace h0:=Sh.AE h0
         subst r
         exact AU (xr (As [(2,(.bool false))] U))
        ·intro b40 h2
         exact AR (hK34 _ (AL U (zm tb 2 U (AA (xi (Sh.w (t29+1)) h2 (AG U))))))
       refine AL U (zm tb 2 U (zl tb U U (zm tb 2 U ?_)))
       rcases Sh.Am h3 with ⟨b42,h3⟩ | ⟨b42,h3⟩
       ·refine zg tb b42 U (zg tb b42 U (B3 (v:=(i64 (Sh.len c36.cons))) (Bw U U b42) rfl (B6 R0 U) (zg tb b42 U (zt b42 U (zq tb U ?_)))))
        rcases Sh.Am h3 with ⟨b43,h3⟩ | ⟨b43,h3⟩
        ·refine zg tb b43 U ?_
         iterate 4 refine zg tb b43 rfl ?_
         refine zt b43 U (zq tb U ?_)
         rcases Sh.Am h3 with ⟨b44,h3⟩ | ⟨b44,h3⟩
         ·refine zg tb b44 U ?_
          iterate 4 refine zg tb b44 rfl ?_
          refine zt b44 U ?_
          exact AA (M39 (decide (c36.to=c16.to)) (Sh.AE h3).symm _ (AS [0] U (by decide) rfl U (.raw U U .nil) (.same U)))
         ·refine zs b44 U ?_
          iterate 4 refine zs b44 rfl ?_
          refine zf b44 U ?_
          exact AA (M39 false (Sh.AE h3).symm _ (AS [0] U (by decide) rfl U (.raw U U .nil) (.same U)))
        ·refine zs b43 U ?_
         iterate 4 refine zs b43 rfl ?_
         refine zf b43 U (zq tb U ?_)
         iterate 5 refine zs rfl rfl ?_
         refine zf U U ?_
         exact AA (M39 false (Sh.AE h3).symm _ (AS [0] U (by decide) rfl U (.raw U U .nil) (.same U)))
       ·refine zs b42 U ?_
        iterate 3 refine zs b42 rfl ?_
        refine zf b42 U (zq tb U ?_)
        iterate 5 refine zs rfl rfl ?_
        refine zf U U (zq tb U ?_)
        iterate 5 refine zs rfl rfl ?_
        refine zf U U ?_
        exact AA (M39 false (Sh.AE h3).symm _ (AS [0] U (by decide) rfl U (.raw U U .nil) (.same U)))
      ·intro b33 h2
       exact A5 (M30 () (Sh.AE h2).symm _ (As _ U))
     refine Ab (Ay (σ:=Int) (fun n v=>Cn N c16 p0 n v=some o26) (fun t25=>⟨106,Aa [(0,(ls AI p0)),(3,(i64 t8)),(4,(.ptr 0 0 0 0)),(12,(ls AI p0)),(13,(i64 (Sh.len p0))),(14,(i64 t8)),(54,(ls BJ c16.cons)),(55,(i64 (Sh.len c16.cons))),(56,(i64 t25))],[⟨0,80,3,[(AI c16)]⟩]⟩) N 0 h2 (AG U) (fun _ hv=>by rw[Cn] at hv;cases hv) ?_)
     rintro n t25 h2
     try dsimp only at h2 ⊢
     rw[Cn] at h2
     refine zr tb U U (AH fun K46 hK46=>?_)
     refine ci h2 U ?_ ?_ <;> clear h2
     ·intro b47 h2
      refine AR (hK46 _ (AH fun K48 hK48=>Ab (sr U fun K49 hK49=>bs h2 fun c50 gc50 h2=>zx J9 gc50 U U U (zq tb U (A1 (m:=1) AM Mx U U (Az AM Kr U U U U U U (show 0+1≤1 by decide) rfl (dn hK49 U (AH fun K51 hK51=>bs h2 fun o53 h3 h2=>?_))))))))
      have M53 :∀(t52:Bool),o53=t52→∀s,Wk 0 s ⟨106,Aa [(0,(ls AI p0)),(3,(i64 t8)),(4,(.ptr 0 0 0 0)),(12,(ls AI p0)),(13,(i64 (Sh.len p0))),(14,(i64 t8)),(54,(ls BJ c16.cons)),(55,(i64 (Sh.len c16.cons))),(56,(i64 t25)),(70,(.bool t52))],[⟨0,80,3,[(AI c16)]⟩]⟩→K51 s:=by
       intro t52 hq s hw
       subst o53
       try dsimp only at h2
       refine hK51 _ (AN hw ?_)
       refine ci h2 U ?_ ?_ <;> clear h2
       ·intro b54 h2
        refine zr tb U U ?_
        replace h2:=Sh.AE h2
        subst o26
        try dsimp only[id] at h1
        replace h1:=Sh.AE h1
        subst o9
        try dsimp only[id] at h0
        replace h0:=Sh.AE h0
        subst r
        exact AU (xr (As [(2,(.bool false))] U))
       ·intro b54 h2
        exact AR (hK48 _ (AL U (zm tb 2 U (AA (xi (Sh.w (t25+1)) h2 (AG U))))))
      refine AL U (zm tb 2 U (zl tb U U (zm tb 2 U ?_)))
      rcases Sh.Am h3 with ⟨b56,h3⟩ | ⟨b56,h3⟩
      ·refine zs b56 U ?_
       iterate 4 refine zs b56 rfl ?_
       refine zt b56 U ?_
       exact AA (M53 true (Sh.AE h3).symm _ (AS [0] U (by decide) rfl U (.raw U U .nil) (.same U)))
      ·refine zg tb b56 U (zg tb b56 U (zg tb b56 U (bs h3 fun q57 gq57 h3=>zd b56 Wa (Hr gq57) rfl U U U (zg tb b56 U (zf b56 U ?_)))))
       exact AA (M53 (!q57) (Sh.AE h3).symm _ (AS [0] U (by decide) rfl U (.raw U U .nil) (.same U)))
     ·intro b47 h2
      exact A5 (M26 () (Sh.AE h2).symm _ (AG U))
   refine AL U (zm tb 3 U (bs h2 fun q58 gq58 h2=>zc U7 (Ha gq58) rfl U U (zm tb 2 U ?_)))
   rcases Sh.Am h2 with ⟨b59,h2⟩ | ⟨b59,h2⟩
   ·refine zs b59 U ?_
    iterate 4 refine zs b59 rfl ?_
    refine zt b59 U (zq tb U ?_)
    iterate 4 refine zs rfl rfl ?_
    refine zt U U (zq tb U ?_)
    iterate 5 refine zs rfl rfl ?_
    iterate 8 refine zn rfl ?_
    exact zs U U (zt U U (AA (M20 true (Sh.AE h2).symm _ (AG U))))
   ·refine zg tb b59 U (zg tb b59 U (zg tb b59 U (bs h2 fun q60 gq60 h2=>zd b59 U7 (Ha gq60) rfl U U U (zg tb b59 U (zf b59 U (zq tb U ?_))))))
    rcases Sh.Am h2 with ⟨b61,h2⟩ | ⟨b61,h2⟩
    ·refine zs b61 U ?_
     iterate 3 refine zs b61 rfl ?_
     refine zt b61 U (zq tb U ?_)
     iterate 5 refine zs rfl rfl ?_
     iterate 8 refine zn rfl ?_
     exact zs U U (zt U U (AA (M20 true (Sh.AE h2).symm _ (AG U))))
    ·refine zg tb b61 U (zg tb b61 U (B3 (v:=(i64 (Sh.len c16.cons))) (Bw U U b61) rfl (B6 R0 U) (zg tb b61 U (zf b61 U (zq tb U ?_)))))
     rcases Sh.Am h2 with ⟨b62,h2⟩ | ⟨b62,h2⟩
     ·refine zs b62 U ?_
      iterate 4 refine zs b62 rfl ?_
      iterate 8 refine zn rfl ?_
      exact zs b62 U (zt b62 U (AA (M20 true (Sh.AE h2).symm _ (AG U))))
     ·refine zg tb b62 U (zg tb b62 U (B3 (v:=(i64 (Sh.len c16.cons))) (Bw U U b62) rfl (B6 R0 U) (zg tb b62 U (zg tb b62 U ?_))))
      rcases Sh.Am h2 with ⟨b63,h2⟩ | ⟨b63,h2⟩
      ·refine zg tb b63 U ?_
       iterate 3 refine zg tb b63 rfl ?_
       rcases Sh.Am h2 with ⟨b64,h2⟩ | ⟨b64,h2⟩
       ·exact zs b64 U (zs b64 U (zs b64 U (B3 (v:=(.bool true)) (Bw U U b63) rfl (Hu U b64 U) (B3 (v:=(.bool true)) (Bw U U b62) rfl (Hu U b63 U) (zf b62 U (AA (M20 true (Sh.AE h2).symm _ (AG U))))))))
       ·exact zg tb b64 U (zg tb b64 U (zg tb b64 U (B3 (v:=(.bool (!decide (c16.to=0)))) (Bw U U b63) rfl (Ia U b64 U) (B3 (v:=(.bool (!decide (c16.to=0)))) (Bw U U b62) rfl (Hu U b63 U) (zf b62 U (AA (M20 (!decide (c16.to=0)) (Sh.AE h2).symm _ (AG U))))))))
      ·refine zs b63 U ?_
       iterate 3 refine zs b63 rfl ?_
       iterate 3 refine zn rfl ?_
       exact zs b63 U (B3 (v:=(.bool false)) (Bw U U b62) rfl (Ia U b63 U) (zf b62 U (AA (M20 false (Sh.AE h2).symm _ (AG U)))))
  ·intro b13 h1
   exact A5 (M9 () (Sh.AE h1).symm _ (AG U))
theorem NJ {N:Nat} {p0:(List Ac)} {p1:(List BW)} {r:Bool} (h0:GI N p0 p1=some r):Ai Try.prog 57 [(ls AI p0),(ls Ba p1)] [] (fun v st=>v=(.bool r)∧st=[]):=by
 unfold GI at h0
 refine ai Try.func57 U U U U (zr tb U U (AH fun K2 hK2=>AH fun K3 hK3=>bs h0 fun o5 h1 h0=>?_))
 have M5 :∀(t4:Bool),o5=t4→∀s,Wk 0 s ⟨102,Aa [(0,(ls AI p0)),(1,(ls Ba p1)),(36,(.bool t4))],[]⟩→K3 s:=by
  intro t4 hq s hw
  subst o5
  try dsimp only at h0
  refine hK3 _ (AN hw ?_)
  refine ci h0 U ?_ ?_ <;> clear h0
  ·intro b6 h0
   refine zr tb U U ?_
   replace h0:=Sh.AE h0
   subst r
   exact AU (xr (Ah (L:=[(4,(.bool false))]) (.same U)))
  ·intro b6 h0
   refine AR (hK2 _ (AH fun K8 hK8=>sr U fun K9 hK9=>zq tb U (zl tb U U (zq tb U (dn hK9 U ?_)))))
   obtain⟨o11,h1,h0⟩:=Sh.BZ h0
   have M11 :∀(_:Unit),o11=Sum.inr ()→∀s,Wk 0 s ⟨102,Aa [],[]⟩→K8 s:=by
    intro _ hq s hw
    subst o11
    try dsimp only at h0
    refine hK8 _ (AN hw (zr tb U U ?_))
    replace h0:=Sh.AE h0
    subst r
    exact AU (xr (Ah (L:=[(4,(.bool true))]) (.same U)))
   refine Ab (Ay (σ:=Int) (fun n v=>C5 N p0 p1 n v=some o11) (fun t10=>⟨102,Aa [(0,(ls AI p0)),(37,(ls Ba p1)),(38,(i64 (Sh.len p1))),(39,(i64 t10))],[]⟩) N 0 h1 (AG U) (fun _ hv=>by rw[C5] at hv;cases hv) ?_)
   rintro n t10 h1
   try dsimp only at h1 ⊢
   rw[C5] at h1
   refine zr tb U U (AH fun K14 hK14=>?_)
   refine ci h1 U ?_ ?_ <;> clear h1
   ·intro b15 h1
    refine AR (hK14 _ (AH fun K16 hK16=>Ab (sr U fun K17 hK17=>bs h1 fun c18 gc18 h1=>zx Mi gc18 U U U (zq tb U (A1 (m:=0) AM WC U U (Az AM Z2 U U U U U U (show 0+3≤3 by decide) rfl (dn hK17 U (AH fun K19 hK19=>AH fun K20 hK20=>?_))))))))
    refine bs h1 fun o22 h2 h1=>?_
    have M22 :∀(t21:Bool),o22=t21→∀s,Wk 0 s ⟨102,Aa [(0,(ls AI p0)),(6,(.ptr 0 0 0 0)),(37,(ls Ba p1)),(38,(i64 (Sh.len p1))),(39,(i64 t10)),(60,(.bool t21))],[⟨0,93,3,[[(ls eI c18.params),(ls eI c18.Ee),(i64 c18.result)]]⟩]⟩→K20 s:=by
     intro t21 hq s hw
     subst o22
     try dsimp only at h1
     refine hK20 _ (AN hw ?_)
     refine ci h1 U ?_ ?_ <;> clear h1
     ·intro b23 h1
      refine zr tb U U ?_
      replace h1:=Sh.AE h1
      subst o11
      try dsimp only[id] at h0
      replace h0:=Sh.AE h0
      subst r
      exact AU (xr (As [(4,(.bool false))] U))
     ·intro b23 h1
      refine AR (hK19 _ (sr U fun K25 hK25=>zm tb 2 U (zl tb U U (zq tb U (dn hK25 U ?_)))))
      obtain⟨o27,h2,h1⟩:=Sh.BZ h1
      have M27 :∀(_:Unit),o27=Sum.inr ()→∀s,Wk 0 s ⟨102,Aa [(0,(ls AI p0)),(37,(ls Ba p1)),(38,(i64 (Sh.len p1))),(39,(i64 t10))],[]⟩→K16 s:=by
       intro _ hq s hw
       subst o27
       try dsimp only at h1
       exact hK16 _ (AN hw (AL U (zm tb 2 U (AA (xi (Sh.w (t10+1)) h1 (AG U))))))
      refine Ab (Ay (σ:=Int) (fun n v=>C1 c18 n v=some o27) (fun t26=>⟨102,Aa [(0,(ls AI p0)),(6,(.ptr 0 0 0 0)),(37,(ls Ba p1)),(38,(i64 (Sh.len p1))),(39,(i64 t10)),(62,(ls eI c18.Ee)),(63,(i64 (Sh.len c18.Ee))),(64,(i64 t26))],[⟨0,93,3,[[(ls eI c18.params),(ls eI c18.Ee),(i64 c18.result)]]⟩]⟩) N 0 h2 (AG U) (fun _ hv=>by rw[C1] at hv;cases hv) ?_)
      rintro n t26 h2
      try dsimp only at h2 ⊢
      rw[C1] at h2
      refine zr tb U U (AH fun K29 hK29=>?_)
      refine ci h2 U ?_ ?_ <;> clear h2
      ·intro b30 h2
       refine AR (hK29 _ (AH fun K31 hK31=>Ab (sr U fun K32 hK32=>zq tb U (bs h2 fun c33 gc33 h2=>zx A4 gc33 U U U (zm tb 3 U (dn hK32 U (AH fun K34 hK34=>bs h2 fun o36 h3 h2=>?_)))))))
       have M36 :∀(t35:Bool),o36=t35→∀s,Wk 0 s ⟨102,Aa [(0,(ls AI p0)),(6,(.ptr 0 0 0 0)),(37,(ls Ba p1)),(38,(i64 (Sh.len p1))),(39,(i64 t10)),(62,(ls eI c18.Ee)),(63,(i64 (Sh.len c18.Ee))),(64,(i64 t26)),(99,(.bool t35))],[⟨0,93,3,[[(ls eI c18.params),(ls eI c18.Ee),(i64 c18.result)]]⟩]⟩→K34 s:=by
        intro t35 hq s hw
        subst o36
        try dsimp only at h2
        refine hK34 _ (AN hw ?_)
        refine ci h2 U ?_ ?_ <;> clear h2
        ·intro b37 h2
         refine zr tb U U ?_
         replace h2:=Sh.AE h2
         subst o27
         try dsimp only[id] at h1
         replace h1:=Sh.AE h1
         subst o11
         try dsimp only[id] at h0
         replace h0:=Sh.AE h0
         subst r
         exact AU (xr (As [(4,(.bool false))] U))
        ·intro b37 h2
         exact AR (hK31 _ (AL U (zm tb 2 U (AA (xi (Sh.w (t26+1)) h2 (AG U))))))
       refine AL U (zm tb 3 U ?_)
       rcases Sh.Am h3 with ⟨b39,h3⟩ | ⟨b39,h3⟩
       ·refine zs b39 U ?_
        iterate 4 refine zs b39 rfl ?_
        refine zt b39 U (zq tb U ?_)
        iterate 6 refine zs rfl rfl ?_
        refine zt U U (zq tb U ?_)
        iterate 3 refine zs rfl rfl ?_
        iterate 8 refine zn rfl ?_
        exact zs U U (zt U U (AA (M36 true (Sh.AE h3).symm _ (AG U))))
       ·refine zg tb b39 U (zg tb b39 U (zg tb b39 U (B3 (v:=(i64 (Sh.len c18.params))) (Bw U U b39) rfl (B6 Em U) (zg tb b39 U (zf b39 U (zq tb U ?_))))))
        rcases Sh.Am h3 with ⟨b40,h3⟩ | ⟨b40,h3⟩
        ·refine zs b40 U ?_
         iterate 5 refine zs b40 rfl ?_
         refine zt b40 U (zq tb U ?_)
         iterate 3 refine zs rfl rfl ?_
         iterate 8 refine zn rfl ?_
         exact zs U U (zt U U (AA (M36 true (Sh.AE h3).symm _ (AG U))))
        ·refine zg tb b40 U (zg tb b40 U (zg tb b40 U (bs h3 fun c41 gc41 h3=>B3 (v:=(.Al (eI c41) 0)) (Bw U U b40) rfl (CZ A4 U U gc41 U) (zg tb b40 U (zg tb b40 U (zf b40 U (zq tb U ?_)))))))
         rcases Sh.Am h3 with ⟨b42,h3⟩ | ⟨b42,h3⟩
         ·refine zs b42 U (zs b42 U (zs b42 U ?_))
          iterate 8 refine zn rfl ?_
          exact zs b42 U (zt b42 U (AA (M36 true (Sh.AE h3).symm _ (AG U))))
         ·refine zg tb b42 U (zg tb b42 U (zg tb b42 U ?_))
          rcases Sh.Am h3 with ⟨b43,h3⟩ | ⟨b43,h3⟩
          ·refine zg tb b43 U ?_
           iterate 4 refine zg tb b43 rfl ?_
           exact bs h3 fun c44 gc44 h3=>B3 (v:=(.Al (eI c44) 0)) (Bw U U b43) rfl (CZ A4 U U gc44 U) (zg tb b43 U (zg tb b43 U (B3 (v:=(.bool (decide (c33≤c44)))) (Bw U U b42) rfl (Hu U b43 U) (zf b42 U (AA (M36 (decide (c33≤c44)) (Sh.AE h3).symm _ (AG U)))))))
          ·refine zs b43 U ?_
           iterate 7 refine zs b43 rfl ?_
           exact B3 (v:=(.bool false)) (Bw U U b42) rfl (Ia U b43 U) (zf b42 U (AA (M36 false (Sh.AE h3).symm _ (AG U))))
      ·intro b30 h2
       exact A5 (M27 () (Sh.AE h2).symm _ (As _ U))
    refine AL U (zm tb 2 U (zl tb U U (zm tb 2 U ?_)))
    rcases Sh.Am h2 with ⟨b45,h2⟩ | ⟨b45,h2⟩
    ·refine zs b45 U ?_
     iterate 4 refine zs b45 rfl ?_
     refine zt b45 U (zq tb U ?_)
     iterate 5 refine zs rfl rfl ?_
     exact zt U U (AA (M22 true (Sh.AE h2).symm _ (AG U)))
    ·refine zg tb b45 U (zg tb b45 U (zg tb b45 U (bs h2 fun q46 gq46 h2=>zd b45 Wa (Hr gq46) rfl U U U (zg tb b45 U (zf b45 U (zq tb U ?_))))))
     rcases Sh.Am h2 with ⟨b47,h2⟩ | ⟨b47,h2⟩
     ·refine zs b47 U ?_
      iterate 4 refine zs b47 rfl ?_
      exact zt b47 U (AA (M22 true (Sh.AE h2).symm _ (AG U)))
     ·exact zg tb b47 U (zg tb b47 U (zg tb b47 U (bs h2 fun q48 gq48 h2=>zd b47 U7 (Ha gq48) rfl U U U (zg tb b47 U (zf b47 U (AA (M22 (!q48) (Sh.AE h2).symm _ (AG U))))))))
   ·intro b15 h1
    exact A5 (M11 () (Sh.AE h1).symm _ (AG U))
 refine AL U (zq tb U (bs h1 fun q49 gq49 h1=>zc ZM (Mb gq49) rfl U U (zm tb 2 U ?_)))
 rcases Sh.Am h1 with ⟨b50,h1⟩ | ⟨b50,h1⟩
 ·refine zs b50 U (zs b50 U (zs b50 U (zt b50 U (zq tb U ?_))))
  iterate 3 refine zs rfl rfl ?_
  refine zt U U (zq tb U ?_)
  iterate 6 refine zs rfl rfl ?_
  refine zt U U (zq tb U ?_)
  iterate 5 refine zs rfl rfl ?_
  exact zt U U (AA (M5 true (Sh.AE h1).symm _ (AG U)))
 ·refine zg tb b50 U (B3 (v:=(i64 (Sh.len p1))) (Bw U U b50) rfl (B6 Wp U) (zg tb b50 U (zf b50 U (zq tb U ?_))))
  rcases Sh.Am h1 with ⟨b51,h1⟩ | ⟨b51,h1⟩
  ·refine zs b51 U (zs b51 U (zs b51 U (zt b51 U (zq tb U ?_))))
   iterate 6 refine zs rfl rfl ?_
   refine zt U U (zq tb U ?_)
   iterate 5 refine zs rfl rfl ?_
   exact zt U U (AA (M5 true (Sh.AE h1).symm _ (AG U)))
  ·refine zg tb b51 U (B3 (v:=(i64 (Sh.len p1))) (Bw U U b51) rfl (B6 Wp U) (zg tb b51 U (zf b51 U (zq tb U ?_))))
   rcases Sh.Am h1 with ⟨b52,h1⟩ | ⟨b52,h1⟩
   ·refine zs b52 U ?_
    iterate 5 refine zs b52 rfl ?_
    refine zt b52 U (zq tb U ?_)
    iterate 5 refine zs rfl rfl ?_
    exact zt U U (AA (M5 true (Sh.AE h1).symm _ (AG U)))
   ·refine zg tb b52 U (bs h1 fun c53 gc53 h1=>B3 (v:=(.Al (Ba c53) 0)) (Bw U U b52) rfl (CZ Mi U U gc53 U) (zg tb b52 U (zg tb b52 U (B3 (v:=(i64 (Sh.len c53.params))) (Bw U U b52) rfl (B6 Em U) (zg tb b52 U (zf b52 U (zq tb U ?_)))))))
    rcases Sh.Am h1 with ⟨b54,h1⟩ | ⟨b54,h1⟩
    ·refine zs b54 U ?_
     iterate 4 refine zs b54 rfl ?_
     exact zt b54 U (AA (M5 true (Sh.AE h1).symm _ (AG U)))
    ·refine zg tb b54 U (B3 (v:=(.Al (Ba c53) 0)) (Bw U U b54) rfl (CZ Mi U U gc53 U) ?_)
     iterate 3 refine zg tb b54 rfl ?_
     exact zf b54 U (AA (M5 (!decide (c53.result=0)) (Sh.AE h1).symm _ (AG U)))
theorem JX {N:Nat} {p0:Af} {r:Bool} (h0:FP N p0=some r):Ai Try.prog 38 [(.agg [(ls AI p0.decls),(ls AJ p0.funcs)])] [] (fun v st=>v=(.bool r)∧st=[]):=by
 unfold FP at h0
 refine ai Try.func38 U U U U (sr U fun K1 hK1=>Bl (m:=0) AM U U U U U (zq tb U (dn hK1 U (sr U fun K2 hK2=>VI (c:=4) (m:=1) (st':=[(OX p0.decls p0.funcs),(ro 0 93 3 Ba ([]:List BW))]) Mi U U U U U (zq tb U (dn hK2 U (AH fun K3 hK3=>sr U fun K4 hK4=>zm tb 2 U ?_)))))))
 refine zl tb U U (zq tb U (dn hK4 U ?_))
 refine ci h0 U ?_ ?_ <;> clear h0
 ·intro b5 h0
  refine zr tb U U ?_
  replace h0:=Sh.AE h0
  subst r
  exact AU (xr (As [(2,(.bool false))] U))
 ·intro b5 h0
  refine AR (hK3 _ (AH fun K7 hK7=>sr U fun K8 hK8=>zm tb 2 U (zl tb U U (zq tb U (dn hK8 U (bs h0 fun o12 h1 h0=>?_))))))
  have M12 :∀(l11:(List BW)),o12=l11→∀s,Wk 0 s ⟨31,Aa [(1,(.ptr 0 0 0 0)),(3,(ow 1 0 l11))],[(OX p0.decls p0.funcs),(ro 0 93 3 Ba l11)]⟩→K7 s:=by
   intro l11 hq s hw
   subst o12
   try dsimp only at h0
   refine hK7 _ (AN hw (sr U fun K13 hK13=>zm tb 3 U (Ad (Wk.A7 (L:=[(28,(ls AI p0.decls)),(29,(ls Ba l11))]) (st':=[(OX p0.decls p0.funcs),⟨1,93,3,[]⟩]) (id:=1) rfl (show 0≤1 by decide) (AB fun _=>U) ⟨.rfl,(.A7 U),trivial⟩ U) (bs h0 fun q14 gq14 h0=>zc ZH (NJ gq14) rfl U U (zq tb U (dn hK13 U ?_))))))
   replace h0:=Sh.AE h0
   subst r
   exact AU (xr (As [(2,(.bool q14))] U))
  refine Ab (Ay (σ:=Int×(List BW)) (fun n v=>Ce p0 n v.1 v.2=some o12) (fun (t9,l10)=>⟨31,Aa [(1,(.ptr 0 0 0 0)),(3,(ow 1 0 l10)),(12,(ls AJ p0.funcs)),(13,(i64 (Sh.len p0.funcs))),(14,(i64 t9))],[(OX p0.decls p0.funcs),(ro 0 93 3 Ba l10)]⟩) N (0,[]) h1 (AG U) (fun _ hv=>by rw[Ce] at hv;cases hv) ?_)
  rintro n ⟨t9,l10⟩ h1
  try dsimp only at h1 ⊢
  rw[Ce] at h1
  refine zr tb U U (AH fun K16 hK16=>?_)
  refine ci h1 U ?_ ?_ <;> clear h1
  ·intro b17 h1
   refine AR (hK16 _ (AH fun K18 hK18=>Ab (sr U fun K19 hK19=>bs h1 fun c20 gc20 h1=>zx DD gc20 U U U (zq tb U (A1 (m:=2) AM LD U U (Az AM Iy U U U U U U (show 0+5≤5 by decide) rfl (dn hK19 U (AL U (zm tb 5 U ?_)))))))))
   refine zz (.agg [(ls eI c20.params),.zc,(i64 c20.result)]) (EF X2 X5 WC U U) rfl (Ad (Ah (L:=[(1,(.ptr 0 0 0 0)),(12,(ls AJ p0.funcs)),(13,(i64 (Sh.len p0.funcs))),(14,(i64 t9)),(18,(ow 1 0 l10)),(23,(.agg [(ls eI c20.params),(.sl (List.map eI [])),(i64 c20.result)]))]) ⟨.rfl,.rfl,.rfl,.rfl,.rfl,(.agg ⟨.rfl,.zc,.rfl,trivial⟩),trivial⟩) ?_)
   refine A3 (m:=3) (l:=([(BW.mk c20.params [] c20.result)])) (enc:=Ba) AM Mi (by decide) rfl U U U U U ?_
   refine bs h1 fun l21 gl21 h1=>CB (l2:=([(BW.mk c20.params [] c20.result)])) AM Mi U U U U (EO U U) (fun _=>U) gl21 U (zq tb U (dn hK18 U (AL U (zm tb 2 U ?_))))
   exact AA (xi (Sh.w (t9+1),l21) h1 (by refine Wk.trans (EW (L:=[(1,(.ptr 0 0 0 0)),(3,(ow 1 0 l21)),(12,(ls AJ p0.funcs)),(13,(i64 (Sh.len p0.funcs))),(14,(i64 (Sh.w (t9+1))))]) (st':=[(OX p0.decls p0.funcs),(ro 0 93 3 Ba l21),⟨0,52,5,[[(ls eI c20.params),(i64 c20.result),(i64 c20.body.op),(i64 c20.body.num),(ls AD c20.body.kids)]]⟩,(ro 0 93 3 Ba ([(BW.mk c20.params [] c20.result)]))]) (.raw U U (.pure (AB fun _=>U) (.raw U U (.pure (AB fun _=>U) .nil)))) (.same U)) ?_;exact AS [0,1] U (by decide) rfl U (.raw U U (.pure (AB fun _=>U) .nil)) (.same U)))
  ·intro b17 h1
   exact A5 (M12 l10 (Sh.AE h1).symm _ (AG U))
theorem LJ {N:Nat} {rec_impl_countNodes:Int→AP→Option (Bool×Int)} (hrec_impl_countNodes :∀{s0_0:Int} {p0:AP} {r:Bool×Int},rec_impl_countNodes s0_0 p0=some r→Ai Try.prog 91 [(.agg [(i64 p0.op),(i64 p0.num),(ls AD p0.kids)]),(.ptr 0 0 0 0)] [(MX s0_0)] (fun v st=>v=(.bool r.1)∧st=[(MX r.2)])) {s0_0:Int} {p0:AP} {r:Bool×Int} (h0:F9 N rec_impl_countNodes s0_0 p0=some r):Ai Try.prog 91 [(.agg [(i64 p0.op),(i64 p0.num),(ls AD p0.kids)]),(.ptr 0 0 0 0)] [(MX s0_0)] (fun v st=>v=(.bool r.1)∧st=[(MX r.2)]):=by
 unfold F9 at h0
 refine ai Try.func91 U U U U (sr U fun K1 hK1=>Bl (m:=1) AM U U U U U (zq tb U (dn hK1 U (AH fun K2 hK2=>sr U fun K3 hK3=>zm tb 5 U (Az AM F6 U U U U U U (show 0+1≤1 by decide) rfl (dn hK3 U (zr tb U U ?_)))))))
 refine ci h0 U ?_ ?_ <;> clear h0
 ·intro b5 h0
  refine zr tb U U ?_
  replace h0:=Sh.AE h0
  subst r
  exact AU (xr (AS (L:=[(4,(.bool false))]) (st':=[⟨0,3,1,[[(i64 (Sh.w (s0_0+1)))]]⟩]) [0] U (by decide) rfl U (.raw U U .nil) (.same U)))
 ·intro b5 h0
  refine AR (hK2 _ (AH fun K7 hK7=>sr U fun K8 hK8=>zm tb 2 U (zl tb U U (zq tb U (dn hK8 U ?_)))))
  obtain⟨o12,h1,h0⟩:=Sh.BZ h0
  have M12 :∀(f11:Int),o12=Sum.inr f11→∀s,Wk 1 s ⟨28,Aa [],[(MX f11)]⟩→K7 s:=by
   intro f11 hq s hw
   subst o12
   try dsimp only at h0
   refine hK7 _ (AN hw (zr tb U U ?_))
   replace h0:=Sh.AE h0
   subst r
   exact AU (xr (Ah (L:=[(4,(.bool true))]) (.same U)))
  refine Ab (Ay (σ:=Int×Int) (fun n v=>CI p0 rec_impl_countNodes n v.1 v.2=some o12) (fun (t9,f10)=>⟨28,Aa [(1,(.ptr 0 0 0 0)),(17,(ls AD p0.kids)),(18,(i64 (Sh.len p0.kids))),(19,(i64 t9))],[(MX f10)]⟩) N (0,Sh.w (s0_0+1)) h1 (AS [0] U (by decide) rfl U (.raw U U .nil) (.same U)) (fun _ hv=>by rw[CI] at hv;cases hv) ?_)
  rintro n ⟨t9,f10⟩ h1
  try dsimp only at h1 ⊢
  rw[CI] at h1
  refine zr tb U U (AH fun K15 hK15=>?_)
  refine ci h1 U ?_ ?_ <;> clear h1
  ·intro b16 h1
   refine AR (hK15 _ (AH fun K17 hK17=>Ab (sr U fun K18 hK18=>bs h1 fun c19 gc19 h1=>zz (.Al [(i64 c19.op),(i64 c19.num),(ls AD c19.kids)] 0) (CK BV U U gc19 (Ap _) rfl) rfl (zq tb U (A1 (m:=1) AM EI U U (Az AM BN U U U U U U (show 0+3≤3 by decide) rfl (dn hK18 U (sr U fun K20 hK20=>zm tb 2 U ?_))))))))
   refine bs h1 fun q21 gq21 h1=>?_
   refine Bc (rows0:=[(MX f10)]) (rows1:=[(MX q21.2)]) (st':=[(MX q21.2),(Lw c19.op c19.num c19.kids)]) (v':=(.bool q21.1)) [0] AM Xy (hrec_impl_countNodes gq21) rfl (by decide) rfl U (.raw U U .nil) rfl U (.raw U U .nil) .nil U U ?_
   refine zq tb U (dn hK20 U ?_)
   refine ci h1 U ?_ ?_ <;> clear h1
   ·intro b22 h1
    have b23:q21.1=false:=by simpa using b22
    refine zr tb U U ?_
    replace h1:=Sh.AE h1
    subst o12
    try dsimp only[id] at h0
    replace h0:=Sh.AE h0
    subst r
    exact AU (xr (AS (L:=[(4,(.bool false))]) (st':=[(MX q21.2)]) [0] U (by decide) rfl U (.raw U U .nil) (.same U)))
   ·intro b22 h1
    have b25:q21.1=true:=by simpa using b22
    refine AR (hK17 _ (AL U (zm tb 2 U ?_)))
    exact AA (xi (Sh.w (t9+1),q21.2) h1 (AS [0] U (by decide) rfl U (.raw U U .nil) (.same U)))
  ·intro b16 h1
   exact A5 (M12 f10 (Sh.AE h1).symm _ (AG U))

theorem LN {N:Nat} :∀(n:Nat),∀{s0_0:Int} {p0:AP} {r:Bool×Int},Dc N n s0_0 p0=some r→Ai Try.prog 91 [(.agg [(i64 p0.op),(i64 p0.num),(ls AD p0.kids)]),(.ptr 0 0 0 0)] [(MX s0_0)] (fun v st=>v=(.bool r.1)∧st=[(MX r.2)]):=by
 intro n
 induction n with
 | zero=>intro s0_0 p0 r h0;cases h0
 | succ n ih=>
  intro s0_0 p0 r h0
  rw[Dc] at h0
  exact LJ (fun h=>ih h) h0
theorem Me {N:Nat} :∀{s0_0:Int} {p0:AP} {r:Bool×Int},IV N s0_0 p0=some r→Ai Try.prog 91 [(.agg [(i64 p0.op),(i64 p0.num),(ls AD p0.kids)]),(.ptr 0 0 0 0)] [(MX s0_0)] (fun v st=>v=(.bool r.1)∧st=[(MX r.2)]):=by
 intro s0_0 p0 r h0
 exact LN N h0
theorem Ok {N:Nat} {p0:AP} {r:Int} (h0:HQ N p0=some r):Ai Try.prog 58 [(.agg [(i64 p0.op),(i64 p0.num),(ls AD p0.kids)])] [] (fun v st=>v=(i64 r)∧st=[]):=by
 unfold HQ at h0
 refine ai Try.func58 U U U U (sr U fun K1 hK1=>Bl (m:=0) AM U U U U U (zq tb U (dn hK1 U (sr U fun K2 hK2=>A1 (m:=1) AM Z7 U U (Az AM F6 U U U U U U (show 0+1≤1 by decide) rfl (dn hK2 U (AH fun K3 hK3=>sr U fun K4 hK4=>zq tb U ?_)))))))
 refine bs h0 fun q5 gq5 h0=>?_
 refine Bc (rows0:=[⟨0,3,1,[[(i64 0)]]⟩]) (rows1:=[(MX q5.2)]) (st':=[(Lw p0.op p0.num p0.kids),(MX q5.2)]) (v':=(.bool q5.1)) [1] AM Xy (Me gq5) rfl (by decide) rfl U (.raw U U .nil) rfl U (.raw U U .nil) .nil U U ?_
 refine zq tb U (dn hK4 U ?_)
 refine ci h0 U ?_ ?_ <;> clear h0
 ·intro b6 h0
  have b7:q5.1=false:=by simpa using b6
  refine zr tb U U ?_
  replace h0:=Sh.AE h0
  subst r
  exact AU (xr (As [(2,(i64 (-1)))] U))
 ·intro b6 h0
  have b9:q5.1=true:=by simpa using b6
  refine AR (hK3 _ (zr tb U U ?_))
  replace h0:=Sh.AE h0
  subst r
  exact AU (xr (As [(2,(i64 q5.2))] U))
theorem LA {N:Nat} {p0:Af} {r:BF} (h0:H7 N p0=some r):Ai Try.prog 60 [(.agg [(ls AI p0.decls),(ls AJ p0.funcs)])] [] (fun v st=>v=(.agg (AZ r))∧st=[]):=by
 unfold H7 at h0
 refine D3 U (ai Try.func60 U U U U (sr U fun K1 hK1=>Bl (m:=0) AM U U U U U (A1 (m:=1) AM WM U U (dn hK1 U (sr U fun K2 hK2=>zm tb 2 U (zz (.agg [(ls AI p0.decls),.zc]) (EF Zf Zo WM U U) rfl (A1 (m:=2) AM WM U U (Az AM V9 U U U U U U (show 0+2≤2 by decide) rfl (dn hK2 U ?_)))))))))
 refine AH fun K3 hK3=>sr U fun K4 hK4=>zm tb 2 U (zl tb U U (zq tb U (dn hK4 U (bs h0 fun o8 h1 h0=>?_))))
 have M8 :∀(l7:(List BW)),o8=l7→∀s,Wk 0 s ⟨28,Aa [(2,(.ptr 0 0 0 0)),(3,(.ptr 1 0 0 0))],[Ud,⟨0,97,2,[[(ls AI p0.decls),(ow 2 0 l7)]]⟩,(ro 0 93 3 Ba l7)]⟩→K3 s:=by
  intro l7 hq s hw
  subst o8
  try dsimp only at h0
  refine hK3 _ (AN hw (sr U fun K9 hK9=>zq tb U (Ad (Wk.A7 (L:=[(2,(.ptr 0 0 0 0)),(27,(.agg [(ls AI p0.decls),(ls Ba l7)]))]) (st':=[Ud,⟨0,97,2,[[(ls AI p0.decls),(ow 2 0 l7)]]⟩,⟨1,93,3,[]⟩]) (id:=2) rfl (show 0≤2 by decide) (AB fun _=>U) ⟨.rfl,(.agg ⟨.rfl,(.Gj U),trivial⟩),trivial⟩ U) (Az AM V9 U U U U U U (show 0+2≤2 by decide) rfl (dn hK9 U ?_)))))
  replace h0:=Sh.AE h0
  subst r
  exact AU (Exists.intro _ (And.intro (Wk.refl _ _) (A9 (x:=.tmp 2) (off:=0) (cs:=[(ls AI p0.decls),(ls Ba l7)]) (vs:=[(ls AI p0.decls),(ls Ba l7)]) V9 U U U (show 0+2≤2 by decide) rfl _ U)))
 refine Ab (Ay (σ:=Int×(List BW)) (fun n v=>ED p0 n v.1 v.2=some o8) (fun (t5,l6)=>⟨28,Aa [(2,(.ptr 0 0 0 0)),(3,(.ptr 1 0 0 0)),(10,(ls AJ p0.funcs)),(11,(i64 (Sh.len p0.funcs))),(12,(i64 t5))],[Ud,⟨0,97,2,[[(ls AI p0.decls),(ow 2 0 l6)]]⟩,(ro 0 93 3 Ba l6)]⟩) N (0,[]) h1 (by refine Wk.trans (Wk.XR (id:=2) (st':=[(OX p0.decls p0.funcs),Ud,⟨0,97,2,[[(ls AI p0.decls),(.own 3 0 (List.length ([]:List BW)))]]⟩,(ro 0 93 3 Ba ([]:List BW))]) (j:=1) rfl U 93 (size':=3) (by decide) rfl U U U) ?_;exact Ih (L:=[(2,(.ptr 0 0 0 0)),(3,(.ptr 1 0 0 0)),(10,(ls AJ p0.funcs)),(11,(i64 (Sh.len p0.funcs))),(12,(i64 0))]) (st':=[Ud,⟨0,97,2,[[(ls AI p0.decls),(.own 2 0 (List.length ([]:List BW)))]]⟩,(ro 0 93 3 Ba ([]:List BW))]) (st1:=[Ud,⟨0,97,2,[[(ls AI p0.decls),(.own 3 0 (List.length ([]:List BW)))]]⟩,(ro 0 93 3 Ba ([]:List BW))]) [1,2,3] U .nil (by decide) rfl U (.raw U U (.raw U U (.pure (AB fun _=>U) .nil))) (.same U)) (fun _ hv=>by rw[ED] at hv;cases hv) ?_)
 rintro n ⟨t5,l6⟩ h1
 try dsimp only at h1 ⊢
 rw[ED] at h1
 refine zr tb U U (AH fun K11 hK11=>?_)
 refine ci h1 U ?_ ?_ <;> clear h1
 ·intro b12 h1
  refine AR (hK11 _ (AH fun K13 hK13=>Ab (sr U fun K14 hK14=>bs h1 fun c15 gc15 h1=>zx DD gc15 U U U (zq tb U (A1 (m:=3) AM LD U U (Az AM Iy U U U U U U (show 0+5≤5 by decide) rfl (dn hK14 U (AL U (zm tb 6 U ?_)))))))))
  refine zz (.agg [(ls eI c15.params),.zc,(i64 c15.result)]) (EF X2 X5 WC U U) rfl (Ad (Ah (L:=[(2,(.ptr 0 0 0 0)),(3,(.ptr 1 0 0 0)),(10,(ls AJ p0.funcs)),(11,(i64 (Sh.len p0.funcs))),(12,(i64 t5)),(17,(ow 2 0 l6)),(22,(.agg [(ls eI c15.params),(.sl (List.map eI [])),(i64 c15.result)]))]) ⟨.rfl,.rfl,.rfl,.rfl,.rfl,.rfl,(.agg ⟨.rfl,.zc,.rfl,trivial⟩),trivial⟩) ?_)
  refine A3 (m:=4) (l:=([(BW.mk c15.params [] c15.result)])) (enc:=Ba) AM Mi (by decide) rfl U U U U U ?_
  refine bs h1 fun l16 gl16 h1=>CB (l2:=([(BW.mk c15.params [] c15.result)])) AM Mi U U U U (EO U U) (fun _=>U) gl16 U (zq tb U (Az AM Zs U U U U U U (show 1+1≤2 by decide) rfl (dn hK13 U (AL U (zm tb 2 U ?_)))))
  exact AA (xi (Sh.w (t5+1),l16) h1 (by refine Wk.trans (EW (L:=[(2,(.ptr 0 0 0 0)),(3,(.ptr 1 0 0 0)),(10,(ls AJ p0.funcs)),(11,(i64 (Sh.len p0.funcs))),(12,(i64 (Sh.w (t5+1))))]) (st':=[Ud,⟨0,97,2,[[(ls AI p0.decls),(ow 2 0 l16)]]⟩,(ro 0 93 3 Ba l16),⟨0,52,5,[[(ls eI c15.params),(i64 c15.result),(i64 c15.body.op),(i64 c15.body.num),(ls AD c15.body.kids)]]⟩,(ro 0 93 3 Ba ([(BW.mk c15.params [] c15.result)]))]) (.raw U U (.raw U U (.pure (AB fun _=>U) (.raw U U (.pure (AB fun _=>U) .nil))))) (.same U)) ?_;exact AS [0,1,2] U (by decide) rfl U (.raw U U (.raw U U (.pure (AB fun _=>U) .nil))) (.same U)))
 ·intro b12 h1
  exact A5 (M8 l6 (Sh.AE h1).symm _ (AG U))
theorem HW {p0:(List Int)} {r:(List Int)} (h0:Ei p0=some r):Ai Try.prog 62 [(ls eI p0)] [] (fun v st=>v=(ow 0 0 r)∧st=[(ro 0 3 1 eI r)]):=by
 unfold Ei at h0
 refine ai Try.func62 U U U U (zr tb U U (AH fun K2 hK2=>sr U fun K3 hK3=>zq tb U ?_))
 refine Xc AM Em U (fun hn=>?_) ?_
 ·subst hn
  replace h0:some []=some r:=by rw[← h0];first | rfl | simp[Sh.app]
  refine dn hK3 U (Lx (b:=true) rfl (fun _=>zr tb U U ?_) (fun q=>nomatch (show true=false from (U:true=true).symm.trans q)))
  replace h0:=Sh.AE h0
  subst r
  exact AU (Exists.intro _ (And.intro (((Gz (t:=2) rfl 3 (size:=1) (by decide)).trans (Ah (L:=[(2,(.own 0 0 (List.length ([]:List Int))))]) (.same U))).trans (Ah (L:=[(2,(.own 0 0 (List.length ([]:List Int))))]) (.same U))) (And.intro U U)))
 ·refine dn hK3 U (Lx (b:=false) rfl (fun q=>nomatch (show false=true from (U:false=false).symm.trans q)) (fun _=>AR (hK2 _ (sr U fun K5 hK5=>?_))))
  refine A3 (m:=0) (l:=([]:List Int)) (enc:=eI) AM A4 (by decide) rfl U U U U U ?_
  refine zq tb U (bs h0 fun l6 gl6 h0=>CB (l2:=p0) AM A4 U U U U OP (fun _=>U) gl6 U (zq tb U (dn hK5 U ?_)))
  replace h0:=Sh.AE h0
  subst r
  exact AU (xr (EW (L:=[(2,(ow 0 0 l6))]) (st':=[(ro 0 3 1 eI l6)]) (.pure (AB fun _=>U) .nil) (.same U)))
theorem KF {p1:Int} {r:(List Int)} (h0:Es p1=some r):Ai Try.prog 128 [.zc,(i64 p1)] [] (fun v st=>v=(ow 0 0 r)∧st=[(ro 0 3 1 eI r)]):=by
 unfold Es at h0
 refine ai Try.func128 U U U U (zr tb U U (AH fun K2 hK2=>zr tb U U ?_))
 refine ci h0 U ?_ ?_ <;> clear h0
 ·intro b4 h0
  refine AL U ?_
  cases h0
 ·intro b4 h0
  refine AR (hK2 _ (AH fun K5 hK5=>bs h0 fun o7 h1 h0=>?_))
  have M7 :∀(l6:(List Int)),o7=l6→∀s,Wk 0 s ⟨27,Aa [(0,(ow 0 0 l6))],[(ro 0 3 1 eI l6)]⟩→K5 s:=by
   intro l6 hq s hw
   subst o7
   try dsimp only at h0
   refine hK5 _ (AN hw (zr tb U U ?_))
   replace h0:=Sh.AE h0
   subst r
   exact AU (xr (Ah (L:=[(4,(ow 0 0 l6))]) (.same U)))
  refine sr U fun K9 hK9=>zm tb 2 U (TL Em U (zq tb U (zz (i64 0) (TA Em U) rfl (zm tb 3 U (dn hK9 U (zr tb U U ?_))))))
  refine ci h1 U ?_ ?_ <;> clear h1
  ·intro b11 h1
   refine AL U (zm tb 2 U (TL Em U (XO A4 U U (zq tb U (bs h1 fun l12 gl12 h1=>Wz (u:=0) (enc:=eI) (m:=0) (st':=[(ro 0 3 1 eI l12)]) A4 aF U U b11 U gl12 U U (zq tb U (zz (i64 0) (TA Em U) rfl (bs h1 fun l13 gl13 h1=>Um AM A4 U U U U gl13 U (zq tb U ?_)))))))))
   exact AA (M7 l13 (Sh.AE h1).symm _ (EW (L:=[(0,(ow 0 0 l13))]) (st':=[(ro 0 3 1 eI l13)]) (.pure (AB fun _=>U) .nil) (.same U)))
  ·intro b11 h1
   exact AR (M7 [] (Sh.AE h1).symm _ ((Gz (t:=0) rfl 3 (size:=1) (by decide)).trans (Ah (L:=[(0,(.own 0 0 (List.length ([]:List Int))))]) (.same U))))
theorem Ef {N:Nat} {p0:(List (List Int))} {r:(List Int)} (h0:ES N p0=some r):Ai Try.prog 118 [(ls (eS eI) p0)] [] (fun v st=>v=(ow 0 0 r)∧st=[(ro 0 3 1 eI r)]):=by
 unfold ES at h0
 refine ai Try.func118 U U U U ?_
 iterate 2 refine zr tb rfl rfl ?_
 refine AH fun K3 hK3=>sr U fun K4 hK4=>zq tb U (zl tb U U (zq tb U (dn hK4 U (bs h0 fun o8 h1 h0=>?_))))
 have M8 :∀(size7:Int),o8=size7→∀s,Wk 0 s ⟨36,Aa [(0,(ls (eS eI) p0)),(3,(i64 size7))],[]⟩→K3 s:=by
  intro size7 hq s hw
  subst o8
  try dsimp only at h0
  refine hK3 _ (AN hw (sr U fun K9 hK9=>zq tb U (bs h0 fun q10 gq10 h0=>Bz (v':=(ow 0 0 q10)) AM YL (KF gq10) rfl U ⟨(Bi fun _=>U),trivial⟩ U U (zq tb U (dn hK9 U (AH fun K11 hK11=>sr U fun K12 hK12=>zq tb U (zl tb U U (zq tb U ?_))))))))
  refine dn hK12 U (bs h0 fun o16 h1 h0=>?_)
  have M16 :∀(l15:(List Int)),o16=l15→∀s,Wk 0 s ⟨36,Aa [(6,(ow 0 0 l15))],[(ro 0 3 1 eI l15)]⟩→K11 s:=by
   intro l15 hq s hw
   subst o16
   try dsimp only at h0
   refine hK11 _ (AN hw (zr tb U U ?_))
   replace h0:=Sh.AE h0
   subst r
   exact AU (xr (Ah (L:=[(2,(ow 0 0 l15))]) (.same U)))
  refine Ab (Ay (σ:=Int×(List Int)) (fun n v=>Bx p0 n v.1 v.2=some o16) (fun (t13,l14)=>⟨36,Aa [(6,(ow 0 0 l14)),(25,(ls (eS eI) p0)),(26,(i64 (Sh.len p0))),(27,(i64 t13))],[(ro 0 3 1 eI l14)]⟩) N (0,q10) h1 (AG U) (fun _ hv=>by rw[Bx] at hv;cases hv) ?_)
  rintro n ⟨t13,l14⟩ h1
  try dsimp only at h1 ⊢
  rw[Bx] at h1
  refine zr tb U U (AH fun K19 hK19=>?_)
  refine ci h1 U ?_ ?_ <;> clear h1
  ·intro b20 h1
   refine AR (hK19 _ (AH fun K21 hK21=>Ab (sr U fun K22 hK22=>bs h1 fun c23 gc23 h1=>zx IS gc23 U U U (zm tb 2 U (dn hK22 U (AL U (zm tb 2 U (bs h1 fun l24 gl24 h1=>CB (l2:=c23) AM A4 U U U U OP (fun _=>U) gl24 U ?_))))))))
   exact zq tb U (dn hK21 U (AL U (zm tb 2 U (AA (xi (Sh.w (t13+1),l24) h1 (EW (L:=[(6,(ow 0 0 l24)),(25,(ls (eS eI) p0)),(26,(i64 (Sh.len p0))),(27,(i64 (Sh.w (t13+1))))]) (st':=[(ro 0 3 1 eI l24)]) (.pure (AB fun _=>U) .nil) (.same U)))))))
  ·intro b20 h1
   exact A5 (M16 l14 (Sh.AE h1).symm _ (AG U))
 refine Ab (Ay (σ:=Int×Int) (fun n v=>By p0 n v.1 v.2=some o8) (fun (size5,t6)=>⟨36,Aa [(0,(ls (eS eI) p0)),(3,(i64 size5)),(9,(ls (eS eI) p0)),(10,(i64 (Sh.len p0))),(11,(i64 t6))],[]⟩) N (0,0) h1 (AG U) (fun _ hv=>by rw[By] at hv;cases hv) ?_)
 rintro n ⟨size5,t6⟩ h1
 try dsimp only at h1 ⊢
 rw[By] at h1
 refine zr tb U U (AH fun K26 hK26=>?_)
 refine ci h1 U ?_ ?_ <;> clear h1
 ·intro b27 h1
  refine AR (hK26 _ (AH fun K28 hK28=>Ab (sr U fun K29 hK29=>bs h1 fun c30 gc30 h1=>zx IS gc30 U U U (zm tb 2 U (dn hK29 U (sr U fun K31 hK31=>zm tb 2 U (zl tb U U (zm tb 2 U ?_))))))))
  refine dn hK31 U (zr tb U U ?_)
  refine ci h1 U ?_ ?_ <;> clear h1
  ·intro b33 h1
   refine AL U ?_
   cases h1
  ·intro b33 h1
   exact AR (hK28 _ (AL U (zm tb 2 U (AA (xi (Sh.w (size5+(Sh.len c30)),Sh.w (t6+1)) h1 (AG U))))))
 ·intro b27 h1
  exact A5 (M8 size5 (Sh.AE h1).symm _ (AG U))
theorem Gd {N:Nat} {rec_impl_signatures_typeOf:(List Int)→BF→AP→Option (Int)} (hrec_impl_signatures_typeOf :∀{s0:(List Int)} {p0:BF} {p2:AP} {r:Int},rec_impl_signatures_typeOf s0 p0 p2=some r→Ai Try.prog 61 [(.agg (AZ p0)),(ow 0 0 s0),(.agg [(i64 p2.op),(i64 p2.num),(ls AD p2.kids)])] [(ro 0 3 1 eI s0)] (fun v st=>v=(i64 r)∧st=[(ro 0 3 1 eI s0)])) {p0:BF} {p1:(List Int)} {p2:(List AP)} {p3:(List (List Int))} {r:Int} (h0:DI N rec_impl_signatures_typeOf p0 p1 p2 p3=some r):Ai Try.prog 92 [(.agg (AZ p0)),(ls eI p1),(ls AD p2),(ls (eS eI) p3)] [] (fun v st=>v=(i64 r)∧st=[]):=by
 unfold DI at h0
 refine ai Try.func92 U U U U (sr U fun K1 hK1=>Bl (m:=0) AM U U U U U (zq tb U (dn hK1 U (zr tb U U (AH fun K3 hK3=>sr U fun K4 hK4=>zq tb U (zl tb U U (zq tb U (dn hK4 U ?_))))))))
 obtain⟨o8,h1,h0⟩:=Sh.BZ h0
 have M8 :∀(result7:Int),o8=Sum.inr result7→∀s,Wk 0 s ⟨44,Aa [(9,(i64 result7))],[]⟩→K3 s:=by
  intro result7 hq s hw
  subst o8
  try dsimp only at h0
  refine hK3 _ (AN hw (zr tb U U ?_))
  replace h0:=Sh.AE h0
  subst r
  exact AU (xr (Ah (L:=[(8,(i64 result7))]) (.same U)))
 refine Ab (Ay (σ:=Int×Int) (fun n v=>BT N p0 p1 p2 p3 rec_impl_signatures_typeOf n v.1 v.2=some o8) (fun (result5,t6)=>⟨44,Aa [(1,(ls eI p1)),(3,(ls (eS eI) p3)),(4,(.ptr 0 0 0 0)),(9,(i64 result5)),(13,(ls AD p2)),(14,(i64 (Sh.len p2))),(15,(i64 t6))],[⟨0,97,2,[(AZ p0)]⟩]⟩) N (-1,0) h1 (AG U) (fun _ hv=>by rw[BT] at hv;cases hv) ?_)
 rintro n ⟨result5,t6⟩ h1
 try dsimp only at h1 ⊢
 rw[BT] at h1
 refine zr tb U U (AH fun K11 hK11=>?_)
 refine ci h1 U ?_ ?_ <;> clear h1
 ·intro b12 h1
  refine AR (hK11 _ (AH fun K13 hK13=>Ab (sr U fun K14 hK14=>zq tb U (bs h1 fun c15 gc15 h1=>zz (.Al [(i64 c15.op),(i64 c15.num),(ls AD c15.kids)] 0) (CK BV U U gc15 (Ap _) rfl) rfl (zq tb U (A1 (m:=1) AM EI U U (zq tb U (Az AM BN U U U U U U (show 0+3≤3 by decide) rfl (dn hK14 U ?_)))))))))
  refine AH fun K16 hK16=>?_
  refine Ho (by kernel_rfl) ?_
  refine bs h1 fun c17 gc17 h1=>bs h1 fun q18 gq18 h1=>bs h1 fun q19 gq19 h1=>MQ fun A20 hA20=>?_
  have A20_0123456789a:A20 0 #[true,true,true,true,true,true,true,true,true,true,true] ⟨44,Aa [(1,(ls eI p1)),(3,(ls (eS eI) p3)),(4,(.ptr 0 0 0 0)),(9,(i64 result5)),(10,(i64 t6)),(12,(i64 q19)),(13,(ls AD p2)),(14,(i64 (Sh.len p2))),(15,(i64 t6))],[⟨0,97,2,[(AZ p0)]⟩]⟩:=(hA20 _ _ _).2 (by
   refine F5 U (by kernel_rfl) ?_
   refine hK16 _ (AH fun K21 hK21=>AH fun K22 hK22=>bs h1 fun o24 h2 h1=>?_)
   have M24 :∀(t23:Bool),o24=t23→∀s,Wk 0 s ⟨44,Aa [(1,(ls eI p1)),(3,(ls (eS eI) p3)),(4,(.ptr 0 0 0 0)),(12,(i64 q19)),(13,(ls AD p2)),(14,(i64 (Sh.len p2))),(15,(i64 t6)),(40,(.bool t23))],[⟨0,97,2,[(AZ p0)]⟩]⟩→K22 s:=by
    intro t23 hq s hw
    subst o24
    try dsimp only at h1
    refine hK22 _ (AN hw ?_)
    refine ci h1 U ?_ ?_ <;> clear h1
    ·intro b25 h1
     refine zr tb U U ?_
     replace h1:=Sh.AE h1
     subst o8
     try dsimp only[id] at h0
     replace h0:=Sh.AE h0
     subst r
     exact AU (xr (As [(8,(i64 (-1)))] U))
    ·intro b25 h1
     exact AR (hK21 _ (AL U (zm tb 2 U (dn hK13 U (AL U (zm tb 2 U (AA (xi (q19,Sh.w (t6+1)) h1 (AG U)))))))))
   refine AL U (zm tb 3 U ?_)
   rcases Sh.Am h2 with ⟨b27,h2⟩ | ⟨b27,h2⟩
   ·refine zs b27 U (zs b27 U (zs b27 U ?_))
    iterate 3 refine zn rfl ?_
    exact zs b27 U (zt b27 U (AA (M24 true (Sh.AE h2).symm _ (AG U))))
   ·refine zg tb b27 U (zg tb b27 U (zg tb b27 U ?_))
    rcases Sh.Am h2 with ⟨b28,h2⟩ | ⟨b28,h2⟩
    ·exact zg tb b28 U (zg tb b28 U (zg tb b28 U (B3 (v:=(.bool (!decide (q19=result5)))) (Bw U U b27) rfl (Hu U b28 U) (zf b27 U (AA (M24 (!decide (q19=result5)) (Sh.AE h2).symm _ (AG U)))))))
    ·exact zs b28 U (zs b28 U (zs b28 U (B3 (v:=(.bool false)) (Bw U U b27) rfl (Ia U b28 U) (zf b27 U (AA (M24 false (Sh.AE h2).symm _ (Ah (L:=[(1,(ls eI p1)),(3,(ls (eS eI) p3)),(4,(.ptr 0 0 0 0)),(12,(i64 q19)),(13,(ls AD p2)),(14,(i64 (Sh.len p2))),(15,(i64 t6)),(40,(.bool false))]) (.same U)))))))))
  have A20_0123456789:A20 1 #[true,true,true,true,true,true,true,true,true,true,false] ⟨44,Aa [(1,(ls eI p1)),(3,(ls (eS eI) p3)),(4,(.ptr 0 0 0 0)),(9,(i64 result5)),(10,(i64 t6)),(13,(ls AD p2)),(14,(i64 (Sh.len p2))),(15,(i64 t6)),(29,(i64 q19))],[⟨0,97,2,[(AZ p0)]⟩]⟩:=(hA20 _ _ _).2 (by
   refine Cj 10 (v:=(i64 q19)) rfl U (by kernel_rfl) (by kernel_rfl) (by kernel_rfl) rfl (Hn U) ?_
   exact AF (by exact AG U) (AK (by kernel_rfl) ((hA20 _ _ _).1 A20_0123456789a)) rfl)
  have A20_012345678:A20 2 #[true,true,true,true,true,true,true,true,true,false,false] ⟨44,Aa [(1,(ls eI p1)),(3,(ls (eS eI) p3)),(4,(.ptr 0 0 0 0)),(9,(i64 result5)),(10,(i64 t6)),(13,(ls AD p2)),(14,(i64 (Sh.len p2))),(15,(i64 t6)),(20,(.agg (AZ p0))),(27,(ow 1 0 q18)),(28,(.agg [(i64 c15.op),(i64 c15.num),(ls AD c15.kids)]))],[⟨0,97,2,[(AZ p0)]⟩,(ro 0 3 1 eI q18)]⟩:=(hA20 _ _ _).2 (by
   refine Ae [9] U (by kernel_rfl) (by decide) ⟨?_,trivial⟩
   ·refine Au.of (i:=9) rfl U (by rfl) ?_
    refine Bc (rows0:=[(ro 0 3 1 eI q18)]) (rows1:=[(ro 0 3 1 eI q18)]) (st':=[⟨0,97,2,[(AZ p0)]⟩,(ro 0 3 1 eI q18)]) (v':=(i64 q19)) [1] AM PG (hrec_impl_signatures_typeOf gq19) rfl (by decide) rfl U (.pure (AB fun _=>U) .nil) rfl U (.pure (AB fun _=>U) .nil) .nil U U ?_
    refine AA ⟨U,?_⟩
    exact AF (by exact AS [0] U (by decide) rfl U (.raw U U .nil) (.same U)) (AK (by kernel_rfl) ((hA20 _ _ _).1 A20_0123456789)) rfl)
  have A20_01234567:A20 3 #[true,true,true,true,true,true,true,true,false,false,false] ⟨44,Aa [(1,(ls eI p1)),(3,(ls (eS eI) p3)),(4,(.ptr 0 0 0 0)),(9,(i64 result5)),(10,(i64 t6)),(11,(.ptr 1 0 0 0)),(13,(ls AD p2)),(14,(i64 (Sh.len p2))),(15,(i64 t6)),(20,(.agg (AZ p0))),(27,(ow 2 0 q18))],[⟨0,97,2,[(AZ p0)]⟩,(Lw c15.op c15.num c15.kids),(ro 0 3 1 eI q18)]⟩:=(hA20 _ _ _).2 (by
   refine Ae [8] U (by kernel_rfl) (by decide) ⟨?_,trivial⟩
   ·refine Au.of (i:=8) rfl U (by rfl) ?_
    refine zq tb U (AA ⟨U,?_⟩)
    exact AF (by exact AS [0,2] U (by decide) rfl U (.raw U U (.pure (AB fun _=>U) .nil)) (.same U)) (AK (by kernel_rfl) ((hA20 _ _ _).1 A20_012345678)) rfl)
  have A20_01234568:A20 3 #[true,true,true,true,true,true,true,false,true,false,false] ⟨44,Aa [(1,(ls eI p1)),(3,(ls (eS eI) p3)),(4,(.ptr 0 0 0 0)),(9,(i64 result5)),(10,(i64 t6)),(13,(ls AD p2)),(14,(i64 (Sh.len p2))),(15,(i64 t6)),(20,(.agg (AZ p0))),(26,(ow 1 0 [p1,c17])),(28,(.agg [(i64 c15.op),(i64 c15.num),(ls AD c15.kids)]))],[⟨0,97,2,[(AZ p0)]⟩,(ro 0 40 1 (eS eI) [p1,c17])]⟩:=(hA20 _ _ _).2 (by
   refine Ae [7] U (by kernel_rfl) (by decide) ⟨?_,trivial⟩
   ·refine Au.of (i:=7) rfl U (by rfl) ?_
    refine Ad (Wk.A7 (L:=[(1,(ls eI p1)),(3,(ls (eS eI) p3)),(4,(.ptr 0 0 0 0)),(9,(i64 result5)),(10,(i64 t6)),(13,(ls AD p2)),(14,(i64 (Sh.len p2))),(15,(i64 t6)),(20,(.agg (AZ p0))),(26,(ls (eS eI) [p1,c17])),(28,(.agg [(i64 c15.op),(i64 c15.num),(ls AD c15.kids)]))]) (st':=[⟨0,97,2,[(AZ p0)]⟩,⟨1,40,1,[]⟩]) (id:=1) rfl (show 0≤1 by decide) (AB fun _=>U) ⟨.rfl,.rfl,.rfl,.rfl,.rfl,.rfl,.rfl,.rfl,.rfl,(.A7 U),.rfl,trivial⟩ U) (Bz (v':=(ow 2 0 q18)) AM Sb (Ef gq18) rfl U ⟨(Bi fun _=>U),trivial⟩ U U (AA ⟨U,?_⟩))
    exact AF (by exact AS [0,2] U (by decide) rfl U (.raw U U (.pure (AB fun _=>U) .nil)) (.same U)) (AK (by kernel_rfl) ((hA20 _ _ _).1 A20_012345678)) rfl)
  have A20_0123456:A20 4 #[true,true,true,true,true,true,true,false,false,false,false] ⟨44,Aa [(1,(ls eI p1)),(3,(ls (eS eI) p3)),(4,(.ptr 0 0 0 0)),(9,(i64 result5)),(10,(i64 t6)),(11,(.ptr 1 0 0 0)),(13,(ls AD p2)),(14,(i64 (Sh.len p2))),(15,(i64 t6)),(20,(.agg (AZ p0))),(26,(ow 2 0 [p1,c17]))],[⟨0,97,2,[(AZ p0)]⟩,(Lw c15.op c15.num c15.kids),(ro 0 40 1 (eS eI) [p1,c17])]⟩:=(hA20 _ _ _).2 (by
   refine Ae [7,8] U (by kernel_rfl) (by decide) ⟨?_,?_,trivial⟩
   ·refine Au.of (i:=7) rfl U (by rfl) ?_
    refine Ad (Wk.A7 (L:=[(1,(ls eI p1)),(3,(ls (eS eI) p3)),(4,(.ptr 0 0 0 0)),(9,(i64 result5)),(10,(i64 t6)),(11,(.ptr 1 0 0 0)),(13,(ls AD p2)),(14,(i64 (Sh.len p2))),(15,(i64 t6)),(20,(.agg (AZ p0))),(26,(ls (eS eI) [p1,c17]))]) (st':=[⟨0,97,2,[(AZ p0)]⟩,(Lw c15.op c15.num c15.kids),⟨1,40,1,[]⟩]) (id:=2) rfl (show 0≤2 by decide) (AB fun _=>U) ⟨.rfl,.rfl,.rfl,.rfl,.rfl,.rfl,.rfl,.rfl,.rfl,.rfl,(.A7 U),trivial⟩ U) (Bz (v':=(ow 3 0 q18)) AM Sb (Ef gq18) rfl U ⟨(Bi fun _=>U),trivial⟩ U U (AA ⟨U,?_⟩))
    exact AF (by exact AS [0,1,3] U (by decide) rfl U (.raw U U (.raw U U (.pure (AB fun _=>U) .nil))) (.same U)) (AK (by kernel_rfl) ((hA20 _ _ _).1 A20_01234567)) rfl
   ·refine Au.of (i:=8) rfl U (by rfl) ?_
    refine zq tb U (AA ⟨U,?_⟩)
    exact AF (by exact AS [0,2] U (by decide) rfl U (.raw U U (.pure (AB fun _=>U) .nil)) (.same U)) (AK (by kernel_rfl) ((hA20 _ _ _).1 A20_01234568)) rfl)
  have A20_0123458:A20 4 #[true,true,true,true,true,true,false,false,true,false,false] ⟨44,Aa [(1,(ls eI p1)),(3,(ls (eS eI) p3)),(4,(.ptr 0 0 0 0)),(9,(i64 result5)),(10,(i64 t6)),(13,(ls AD p2)),(14,(i64 (Sh.len p2))),(15,(i64 t6)),(20,(.agg (AZ p0))),(21,(ls eI p1)),(25,(ls eI c17)),(28,(.agg [(i64 c15.op),(i64 c15.num),(ls AD c15.kids)]))],[⟨0,97,2,[(AZ p0)]⟩]⟩:=(hA20 _ _ _).2 (by
   refine Ae [6] U (by kernel_rfl) (by decide) ⟨?_,trivial⟩
   ·refine Au.of (i:=6) rfl U (by rfl) ?_
    refine A3 (m:=1) (l:=[p1,c17]) (enc:=(eS eI)) AM IS (by decide) rfl U U U U U ?_
    refine AA ⟨U,?_⟩
    exact AF (by exact AG U) (AK (by kernel_rfl) ((hA20 _ _ _).1 A20_01234568)) rfl)
  have A20_012345:A20 5 #[true,true,true,true,true,true,false,false,false,false,false] ⟨44,Aa [(1,(ls eI p1)),(3,(ls (eS eI) p3)),(4,(.ptr 0 0 0 0)),(9,(i64 result5)),(10,(i64 t6)),(11,(.ptr 1 0 0 0)),(13,(ls AD p2)),(14,(i64 (Sh.len p2))),(15,(i64 t6)),(20,(.agg (AZ p0))),(21,(ls eI p1)),(25,(ls eI c17))],[⟨0,97,2,[(AZ p0)]⟩,(Lw c15.op c15.num c15.kids)]⟩:=(hA20 _ _ _).2 (by
   refine Ae [6,8] U (by kernel_rfl) (by decide) ⟨?_,?_,trivial⟩
   ·refine Au.of (i:=6) rfl U (by rfl) ?_
    refine A3 (m:=2) (l:=[p1,c17]) (enc:=(eS eI)) AM IS (by decide) rfl U U U U U ?_
    refine AA ⟨U,?_⟩
    exact AF (by exact AG U) (AK (by kernel_rfl) ((hA20 _ _ _).1 A20_0123456)) rfl
   ·refine Au.of (i:=8) rfl U (by rfl) ?_
    refine zq tb U (AA ⟨U,?_⟩)
    exact AF (by exact AS [0] U (by decide) rfl U (.raw U U .nil) (.same U)) (AK (by kernel_rfl) ((hA20 _ _ _).1 A20_0123458)) rfl)
  have A20_012348:A20 5 #[true,true,true,true,true,false,false,false,true,false,false] ⟨44,Aa [(1,(ls eI p1)),(3,(ls (eS eI) p3)),(4,(.ptr 0 0 0 0)),(9,(i64 result5)),(10,(i64 t6)),(13,(ls AD p2)),(14,(i64 (Sh.len p2))),(15,(i64 t6)),(20,(.agg (AZ p0))),(21,(ls eI p1)),(24,(.Al ((eS eI) c17) 0)),(28,(.agg [(i64 c15.op),(i64 c15.num),(ls AD c15.kids)]))],[⟨0,97,2,[(AZ p0)]⟩]⟩:=(hA20 _ _ _).2 (by
   refine Ae [5] U (by kernel_rfl) (by decide) ⟨?_,trivial⟩
   ·refine Au.of (i:=5) rfl U (by rfl) ?_
    refine zq tb U (AA ⟨U,?_⟩)
    exact AF (by exact AG U) (AK (by kernel_rfl) ((hA20 _ _ _).1 A20_0123458)) rfl)
  have A20_01234:A20 6 #[true,true,true,true,true,false,false,false,false,false,false] ⟨44,Aa [(1,(ls eI p1)),(3,(ls (eS eI) p3)),(4,(.ptr 0 0 0 0)),(9,(i64 result5)),(10,(i64 t6)),(11,(.ptr 1 0 0 0)),(13,(ls AD p2)),(14,(i64 (Sh.len p2))),(15,(i64 t6)),(20,(.agg (AZ p0))),(21,(ls eI p1)),(24,(.Al ((eS eI) c17) 0))],[⟨0,97,2,[(AZ p0)]⟩,(Lw c15.op c15.num c15.kids)]⟩:=(hA20 _ _ _).2 (by
   refine Ae [5,8] U (by kernel_rfl) (by decide) ⟨?_,?_,trivial⟩
   ·refine Au.of (i:=5) rfl U (by rfl) ?_
    refine zq tb U (AA ⟨U,?_⟩)
    exact AF (by exact AG U) (AK (by kernel_rfl) ((hA20 _ _ _).1 A20_012345)) rfl
   ·refine Au.of (i:=8) rfl U (by rfl) ?_
    refine zq tb U (AA ⟨U,?_⟩)
    exact AF (by exact AS [0] U (by decide) rfl U (.raw U U .nil) (.same U)) (AK (by kernel_rfl) ((hA20 _ _ _).1 A20_012348)) rfl)
  have A20_01238:A20 6 #[true,true,true,true,false,false,false,false,true,false,false] ⟨44,Aa [(1,(ls eI p1)),(3,(ls (eS eI) p3)),(4,(.ptr 0 0 0 0)),(9,(i64 result5)),(10,(i64 t6)),(13,(ls AD p2)),(14,(i64 (Sh.len p2))),(15,(i64 t6)),(20,(.agg (AZ p0))),(21,(ls eI p1)),(22,(ls (eS eI) p3)),(23,(i64 t6)),(28,(.agg [(i64 c15.op),(i64 c15.num),(ls AD c15.kids)]))],[⟨0,97,2,[(AZ p0)]⟩]⟩:=(hA20 _ _ _).2 (by
   refine Ae [4] U (by kernel_rfl) (by decide) ⟨?_,trivial⟩
   ·refine Au.of (i:=4) rfl U (by rfl) ?_
    refine zx IS gc17 U U U (AA ⟨U,?_⟩)
    exact AF (by exact AG U) (AK (by kernel_rfl) ((hA20 _ _ _).1 A20_012348)) rfl)
  have A20_0123:A20 7 #[true,true,true,true,false,false,false,false,false,false,false] ⟨44,Aa [(1,(ls eI p1)),(3,(ls (eS eI) p3)),(4,(.ptr 0 0 0 0)),(9,(i64 result5)),(10,(i64 t6)),(11,(.ptr 1 0 0 0)),(13,(ls AD p2)),(14,(i64 (Sh.len p2))),(15,(i64 t6)),(20,(.agg (AZ p0))),(21,(ls eI p1)),(22,(ls (eS eI) p3)),(23,(i64 t6))],[⟨0,97,2,[(AZ p0)]⟩,(Lw c15.op c15.num c15.kids)]⟩:=(hA20 _ _ _).2 (by
   refine Ae [4,8] U (by kernel_rfl) (by decide) ⟨?_,?_,trivial⟩
   ·refine Au.of (i:=4) rfl U (by rfl) ?_
    refine zx IS gc17 U U U (AA ⟨U,?_⟩)
    exact AF (by exact AG U) (AK (by kernel_rfl) ((hA20 _ _ _).1 A20_01234)) rfl
   ·refine Au.of (i:=8) rfl U (by rfl) ?_
    refine zq tb U (AA ⟨U,?_⟩)
    exact AF (by exact AS [0] U (by decide) rfl U (.raw U U .nil) (.same U)) (AK (by kernel_rfl) ((hA20 _ _ _).1 A20_01238)) rfl)
  have A20_12345678:A20 3 #[false,true,true,true,true,true,true,true,true,false,false] ⟨44,Aa [(1,(ls eI p1)),(3,(ls (eS eI) p3)),(4,(.ptr 0 0 0 0)),(9,(i64 result5)),(10,(i64 t6)),(13,(ls AD p2)),(14,(i64 (Sh.len p2))),(15,(i64 t6)),(27,(ow 1 0 q18)),(28,(.agg [(i64 c15.op),(i64 c15.num),(ls AD c15.kids)]))],[⟨0,97,2,[(AZ p0)]⟩,(ro 0 3 1 eI q18)]⟩:=(hA20 _ _ _).2 (by
   refine Ae [0] U (by kernel_rfl) (by decide) ⟨?_,trivial⟩
   ·refine Au.of (i:=0) rfl U (by rfl) ?_
    refine zq tb U (AA ⟨U,?_⟩)
    exact AF (by exact AG U) (AK (by kernel_rfl) ((hA20 _ _ _).1 A20_012345678)) rfl)
  have A20_1234567:A20 4 #[false,true,true,true,true,true,true,true,false,false,false] ⟨44,Aa [(1,(ls eI p1)),(3,(ls (eS eI) p3)),(4,(.ptr 0 0 0 0)),(9,(i64 result5)),(10,(i64 t6)),(11,(.ptr 1 0 0 0)),(13,(ls AD p2)),(14,(i64 (Sh.len p2))),(15,(i64 t6)),(27,(ow 2 0 q18))],[⟨0,97,2,[(AZ p0)]⟩,(Lw c15.op c15.num c15.kids),(ro 0 3 1 eI q18)]⟩:=(hA20 _ _ _).2 (by
   refine Ae [0,8] U (by kernel_rfl) (by decide) ⟨?_,?_,trivial⟩
   ·refine Au.of (i:=0) rfl U (by rfl) ?_
    refine zq tb U (AA ⟨U,?_⟩)
    exact AF (by exact AG U) (AK (by kernel_rfl) ((hA20 _ _ _).1 A20_01234567)) rfl
   ·refine Au.of (i:=8) rfl U (by rfl) ?_
    refine zq tb U (AA ⟨U,?_⟩)
    exact AF (by exact AS [0,2] U (by decide) rfl U (.raw U U (.pure (AB fun _=>U) .nil)) (.same U)) (AK (by kernel_rfl) ((hA20 _ _ _).1 A20_12345678)) rfl)
  have A20_1234568:A20 4 #[false,true,true,true,true,true,true,false,true,false,false] ⟨44,Aa [(1,(ls eI p1)),(3,(ls (eS eI) p3)),(4,(.ptr 0 0 0 0)),(9,(i64 result5)),(10,(i64 t6)),(13,(ls AD p2)),(14,(i64 (Sh.len p2))),(15,(i64 t6)),(26,(ow 1 0 [p1,c17])),(28,(.agg [(i64 c15.op),(i64 c15.num),(ls AD c15.kids)]))],[⟨0,97,2,[(AZ p0)]⟩,(ro 0 40 1 (eS eI) [p1,c17])]⟩:=(hA20 _ _ _).2 (by
   refine Ae [0,7] U (by kernel_rfl) (by decide) ⟨?_,?_,trivial⟩
   ·refine Au.of (i:=0) rfl U (by rfl) ?_
    refine zq tb U (AA ⟨U,?_⟩)
    exact AF (by exact AG U) (AK (by kernel_rfl) ((hA20 _ _ _).1 A20_01234568)) rfl
   ·refine Au.of (i:=7) rfl U (by rfl) ?_
    refine Ad (Wk.A7 (L:=[(1,(ls eI p1)),(3,(ls (eS eI) p3)),(4,(.ptr 0 0 0 0)),(9,(i64 result5)),(10,(i64 t6)),(13,(ls AD p2)),(14,(i64 (Sh.len p2))),(15,(i64 t6)),(26,(ls (eS eI) [p1,c17])),(28,(.agg [(i64 c15.op),(i64 c15.num),(ls AD c15.kids)]))]) (st':=[⟨0,97,2,[(AZ p0)]⟩,⟨1,40,1,[]⟩]) (id:=1) rfl (show 0≤1 by decide) (AB fun _=>U) ⟨.rfl,.rfl,.rfl,.rfl,.rfl,.rfl,.rfl,.rfl,(.A7 U),.rfl,trivial⟩ U) (Bz (v':=(ow 2 0 q18)) AM Sb (Ef gq18) rfl U ⟨(Bi fun _=>U),trivial⟩ U U (AA ⟨U,?_⟩))
    exact AF (by exact AS [0,2] U (by decide) rfl U (.raw U U (.pure (AB fun _=>U) .nil)) (.same U)) (AK (by kernel_rfl) ((hA20 _ _ _).1 A20_12345678)) rfl)
  have A20_123456:A20 5 #[false,true,true,true,true,true,true,false,false,false,false] ⟨44,Aa [(1,(ls eI p1)),(3,(ls (eS eI) p3)),(4,(.ptr 0 0 0 0)),(9,(i64 result5)),(10,(i64 t6)),(11,(.ptr 1 0 0 0)),(13,(ls AD p2)),(14,(i64 (Sh.len p2))),(15,(i64 t6)),(26,(ow 2 0 [p1,c17]))],[⟨0,97,2,[(AZ p0)]⟩,(Lw c15.op c15.num c15.kids),(ro 0 40 1 (eS eI) [p1,c17])]⟩:=(hA20 _ _ _).2 (by
   refine Ae [0,7,8] U (by kernel_rfl) (by decide) ⟨?_,?_,?_,trivial⟩
   ·refine Au.of (i:=0) rfl U (by rfl) ?_
    refine zq tb U (AA ⟨U,?_⟩)
    exact AF (by exact AG U) (AK (by kernel_rfl) ((hA20 _ _ _).1 A20_0123456)) rfl
   ·refine Au.of (i:=7) rfl U (by rfl) ?_
    refine Ad (Wk.A7 (L:=[(1,(ls eI p1)),(3,(ls (eS eI) p3)),(4,(.ptr 0 0 0 0)),(9,(i64 result5)),(10,(i64 t6)),(11,(.ptr 1 0 0 0)),(13,(ls AD p2)),(14,(i64 (Sh.len p2))),(15,(i64 t6)),(26,(ls (eS eI) [p1,c17]))]) (st':=[⟨0,97,2,[(AZ p0)]⟩,(Lw c15.op c15.num c15.kids),⟨1,40,1,[]⟩]) (id:=2) rfl (show 0≤2 by decide) (AB fun _=>U) ⟨.rfl,.rfl,.rfl,.rfl,.rfl,.rfl,.rfl,.rfl,.rfl,(.A7 U),trivial⟩ U) (Bz (v':=(ow 3 0 q18)) AM Sb (Ef gq18) rfl U ⟨(Bi fun _=>U),trivial⟩ U U (AA ⟨U,?_⟩))
    exact AF (by exact AS [0,1,3] U (by decide) rfl U (.raw U U (.raw U U (.pure (AB fun _=>U) .nil))) (.same U)) (AK (by kernel_rfl) ((hA20 _ _ _).1 A20_1234567)) rfl
   ·refine Au.of (i:=8) rfl U (by rfl) ?_
    refine zq tb U (AA ⟨U,?_⟩)
    exact AF (by exact AS [0,2] U (by decide) rfl U (.raw U U (.pure (AB fun _=>U) .nil)) (.same U)) (AK (by kernel_rfl) ((hA20 _ _ _).1 A20_1234568)) rfl)
  have A20_123458:A20 5 #[false,true,true,true,true,true,false,false,true,false,false] ⟨44,Aa [(1,(ls eI p1)),(3,(ls (eS eI) p3)),(4,(.ptr 0 0 0 0)),(9,(i64 result5)),(10,(i64 t6)),(13,(ls AD p2)),(14,(i64 (Sh.len p2))),(15,(i64 t6)),(21,(ls eI p1)),(25,(ls eI c17)),(28,(.agg [(i64 c15.op),(i64 c15.num),(ls AD c15.kids)]))],[⟨0,97,2,[(AZ p0)]⟩]⟩:=(hA20 _ _ _).2 (by
   refine Ae [0,6] U (by kernel_rfl) (by decide) ⟨?_,?_,trivial⟩
   ·refine Au.of (i:=0) rfl U (by rfl) ?_
    refine zq tb U (AA ⟨U,?_⟩)
    exact AF (by exact AG U) (AK (by kernel_rfl) ((hA20 _ _ _).1 A20_0123458)) rfl
   ·refine Au.of (i:=6) rfl U (by rfl) ?_
    refine A3 (m:=1) (l:=[p1,c17]) (enc:=(eS eI)) AM IS (by decide) rfl U U U U U ?_
    refine AA ⟨U,?_⟩
    exact AF (by exact AG U) (AK (by kernel_rfl) ((hA20 _ _ _).1 A20_1234568)) rfl)
  have A20_12345:A20 6 #[false,true,true,true,true,true,false,false,false,false,false] ⟨44,Aa [(1,(ls eI p1)),(3,(ls (eS eI) p3)),(4,(.ptr 0 0 0 0)),(9,(i64 result5)),(10,(i64 t6)),(11,(.ptr 1 0 0 0)),(13,(ls AD p2)),(14,(i64 (Sh.len p2))),(15,(i64 t6)),(21,(ls eI p1)),(25,(ls eI c17))],[⟨0,97,2,[(AZ p0)]⟩,(Lw c15.op c15.num c15.kids)]⟩:=(hA20 _ _ _).2 (by
   refine Ae [0,6,8] U (by kernel_rfl) (by decide) ⟨?_,?_,?_,trivial⟩
   ·refine Au.of (i:=0) rfl U (by rfl) ?_
    refine zq tb U (AA ⟨U,?_⟩)
    exact AF (by exact AG U) (AK (by kernel_rfl) ((hA20 _ _ _).1 A20_012345)) rfl
   ·refine Au.of (i:=6) rfl U (by rfl) ?_
    refine A3 (m:=2) (l:=[p1,c17]) (enc:=(eS eI)) AM IS (by decide) rfl U U U U U ?_
    refine AA ⟨U,?_⟩
    exact AF (by exact AG U) (AK (by kernel_rfl) ((hA20 _ _ _).1 A20_123456)) rfl
   ·refine Au.of (i:=8) rfl U (by rfl) ?_
    refine zq tb U (AA ⟨U,?_⟩)
    exact AF (by exact AS [0] U (by decide) rfl U (.raw U U .nil) (.same U)) (AK (by kernel_rfl) ((hA20 _ _ _).1 A20_123458)) rfl)
  have A20_12348:A20 6 #[false,true,true,true,true,false,false,false,true,false,false] ⟨44,Aa [(1,(ls eI p1)),(3,(ls (eS eI) p3)),(4,(.ptr 0 0 0 0)),(9,(i64 result5)),(10,(i64 t6)),(13,(ls AD p2)),(14,(i64 (Sh.len p2))),(15,(i64 t6)),(21,(ls eI p1)),(24,(.Al ((eS eI) c17) 0)),(28,(.agg [(i64 c15.op),(i64 c15.num),(ls AD c15.kids)]))],[⟨0,97,2,[(AZ p0)]⟩]⟩:=(hA20 _ _ _).2 (by
   refine Ae [0,5] U (by kernel_rfl) (by decide) ⟨?_,?_,trivial⟩
   ·refine Au.of (i:=0) rfl U (by rfl) ?_
    refine zq tb U (AA ⟨U,?_⟩)
    exact AF (by exact AG U) (AK (by kernel_rfl) ((hA20 _ _ _).1 A20_012348)) rfl
   ·refine Au.of (i:=5) rfl U (by rfl) ?_
    refine zq tb U (AA ⟨U,?_⟩)
    exact AF (by exact AG U) (AK (by kernel_rfl) ((hA20 _ _ _).1 A20_123458)) rfl)
  have A20_1234:A20 7 #[false,true,true,true,true,false,false,false,false,false,false] ⟨44,Aa [(1,(ls eI p1)),(3,(ls (eS eI) p3)),(4,(.ptr 0 0 0 0)),(9,(i64 result5)),(10,(i64 t6)),(11,(.ptr 1 0 0 0)),(13,(ls AD p2)),(14,(i64 (Sh.len p2))),(15,(i64 t6)),(21,(ls eI p1)),(24,(.Al ((eS eI) c17) 0))],[⟨0,97,2,[(AZ p0)]⟩,(Lw c15.op c15.num c15.kids)]⟩:=(hA20 _ _ _).2 (by
   refine Ae [0,5,8] U (by kernel_rfl) (by decide) ⟨?_,?_,?_,trivial⟩
   ·refine Au.of (i:=0) rfl U (by rfl) ?_
    refine zq tb U (AA ⟨U,?_⟩)
    exact AF (by exact AG U) (AK (by kernel_rfl) ((hA20 _ _ _).1 A20_01234)) rfl
   ·refine Au.of (i:=5) rfl U (by rfl) ?_
    refine zq tb U (AA ⟨U,?_⟩)
    exact AF (by exact AG U) (AK (by kernel_rfl) ((hA20 _ _ _).1 A20_12345)) rfl
   ·refine Au.of (i:=8) rfl U (by rfl) ?_
    refine zq tb U (AA ⟨U,?_⟩)
    exact AF (by exact AS [0] U (by decide) rfl U (.raw U U .nil) (.same U)) (AK (by kernel_rfl) ((hA20 _ _ _).1 A20_12348)) rfl)
  have A20_1238:A20 7 #[false,true,true,true,false,false,false,false,true,false,false] ⟨44,Aa [(1,(ls eI p1)),(3,(ls (eS eI) p3)),(4,(.ptr 0 0 0 0)),(9,(i64 result5)),(10,(i64 t6)),(13,(ls AD p2)),(14,(i64 (Sh.len p2))),(15,(i64 t6)),(21,(ls eI p1)),(22,(ls (eS eI) p3)),(23,(i64 t6)),(28,(.agg [(i64 c15.op),(i64 c15.num),(ls AD c15.kids)]))],[⟨0,97,2,[(AZ p0)]⟩]⟩:=(hA20 _ _ _).2 (by
   refine Ae [0,4] U (by kernel_rfl) (by decide) ⟨?_,?_,trivial⟩
   ·refine Au.of (i:=0) rfl U (by rfl) ?_
    refine zq tb U (AA ⟨U,?_⟩)
    exact AF (by exact AG U) (AK (by kernel_rfl) ((hA20 _ _ _).1 A20_01238)) rfl
   ·refine Au.of (i:=4) rfl U (by rfl) ?_
    refine zx IS gc17 U U U (AA ⟨U,?_⟩)
    exact AF (by exact AG U) (AK (by kernel_rfl) ((hA20 _ _ _).1 A20_12348)) rfl)
  have A20_123:A20 8 #[false,true,true,true,false,false,false,false,false,false,false] ⟨44,Aa [(1,(ls eI p1)),(3,(ls (eS eI) p3)),(4,(.ptr 0 0 0 0)),(9,(i64 result5)),(10,(i64 t6)),(11,(.ptr 1 0 0 0)),(13,(ls AD p2)),(14,(i64 (Sh.len p2))),(15,(i64 t6)),(21,(ls eI p1)),(22,(ls (eS eI) p3)),(23,(i64 t6))],[⟨0,97,2,[(AZ p0)]⟩,(Lw c15.op c15.num c15.kids)]⟩:=(hA20 _ _ _).2 (by
   refine Ae [0,4,8] U (by kernel_rfl) (by decide) ⟨?_,?_,?_,trivial⟩
   ·refine Au.of (i:=0) rfl U (by rfl) ?_
    refine zq tb U (AA ⟨U,?_⟩)
    exact AF (by exact AG U) (AK (by kernel_rfl) ((hA20 _ _ _).1 A20_0123)) rfl
   ·refine Au.of (i:=4) rfl U (by rfl) ?_
    refine zx IS gc17 U U U (AA ⟨U,?_⟩)
    exact AF (by exact AG U) (AK (by kernel_rfl) ((hA20 _ _ _).1 A20_1234)) rfl
   ·refine Au.of (i:=8) rfl U (by rfl) ?_
    refine zq tb U (AA ⟨U,?_⟩)
    exact AF (by exact AS [0] U (by decide) rfl U (.raw U U .nil) (.same U)) (AK (by kernel_rfl) ((hA20 _ _ _).1 A20_1238)) rfl)
  have A20_12:A20 9 #[false,true,true,false,false,false,false,false,false,false,false] ⟨44,Aa [(1,(ls eI p1)),(3,(ls (eS eI) p3)),(4,(.ptr 0 0 0 0)),(9,(i64 result5)),(10,(i64 t6)),(11,(.ptr 1 0 0 0)),(13,(ls AD p2)),(14,(i64 (Sh.len p2))),(15,(i64 t6)),(21,(ls eI p1)),(22,(ls (eS eI) p3))],[⟨0,97,2,[(AZ p0)]⟩,(Lw c15.op c15.num c15.kids)]⟩:=(hA20 _ _ _).2 (by
   refine Cj 3 (v:=(i64 t6)) rfl U (by kernel_rfl) (by kernel_rfl) (by kernel_rfl) rfl (GR U) ?_
   exact AF (by exact AG U) (AK (by kernel_rfl) ((hA20 _ _ _).1 A20_123)) rfl)
  have A20_1:A20 10 #[false,true,false,false,false,false,false,false,false,false,false] ⟨44,Aa [(1,(ls eI p1)),(3,(ls (eS eI) p3)),(4,(.ptr 0 0 0 0)),(9,(i64 result5)),(10,(i64 t6)),(11,(.ptr 1 0 0 0)),(13,(ls AD p2)),(14,(i64 (Sh.len p2))),(15,(i64 t6)),(21,(ls eI p1))],[⟨0,97,2,[(AZ p0)]⟩,(Lw c15.op c15.num c15.kids)]⟩:=(hA20 _ _ _).2 (by
   refine Cj 2 (v:=(ls (eS eI) p3)) rfl U (by kernel_rfl) (by kernel_rfl) (by kernel_rfl) rfl (GR U) ?_
   exact AF (by exact AG U) (AK (by kernel_rfl) ((hA20 _ _ _).1 A20_12)) rfl)
  have A20_e:A20 11 #[false,false,false,false,false,false,false,false,false,false,false] ⟨44,Aa [(1,(ls eI p1)),(3,(ls (eS eI) p3)),(4,(.ptr 0 0 0 0)),(9,(i64 result5)),(10,(i64 t6)),(11,(.ptr 1 0 0 0)),(13,(ls AD p2)),(14,(i64 (Sh.len p2))),(15,(i64 t6))],[⟨0,97,2,[(AZ p0)]⟩,(Lw c15.op c15.num c15.kids)]⟩:=(hA20 _ _ _).2 (by
   refine Cj 1 (v:=(ls eI p1)) rfl U (by kernel_rfl) (by kernel_rfl) (by kernel_rfl) rfl (GR U) ?_
   exact AF (by exact AG U) (AK (by kernel_rfl) ((hA20 _ _ _).1 A20_1)) rfl)
  refine (hA20 _ _ _).2 ?_
  exact AF (by exact AG U) (AK (by kernel_rfl) ((hA20 _ _ _).1 A20_e)) rfl
 ·intro b12 h1
  exact A5 (M8 result5 (Sh.AE h1).symm _ (As _ U))
theorem Nb {N:Nat} {p0:(List Ac)} {r:Int} (h0:G0 N p0=some r):Ai Try.prog 119 [(ls AI p0)] [] (fun v st=>v=(i64 r)∧st=[]):=by
 unfold G0 at h0
 refine ai Try.func119 U U U U ?_
 iterate 2 refine zr tb rfl rfl ?_
 refine AH fun K3 hK3=>sr U fun K4 hK4=>zq tb U (zl tb U U (zq tb U (dn hK4 U (bs h0 fun o8 h1 h0=>?_))))
 have M8 :∀(n7:Int),o8=n7→∀s,Wk 0 s ⟨19,Aa [(3,(i64 n7))],[]⟩→K3 s:=by
  intro n7 hq s hw
  subst o8
  try dsimp only at h0
  refine hK3 _ (AN hw (zr tb U U ?_))
  replace h0:=Sh.AE h0
  subst r
  exact AU (xr (Ah (L:=[(2,(i64 n7))]) (.same U)))
 refine Ab (Ay (σ:=Int×Int) (fun n v=>DX p0 n v.1 v.2=some o8) (fun (n5,t6)=>⟨19,Aa [(3,(i64 n5)),(6,(ls AI p0)),(7,(i64 (Sh.len p0))),(8,(i64 t6))],[]⟩) N (0,0) h1 (AG U) (fun _ hv=>by rw[DX] at hv;cases hv) ?_)
 rintro n ⟨n5,t6⟩ h1
 try dsimp only at h1 ⊢
 rw[DX] at h1
 refine zr tb U U (AH fun K11 hK11=>?_)
 refine ci h1 U ?_ ?_ <;> clear h1
 ·intro b12 h1
  refine AR (hK11 _ (AH fun K13 hK13=>Ab (sr U fun K14 hK14=>bs h1 fun c15 gc15 h1=>zx ER gc15 U U U (zq tb U (A1 (m:=0) AM Eh U U (Az AM Ht U U U U U U (show 0+3≤3 by decide) rfl (dn hK14 U (AL U (zm tb 3 U ?_)))))))))
  exact zl tb U U (zm tb 2 U (dn hK13 U (AL U (zm tb 2 U (AA (xi (Sh.w (n5+(Sh.len c15.cons)),Sh.w (t6+1)) h1 (As _ U)))))))
 ·intro b12 h1
  exact A5 (M8 n5 (Sh.AE h1).symm _ (AG U))
theorem Pm {N:Nat} {p0:(List Ac)} {p1:Int} {r:(List Int)} (h0:Hs N p0 p1=some r):Ai Try.prog 93 [(ls AI p0),(i64 p1)] [] (fun v st=>v=(ow 0 0 r)∧st=[(ro 0 3 1 eI r)]):=by
 unfold Hs at h0
 refine ai Try.func93 U U U U (zr tb U U (AH fun K2 hK2=>AH fun K3 hK3=>bs h0 fun o5 h1 h0=>?_))
 have M5 :∀(t4:Bool),o5=t4→∀s,Wk 0 s ⟨39,Aa [(0,(ls AI p0)),(1,(i64 p1)),(15,(.bool t4))],[]⟩→K3 s:=by
  intro t4 hq s hw
  subst o5
  try dsimp only at h0
  refine hK3 _ (AN hw ?_)
  refine ci h0 U ?_ ?_ <;> clear h0
  ·intro b6 h0
   refine zr tb U U ?_
   replace h0:=Sh.AE h0
   subst r
   exact AU (Exists.intro _ (And.intro (((Gz (t:=4) rfl 3 (size:=1) (by decide)).trans (Ah (L:=[(4,(.own 0 0 (List.length ([]:List Int))))]) (.same U))).trans (Ah (L:=[(4,(.own 0 0 (List.length ([]:List Int))))]) (.same U))) (And.intro U U)))
  ·intro b6 h0
   refine AR (hK2 _ (sr U fun K8 hK8=>zm tb 3 U (bs h0 fun l9 gl9 h0=>Nr (i:=0) (j:=Sh.w (p1 - 1)) AM ER U U U (fun _=>U) gl9 (bs h0 fun q10 gq10 h0=>zc Yk (Nb gq10) rfl U U (zq tb U (dn hK8 U (zr tb U U (AH fun K12 hK12=>sr U fun K13 hK13=>?_))))))))
   refine zm tb 3 U (bs h0 fun c14 gc14 h0=>zx ER gc14 U U U (zm tb 2 U (zl tb U U (zq tb U (dn hK13 U (bs h0 fun o18 h1 h0=>?_))))))
   have M18 :∀(l17:(List Int)),o18=l17→∀s,Wk 0 s ⟨39,Aa [(6,(ow 0 0 l17))],[(ro 0 3 1 eI l17)]⟩→K12 s:=by
    intro l17 hq s hw
    subst o18
    try dsimp only at h0
    refine hK12 _ (AN hw (zr tb U U ?_))
    replace h0:=Sh.AE h0
    subst r
    exact AU (xr (Ah (L:=[(4,(ow 0 0 l17))]) (.same U)))
   refine Ab (Ay (σ:=Int×(List Int)) (fun n v=>EA c14 q10 n v.1 v.2=some o18) (fun (t15,l16)=>⟨39,Aa [(5,(i64 q10)),(6,(ow 0 0 l16)),(27,(i64 (Sh.len c14.cons))),(28,(i64 t15))],[(ro 0 3 1 eI l16)]⟩) N (0,[]) h1 ((Gz (t:=6) rfl 3 (size:=1) (by decide)).trans (Ah (L:=[(5,(i64 q10)),(6,(.own 0 0 (List.length ([]:List Int)))),(27,(i64 (Sh.len c14.cons))),(28,(i64 0))]) (.same U))) (fun _ hv=>by rw[EA] at hv;cases hv) ?_)
   rintro n ⟨t15,l16⟩ h1
   try dsimp only at h1 ⊢
   rw[EA] at h1
   refine zr tb U U (AH fun K21 hK21=>?_)
   refine ci h1 U ?_ ?_ <;> clear h1
   ·intro b22 h1
    refine AR (hK21 _ (AH fun K23 hK23=>Ab (zr tb U U (AL U (zm tb 4 U ?_)))))
    refine A3 (m:=1) (l:=[Sh.w (q10+t15)]) (enc:=eI) AM A4 (by decide) rfl U U U U U ?_
    refine bs h1 fun l25 gl25 h1=>CB (l2:=[Sh.w (q10+t15)]) AM A4 U U U U (EO U U) (fun _=>U) gl25 U (zq tb U (dn hK23 U (AL U (zm tb 2 U ?_))))
    exact AA (xi (Sh.w (t15+1),l25) h1 (by refine Wk.trans (EW (L:=[(5,(i64 q10)),(6,(ow 0 0 l25)),(27,(i64 (Sh.len c14.cons))),(28,(i64 (Sh.w (t15+1))))]) (st':=[(ro 0 3 1 eI l25),(ro 0 3 1 eI [Sh.w (q10+t15)])]) (.pure (AB fun _=>U) (.pure (AB fun _=>U) .nil)) (.same U)) ?_;exact AS [0] U (by decide) rfl U (.pure (AB fun _=>U) .nil) (.same U)))
   ·intro b22 h1
    exact A5 (M18 l16 (Sh.AE h1).symm _ (AG U))
 refine AL U (zm tb 3 U ?_)
 rcases Sh.Am h1 with ⟨b26,h1⟩ | ⟨b26,h1⟩
 ·refine zs b26 U ?_
  iterate 3 refine zs b26 rfl ?_
  exact zt b26 U (AA (M5 true (Sh.AE h1).symm _ (AG U)))
 ·exact zg tb b26 U (zg tb b26 U (B3 (v:=(i64 (Sh.len p0))) (Bw U U b26) rfl (B6 R9 U) (zg tb b26 U (zf b26 U (AA (M5 (decide ((Sh.len p0) < p1)) (Sh.AE h1).symm _ (AG U)))))))
theorem Lk {N:Nat} {p0:(List Ac)} {p1:Int} {r:Int×Gl} (h0:F4 N p0 p1=some r):Ai Try.prog 120 [(ls AI p0),(i64 p1)] [] (fun v st=>v=(.CO [(i64 r.1),(.agg (BJ r.2))])∧st=[]):=by
 unfold F4 at h0
 refine D3 U (ai Try.func120 U U U U (sr U fun K1 hK1=>zq tb U (A1 (m:=0) AM Mx U U (dn hK1 U (AH fun K2 hK2=>sr U fun K3 hK3=>zq tb U (zl tb U U (zq tb U (dn hK3 U ?_))))))))
 obtain⟨o6,h1,h0⟩:=Sh.BZ h0
 have M6 :∀(_:Unit),o6=Sum.inr ()→∀s,Wk 0 s ⟨38,Aa [(5,(.ptr 0 0 0 0))],[⟨0,130,1,[[.zc]]⟩]⟩→K2 s:=by
  intro _ hq s hw
  subst o6
  try dsimp only at h0
  refine hK2 _ (AN hw (sr U fun K7 hK7=>zz (.agg [.zc]) (EF W2 W0 Mx U U) rfl (zq tb U (Az AM Kr U U U U U U (show 0+1≤1 by decide) rfl (dn hK7 U ?_)))))
  replace h0:=Sh.AE h0
  subst r
  exact AU (Exists.intro _ (And.intro ((Ku (id:=0) (cs:=[.zc]) (cs':=[(.sl (List.map eI []))]) (st':=[⟨0,130,1,[[(.sl (List.map eI []))]]⟩]) rfl ⟨le.zc,trivial⟩ U U).trans (Ah (L:=[(4,(i64 (-1))),(5,(.ptr 0 0 0 0))]) (.same U))) (A9 (x:=.tmp 5) (off:=0) (cs:=[(.sl (List.map eI []))]) (vs:=[(.sl (List.map eI []))]) Kr U U U (show 0+1≤1 by decide) rfl _ U)))
 refine Ab (Ay (σ:=Int×Int) (fun n v=>D5 p0 n v.1 v.2=some o6) (fun (c4,t5)=>⟨38,Aa [(1,(i64 c4)),(5,(.ptr 0 0 0 0)),(8,(ls AI p0)),(9,(i64 (Sh.len p0))),(10,(i64 t5))],[⟨0,130,1,[[.zc]]⟩]⟩) N (p1,0) h1 (AG U) (fun _ hv=>by rw[D5] at hv;cases hv) ?_)
 rintro n ⟨c4,t5⟩ h1
 try dsimp only at h1 ⊢
 rw[D5] at h1
 refine zr tb U U (AH fun K9 hK9=>?_)
 refine ci h1 U ?_ ?_ <;> clear h1
 ·intro b10 h1
  refine AR (hK9 _ (AH fun K11 hK11=>Ab (sr U fun K12 hK12=>zq tb U (bs h1 fun c13 gc13 h1=>zx ER gc13 U U U (zq tb U (A1 (m:=1) AM Eh U U (zq tb U (Az AM Ht U U U U U U (show 0+3≤3 by decide) rfl (dn hK12 U ?_)))))))))
  refine AH fun K14 hK14=>AH fun K15 hK15=>bs h1 fun o17 h2 h1=>?_
  have M17 :∀(t16:Bool),o17=t16→∀s,Wk 0 s ⟨38,Aa [(1,(i64 c4)),(5,(.ptr 0 0 0 0)),(6,(i64 t5)),(7,(.ptr 1 0 0 0)),(8,(ls AI p0)),(9,(i64 (Sh.len p0))),(10,(i64 t5)),(23,(.bool t16))],[⟨0,130,1,[[.zc]]⟩,⟨0,80,3,[(AI c13)]⟩]⟩→K15 s:=by
   intro t16 hq s hw
   subst o17
   try dsimp only at h1
   refine hK15 _ (AN hw ?_)
   refine ci h1 U ?_ ?_ <;> clear h1
   ·intro b18 h1
    refine AH fun K19 hK19=>?_
    refine CL 8 (by kernel_rfl) (by kernel_rfl) (by rfl) ?_
    iterate 5 refine yq tb rfl ?_
    refine bs h1 fun c20 gc20 h1=>yx J9 gc20 U U U ?_
    iterate 2 refine yq tb rfl ?_
    refine Ax (Az AM Kr U U U U U U (show 0+1≤1 by decide) rfl (dn hK19 U ?_))
    replace h1:=Sh.AE h1
    subst o6
    try dsimp only[id] at h0
    replace h0:=Sh.AE h0
    subst r
    exact AU (Exists.intro _ (And.intro ((AS (L:=[(4,(i64 (Sh.w (t5+1)))),(5,(.ptr 0 0 0 0))]) (st':=[⟨0,130,1,[(BJ c20)]⟩]) [0] U (by decide) rfl U (.raw U U .nil) (.same U)).trans (Ah (L:=[(4,(i64 (Sh.w (t5+1)))),(5,(.ptr 0 0 0 0))]) (.same U))) (A9 (x:=.tmp 5) (off:=0) (cs:=(BJ c20)) (vs:=(BJ c20)) Kr U U U (show 0+1≤1 by decide) rfl _ U)))
   ·intro b18 h1
    refine AR (hK14 _ (AL U (zm tb 3 U (zl tb U U (zm tb 2 U (dn hK11 U (AL U (zm tb 2 U ?_))))))))
    exact AA (xi (Sh.w (c4 - (Sh.len c13.cons)),Sh.w (t5+1)) h1 (AS [0] U (by decide) rfl U (.raw U U .nil) (.same U)))
  refine AL U (zm tb 3 U ?_)
  rcases Sh.Am h2 with ⟨b21,h2⟩ | ⟨b21,h2⟩
  ·exact zg tb b21 U (zg tb b21 U (zg tb b21 U (B3 (v:=(i64 (Sh.len c13.cons))) (Bw U U b21) rfl (B6 R0 U) (zg tb b21 U (zt b21 U (AA (M17 (decide (c4 < (Sh.len c13.cons))) (Sh.AE h2).symm _ (AG U))))))))
  ·refine zs b21 U ?_
   iterate 4 refine zs b21 rfl ?_
   exact zf b21 U (AA (M17 false (Sh.AE h2).symm _ (AG U)))
 ·intro b10 h1
  exact A5 (M6 () (Sh.AE h1).symm _ (AG U))
theorem Nz {N:Nat} {p0:(List Ac)} {p1:Int} {r:(List Int)} (h0:Ea N p0 p1=some r):Ai Try.prog 94 [(ls AI p0),(i64 p1)] [] (fun v st=>v=(ls eI r)∧st=[]):=by
 unfold Ea at h0
 refine ai Try.func94 U U U U (zr tb U U (sr U fun K2 hK2=>zm tb 2 U (bs h0 fun q3 gq3 h0=>zc (v':=(.CO [(i64 q3.1),(.agg (BJ q3.2))])) Wj (Lk gq3) rfl U U (zm tb 3 U (A1 (m:=0) AM Mx U U (zq tb U (Az AM Kr U U U U U U (show 0+1≤1 by decide) rfl (dn hK2 U (zr tb U U ?_)))))))))
 replace h0:=Sh.AE h0
 subst r
 exact AU (xr (As [(4,(ls eI q3.2.fields))] U))
theorem KP {p0:(List Ac)} {p1:Int} {r:Ac×Bool} (h0:HU p0 p1=some r):Ai Try.prog 121 [(ls AI p0),(i64 p1)] [] (fun v st=>v=(.CO [(.agg (AI r.1)),(.bool r.2)])∧st=[]):=by
 unfold HU at h0
 refine D3 U (ai Try.func121 U U U U (sr U fun K1 hK1=>A1 (m:=0) AM Eh U U (zq tb U (dn hK1 U (AH fun K2 hK2=>AH fun K3 hK3=>bs h0 fun o5 h1 h0=>?_)))))
 have M5 :∀(t4:Bool),o5=t4→∀s,Wk 0 s ⟨30,Aa [(0,(ls AI p0)),(1,(i64 p1)),(4,(.ptr 0 0 0 0)),(23,(.bool t4))],[⟨0,80,3,[[(i64 0),(i64 0),.zc]]⟩]⟩→K3 s:=by
  intro t4 hq s hw
  subst o5
  try dsimp only at h0
  refine hK3 _ (AN hw ?_)
  refine ci h0 U ?_ ?_ <;> clear h0
  ·intro b6 h0
   refine sr U fun K7 hK7=>zz (.agg [(i64 0),(i64 0),.zc]) (EF JH JN Eh U U) rfl (Az AM Ht U U U U U U (show 0+3≤3 by decide) rfl (zq tb U (dn hK7 U ?_)))
   replace h0:=Sh.AE h0
   subst r
   exact AU (Exists.intro _ (And.intro ((Ku (id:=0) (cs:=[(i64 0),(i64 0),.zc]) (cs':=[(i64 0),(i64 0),(.sl (List.map BJ []))]) (st':=[⟨0,80,3,[[(i64 0),(i64 0),(.sl (List.map BJ []))]]⟩]) rfl ⟨le.rfl,le.rfl,le.zc,trivial⟩ U U).trans (Ah (L:=[(4,(.ptr 0 0 0 0)),(5,(.bool false))]) (.same U))) (A9 (x:=.tmp 4) (off:=0) (cs:=[(i64 0),(i64 0),(.sl (List.map BJ []))]) (vs:=[(i64 0),(i64 0),(.sl (List.map BJ []))]) Ht U U U (show 0+3≤3 by decide) rfl _ U)))
  ·intro b6 h0
   refine AR (hK2 _ (sr U fun K8 hK8=>zm tb 3 U (bs h0 fun c9 gc9 h0=>zx ER gc9 U U U (zq tb U (Az AM Ht U U U U U U (show 0+3≤3 by decide) rfl (zq tb U (dn hK8 U ?_)))))))
   replace h0:=Sh.AE h0
   subst r
   exact AU (Exists.intro _ (And.intro (Ah (L:=[(4,(.ptr 0 0 0 0)),(5,(.bool true))]) (.same U)) (A9 (x:=.tmp 4) (off:=0) (cs:=(AI c9)) (vs:=(AI c9)) Ht U U U (show 0+3≤3 by decide) rfl _ U)))
 refine AL U (zm tb 3 U ?_)
 rcases Sh.Am h1 with ⟨b10,h1⟩ | ⟨b10,h1⟩
 ·refine zs b10 U ?_
  iterate 3 refine zs b10 rfl ?_
  refine zt b10 U (zq tb U ?_)
  iterate 8 refine zs rfl rfl ?_
  exact zt U U (AA (M5 true (Sh.AE h1).symm _ (AG U)))
 ·refine zg tb b10 U (zg tb b10 U (B3 (v:=(i64 (Sh.len p0))) (Bw U U b10) rfl (B6 R9 U) (zg tb b10 U (zf b10 U (zq tb U ?_)))))
  rcases Sh.Am h1 with ⟨b11,h1⟩ | ⟨b11,h1⟩
  ·refine zs b11 U ?_
   iterate 7 refine zs b11 rfl ?_
   exact zt b11 U (AA (M5 true (Sh.AE h1).symm _ (AG U)))
  ·exact zg tb b11 U (zg tb b11 U (zg tb b11 U (bs h1 fun c12 gc12 h1=>B3 (v:=(.Al (AI c12) 0)) (Bw U U b11) rfl (CZ ER U U gc12 U) (zg tb b11 U (zg tb b11 U (B3 (v:=(i64 (Sh.len c12.cons))) (Bw U U b11) rfl (B6 R0 U) (zg tb b11 U (zf b11 U (AA (M5 (decide (0 < (Sh.len c12.cons))) (Sh.AE h1).symm _ (AG U)))))))))))
theorem Eo {N:Nat} {p0:(List Int)} {p1:(List Int)} {r:Bool} (h0:CJ N p0 p1=some r):Ai Try.prog 122 [(ls eI p0),(ls eI p1)] [] (fun v st=>v=(.bool r)∧st=[]):=by
 unfold CJ at h0
 refine ai Try.func122 U U U U (zr tb U U (AH fun K2 hK2=>sr U fun K3 hK3=>zq tb U (zl tb U U (zq tb U (zl tb U U (zq tb U (dn hK3 U ?_)))))))
 refine ci h0 U ?_ ?_ <;> clear h0
 ·intro b4 h0
  have b5:decide ((Sh.len p0)=(Sh.len p1))=false:=by simpa using b4
  refine zr tb U U ?_
  replace h0:=Sh.AE h0
  subst r
  exact AU (xr (Ah (L:=[(4,(.bool false))]) (.same U)))
 ·intro b4 h0
  have b7:decide ((Sh.len p0)=(Sh.len p1))=true:=by simpa using b4
  refine AR (hK2 _ (AH fun K8 hK8=>sr U fun K9 hK9=>zq tb U (zl tb U U (zq tb U (dn hK9 U ?_)))))
  obtain⟨o11,h1,h0⟩:=Sh.BZ h0
  have M11 :∀(_:Unit),o11=Sum.inr ()→∀s,Wk 0 s ⟨26,Aa [],[]⟩→K8 s:=by
   intro _ hq s hw
   subst o11
   try dsimp only at h0
   refine hK8 _ (AN hw (zr tb U U ?_))
   replace h0:=Sh.AE h0
   subst r
   exact AU (xr (Ah (L:=[(4,(.bool true))]) (.same U)))
  refine Ab (Ay (σ:=Int) (fun n v=>CE p0 p1 n v=some o11) (fun t10=>⟨26,Aa [(0,(ls eI p0)),(1,(ls eI p1)),(12,(i64 (Sh.len p0))),(13,(i64 t10))],[]⟩) N 0 h1 (AG U) (fun _ hv=>by rw[CE] at hv;cases hv) ?_)
  rintro n t10 h1
  try dsimp only at h1 ⊢
  rw[CE] at h1
  refine zr tb U U (AH fun K14 hK14=>?_)
  refine ci h1 U ?_ ?_ <;> clear h1
  ·intro b15 h1
   refine AR (hK14 _ (AH fun K16 hK16=>Ab (zr tb U U (AH fun K18 hK18=>?_))))
   refine CC (by kernel_rfl) (by kernel_rfl) (by rfl) ?_
   iterate 2 refine yq tb rfl ?_
   refine bs h1 fun c19 gc19 h1=>yx A4 gc19 U U U ?_
   iterate 3 refine yq tb rfl ?_
   refine bs h1 fun c20 gc20 h1=>yx A4 gc20 U U U ?_
   iterate 2 refine yq tb rfl ?_
   refine Ax (hK18 _ ?_)
   refine ci h1 U ?_ ?_ <;> clear h1
   ·intro b21 h1
    have b22:decide (c19=c20)=false:=by simpa using b21
    refine zr tb U U ?_
    replace h1:=Sh.AE h1
    subst o11
    try dsimp only[id] at h0
    replace h0:=Sh.AE h0
    subst r
    exact AU (xr (Ah (L:=[(4,(.bool false))]) (.same U)))
   ·intro b21 h1
    have b24:decide (c19=c20)=true:=by simpa using b21
    exact AR (hK16 _ (AL U (zm tb 2 U (AA (xi (Sh.w (t10+1)) h1 (AG U))))))
  ·intro b15 h1
   exact A5 (M11 () (Sh.AE h1).symm _ (AG U))
theorem Ov {N:Nat} {p0:(List Ac)} {p1:Int} {p2:Int} {r:Int} (h0:HP N p0 p1 p2=some r):Ai Try.prog 123 [(ls AI p0),(i64 p1),(i64 p2)] [] (fun v st=>v=(i64 r)∧st=[]):=by
 unfold HP at h0
 refine ai Try.func123 U U U U (zr tb U U (AH fun K2 hK2=>sr U fun K3 hK3=>zq tb U (zl tb U U (zq tb U (dn hK3 U ?_)))))
 obtain⟨o5,h1,h0⟩:=Sh.BZ h0
 have M5 :∀(_:Unit),o5=Sum.inr ()→∀s,Wk 0 s ⟨35,Aa [],[]⟩→K2 s:=by
  intro _ hq s hw
  subst o5
  try dsimp only at h0
  refine hK2 _ (AN hw (zr tb U U ?_))
  replace h0:=Sh.AE h0
  subst r
  exact AU (xr (Ah (L:=[(6,(i64 (-1)))]) (.same U)))
 refine Ab (Ay (σ:=Int) (fun n v=>Dl p0 p1 p2 n v=some o5) (fun t4=>⟨35,Aa [(1,(i64 p1)),(2,(i64 p2)),(9,(ls AI p0)),(10,(i64 (Sh.len p0))),(11,(i64 t4))],[]⟩) N 0 h1 (AG U) (fun _ hv=>by rw[Dl] at hv;cases hv) ?_)
 rintro n t4 h1
 try dsimp only at h1 ⊢
 rw[Dl] at h1
 refine zr tb U U (AH fun K8 hK8=>?_)
 refine ci h1 U ?_ ?_ <;> clear h1
 ·intro b9 h1
  refine AR (hK8 _ (AH fun K10 hK10=>Ab (sr U fun K11 hK11=>zq tb U (bs h1 fun c12 gc12 h1=>zx ER gc12 U U U (zq tb U (A1 (m:=0) AM Eh U U (zq tb U (Az AM Ht U U U U U U (show 0+3≤3 by decide) rfl (dn hK11 U ?_)))))))))
  refine AH fun K13 hK13=>bs h1 fun o15 h2 h1=>?_
  have M15 :∀(t14:Bool),o15=t14→∀s,Wk 0 s ⟨35,Aa [(1,(i64 p1)),(2,(i64 p2)),(7,(i64 t4)),(9,(ls AI p0)),(10,(i64 (Sh.len p0))),(11,(i64 t4)),(31,(.bool t14))],[]⟩→K13 s:=by
   intro t14 hq s hw
   subst o15
   try dsimp only at h1
   refine hK13 _ (AN hw ?_)
   refine ci h1 U ?_ ?_ <;> clear h1
   ·intro b16 h1
    refine zr tb U U ?_
    replace h1:=Sh.AE h1
    subst o5
    try dsimp only[id] at h0
    replace h0:=Sh.AE h0
    subst r
    exact AU (xr (Ah (L:=[(6,(i64 (Sh.w (t4+1))))]) (.same U)))
   ·intro b16 h1
    exact AR (hK10 _ (AL U (zm tb 2 U (AA (xi (Sh.w (t4+1)) h1 (AG U))))))
  refine AL U (zm tb 2 U (zl tb U U (zm tb 2 U ?_)))
  rcases Sh.Am h2 with ⟨b18,h2⟩ | ⟨b18,h2⟩
  ·refine zg tb b18 U ?_
   iterate 3 refine zg tb b18 rfl ?_
   refine zt b18 U (zq tb U ?_)
   rcases Sh.Am h2 with ⟨b19,h2⟩ | ⟨b19,h2⟩
   ·refine zg tb b19 U ?_
    iterate 3 refine zg tb b19 rfl ?_
    exact zt b19 U (AA (M15 (decide (c12.to=p2)) (Sh.AE h2).symm _ (As _ U)))
   ·refine zs b19 U ?_
    iterate 3 refine zs b19 rfl ?_
    exact zf b19 U (AA (M15 false (Sh.AE h2).symm _ (As _ U)))
  ·refine zs b18 U ?_
   iterate 3 refine zs b18 rfl ?_
   refine zf b18 U (zq tb U ?_)
   iterate 4 refine zs rfl rfl ?_
   exact zf U U (AA (M15 false (Sh.AE h2).symm _ (As _ U)))
 ·intro b9 h1
  exact A5 (M5 () (Sh.AE h1).symm _ (AG U))
end Go.Proofs.Ytpahalfiiahddaa


