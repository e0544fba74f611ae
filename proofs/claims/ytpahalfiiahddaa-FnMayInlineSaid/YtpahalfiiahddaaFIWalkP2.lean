import Derived.Test.YtpahalfiiahddaaProg
import Derived.Test.YtpahalfiiahddaaGAbsXToSSDefs
import Derived.Test.YtpahalfiiahddaaGHADefsToFIDefs
import Derived.Test.YtpahalfiiahddaaFIWalkP1
namespace Go.Proofs.Ytpahalfiiahddaa
open Go Go.Abs RC
attribute [local irreducible] Go.Abs.Cw
set_option maxRecDepth 100000
set_option maxHeartbeats 4000000

noncomputable abbrev BG (z0:List Int) (z1:Int):Go.Abs.Row:=⟨0,88,2,[[(ls Dk z0),(i64 z1)]]⟩
noncomputable abbrev Cg:Go.Abs.Row:=⟨0,50,3,[[(i64 0),(i64 0),.zc]]⟩
noncomputable abbrev HT:Go.Abs.Row:=⟨0,31,2,[[.zc,.zc]]⟩
noncomputable abbrev LL (z0:List Ac):Go.Abs.Row:=⟨0,31,2,[[(ls AI z0),.zc]]⟩
noncomputable abbrev Vu (z0:Int) (z1:Int) (z2:List AP):Go.Abs.Row:=⟨0,50,3,[[(i64 z0),(i64 z1),(ls AD z2)]]⟩
theorem Z0:Gt Try.prog 31=true:=by kernel_rfl
theorem Za:Hx Try.prog 31=some [(0,1),(1,1)]:=by kernel_rfl
theorem XT:Hf Try.prog 50 0=some 0:=by kernel_rfl
theorem Uz:Hf Try.prog 50 1=some 1:=by kernel_rfl
theorem Ut:Hf Try.prog 50 2=some 2:=by kernel_rfl
theorem JW:Aq Try.prog 107=true:=by kernel_rfl
theorem YR:Aq Try.prog 124=true:=by kernel_rfl
theorem Xu:Aq Try.prog 84=true:=by kernel_rfl
theorem Xo:Aq Try.prog 86=true:=by kernel_rfl
theorem Ic:Aq Try.prog 87=true:=by kernel_rfl
theorem Zz:Aq Try.prog 88=true:=by kernel_rfl
theorem R9:DG Try.prog 28=true:=by kernel_rfl
theorem NU:DG Try.prog 29=true:=by kernel_rfl
theorem R6:DG Try.prog 48=true:=by kernel_rfl
theorem Xr:EN Try.prog 48=some (false,1):=by kernel_rfl
theorem O9:Gr Try.prog 31=some [.zc,.zc]:=by kernel_rfl

theorem LS {N:Nat} {s0_0:(List Int)} {s0_1:Int} {r:Af×Int} (h0:Ff N s0_0 s0_1=some r):Ai Try.prog 55 [(.ptr 0 0 0 0)] [(BG s0_0 s0_1)] (fun v st=>v=(.agg [(ls AI r.1.decls),(ow 1 0 r.1.funcs)])∧st=[(BG s0_0 r.2),(ro 0 52 5 AJ r.1.funcs)]):=by
 unfold Ff at h0
 refine Ai.wk (r0:=(.agg [(ls AI r.1.decls),(ow 1 0 r.1.funcs)])) (st0:=[(BG s0_0 r.2),(ro 0 52 5 AJ r.1.funcs),⟨0,31,2,[[(ls AI r.1.decls),(ow 1 0 r.1.funcs)]]⟩]) ?_ (EG (L:=[(0,(.agg [(ls AI r.1.decls),(ow 1 0 r.1.funcs)]))]) (st':=[(BG s0_0 r.2),(ro 0 52 5 AJ r.1.funcs)]) [0,1] U (by decide) rfl U (.raw U (.pure (AB fun _=>U) trivial)) (.same U))
 refine ai Try.func55 U U U U (sr U fun K1 hK1=>A1 (m:=1) AM O9 U U (dn hK1 U (sr U fun K2 hK2=>zq tb U (bs h0 fun q3 gq3 h0=>?_))))
 refine Hk (rowsP:=[(BG s0_0 s0_1)]) (rows0:=[(BG s0_0 s0_1)]) (rows1:=[(BG s0_0 q3.2)]) (rows2:=[(ro 0 80 3 AI q3.1)]) (rows1':=[(BG s0_0 q3.2)]) (rows2':=[(ro 0 80 3 AI q3.1)]) (st':=[(BG s0_0 q3.2),HT,(ro 0 80 3 AI q3.1)]) (v':=(ow 2 0 q3.1)) [0] AM Xo (JP gq3) rfl (by decide) rfl U (.raw U U .nil) rfl U (.raw U U .nil) (.pure (AB fun _=>U) .nil) rfl U ?_
 refine zz (.agg [(ow 2 0 q3.1),.zc]) (EF Z0 Za O9 U U) rfl (A1 (m:=3) AM O9 U U (Ad (Wk.A7 (L:=[(0,(.ptr 0 0 0 0)),(2,(.ptr 1 0 0 0)),(3,(.ptr 3 0 0 0)),(12,(.agg [(ls AI q3.1),.zc]))]) (st':=[(BG s0_0 q3.2),HT,⟨1,80,3,[]⟩,HT]) (id:=2) rfl (show 1≤2 by decide) (AB fun _=>U) ⟨.rfl,.rfl,.rfl,(.agg ⟨(.Gj U),.rfl,trivial⟩),trivial⟩ U) (Az AM FA U U U U U U (show 0+2≤2 by decide) rfl (dn hK2 U (sr U fun K4 hK4=>?_)))))
 refine A3 (m:=4) (l:=[(1:Int)]) (enc:=eI) AM A4 (by decide) rfl U U U U U ?_
 refine Ad (Wk.A7 (L:=[(0,(.ptr 0 0 0 0)),(2,(.ptr 1 0 0 0)),(3,(.ptr 3 0 0 0)),(13,(ls eI [(1:Int)]))]) (st':=[(BG s0_0 q3.2),HT,⟨1,80,3,[]⟩,(LL q3.1),⟨1,3,1,[]⟩]) (id:=4) rfl (show 1≤4 by decide) (AB fun _=>U) ⟨.rfl,.rfl,.rfl,(.A7 U),trivial⟩ U) (bs h0 fun q5 gq5 h0=>zc (v':=(.agg [(ls eI q5.params),(i64 q5.result),(i64 q5.body.op),(i64 q5.body.num),(ls AD q5.body.kids)])) Ic (Ca gq5) rfl U U ?_)
 refine A3 (m:=5) (l:=[(1:Int),1]) (enc:=eI) AM A4 (by decide) rfl U U U U U ?_
 refine Ad (Wk.A7 (L:=[(0,(.ptr 0 0 0 0)),(2,(.ptr 1 0 0 0)),(3,(.ptr 3 0 0 0)),(14,(.agg [(ls eI q5.params),(i64 q5.result),(i64 q5.body.op),(i64 q5.body.num),(ls AD q5.body.kids)])),(15,(ls eI [(1:Int),1]))]) (st':=[(BG s0_0 q3.2),HT,⟨1,80,3,[]⟩,(LL q3.1),⟨1,3,1,[]⟩,⟨1,3,1,[]⟩]) (id:=5) rfl (show 1≤5 by decide) (AB fun _=>U) ⟨.rfl,.rfl,.rfl,.rfl,(.A7 U),trivial⟩ U) (bs h0 fun q6 gq6 h0=>zc (v':=(.agg [(ls eI q6.params),(i64 q6.result),(i64 q6.body.op),(i64 q6.body.num),(ls AD q6.body.kids)])) Ic (Ca gq6) rfl U U ?_)
 refine A3 (m:=6) (l:=[(1:Int)]) (enc:=eI) AM A4 (by decide) rfl U U U U U ?_
 refine Ad (Wk.A7 (L:=[(0,(.ptr 0 0 0 0)),(2,(.ptr 1 0 0 0)),(3,(.ptr 3 0 0 0)),(14,(.agg [(ls eI q5.params),(i64 q5.result),(i64 q5.body.op),(i64 q5.body.num),(ls AD q5.body.kids)])),(16,(.agg [(ls eI q6.params),(i64 q6.result),(i64 q6.body.op),(i64 q6.body.num),(ls AD q6.body.kids)])),(17,(ls eI [(1:Int)]))]) (st':=[(BG s0_0 q3.2),HT,⟨1,80,3,[]⟩,(LL q3.1),⟨1,3,1,[]⟩,⟨1,3,1,[]⟩,⟨1,3,1,[]⟩]) (id:=6) rfl (show 1≤6 by decide) (AB fun _=>U) ⟨.rfl,.rfl,.rfl,.rfl,.rfl,(.A7 U),trivial⟩ U) (bs h0 fun q7 gq7 h0=>zc (v':=(.agg [(ls eI q7.params),(i64 q7.result),(i64 q7.body.op),(i64 q7.body.num),(ls AD q7.body.kids)])) Ic (Ca gq7) rfl U U ?_)
 refine A3 (m:=7) (l:=[(1:Int),0]) (enc:=eI) AM A4 (by decide) rfl U U U U U ?_
 refine Ad (Wk.A7 (L:=[(0,(.ptr 0 0 0 0)),(2,(.ptr 1 0 0 0)),(3,(.ptr 3 0 0 0)),(14,(.agg [(ls eI q5.params),(i64 q5.result),(i64 q5.body.op),(i64 q5.body.num),(ls AD q5.body.kids)])),(16,(.agg [(ls eI q6.params),(i64 q6.result),(i64 q6.body.op),(i64 q6.body.num),(ls AD q6.body.kids)])),(18,(.agg [(ls eI q7.params),(i64 q7.result),(i64 q7.body.op),(i64 q7.body.num),(ls AD q7.body.kids)])),(19,(ls eI [(1:Int),0]))]) (st':=[(BG s0_0 q3.2),HT,⟨1,80,3,[]⟩,(LL q3.1),⟨1,3,1,[]⟩,⟨1,3,1,[]⟩,⟨1,3,1,[]⟩,⟨1,3,1,[]⟩]) (id:=7) rfl (show 1≤7 by decide) (AB fun _=>U) ⟨.rfl,.rfl,.rfl,.rfl,.rfl,.rfl,(.A7 U),trivial⟩ U) (bs h0 fun q8 gq8 h0=>zc (v':=(.agg [(ls eI q8.params),(i64 q8.result),(i64 q8.body.op),(i64 q8.body.num),(ls AD q8.body.kids)])) Ic (Ca gq8) rfl U U ?_)
 refine A3 (m:=8) (l:=[(2:Int),1]) (enc:=eI) AM A4 (by decide) rfl U U U U U ?_
 refine Ad (Wk.A7 (L:=[(0,(.ptr 0 0 0 0)),(2,(.ptr 1 0 0 0)),(3,(.ptr 3 0 0 0)),(14,(.agg [(ls eI q5.params),(i64 q5.result),(i64 q5.body.op),(i64 q5.body.num),(ls AD q5.body.kids)])),(16,(.agg [(ls eI q6.params),(i64 q6.result),(i64 q6.body.op),(i64 q6.body.num),(ls AD q6.body.kids)])),(18,(.agg [(ls eI q7.params),(i64 q7.result),(i64 q7.body.op),(i64 q7.body.num),(ls AD q7.body.kids)])),(20,(.agg [(ls eI q8.params),(i64 q8.result),(i64 q8.body.op),(i64 q8.body.num),(ls AD q8.body.kids)])),(21,(ls eI [(2:Int),1]))]) (st':=[(BG s0_0 q3.2),HT,⟨1,80,3,[]⟩,(LL q3.1),⟨1,3,1,[]⟩,⟨1,3,1,[]⟩,⟨1,3,1,[]⟩,⟨1,3,1,[]⟩,⟨1,3,1,[]⟩]) (id:=8) rfl (show 1≤8 by decide) (AB fun _=>U) ⟨.rfl,.rfl,.rfl,.rfl,.rfl,.rfl,.rfl,(.A7 U),trivial⟩ U) (bs h0 fun q9 gq9 h0=>zc (v':=(.agg [(ls eI q9.params),(i64 q9.result),(i64 q9.body.op),(i64 q9.body.num),(ls AD q9.body.kids)])) Ic (Ca gq9) rfl U U ?_)
 refine A3 (m:=9) (l:=[(1:Int),1]) (enc:=eI) AM A4 (by decide) rfl U U U U U ?_
 refine Ad (Wk.A7 (L:=[(0,(.ptr 0 0 0 0)),(2,(.ptr 1 0 0 0)),(3,(.ptr 3 0 0 0)),(14,(.agg [(ls eI q5.params),(i64 q5.result),(i64 q5.body.op),(i64 q5.body.num),(ls AD q5.body.kids)])),(16,(.agg [(ls eI q6.params),(i64 q6.result),(i64 q6.body.op),(i64 q6.body.num),(ls AD q6.body.kids)])),(18,(.agg [(ls eI q7.params),(i64 q7.result),(i64 q7.body.op),(i64 q7.body.num),(ls AD q7.body.kids)])),(20,(.agg [(ls eI q8.params),(i64 q8.result),(i64 q8.body.op),(i64 q8.body.num),(ls AD q8.body.kids)])),(22,(.agg [(ls eI q9.params),(i64 q9.result),(i64 q9.body.op),(i64 q9.body.num),(ls AD q9.body.kids)])),(23,(ls eI [(1:Int),1]))]) (st':=[(BG s0_0 q3.2),HT,⟨1,80,3,[]⟩,(LL q3.1),⟨1,3,1,[]⟩,⟨1,3,1,[]⟩,⟨1,3,1,[]⟩,⟨1,3,1,[]⟩,⟨1,3,1,[]⟩,⟨1,3,1,[]⟩]) (id:=9) rfl (show 1≤9 by decide) (AB fun _=>U) ⟨.rfl,.rfl,.rfl,.rfl,.rfl,.rfl,.rfl,.rfl,(.A7 U),trivial⟩ U) (bs h0 fun q10 gq10 h0=>zc (v':=(.agg [(ls eI q10.params),(i64 q10.result),(i64 q10.body.op),(i64 q10.body.num),(ls AD q10.body.kids)])) Ic (Ca gq10) rfl U U ?_)
 refine A3 (m:=10) (l:=[q5,q6,q7,q8,q9,q10]) (enc:=AJ) AM DD (by decide) rfl U U U U U ?_
 refine zq tb U (dn hK4 U (sr U fun K11 hK11=>?_))
 refine A3 (m:=11) (l:=[(3:Int)]) (enc:=eI) AM A4 (by decide) rfl U U U U U ?_
 refine Ad (Wk.A7 (L:=[(0,(.ptr 0 0 0 0)),(2,(.ptr 1 0 0 0)),(3,(.ptr 3 0 0 0)),(4,(ow 10 0 [q5,q6,q7,q8,q9,q10])),(26,(ls eI [(3:Int)]))]) (st':=[(BG s0_0 q3.2),HT,⟨1,80,3,[]⟩,(LL q3.1),⟨1,3,1,[]⟩,⟨1,3,1,[]⟩,⟨1,3,1,[]⟩,⟨1,3,1,[]⟩,⟨1,3,1,[]⟩,⟨1,3,1,[]⟩,(ro 0 52 5 AJ [q5,q6,q7,q8,q9,q10]),⟨1,3,1,[]⟩]) (id:=11) rfl (show 1≤11 by decide) (AB fun _=>U) ⟨.rfl,.rfl,.rfl,.rfl,(.A7 U),trivial⟩ U) (bs h0 fun q12 gq12 h0=>zc (v':=(.agg [(ls eI q12.params),(i64 q12.result),(i64 q12.body.op),(i64 q12.body.num),(ls AD q12.body.kids)])) Ic (Ca gq12) rfl U U ?_)
 refine A3 (m:=12) (l:=[(0:Int)]) (enc:=eI) AM A4 (by decide) rfl U U U U U ?_
 refine Ad (Wk.A7 (L:=[(0,(.ptr 0 0 0 0)),(2,(.ptr 1 0 0 0)),(3,(.ptr 3 0 0 0)),(4,(ow 10 0 [q5,q6,q7,q8,q9,q10])),(27,(.agg [(ls eI q12.params),(i64 q12.result),(i64 q12.body.op),(i64 q12.body.num),(ls AD q12.body.kids)])),(28,(ls eI [(0:Int)]))]) (st':=[(BG s0_0 q3.2),HT,⟨1,80,3,[]⟩,(LL q3.1),⟨1,3,1,[]⟩,⟨1,3,1,[]⟩,⟨1,3,1,[]⟩,⟨1,3,1,[]⟩,⟨1,3,1,[]⟩,⟨1,3,1,[]⟩,(ro 0 52 5 AJ [q5,q6,q7,q8,q9,q10]),⟨1,3,1,[]⟩,⟨1,3,1,[]⟩]) (id:=12) rfl (show 1≤12 by decide) (AB fun _=>U) ⟨.rfl,.rfl,.rfl,.rfl,.rfl,(.A7 U),trivial⟩ U) (bs h0 fun q13 gq13 h0=>zc (v':=(.agg [(ls eI q13.params),(i64 q13.result),(i64 q13.body.op),(i64 q13.body.num),(ls AD q13.body.kids)])) Ic (Ca gq13) rfl U U ?_)
 refine A3 (m:=13) (l:=[(0:Int),1]) (enc:=eI) AM A4 (by decide) rfl U U U U U ?_
 refine Ad (Wk.A7 (L:=[(0,(.ptr 0 0 0 0)),(2,(.ptr 1 0 0 0)),(3,(.ptr 3 0 0 0)),(4,(ow 10 0 [q5,q6,q7,q8,q9,q10])),(27,(.agg [(ls eI q12.params),(i64 q12.result),(i64 q12.body.op),(i64 q12.body.num),(ls AD q12.body.kids)])),(29,(.agg [(ls eI q13.params),(i64 q13.result),(i64 q13.body.op),(i64 q13.body.num),(ls AD q13.body.kids)])),(30,(ls eI [(0:Int),1]))]) (st':=[(BG s0_0 q3.2),HT,⟨1,80,3,[]⟩,(LL q3.1),⟨1,3,1,[]⟩,⟨1,3,1,[]⟩,⟨1,3,1,[]⟩,⟨1,3,1,[]⟩,⟨1,3,1,[]⟩,⟨1,3,1,[]⟩,(ro 0 52 5 AJ [q5,q6,q7,q8,q9,q10]),⟨1,3,1,[]⟩,⟨1,3,1,[]⟩,⟨1,3,1,[]⟩]) (id:=13) rfl (show 1≤13 by decide) (AB fun _=>U) ⟨.rfl,.rfl,.rfl,.rfl,.rfl,.rfl,(.A7 U),trivial⟩ U) (bs h0 fun q14 gq14 h0=>zc (v':=(.agg [(ls eI q14.params),(i64 q14.result),(i64 q14.body.op),(i64 q14.body.num),(ls AD q14.body.kids)])) Ic (Ca gq14) rfl U U ?_)
 refine A3 (m:=14) (l:=[(3:Int),0]) (enc:=eI) AM A4 (by decide) rfl U U U U U ?_
 refine Ad (Wk.A7 (L:=[(0,(.ptr 0 0 0 0)),(2,(.ptr 1 0 0 0)),(3,(.ptr 3 0 0 0)),(4,(ow 10 0 [q5,q6,q7,q8,q9,q10])),(27,(.agg [(ls eI q12.params),(i64 q12.result),(i64 q12.body.op),(i64 q12.body.num),(ls AD q12.body.kids)])),(29,(.agg [(ls eI q13.params),(i64 q13.result),(i64 q13.body.op),(i64 q13.body.num),(ls AD q13.body.kids)])),(31,(.agg [(ls eI q14.params),(i64 q14.result),(i64 q14.body.op),(i64 q14.body.num),(ls AD q14.body.kids)])),(32,(ls eI [(3:Int),0]))]) (st':=[(BG s0_0 q3.2),HT,⟨1,80,3,[]⟩,(LL q3.1),⟨1,3,1,[]⟩,⟨1,3,1,[]⟩,⟨1,3,1,[]⟩,⟨1,3,1,[]⟩,⟨1,3,1,[]⟩,⟨1,3,1,[]⟩,(ro 0 52 5 AJ [q5,q6,q7,q8,q9,q10]),⟨1,3,1,[]⟩,⟨1,3,1,[]⟩,⟨1,3,1,[]⟩,⟨1,3,1,[]⟩]) (id:=14) rfl (show 1≤14 by decide) (AB fun _=>U) ⟨.rfl,.rfl,.rfl,.rfl,.rfl,.rfl,.rfl,(.A7 U),trivial⟩ U) (bs h0 fun q15 gq15 h0=>zc (v':=(.agg [(ls eI q15.params),(i64 q15.result),(i64 q15.body.op),(i64 q15.body.num),(ls AD q15.body.kids)])) Ic (Ca gq15) rfl U U ?_)
 refine A3 (m:=15) (l:=[(3:Int)]) (enc:=eI) AM A4 (by decide) rfl U U U U U ?_
 refine Ad (Wk.A7 (L:=[(0,(.ptr 0 0 0 0)),(2,(.ptr 1 0 0 0)),(3,(.ptr 3 0 0 0)),(4,(ow 10 0 [q5,q6,q7,q8,q9,q10])),(27,(.agg [(ls eI q12.params),(i64 q12.result),(i64 q12.body.op),(i64 q12.body.num),(ls AD q12.body.kids)])),(29,(.agg [(ls eI q13.params),(i64 q13.result),(i64 q13.body.op),(i64 q13.body.num),(ls AD q13.body.kids)])),(31,(.agg [(ls eI q14.params),(i64 q14.result),(i64 q14.body.op),(i64 q14.body.num),(ls AD q14.body.kids)])),(33,(.agg [(ls eI q15.params),(i64 q15.result),(i64 q15.body.op),(i64 q15.body.num),(ls AD q15.body.kids)])),(34,(ls eI [(3:Int)]))]) (st':=[(BG s0_0 q3.2),HT,⟨1,80,3,[]⟩,(LL q3.1),⟨1,3,1,[]⟩,⟨1,3,1,[]⟩,⟨1,3,1,[]⟩,⟨1,3,1,[]⟩,⟨1,3,1,[]⟩,⟨1,3,1,[]⟩,(ro 0 52 5 AJ [q5,q6,q7,q8,q9,q10]),⟨1,3,1,[]⟩,⟨1,3,1,[]⟩,⟨1,3,1,[]⟩,⟨1,3,1,[]⟩,⟨1,3,1,[]⟩]) (id:=15) rfl (show 1≤15 by decide) (AB fun _=>U) ⟨.rfl,.rfl,.rfl,.rfl,.rfl,.rfl,.rfl,.rfl,(.A7 U),trivial⟩ U) (bs h0 fun q16 gq16 h0=>zc (v':=(.agg [(ls eI q16.params),(i64 q16.result),(i64 q16.body.op),(i64 q16.body.num),(ls AD q16.body.kids)])) Ic (Ca gq16) rfl U U ?_)
 refine A3 (m:=16) (l:=[(1:Int),3,0]) (enc:=eI) AM A4 (by decide) rfl U U U U U ?_
 refine Ad (Wk.A7 (L:=[(0,(.ptr 0 0 0 0)),(2,(.ptr 1 0 0 0)),(3,(.ptr 3 0 0 0)),(4,(ow 10 0 [q5,q6,q7,q8,q9,q10])),(27,(.agg [(ls eI q12.params),(i64 q12.result),(i64 q12.body.op),(i64 q12.body.num),(ls AD q12.body.kids)])),(29,(.agg [(ls eI q13.params),(i64 q13.result),(i64 q13.body.op),(i64 q13.body.num),(ls AD q13.body.kids)])),(31,(.agg [(ls eI q14.params),(i64 q14.result),(i64 q14.body.op),(i64 q14.body.num),(ls AD q14.body.kids)])),(33,(.agg [(ls eI q15.params),(i64 q15.result),(i64 q15.body.op),(i64 q15.body.num),(ls AD q15.body.kids)])),(35,(.agg [(ls eI q16.params),(i64 q16.result),(i64 q16.body.op),(i64 q16.body.num),(ls AD q16.body.kids)])),(36,(ls eI [(1:Int),3,0]))]) (st':=[(BG s0_0 q3.2),HT,⟨1,80,3,[]⟩,(LL q3.1),⟨1,3,1,[]⟩,⟨1,3,1,[]⟩,⟨1,3,1,[]⟩,⟨1,3,1,[]⟩,⟨1,3,1,[]⟩,⟨1,3,1,[]⟩,(ro 0 52 5 AJ [q5,q6,q7,q8,q9,q10]),⟨1,3,1,[]⟩,⟨1,3,1,[]⟩,⟨1,3,1,[]⟩,⟨1,3,1,[]⟩,⟨1,3,1,[]⟩,⟨1,3,1,[]⟩]) (id:=16) rfl (show 1≤16 by decide) (AB fun _=>U) ⟨.rfl,.rfl,.rfl,.rfl,.rfl,.rfl,.rfl,.rfl,.rfl,(.A7 U),trivial⟩ U) (bs h0 fun q17 gq17 h0=>zc (v':=(.agg [(ls eI q17.params),(i64 q17.result),(i64 q17.body.op),(i64 q17.body.num),(ls AD q17.body.kids)])) Ic (Ca gq17) rfl U U ?_)
 refine A3 (m:=17) (l:=[q12,q13,q14,q15,q16,q17]) (enc:=AJ) AM DD (by decide) rfl U U U U U ?_
 refine zq tb U (dn hK11 U (sr U fun K18 hK18=>?_))
 refine A3 (m:=18) (l:=[(0:Int)]) (enc:=eI) AM A4 (by decide) rfl U U U U U ?_
 refine Ad (Wk.A7 (L:=[(0,(.ptr 0 0 0 0)),(2,(.ptr 1 0 0 0)),(3,(.ptr 3 0 0 0)),(4,(ow 10 0 [q5,q6,q7,q8,q9,q10])),(5,(ow 17 0 [q12,q13,q14,q15,q16,q17])),(39,(ls eI [(0:Int)]))]) (st':=[(BG s0_0 q3.2),HT,⟨1,80,3,[]⟩,(LL q3.1),⟨1,3,1,[]⟩,⟨1,3,1,[]⟩,⟨1,3,1,[]⟩,⟨1,3,1,[]⟩,⟨1,3,1,[]⟩,⟨1,3,1,[]⟩,(ro 0 52 5 AJ [q5,q6,q7,q8,q9,q10]),⟨1,3,1,[]⟩,⟨1,3,1,[]⟩,⟨1,3,1,[]⟩,⟨1,3,1,[]⟩,⟨1,3,1,[]⟩,⟨1,3,1,[]⟩,(ro 0 52 5 AJ [q12,q13,q14,q15,q16,q17]),⟨1,3,1,[]⟩]) (id:=18) rfl (show 1≤18 by decide) (AB fun _=>U) ⟨.rfl,.rfl,.rfl,.rfl,.rfl,(.A7 U),trivial⟩ U) (bs h0 fun q19 gq19 h0=>zc (v':=(.agg [(ls eI q19.params),(i64 q19.result),(i64 q19.body.op),(i64 q19.body.num),(ls AD q19.body.kids)])) Ic (Ca gq19) rfl U U ?_)
 refine A3 (m:=19) (l:=[(0:Int),0]) (enc:=eI) AM A4 (by decide) rfl U U U U U ?_
 refine Ad (Wk.A7 (L:=[(0,(.ptr 0 0 0 0)),(2,(.ptr 1 0 0 0)),(3,(.ptr 3 0 0 0)),(4,(ow 10 0 [q5,q6,q7,q8,q9,q10])),(5,(ow 17 0 [q12,q13,q14,q15,q16,q17])),(40,(.agg [(ls eI q19.params),(i64 q19.result),(i64 q19.body.op),(i64 q19.body.num),(ls AD q19.body.kids)])),(41,(ls eI [(0:Int),0]))]) (st':=[(BG s0_0 q3.2),HT,⟨1,80,3,[]⟩,(LL q3.1),⟨1,3,1,[]⟩,⟨1,3,1,[]⟩,⟨1,3,1,[]⟩,⟨1,3,1,[]⟩,⟨1,3,1,[]⟩,⟨1,3,1,[]⟩,(ro 0 52 5 AJ [q5,q6,q7,q8,q9,q10]),⟨1,3,1,[]⟩,⟨1,3,1,[]⟩,⟨1,3,1,[]⟩,⟨1,3,1,[]⟩,⟨1,3,1,[]⟩,⟨1,3,1,[]⟩,(ro 0 52 5 AJ [q12,q13,q14,q15,q16,q17]),⟨1,3,1,[]⟩,⟨1,3,1,[]⟩]) (id:=19) rfl (show 1≤19 by decide) (AB fun _=>U) ⟨.rfl,.rfl,.rfl,.rfl,.rfl,.rfl,(.A7 U),trivial⟩ U) (bs h0 fun q20 gq20 h0=>zc (v':=(.agg [(ls eI q20.params),(i64 q20.result),(i64 q20.body.op),(i64 q20.body.num),(ls AD q20.body.kids)])) Ic (Ca gq20) rfl U U ?_)
 refine A3 (m:=20) (l:=[(1:Int),0]) (enc:=eI) AM A4 (by decide) rfl U U U U U ?_
 refine Ad (Wk.A7 (L:=[(0,(.ptr 0 0 0 0)),(2,(.ptr 1 0 0 0)),(3,(.ptr 3 0 0 0)),(4,(ow 10 0 [q5,q6,q7,q8,q9,q10])),(5,(ow 17 0 [q12,q13,q14,q15,q16,q17])),(40,(.agg [(ls eI q19.params),(i64 q19.result),(i64 q19.body.op),(i64 q19.body.num),(ls AD q19.body.kids)])),(42,(.agg [(ls eI q20.params),(i64 q20.result),(i64 q20.body.op),(i64 q20.body.num),(ls AD q20.body.kids)])),(43,(ls eI [(1:Int),0]))]) (st':=[(BG s0_0 q3.2),HT,⟨1,80,3,[]⟩,(LL q3.1),⟨1,3,1,[]⟩,⟨1,3,1,[]⟩,⟨1,3,1,[]⟩,⟨1,3,1,[]⟩,⟨1,3,1,[]⟩,⟨1,3,1,[]⟩,(ro 0 52 5 AJ [q5,q6,q7,q8,q9,q10]),⟨1,3,1,[]⟩,⟨1,3,1,[]⟩,⟨1,3,1,[]⟩,⟨1,3,1,[]⟩,⟨1,3,1,[]⟩,⟨1,3,1,[]⟩,(ro 0 52 5 AJ [q12,q13,q14,q15,q16,q17]),⟨1,3,1,[]⟩,⟨1,3,1,[]⟩,⟨1,3,1,[]⟩]) (id:=20) rfl (show 1≤20 by decide) (AB fun _=>U) ⟨.rfl,.rfl,.rfl,.rfl,.rfl,.rfl,.rfl,(.A7 U),trivial⟩ U) (bs h0 fun q21 gq21 h0=>zc (v':=(.agg [(ls eI q21.params),(i64 q21.result),(i64 q21.body.op),(i64 q21.body.num),(ls AD q21.body.kids)])) Ic (Ca gq21) rfl U U ?_)
 refine A3 (m:=21) (l:=[(0:Int)]) (enc:=eI) AM A4 (by decide) rfl U U U U U ?_
 refine Ad (Wk.A7 (L:=[(0,(.ptr 0 0 0 0)),(2,(.ptr 1 0 0 0)),(3,(.ptr 3 0 0 0)),(4,(ow 10 0 [q5,q6,q7,q8,q9,q10])),(5,(ow 17 0 [q12,q13,q14,q15,q16,q17])),(40,(.agg [(ls eI q19.params),(i64 q19.result),(i64 q19.body.op),(i64 q19.body.num),(ls AD q19.body.kids)])),(42,(.agg [(ls eI q20.params),(i64 q20.result),(i64 q20.body.op),(i64 q20.body.num),(ls AD q20.body.kids)])),(44,(.agg [(ls eI q21.params),(i64 q21.result),(i64 q21.body.op),(i64 q21.body.num),(ls AD q21.body.kids)])),(45,(ls eI [(0:Int)]))]) (st':=[(BG s0_0 q3.2),HT,⟨1,80,3,[]⟩,(LL q3.1),⟨1,3,1,[]⟩,⟨1,3,1,[]⟩,⟨1,3,1,[]⟩,⟨1,3,1,[]⟩,⟨1,3,1,[]⟩,⟨1,3,1,[]⟩,(ro 0 52 5 AJ [q5,q6,q7,q8,q9,q10]),⟨1,3,1,[]⟩,⟨1,3,1,[]⟩,⟨1,3,1,[]⟩,⟨1,3,1,[]⟩,⟨1,3,1,[]⟩,⟨1,3,1,[]⟩,(ro 0 52 5 AJ [q12,q13,q14,q15,q16,q17]),⟨1,3,1,[]⟩,⟨1,3,1,[]⟩,⟨1,3,1,[]⟩,⟨1,3,1,[]⟩]) (id:=21) rfl (show 1≤21 by decide) (AB fun _=>U) ⟨.rfl,.rfl,.rfl,.rfl,.rfl,.rfl,.rfl,.rfl,(.A7 U),trivial⟩ U) (bs h0 fun q22 gq22 h0=>zc (v':=(.agg [(ls eI q22.params),(i64 q22.result),(i64 q22.body.op),(i64 q22.body.num),(ls AD q22.body.kids)])) Ic (Ca gq22) rfl U U ?_)
 refine A3 (m:=22) (l:=[q19,q20,q21,q22]) (enc:=AJ) AM DD (by decide) rfl U U U U U ?_
 refine zq tb U (dn hK18 U (AH fun K23 hK23=>?_))
 refine AN (CA (L:=[(0,(.ptr 0 0 0 0)),(2,(.ptr 1 0 0 0)),(3,(.ptr 3 0 0 0)),(4,(ow 10 0 [q5,q6,q7,q8,q9,q10])),(5,(ow 17 0 [q12,q13,q14,q15,q16,q17])),(6,(ow 22 0 [q19,q20,q21,q22]))]) (st':=[(BG s0_0 q3.2),HT,⟨0,80,3,[]⟩,(LL q3.1),⟨0,3,1,[]⟩,⟨0,3,1,[]⟩,⟨0,3,1,[]⟩,⟨0,3,1,[]⟩,⟨0,3,1,[]⟩,⟨0,3,1,[]⟩,(ro 0 52 5 AJ [q5,q6,q7,q8,q9,q10]),⟨0,3,1,[]⟩,⟨0,3,1,[]⟩,⟨0,3,1,[]⟩,⟨0,3,1,[]⟩,⟨0,3,1,[]⟩,⟨0,3,1,[]⟩,(ro 0 52 5 AJ [q12,q13,q14,q15,q16,q17]),⟨0,3,1,[]⟩,⟨0,3,1,[]⟩,⟨0,3,1,[]⟩,⟨0,3,1,[]⟩,(ro 0 52 5 AJ [q19,q20,q21,q22])]) (.raw U U U (.raw U U U (.pure U (by intro x hx;cases hx) (.raw U U U (.pure U (by intro x hx;cases hx) (.pure U (by intro x hx;cases hx) (.pure U (by intro x hx;cases hx) (.pure U (by intro x hx;cases hx) (.pure U (by intro x hx;cases hx) (.pure U (by intro x hx;cases hx) (.pure U (AB fun _=>U) (.pure U (by intro x hx;cases hx) (.pure U (by intro x hx;cases hx) (.pure U (by intro x hx;cases hx) (.pure U (by intro x hx;cases hx) (.pure U (by intro x hx;cases hx) (.pure U (by intro x hx;cases hx) (.pure U (AB fun _=>U) (.pure U (by intro x hx;cases hx) (.pure U (by intro x hx;cases hx) (.pure U (by intro x hx;cases hx) (.pure U (by intro x hx;cases hx) (.pure U (AB fun _=>U) .nil))))))))))))))))))))))) (.same U)) ?_
 refine BO [HT,⟨0,80,3,[]⟩,(LL q3.1),⟨0,3,1,[]⟩,⟨0,3,1,[]⟩,⟨0,3,1,[]⟩,⟨0,3,1,[]⟩,⟨0,3,1,[]⟩,⟨0,3,1,[]⟩,(ro 0 52 5 AJ [q5,q6,q7,q8,q9,q10]),⟨0,3,1,[]⟩,⟨0,3,1,[]⟩,⟨0,3,1,[]⟩,⟨0,3,1,[]⟩,⟨0,3,1,[]⟩,⟨0,3,1,[]⟩,(ro 0 52 5 AJ [q12,q13,q14,q15,q16,q17]),⟨0,3,1,[]⟩,⟨0,3,1,[]⟩,⟨0,3,1,[]⟩,⟨0,3,1,[]⟩,(ro 0 52 5 AJ [q19,q20,q21,q22])] 23 (by kernel_rfl) (by kernel_rfl) (by kernel_rfl) (by rfl) ?_
 refine D9 AM (fun x0 zz=>E9 (l:=([]:List Int)) (enc:=eI) AM A4 (by decide) rfl U U U U (AB fun _=>U) (Ax U)) ?_
 refine bs h0 fun q24 gq24 h0=>D9 AM (fun x0 zz=>BS (v:=(.agg [(ls eI q24.params),(i64 q24.result),(i64 q24.body.op),(i64 q24.body.num),(ls AD q24.body.kids)])) AM Ic (Ca gq24) rfl U U (Ax U)) (BD (ow 10 0 [q5,q6,q7,q8,q9,q10]) AM U (fun _ _=>BL U) (BD (.ptr 0 0 0 0) AM U (fun _ _=>BL U) (BD (ow 10 0 [q5,q6,q7,q8,q9,q10]) AM U (fun _ _=>BL U) (BD (i64 (Sh.len [q5,q6,q7,q8,q9,q10])) AM U (fun _ _=>CW NU U U U) (bs h0 fun q25 gq25 h0=>?_)))))
 refine E2 (rows0:=[(BG s0_0 q3.2)]) (rows1:=[(BG s0_0 q25.2)]) (v':=(i64 q25.1)) (y0:=(BG s0_0 q25.2)) [0] AM Ez (Av gq25) rfl (by decide) rfl U (.raw U U .nil) rfl U (fun _=>(.raw U U .nil)) (fun _=>U) rfl ?_
 refine bs h0 fun c26 gc26 h0=>BD (.ptr 10 0 (Int.toNat q25.1) 0) AM U (fun _ _=>Bn DD U U U U gc26) (BD (.agg [(ls eI c26.params),(i64 c26.result),(i64 c26.body.op),(i64 c26.body.num),(ls AD c26.body.kids)]) AM U (fun _ _=>A9 Iy U U (Bs gc26) (show 0+5≤5 by decide) rfl) (BD (ow 17 0 [q12,q13,q14,q15,q16,q17]) AM U (fun _ _=>BL U) (BD (.ptr 0 0 0 0) AM U (fun _ _=>BL U) (BD (ow 17 0 [q12,q13,q14,q15,q16,q17]) AM U (fun _ _=>BL U) (BD (i64 (Sh.len [q12,q13,q14,q15,q16,q17])) AM U (fun _ _=>CW NU U U U) (bs h0 fun q27 gq27 h0=>?_))))))
 refine E2 (rows0:=[(BG s0_0 q25.2)]) (rows1:=[(BG s0_0 q27.2)]) (v':=(i64 q27.1)) (y0:=(BG s0_0 q27.2)) [0] AM Ez (Av gq27) rfl (by decide) rfl U (.raw U U .nil) rfl U (fun _=>(.raw U U .nil)) (fun _=>U) rfl ?_
 refine bs h0 fun c28 gc28 h0=>BD (.ptr 17 0 (Int.toNat q27.1) 0) AM U (fun _ _=>Bn DD U U U U gc28) (BD (.agg [(ls eI c28.params),(i64 c28.result),(i64 c28.body.op),(i64 c28.body.num),(ls AD c28.body.kids)]) AM U (fun _ _=>A9 Iy U U (Bs gc28) (show 0+5≤5 by decide) rfl) (BD (ow 22 0 [q19,q20,q21,q22]) AM U (fun _ _=>BL U) (BD (.ptr 0 0 0 0) AM U (fun _ _=>BL U) (BD (ow 22 0 [q19,q20,q21,q22]) AM U (fun _ _=>BL U) (BD (i64 (Sh.len [q19,q20,q21,q22])) AM U (fun _ _=>CW NU U U U) (bs h0 fun q29 gq29 h0=>?_))))))
 refine E2 (rows0:=[(BG s0_0 q27.2)]) (rows1:=[(BG s0_0 q29.2)]) (v':=(i64 q29.1)) (y0:=(BG s0_0 q29.2)) [0] AM Ez (Av gq29) rfl (by decide) rfl U (.raw U U .nil) rfl U (fun _=>(.raw U U .nil)) (fun _=>U) rfl ?_
 refine bs h0 fun c30 gc30 h0=>BD (.ptr 22 0 (Int.toNat q29.1) 0) AM U (fun _ _=>Bn DD U U U U gc30) (BD (.agg [(ls eI c30.params),(i64 c30.result),(i64 c30.body.op),(i64 c30.body.num),(ls AD c30.body.kids)]) AM U (fun _ _=>A9 Iy U U (Bs gc30) (show 0+5≤5 by decide) rfl) (Di U ?_))
 refine A3 (m:=23) (l:=[q24,c26,c28,c30]) (enc:=AJ) AM DD (by decide) rfl U U U U U ?_
 refine zq tb U (Az AM Mn U U U U U U (show 1+1≤2 by decide) rfl (dn hK23 U (sr U fun K31 hK31=>zq tb U ?_)))
 refine A3 (m:=24) (l:=[(4:Int),4,3,2,4]) (enc:=eI) AM A4 (by decide) rfl U U U U U ?_
 refine Ad (Wk.A7 (L:=[(0,(.ptr 0 0 0 0)),(2,(.ptr 1 0 0 0)),(3,(.ptr 3 0 0 0)),(73,(.ptr 0 0 0 0)),(74,(ls eI [(4:Int),4,3,2,4]))]) (st':=[(BG s0_0 q29.2),HT,⟨0,80,3,[]⟩,⟨0,31,2,[[(ls AI q3.1),(ow 23 0 [q24,c26,c28,c30])]]⟩,⟨0,3,1,[]⟩,⟨0,3,1,[]⟩,⟨0,3,1,[]⟩,⟨0,3,1,[]⟩,⟨0,3,1,[]⟩,⟨0,3,1,[]⟩,(ro 0 52 5 AJ [q5,q6,q7,q8,q9,q10]),⟨0,3,1,[]⟩,⟨0,3,1,[]⟩,⟨0,3,1,[]⟩,⟨0,3,1,[]⟩,⟨0,3,1,[]⟩,⟨0,3,1,[]⟩,(ro 0 52 5 AJ [q12,q13,q14,q15,q16,q17]),⟨0,3,1,[]⟩,⟨0,3,1,[]⟩,⟨0,3,1,[]⟩,⟨0,3,1,[]⟩,(ro 0 52 5 AJ [q19,q20,q21,q22]),(ro 0 52 5 AJ [q24,c26,c28,c30]),⟨1,3,1,[]⟩]) (id:=24) rfl (show 1≤24 by decide) (AB fun _=>U) ⟨.rfl,.rfl,.rfl,.rfl,(.A7 U),trivial⟩ U) (bs h0 fun q32 gq32 h0=>?_)
 refine Bc (rows0:=[(BG s0_0 q29.2)]) (rows1:=[(BG s0_0 q32.2)]) (st':=[(BG s0_0 q32.2),HT,⟨0,80,3,[]⟩,⟨0,31,2,[[(ls AI q3.1),(ow 23 0 [q24,c26,c28,c30])]]⟩,⟨0,3,1,[]⟩,⟨0,3,1,[]⟩,⟨0,3,1,[]⟩,⟨0,3,1,[]⟩,⟨0,3,1,[]⟩,⟨0,3,1,[]⟩,(ro 0 52 5 AJ [q5,q6,q7,q8,q9,q10]),⟨0,3,1,[]⟩,⟨0,3,1,[]⟩,⟨0,3,1,[]⟩,⟨0,3,1,[]⟩,⟨0,3,1,[]⟩,⟨0,3,1,[]⟩,(ro 0 52 5 AJ [q12,q13,q14,q15,q16,q17]),⟨0,3,1,[]⟩,⟨0,3,1,[]⟩,⟨0,3,1,[]⟩,⟨0,3,1,[]⟩,(ro 0 52 5 AJ [q19,q20,q21,q22]),(ro 0 52 5 AJ [q24,c26,c28,c30]),⟨1,3,1,[]⟩]) (v':=(i64 q32.1)) [0] AM H5 (BU gq32) rfl (by decide) rfl U (.raw U U .nil) rfl U (.raw U U .nil) .nil U U ?_
 refine zq tb U (dn hK31 U (sr U fun K33 hK33=>zm tb 3 U (bs h0 fun l34 gl34 h0=>Um AM DD U U U U gl34 U (zq tb U (Az AM Mn U U U U U U (show 1+1≤2 by decide) rfl (dn hK33 U (AH fun K35 hK35=>zr tb U U (bs h0 fun o42 h1 h0=>?_))))))))
 have M42 :∀(f40:Int) (l41:(List Ar)),o42=(f40,l41)→∀s,Wk 1 s ⟨110,Aa [(2,(.ptr 1 0 0 0)),(3,(.ptr 2 0 0 0))],[(BG s0_0 f40),HT,⟨0,31,2,[[(ls AI q3.1),(ow 3 0 l41)]]⟩,(ro 0 52 5 AJ l41)]⟩→K35 s:=by
  intro f40 l41 hq s hw
  subst o42
  try dsimp only at h0
  refine hK35 _ (AN hw (sr U fun K43 hK43=>zq tb U (Az AM FA U U U U U U (show 0+2≤2 by decide) rfl (dn hK43 U ?_))))
  replace h0:=Sh.AE h0
  subst r
  exact AU (Exists.intro _ (And.intro ((Ih (L:=[(2,(.ptr 2 0 0 0))]) (st':=[(BG s0_0 f40),(ro 0 52 5 AJ l41),⟨0,31,2,[[(ls AI q3.1),(ow 1 0 l41)]]⟩]) (st1:=[(BG s0_0 f40),(ro 0 52 5 AJ l41),⟨0,31,2,[[(ls AI q3.1),(ow 3 0 l41)]]⟩]) [0,3,1] U (.raw U U .nil) (by decide) rfl U (.raw U U (.pure (AB fun _=>U) (.raw U U .nil))) (.same U)).trans (Ah (L:=[(2,(.ptr 2 0 0 0))]) (.same U))) (A9 (x:=.tmp 2) (off:=0) (cs:=[(ls AI q3.1),(ow 1 0 l41)]) (vs:=[(ls AI q3.1),(ow 1 0 l41)]) FA U U U (show 0+2≤2 by decide) rfl _ ⟨U,U⟩)))
 refine Ab (Ay (σ:=Int×Int×(List Ar)) (fun n v=>Cy N s0_0 q3 n v.1 v.2.1 v.2.2=some o42) (fun (f37,f38,l39)=>⟨110,Aa [(0,(.ptr 0 0 0 0)),(2,(.ptr 1 0 0 0)),(3,(.ptr 2 0 0 0)),(8,(i64 f37))],[(BG s0_0 f38),HT,⟨0,31,2,[[(ls AI q3.1),(ow 3 0 l39)]]⟩,(ro 0 52 5 AJ l39)]⟩) N (Sh.w (q32.1 - 1),q32.2,l34) h1 (by refine Wk.trans (CA (L:=[(0,(.ptr 0 0 0 0)),(2,(.ptr 1 0 0 0)),(3,(.ptr 3 0 0 0)),(8,(i64 (Sh.w (q32.1 - 1))))]) (st':=[(BG s0_0 q32.2),HT,⟨0,80,3,[]⟩,⟨0,31,2,[[(ls AI q3.1),(ow 23 0 l34)]]⟩,⟨0,3,1,[]⟩,⟨0,3,1,[]⟩,⟨0,3,1,[]⟩,⟨0,3,1,[]⟩,⟨0,3,1,[]⟩,⟨0,3,1,[]⟩,(ro 0 52 5 AJ [q5,q6,q7,q8,q9,q10]),⟨0,3,1,[]⟩,⟨0,3,1,[]⟩,⟨0,3,1,[]⟩,⟨0,3,1,[]⟩,⟨0,3,1,[]⟩,⟨0,3,1,[]⟩,(ro 0 52 5 AJ [q12,q13,q14,q15,q16,q17]),⟨0,3,1,[]⟩,⟨0,3,1,[]⟩,⟨0,3,1,[]⟩,⟨0,3,1,[]⟩,(ro 0 52 5 AJ [q19,q20,q21,q22]),(ro 0 52 5 AJ l34),⟨0,3,1,[]⟩]) (.raw U U U (.raw U U U (.pure U (by intro x hx;cases hx) (.raw U U U (.pure U (by intro x hx;cases hx) (.pure U (by intro x hx;cases hx) (.pure U (by intro x hx;cases hx) (.pure U (by intro x hx;cases hx) (.pure U (by intro x hx;cases hx) (.pure U (by intro x hx;cases hx) (.pure U (AB fun _=>U) (.pure U (by intro x hx;cases hx) (.pure U (by intro x hx;cases hx) (.pure U (by intro x hx;cases hx) (.pure U (by intro x hx;cases hx) (.pure U (by intro x hx;cases hx) (.pure U (by intro x hx;cases hx) (.pure U (AB fun _=>U) (.pure U (by intro x hx;cases hx) (.pure U (by intro x hx;cases hx) (.pure U (by intro x hx;cases hx) (.pure U (by intro x hx;cases hx) (.pure U (AB fun _=>U) (.pure U (AB fun _=>U) (.pure U (by intro x hx;cases hx) .nil))))))))))))))))))))))))) (.same U)) ?_;exact Ih (L:=[(0,(.ptr 0 0 0 0)),(2,(.ptr 1 0 0 0)),(3,(.ptr 2 0 0 0)),(8,(i64 (Sh.w (q32.1 - 1))))]) (st':=[(BG s0_0 q32.2),HT,⟨0,31,2,[[(ls AI q3.1),(ow 3 0 l34)]]⟩,(ro 0 52 5 AJ l34)]) (st1:=[(BG s0_0 q32.2),HT,⟨0,31,2,[[(ls AI q3.1),(ow 23 0 l34)]]⟩,(ro 0 52 5 AJ l34)]) [0,1,3,23] U (.raw U U .nil) (by decide) rfl U (.raw U U (.raw U U (.raw U U (.pure (AB fun _=>U) .nil)))) (.same U)) (fun _ hv=>by rw[Cy] at hv;cases hv) ?_)
 rintro n ⟨f37,f38,l39⟩ h1
 try dsimp only at h1 ⊢
 rw[Cy] at h1
 refine AH fun K44 hK44=>zr tb U U ?_
 refine ci h1 U ?_ ?_ <;> clear h1
 ·intro b46 h1
  refine AR (hK44 _ (AH fun K47 hK47=>Ab (sr U fun K48 hK48=>zm tb 3 U (bs h1 fun q49 gq49 h1=>?_))))
  refine Bc (rows0:=[(BG s0_0 f38),(ro 0 52 5 AJ l39)]) (rows1:=[(BG s0_0 q49.2),(ro 0 52 5 AJ l39)]) (st':=[(BG s0_0 q49.2),HT,⟨0,31,2,[[(ls AI q3.1),(ow 3 0 l39)]]⟩,(ro 0 52 5 AJ l39)]) (v':=(.agg [(i64 q49.1.op),(i64 q49.1.num),(ls AD q49.1.kids)])) [0,3] AM Zz (Pb gq49) rfl (by decide) rfl U (.raw U U (.pure (AB fun _=>U) .nil)) rfl U (.raw U U (.pure (AB fun _=>U) .nil)) .nil U U ?_
  refine A1 (m:=4) AM EI U U (Az AM BN U U U U U U (show 0+3≤3 by decide) rfl (Ad (Wk.A7 (L:=[(0,(.ptr 0 0 0 0)),(2,(.ptr 1 0 0 0)),(3,(.ptr 2 0 0 0)),(8,(i64 f37)),(9,(.Al [(i64 q49.1.op),(i64 q49.1.num),(ls AD q49.1.kids)] 0))]) (st':=[(BG s0_0 q49.2),HT,⟨0,31,2,[[(ls AI q3.1),(ow 3 0 l39)]]⟩,(ro 0 52 5 AJ l39),⟨1,50,3,[]⟩]) (id:=4) rfl (show 1≤4 by decide) (Cz U) (.same U) rfl) (dn hK48 U ?_)))
  refine CL 18 (by kernel_rfl) (by kernel_rfl) (by rfl) ?_
  iterate 6 refine yq tb rfl ?_
  refine bs h1 fun c50 gc50 h1=>yz (.ptr 3 0 (Int.toNat f37) 0) (Bn DD U U U U gc50) rfl (yq tb U (yz (ls eI c50.params) (B1 Le U U (Bs gc50) rfl) rfl ?_))
  iterate 3 refine yq tb rfl ?_
  refine yz (.ptr 3 0 (Int.toNat f37) 0) (Bn DD U U U U gc50) rfl (yq tb U (yz (i64 c50.result) (B1 F6 U U (Bs gc50) rfl) rfl (yq tb U (yz (.agg [(ls eI c50.params),(i64 c50.result),(i64 q49.1.op),(i64 q49.1.num),(ls AD q49.1.kids)]) (EF TI S3 LD U U) rfl (yz (.ptr 3 0 (Int.toNat f37) 0) (Bn DD U U U U gc50) rfl (Ax (Gf (u':=(Ar.mk c50.params c50.result q49.1)) AM Iy U U gc50 U U U (show 0+5≤5 by decide) rfl U (dn hK47 U (AL U (zm tb 3 U ?_))))))))))
  exact AA (xi (Sh.w (f37 - 1),q49.2,Sh.put l39 f37 (Ar.mk c50.params c50.result q49.1)) h1 (by refine Wk.trans (Jb (st:=[⟨0,88,2,[[(.sl (List.map Dk s0_0)),(i64 q49.2)]]⟩,HT,⟨0,31,2,[[(.sl (List.map AI q3.1)),(.own 3 0 (List.length l39))]]⟩,⟨0,52,5,List.map AJ (Sh.put l39 f37 (Ar.mk c50.params c50.result q49.1))⟩,⟨1,50,3,[]⟩]) (st':=[⟨0,88,2,[[(.sl (List.map Dk s0_0)),(i64 q49.2)]]⟩,HT,⟨0,31,2,[[(.sl (List.map AI q3.1)),(.own 3 0 (List.length (Sh.put l39 f37 (Ar.mk c50.params c50.result q49.1))))]]⟩,⟨0,52,5,List.map AJ (Sh.put l39 f37 (Ar.mk c50.params c50.result q49.1))⟩,⟨1,50,3,[]⟩]) (by simp only[Sh.FK])) ?_;exact AS [0,1,2,3] U (by decide) rfl U (.raw U U (.raw U U (.raw U U (.pure (AB fun _=>U) .nil)))) (.same U)))
 ·intro b46 h1
  exact A5 (M42 f38 l39 (Sh.AE h1).symm _ (AG U))
theorem Nj {rec_spec_copyExprs:(List AP)→Option ((List AP))} (hrec_spec_copyExprs :∀{p0:(List AP)} {r:(List AP)},rec_spec_copyExprs p0=some r→Ai Try.prog 107 [(ls AD p0)] [] (fun v st=>v=(ow 0 0 r)∧st=[(ro 0 50 3 AD r)])) {p0:AP} {r:AP} (h0:Hz rec_spec_copyExprs p0=some r):Ai Try.prog 124 [(.agg [(i64 p0.op),(i64 p0.num),(ls AD p0.kids)])] [] (fun v st=>v=(.agg [(i64 r.op),(i64 r.num),(ls AD r.kids)])∧st=[]):=by
 unfold Hz at h0
 refine D3 U (ai Try.func124 U U U U (sr U fun K1 hK1=>Bl (m:=0) AM U U U U U (A1 (m:=1) AM EI U U (dn hK1 U (AH fun K2 hK2=>?_)))))
 refine CL 8 (by kernel_rfl) (by kernel_rfl) (by rfl) ?_
 iterate 6 refine yq tb rfl ?_
 refine bs h0 fun q3 gq3 h0=>?_
 refine BS (v:=(ls AD q3)) AM JW (Ai.wk (hrec_spec_copyExprs gq3) (by refine Wk.trans (Wk.A7 (L:=[(0,(ls AD q3))]) (st':=[⟨1,50,3,[]⟩]) (id:=0) rfl (show 0≤0 by decide) (AB Ag) ⟨(.A7 U),trivial⟩ U) ?_;exact AS [] U (by decide) rfl U .nil (.same U))) rfl U U ?_
 refine yz (.agg [(i64 p0.op),(i64 p0.num),(ls AD q3)]) (EF U1 VA EI U U) rfl (Ax (Az AM BN U U U U U U (show 0+3≤3 by decide) rfl (dn hK2 U ?_)))
 replace h0:=Sh.AE h0
 subst r
 exact AU (Exists.intro _ (And.intro (Wk.refl _ _) (A9 (x:=.tmp 2) (off:=0) (cs:=[(i64 p0.op),(i64 p0.num),(ls AD q3)]) (vs:=[(i64 p0.op),(i64 p0.num),(ls AD q3)]) BN U U U (show 0+3≤3 by decide) rfl _ U)))
theorem L4 {N:Nat} {rec_spec_copyExprs:(List AP)→Option ((List AP))} (hrec_spec_copyExprs :∀{p0:(List AP)} {r:(List AP)},rec_spec_copyExprs p0=some r→Ai Try.prog 107 [(ls AD p0)] [] (fun v st=>v=(ow 0 0 r)∧st=[(ro 0 50 3 AD r)])) {p0:(List AP)} {r:(List AP)} (h0:Gi N rec_spec_copyExprs p0=some r):Ai Try.prog 107 [(ls AD p0)] [] (fun v st=>v=(ow 0 0 r)∧st=[(ro 0 50 3 AD r)]):=by
 unfold Gi at h0
 refine ai Try.func107 U U U U (zr tb U U (sr U fun K2 hK2=>?_))
 refine A3 (m:=0) (l:=([]:List AP)) (enc:=AD) AM BV (by decide) rfl U (by simp only[List.map,Ap];rfl) rfl U U ?_
 refine zq tb U (dn hK2 U (AH fun K3 hK3=>zr tb U U (bs h0 fun o8 h1 h0=>?_)))
 have M8 :∀(l7:(List AP)),o8=l7→∀s,Wk 0 s ⟨21,Aa [(3,(ow 0 0 l7))],[(ro 0 50 3 AD l7)]⟩→K3 s:=by
  intro l7 hq s hw
  subst o8
  try dsimp only at h0
  refine hK3 _ (AN hw (zr tb U U ?_))
  replace h0:=Sh.AE h0
  subst r
  exact AU (xr (Ah (L:=[(2,(ow 0 0 l7))]) (.same U)))
 refine Ab (Ay (σ:=Int×(List AP)) (fun n v=>CR p0 rec_spec_copyExprs n v.1 v.2=some o8) (fun (i5,l6)=>⟨21,Aa [(0,(ls AD p0)),(3,(ow 0 0 l6)),(4,(i64 i5))],[(ro 0 50 3 AD l6)]⟩) N (0,[]) h1 (AG U) (fun _ hv=>by rw[CR] at hv;cases hv) ?_)
 rintro n ⟨i5,l6⟩ h1
 try dsimp only at h1 ⊢
 rw[CR] at h1
 refine AH fun K10 hK10=>sr U fun K11 hK11=>zm tb 2 U (zl tb U U (zq tb U (dn hK11 U ?_)))
 refine ci h1 U ?_ ?_ <;> clear h1
 ·intro b12 h1
  refine AR (hK10 _ (AH fun K13 hK13=>Ab (AL U (zm tb 3 U (bs h1 fun c14 gc14 h1=>zz (.Al [(i64 c14.op),(i64 c14.num),(ls AD c14.kids)] 0) (CK BV U U gc14 (Ap _) rfl) rfl (zq tb U (bs h1 fun q15 gq15 h1=>zc (v':=(.agg [(i64 q15.op),(i64 q15.num),(ls AD q15.kids)])) YR (Nj hrec_spec_copyExprs gq15) rfl U U ?_)))))))
  refine A3 (m:=1) (l:=[q15]) (enc:=AD) AM BV (by decide) rfl U (by simp only[List.map,Ap];rfl) rfl U U ?_
  refine bs h1 fun l16 gl16 h1=>CB (l2:=[q15]) AM BV U U U U (EO U U C0) B8 gl16 U (zq tb U (dn hK13 U (AL U (zm tb 3 U ?_))))
  exact AA (xi (Sh.w (i5+1),l16) h1 (by refine Wk.trans (EW (L:=[(0,(ls AD p0)),(3,(ow 0 0 l16)),(4,(i64 (Sh.w (i5+1))))]) (st':=[(ro 0 50 3 AD l16),(ro 0 50 3 AD [q15])]) (.pure (AB Ag) (.pure (AB Ag) .nil)) (.same U)) ?_;exact AS [0] U (by decide) rfl U (.pure (AB Ag) .nil) (.same U)))
 ·intro b12 h1
  exact A5 (M8 l6 (Sh.AE h1).symm _ (AG U))

theorem LV {N:Nat} :∀(n:Nat),∀{p0:(List AP)} {r:(List AP)},Dv N n p0=some r→Ai Try.prog 107 [(ls AD p0)] [] (fun v st=>v=(ow 0 0 r)∧st=[(ro 0 50 3 AD r)]):=by
 intro n
 induction n with
 | zero=>intro p0 r h0;cases h0
 | succ n ih=>
  intro p0 r h0
  rw[Dv] at h0
  exact L4 (fun h=>ih h) h0
theorem Cf {N:Nat} :∀{p0:(List AP)} {r:(List AP)},Iw N p0=some r→Ai Try.prog 107 [(ls AD p0)] [] (fun v st=>v=(ow 0 0 r)∧st=[(ro 0 50 3 AD r)]):=by
 intro p0 r h0
 exact LV N h0
theorem Pp {N:Nat} {rec_spec_bend:(List Int)→Int→AP→Option (AP×Int)} (hrec_spec_bend :∀{s0_0:(List Int)} {s0_1:Int} {p1:AP} {r:AP×Int},rec_spec_bend s0_0 s0_1 p1=some r→Ai Try.prog 84 [(.ptr 0 0 0 0),(.agg [(i64 p1.op),(i64 p1.num),(ls AD p1.kids)])] [(BG s0_0 s0_1)] (fun v st=>v=(.agg [(i64 r.1.op),(i64 r.1.num),(ls AD r.1.kids)])∧st=[(BG s0_0 r.2)])) {s0_0:(List Int)} {s0_1:Int} {p1:AP} {r:AP×Int} (h0:I9 N rec_spec_bend s0_0 s0_1 p1=some r):Ai Try.prog 84 [(.ptr 0 0 0 0),(.agg [(i64 p1.op),(i64 p1.num),(ls AD p1.kids)])] [(BG s0_0 s0_1)] (fun v st=>v=(.agg [(i64 r.1.op),(i64 r.1.num),(ls AD r.1.kids)])∧st=[(BG s0_0 r.2)]):=by
 unfold I9 at h0
 refine Ai.wk (r0:=(.agg [(i64 r.1.op),(i64 r.1.num),(ls AD r.1.kids)])) (st0:=[(BG s0_0 r.2),(Vu r.1.op r.1.num r.1.kids)]) ?_ (EG (L:=[(0,(.agg [(i64 r.1.op),(i64 r.1.num),(ls AD r.1.kids)]))]) (st':=[(BG s0_0 r.2)]) [0] U (by decide) rfl U (.raw U trivial) (.same U))
 refine ai Try.func84 U U U U (sr U fun K1 hK1=>Bl (m:=1) AM U U U U U (Ad (Wk.A7 (L:=[(0,(.ptr 0 0 0 0)),(3,(.Al [(i64 p1.op),(i64 p1.num),(ls AD p1.kids)] 0))]) (st':=[(BG s0_0 s0_1),⟨1,50,3,[]⟩]) (id:=1) rfl (show 1≤1 by decide) (Cz U) (.same U) rfl) (A1 (m:=2) AM EI U U (dn hK1 U (AH fun K2 hK2=>AH fun K3 hK3=>bs h0 fun o6 h1 h0=>?_)))))
 have M6 :∀(t4:Bool) (f5:Int),o6=(t4,f5)→∀s,Wk 1 s ⟨85,Aa [(0,(.ptr 0 0 0 0)),(3,(.Al [(i64 p1.op),(i64 p1.num),(ls AD p1.kids)] 0)),(4,(.ptr 1 0 0 0)),(15,(.bool t4))],[(BG s0_0 f5),Cg]⟩→K3 s:=by
  intro t4 f5 hq s hw
  subst o6
  try dsimp only at h0
  refine hK3 _ (AN hw ?_)
  refine ci h0 U ?_ ?_ <;> clear h0
  ·intro b7 h0
   refine sr U fun K8 hK8=>zm tb 2 U (bs h0 fun q9 gq9 h0=>Bz (v':=(ow 2 0 q9)) AM JW (Cf gq9) rfl U ⟨(Bi Ag),trivial⟩ U U (zq tb U (dn hK8 U (sr U fun K10 hK10=>zm tb 2 U (zz (i64 (Sh.len q9)) (CW R6 U U U) rfl (bs h0 fun q11 gq11 h0=>?_))))))
   refine Bc (rows0:=[(BG s0_0 f5)]) (rows1:=[(BG s0_0 q11.2)]) (st':=[(BG s0_0 q11.2),Cg,(ro 0 50 3 AD q9)]) (v':=(i64 q11.1)) [0] AM Ez (Av gq11) rfl (by decide) rfl U (.raw U U .nil) rfl U (.raw U U .nil) .nil U U ?_
   refine zq tb U (dn hK10 U (sr U fun K12 hK12=>zm tb 5 U (bs h0 fun c13 gc13 h0=>zz (.ptr 2 0 (Int.toNat q11.1) 0) (Bn BV U U U U gc13) rfl (zz (.agg [(i64 c13.op),(i64 c13.num),(ls AD c13.kids)]) (A9 BN U U (VT gc13 (Ap _)) (show 0+3≤3 by decide) rfl) rfl (bs h0 fun q14 gq14 h0=>?_)))))
   refine Bc (rows0:=[(BG s0_0 q11.2)]) (rows1:=[(BG s0_0 q14.2)]) (st':=[(BG s0_0 q14.2),Cg,(ro 0 50 3 AD q9)]) (v':=(.agg [(i64 q14.1.op),(i64 q14.1.num),(ls AD q14.1.kids)])) [0] AM Xu (hrec_spec_bend gq14) rfl (by decide) rfl U (.raw U U .nil) rfl U (.raw U U .nil) .nil U U ?_
   refine zz (.ptr 2 0 (Int.toNat q11.1) 0) (Bn BV U U U U gc13) rfl ?_
   refine Gf (u':=q14.1) AM BN U U gc13 U U U (show 0+3≤3 by decide) (by rw[Ap,Ap];rfl) rfl ?_
   refine dn hK12 U (sr U fun K15 hK15=>zm tb 5 U ?_)
   refine Ad (Wk.A7 (L:=[(4,(.ptr 1 0 0 0)),(33,(i64 p1.op)),(35,(i64 p1.num)),(36,(.sl (List.map AD (Sh.put q9 q11.1 q14.1))))]) (st':=[⟨0,88,2,[[(.sl (List.map Dk s0_0)),(i64 q14.2)]]⟩,Cg,⟨1,50,3,[]⟩]) (id:=2) rfl (show 1≤2 by decide) (AB Ag) ⟨.rfl,.rfl,.rfl,(.A7 (by simp only[Sh.FK])),trivial⟩ U) ?_
   refine bs h0 fun q16 gq16 h0=>zc (v':=(.agg [(i64 q16.op),(i64 q16.num),(ls AD q16.kids)])) DB (BH gq16) rfl U U (Az AM BN U U U U U U (show 0+3≤3 by decide) rfl (dn hK15 U ?_))
   replace h0:=Sh.AE h0
   subst r
   exact AU (Exists.intro _ (And.intro ((AS (L:=[(4,(.ptr 1 0 0 0))]) (st':=[(BG s0_0 q14.2),(Vu q16.op q16.num q16.kids)]) [0,1] U (by decide) rfl U (.raw U U (.raw U U .nil)) (.same U)).trans (Ah (L:=[(4,(.ptr 1 0 0 0))]) (.same U))) (A9 (x:=.tmp 4) (off:=0) (cs:=[(i64 q16.op),(i64 q16.num),(ls AD q16.kids)]) (vs:=[(i64 q16.op),(i64 q16.num),(ls AD q16.kids)]) BN U U U (show 0+3≤3 by decide) rfl _ ⟨U,U⟩)))
  ·intro b7 h0
   refine AR (hK2 _ (AH fun K17 hK17=>sr U fun K18 hK18=>zq tb U (bs h0 fun q19 gq19 h0=>?_)))
   refine Bc (rows0:=[(BG s0_0 f5)]) (rows1:=[(BG s0_0 q19.2)]) (st':=[(BG s0_0 q19.2),Cg]) (v':=(i64 q19.1)) [0] AM Ez (Av gq19) rfl (by decide) rfl U (.raw U U .nil) rfl U (.raw U U .nil) .nil U U ?_
   refine dn hK18 U (Ab (zr tb U U ?_))
   refine ci h0 U ?_ ?_ <;> clear h0
   ·intro b21 h0
    refine AH fun K22 hK22=>?_
    refine BO [Cg] 7 (by kernel_rfl) (by kernel_rfl) (by kernel_rfl) (by rfl) ?_
    refine BD (.ptr 0 0 0 0) AM U (fun _ _=>BL U) (bs h0 fun q23 gq23 h0=>?_)
    refine E2 (rows0:=[(BG s0_0 q19.2)]) (rows1:=[(BG s0_0 q23.2)]) (v':=(i64 q23.1)) (y0:=(BG s0_0 q23.2)) [0] AM Ez (Av gq23) rfl (by decide) rfl U (.raw U U .nil) rfl U (fun _=>(.raw U U .nil)) (fun _=>U) rfl ?_
    refine BD (.Al [(i64 p1.op),(i64 p1.num),(ls AD p1.kids)] 1) AM U (fun _ _=>GB Uz U U) (BD (i64 p1.num) AM U (fun _ _=>Fm F6 U U) (BD (.Al [(i64 p1.op),(i64 p1.num),(ls AD p1.kids)] 2) AM U (fun _ _=>GB Ut U U) (BD (ls AD p1.kids) AM U (fun _ _=>Fm Xr U U) (bs h0 fun q24 gq24 h0=>D9 AM (fun x0 zz=>BS (v:=(.agg [(i64 q24.op),(i64 q24.num),(ls AD q24.kids)])) AM DB (BH gq24) rfl U U (Ax U)) (Di U (Az AM BN U U U U U U (show 0+3≤3 by decide) rfl (dn hK22 U ?_)))))))
    replace h0:=Sh.AE h0
    subst r
    exact AU (Exists.intro _ (And.intro (Ah (L:=[(4,(.ptr 1 0 0 0))]) (.same U)) (A9 (x:=.tmp 4) (off:=0) (cs:=[(i64 q24.op),(i64 q24.num),(ls AD q24.kids)]) (vs:=[(i64 q24.op),(i64 q24.num),(ls AD q24.kids)]) BN U U U (show 0+3≤3 by decide) rfl _ ⟨U,U⟩)))
   ·intro b21 h0
    refine zr tb U U ?_
    refine ci h0 U ?_ ?_ <;> clear h0
    ·intro b26 h0
     refine AH fun K27 hK27=>?_
     refine BO [Cg] 11 (by kernel_rfl) (by kernel_rfl) (by kernel_rfl) (by rfl) ?_
     refine BD (.Al [(i64 p1.op),(i64 p1.num),(ls AD p1.kids)] 0) AM U (fun _ _=>GB XT U U) (BD (i64 p1.op) AM U (fun _ _=>Fm F6 U U) (BD (.Al [(i64 p1.op),(i64 p1.num),(ls AD p1.kids)] 1) AM U (fun _ _=>GB Uz U U) (BD (i64 p1.num) AM U (fun _ _=>Fm F6 U U) (BD (.ptr 0 0 0 0) AM U (fun _ _=>BL U) ?_))))
     refine D9 AM (fun x0 zz=>E9 (l:=[(1:Int),-1,1000,2]) (enc:=eI) AM A4 (by decide) rfl U U U U (AB fun _=>U) (Ax U)) ?_
     refine bs h0 fun q28 gq28 h0=>?_
     refine E2 (rows0:=[(BG s0_0 q19.2)]) (rows1:=[(BG s0_0 q28.2)]) (v':=(i64 q28.1)) (y0:=(BG s0_0 q28.2)) [0] AM H5 (BU gq28) rfl (by decide) rfl U (.raw U U .nil) rfl U (fun _=>(.raw U U .nil)) (fun _=>U) rfl ?_
     refine BD (i64 (Sh.w (p1.num+q28.1))) AM U (fun _ _=>Sd U U) (BD (.Al [(i64 p1.op),(i64 p1.num),(ls AD p1.kids)] 2) AM U (fun _ _=>GB Ut U U) (BD (ls AD p1.kids) AM U (fun _ _=>Fm Xr U U) (bs h0 fun q29 gq29 h0=>D9 AM (fun x0 zz=>BS (v:=(.agg [(i64 q29.op),(i64 q29.num),(ls AD q29.kids)])) AM DB (BH gq29) rfl U U (Ax U)) (Di U (Az AM BN U U U U U U (show 0+3≤3 by decide) rfl (dn hK27 U ?_))))))
     replace h0:=Sh.AE h0
     subst r
     exact AU (Exists.intro _ (And.intro (Ah (L:=[(4,(.ptr 1 0 0 0))]) (.same U)) (A9 (x:=.tmp 4) (off:=0) (cs:=[(i64 q29.op),(i64 q29.num),(ls AD q29.kids)]) (vs:=[(i64 q29.op),(i64 q29.num),(ls AD q29.kids)]) BN U U U (show 0+3≤3 by decide) rfl _ ⟨U,U⟩)))
    ·intro b26 h0
     refine zr tb U U ?_
     refine ci h0 U ?_ ?_ <;> clear h0
     ·intro b31 h0
      refine AH fun K32 hK32=>?_
      refine Ho (by kernel_rfl) ?_
      refine bs h0 fun q33 gq33 h0=>bs h0 fun q34 gq34 h0=>bs h0 fun l35 gl35 h0=>bs h0 fun q36 gq36 h0=>MQ fun A37 hA37=>?_
      have A37_0123456789ab:A37 0 #[true,true,true,true,true,true,true,true,true,true,true,true] ⟨85,Aa [(4,(.ptr 1 0 0 0))],[(BG s0_0 q19.2),(Vu q36.op q36.num q36.kids)]⟩:=(hA37 _ _ _).2 (by
       refine F5 U (by kernel_rfl) ?_
       refine hK32 _ ?_
       replace h0:=Sh.AE h0
       subst r
       exact AU (Exists.intro _ (And.intro (Ah (L:=[(4,(.ptr 1 0 0 0))]) (.same U)) (A9 (x:=.tmp 4) (off:=0) (cs:=[(i64 q36.op),(i64 q36.num),(ls AD q36.kids)]) (vs:=[(i64 q36.op),(i64 q36.num),(ls AD q36.kids)]) BN U U U (show 0+3≤3 by decide) rfl _ ⟨U,U⟩))))
      have A37_0123456789a:A37 1 #[true,true,true,true,true,true,true,true,true,true,true,false] ⟨85,Aa [(4,(.ptr 1 0 0 0)),(74,(.agg [(i64 q36.op),(i64 q36.num),(ls AD q36.kids)]))],[(BG s0_0 q19.2),Cg]⟩:=(hA37 _ _ _).2 (by
       refine Ae [11] U (by kernel_rfl) (by decide) ⟨?_,trivial⟩
       ·refine Au.of (i:=11) rfl U (by rfl) ?_
        refine Az AM BN U U U U U U (show 0+3≤3 by decide) rfl (AA ⟨U,?_⟩)
        exact AF (by exact AG U) (AK (by kernel_rfl) ((hA37 _ _ _).1 A37_0123456789ab)) rfl)
      have A37_0123456789:A37 2 #[true,true,true,true,true,true,true,true,true,true,false,false] ⟨85,Aa [(4,(.ptr 1 0 0 0)),(65,(i64 p1.op)),(67,(i64 p1.num)),(73,(ow 2 0 l35))],[(BG s0_0 q19.2),Cg,(ro 0 50 3 AD l35)]⟩:=(hA37 _ _ _).2 (by
       refine Ae [10] U (by kernel_rfl) (by decide) ⟨?_,trivial⟩
       ·refine Au.of (i:=10) rfl U (by rfl) ?_
        refine Ad (Wk.A7 (L:=[(4,(.ptr 1 0 0 0)),(65,(i64 p1.op)),(67,(i64 p1.num)),(73,(ls AD l35))]) (st':=[(BG s0_0 q19.2),Cg,⟨1,50,3,[]⟩]) (id:=2) rfl (show 1≤2 by decide) (AB Ag) ⟨.rfl,.rfl,.rfl,(.A7 U),trivial⟩ U) (zc (v':=(.agg [(i64 q36.op),(i64 q36.num),(ls AD q36.kids)])) DB (BH gq36) rfl U U (AA ⟨U,?_⟩))
        exact AF (by exact AS [0,1] U (by decide) rfl U (.raw U U (.raw U U .nil)) (.same U)) (AK (by kernel_rfl) ((hA37 _ _ _).1 A37_0123456789a)) rfl)
      have A37_012345678:A37 3 #[true,true,true,true,true,true,true,true,true,false,false,false] ⟨85,Aa [(4,(.ptr 1 0 0 0)),(65,(i64 p1.op)),(67,(i64 p1.num)),(70,(ow 2 0 q33)),(72,(ow 3 0 [q34]))],[(BG s0_0 q19.2),Cg,(ro 0 50 3 AD q33),(ro 0 50 3 AD [q34])]⟩:=(hA37 _ _ _).2 (by
       refine Ae [9] U (by kernel_rfl) (by decide) ⟨?_,trivial⟩
       ·refine Au.of (i:=9) rfl U (by rfl) ?_
        refine CB (l2:=[q34]) AM BV U U U U (EO U U C0) B8 gl35 U (AA ⟨U,?_⟩)
        exact AF (by refine Wk.trans (CA (L:=[(4,(.ptr 1 0 0 0)),(65,(i64 p1.op)),(67,(i64 p1.num)),(73,(ow 2 0 l35))]) (st':=[(BG s0_0 q19.2),Cg,(ro 0 50 3 AD l35),(ro 0 50 3 AD [q34])]) (.raw U U U (.raw U U U (.pure U (AB Ag) (.pure U (AB Ag) .nil)))) (.same U)) ?_;exact AS [0,1,2] U (by decide) rfl U (.raw U U (.raw U U (.pure (AB Ag) .nil))) (.same U)) (AK (by kernel_rfl) ((hA37 _ _ _).1 A37_0123456789)) rfl)
      have A37_01234567:A37 4 #[true,true,true,true,true,true,true,true,false,false,false,false] ⟨85,Aa [(4,(.ptr 1 0 0 0)),(65,(i64 p1.op)),(67,(i64 p1.num)),(70,(ow 2 0 q33)),(71,(.agg [(i64 q34.op),(i64 q34.num),(ls AD q34.kids)]))],[(BG s0_0 q19.2),Cg,(ro 0 50 3 AD q33)]⟩:=(hA37 _ _ _).2 (by
       refine Ae [8] U (by kernel_rfl) (by decide) ⟨?_,trivial⟩
       ·refine Au.of (i:=8) rfl U (by rfl) ?_
        refine A3 (m:=3) (l:=[q34]) (enc:=AD) AM BV (by decide) rfl U (by simp only[List.map,Ap];rfl) rfl U U ?_
        refine AA ⟨U,?_⟩
        exact AF (by exact AG U) (AK (by kernel_rfl) ((hA37 _ _ _).1 A37_012345678)) rfl)
      have A37_0123456:A37 5 #[true,true,true,true,true,true,true,false,false,false,false,false] ⟨85,Aa [(4,(.ptr 1 0 0 0)),(65,(i64 p1.op)),(67,(i64 p1.num)),(70,(ow 2 0 q33))],[(BG s0_0 q19.2),Cg,(ro 0 50 3 AD q33)]⟩:=(hA37 _ _ _).2 (by
       refine Ae [7] U (by kernel_rfl) (by decide) ⟨?_,trivial⟩
       ·refine Au.of (i:=7) rfl U (by rfl) ?_
        refine zc (v':=(.agg [(i64 q34.op),(i64 q34.num),(ls AD q34.kids)])) Gw (Br gq34) rfl U U (AA ⟨U,?_⟩)
        exact AF (by exact AG U) (AK (by kernel_rfl) ((hA37 _ _ _).1 A37_01234567)) rfl)
      have A37_012345:A37 6 #[true,true,true,true,true,true,false,false,false,false,false,false] ⟨85,Aa [(4,(.ptr 1 0 0 0)),(65,(i64 p1.op)),(67,(i64 p1.num)),(69,(ls AD p1.kids))],[(BG s0_0 q19.2),Cg]⟩:=(hA37 _ _ _).2 (by
       refine Ae [6] U (by kernel_rfl) (by decide) ⟨?_,trivial⟩
       ·refine Au.of (i:=6) rfl U (by rfl) ?_
        refine Bz (v':=(ow 2 0 q33)) AM JW (Cf gq33) rfl U ⟨(Bi Ag),trivial⟩ U U (AA ⟨U,?_⟩)
        exact AF (by exact AG U) (AK (by kernel_rfl) ((hA37 _ _ _).1 A37_0123456)) rfl)
      have A37_01234:A37 7 #[true,true,true,true,true,false,false,false,false,false,false,false] ⟨85,Aa [(4,(.ptr 1 0 0 0)),(65,(i64 p1.op)),(67,(i64 p1.num)),(68,(.Al [(i64 p1.op),(i64 p1.num),(ls AD p1.kids)] 2))],[(BG s0_0 q19.2),Cg]⟩:=(hA37 _ _ _).2 (by
       refine Ae [5] U (by kernel_rfl) (by decide) ⟨?_,trivial⟩
       ·refine Au.of (i:=5) rfl U (by rfl) ?_
        refine zq tb U (AA ⟨U,?_⟩)
        exact AF (by exact AG U) (AK (by kernel_rfl) ((hA37 _ _ _).1 A37_012345)) rfl)
      have A37_0123:A37 8 #[true,true,true,true,false,false,false,false,false,false,false,false] ⟨85,Aa [(3,(.Al [(i64 p1.op),(i64 p1.num),(ls AD p1.kids)] 0)),(4,(.ptr 1 0 0 0)),(65,(i64 p1.op)),(67,(i64 p1.num))],[(BG s0_0 q19.2),Cg]⟩:=(hA37 _ _ _).2 (by
       refine Ae [4] U (by kernel_rfl) (by decide) ⟨?_,trivial⟩
       ·refine Au.of (i:=4) rfl U (by rfl) ?_
        refine zq tb U (AA ⟨U,?_⟩)
        exact AF (by exact AG U) (AK (by kernel_rfl) ((hA37 _ _ _).1 A37_01234)) rfl)
      have A37_012456789:A37 3 #[true,true,true,false,true,true,true,true,true,true,false,false] ⟨85,Aa [(4,(.ptr 1 0 0 0)),(65,(i64 p1.op)),(66,(.Al [(i64 p1.op),(i64 p1.num),(ls AD p1.kids)] 1)),(73,(ow 2 0 l35))],[(BG s0_0 q19.2),Cg,(ro 0 50 3 AD l35)]⟩:=(hA37 _ _ _).2 (by
       refine Ae [3] U (by kernel_rfl) (by decide) ⟨?_,trivial⟩
       ·refine Au.of (i:=3) rfl U (by rfl) ?_
        refine zq tb U (AA ⟨U,?_⟩)
        exact AF (by exact AG U) (AK (by kernel_rfl) ((hA37 _ _ _).1 A37_0123456789)) rfl)
      have A37_01245678:A37 4 #[true,true,true,false,true,true,true,true,true,false,false,false] ⟨85,Aa [(4,(.ptr 1 0 0 0)),(65,(i64 p1.op)),(66,(.Al [(i64 p1.op),(i64 p1.num),(ls AD p1.kids)] 1)),(70,(ow 2 0 q33)),(72,(ow 3 0 [q34]))],[(BG s0_0 q19.2),Cg,(ro 0 50 3 AD q33),(ro 0 50 3 AD [q34])]⟩:=(hA37 _ _ _).2 (by
       refine Ae [3,9] U (by kernel_rfl) (by decide) ⟨?_,?_,trivial⟩
       ·refine Au.of (i:=3) rfl U (by rfl) ?_
        refine zq tb U (AA ⟨U,?_⟩)
        exact AF (by exact AG U) (AK (by kernel_rfl) ((hA37 _ _ _).1 A37_012345678)) rfl
       ·refine Au.of (i:=9) rfl U (by rfl) ?_
        refine CB (l2:=[q34]) AM BV U U U U (EO U U C0) B8 gl35 U (AA ⟨U,?_⟩)
        exact AF (by refine Wk.trans (CA (L:=[(4,(.ptr 1 0 0 0)),(65,(i64 p1.op)),(66,(.Al [(i64 p1.op),(i64 p1.num),(ls AD p1.kids)] 1)),(73,(ow 2 0 l35))]) (st':=[(BG s0_0 q19.2),Cg,(ro 0 50 3 AD l35),(ro 0 50 3 AD [q34])]) (.raw U U U (.raw U U U (.pure U (AB Ag) (.pure U (AB Ag) .nil)))) (.same U)) ?_;exact AS [0,1,2] U (by decide) rfl U (.raw U U (.raw U U (.pure (AB Ag) .nil))) (.same U)) (AK (by kernel_rfl) ((hA37 _ _ _).1 A37_012456789)) rfl)
      have A37_0124567:A37 5 #[true,true,true,false,true,true,true,true,false,false,false,false] ⟨85,Aa [(4,(.ptr 1 0 0 0)),(65,(i64 p1.op)),(66,(.Al [(i64 p1.op),(i64 p1.num),(ls AD p1.kids)] 1)),(70,(ow 2 0 q33)),(71,(.agg [(i64 q34.op),(i64 q34.num),(ls AD q34.kids)]))],[(BG s0_0 q19.2),Cg,(ro 0 50 3 AD q33)]⟩:=(hA37 _ _ _).2 (by
       refine Ae [3,8] U (by kernel_rfl) (by decide) ⟨?_,?_,trivial⟩
       ·refine Au.of (i:=3) rfl U (by rfl) ?_
        refine zq tb U (AA ⟨U,?_⟩)
        exact AF (by exact AG U) (AK (by kernel_rfl) ((hA37 _ _ _).1 A37_01234567)) rfl
       ·refine Au.of (i:=8) rfl U (by rfl) ?_
        refine A3 (m:=3) (l:=[q34]) (enc:=AD) AM BV (by decide) rfl U (by simp only[List.map,Ap];rfl) rfl U U ?_
        refine AA ⟨U,?_⟩
        exact AF (by exact AG U) (AK (by kernel_rfl) ((hA37 _ _ _).1 A37_01245678)) rfl)
      have A37_012456:A37 6 #[true,true,true,false,true,true,true,false,false,false,false,false] ⟨85,Aa [(4,(.ptr 1 0 0 0)),(65,(i64 p1.op)),(66,(.Al [(i64 p1.op),(i64 p1.num),(ls AD p1.kids)] 1)),(70,(ow 2 0 q33))],[(BG s0_0 q19.2),Cg,(ro 0 50 3 AD q33)]⟩:=(hA37 _ _ _).2 (by
       refine Ae [3,7] U (by kernel_rfl) (by decide) ⟨?_,?_,trivial⟩
       ·refine Au.of (i:=3) rfl U (by rfl) ?_
        refine zq tb U (AA ⟨U,?_⟩)
        exact AF (by exact AG U) (AK (by kernel_rfl) ((hA37 _ _ _).1 A37_0123456)) rfl
       ·refine Au.of (i:=7) rfl U (by rfl) ?_
        refine zc (v':=(.agg [(i64 q34.op),(i64 q34.num),(ls AD q34.kids)])) Gw (Br gq34) rfl U U (AA ⟨U,?_⟩)
        exact AF (by exact AG U) (AK (by kernel_rfl) ((hA37 _ _ _).1 A37_0124567)) rfl)
      have A37_01245:A37 7 #[true,true,true,false,true,true,false,false,false,false,false,false] ⟨85,Aa [(4,(.ptr 1 0 0 0)),(65,(i64 p1.op)),(66,(.Al [(i64 p1.op),(i64 p1.num),(ls AD p1.kids)] 1)),(69,(ls AD p1.kids))],[(BG s0_0 q19.2),Cg]⟩:=(hA37 _ _ _).2 (by
       refine Ae [3,6] U (by kernel_rfl) (by decide) ⟨?_,?_,trivial⟩
       ·refine Au.of (i:=3) rfl U (by rfl) ?_
        refine zq tb U (AA ⟨U,?_⟩)
        exact AF (by exact AG U) (AK (by kernel_rfl) ((hA37 _ _ _).1 A37_012345)) rfl
       ·refine Au.of (i:=6) rfl U (by rfl) ?_
        refine Bz (v':=(ow 2 0 q33)) AM JW (Cf gq33) rfl U ⟨(Bi Ag),trivial⟩ U U (AA ⟨U,?_⟩)
        exact AF (by exact AG U) (AK (by kernel_rfl) ((hA37 _ _ _).1 A37_012456)) rfl)
      have A37_0124:A37 8 #[true,true,true,false,true,false,false,false,false,false,false,false] ⟨85,Aa [(4,(.ptr 1 0 0 0)),(65,(i64 p1.op)),(66,(.Al [(i64 p1.op),(i64 p1.num),(ls AD p1.kids)] 1)),(68,(.Al [(i64 p1.op),(i64 p1.num),(ls AD p1.kids)] 2))],[(BG s0_0 q19.2),Cg]⟩:=(hA37 _ _ _).2 (by
       refine Ae [3,5] U (by kernel_rfl) (by decide) ⟨?_,?_,trivial⟩
       ·refine Au.of (i:=3) rfl U (by rfl) ?_
        refine zq tb U (AA ⟨U,?_⟩)
        exact AF (by exact AG U) (AK (by kernel_rfl) ((hA37 _ _ _).1 A37_01234)) rfl
       ·refine Au.of (i:=5) rfl U (by rfl) ?_
        refine zq tb U (AA ⟨U,?_⟩)
        exact AF (by exact AG U) (AK (by kernel_rfl) ((hA37 _ _ _).1 A37_01245)) rfl)
      have A37_012:A37 9 #[true,true,true,false,false,false,false,false,false,false,false,false] ⟨85,Aa [(3,(.Al [(i64 p1.op),(i64 p1.num),(ls AD p1.kids)] 0)),(4,(.ptr 1 0 0 0)),(65,(i64 p1.op)),(66,(.Al [(i64 p1.op),(i64 p1.num),(ls AD p1.kids)] 1))],[(BG s0_0 q19.2),Cg]⟩:=(hA37 _ _ _).2 (by
       refine Ae [3,4] U (by kernel_rfl) (by decide) ⟨?_,?_,trivial⟩
       ·refine Au.of (i:=3) rfl U (by rfl) ?_
        refine zq tb U (AA ⟨U,?_⟩)
        exact AF (by exact AG U) (AK (by kernel_rfl) ((hA37 _ _ _).1 A37_0123)) rfl
       ·refine Au.of (i:=4) rfl U (by rfl) ?_
        refine zq tb U (AA ⟨U,?_⟩)
        exact AF (by exact AG U) (AK (by kernel_rfl) ((hA37 _ _ _).1 A37_0124)) rfl)
      have A37_01456789:A37 4 #[true,true,false,false,true,true,true,true,true,true,false,false] ⟨85,Aa [(3,(.Al [(i64 p1.op),(i64 p1.num),(ls AD p1.kids)] 0)),(4,(.ptr 1 0 0 0)),(65,(i64 p1.op)),(73,(ow 2 0 l35))],[(BG s0_0 q19.2),Cg,(ro 0 50 3 AD l35)]⟩:=(hA37 _ _ _).2 (by
       refine Ae [2] U (by kernel_rfl) (by decide) ⟨?_,trivial⟩
       ·refine Au.of (i:=2) rfl U (by rfl) ?_
        refine zq tb U (AA ⟨U,?_⟩)
        exact AF (by exact AG U) (AK (by kernel_rfl) ((hA37 _ _ _).1 A37_012456789)) rfl)
      have A37_0145678:A37 5 #[true,true,false,false,true,true,true,true,true,false,false,false] ⟨85,Aa [(3,(.Al [(i64 p1.op),(i64 p1.num),(ls AD p1.kids)] 0)),(4,(.ptr 1 0 0 0)),(65,(i64 p1.op)),(70,(ow 2 0 q33)),(72,(ow 3 0 [q34]))],[(BG s0_0 q19.2),Cg,(ro 0 50 3 AD q33),(ro 0 50 3 AD [q34])]⟩:=(hA37 _ _ _).2 (by
       refine Ae [2,9] U (by kernel_rfl) (by decide) ⟨?_,?_,trivial⟩
       ·refine Au.of (i:=2) rfl U (by rfl) ?_
        refine zq tb U (AA ⟨U,?_⟩)
        exact AF (by exact AG U) (AK (by kernel_rfl) ((hA37 _ _ _).1 A37_01245678)) rfl
       ·refine Au.of (i:=9) rfl U (by rfl) ?_
        refine CB (l2:=[q34]) AM BV U U U U (EO U U C0) B8 gl35 U (AA ⟨U,?_⟩)
        exact AF (by refine Wk.trans (CA (L:=[(3,(.Al [(i64 p1.op),(i64 p1.num),(ls AD p1.kids)] 0)),(4,(.ptr 1 0 0 0)),(65,(i64 p1.op)),(73,(ow 2 0 l35))]) (st':=[(BG s0_0 q19.2),Cg,(ro 0 50 3 AD l35),(ro 0 50 3 AD [q34])]) (.raw U U U (.raw U U U (.pure U (AB Ag) (.pure U (AB Ag) .nil)))) (.same U)) ?_;exact AS [0,1,2] U (by decide) rfl U (.raw U U (.raw U U (.pure (AB Ag) .nil))) (.same U)) (AK (by kernel_rfl) ((hA37 _ _ _).1 A37_01456789)) rfl)
      have A37_014567:A37 6 #[true,true,false,false,true,true,true,true,false,false,false,false] ⟨85,Aa [(3,(.Al [(i64 p1.op),(i64 p1.num),(ls AD p1.kids)] 0)),(4,(.ptr 1 0 0 0)),(65,(i64 p1.op)),(70,(ow 2 0 q33)),(71,(.agg [(i64 q34.op),(i64 q34.num),(ls AD q34.kids)]))],[(BG s0_0 q19.2),Cg,(ro 0 50 3 AD q33)]⟩:=(hA37 _ _ _).2 (by
       refine Ae [2,8] U (by kernel_rfl) (by decide) ⟨?_,?_,trivial⟩
       ·refine Au.of (i:=2) rfl U (by rfl) ?_
        refine zq tb U (AA ⟨U,?_⟩)
        exact AF (by exact AG U) (AK (by kernel_rfl) ((hA37 _ _ _).1 A37_0124567)) rfl
       ·refine Au.of (i:=8) rfl U (by rfl) ?_
        refine A3 (m:=3) (l:=[q34]) (enc:=AD) AM BV (by decide) rfl U (by simp only[List.map,Ap];rfl) rfl U U ?_
        refine AA ⟨U,?_⟩
        exact AF (by exact AG U) (AK (by kernel_rfl) ((hA37 _ _ _).1 A37_0145678)) rfl)
      have A37_01456:A37 7 #[true,true,false,false,true,true,true,false,false,false,false,false] ⟨85,Aa [(3,(.Al [(i64 p1.op),(i64 p1.num),(ls AD p1.kids)] 0)),(4,(.ptr 1 0 0 0)),(65,(i64 p1.op)),(70,(ow 2 0 q33))],[(BG s0_0 q19.2),Cg,(ro 0 50 3 AD q33)]⟩:=(hA37 _ _ _).2 (by
       refine Ae [2,7] U (by kernel_rfl) (by decide) ⟨?_,?_,trivial⟩
       ·refine Au.of (i:=2) rfl U (by rfl) ?_
        refine zq tb U (AA ⟨U,?_⟩)
        exact AF (by exact AG U) (AK (by kernel_rfl) ((hA37 _ _ _).1 A37_012456)) rfl
       ·refine Au.of (i:=7) rfl U (by rfl) ?_
        refine zc (v':=(.agg [(i64 q34.op),(i64 q34.num),(ls AD q34.kids)])) Gw (Br gq34) rfl U U (AA ⟨U,?_⟩)
        exact AF (by exact AG U) (AK (by kernel_rfl) ((hA37 _ _ _).1 A37_014567)) rfl)
      have A37_0145:A37 8 #[true,true,false,false,true,true,false,false,false,false,false,false] ⟨85,Aa [(3,(.Al [(i64 p1.op),(i64 p1.num),(ls AD p1.kids)] 0)),(4,(.ptr 1 0 0 0)),(65,(i64 p1.op)),(69,(ls AD p1.kids))],[(BG s0_0 q19.2),Cg]⟩:=(hA37 _ _ _).2 (by
       refine Ae [2,6] U (by kernel_rfl) (by decide) ⟨?_,?_,trivial⟩
       ·refine Au.of (i:=2) rfl U (by rfl) ?_
        refine zq tb U (AA ⟨U,?_⟩)
        exact AF (by exact AG U) (AK (by kernel_rfl) ((hA37 _ _ _).1 A37_01245)) rfl
       ·refine Au.of (i:=6) rfl U (by rfl) ?_
        refine Bz (v':=(ow 2 0 q33)) AM JW (Cf gq33) rfl U ⟨(Bi Ag),trivial⟩ U U (AA ⟨U,?_⟩)
        exact AF (by exact AG U) (AK (by kernel_rfl) ((hA37 _ _ _).1 A37_01456)) rfl)
      have A37_014:A37 9 #[true,true,false,false,true,false,false,false,false,false,false,false] ⟨85,Aa [(3,(.Al [(i64 p1.op),(i64 p1.num),(ls AD p1.kids)] 0)),(4,(.ptr 1 0 0 0)),(65,(i64 p1.op)),(68,(.Al [(i64 p1.op),(i64 p1.num),(ls AD p1.kids)] 2))],[(BG s0_0 q19.2),Cg]⟩:=(hA37 _ _ _).2 (by
       refine Ae [2,5] U (by kernel_rfl) (by decide) ⟨?_,?_,trivial⟩
       ·refine Au.of (i:=2) rfl U (by rfl) ?_
        refine zq tb U (AA ⟨U,?_⟩)
        exact AF (by exact AG U) (AK (by kernel_rfl) ((hA37 _ _ _).1 A37_0124)) rfl
       ·refine Au.of (i:=5) rfl U (by rfl) ?_
        refine zq tb U (AA ⟨U,?_⟩)
        exact AF (by exact AG U) (AK (by kernel_rfl) ((hA37 _ _ _).1 A37_0145)) rfl)
      have A37_01:A37 10 #[true,true,false,false,false,false,false,false,false,false,false,false] ⟨85,Aa [(3,(.Al [(i64 p1.op),(i64 p1.num),(ls AD p1.kids)] 0)),(4,(.ptr 1 0 0 0)),(65,(i64 p1.op))],[(BG s0_0 q19.2),Cg]⟩:=(hA37 _ _ _).2 (by
       refine Ae [2,4] U (by kernel_rfl) (by decide) ⟨?_,?_,trivial⟩
       ·refine Au.of (i:=2) rfl U (by rfl) ?_
        refine zq tb U (AA ⟨U,?_⟩)
        exact AF (by exact AG U) (AK (by kernel_rfl) ((hA37 _ _ _).1 A37_012)) rfl
       ·refine Au.of (i:=4) rfl U (by rfl) ?_
        refine zq tb U (AA ⟨U,?_⟩)
        exact AF (by exact AG U) (AK (by kernel_rfl) ((hA37 _ _ _).1 A37_014)) rfl)
      have A37_023456789:A37 3 #[true,false,true,true,true,true,true,true,true,true,false,false] ⟨85,Aa [(4,(.ptr 1 0 0 0)),(64,(.Al [(i64 p1.op),(i64 p1.num),(ls AD p1.kids)] 0)),(67,(i64 p1.num)),(73,(ow 2 0 l35))],[(BG s0_0 q19.2),Cg,(ro 0 50 3 AD l35)]⟩:=(hA37 _ _ _).2 (by
       refine Ae [1] U (by kernel_rfl) (by decide) ⟨?_,trivial⟩
       ·refine Au.of (i:=1) rfl U (by rfl) ?_
        refine zq tb U (AA ⟨U,?_⟩)
        exact AF (by exact AG U) (AK (by kernel_rfl) ((hA37 _ _ _).1 A37_0123456789)) rfl)
      have A37_02345678:A37 4 #[true,false,true,true,true,true,true,true,true,false,false,false] ⟨85,Aa [(4,(.ptr 1 0 0 0)),(64,(.Al [(i64 p1.op),(i64 p1.num),(ls AD p1.kids)] 0)),(67,(i64 p1.num)),(70,(ow 2 0 q33)),(72,(ow 3 0 [q34]))],[(BG s0_0 q19.2),Cg,(ro 0 50 3 AD q33),(ro 0 50 3 AD [q34])]⟩:=(hA37 _ _ _).2 (by
       refine Ae [1,9] U (by kernel_rfl) (by decide) ⟨?_,?_,trivial⟩
       ·refine Au.of (i:=1) rfl U (by rfl) ?_
        refine zq tb U (AA ⟨U,?_⟩)
        exact AF (by exact AG U) (AK (by kernel_rfl) ((hA37 _ _ _).1 A37_012345678)) rfl
       ·refine Au.of (i:=9) rfl U (by rfl) ?_
        refine CB (l2:=[q34]) AM BV U U U U (EO U U C0) B8 gl35 U (AA ⟨U,?_⟩)
        exact AF (by refine Wk.trans (CA (L:=[(4,(.ptr 1 0 0 0)),(64,(.Al [(i64 p1.op),(i64 p1.num),(ls AD p1.kids)] 0)),(67,(i64 p1.num)),(73,(ow 2 0 l35))]) (st':=[(BG s0_0 q19.2),Cg,(ro 0 50 3 AD l35),(ro 0 50 3 AD [q34])]) (.raw U U U (.raw U U U (.pure U (AB Ag) (.pure U (AB Ag) .nil)))) (.same U)) ?_;exact AS [0,1,2] U (by decide) rfl U (.raw U U (.raw U U (.pure (AB Ag) .nil))) (.same U)) (AK (by kernel_rfl) ((hA37 _ _ _).1 A37_023456789)) rfl)
      have A37_0234567:A37 5 #[true,false,true,true,true,true,true,true,false,false,false,false] ⟨85,Aa [(4,(.ptr 1 0 0 0)),(64,(.Al [(i64 p1.op),(i64 p1.num),(ls AD p1.kids)] 0)),(67,(i64 p1.num)),(70,(ow 2 0 q33)),(71,(.agg [(i64 q34.op),(i64 q34.num),(ls AD q34.kids)]))],[(BG s0_0 q19.2),Cg,(ro 0 50 3 AD q33)]⟩:=(hA37 _ _ _).2 (by
       refine Ae [1,8] U (by kernel_rfl) (by decide) ⟨?_,?_,trivial⟩
       ·refine Au.of (i:=1) rfl U (by rfl) ?_
        refine zq tb U (AA ⟨U,?_⟩)
        exact AF (by exact AG U) (AK (by kernel_rfl) ((hA37 _ _ _).1 A37_01234567)) rfl
       ·refine Au.of (i:=8) rfl U (by rfl) ?_
        refine A3 (m:=3) (l:=[q34]) (enc:=AD) AM BV (by decide) rfl U (by simp only[List.map,Ap];rfl) rfl U U ?_
        refine AA ⟨U,?_⟩
        exact AF (by exact AG U) (AK (by kernel_rfl) ((hA37 _ _ _).1 A37_02345678)) rfl)
      have A37_023456:A37 6 #[true,false,true,true,true,true,true,false,false,false,false,false] ⟨85,Aa [(4,(.ptr 1 0 0 0)),(64,(.Al [(i64 p1.op),(i64 p1.num),(ls AD p1.kids)] 0)),(67,(i64 p1.num)),(70,(ow 2 0 q33))],[(BG s0_0 q19.2),Cg,(ro 0 50 3 AD q33)]⟩:=(hA37 _ _ _).2 (by
       refine Ae [1,7] U (by kernel_rfl) (by decide) ⟨?_,?_,trivial⟩
       ·refine Au.of (i:=1) rfl U (by rfl) ?_
        refine zq tb U (AA ⟨U,?_⟩)
        exact AF (by exact AG U) (AK (by kernel_rfl) ((hA37 _ _ _).1 A37_0123456)) rfl
       ·refine Au.of (i:=7) rfl U (by rfl) ?_
        refine zc (v':=(.agg [(i64 q34.op),(i64 q34.num),(ls AD q34.kids)])) Gw (Br gq34) rfl U U (AA ⟨U,?_⟩)
        exact AF (by exact AG U) (AK (by kernel_rfl) ((hA37 _ _ _).1 A37_0234567)) rfl)
      have A37_02345:A37 7 #[true,false,true,true,true,true,false,false,false,false,false,false] ⟨85,Aa [(4,(.ptr 1 0 0 0)),(64,(.Al [(i64 p1.op),(i64 p1.num),(ls AD p1.kids)] 0)),(67,(i64 p1.num)),(69,(ls AD p1.kids))],[(BG s0_0 q19.2),Cg]⟩:=(hA37 _ _ _).2 (by
       refine Ae [1,6] U (by kernel_rfl) (by decide) ⟨?_,?_,trivial⟩
       ·refine Au.of (i:=1) rfl U (by rfl) ?_
        refine zq tb U (AA ⟨U,?_⟩)
        exact AF (by exact AG U) (AK (by kernel_rfl) ((hA37 _ _ _).1 A37_012345)) rfl
       ·refine Au.of (i:=6) rfl U (by rfl) ?_
        refine Bz (v':=(ow 2 0 q33)) AM JW (Cf gq33) rfl U ⟨(Bi Ag),trivial⟩ U U (AA ⟨U,?_⟩)
        exact AF (by exact AG U) (AK (by kernel_rfl) ((hA37 _ _ _).1 A37_023456)) rfl)
      have A37_0234:A37 8 #[true,false,true,true,true,false,false,false,false,false,false,false] ⟨85,Aa [(4,(.ptr 1 0 0 0)),(64,(.Al [(i64 p1.op),(i64 p1.num),(ls AD p1.kids)] 0)),(67,(i64 p1.num)),(68,(.Al [(i64 p1.op),(i64 p1.num),(ls AD p1.kids)] 2))],[(BG s0_0 q19.2),Cg]⟩:=(hA37 _ _ _).2 (by
       refine Ae [1,5] U (by kernel_rfl) (by decide) ⟨?_,?_,trivial⟩
       ·refine Au.of (i:=1) rfl U (by rfl) ?_
        refine zq tb U (AA ⟨U,?_⟩)
        exact AF (by exact AG U) (AK (by kernel_rfl) ((hA37 _ _ _).1 A37_01234)) rfl
       ·refine Au.of (i:=5) rfl U (by rfl) ?_
        refine zq tb U (AA ⟨U,?_⟩)
        exact AF (by exact AG U) (AK (by kernel_rfl) ((hA37 _ _ _).1 A37_02345)) rfl)
      have A37_023:A37 9 #[true,false,true,true,false,false,false,false,false,false,false,false] ⟨85,Aa [(3,(.Al [(i64 p1.op),(i64 p1.num),(ls AD p1.kids)] 0)),(4,(.ptr 1 0 0 0)),(64,(.Al [(i64 p1.op),(i64 p1.num),(ls AD p1.kids)] 0)),(67,(i64 p1.num))],[(BG s0_0 q19.2),Cg]⟩:=(hA37 _ _ _).2 (by
       refine Ae [1,4] U (by kernel_rfl) (by decide) ⟨?_,?_,trivial⟩
       ·refine Au.of (i:=1) rfl U (by rfl) ?_
        refine zq tb U (AA ⟨U,?_⟩)
        exact AF (by exact AG U) (AK (by kernel_rfl) ((hA37 _ _ _).1 A37_0123)) rfl
       ·refine Au.of (i:=4) rfl U (by rfl) ?_
        refine zq tb U (AA ⟨U,?_⟩)
        exact AF (by exact AG U) (AK (by kernel_rfl) ((hA37 _ _ _).1 A37_0234)) rfl)
      have A37_02456789:A37 4 #[true,false,true,false,true,true,true,true,true,true,false,false] ⟨85,Aa [(4,(.ptr 1 0 0 0)),(64,(.Al [(i64 p1.op),(i64 p1.num),(ls AD p1.kids)] 0)),(66,(.Al [(i64 p1.op),(i64 p1.num),(ls AD p1.kids)] 1)),(73,(ow 2 0 l35))],[(BG s0_0 q19.2),Cg,(ro 0 50 3 AD l35)]⟩:=(hA37 _ _ _).2 (by
       refine Ae [1,3] U (by kernel_rfl) (by decide) ⟨?_,?_,trivial⟩
       ·refine Au.of (i:=1) rfl U (by rfl) ?_
        refine zq tb U (AA ⟨U,?_⟩)
        exact AF (by exact AG U) (AK (by kernel_rfl) ((hA37 _ _ _).1 A37_012456789)) rfl
       ·refine Au.of (i:=3) rfl U (by rfl) ?_
        refine zq tb U (AA ⟨U,?_⟩)
        exact AF (by exact AG U) (AK (by kernel_rfl) ((hA37 _ _ _).1 A37_023456789)) rfl)
      have A37_0245678:A37 5 #[true,false,true,false,true,true,true,true,true,false,false,false] ⟨85,Aa [(4,(.ptr 1 0 0 0)),(64,(.Al [(i64 p1.op),(i64 p1.num),(ls AD p1.kids)] 0)),(66,(.Al [(i64 p1.op),(i64 p1.num),(ls AD p1.kids)] 1)),(70,(ow 2 0 q33)),(72,(ow 3 0 [q34]))],[(BG s0_0 q19.2),Cg,(ro 0 50 3 AD q33),(ro 0 50 3 AD [q34])]⟩:=(hA37 _ _ _).2 (by
       refine Ae [1,3,9] U (by kernel_rfl) (by decide) ⟨?_,?_,?_,trivial⟩
       ·refine Au.of (i:=1) rfl U (by rfl) ?_
        refine zq tb U (AA ⟨U,?_⟩)
        exact AF (by exact AG U) (AK (by kernel_rfl) ((hA37 _ _ _).1 A37_01245678)) rfl
       ·refine Au.of (i:=3) rfl U (by rfl) ?_
        refine zq tb U (AA ⟨U,?_⟩)
        exact AF (by exact AG U) (AK (by kernel_rfl) ((hA37 _ _ _).1 A37_02345678)) rfl
       ·refine Au.of (i:=9) rfl U (by rfl) ?_
        refine CB (l2:=[q34]) AM BV U U U U (EO U U C0) B8 gl35 U (AA ⟨U,?_⟩)
        exact AF (by refine Wk.trans (CA (L:=[(4,(.ptr 1 0 0 0)),(64,(.Al [(i64 p1.op),(i64 p1.num),(ls AD p1.kids)] 0)),(66,(.Al [(i64 p1.op),(i64 p1.num),(ls AD p1.kids)] 1)),(73,(ow 2 0 l35))]) (st':=[(BG s0_0 q19.2),Cg,(ro 0 50 3 AD l35),(ro 0 50 3 AD [q34])]) (.raw U U U (.raw U U U (.pure U (AB Ag) (.pure U (AB Ag) .nil)))) (.same U)) ?_;exact AS [0,1,2] U (by decide) rfl U (.raw U U (.raw U U (.pure (AB Ag) .nil))) (.same U)) (AK (by kernel_rfl) ((hA37 _ _ _).1 A37_02456789)) rfl)
      have A37_024567:A37 6 #[true,false,true,false,true,true,true,true,false,false,false,false] ⟨85,Aa [(4,(.ptr 1 0 0 0)),(64,(.Al [(i64 p1.op),(i64 p1.num),(ls AD p1.kids)] 0)),(66,(.Al [(i64 p1.op),(i64 p1.num),(ls AD p1.kids)] 1)),(70,(ow 2 0 q33)),(71,(.agg [(i64 q34.op),(i64 q34.num),(ls AD q34.kids)]))],[(BG s0_0 q19.2),Cg,(ro 0 50 3 AD q33)]⟩:=(hA37 _ _ _).2 (by
       refine Ae [1,3,8] U (by kernel_rfl) (by decide) ⟨?_,?_,?_,trivial⟩
       ·refine Au.of (i:=1) rfl U (by rfl) ?_
        refine zq tb U (AA ⟨U,?_⟩)
        exact AF (by exact AG U) (AK (by kernel_rfl) ((hA37 _ _ _).1 A37_0124567)) rfl
       ·refine Au.of (i:=3) rfl U (by rfl) ?_
        refine zq tb U (AA ⟨U,?_⟩)
        exact AF (by exact AG U) (AK (by kernel_rfl) ((hA37 _ _ _).1 A37_0234567)) rfl
       ·refine Au.of (i:=8) rfl U (by rfl) ?_
        refine A3 (m:=3) (l:=[q34]) (enc:=AD) AM BV (by decide) rfl U (by simp only[List.map,Ap];rfl) rfl U U ?_
        refine AA ⟨U,?_⟩
        exact AF (by exact AG U) (AK (by kernel_rfl) ((hA37 _ _ _).1 A37_0245678)) rfl)
      have A37_02456:A37 7 #[true,false,true,false,true,true,true,false,false,false,false,false] ⟨85,Aa [(4,(.ptr 1 0 0 0)),(64,(.Al [(i64 p1.op),(i64 p1.num),(ls AD p1.kids)] 0)),(66,(.Al [(i64 p1.op),(i64 p1.num),(ls AD p1.kids)] 1)),(70,(ow 2 0 q33))],[(BG s0_0 q19.2),Cg,(ro 0 50 3 AD q33)]⟩:=(hA37 _ _ _).2 (by
       refine Ae [1,3,7] U (by kernel_rfl) (by decide) ⟨?_,?_,?_,trivial⟩
       ·refine Au.of (i:=1) rfl U (by rfl) ?_
        refine zq tb U (AA ⟨U,?_⟩)
        exact AF (by exact AG U) (AK (by kernel_rfl) ((hA37 _ _ _).1 A37_012456)) rfl
       ·refine Au.of (i:=3) rfl U (by rfl) ?_
        refine zq tb U (AA ⟨U,?_⟩)
        exact AF (by exact AG U) (AK (by kernel_rfl) ((hA37 _ _ _).1 A37_023456)) rfl
       ·refine Au.of (i:=7) rfl U (by rfl) ?_
        refine zc (v':=(.agg [(i64 q34.op),(i64 q34.num),(ls AD q34.kids)])) Gw (Br gq34) rfl U U (AA ⟨U,?_⟩)
        exact AF (by exact AG U) (AK (by kernel_rfl) ((hA37 _ _ _).1 A37_024567)) rfl)
      have A37_0245:A37 8 #[true,false,true,false,true,true,false,false,false,false,false,false] ⟨85,Aa [(4,(.ptr 1 0 0 0)),(64,(.Al [(i64 p1.op),(i64 p1.num),(ls AD p1.kids)] 0)),(66,(.Al [(i64 p1.op),(i64 p1.num),(ls AD p1.kids)] 1)),(69,(ls AD p1.kids))],[(BG s0_0 q19.2),Cg]⟩:=(hA37 _ _ _).2 (by
       refine Ae [1,3,6] U (by kernel_rfl) (by decide) ⟨?_,?_,?_,trivial⟩
       ·refine Au.of (i:=1) rfl U (by rfl) ?_
        refine zq tb U (AA ⟨U,?_⟩)
        exact AF (by exact AG U) (AK (by kernel_rfl) ((hA37 _ _ _).1 A37_01245)) rfl
       ·refine Au.of (i:=3) rfl U (by rfl) ?_
        refine zq tb U (AA ⟨U,?_⟩)
        exact AF (by exact AG U) (AK (by kernel_rfl) ((hA37 _ _ _).1 A37_02345)) rfl
       ·refine Au.of (i:=6) rfl U (by rfl) ?_
        refine Bz (v':=(ow 2 0 q33)) AM JW (Cf gq33) rfl U ⟨(Bi Ag),trivial⟩ U U (AA ⟨U,?_⟩)
        exact AF (by exact AG U) (AK (by kernel_rfl) ((hA37 _ _ _).1 A37_02456)) rfl)
      have A37_024:A37 9 #[true,false,true,false,true,false,false,false,false,false,false,false] ⟨85,Aa [(4,(.ptr 1 0 0 0)),(64,(.Al [(i64 p1.op),(i64 p1.num),(ls AD p1.kids)] 0)),(66,(.Al [(i64 p1.op),(i64 p1.num),(ls AD p1.kids)] 1)),(68,(.Al [(i64 p1.op),(i64 p1.num),(ls AD p1.kids)] 2))],[(BG s0_0 q19.2),Cg]⟩:=(hA37 _ _ _).2 (by
       refine Ae [1,3,5] U (by kernel_rfl) (by decide) ⟨?_,?_,?_,trivial⟩
       ·refine Au.of (i:=1) rfl U (by rfl) ?_
        refine zq tb U (AA ⟨U,?_⟩)
        exact AF (by exact AG U) (AK (by kernel_rfl) ((hA37 _ _ _).1 A37_0124)) rfl
       ·refine Au.of (i:=3) rfl U (by rfl) ?_
        refine zq tb U (AA ⟨U,?_⟩)
        exact AF (by exact AG U) (AK (by kernel_rfl) ((hA37 _ _ _).1 A37_0234)) rfl
       ·refine Au.of (i:=5) rfl U (by rfl) ?_
        refine zq tb U (AA ⟨U,?_⟩)
        exact AF (by exact AG U) (AK (by kernel_rfl) ((hA37 _ _ _).1 A37_0245)) rfl)
      have A37_02:A37 10 #[true,false,true,false,false,false,false,false,false,false,false,false] ⟨85,Aa [(3,(.Al [(i64 p1.op),(i64 p1.num),(ls AD p1.kids)] 0)),(4,(.ptr 1 0 0 0)),(64,(.Al [(i64 p1.op),(i64 p1.num),(ls AD p1.kids)] 0)),(66,(.Al [(i64 p1.op),(i64 p1.num),(ls AD p1.kids)] 1))],[(BG s0_0 q19.2),Cg]⟩:=(hA37 _ _ _).2 (by
       refine Ae [1,3,4] U (by kernel_rfl) (by decide) ⟨?_,?_,?_,trivial⟩
       ·refine Au.of (i:=1) rfl U (by rfl) ?_
        refine zq tb U (AA ⟨U,?_⟩)
        exact AF (by exact AG U) (AK (by kernel_rfl) ((hA37 _ _ _).1 A37_012)) rfl
       ·refine Au.of (i:=3) rfl U (by rfl) ?_
        refine zq tb U (AA ⟨U,?_⟩)
        exact AF (by exact AG U) (AK (by kernel_rfl) ((hA37 _ _ _).1 A37_023)) rfl
       ·refine Au.of (i:=4) rfl U (by rfl) ?_
        refine zq tb U (AA ⟨U,?_⟩)
        exact AF (by exact AG U) (AK (by kernel_rfl) ((hA37 _ _ _).1 A37_024)) rfl)
      have A37_0456789:A37 5 #[true,false,false,false,true,true,true,true,true,true,false,false] ⟨85,Aa [(3,(.Al [(i64 p1.op),(i64 p1.num),(ls AD p1.kids)] 0)),(4,(.ptr 1 0 0 0)),(64,(.Al [(i64 p1.op),(i64 p1.num),(ls AD p1.kids)] 0)),(73,(ow 2 0 l35))],[(BG s0_0 q19.2),Cg,(ro 0 50 3 AD l35)]⟩:=(hA37 _ _ _).2 (by
       refine Ae [1,2] U (by kernel_rfl) (by decide) ⟨?_,?_,trivial⟩
       ·refine Au.of (i:=1) rfl U (by rfl) ?_
        refine zq tb U (AA ⟨U,?_⟩)
        exact AF (by exact AG U) (AK (by kernel_rfl) ((hA37 _ _ _).1 A37_01456789)) rfl
       ·refine Au.of (i:=2) rfl U (by rfl) ?_
        refine zq tb U (AA ⟨U,?_⟩)
        exact AF (by exact AG U) (AK (by kernel_rfl) ((hA37 _ _ _).1 A37_02456789)) rfl)
      have A37_045678:A37 6 #[true,false,false,false,true,true,true,true,true,false,false,false] ⟨85,Aa [(3,(.Al [(i64 p1.op),(i64 p1.num),(ls AD p1.kids)] 0)),(4,(.ptr 1 0 0 0)),(64,(.Al [(i64 p1.op),(i64 p1.num),(ls AD p1.kids)] 0)),(70,(ow 2 0 q33)),(72,(ow 3 0 [q34]))],[(BG s0_0 q19.2),Cg,(ro 0 50 3 AD q33),(ro 0 50 3 AD [q34])]⟩:=(hA37 _ _ _).2 (by
       refine Ae [1,2,9] U (by kernel_rfl) (by decide) ⟨?_,?_,?_,trivial⟩
       ·refine Au.of (i:=1) rfl U (by rfl) ?_
        refine zq tb U (AA ⟨U,?_⟩)
        exact AF (by exact AG U) (AK (by kernel_rfl) ((hA37 _ _ _).1 A37_0145678)) rfl
       ·refine Au.of (i:=2) rfl U (by rfl) ?_
        refine zq tb U (AA ⟨U,?_⟩)
        exact AF (by exact AG U) (AK (by kernel_rfl) ((hA37 _ _ _).1 A37_0245678)) rfl
       ·refine Au.of (i:=9) rfl U (by rfl) ?_
        refine CB (l2:=[q34]) AM BV U U U U (EO U U C0) B8 gl35 U (AA ⟨U,?_⟩)
        exact AF (by refine Wk.trans (CA (L:=[(3,(.Al [(i64 p1.op),(i64 p1.num),(ls AD p1.kids)] 0)),(4,(.ptr 1 0 0 0)),(64,(.Al [(i64 p1.op),(i64 p1.num),(ls AD p1.kids)] 0)),(73,(ow 2 0 l35))]) (st':=[(BG s0_0 q19.2),Cg,(ro 0 50 3 AD l35),(ro 0 50 3 AD [q34])]) (.raw U U U (.raw U U U (.pure U (AB Ag) (.pure U (AB Ag) .nil)))) (.same U)) ?_;exact AS [0,1,2] U (by decide) rfl U (.raw U U (.raw U U (.pure (AB Ag) .nil))) (.same U)) (AK (by kernel_rfl) ((hA37 _ _ _).1 A37_0456789)) rfl)
      have A37_04567:A37 7 #[true,false,false,false,true,true,true,true,false,false,false,false] ⟨85,Aa [(3,(.Al [(i64 p1.op),(i64 p1.num),(ls AD p1.kids)] 0)),(4,(.ptr 1 0 0 0)),(64,(.Al [(i64 p1.op),(i64 p1.num),(ls AD p1.kids)] 0)),(70,(ow 2 0 q33)),(71,(.agg [(i64 q34.op),(i64 q34.num),(ls AD q34.kids)]))],[(BG s0_0 q19.2),Cg,(ro 0 50 3 AD q33)]⟩:=(hA37 _ _ _).2 (by
       refine Ae [1,2,8] U (by kernel_rfl) (by decide) ⟨?_,?_,?_,trivial⟩
       ·refine Au.of (i:=1) rfl U (by rfl) ?_
        refine zq tb U (AA ⟨U,?_⟩)
        exact AF (by exact AG U) (AK (by kernel_rfl) ((hA37 _ _ _).1 A37_014567)) rfl
       ·refine Au.of (i:=2) rfl U (by rfl) ?_
        refine zq tb U (AA ⟨U,?_⟩)
        exact AF (by exact AG U) (AK (by kernel_rfl) ((hA37 _ _ _).1 A37_024567)) rfl
       ·refine Au.of (i:=8) rfl U (by rfl) ?_
        refine A3 (m:=3) (l:=[q34]) (enc:=AD) AM BV (by decide) rfl U (by simp only[List.map,Ap];rfl) rfl U U ?_
        refine AA ⟨U,?_⟩
        exact AF (by exact AG U) (AK (by kernel_rfl) ((hA37 _ _ _).1 A37_045678)) rfl)
      have A37_0456:A37 8 #[true,false,false,false,true,true,true,false,false,false,false,false] ⟨85,Aa [(3,(.Al [(i64 p1.op),(i64 p1.num),(ls AD p1.kids)] 0)),(4,(.ptr 1 0 0 0)),(64,(.Al [(i64 p1.op),(i64 p1.num),(ls AD p1.kids)] 0)),(70,(ow 2 0 q33))],[(BG s0_0 q19.2),Cg,(ro 0 50 3 AD q33)]⟩:=(hA37 _ _ _).2 (by
       refine Ae [1,2,7] U (by kernel_rfl) (by decide) ⟨?_,?_,?_,trivial⟩
       ·refine Au.of (i:=1) rfl U (by rfl) ?_
        refine zq tb U (AA ⟨U,?_⟩)
        exact AF (by exact AG U) (AK (by kernel_rfl) ((hA37 _ _ _).1 A37_01456)) rfl
       ·refine Au.of (i:=2) rfl U (by rfl) ?_
        refine zq tb U (AA ⟨U,?_⟩)
        exact AF (by exact AG U) (AK (by kernel_rfl) ((hA37 _ _ _).1 A37_02456)) rfl
       ·refine Au.of (i:=7) rfl U (by rfl) ?_
        refine zc (v':=(.agg [(i64 q34.op),(i64 q34.num),(ls AD q34.kids)])) Gw (Br gq34) rfl U U (AA ⟨U,?_⟩)
        exact AF (by exact AG U) (AK (by kernel_rfl) ((hA37 _ _ _).1 A37_04567)) rfl)
      have A37_045:A37 9 #[true,false,false,false,true,true,false,false,false,false,false,false] ⟨85,Aa [(3,(.Al [(i64 p1.op),(i64 p1.num),(ls AD p1.kids)] 0)),(4,(.ptr 1 0 0 0)),(64,(.Al [(i64 p1.op),(i64 p1.num),(ls AD p1.kids)] 0)),(69,(ls AD p1.kids))],[(BG s0_0 q19.2),Cg]⟩:=(hA37 _ _ _).2 (by
       refine Ae [1,2,6] U (by kernel_rfl) (by decide) ⟨?_,?_,?_,trivial⟩
       ·refine Au.of (i:=1) rfl U (by rfl) ?_
        refine zq tb U (AA ⟨U,?_⟩)
        exact AF (by exact AG U) (AK (by kernel_rfl) ((hA37 _ _ _).1 A37_0145)) rfl
       ·refine Au.of (i:=2) rfl U (by rfl) ?_
        refine zq tb U (AA ⟨U,?_⟩)
        exact AF (by exact AG U) (AK (by kernel_rfl) ((hA37 _ _ _).1 A37_0245)) rfl
       ·refine Au.of (i:=6) rfl U (by rfl) ?_
        refine Bz (v':=(ow 2 0 q33)) AM JW (Cf gq33) rfl U ⟨(Bi Ag),trivial⟩ U U (AA ⟨U,?_⟩)
        exact AF (by exact AG U) (AK (by kernel_rfl) ((hA37 _ _ _).1 A37_0456)) rfl)
      have A37_04:A37 10 #[true,false,false,false,true,false,false,false,false,false,false,false] ⟨85,Aa [(3,(.Al [(i64 p1.op),(i64 p1.num),(ls AD p1.kids)] 0)),(4,(.ptr 1 0 0 0)),(64,(.Al [(i64 p1.op),(i64 p1.num),(ls AD p1.kids)] 0)),(68,(.Al [(i64 p1.op),(i64 p1.num),(ls AD p1.kids)] 2))],[(BG s0_0 q19.2),Cg]⟩:=(hA37 _ _ _).2 (by
       refine Ae [1,2,5] U (by kernel_rfl) (by decide) ⟨?_,?_,?_,trivial⟩
       ·refine Au.of (i:=1) rfl U (by rfl) ?_
        refine zq tb U (AA ⟨U,?_⟩)
        exact AF (by exact AG U) (AK (by kernel_rfl) ((hA37 _ _ _).1 A37_014)) rfl
       ·refine Au.of (i:=2) rfl U (by rfl) ?_
        refine zq tb U (AA ⟨U,?_⟩)
        exact AF (by exact AG U) (AK (by kernel_rfl) ((hA37 _ _ _).1 A37_024)) rfl
       ·refine Au.of (i:=5) rfl U (by rfl) ?_
        refine zq tb U (AA ⟨U,?_⟩)
        exact AF (by exact AG U) (AK (by kernel_rfl) ((hA37 _ _ _).1 A37_045)) rfl)
      have A37_0:A37 11 #[true,false,false,false,false,false,false,false,false,false,false,false] ⟨85,Aa [(3,(.Al [(i64 p1.op),(i64 p1.num),(ls AD p1.kids)] 0)),(4,(.ptr 1 0 0 0)),(64,(.Al [(i64 p1.op),(i64 p1.num),(ls AD p1.kids)] 0))],[(BG s0_0 q19.2),Cg]⟩:=(hA37 _ _ _).2 (by
       refine Ae [1,2,4] U (by kernel_rfl) (by decide) ⟨?_,?_,?_,trivial⟩
       ·refine Au.of (i:=1) rfl U (by rfl) ?_
        refine zq tb U (AA ⟨U,?_⟩)
        exact AF (by exact AG U) (AK (by kernel_rfl) ((hA37 _ _ _).1 A37_01)) rfl
       ·refine Au.of (i:=2) rfl U (by rfl) ?_
        refine zq tb U (AA ⟨U,?_⟩)
        exact AF (by exact AG U) (AK (by kernel_rfl) ((hA37 _ _ _).1 A37_02)) rfl
       ·refine Au.of (i:=4) rfl U (by rfl) ?_
        refine zq tb U (AA ⟨U,?_⟩)
        exact AF (by exact AG U) (AK (by kernel_rfl) ((hA37 _ _ _).1 A37_04)) rfl)
      have A37_23456789:A37 4 #[false,false,true,true,true,true,true,true,true,true,false,false] ⟨85,Aa [(3,(.Al [(i64 p1.op),(i64 p1.num),(ls AD p1.kids)] 0)),(4,(.ptr 1 0 0 0)),(67,(i64 p1.num)),(73,(ow 2 0 l35))],[(BG s0_0 q19.2),Cg,(ro 0 50 3 AD l35)]⟩:=(hA37 _ _ _).2 (by
       refine Ae [0] U (by kernel_rfl) (by decide) ⟨?_,trivial⟩
       ·refine Au.of (i:=0) rfl U (by rfl) ?_
        refine zq tb U (AA ⟨U,?_⟩)
        exact AF (by exact AG U) (AK (by kernel_rfl) ((hA37 _ _ _).1 A37_023456789)) rfl)
      have A37_2345678:A37 5 #[false,false,true,true,true,true,true,true,true,false,false,false] ⟨85,Aa [(3,(.Al [(i64 p1.op),(i64 p1.num),(ls AD p1.kids)] 0)),(4,(.ptr 1 0 0 0)),(67,(i64 p1.num)),(70,(ow 2 0 q33)),(72,(ow 3 0 [q34]))],[(BG s0_0 q19.2),Cg,(ro 0 50 3 AD q33),(ro 0 50 3 AD [q34])]⟩:=(hA37 _ _ _).2 (by
       refine Ae [0,9] U (by kernel_rfl) (by decide) ⟨?_,?_,trivial⟩
       ·refine Au.of (i:=0) rfl U (by rfl) ?_
        refine zq tb U (AA ⟨U,?_⟩)
        exact AF (by exact AG U) (AK (by kernel_rfl) ((hA37 _ _ _).1 A37_02345678)) rfl
       ·refine Au.of (i:=9) rfl U (by rfl) ?_
        refine CB (l2:=[q34]) AM BV U U U U (EO U U C0) B8 gl35 U (AA ⟨U,?_⟩)
        exact AF (by refine Wk.trans (CA (L:=[(3,(.Al [(i64 p1.op),(i64 p1.num),(ls AD p1.kids)] 0)),(4,(.ptr 1 0 0 0)),(67,(i64 p1.num)),(73,(ow 2 0 l35))]) (st':=[(BG s0_0 q19.2),Cg,(ro 0 50 3 AD l35),(ro 0 50 3 AD [q34])]) (.raw U U U (.raw U U U (.pure U (AB Ag) (.pure U (AB Ag) .nil)))) (.same U)) ?_;exact AS [0,1,2] U (by decide) rfl U (.raw U U (.raw U U (.pure (AB Ag) .nil))) (.same U)) (AK (by kernel_rfl) ((hA37 _ _ _).1 A37_23456789)) rfl)
      have A37_234567:A37 6 #[false,false,true,true,true,true,true,true,false,false,false,false] ⟨85,Aa [(3,(.Al [(i64 p1.op),(i64 p1.num),(ls AD p1.kids)] 0)),(4,(.ptr 1 0 0 0)),(67,(i64 p1.num)),(70,(ow 2 0 q33)),(71,(.agg [(i64 q34.op),(i64 q34.num),(ls AD q34.kids)]))],[(BG s0_0 q19.2),Cg,(ro 0 50 3 AD q33)]⟩:=(hA37 _ _ _).2 (by
       refine Ae [0,8] U (by kernel_rfl) (by decide) ⟨?_,?_,trivial⟩
       ·refine Au.of (i:=0) rfl U (by rfl) ?_
        refine zq tb U (AA ⟨U,?_⟩)
        exact AF (by exact AG U) (AK (by kernel_rfl) ((hA37 _ _ _).1 A37_0234567)) rfl
       ·refine Au.of (i:=8) rfl U (by rfl) ?_
        refine A3 (m:=3) (l:=[q34]) (enc:=AD) AM BV (by decide) rfl U (by simp only[List.map,Ap];rfl) rfl U U ?_
        refine AA ⟨U,?_⟩
        exact AF (by exact AG U) (AK (by kernel_rfl) ((hA37 _ _ _).1 A37_2345678)) rfl)
      have A37_23456:A37 7 #[false,false,true,true,true,true,true,false,false,false,false,false] ⟨85,Aa [(3,(.Al [(i64 p1.op),(i64 p1.num),(ls AD p1.kids)] 0)),(4,(.ptr 1 0 0 0)),(67,(i64 p1.num)),(70,(ow 2 0 q33))],[(BG s0_0 q19.2),Cg,(ro 0 50 3 AD q33)]⟩:=(hA37 _ _ _).2 (by
       refine Ae [0,7] U (by kernel_rfl) (by decide) ⟨?_,?_,trivial⟩
       ·refine Au.of (i:=0) rfl U (by rfl) ?_
        refine zq tb U (AA ⟨U,?_⟩)
        exact AF (by exact AG U) (AK (by kernel_rfl) ((hA37 _ _ _).1 A37_023456)) rfl
       ·refine Au.of (i:=7) rfl U (by rfl) ?_
        refine zc (v':=(.agg [(i64 q34.op),(i64 q34.num),(ls AD q34.kids)])) Gw (Br gq34) rfl U U (AA ⟨U,?_⟩)
        exact AF (by exact AG U) (AK (by kernel_rfl) ((hA37 _ _ _).1 A37_234567)) rfl)
      have A37_2345:A37 8 #[false,false,true,true,true,true,false,false,false,false,false,false] ⟨85,Aa [(3,(.Al [(i64 p1.op),(i64 p1.num),(ls AD p1.kids)] 0)),(4,(.ptr 1 0 0 0)),(67,(i64 p1.num)),(69,(ls AD p1.kids))],[(BG s0_0 q19.2),Cg]⟩:=(hA37 _ _ _).2 (by
       refine Ae [0,6] U (by kernel_rfl) (by decide) ⟨?_,?_,trivial⟩
       ·refine Au.of (i:=0) rfl U (by rfl) ?_
        refine zq tb U (AA ⟨U,?_⟩)
        exact AF (by exact AG U) (AK (by kernel_rfl) ((hA37 _ _ _).1 A37_02345)) rfl
       ·refine Au.of (i:=6) rfl U (by rfl) ?_
        refine Bz (v':=(ow 2 0 q33)) AM JW (Cf gq33) rfl U ⟨(Bi Ag),trivial⟩ U U (AA ⟨U,?_⟩)
        exact AF (by exact AG U) (AK (by kernel_rfl) ((hA37 _ _ _).1 A37_23456)) rfl)
      have A37_234:A37 9 #[false,false,true,true,true,false,false,false,false,false,false,false] ⟨85,Aa [(3,(.Al [(i64 p1.op),(i64 p1.num),(ls AD p1.kids)] 0)),(4,(.ptr 1 0 0 0)),(67,(i64 p1.num)),(68,(.Al [(i64 p1.op),(i64 p1.num),(ls AD p1.kids)] 2))],[(BG s0_0 q19.2),Cg]⟩:=(hA37 _ _ _).2 (by
       refine Ae [0,5] U (by kernel_rfl) (by decide) ⟨?_,?_,trivial⟩
       ·refine Au.of (i:=0) rfl U (by rfl) ?_
        refine zq tb U (AA ⟨U,?_⟩)
        exact AF (by exact AG U) (AK (by kernel_rfl) ((hA37 _ _ _).1 A37_0234)) rfl
       ·refine Au.of (i:=5) rfl U (by rfl) ?_
        refine zq tb U (AA ⟨U,?_⟩)
        exact AF (by exact AG U) (AK (by kernel_rfl) ((hA37 _ _ _).1 A37_2345)) rfl)
      have A37_23:A37 10 #[false,false,true,true,false,false,false,false,false,false,false,false] ⟨85,Aa [(3,(.Al [(i64 p1.op),(i64 p1.num),(ls AD p1.kids)] 0)),(4,(.ptr 1 0 0 0)),(67,(i64 p1.num))],[(BG s0_0 q19.2),Cg]⟩:=(hA37 _ _ _).2 (by
       refine Ae [0,4] U (by kernel_rfl) (by decide) ⟨?_,?_,trivial⟩
       ·refine Au.of (i:=0) rfl U (by rfl) ?_
        refine zq tb U (AA ⟨U,?_⟩)
        exact AF (by exact AG U) (AK (by kernel_rfl) ((hA37 _ _ _).1 A37_023)) rfl
       ·refine Au.of (i:=4) rfl U (by rfl) ?_
        refine zq tb U (AA ⟨U,?_⟩)
        exact AF (by exact AG U) (AK (by kernel_rfl) ((hA37 _ _ _).1 A37_234)) rfl)
      have A37_2456789:A37 5 #[false,false,true,false,true,true,true,true,true,true,false,false] ⟨85,Aa [(3,(.Al [(i64 p1.op),(i64 p1.num),(ls AD p1.kids)] 0)),(4,(.ptr 1 0 0 0)),(66,(.Al [(i64 p1.op),(i64 p1.num),(ls AD p1.kids)] 1)),(73,(ow 2 0 l35))],[(BG s0_0 q19.2),Cg,(ro 0 50 3 AD l35)]⟩:=(hA37 _ _ _).2 (by
       refine Ae [0,3] U (by kernel_rfl) (by decide) ⟨?_,?_,trivial⟩
       ·refine Au.of (i:=0) rfl U (by rfl) ?_
        refine zq tb U (AA ⟨U,?_⟩)
        exact AF (by exact AG U) (AK (by kernel_rfl) ((hA37 _ _ _).1 A37_02456789)) rfl
       ·refine Au.of (i:=3) rfl U (by rfl) ?_
        refine zq tb U (AA ⟨U,?_⟩)
        exact AF (by exact AG U) (AK (by kernel_rfl) ((hA37 _ _ _).1 A37_23456789)) rfl)
      have A37_245678:A37 6 #[false,false,true,false,true,true,true,true,true,false,false,false] ⟨85,Aa [(3,(.Al [(i64 p1.op),(i64 p1.num),(ls AD p1.kids)] 0)),(4,(.ptr 1 0 0 0)),(66,(.Al [(i64 p1.op),(i64 p1.num),(ls AD p1.kids)] 1)),(70,(ow 2 0 q33)),(72,(ow 3 0 [q34]))],[(BG s0_0 q19.2),Cg,(ro 0 50 3 AD q33),(ro 0 50 3 AD [q34])]⟩:=(hA37 _ _ _).2 (by
       refine Ae [0,3,9] U (by kernel_rfl) (by decide) ⟨?_,?_,?_,trivial⟩
       ·refine Au.of (i:=0) rfl U (by rfl) ?_
        refine zq tb U (AA ⟨U,?_⟩)
        exact AF (by exact AG U) (AK (by kernel_rfl) ((hA37 _ _ _).1 A37_0245678)) rfl
       ·refine Au.of (i:=3) rfl U (by rfl) ?_
        refine zq tb U (AA ⟨U,?_⟩)
        exact AF (by exact AG U) (AK (by kernel_rfl) ((hA37 _ _ _).1 A37_2345678)) rfl
       ·refine Au.of (i:=9) rfl U (by rfl) ?_
        refine CB (l2:=[q34]) AM BV U U U U (EO U U C0) B8 gl35 U (AA ⟨U,?_⟩)
        exact AF (by refine Wk.trans (CA (L:=[(3,(.Al [(i64 p1.op),(i64 p1.num),(ls AD p1.kids)] 0)),(4,(.ptr 1 0 0 0)),(66,(.Al [(i64 p1.op),(i64 p1.num),(ls AD p1.kids)] 1)),(73,(ow 2 0 l35))]) (st':=[(BG s0_0 q19.2),Cg,(ro 0 50 3 AD l35),(ro 0 50 3 AD [q34])]) (.raw U U U (.raw U U U (.pure U (AB Ag) (.pure U (AB Ag) .nil)))) (.same U)) ?_;exact AS [0,1,2] U (by decide) rfl U (.raw U U (.raw U U (.pure (AB Ag) .nil))) (.same U)) (AK (by kernel_rfl) ((hA37 _ _ _).1 A37_2456789)) rfl)
      have A37_24567:A37 7 #[false,false,true,false,true,true,true,true,false,false,false,false] ⟨85,Aa [(3,(.Al [(i64 p1.op),(i64 p1.num),(ls AD p1.kids)] 0)),(4,(.ptr 1 0 0 0)),(66,(.Al [(i64 p1.op),(i64 p1.num),(ls AD p1.kids)] 1)),(70,(ow 2 0 q33)),(71,(.agg [(i64 q34.op),(i64 q34.num),(ls AD q34.kids)]))],[(BG s0_0 q19.2),Cg,(ro 0 50 3 AD q33)]⟩:=(hA37 _ _ _).2 (by
       refine Ae [0,3,8] U (by kernel_rfl) (by decide) ⟨?_,?_,?_,trivial⟩
       ·refine Au.of (i:=0) rfl U (by rfl) ?_
        refine zq tb U (AA ⟨U,?_⟩)
        exact AF (by exact AG U) (AK (by kernel_rfl) ((hA37 _ _ _).1 A37_024567)) rfl
       ·refine Au.of (i:=3) rfl U (by rfl) ?_
        refine zq tb U (AA ⟨U,?_⟩)
        exact AF (by exact AG U) (AK (by kernel_rfl) ((hA37 _ _ _).1 A37_234567)) rfl
       ·refine Au.of (i:=8) rfl U (by rfl) ?_
        refine A3 (m:=3) (l:=[q34]) (enc:=AD) AM BV (by decide) rfl U (by simp only[List.map,Ap];rfl) rfl U U ?_
        refine AA ⟨U,?_⟩
        exact AF (by exact AG U) (AK (by kernel_rfl) ((hA37 _ _ _).1 A37_245678)) rfl)
      have A37_2456:A37 8 #[false,false,true,false,true,true,true,false,false,false,false,false] ⟨85,Aa [(3,(.Al [(i64 p1.op),(i64 p1.num),(ls AD p1.kids)] 0)),(4,(.ptr 1 0 0 0)),(66,(.Al [(i64 p1.op),(i64 p1.num),(ls AD p1.kids)] 1)),(70,(ow 2 0 q33))],[(BG s0_0 q19.2),Cg,(ro 0 50 3 AD q33)]⟩:=(hA37 _ _ _).2 (by
       refine Ae [0,3,7] U (by kernel_rfl) (by decide) ⟨?_,?_,?_,trivial⟩
       ·refine Au.of (i:=0) rfl U (by rfl) ?_
        refine zq tb U (AA ⟨U,?_⟩)
        exact AF (by exact AG U) (AK (by kernel_rfl) ((hA37 _ _ _).1 A37_02456)) rfl
       ·refine Au.of (i:=3) rfl U (by rfl) ?_
        refine zq tb U (AA ⟨U,?_⟩)
        exact AF (by exact AG U) (AK (by kernel_rfl) ((hA37 _ _ _).1 A37_23456)) rfl
       ·refine Au.of (i:=7) rfl U (by rfl) ?_
        refine zc (v':=(.agg [(i64 q34.op),(i64 q34.num),(ls AD q34.kids)])) Gw (Br gq34) rfl U U (AA ⟨U,?_⟩)
        exact AF (by exact AG U) (AK (by kernel_rfl) ((hA37 _ _ _).1 A37_24567)) rfl)
      have A37_245:A37 9 #[false,false,true,false,true,true,false,false,false,false,false,false] ⟨85,Aa [(3,(.Al [(i64 p1.op),(i64 p1.num),(ls AD p1.kids)] 0)),(4,(.ptr 1 0 0 0)),(66,(.Al [(i64 p1.op),(i64 p1.num),(ls AD p1.kids)] 1)),(69,(ls AD p1.kids))],[(BG s0_0 q19.2),Cg]⟩:=(hA37 _ _ _).2 (by
       refine Ae [0,3,6] U (by kernel_rfl) (by decide) ⟨?_,?_,?_,trivial⟩
       ·refine Au.of (i:=0) rfl U (by rfl) ?_
        refine zq tb U (AA ⟨U,?_⟩)
        exact AF (by exact AG U) (AK (by kernel_rfl) ((hA37 _ _ _).1 A37_0245)) rfl
       ·refine Au.of (i:=3) rfl U (by rfl) ?_
        refine zq tb U (AA ⟨U,?_⟩)
        exact AF (by exact AG U) (AK (by kernel_rfl) ((hA37 _ _ _).1 A37_2345)) rfl
       ·refine Au.of (i:=6) rfl U (by rfl) ?_
        refine Bz (v':=(ow 2 0 q33)) AM JW (Cf gq33) rfl U ⟨(Bi Ag),trivial⟩ U U (AA ⟨U,?_⟩)
        exact AF (by exact AG U) (AK (by kernel_rfl) ((hA37 _ _ _).1 A37_2456)) rfl)
      have A37_24:A37 10 #[false,false,true,false,true,false,false,false,false,false,false,false] ⟨85,Aa [(3,(.Al [(i64 p1.op),(i64 p1.num),(ls AD p1.kids)] 0)),(4,(.ptr 1 0 0 0)),(66,(.Al [(i64 p1.op),(i64 p1.num),(ls AD p1.kids)] 1)),(68,(.Al [(i64 p1.op),(i64 p1.num),(ls AD p1.kids)] 2))],[(BG s0_0 q19.2),Cg]⟩:=(hA37 _ _ _).2 (by
       refine Ae [0,3,5] U (by kernel_rfl) (by decide) ⟨?_,?_,?_,trivial⟩
       ·refine Au.of (i:=0) rfl U (by rfl) ?_
        refine zq tb U (AA ⟨U,?_⟩)
        exact AF (by exact AG U) (AK (by kernel_rfl) ((hA37 _ _ _).1 A37_024)) rfl
       ·refine Au.of (i:=3) rfl U (by rfl) ?_
        refine zq tb U (AA ⟨U,?_⟩)
        exact AF (by exact AG U) (AK (by kernel_rfl) ((hA37 _ _ _).1 A37_234)) rfl
       ·refine Au.of (i:=5) rfl U (by rfl) ?_
        refine zq tb U (AA ⟨U,?_⟩)
        exact AF (by exact AG U) (AK (by kernel_rfl) ((hA37 _ _ _).1 A37_245)) rfl)
      have A37_2:A37 11 #[false,false,true,false,false,false,false,false,false,false,false,false] ⟨85,Aa [(3,(.Al [(i64 p1.op),(i64 p1.num),(ls AD p1.kids)] 0)),(4,(.ptr 1 0 0 0)),(66,(.Al [(i64 p1.op),(i64 p1.num),(ls AD p1.kids)] 1))],[(BG s0_0 q19.2),Cg]⟩:=(hA37 _ _ _).2 (by
       refine Ae [0,3,4] U (by kernel_rfl) (by decide) ⟨?_,?_,?_,trivial⟩
       ·refine Au.of (i:=0) rfl U (by rfl) ?_
        refine zq tb U (AA ⟨U,?_⟩)
        exact AF (by exact AG U) (AK (by kernel_rfl) ((hA37 _ _ _).1 A37_02)) rfl
       ·refine Au.of (i:=3) rfl U (by rfl) ?_
        refine zq tb U (AA ⟨U,?_⟩)
        exact AF (by exact AG U) (AK (by kernel_rfl) ((hA37 _ _ _).1 A37_23)) rfl
       ·refine Au.of (i:=4) rfl U (by rfl) ?_
        refine zq tb U (AA ⟨U,?_⟩)
        exact AF (by exact AG U) (AK (by kernel_rfl) ((hA37 _ _ _).1 A37_24)) rfl)
      have A37_456789:A37 6 #[false,false,false,false,true,true,true,true,true,true,false,false] ⟨85,Aa [(3,(.Al [(i64 p1.op),(i64 p1.num),(ls AD p1.kids)] 0)),(4,(.ptr 1 0 0 0)),(73,(ow 2 0 l35))],[(BG s0_0 q19.2),Cg,(ro 0 50 3 AD l35)]⟩:=(hA37 _ _ _).2 (by
       refine Ae [0,2] U (by kernel_rfl) (by decide) ⟨?_,?_,trivial⟩
       ·refine Au.of (i:=0) rfl U (by rfl) ?_
        refine zq tb U (AA ⟨U,?_⟩)
        exact AF (by exact AG U) (AK (by kernel_rfl) ((hA37 _ _ _).1 A37_0456789)) rfl
       ·refine Au.of (i:=2) rfl U (by rfl) ?_
        refine zq tb U (AA ⟨U,?_⟩)
        exact AF (by exact AG U) (AK (by kernel_rfl) ((hA37 _ _ _).1 A37_2456789)) rfl)
      have A37_45678:A37 7 #[false,false,false,false,true,true,true,true,true,false,false,false] ⟨85,Aa [(3,(.Al [(i64 p1.op),(i64 p1.num),(ls AD p1.kids)] 0)),(4,(.ptr 1 0 0 0)),(70,(ow 2 0 q33)),(72,(ow 3 0 [q34]))],[(BG s0_0 q19.2),Cg,(ro 0 50 3 AD q33),(ro 0 50 3 AD [q34])]⟩:=(hA37 _ _ _).2 (by
       refine Ae [0,2,9] U (by kernel_rfl) (by decide) ⟨?_,?_,?_,trivial⟩
       ·refine Au.of (i:=0) rfl U (by rfl) ?_
        refine zq tb U (AA ⟨U,?_⟩)
        exact AF (by exact AG U) (AK (by kernel_rfl) ((hA37 _ _ _).1 A37_045678)) rfl
       ·refine Au.of (i:=2) rfl U (by rfl) ?_
        refine zq tb U (AA ⟨U,?_⟩)
        exact AF (by exact AG U) (AK (by kernel_rfl) ((hA37 _ _ _).1 A37_245678)) rfl
       ·refine Au.of (i:=9) rfl U (by rfl) ?_
        refine CB (l2:=[q34]) AM BV U U U U (EO U U C0) B8 gl35 U (AA ⟨U,?_⟩)
        exact AF (by refine Wk.trans (CA (L:=[(3,(.Al [(i64 p1.op),(i64 p1.num),(ls AD p1.kids)] 0)),(4,(.ptr 1 0 0 0)),(73,(ow 2 0 l35))]) (st':=[(BG s0_0 q19.2),Cg,(ro 0 50 3 AD l35),(ro 0 50 3 AD [q34])]) (.raw U U U (.raw U U U (.pure U (AB Ag) (.pure U (AB Ag) .nil)))) (.same U)) ?_;exact AS [0,1,2] U (by decide) rfl U (.raw U U (.raw U U (.pure (AB Ag) .nil))) (.same U)) (AK (by kernel_rfl) ((hA37 _ _ _).1 A37_456789)) rfl)
      have A37_4567:A37 8 #[false,false,false,false,true,true,true,true,false,false,false,false] ⟨85,Aa [(3,(.Al [(i64 p1.op),(i64 p1.num),(ls AD p1.kids)] 0)),(4,(.ptr 1 0 0 0)),(70,(ow 2 0 q33)),(71,(.agg [(i64 q34.op),(i64 q34.num),(ls AD q34.kids)]))],[(BG s0_0 q19.2),Cg,(ro 0 50 3 AD q33)]⟩:=(hA37 _ _ _).2 (by
       refine Ae [0,2,8] U (by kernel_rfl) (by decide) ⟨?_,?_,?_,trivial⟩
       ·refine Au.of (i:=0) rfl U (by rfl) ?_
        refine zq tb U (AA ⟨U,?_⟩)
        exact AF (by exact AG U) (AK (by kernel_rfl) ((hA37 _ _ _).1 A37_04567)) rfl
       ·refine Au.of (i:=2) rfl U (by rfl) ?_
        refine zq tb U (AA ⟨U,?_⟩)
        exact AF (by exact AG U) (AK (by kernel_rfl) ((hA37 _ _ _).1 A37_24567)) rfl
       ·refine Au.of (i:=8) rfl U (by rfl) ?_
        refine A3 (m:=3) (l:=[q34]) (enc:=AD) AM BV (by decide) rfl U (by simp only[List.map,Ap];rfl) rfl U U ?_
        refine AA ⟨U,?_⟩
        exact AF (by exact AG U) (AK (by kernel_rfl) ((hA37 _ _ _).1 A37_45678)) rfl)
      have A37_456:A37 9 #[false,false,false,false,true,true,true,false,false,false,false,false] ⟨85,Aa [(3,(.Al [(i64 p1.op),(i64 p1.num),(ls AD p1.kids)] 0)),(4,(.ptr 1 0 0 0)),(70,(ow 2 0 q33))],[(BG s0_0 q19.2),Cg,(ro 0 50 3 AD q33)]⟩:=(hA37 _ _ _).2 (by
       refine Ae [0,2,7] U (by kernel_rfl) (by decide) ⟨?_,?_,?_,trivial⟩
       ·refine Au.of (i:=0) rfl U (by rfl) ?_
        refine zq tb U (AA ⟨U,?_⟩)
        exact AF (by exact AG U) (AK (by kernel_rfl) ((hA37 _ _ _).1 A37_0456)) rfl
       ·refine Au.of (i:=2) rfl U (by rfl) ?_
        refine zq tb U (AA ⟨U,?_⟩)
        exact AF (by exact AG U) (AK (by kernel_rfl) ((hA37 _ _ _).1 A37_2456)) rfl
       ·refine Au.of (i:=7) rfl U (by rfl) ?_
        refine zc (v':=(.agg [(i64 q34.op),(i64 q34.num),(ls AD q34.kids)])) Gw (Br gq34) rfl U U (AA ⟨U,?_⟩)
        exact AF (by exact AG U) (AK (by kernel_rfl) ((hA37 _ _ _).1 A37_4567)) rfl)
      have A37_45:A37 10 #[false,false,false,false,true,true,false,false,false,false,false,false] ⟨85,Aa [(3,(.Al [(i64 p1.op),(i64 p1.num),(ls AD p1.kids)] 0)),(4,(.ptr 1 0 0 0)),(69,(ls AD p1.kids))],[(BG s0_0 q19.2),Cg]⟩:=(hA37 _ _ _).2 (by
       refine Ae [0,2,6] U (by kernel_rfl) (by decide) ⟨?_,?_,?_,trivial⟩
       ·refine Au.of (i:=0) rfl U (by rfl) ?_
        refine zq tb U (AA ⟨U,?_⟩)
        exact AF (by exact AG U) (AK (by kernel_rfl) ((hA37 _ _ _).1 A37_045)) rfl
       ·refine Au.of (i:=2) rfl U (by rfl) ?_
        refine zq tb U (AA ⟨U,?_⟩)
        exact AF (by exact AG U) (AK (by kernel_rfl) ((hA37 _ _ _).1 A37_245)) rfl
       ·refine Au.of (i:=6) rfl U (by rfl) ?_
        refine Bz (v':=(ow 2 0 q33)) AM JW (Cf gq33) rfl U ⟨(Bi Ag),trivial⟩ U U (AA ⟨U,?_⟩)
        exact AF (by exact AG U) (AK (by kernel_rfl) ((hA37 _ _ _).1 A37_456)) rfl)
      have A37_4:A37 11 #[false,false,false,false,true,false,false,false,false,false,false,false] ⟨85,Aa [(3,(.Al [(i64 p1.op),(i64 p1.num),(ls AD p1.kids)] 0)),(4,(.ptr 1 0 0 0)),(68,(.Al [(i64 p1.op),(i64 p1.num),(ls AD p1.kids)] 2))],[(BG s0_0 q19.2),Cg]⟩:=(hA37 _ _ _).2 (by
       refine Ae [0,2,5] U (by kernel_rfl) (by decide) ⟨?_,?_,?_,trivial⟩
       ·refine Au.of (i:=0) rfl U (by rfl) ?_
        refine zq tb U (AA ⟨U,?_⟩)
        exact AF (by exact AG U) (AK (by kernel_rfl) ((hA37 _ _ _).1 A37_04)) rfl
       ·refine Au.of (i:=2) rfl U (by rfl) ?_
        refine zq tb U (AA ⟨U,?_⟩)
        exact AF (by exact AG U) (AK (by kernel_rfl) ((hA37 _ _ _).1 A37_24)) rfl
       ·refine Au.of (i:=5) rfl U (by rfl) ?_
        refine zq tb U (AA ⟨U,?_⟩)
        exact AF (by exact AG U) (AK (by kernel_rfl) ((hA37 _ _ _).1 A37_45)) rfl)
      have A37_e:A37 12 #[false,false,false,false,false,false,false,false,false,false,false,false] ⟨85,Aa [(3,(.Al [(i64 p1.op),(i64 p1.num),(ls AD p1.kids)] 0)),(4,(.ptr 1 0 0 0))],[(BG s0_0 q19.2),Cg]⟩:=(hA37 _ _ _).2 (by
       refine Ae [0,2,4] U (by kernel_rfl) (by decide) ⟨?_,?_,?_,trivial⟩
       ·refine Au.of (i:=0) rfl U (by rfl) ?_
        refine zq tb U (AA ⟨U,?_⟩)
        exact AF (by exact AG U) (AK (by kernel_rfl) ((hA37 _ _ _).1 A37_0)) rfl
       ·refine Au.of (i:=2) rfl U (by rfl) ?_
        refine zq tb U (AA ⟨U,?_⟩)
        exact AF (by exact AG U) (AK (by kernel_rfl) ((hA37 _ _ _).1 A37_2)) rfl
       ·refine Au.of (i:=4) rfl U (by rfl) ?_
        refine zq tb U (AA ⟨U,?_⟩)
        exact AF (by exact AG U) (AK (by kernel_rfl) ((hA37 _ _ _).1 A37_4)) rfl)
      refine (hA37 _ _ _).2 ?_
      exact AF (by exact AG U) (AK (by kernel_rfl) ((hA37 _ _ _).1 A37_e)) rfl
     ·intro b31 h0
      refine zr tb U U ?_
      refine ci h0 U ?_ ?_ <;> clear h0
      ·intro b39 h0
       refine sr U fun K40 hK40=>zq tb U ?_
       refine A3 (m:=2) (l:=[(0:Int),1,2,5,100,-1]) (enc:=eI) AM A4 (by decide) rfl U U U U U ?_
       refine Ad (Wk.A7 (L:=[(4,(.ptr 1 0 0 0)),(77,(.ptr 0 0 0 0)),(78,(ls eI [(0:Int),1,2,5,100,-1]))]) (st':=[(BG s0_0 q19.2),Cg,⟨1,3,1,[]⟩]) (id:=2) rfl (show 1≤2 by decide) (AB fun _=>U) ⟨.rfl,.rfl,(.A7 U),trivial⟩ U) (bs h0 fun q41 gq41 h0=>?_)
       refine Bc (rows0:=[(BG s0_0 q19.2)]) (rows1:=[(BG s0_0 q41.2)]) (st':=[(BG s0_0 q41.2),Cg,⟨1,3,1,[]⟩]) (v':=(i64 q41.1)) [0] AM H5 (BU gq41) rfl (by decide) rfl U (.raw U U .nil) rfl U (.raw U U .nil) .nil U U ?_
       refine bs h0 fun q42 gq42 h0=>zc (v':=(.agg [(i64 q42.op),(i64 q42.num),(ls AD q42.kids)])) Gv (Bm gq42) rfl U U (Az AM BN U U U U U U (show 0+3≤3 by decide) rfl (dn hK40 U ?_))
       replace h0:=Sh.AE h0
       subst r
       exact AU (Exists.intro _ (And.intro ((AS (L:=[(4,(.ptr 1 0 0 0))]) (st':=[(BG s0_0 q41.2),(Vu q42.op q42.num q42.kids)]) [0,1] U (by decide) rfl U (.raw U U (.raw U U .nil)) (.same U)).trans (Ah (L:=[(4,(.ptr 1 0 0 0))]) (.same U))) (A9 (x:=.tmp 4) (off:=0) (cs:=[(i64 q42.op),(i64 q42.num),(ls AD q42.kids)]) (vs:=[(i64 q42.op),(i64 q42.num),(ls AD q42.kids)]) BN U U U (show 0+3≤3 by decide) rfl _ ⟨U,U⟩)))
      ·intro b39 h0
       refine AR (hK17 _ (sr U fun K43 hK43=>zq tb U ?_))
       refine A3 (m:=2) (l:=[(0:Int),1000,-1000,5]) (enc:=eI) AM A4 (by decide) rfl U U U U U ?_
       refine Ad (Wk.A7 (L:=[(4,(.ptr 1 0 0 0)),(81,(.ptr 0 0 0 0)),(82,(ls eI [(0:Int),1000,-1000,5]))]) (st':=[(BG s0_0 q19.2),Cg,⟨1,3,1,[]⟩]) (id:=2) rfl (show 1≤2 by decide) (AB fun _=>U) ⟨.rfl,.rfl,(.A7 U),trivial⟩ U) (bs h0 fun q44 gq44 h0=>?_)
       refine Bc (rows0:=[(BG s0_0 q19.2)]) (rows1:=[(BG s0_0 q44.2)]) (st':=[(BG s0_0 q44.2),Cg,⟨1,3,1,[]⟩]) (v':=(i64 q44.1)) [0] AM H5 (BU gq44) rfl (by decide) rfl U (.raw U U .nil) rfl U (.raw U U .nil) .nil U U ?_
       refine bs h0 fun q45 gq45 h0=>zc (v':=(.agg [(i64 q45.op),(i64 q45.num),(ls AD q45.kids)])) Gw (Br gq45) rfl U U (Az AM BN U U U U U U (show 0+3≤3 by decide) rfl (dn hK43 U ?_))
       replace h0:=Sh.AE h0
       subst r
       exact AU (Exists.intro _ (And.intro ((AS (L:=[(4,(.ptr 1 0 0 0))]) (st':=[(BG s0_0 q44.2),(Vu q45.op q45.num q45.kids)]) [0,1] U (by decide) rfl U (.raw U U (.raw U U .nil)) (.same U)).trans (Ah (L:=[(4,(.ptr 1 0 0 0))]) (.same U))) (A9 (x:=.tmp 4) (off:=0) (cs:=[(i64 q45.op),(i64 q45.num),(ls AD q45.kids)]) (vs:=[(i64 q45.op),(i64 q45.num),(ls AD q45.kids)]) BN U U U (show 0+3≤3 by decide) rfl _ ⟨U,U⟩)))
 refine AL U (zm tb 2 U (zl tb U U (zm tb 2 U ?_)))
 rcases Sh.Am h1 with ⟨b46,h1⟩ | ⟨b46,h1⟩
 ·refine zg tb b46 U (bs h1 fun q47 gq47 h1=>?_)
  refine Bc (rows0:=[(BG s0_0 s0_1)]) (rows1:=[(BG s0_0 q47.2)]) (st':=[(BG s0_0 q47.2),⟨1,50,3,[]⟩,Cg]) (v':=(i64 q47.1)) [0] (Bw U U b46) Ez (Av gq47) rfl (by decide) rfl U (.raw U U .nil) rfl U (.raw U U .nil) .nil U U ?_
  refine zg tb b46 U (zt b46 U ?_)
  exact AA (M6 (decide (0 < q47.1)) q47.2 (Sh.AE h1).symm _ (AS [0,2] U (by decide) rfl U (.raw U U (.raw U U .nil)) (.same U)))
 ·refine zs b46 U (zs b46 U (zs b46 U (zf b46 U ?_)))
  exact AA (M6 false s0_1 (Sh.AE h1).symm _ (AS [0,2] U (by decide) rfl U (.raw U U (.raw U U .nil)) (.same U)))

theorem PX {N:Nat} :∀(n:Nat),∀{s0_0:(List Int)} {s0_1:Int} {p1:AP} {r:AP×Int},HC N n s0_0 s0_1 p1=some r→Ai Try.prog 84 [(.ptr 0 0 0 0),(.agg [(i64 p1.op),(i64 p1.num),(ls AD p1.kids)])] [(BG s0_0 s0_1)] (fun v st=>v=(.agg [(i64 r.1.op),(i64 r.1.num),(ls AD r.1.kids)])∧st=[(BG s0_0 r.2)]):=by
 intro n
 induction n with
 | zero=>intro s0_0 s0_1 p1 r h0;cases h0
 | succ n ih=>
  intro s0_0 s0_1 p1 r h0
  rw[HC] at h0
  exact Pp (fun h=>ih h) h0
theorem RK {N:Nat} :∀{s0_0:(List Int)} {s0_1:Int} {p1:AP} {r:AP×Int},NF N s0_0 s0_1 p1=some r→Ai Try.prog 84 [(.ptr 0 0 0 0),(.agg [(i64 p1.op),(i64 p1.num),(ls AD p1.kids)])] [(BG s0_0 s0_1)] (fun v st=>v=(.agg [(i64 r.1.op),(i64 r.1.num),(ls AD r.1.kids)])∧st=[(BG s0_0 r.2)]):=by
 intro s0_0 s0_1 p1 r h0
 exact PX N h0
theorem OK {s0_0:(List Int)} {s0_1:Int} {r:(List Ac)×Int} (h0:G6 s0_0 s0_1=some r):Ai Try.prog 85 [(.ptr 0 0 0 0)] [(BG s0_0 s0_1)] (fun v st=>v=(ow 1 0 r.1)∧st=[(BG s0_0 r.2),(ro 0 80 3 AI r.1)]):=by
 unfold G6 at h0
 refine ai Try.func85 U U U U (zr tb U U (sr U fun K2 hK2=>zq tb U (bs h0 fun q3 gq3 h0=>?_)))
 refine Hk (rowsP:=[(BG s0_0 s0_1)]) (rows0:=[(BG s0_0 s0_1)]) (rows1:=[(BG s0_0 q3.2)]) (rows2:=[(ro 0 80 3 AI q3.1)]) (rows1':=[(BG s0_0 q3.2)]) (rows2':=[(ro 0 80 3 AI q3.1)]) (st':=[(BG s0_0 q3.2),(ro 0 80 3 AI q3.1)]) (v':=(ow 1 0 q3.1)) [0] AM Xo (JP gq3) rfl (by decide) rfl U (.raw U U .nil) rfl U (.raw U U .nil) (.pure (AB fun _=>U) .nil) rfl U ?_
 refine zq tb U (dn hK2 U (sr U fun K4 hK4=>zm tb 2 U (zz (i64 (Sh.len q3.1)) (CW R9 U U U) rfl (bs h0 fun q5 gq5 h0=>?_))))
 refine Bc (rows0:=[(BG s0_0 q3.2)]) (rows1:=[(BG s0_0 q5.2)]) (st':=[(BG s0_0 q5.2),(ro 0 80 3 AI q3.1)]) (v':=(i64 q5.1)) [0] AM Ez (Av gq5) rfl (by decide) rfl U (.raw U U .nil) rfl U (.raw U U .nil) .nil U U ?_
 refine zq tb U (dn hK4 U (AH fun K6 hK6=>bs h0 fun o9 h1 h0=>?_))
 have M9 :∀(f7:Int) (l8:(List Ac)),o9=(f7,l8)→∀s,Wk 1 s ⟨89,Aa [(3,(ow 1 0 l8))],[(BG s0_0 f7),(ro 0 80 3 AI l8)]⟩→K6 s:=by
  intro f7 l8 hq s hw
  subst o9
  try dsimp only at h0
  refine hK6 _ (AN hw (zr tb U U ?_))
  replace h0:=Sh.AE h0
  subst r
  exact AU (xr (Ah (L:=[(2,(ow 1 0 l8))]) (.same U)))
 refine sr U fun K11 hK11=>zq tb U (bs h1 fun q12 gq12 h1=>?_)
 refine Bc (rows0:=[(BG s0_0 q5.2)]) (rows1:=[(BG s0_0 q12.2)]) (st':=[(BG s0_0 q12.2),(ro 0 80 3 AI q3.1)]) (v':=(i64 q12.1)) [0] AM Ez (Av gq12) rfl (by decide) rfl U (.raw U U .nil) rfl U (.raw U U .nil) .nil U U ?_
 refine dn hK11 U (Ab (zr tb U U ?_))
 refine ci h1 U ?_ ?_ <;> clear h1
 ·intro b14 h1
  refine AL U (zm tb 3 U ?_)
  refine A3 (m:=2) (l:=[(-1:Int),5,0,2]) (enc:=eI) AM A4 (by decide) rfl U U U U U ?_
  refine Ad (Wk.A7 (L:=[(0,(.ptr 0 0 0 0)),(3,(ow 1 0 q3.1)),(15,(ow 1 0 q3.1)),(16,(i64 q5.1)),(17,(.ptr 0 0 0 0)),(18,(ls eI [(-1:Int),5,0,2]))]) (st':=[(BG s0_0 q12.2),(ro 0 80 3 AI q3.1),⟨1,3,1,[]⟩]) (id:=2) rfl (show 1≤2 by decide) (AB fun _=>U) ⟨.rfl,.rfl,.rfl,.rfl,.rfl,(.A7 U),trivial⟩ U) (bs h1 fun q15 gq15 h1=>?_)
  refine Bc (rows0:=[(BG s0_0 q12.2)]) (rows1:=[(BG s0_0 q15.2)]) (st':=[(BG s0_0 q15.2),(ro 0 80 3 AI q3.1),⟨1,3,1,[]⟩]) (v':=(i64 q15.1)) [0] AM H5 (BU gq15) rfl (by decide) rfl U (.raw U U .nil) rfl U (.raw U U .nil) .nil U U ?_
  refine zq tb U ?_
  refine A3 (m:=3) (l:=[(0:Int),1,5]) (enc:=eI) AM A4 (by decide) rfl U U U U U ?_
  refine Ad (Wk.A7 (L:=[(3,(ow 1 0 q3.1)),(15,(ow 1 0 q3.1)),(16,(i64 q5.1)),(19,(i64 q15.1)),(20,(.ptr 0 0 0 0)),(21,(ls eI [(0:Int),1,5]))]) (st':=[(BG s0_0 q15.2),(ro 0 80 3 AI q3.1),⟨1,3,1,[]⟩,⟨1,3,1,[]⟩]) (id:=3) rfl (show 1≤3 by decide) (AB fun _=>U) ⟨.rfl,.rfl,.rfl,.rfl,.rfl,(.A7 U),trivial⟩ U) (bs h1 fun q16 gq16 h1=>?_)
  refine Bc (rows0:=[(BG s0_0 q15.2)]) (rows1:=[(BG s0_0 q16.2)]) (st':=[(BG s0_0 q16.2),(ro 0 80 3 AI q3.1),⟨1,3,1,[]⟩,⟨1,3,1,[]⟩]) (v':=(i64 q16.1)) [0] AM H5 (BU gq16) rfl (by decide) rfl U (.raw U U .nil) rfl U (.raw U U .nil) .nil U U ?_
  refine zz (.agg [(i64 q15.1),(i64 q16.1),.zc]) (EF JH JN Eh U U) rfl (bs h1 fun c17 gc17 h1=>zz (.ptr 1 0 (Int.toNat q5.1) 0) (Bn ER U U U U gc17) rfl (Ad (Ah (L:=[(3,(ow 1 0 q3.1)),(23,(.agg [(i64 q15.1),(i64 q16.1),(.sl (List.map BJ []))])),(24,(.ptr 1 0 (Int.toNat q5.1) 0))]) ⟨.rfl,(.agg ⟨.rfl,.rfl,.zc,trivial⟩),.rfl,trivial⟩) (Gf (u':=(Ac.mk q15.1 q16.1 [])) AM Ht U U gc17 U U U (show 0+3≤3 by decide) rfl U ?_)))
  exact AA (M9 q16.2 (Sh.put q3.1 q5.1 (Ac.mk q15.1 q16.1 [])) (Sh.AE h1).symm _ (by refine Wk.trans (AS (L:=[(3,(.own 1 0 (List.length q3.1)))]) (st':=[⟨0,88,2,[[(.sl (List.map Dk s0_0)),(i64 q16.2)]]⟩,⟨0,80,3,List.map AI (Sh.put q3.1 q5.1 (Ac.mk q15.1 q16.1 []))⟩]) [0,1] U (by decide) rfl U (.raw U U (.pure (AB fun _=>U) .nil)) (.same U)) ?_;exact Ah (L:=[(3,(.own 1 0 (List.length (Sh.put q3.1 q5.1 (Ac.mk q15.1 q16.1 [])))))]) ⟨(.len (by simp only[Sh.FK])),trivial⟩))
 ·intro b14 h1
  refine zr tb U U ?_
  refine ci h1 U ?_ ?_ <;> clear h1
  ·intro b19 h1
   refine AL U (zm tb 3 U ?_)
   refine A3 (m:=2) (l:=[(-1:Int),0,4,5]) (enc:=eI) AM A4 (by decide) rfl U U U U U ?_
   refine Ad (Wk.A7 (L:=[(3,(ow 1 0 q3.1)),(27,(ow 1 0 q3.1)),(28,(i64 q5.1)),(29,(.ptr 0 0 0 0)),(30,(ls eI [(-1:Int),0,4,5]))]) (st':=[(BG s0_0 q12.2),(ro 0 80 3 AI q3.1),⟨1,3,1,[]⟩]) (id:=2) rfl (show 1≤2 by decide) (AB fun _=>U) ⟨.rfl,.rfl,.rfl,.rfl,(.A7 U),trivial⟩ U) (bs h1 fun q20 gq20 h1=>?_)
   refine Bc (rows0:=[(BG s0_0 q12.2)]) (rows1:=[(BG s0_0 q20.2)]) (st':=[(BG s0_0 q20.2),(ro 0 80 3 AI q3.1),⟨1,3,1,[]⟩]) (v':=(i64 q20.1)) [0] AM H5 (BU gq20) rfl (by decide) rfl U (.raw U U .nil) rfl U (.raw U U .nil) .nil U U ?_
   refine A3 (m:=3) (l:=[q20.1]) (enc:=eI) AM A4 (by decide) rfl U U U U U ?_
   refine Ad (Wk.A7 (L:=[(3,(ow 1 0 q3.1)),(27,(ow 1 0 q3.1)),(28,(i64 q5.1)),(32,(ls eI [q20.1]))]) (st':=[(BG s0_0 q20.2),(ro 0 80 3 AI q3.1),⟨1,3,1,[]⟩,⟨1,3,1,[]⟩]) (id:=3) rfl (show 1≤3 by decide) (AB fun _=>U) ⟨.rfl,.rfl,.rfl,(.A7 U),trivial⟩ U) (bs h1 fun q21 gq21 h1=>zc (v':=(.agg (BJ q21))) HM (Cm gq21) rfl U U ?_)
   refine A3 (m:=4) (l:=[(0:Int),0,0,0]) (enc:=eI) AM A4 (by decide) rfl U U U U U ?_
   refine Ad (Wk.A7 (L:=[(3,(ow 1 0 q3.1)),(27,(ow 1 0 q3.1)),(28,(i64 q5.1)),(33,(.agg (BJ q21))),(34,(ls eI [(0:Int),0,0,0]))]) (st':=[(BG s0_0 q20.2),(ro 0 80 3 AI q3.1),⟨1,3,1,[]⟩,⟨1,3,1,[]⟩,⟨1,3,1,[]⟩]) (id:=4) rfl (show 1≤4 by decide) (AB fun _=>U) ⟨.rfl,.rfl,.rfl,.rfl,(.A7 U),trivial⟩ U) (bs h1 fun q22 gq22 h1=>zc (v':=(.agg (BJ q22))) HM (Cm gq22) rfl U U ?_)
   refine A3 (m:=5) (l:=([]:List Int)) (enc:=eI) AM A4 (by decide) rfl U U U U U ?_
   refine Ad (Wk.A7 (L:=[(3,(ow 1 0 q3.1)),(27,(ow 1 0 q3.1)),(28,(i64 q5.1)),(33,(.agg (BJ q21))),(35,(.agg (BJ q22))),(36,(.sl (List.map eI [])))]) (st':=[(BG s0_0 q20.2),(ro 0 80 3 AI q3.1),⟨1,3,1,[]⟩,⟨1,3,1,[]⟩,⟨1,3,1,[]⟩,⟨1,3,1,[]⟩]) (id:=5) rfl (show 1≤5 by decide) (AB fun _=>U) ⟨.rfl,.rfl,.rfl,.rfl,.rfl,(.A7 U),trivial⟩ U) (bs h1 fun q23 gq23 h1=>zc (v':=(.agg (BJ q23))) HM (Cm gq23) rfl U U ?_)
   refine A3 (m:=6) (l:=[q21,q22,q23]) (enc:=BJ) AM J9 (by decide) rfl U U U U U ?_
   refine zz (.agg [(i64 0),(i64 0),(ow 6 0 [q21,q22,q23])]) (EF JH JN Eh U U) rfl (bs h1 fun c24 gc24 h1=>zz (.ptr 1 0 (Int.toNat q5.1) 0) (Bn ER U U U U gc24) rfl (Ad (Wk.A7 (L:=[(3,(ow 1 0 q3.1)),(39,(.agg [(i64 0),(i64 0),(ls BJ [q21,q22,q23])])),(40,(.ptr 1 0 (Int.toNat q5.1) 0))]) (st':=[(BG s0_0 q20.2),(ro 0 80 3 AI q3.1),⟨1,3,1,[]⟩,⟨1,3,1,[]⟩,⟨1,3,1,[]⟩,⟨1,3,1,[]⟩,⟨1,130,1,[]⟩]) (id:=6) rfl (show 1≤6 by decide) (AB fun _=>U) ⟨.rfl,(.agg ⟨.rfl,.rfl,(.Gj U),trivial⟩),.rfl,trivial⟩ U) (Gf (u':=(Ac.mk 0 0 [q21,q22,q23])) AM Ht U U gc24 U U U (show 0+3≤3 by decide) rfl U ?_)))
   exact AA (M9 q20.2 (Sh.put q3.1 q5.1 (Ac.mk 0 0 [q21,q22,q23])) (Sh.AE h1).symm _ (by refine Wk.trans (AS (L:=[(3,(.own 1 0 (List.length q3.1)))]) (st':=[⟨0,88,2,[[(.sl (List.map Dk s0_0)),(i64 q20.2)]]⟩,⟨0,80,3,List.map AI (Sh.put q3.1 q5.1 (Ac.mk 0 0 [q21,q22,q23]))⟩]) [0,1] U (by decide) rfl U (.raw U U (.pure (AB fun _=>U) .nil)) (.same U)) ?_;exact Ah (L:=[(3,(.own 1 0 (List.length (Sh.put q3.1 q5.1 (Ac.mk 0 0 [q21,q22,q23])))))]) ⟨(.len (by simp only[Sh.FK])),trivial⟩))
  ·intro b19 h1
   refine zr tb U U ?_
   refine ci h1 U ?_ ?_ <;> clear h1
   ·intro b26 h1
    refine AL U (zm tb 4 U ?_)
    refine A3 (m:=2) (l:=[Sh.w (q5.1+1)]) (enc:=eI) AM A4 (by decide) rfl U U U U U ?_
    refine Ad (Wk.A7 (L:=[(3,(ow 1 0 q3.1)),(43,(ow 1 0 q3.1)),(44,(i64 q5.1)),(47,(ls eI [Sh.w (q5.1+1)]))]) (st':=[(BG s0_0 q12.2),(ro 0 80 3 AI q3.1),⟨1,3,1,[]⟩]) (id:=2) rfl (show 1≤2 by decide) (AB fun _=>U) ⟨.rfl,.rfl,.rfl,(.A7 U),trivial⟩ U) (bs h1 fun q27 gq27 h1=>zc (v':=(.agg (BJ q27))) HM (Cm gq27) rfl U U ?_)
    refine A3 (m:=3) (l:=[q27]) (enc:=BJ) AM J9 (by decide) rfl U U U U U ?_
    refine zz (.agg [(i64 0),(i64 0),(ow 3 0 [q27])]) (EF JH JN Eh U U) rfl (bs h1 fun c28 gc28 h1=>zz (.ptr 1 0 (Int.toNat q5.1) 0) (Bn ER U U U U gc28) rfl (Ad (Wk.A7 (L:=[(3,(ow 1 0 q3.1)),(50,(.agg [(i64 0),(i64 0),(ls BJ [q27])])),(51,(.ptr 1 0 (Int.toNat q5.1) 0))]) (st':=[(BG s0_0 q12.2),(ro 0 80 3 AI q3.1),⟨1,3,1,[]⟩,⟨1,130,1,[]⟩]) (id:=3) rfl (show 1≤3 by decide) (AB fun _=>U) ⟨.rfl,(.agg ⟨.rfl,.rfl,(.Gj U),trivial⟩),.rfl,trivial⟩ U) (Gf (u':=(Ac.mk 0 0 [q27])) AM Ht U U gc28 U U U (show 0+3≤3 by decide) rfl U ?_)))
    exact AA (M9 q12.2 (Sh.put q3.1 q5.1 (Ac.mk 0 0 [q27])) (Sh.AE h1).symm _ (by refine Wk.trans (AS (L:=[(3,(.own 1 0 (List.length q3.1)))]) (st':=[⟨0,88,2,[[(.sl (List.map Dk s0_0)),(i64 q12.2)]]⟩,⟨0,80,3,List.map AI (Sh.put q3.1 q5.1 (Ac.mk 0 0 [q27]))⟩]) [0,1] U (by decide) rfl U (.raw U U (.pure (AB fun _=>U) .nil)) (.same U)) ?_;exact Ah (L:=[(3,(.own 1 0 (List.length (Sh.put q3.1 q5.1 (Ac.mk 0 0 [q27])))))]) ⟨(.len (by simp only[Sh.FK])),trivial⟩))
   ·intro b26 h1
    refine zr tb U U ?_
    refine ci h1 U ?_ ?_ <;> clear h1
    ·intro b30 h1
     refine AL U (zm tb 2 U ?_)
     refine A3 (m:=2) (l:=[(0:Int),2,1]) (enc:=eI) AM A4 (by decide) rfl U U U U U ?_
     refine Ad (Wk.A7 (L:=[(54,(ow 1 0 q3.1)),(55,(.ptr 0 0 0 0)),(56,(ls eI [(0:Int),2,1]))]) (st':=[(BG s0_0 q12.2),(ro 0 80 3 AI q3.1),⟨1,3,1,[]⟩]) (id:=2) rfl (show 1≤2 by decide) (AB fun _=>U) ⟨.rfl,.rfl,(.A7 U),trivial⟩ U) (bs h1 fun q31 gq31 h1=>?_)
     refine Bc (rows0:=[(BG s0_0 q12.2)]) (rows1:=[(BG s0_0 q31.2)]) (st':=[(BG s0_0 q31.2),(ro 0 80 3 AI q3.1),⟨1,3,1,[]⟩]) (v':=(i64 q31.1)) [0] AM H5 (BU gq31) rfl (by decide) rfl U (.raw U U .nil) rfl U (.raw U U .nil) .nil U U ?_
     refine zz (.agg [(i64 2),(i64 q31.1),.zc]) (EF JH JN Eh U U) rfl (Ad (Ah (L:=[(54,(ow 1 0 q3.1)),(58,(.agg [(i64 2),(i64 q31.1),(.sl (List.map BJ []))]))]) ⟨.rfl,(.agg ⟨.rfl,.rfl,.zc,trivial⟩),trivial⟩) ?_)
     refine A3 (m:=3) (l:=([(Ac.mk 2 q31.1 [])])) (enc:=AI) AM ER (by decide) rfl U U U U U ?_
     refine bs h1 fun l32 gl32 h1=>CB (l2:=([(Ac.mk 2 q31.1 [])])) AM ER U U U U (EO U U) (fun _=>U) gl32 U (zq tb U ?_)
     exact AA (M9 q31.2 l32 (Sh.AE h1).symm _ (by refine Wk.trans (CA (L:=[(3,(ow 1 0 l32))]) (st':=[(BG s0_0 q31.2),(ro 0 80 3 AI l32),⟨0,3,1,[]⟩,(ro 0 80 3 AI ([(Ac.mk 2 q31.1 [])]))]) (.raw U U U (.pure U (AB fun _=>U) (.pure U (by intro x hx;cases hx) (.pure U (AB fun _=>U) .nil)))) (.same U)) ?_;exact AS [0,1] U (by decide) rfl U (.raw U U (.pure (AB fun _=>U) .nil)) (.same U)))
    ·intro b30 h1
     refine zr tb U U ?_
     refine ci h1 U ?_ ?_ <;> clear h1
     ·intro b34 h1
      refine AL U (zm tb 3 U (bs h1 fun q35 gq35 h1=>?_))
      refine Bc (rows0:=[(BG s0_0 q12.2)]) (rows1:=[(BG s0_0 q35.2)]) (st':=[(BG s0_0 q35.2),(ro 0 80 3 AI q3.1)]) (v':=(i64 q35.1)) [0] AM Ez (Av gq35) rfl (by decide) rfl U (.raw U U .nil) rfl U (.raw U U .nil) .nil U U ?_
      refine A3 (m:=2) (l:=([]:List Int)) (enc:=eI) AM A4 (by decide) rfl U U U U U ?_
      refine Ad (Wk.A7 (L:=[(0,(.ptr 0 0 0 0)),(3,(ow 1 0 q3.1)),(63,(ow 1 0 q3.1)),(64,(i64 q5.1)),(66,(i64 q35.1)),(67,(.sl (List.map eI [])))]) (st':=[(BG s0_0 q35.2),(ro 0 80 3 AI q3.1),⟨1,3,1,[]⟩]) (id:=2) rfl (show 1≤2 by decide) (AB fun _=>U) ⟨.rfl,.rfl,.rfl,.rfl,.rfl,(.A7 U),trivial⟩ U) (bs h1 fun q36 gq36 h1=>zc (v':=(.agg (BJ q36))) HM (Cm gq36) rfl U U ?_)
      refine A3 (m:=3) (l:=[(2:Int)]) (enc:=eI) AM A4 (by decide) rfl U U U U U ?_
      refine Ad (Wk.A7 (L:=[(0,(.ptr 0 0 0 0)),(3,(ow 1 0 q3.1)),(63,(ow 1 0 q3.1)),(64,(i64 q5.1)),(66,(i64 q35.1)),(68,(.agg (BJ q36))),(69,(ls eI [(2:Int)]))]) (st':=[(BG s0_0 q35.2),(ro 0 80 3 AI q3.1),⟨1,3,1,[]⟩,⟨1,3,1,[]⟩]) (id:=3) rfl (show 1≤3 by decide) (AB fun _=>U) ⟨.rfl,.rfl,.rfl,.rfl,.rfl,.rfl,(.A7 U),trivial⟩ U) (bs h1 fun q37 gq37 h1=>zc (v':=(.agg (BJ q37))) HM (Cm gq37) rfl U U ?_)
      refine A3 (m:=4) (l:=([]:List Int)) (enc:=eI) AM A4 (by decide) rfl U U U U U ?_
      refine Ad (Wk.A7 (L:=[(0,(.ptr 0 0 0 0)),(3,(ow 1 0 q3.1)),(63,(ow 1 0 q3.1)),(64,(i64 q5.1)),(66,(i64 q35.1)),(68,(.agg (BJ q36))),(70,(.agg (BJ q37))),(71,(.sl (List.map eI [])))]) (st':=[(BG s0_0 q35.2),(ro 0 80 3 AI q3.1),⟨1,3,1,[]⟩,⟨1,3,1,[]⟩,⟨1,3,1,[]⟩]) (id:=4) rfl (show 1≤4 by decide) (AB fun _=>U) ⟨.rfl,.rfl,.rfl,.rfl,.rfl,.rfl,.rfl,(.A7 U),trivial⟩ U) (bs h1 fun q38 gq38 h1=>zc (v':=(.agg (BJ q38))) HM (Cm gq38) rfl U U ?_)
      refine A3 (m:=5) (l:=([]:List Int)) (enc:=eI) AM A4 (by decide) rfl U U U U U ?_
      refine Ad (Wk.A7 (L:=[(0,(.ptr 0 0 0 0)),(3,(ow 1 0 q3.1)),(63,(ow 1 0 q3.1)),(64,(i64 q5.1)),(66,(i64 q35.1)),(68,(.agg (BJ q36))),(70,(.agg (BJ q37))),(72,(.agg (BJ q38))),(73,(.sl (List.map eI [])))]) (st':=[(BG s0_0 q35.2),(ro 0 80 3 AI q3.1),⟨1,3,1,[]⟩,⟨1,3,1,[]⟩,⟨1,3,1,[]⟩,⟨1,3,1,[]⟩]) (id:=5) rfl (show 1≤5 by decide) (AB fun _=>U) ⟨.rfl,.rfl,.rfl,.rfl,.rfl,.rfl,.rfl,.rfl,(.A7 U),trivial⟩ U) (bs h1 fun q39 gq39 h1=>zc (v':=(.agg (BJ q39))) HM (Cm gq39) rfl U U ?_)
      refine A3 (m:=6) (l:=[q36,q37,q38,q39]) (enc:=BJ) AM J9 (by decide) rfl U U U U U ?_
      refine zq tb U (bs h1 fun q40 gq40 h1=>?_)
      refine Bc (rows0:=[(BG s0_0 q35.2)]) (rows1:=[(BG s0_0 q40.2)]) (st':=[(BG s0_0 q40.2),(ro 0 80 3 AI q3.1),⟨1,3,1,[]⟩,⟨1,3,1,[]⟩,⟨1,3,1,[]⟩,⟨1,3,1,[]⟩,(ro 0 130 1 BJ [q36,q37,q38,q39])]) (v':=(i64 q40.1)) [0] AM Ez (Av gq40) rfl (by decide) rfl U (.raw U U .nil) rfl U (.raw U U .nil) .nil U U ?_
      refine Ad (Wk.A7 (L:=[(3,(ow 1 0 q3.1)),(63,(ow 1 0 q3.1)),(64,(i64 q5.1)),(66,(i64 q35.1)),(75,(ls BJ [q36,q37,q38,q39])),(77,(i64 q40.1))]) (st':=[(BG s0_0 q40.2),(ro 0 80 3 AI q3.1),⟨1,3,1,[]⟩,⟨1,3,1,[]⟩,⟨1,3,1,[]⟩,⟨1,3,1,[]⟩,⟨1,130,1,[]⟩]) (id:=6) rfl (show 1≤6 by decide) (AB fun _=>U) ⟨.rfl,.rfl,.rfl,.rfl,(.A7 U),.rfl,trivial⟩ U) (bs h1 fun l41 gl41 h1=>Nr (i:=q40.1) (j:=Sh.len [q36,q37,q38,q39]) AM J9 U U U (fun _=>U) gl41 (zz (.agg [(i64 q35.1),(i64 0),(ls BJ l41)]) (EF JH JN Eh U U) rfl (bs h1 fun c42 gc42 h1=>zz (.ptr 1 0 (Int.toNat q5.1) 0) (Bn ER U U U U gc42) rfl (Gf (u':=(Ac.mk q35.1 0 l41)) AM Ht U U gc42 U U U (show 0+3≤3 by decide) rfl U ?_))))
      exact AA (M9 q40.2 (Sh.put q3.1 q5.1 (Ac.mk q35.1 0 l41)) (Sh.AE h1).symm _ (by refine Wk.trans (AS (L:=[(3,(.own 1 0 (List.length q3.1)))]) (st':=[⟨0,88,2,[[(.sl (List.map Dk s0_0)),(i64 q40.2)]]⟩,⟨0,80,3,List.map AI (Sh.put q3.1 q5.1 (Ac.mk q35.1 0 l41))⟩]) [0,1] U (by decide) rfl U (.raw U U (.pure (AB fun _=>U) .nil)) (.same U)) ?_;exact Ah (L:=[(3,(.own 1 0 (List.length (Sh.put q3.1 q5.1 (Ac.mk q35.1 0 l41)))))]) ⟨(.len (by simp only[Sh.FK])),trivial⟩))
     ·intro b34 h1
      refine zr tb U U ?_
      refine ci h1 U ?_ ?_ <;> clear h1
      ·intro b44 h1
       refine AL U (zq tb U (zz (.agg [(i64 0),(i64 0),.zc]) (EF JH JN Eh U U) rfl (zz (.agg [(i64 3),(i64 0),.zc]) (EF JH JN Eh U U) rfl (Ad (Ah (L:=[(83,(ow 1 0 q3.1)),(84,(.agg [(i64 0),(i64 0),(.sl (List.map BJ []))])),(85,(.agg [(i64 3),(i64 0),.zc]))]) ⟨.rfl,(.agg ⟨.rfl,.rfl,.zc,trivial⟩),.rfl,trivial⟩) (Ad (Ah (L:=[(83,(ow 1 0 q3.1)),(84,(.agg [(i64 0),(i64 0),(.sl (List.map BJ []))])),(85,(.agg [(i64 3),(i64 0),(.sl (List.map BJ []))]))]) ⟨.rfl,.rfl,(.agg ⟨.rfl,.rfl,.zc,trivial⟩),trivial⟩) ?_)))))
       refine A3 (m:=2) (l:=([(Ac.mk 0 0 []),(Ac.mk 3 0 [])])) (enc:=AI) AM ER (by decide) rfl U U U U U ?_
       refine bs h1 fun l45 gl45 h1=>CB (l2:=([(Ac.mk 0 0 []),(Ac.mk 3 0 [])])) AM ER U U U U (EO U U) (fun _=>U) gl45 U (zq tb U ?_)
       exact AA (M9 q12.2 l45 (Sh.AE h1).symm _ (by refine Wk.trans (CA (L:=[(3,(ow 1 0 l45))]) (st':=[(BG s0_0 q12.2),(ro 0 80 3 AI l45),(ro 0 80 3 AI ([(Ac.mk 0 0 []),(Ac.mk 3 0 [])]))]) (.raw U U U (.pure U (AB fun _=>U) (.pure U (AB fun _=>U) .nil))) (.same U)) ?_;exact AS [0,1] U (by decide) rfl U (.raw U U (.pure (AB fun _=>U) .nil)) (.same U)))
      ·intro b44 h1
       exact AR (M9 q12.2 q3.1 (Sh.AE h1).symm _ (AG U))
end Go.Proofs.Ytpahalfiiahddaa


