import Derived.Test.YtpahalfiiahddaaProg
import Derived.Test.YtpahalfiiahddaaGHADefsToFCDefs
import Derived.Test.YtpahalfiiahddaaFCWalkP1
namespace Go.Proofs.Ytpahalfiiahddaa
open Go Go.Abs RC
attribute [local irreducible] Go.Abs.Co
set_option maxRecDepth 100000
set_option maxHeartbeats 4000000

noncomputable abbrev A6 (z0:List Int) (z1:Int):Go.Abs.Row:=⟨0,88,2,[[(ls Cr z0),(i64 z1)]]⟩
noncomputable abbrev CD:Go.Abs.Row:=⟨0,50,3,[[(i64 0),(i64 0),.zc]]⟩
noncomputable abbrev G6:Go.Abs.Row:=⟨0,31,2,[[.zc,.zc]]⟩
noncomputable abbrev Kq (z0:List Ac):Go.Abs.Row:=⟨0,31,2,[[(ls AI z0),.zc]]⟩
noncomputable abbrev Vr (z0:Int) (z1:Int) (z2:List AP):Go.Abs.Row:=⟨0,50,3,[[(i64 z0),(i64 z1),(ls AA z2)]]⟩
theorem Y2:Gr Try.prog 31=true:=by kernel_rfl
theorem YS:Hh Try.prog 31=some [(0,1),(1,1)]:=by kernel_rfl
theorem Wp:HR Try.prog 50 0=some 0:=by kernel_rfl
theorem UL:HR Try.prog 50 1=some 1:=by kernel_rfl
theorem UC:HR Try.prog 50 2=some 2:=by kernel_rfl
theorem JE:Au Try.prog 107=true:=by kernel_rfl
theorem YC:Au Try.prog 124=true:=by kernel_rfl
theorem XR:Au Try.prog 84=true:=by kernel_rfl
theorem XV:Au Try.prog 86=true:=by kernel_rfl
theorem IS:Au Try.prog 87=true:=by kernel_rfl
theorem Y7:Au Try.prog 88=true:=by kernel_rfl
theorem RR:DL Try.prog 28=true:=by kernel_rfl
theorem Oi:DL Try.prog 29=true:=by kernel_rfl
theorem RW:DL Try.prog 48=true:=by kernel_rfl
theorem XG:D7 Try.prog 48=some (false,1):=by kernel_rfl
theorem NS:Ge Try.prog 31=some [.zc,.zc]:=by kernel_rfl

theorem LR {N:Nat} {s0_0:(List Int)} {s0_1:Int} {r:Ai×Int} (h0:E9 N s0_0 s0_1=some r):Aj Try.prog 55 [(.ptr 0 0 0 0)] [(A6 s0_0 s0_1)] (fun v st=>v=(.agg [(ls AI r.1.decls),(ow 1 0 r.1.funcs)])∧st=[(A6 s0_0 r.2),(ro 0 52 5 AH r.1.funcs)]):=by
 unfold E9 at h0
 refine Aj.wk (r0:=(.agg [(ls AI r.1.decls),(ow 1 0 r.1.funcs)])) (st0:=[(A6 s0_0 r.2),(ro 0 52 5 AH r.1.funcs),⟨0,31,2,[[(ls AI r.1.decls),(ow 1 0 r.1.funcs)]]⟩]) ?_ (D0 (L:=[(0,(.agg [(ls AI r.1.decls),(ow 1 0 r.1.funcs)]))]) (st':=[(A6 s0_0 r.2),(ro 0 52 5 AH r.1.funcs)]) [0,1] U (by decide) rfl U (.raw U (.pure (AD fun _=>U) trivial)) ⟨.rfl,trivial⟩)
 refine ai Try.func55 U U U U (sr U fun K1 hK1=>A0 (m:=1) AK NS U U (dn hK1 U (sr U fun K2 hK2=>zq tb U (bs h0 fun q3 gq3 h0=>?_))))
 refine A4 (rowsP:=[(A6 s0_0 s0_1)]) (rows0:=[(A6 s0_0 s0_1)]) (rows1:=[(A6 s0_0 q3.2)]) (rows2:=[(ro 0 80 3 AI q3.1)]) (rows1':=[(A6 s0_0 q3.2)]) (rows2':=[(ro 0 80 3 AI q3.1)]) (st':=[(A6 s0_0 q3.2),G6,(ro 0 80 3 AI q3.1)]) (v':=(ow 2 0 q3.1)) [0] AK XV (JD gq3) rfl (by decide) rfl U (.raw U U .nil) rfl U (.raw U U .nil) (.pure (AD fun _=>U) .nil) rfl U ?_
 refine zz (.agg [(ow 2 0 q3.1),.zc]) (Dy Y2 YS NS U U) rfl (A0 (m:=3) AK NS U U (Af (Wk.BH (L:=[(0,(.ptr 0 0 0 0)),(2,(.ptr 1 0 0 0)),(3,(.ptr 3 0 0 0)),(12,(.agg [(ls AI q3.1),.zc]))]) (st':=[(A6 s0_0 q3.2),G6,⟨1,80,3,[]⟩,G6]) (id:=2) rfl (show 1≤2 by decide) (AD fun _=>U) ⟨.rfl,.rfl,.rfl,(.agg ⟨(.GJ U),.rfl,trivial⟩),trivial⟩ U) (Az AK Ee U U U U U U (show 0+2≤2 by decide) rfl (dn hK2 U (sr U fun K4 hK4=>?_)))))
 refine A8 (m:=4) (l:=[(1:Int)]) (enc:=eI) AK BF (by decide) rfl U U U U U ?_
 refine Af (Wk.BH (L:=[(0,(.ptr 0 0 0 0)),(2,(.ptr 1 0 0 0)),(3,(.ptr 3 0 0 0)),(13,(ls eI [(1:Int)]))]) (st':=[(A6 s0_0 q3.2),G6,⟨1,80,3,[]⟩,(Kq q3.1),⟨1,3,1,[]⟩]) (id:=4) rfl (show 1≤4 by decide) (AD fun _=>U) ⟨.rfl,.rfl,.rfl,(.BH U),trivial⟩ U) (bs h0 fun q5 gq5 h0=>zc (v':=(.agg [(ls eI q5.params),(i64 q5.result),(i64 q5.body.op),(i64 q5.body.num),(ls AA q5.body.kids)])) IS (CP gq5) rfl U U ?_)
 refine A8 (m:=5) (l:=[(1:Int),1]) (enc:=eI) AK BF (by decide) rfl U U U U U ?_
 refine Af (Wk.BH (L:=[(0,(.ptr 0 0 0 0)),(2,(.ptr 1 0 0 0)),(3,(.ptr 3 0 0 0)),(14,(.agg [(ls eI q5.params),(i64 q5.result),(i64 q5.body.op),(i64 q5.body.num),(ls AA q5.body.kids)])),(15,(ls eI [(1:Int),1]))]) (st':=[(A6 s0_0 q3.2),G6,⟨1,80,3,[]⟩,(Kq q3.1),⟨1,3,1,[]⟩,⟨1,3,1,[]⟩]) (id:=5) rfl (show 1≤5 by decide) (AD fun _=>U) ⟨.rfl,.rfl,.rfl,.rfl,(.BH U),trivial⟩ U) (bs h0 fun q6 gq6 h0=>zc (v':=(.agg [(ls eI q6.params),(i64 q6.result),(i64 q6.body.op),(i64 q6.body.num),(ls AA q6.body.kids)])) IS (CP gq6) rfl U U ?_)
 refine A8 (m:=6) (l:=[(1:Int)]) (enc:=eI) AK BF (by decide) rfl U U U U U ?_
 refine Af (Wk.BH (L:=[(0,(.ptr 0 0 0 0)),(2,(.ptr 1 0 0 0)),(3,(.ptr 3 0 0 0)),(14,(.agg [(ls eI q5.params),(i64 q5.result),(i64 q5.body.op),(i64 q5.body.num),(ls AA q5.body.kids)])),(16,(.agg [(ls eI q6.params),(i64 q6.result),(i64 q6.body.op),(i64 q6.body.num),(ls AA q6.body.kids)])),(17,(ls eI [(1:Int)]))]) (st':=[(A6 s0_0 q3.2),G6,⟨1,80,3,[]⟩,(Kq q3.1),⟨1,3,1,[]⟩,⟨1,3,1,[]⟩,⟨1,3,1,[]⟩]) (id:=6) rfl (show 1≤6 by decide) (AD fun _=>U) ⟨.rfl,.rfl,.rfl,.rfl,.rfl,(.BH U),trivial⟩ U) (bs h0 fun q7 gq7 h0=>zc (v':=(.agg [(ls eI q7.params),(i64 q7.result),(i64 q7.body.op),(i64 q7.body.num),(ls AA q7.body.kids)])) IS (CP gq7) rfl U U ?_)
 refine A8 (m:=7) (l:=[(1:Int),0]) (enc:=eI) AK BF (by decide) rfl U U U U U ?_
 refine Af (Wk.BH (L:=[(0,(.ptr 0 0 0 0)),(2,(.ptr 1 0 0 0)),(3,(.ptr 3 0 0 0)),(14,(.agg [(ls eI q5.params),(i64 q5.result),(i64 q5.body.op),(i64 q5.body.num),(ls AA q5.body.kids)])),(16,(.agg [(ls eI q6.params),(i64 q6.result),(i64 q6.body.op),(i64 q6.body.num),(ls AA q6.body.kids)])),(18,(.agg [(ls eI q7.params),(i64 q7.result),(i64 q7.body.op),(i64 q7.body.num),(ls AA q7.body.kids)])),(19,(ls eI [(1:Int),0]))]) (st':=[(A6 s0_0 q3.2),G6,⟨1,80,3,[]⟩,(Kq q3.1),⟨1,3,1,[]⟩,⟨1,3,1,[]⟩,⟨1,3,1,[]⟩,⟨1,3,1,[]⟩]) (id:=7) rfl (show 1≤7 by decide) (AD fun _=>U) ⟨.rfl,.rfl,.rfl,.rfl,.rfl,.rfl,(.BH U),trivial⟩ U) (bs h0 fun q8 gq8 h0=>zc (v':=(.agg [(ls eI q8.params),(i64 q8.result),(i64 q8.body.op),(i64 q8.body.num),(ls AA q8.body.kids)])) IS (CP gq8) rfl U U ?_)
 refine A8 (m:=8) (l:=[(2:Int),1]) (enc:=eI) AK BF (by decide) rfl U U U U U ?_
 refine Af (Wk.BH (L:=[(0,(.ptr 0 0 0 0)),(2,(.ptr 1 0 0 0)),(3,(.ptr 3 0 0 0)),(14,(.agg [(ls eI q5.params),(i64 q5.result),(i64 q5.body.op),(i64 q5.body.num),(ls AA q5.body.kids)])),(16,(.agg [(ls eI q6.params),(i64 q6.result),(i64 q6.body.op),(i64 q6.body.num),(ls AA q6.body.kids)])),(18,(.agg [(ls eI q7.params),(i64 q7.result),(i64 q7.body.op),(i64 q7.body.num),(ls AA q7.body.kids)])),(20,(.agg [(ls eI q8.params),(i64 q8.result),(i64 q8.body.op),(i64 q8.body.num),(ls AA q8.body.kids)])),(21,(ls eI [(2:Int),1]))]) (st':=[(A6 s0_0 q3.2),G6,⟨1,80,3,[]⟩,(Kq q3.1),⟨1,3,1,[]⟩,⟨1,3,1,[]⟩,⟨1,3,1,[]⟩,⟨1,3,1,[]⟩,⟨1,3,1,[]⟩]) (id:=8) rfl (show 1≤8 by decide) (AD fun _=>U) ⟨.rfl,.rfl,.rfl,.rfl,.rfl,.rfl,.rfl,(.BH U),trivial⟩ U) (bs h0 fun q9 gq9 h0=>zc (v':=(.agg [(ls eI q9.params),(i64 q9.result),(i64 q9.body.op),(i64 q9.body.num),(ls AA q9.body.kids)])) IS (CP gq9) rfl U U ?_)
 refine A8 (m:=9) (l:=[(1:Int),1]) (enc:=eI) AK BF (by decide) rfl U U U U U ?_
 refine Af (Wk.BH (L:=[(0,(.ptr 0 0 0 0)),(2,(.ptr 1 0 0 0)),(3,(.ptr 3 0 0 0)),(14,(.agg [(ls eI q5.params),(i64 q5.result),(i64 q5.body.op),(i64 q5.body.num),(ls AA q5.body.kids)])),(16,(.agg [(ls eI q6.params),(i64 q6.result),(i64 q6.body.op),(i64 q6.body.num),(ls AA q6.body.kids)])),(18,(.agg [(ls eI q7.params),(i64 q7.result),(i64 q7.body.op),(i64 q7.body.num),(ls AA q7.body.kids)])),(20,(.agg [(ls eI q8.params),(i64 q8.result),(i64 q8.body.op),(i64 q8.body.num),(ls AA q8.body.kids)])),(22,(.agg [(ls eI q9.params),(i64 q9.result),(i64 q9.body.op),(i64 q9.body.num),(ls AA q9.body.kids)])),(23,(ls eI [(1:Int),1]))]) (st':=[(A6 s0_0 q3.2),G6,⟨1,80,3,[]⟩,(Kq q3.1),⟨1,3,1,[]⟩,⟨1,3,1,[]⟩,⟨1,3,1,[]⟩,⟨1,3,1,[]⟩,⟨1,3,1,[]⟩,⟨1,3,1,[]⟩]) (id:=9) rfl (show 1≤9 by decide) (AD fun _=>U) ⟨.rfl,.rfl,.rfl,.rfl,.rfl,.rfl,.rfl,.rfl,(.BH U),trivial⟩ U) (bs h0 fun q10 gq10 h0=>zc (v':=(.agg [(ls eI q10.params),(i64 q10.result),(i64 q10.body.op),(i64 q10.body.num),(ls AA q10.body.kids)])) IS (CP gq10) rfl U U ?_)
 refine A8 (m:=10) (l:=[q5,q6,q7,q8,q9,q10]) (enc:=AH) AK C3 (by decide) rfl U U U U U ?_
 refine zq tb U (dn hK4 U (sr U fun K11 hK11=>?_))
 refine A8 (m:=11) (l:=[(3:Int)]) (enc:=eI) AK BF (by decide) rfl U U U U U ?_
 refine Af (Wk.BH (L:=[(0,(.ptr 0 0 0 0)),(2,(.ptr 1 0 0 0)),(3,(.ptr 3 0 0 0)),(4,(ow 10 0 [q5,q6,q7,q8,q9,q10])),(26,(ls eI [(3:Int)]))]) (st':=[(A6 s0_0 q3.2),G6,⟨1,80,3,[]⟩,(Kq q3.1),⟨1,3,1,[]⟩,⟨1,3,1,[]⟩,⟨1,3,1,[]⟩,⟨1,3,1,[]⟩,⟨1,3,1,[]⟩,⟨1,3,1,[]⟩,(ro 0 52 5 AH [q5,q6,q7,q8,q9,q10]),⟨1,3,1,[]⟩]) (id:=11) rfl (show 1≤11 by decide) (AD fun _=>U) ⟨.rfl,.rfl,.rfl,.rfl,(.BH U),trivial⟩ U) (bs h0 fun q12 gq12 h0=>zc (v':=(.agg [(ls eI q12.params),(i64 q12.result),(i64 q12.body.op),(i64 q12.body.num),(ls AA q12.body.kids)])) IS (CP gq12) rfl U U ?_)
 refine A8 (m:=12) (l:=[(0:Int)]) (enc:=eI) AK BF (by decide) rfl U U U U U ?_
 refine Af (Wk.BH (L:=[(0,(.ptr 0 0 0 0)),(2,(.ptr 1 0 0 0)),(3,(.ptr 3 0 0 0)),(4,(ow 10 0 [q5,q6,q7,q8,q9,q10])),(27,(.agg [(ls eI q12.params),(i64 q12.result),(i64 q12.body.op),(i64 q12.body.num),(ls AA q12.body.kids)])),(28,(ls eI [(0:Int)]))]) (st':=[(A6 s0_0 q3.2),G6,⟨1,80,3,[]⟩,(Kq q3.1),⟨1,3,1,[]⟩,⟨1,3,1,[]⟩,⟨1,3,1,[]⟩,⟨1,3,1,[]⟩,⟨1,3,1,[]⟩,⟨1,3,1,[]⟩,(ro 0 52 5 AH [q5,q6,q7,q8,q9,q10]),⟨1,3,1,[]⟩,⟨1,3,1,[]⟩]) (id:=12) rfl (show 1≤12 by decide) (AD fun _=>U) ⟨.rfl,.rfl,.rfl,.rfl,.rfl,(.BH U),trivial⟩ U) (bs h0 fun q13 gq13 h0=>zc (v':=(.agg [(ls eI q13.params),(i64 q13.result),(i64 q13.body.op),(i64 q13.body.num),(ls AA q13.body.kids)])) IS (CP gq13) rfl U U ?_)
 refine A8 (m:=13) (l:=[(0:Int),1]) (enc:=eI) AK BF (by decide) rfl U U U U U ?_
 refine Af (Wk.BH (L:=[(0,(.ptr 0 0 0 0)),(2,(.ptr 1 0 0 0)),(3,(.ptr 3 0 0 0)),(4,(ow 10 0 [q5,q6,q7,q8,q9,q10])),(27,(.agg [(ls eI q12.params),(i64 q12.result),(i64 q12.body.op),(i64 q12.body.num),(ls AA q12.body.kids)])),(29,(.agg [(ls eI q13.params),(i64 q13.result),(i64 q13.body.op),(i64 q13.body.num),(ls AA q13.body.kids)])),(30,(ls eI [(0:Int),1]))]) (st':=[(A6 s0_0 q3.2),G6,⟨1,80,3,[]⟩,(Kq q3.1),⟨1,3,1,[]⟩,⟨1,3,1,[]⟩,⟨1,3,1,[]⟩,⟨1,3,1,[]⟩,⟨1,3,1,[]⟩,⟨1,3,1,[]⟩,(ro 0 52 5 AH [q5,q6,q7,q8,q9,q10]),⟨1,3,1,[]⟩,⟨1,3,1,[]⟩,⟨1,3,1,[]⟩]) (id:=13) rfl (show 1≤13 by decide) (AD fun _=>U) ⟨.rfl,.rfl,.rfl,.rfl,.rfl,.rfl,(.BH U),trivial⟩ U) (bs h0 fun q14 gq14 h0=>zc (v':=(.agg [(ls eI q14.params),(i64 q14.result),(i64 q14.body.op),(i64 q14.body.num),(ls AA q14.body.kids)])) IS (CP gq14) rfl U U ?_)
 refine A8 (m:=14) (l:=[(3:Int),0]) (enc:=eI) AK BF (by decide) rfl U U U U U ?_
 refine Af (Wk.BH (L:=[(0,(.ptr 0 0 0 0)),(2,(.ptr 1 0 0 0)),(3,(.ptr 3 0 0 0)),(4,(ow 10 0 [q5,q6,q7,q8,q9,q10])),(27,(.agg [(ls eI q12.params),(i64 q12.result),(i64 q12.body.op),(i64 q12.body.num),(ls AA q12.body.kids)])),(29,(.agg [(ls eI q13.params),(i64 q13.result),(i64 q13.body.op),(i64 q13.body.num),(ls AA q13.body.kids)])),(31,(.agg [(ls eI q14.params),(i64 q14.result),(i64 q14.body.op),(i64 q14.body.num),(ls AA q14.body.kids)])),(32,(ls eI [(3:Int),0]))]) (st':=[(A6 s0_0 q3.2),G6,⟨1,80,3,[]⟩,(Kq q3.1),⟨1,3,1,[]⟩,⟨1,3,1,[]⟩,⟨1,3,1,[]⟩,⟨1,3,1,[]⟩,⟨1,3,1,[]⟩,⟨1,3,1,[]⟩,(ro 0 52 5 AH [q5,q6,q7,q8,q9,q10]),⟨1,3,1,[]⟩,⟨1,3,1,[]⟩,⟨1,3,1,[]⟩,⟨1,3,1,[]⟩]) (id:=14) rfl (show 1≤14 by decide) (AD fun _=>U) ⟨.rfl,.rfl,.rfl,.rfl,.rfl,.rfl,.rfl,(.BH U),trivial⟩ U) (bs h0 fun q15 gq15 h0=>zc (v':=(.agg [(ls eI q15.params),(i64 q15.result),(i64 q15.body.op),(i64 q15.body.num),(ls AA q15.body.kids)])) IS (CP gq15) rfl U U ?_)
 refine A8 (m:=15) (l:=[(3:Int)]) (enc:=eI) AK BF (by decide) rfl U U U U U ?_
 refine Af (Wk.BH (L:=[(0,(.ptr 0 0 0 0)),(2,(.ptr 1 0 0 0)),(3,(.ptr 3 0 0 0)),(4,(ow 10 0 [q5,q6,q7,q8,q9,q10])),(27,(.agg [(ls eI q12.params),(i64 q12.result),(i64 q12.body.op),(i64 q12.body.num),(ls AA q12.body.kids)])),(29,(.agg [(ls eI q13.params),(i64 q13.result),(i64 q13.body.op),(i64 q13.body.num),(ls AA q13.body.kids)])),(31,(.agg [(ls eI q14.params),(i64 q14.result),(i64 q14.body.op),(i64 q14.body.num),(ls AA q14.body.kids)])),(33,(.agg [(ls eI q15.params),(i64 q15.result),(i64 q15.body.op),(i64 q15.body.num),(ls AA q15.body.kids)])),(34,(ls eI [(3:Int)]))]) (st':=[(A6 s0_0 q3.2),G6,⟨1,80,3,[]⟩,(Kq q3.1),⟨1,3,1,[]⟩,⟨1,3,1,[]⟩,⟨1,3,1,[]⟩,⟨1,3,1,[]⟩,⟨1,3,1,[]⟩,⟨1,3,1,[]⟩,(ro 0 52 5 AH [q5,q6,q7,q8,q9,q10]),⟨1,3,1,[]⟩,⟨1,3,1,[]⟩,⟨1,3,1,[]⟩,⟨1,3,1,[]⟩,⟨1,3,1,[]⟩]) (id:=15) rfl (show 1≤15 by decide) (AD fun _=>U) ⟨.rfl,.rfl,.rfl,.rfl,.rfl,.rfl,.rfl,.rfl,(.BH U),trivial⟩ U) (bs h0 fun q16 gq16 h0=>zc (v':=(.agg [(ls eI q16.params),(i64 q16.result),(i64 q16.body.op),(i64 q16.body.num),(ls AA q16.body.kids)])) IS (CP gq16) rfl U U ?_)
 refine A8 (m:=16) (l:=[(1:Int),3,0]) (enc:=eI) AK BF (by decide) rfl U U U U U ?_
 refine Af (Wk.BH (L:=[(0,(.ptr 0 0 0 0)),(2,(.ptr 1 0 0 0)),(3,(.ptr 3 0 0 0)),(4,(ow 10 0 [q5,q6,q7,q8,q9,q10])),(27,(.agg [(ls eI q12.params),(i64 q12.result),(i64 q12.body.op),(i64 q12.body.num),(ls AA q12.body.kids)])),(29,(.agg [(ls eI q13.params),(i64 q13.result),(i64 q13.body.op),(i64 q13.body.num),(ls AA q13.body.kids)])),(31,(.agg [(ls eI q14.params),(i64 q14.result),(i64 q14.body.op),(i64 q14.body.num),(ls AA q14.body.kids)])),(33,(.agg [(ls eI q15.params),(i64 q15.result),(i64 q15.body.op),(i64 q15.body.num),(ls AA q15.body.kids)])),(35,(.agg [(ls eI q16.params),(i64 q16.result),(i64 q16.body.op),(i64 q16.body.num),(ls AA q16.body.kids)])),(36,(ls eI [(1:Int),3,0]))]) (st':=[(A6 s0_0 q3.2),G6,⟨1,80,3,[]⟩,(Kq q3.1),⟨1,3,1,[]⟩,⟨1,3,1,[]⟩,⟨1,3,1,[]⟩,⟨1,3,1,[]⟩,⟨1,3,1,[]⟩,⟨1,3,1,[]⟩,(ro 0 52 5 AH [q5,q6,q7,q8,q9,q10]),⟨1,3,1,[]⟩,⟨1,3,1,[]⟩,⟨1,3,1,[]⟩,⟨1,3,1,[]⟩,⟨1,3,1,[]⟩,⟨1,3,1,[]⟩]) (id:=16) rfl (show 1≤16 by decide) (AD fun _=>U) ⟨.rfl,.rfl,.rfl,.rfl,.rfl,.rfl,.rfl,.rfl,.rfl,(.BH U),trivial⟩ U) (bs h0 fun q17 gq17 h0=>zc (v':=(.agg [(ls eI q17.params),(i64 q17.result),(i64 q17.body.op),(i64 q17.body.num),(ls AA q17.body.kids)])) IS (CP gq17) rfl U U ?_)
 refine A8 (m:=17) (l:=[q12,q13,q14,q15,q16,q17]) (enc:=AH) AK C3 (by decide) rfl U U U U U ?_
 refine zq tb U (dn hK11 U (sr U fun K18 hK18=>?_))
 refine A8 (m:=18) (l:=[(0:Int)]) (enc:=eI) AK BF (by decide) rfl U U U U U ?_
 refine Af (Wk.BH (L:=[(0,(.ptr 0 0 0 0)),(2,(.ptr 1 0 0 0)),(3,(.ptr 3 0 0 0)),(4,(ow 10 0 [q5,q6,q7,q8,q9,q10])),(5,(ow 17 0 [q12,q13,q14,q15,q16,q17])),(39,(ls eI [(0:Int)]))]) (st':=[(A6 s0_0 q3.2),G6,⟨1,80,3,[]⟩,(Kq q3.1),⟨1,3,1,[]⟩,⟨1,3,1,[]⟩,⟨1,3,1,[]⟩,⟨1,3,1,[]⟩,⟨1,3,1,[]⟩,⟨1,3,1,[]⟩,(ro 0 52 5 AH [q5,q6,q7,q8,q9,q10]),⟨1,3,1,[]⟩,⟨1,3,1,[]⟩,⟨1,3,1,[]⟩,⟨1,3,1,[]⟩,⟨1,3,1,[]⟩,⟨1,3,1,[]⟩,(ro 0 52 5 AH [q12,q13,q14,q15,q16,q17]),⟨1,3,1,[]⟩]) (id:=18) rfl (show 1≤18 by decide) (AD fun _=>U) ⟨.rfl,.rfl,.rfl,.rfl,.rfl,(.BH U),trivial⟩ U) (bs h0 fun q19 gq19 h0=>zc (v':=(.agg [(ls eI q19.params),(i64 q19.result),(i64 q19.body.op),(i64 q19.body.num),(ls AA q19.body.kids)])) IS (CP gq19) rfl U U ?_)
 refine A8 (m:=19) (l:=[(0:Int),0]) (enc:=eI) AK BF (by decide) rfl U U U U U ?_
 refine Af (Wk.BH (L:=[(0,(.ptr 0 0 0 0)),(2,(.ptr 1 0 0 0)),(3,(.ptr 3 0 0 0)),(4,(ow 10 0 [q5,q6,q7,q8,q9,q10])),(5,(ow 17 0 [q12,q13,q14,q15,q16,q17])),(40,(.agg [(ls eI q19.params),(i64 q19.result),(i64 q19.body.op),(i64 q19.body.num),(ls AA q19.body.kids)])),(41,(ls eI [(0:Int),0]))]) (st':=[(A6 s0_0 q3.2),G6,⟨1,80,3,[]⟩,(Kq q3.1),⟨1,3,1,[]⟩,⟨1,3,1,[]⟩,⟨1,3,1,[]⟩,⟨1,3,1,[]⟩,⟨1,3,1,[]⟩,⟨1,3,1,[]⟩,(ro 0 52 5 AH [q5,q6,q7,q8,q9,q10]),⟨1,3,1,[]⟩,⟨1,3,1,[]⟩,⟨1,3,1,[]⟩,⟨1,3,1,[]⟩,⟨1,3,1,[]⟩,⟨1,3,1,[]⟩,(ro 0 52 5 AH [q12,q13,q14,q15,q16,q17]),⟨1,3,1,[]⟩,⟨1,3,1,[]⟩]) (id:=19) rfl (show 1≤19 by decide) (AD fun _=>U) ⟨.rfl,.rfl,.rfl,.rfl,.rfl,.rfl,(.BH U),trivial⟩ U) (bs h0 fun q20 gq20 h0=>zc (v':=(.agg [(ls eI q20.params),(i64 q20.result),(i64 q20.body.op),(i64 q20.body.num),(ls AA q20.body.kids)])) IS (CP gq20) rfl U U ?_)
 refine A8 (m:=20) (l:=[(1:Int),0]) (enc:=eI) AK BF (by decide) rfl U U U U U ?_
 refine Af (Wk.BH (L:=[(0,(.ptr 0 0 0 0)),(2,(.ptr 1 0 0 0)),(3,(.ptr 3 0 0 0)),(4,(ow 10 0 [q5,q6,q7,q8,q9,q10])),(5,(ow 17 0 [q12,q13,q14,q15,q16,q17])),(40,(.agg [(ls eI q19.params),(i64 q19.result),(i64 q19.body.op),(i64 q19.body.num),(ls AA q19.body.kids)])),(42,(.agg [(ls eI q20.params),(i64 q20.result),(i64 q20.body.op),(i64 q20.body.num),(ls AA q20.body.kids)])),(43,(ls eI [(1:Int),0]))]) (st':=[(A6 s0_0 q3.2),G6,⟨1,80,3,[]⟩,(Kq q3.1),⟨1,3,1,[]⟩,⟨1,3,1,[]⟩,⟨1,3,1,[]⟩,⟨1,3,1,[]⟩,⟨1,3,1,[]⟩,⟨1,3,1,[]⟩,(ro 0 52 5 AH [q5,q6,q7,q8,q9,q10]),⟨1,3,1,[]⟩,⟨1,3,1,[]⟩,⟨1,3,1,[]⟩,⟨1,3,1,[]⟩,⟨1,3,1,[]⟩,⟨1,3,1,[]⟩,(ro 0 52 5 AH [q12,q13,q14,q15,q16,q17]),⟨1,3,1,[]⟩,⟨1,3,1,[]⟩,⟨1,3,1,[]⟩]) (id:=20) rfl (show 1≤20 by decide) (AD fun _=>U) ⟨.rfl,.rfl,.rfl,.rfl,.rfl,.rfl,.rfl,(.BH U),trivial⟩ U) (bs h0 fun q21 gq21 h0=>zc (v':=(.agg [(ls eI q21.params),(i64 q21.result),(i64 q21.body.op),(i64 q21.body.num),(ls AA q21.body.kids)])) IS (CP gq21) rfl U U ?_)
 refine A8 (m:=21) (l:=[(0:Int)]) (enc:=eI) AK BF (by decide) rfl U U U U U ?_
 refine Af (Wk.BH (L:=[(0,(.ptr 0 0 0 0)),(2,(.ptr 1 0 0 0)),(3,(.ptr 3 0 0 0)),(4,(ow 10 0 [q5,q6,q7,q8,q9,q10])),(5,(ow 17 0 [q12,q13,q14,q15,q16,q17])),(40,(.agg [(ls eI q19.params),(i64 q19.result),(i64 q19.body.op),(i64 q19.body.num),(ls AA q19.body.kids)])),(42,(.agg [(ls eI q20.params),(i64 q20.result),(i64 q20.body.op),(i64 q20.body.num),(ls AA q20.body.kids)])),(44,(.agg [(ls eI q21.params),(i64 q21.result),(i64 q21.body.op),(i64 q21.body.num),(ls AA q21.body.kids)])),(45,(ls eI [(0:Int)]))]) (st':=[(A6 s0_0 q3.2),G6,⟨1,80,3,[]⟩,(Kq q3.1),⟨1,3,1,[]⟩,⟨1,3,1,[]⟩,⟨1,3,1,[]⟩,⟨1,3,1,[]⟩,⟨1,3,1,[]⟩,⟨1,3,1,[]⟩,(ro 0 52 5 AH [q5,q6,q7,q8,q9,q10]),⟨1,3,1,[]⟩,⟨1,3,1,[]⟩,⟨1,3,1,[]⟩,⟨1,3,1,[]⟩,⟨1,3,1,[]⟩,⟨1,3,1,[]⟩,(ro 0 52 5 AH [q12,q13,q14,q15,q16,q17]),⟨1,3,1,[]⟩,⟨1,3,1,[]⟩,⟨1,3,1,[]⟩,⟨1,3,1,[]⟩]) (id:=21) rfl (show 1≤21 by decide) (AD fun _=>U) ⟨.rfl,.rfl,.rfl,.rfl,.rfl,.rfl,.rfl,.rfl,(.BH U),trivial⟩ U) (bs h0 fun q22 gq22 h0=>zc (v':=(.agg [(ls eI q22.params),(i64 q22.result),(i64 q22.body.op),(i64 q22.body.num),(ls AA q22.body.kids)])) IS (CP gq22) rfl U U ?_)
 refine A8 (m:=22) (l:=[q19,q20,q21,q22]) (enc:=AH) AK C3 (by decide) rfl U U U U U ?_
 refine zq tb U (dn hK18 U (AJ fun K23 hK23=>?_))
 refine AS (B6 (L:=[(0,(.ptr 0 0 0 0)),(2,(.ptr 1 0 0 0)),(3,(.ptr 3 0 0 0)),(4,(ow 10 0 [q5,q6,q7,q8,q9,q10])),(5,(ow 17 0 [q12,q13,q14,q15,q16,q17])),(6,(ow 22 0 [q19,q20,q21,q22]))]) (st':=[(A6 s0_0 q3.2),G6,⟨0,80,3,[]⟩,(Kq q3.1),⟨0,3,1,[]⟩,⟨0,3,1,[]⟩,⟨0,3,1,[]⟩,⟨0,3,1,[]⟩,⟨0,3,1,[]⟩,⟨0,3,1,[]⟩,(ro 0 52 5 AH [q5,q6,q7,q8,q9,q10]),⟨0,3,1,[]⟩,⟨0,3,1,[]⟩,⟨0,3,1,[]⟩,⟨0,3,1,[]⟩,⟨0,3,1,[]⟩,⟨0,3,1,[]⟩,(ro 0 52 5 AH [q12,q13,q14,q15,q16,q17]),⟨0,3,1,[]⟩,⟨0,3,1,[]⟩,⟨0,3,1,[]⟩,⟨0,3,1,[]⟩,(ro 0 52 5 AH [q19,q20,q21,q22])]) (.raw U U U (.raw U U U (.pure U (by intro x hx;cases hx) (.raw U U U (.pure U (by intro x hx;cases hx) (.pure U (by intro x hx;cases hx) (.pure U (by intro x hx;cases hx) (.pure U (by intro x hx;cases hx) (.pure U (by intro x hx;cases hx) (.pure U (by intro x hx;cases hx) (.pure U (AD fun _=>U) (.pure U (by intro x hx;cases hx) (.pure U (by intro x hx;cases hx) (.pure U (by intro x hx;cases hx) (.pure U (by intro x hx;cases hx) (.pure U (by intro x hx;cases hx) (.pure U (by intro x hx;cases hx) (.pure U (AD fun _=>U) (.pure U (by intro x hx;cases hx) (.pure U (by intro x hx;cases hx) (.pure U (by intro x hx;cases hx) (.pure U (by intro x hx;cases hx) (.pure U (AD fun _=>U) .nil))))))))))))))))))))))) ⟨.rfl,.rfl,.rfl,.rfl,.rfl,.rfl,trivial⟩) ?_
 refine BQ [G6,⟨0,80,3,[]⟩,(Kq q3.1),⟨0,3,1,[]⟩,⟨0,3,1,[]⟩,⟨0,3,1,[]⟩,⟨0,3,1,[]⟩,⟨0,3,1,[]⟩,⟨0,3,1,[]⟩,(ro 0 52 5 AH [q5,q6,q7,q8,q9,q10]),⟨0,3,1,[]⟩,⟨0,3,1,[]⟩,⟨0,3,1,[]⟩,⟨0,3,1,[]⟩,⟨0,3,1,[]⟩,⟨0,3,1,[]⟩,(ro 0 52 5 AH [q12,q13,q14,q15,q16,q17]),⟨0,3,1,[]⟩,⟨0,3,1,[]⟩,⟨0,3,1,[]⟩,⟨0,3,1,[]⟩,(ro 0 52 5 AH [q19,q20,q21,q22])] 23 (by kernel_rfl) (by kernel_rfl) (by kernel_rfl) (by rfl) ?_
 refine A1 AK (fun x0 zz=>Eu (l:=([]:List Int)) (enc:=eI) AK BF (by decide) rfl U U U U (AD fun _=>U) (AR U)) ?_
 refine bs h0 fun q24 gq24 h0=>A1 AK (fun x0 zz=>BX (v:=(.agg [(ls eI q24.params),(i64 q24.result),(i64 q24.body.op),(i64 q24.body.num),(ls AA q24.body.kids)])) AK IS (CP gq24) rfl U U (AR U)) (A1 AK (fun x0 zz=>A9 (v:=(ow 10 0 [q5,q6,q7,q8,q9,q10])) AK U (BO U) (AR U)) (A1 AK (fun x0 zz=>A9 (v:=(.ptr 0 0 0 0)) AK U (BO U) (AR U)) (A1 AK (fun x0 zz=>A9 (v:=(ow 10 0 [q5,q6,q7,q8,q9,q10])) AK U (BO U) (AR U)) (A1 AK (fun x0 zz=>A9 (v:=(i64 (Sh.len [q5,q6,q7,q8,q9,q10]))) AK U (Ch Oi U U U) (AR U)) (bs h0 fun q25 gq25 h0=>?_)))))
 refine B7 (rowsP:=[(A6 s0_0 q3.2)]) (rows0:=[(A6 s0_0 q3.2)]) (rows1:=[(A6 s0_0 q25.2)]) (rows1':=[(A6 s0_0 q25.2)]) (v':=(i64 q25.1)) (y0:=(A6 s0_0 q25.2)) [0] AK Ef (Aw gq25) rfl (by decide) rfl U (.raw U U .nil) rfl U (fun _=>(.raw U U .nil)) (fun _=>U) rfl ?_
 refine bs h0 fun c26 gc26 h0=>A1 AK (fun x0 zz=>A9 (v:=(.ptr 10 0 (Int.toNat q25.1) 0)) AK U (Br C3 U U U U gc26) (AR U)) (A1 AK (fun x0 zz=>A9 (v:=(.agg [(ls eI c26.params),(i64 c26.result),(i64 c26.body.op),(i64 c26.body.num),(ls AA c26.body.kids)])) AK U (BD IE U U (By gc26) (show 0+5≤5 by decide) rfl) (AR U)) (A1 AK (fun x0 zz=>A9 (v:=(ow 17 0 [q12,q13,q14,q15,q16,q17])) AK U (BO U) (AR U)) (A1 AK (fun x0 zz=>A9 (v:=(.ptr 0 0 0 0)) AK U (BO U) (AR U)) (A1 AK (fun x0 zz=>A9 (v:=(ow 17 0 [q12,q13,q14,q15,q16,q17])) AK U (BO U) (AR U)) (A1 AK (fun x0 zz=>A9 (v:=(i64 (Sh.len [q12,q13,q14,q15,q16,q17]))) AK U (Ch Oi U U U) (AR U)) (bs h0 fun q27 gq27 h0=>?_))))))
 refine B7 (rowsP:=[(A6 s0_0 q25.2)]) (rows0:=[(A6 s0_0 q25.2)]) (rows1:=[(A6 s0_0 q27.2)]) (rows1':=[(A6 s0_0 q27.2)]) (v':=(i64 q27.1)) (y0:=(A6 s0_0 q27.2)) [0] AK Ef (Aw gq27) rfl (by decide) rfl U (.raw U U .nil) rfl U (fun _=>(.raw U U .nil)) (fun _=>U) rfl ?_
 refine bs h0 fun c28 gc28 h0=>A1 AK (fun x0 zz=>A9 (v:=(.ptr 17 0 (Int.toNat q27.1) 0)) AK U (Br C3 U U U U gc28) (AR U)) (A1 AK (fun x0 zz=>A9 (v:=(.agg [(ls eI c28.params),(i64 c28.result),(i64 c28.body.op),(i64 c28.body.num),(ls AA c28.body.kids)])) AK U (BD IE U U (By gc28) (show 0+5≤5 by decide) rfl) (AR U)) (A1 AK (fun x0 zz=>A9 (v:=(ow 22 0 [q19,q20,q21,q22])) AK U (BO U) (AR U)) (A1 AK (fun x0 zz=>A9 (v:=(.ptr 0 0 0 0)) AK U (BO U) (AR U)) (A1 AK (fun x0 zz=>A9 (v:=(ow 22 0 [q19,q20,q21,q22])) AK U (BO U) (AR U)) (A1 AK (fun x0 zz=>A9 (v:=(i64 (Sh.len [q19,q20,q21,q22]))) AK U (Ch Oi U U U) (AR U)) (bs h0 fun q29 gq29 h0=>?_))))))
 refine B7 (rowsP:=[(A6 s0_0 q27.2)]) (rows0:=[(A6 s0_0 q27.2)]) (rows1:=[(A6 s0_0 q29.2)]) (rows1':=[(A6 s0_0 q29.2)]) (v':=(i64 q29.1)) (y0:=(A6 s0_0 q29.2)) [0] AK Ef (Aw gq29) rfl (by decide) rfl U (.raw U U .nil) rfl U (fun _=>(.raw U U .nil)) (fun _=>U) rfl ?_
 refine bs h0 fun c30 gc30 h0=>A1 AK (fun x0 zz=>A9 (v:=(.ptr 22 0 (Int.toNat q29.1) 0)) AK U (Br C3 U U U U gc30) (AR U)) (A1 AK (fun x0 zz=>A9 (v:=(.agg [(ls eI c30.params),(i64 c30.result),(i64 c30.body.op),(i64 c30.body.num),(ls AA c30.body.kids)])) AK U (BD IE U U (By gc30) (show 0+5≤5 by decide) rfl) (AR U)) (Da U ?_))
 refine A8 (m:=23) (l:=[q24,c26,c28,c30]) (enc:=AH) AK C3 (by decide) rfl U U U U U ?_
 refine zq tb U (Az AK MB U U U U U U (show 1+1≤2 by decide) rfl (dn hK23 U (sr U fun K31 hK31=>zq tb U ?_)))
 refine A8 (m:=24) (l:=[(4:Int),4,3,2,4]) (enc:=eI) AK BF (by decide) rfl U U U U U ?_
 refine Af (Wk.BH (L:=[(0,(.ptr 0 0 0 0)),(2,(.ptr 1 0 0 0)),(3,(.ptr 3 0 0 0)),(73,(.ptr 0 0 0 0)),(74,(ls eI [(4:Int),4,3,2,4]))]) (st':=[(A6 s0_0 q29.2),G6,⟨0,80,3,[]⟩,⟨0,31,2,[[(ls AI q3.1),(ow 23 0 [q24,c26,c28,c30])]]⟩,⟨0,3,1,[]⟩,⟨0,3,1,[]⟩,⟨0,3,1,[]⟩,⟨0,3,1,[]⟩,⟨0,3,1,[]⟩,⟨0,3,1,[]⟩,(ro 0 52 5 AH [q5,q6,q7,q8,q9,q10]),⟨0,3,1,[]⟩,⟨0,3,1,[]⟩,⟨0,3,1,[]⟩,⟨0,3,1,[]⟩,⟨0,3,1,[]⟩,⟨0,3,1,[]⟩,(ro 0 52 5 AH [q12,q13,q14,q15,q16,q17]),⟨0,3,1,[]⟩,⟨0,3,1,[]⟩,⟨0,3,1,[]⟩,⟨0,3,1,[]⟩,(ro 0 52 5 AH [q19,q20,q21,q22]),(ro 0 52 5 AH [q24,c26,c28,c30]),⟨1,3,1,[]⟩]) (id:=24) rfl (show 1≤24 by decide) (AD fun _=>U) ⟨.rfl,.rfl,.rfl,.rfl,(.BH U),trivial⟩ U) (bs h0 fun q32 gq32 h0=>?_)
 refine A4 (rowsP:=[(A6 s0_0 q29.2)]) (rows0:=[(A6 s0_0 q29.2)]) (rows1:=[(A6 s0_0 q32.2)]) (rows2:=[]) (rows1':=[(A6 s0_0 q32.2)]) (rows2':=[]) (st':=[(A6 s0_0 q32.2),G6,⟨0,80,3,[]⟩,⟨0,31,2,[[(ls AI q3.1),(ow 23 0 [q24,c26,c28,c30])]]⟩,⟨0,3,1,[]⟩,⟨0,3,1,[]⟩,⟨0,3,1,[]⟩,⟨0,3,1,[]⟩,⟨0,3,1,[]⟩,⟨0,3,1,[]⟩,(ro 0 52 5 AH [q5,q6,q7,q8,q9,q10]),⟨0,3,1,[]⟩,⟨0,3,1,[]⟩,⟨0,3,1,[]⟩,⟨0,3,1,[]⟩,⟨0,3,1,[]⟩,⟨0,3,1,[]⟩,(ro 0 52 5 AH [q12,q13,q14,q15,q16,q17]),⟨0,3,1,[]⟩,⟨0,3,1,[]⟩,⟨0,3,1,[]⟩,⟨0,3,1,[]⟩,(ro 0 52 5 AH [q19,q20,q21,q22]),(ro 0 52 5 AH [q24,c26,c28,c30]),⟨1,3,1,[]⟩]) (v':=(i64 q32.1)) [0] AK HZ (BV gq32) rfl (by decide) rfl U (.raw U U .nil) rfl U (.raw U U .nil) .nil U U ?_
 refine zq tb U (dn hK31 U (sr U fun K33 hK33=>zm tb 3 U (bs h0 fun l34 gl34 h0=>UQ AK C3 U U U U gl34 U (zq tb U (Az AK MB U U U U U U (show 1+1≤2 by decide) rfl (dn hK33 U (AJ fun K35 hK35=>zr tb U U (bs h0 fun o42 h1 h0=>?_))))))))
 have M42 :∀(f40:Int) (l41:(List Ar)),o42=(f40,l41)→∀s,Wk 1 s ⟨110,Ab [(2,(.ptr 1 0 0 0)),(3,(.ptr 2 0 0 0))],[(A6 s0_0 f40),G6,⟨0,31,2,[[(ls AI q3.1),(ow 3 0 l41)]]⟩,(ro 0 52 5 AH l41)]⟩→K35 s:=by
  intro f40 l41 hq s hw
  subst o42
  try dsimp only at h0
  refine hK35 _ (AS hw (sr U fun K43 hK43=>zq tb U (Az AK Ee U U U U U U (show 0+2≤2 by decide) rfl (dn hK43 U ?_))))
  replace h0:=Sh.AE h0
  subst r
  exact AZ (Exists.intro _ (And.intro ((IJ (L:=[(2,(.ptr 2 0 0 0))]) (st':=[(A6 s0_0 f40),(ro 0 52 5 AH l41),⟨0,31,2,[[(ls AI q3.1),(ow 1 0 l41)]]⟩]) (st1:=[(A6 s0_0 f40),(ro 0 52 5 AH l41),⟨0,31,2,[[(ls AI q3.1),(ow 3 0 l41)]]⟩]) [0,3,1] U (.raw U U .nil) (by decide) rfl U (.raw U U (.pure (AD fun _=>U) (.raw U U .nil))) ⟨.rfl,trivial⟩).trans (Ah (L:=[(2,(.ptr 2 0 0 0))]) ⟨.rfl,trivial⟩)) (BD (x:=.tmp 2) (off:=0) (cs:=[(ls AI q3.1),(ow 1 0 l41)]) (vs:=[(ls AI q3.1),(ow 1 0 l41)]) Ee U U U (show 0+2≤2 by decide) rfl _ ⟨U,U⟩)))
 refine Ae (A5 (σ:=Int×Int×(List Ar)) (fun n v=>Cm N s0_0 q3 n v.1 v.2.1 v.2.2=some o42) (fun (f37,f38,l39)=>⟨110,Ab [(0,(.ptr 0 0 0 0)),(2,(.ptr 1 0 0 0)),(3,(.ptr 2 0 0 0)),(8,(i64 f37))],[(A6 s0_0 f38),G6,⟨0,31,2,[[(ls AI q3.1),(ow 3 0 l39)]]⟩,(ro 0 52 5 AH l39)]⟩) N (Sh.w (q32.1 - 1),q32.2,l34) h1 (by refine Wk.trans (B6 (L:=[(0,(.ptr 0 0 0 0)),(2,(.ptr 1 0 0 0)),(3,(.ptr 3 0 0 0)),(8,(i64 (Sh.w (q32.1 - 1))))]) (st':=[(A6 s0_0 q32.2),G6,⟨0,80,3,[]⟩,⟨0,31,2,[[(ls AI q3.1),(ow 23 0 l34)]]⟩,⟨0,3,1,[]⟩,⟨0,3,1,[]⟩,⟨0,3,1,[]⟩,⟨0,3,1,[]⟩,⟨0,3,1,[]⟩,⟨0,3,1,[]⟩,(ro 0 52 5 AH [q5,q6,q7,q8,q9,q10]),⟨0,3,1,[]⟩,⟨0,3,1,[]⟩,⟨0,3,1,[]⟩,⟨0,3,1,[]⟩,⟨0,3,1,[]⟩,⟨0,3,1,[]⟩,(ro 0 52 5 AH [q12,q13,q14,q15,q16,q17]),⟨0,3,1,[]⟩,⟨0,3,1,[]⟩,⟨0,3,1,[]⟩,⟨0,3,1,[]⟩,(ro 0 52 5 AH [q19,q20,q21,q22]),(ro 0 52 5 AH l34),⟨0,3,1,[]⟩]) (.raw U U U (.raw U U U (.pure U (by intro x hx;cases hx) (.raw U U U (.pure U (by intro x hx;cases hx) (.pure U (by intro x hx;cases hx) (.pure U (by intro x hx;cases hx) (.pure U (by intro x hx;cases hx) (.pure U (by intro x hx;cases hx) (.pure U (by intro x hx;cases hx) (.pure U (AD fun _=>U) (.pure U (by intro x hx;cases hx) (.pure U (by intro x hx;cases hx) (.pure U (by intro x hx;cases hx) (.pure U (by intro x hx;cases hx) (.pure U (by intro x hx;cases hx) (.pure U (by intro x hx;cases hx) (.pure U (AD fun _=>U) (.pure U (by intro x hx;cases hx) (.pure U (by intro x hx;cases hx) (.pure U (by intro x hx;cases hx) (.pure U (by intro x hx;cases hx) (.pure U (AD fun _=>U) (.pure U (AD fun _=>U) (.pure U (by intro x hx;cases hx) .nil))))))))))))))))))))))))) ⟨.rfl,.rfl,.rfl,.rfl,trivial⟩) ?_;exact IJ (L:=[(0,(.ptr 0 0 0 0)),(2,(.ptr 1 0 0 0)),(3,(.ptr 2 0 0 0)),(8,(i64 (Sh.w (q32.1 - 1))))]) (st':=[(A6 s0_0 q32.2),G6,⟨0,31,2,[[(ls AI q3.1),(ow 3 0 l34)]]⟩,(ro 0 52 5 AH l34)]) (st1:=[(A6 s0_0 q32.2),G6,⟨0,31,2,[[(ls AI q3.1),(ow 23 0 l34)]]⟩,(ro 0 52 5 AH l34)]) [0,1,3,23] U (.raw U U .nil) (by decide) rfl U (.raw U U (.raw U U (.raw U U (.pure (AD fun _=>U) .nil)))) ⟨.rfl,.rfl,.rfl,.rfl,trivial⟩) (fun _ hv=>by rw[Cm] at hv;cases hv) ?_)
 rintro n ⟨f37,f38,l39⟩ h1
 try dsimp only at h1 ⊢
 rw[Cm] at h1
 refine AJ fun K44 hK44=>zr tb U U ?_
 refine ci h1 U ?_ ?_ <;> clear h1
 ·intro b46 h1
  refine AU (hK44 _ (AJ fun K47 hK47=>Ae (sr U fun K48 hK48=>zm tb 3 U (bs h1 fun q49 gq49 h1=>?_))))
  refine A4 (rowsP:=[(A6 s0_0 f38),(ro 0 52 5 AH l39)]) (rows0:=[(A6 s0_0 f38),(ro 0 52 5 AH l39)]) (rows1:=[(A6 s0_0 q49.2),(ro 0 52 5 AH l39)]) (rows2:=[]) (rows1':=[(A6 s0_0 q49.2),(ro 0 52 5 AH l39)]) (rows2':=[]) (st':=[(A6 s0_0 q49.2),G6,⟨0,31,2,[[(ls AI q3.1),(ow 3 0 l39)]]⟩,(ro 0 52 5 AH l39)]) (v':=(.agg [(i64 q49.1.op),(i64 q49.1.num),(ls AA q49.1.kids)])) [0,3] AK Y7 (PE gq49) rfl (by decide) rfl U (.raw U U (.pure (AD fun _=>U) .nil)) rfl U (.raw U U (.pure (AD fun _=>U) .nil)) .nil U U ?_
  refine A0 (m:=4) AK Dw U U (Az AK BP U U U U U U (show 0+3≤3 by decide) rfl (Af (Wk.BH (L:=[(0,(.ptr 0 0 0 0)),(2,(.ptr 1 0 0 0)),(3,(.ptr 2 0 0 0)),(8,(i64 f37)),(9,(.Al [(i64 q49.1.op),(i64 q49.1.num),(ls AA q49.1.kids)] 0))]) (st':=[(A6 s0_0 q49.2),G6,⟨0,31,2,[[(ls AI q3.1),(ow 3 0 l39)]]⟩,(ro 0 52 5 AH l39),⟨1,50,3,[]⟩]) (id:=4) rfl (show 1≤4 by decide) (Cp U) ⟨.rfl,.rfl,.rfl,.rfl,.rfl,trivial⟩ U) (dn hK48 U ?_)))
  refine C2 18 (by kernel_rfl) (by kernel_rfl) (by rfl) ?_
  iterate 6 refine yq tb rfl ?_
  refine bs h1 fun c50 gc50 h1=>yz (.ptr 3 0 (Int.toNat f37) 0) (Br C3 U U U U gc50) rfl (yq tb U (yz (ls eI c50.params) (B5 La U U (By gc50) rfl) rfl ?_))
  iterate 3 refine yq tb rfl ?_
  refine yz (.ptr 3 0 (Int.toNat f37) 0) (Br C3 U U U U gc50) rfl (yq tb U (yz (i64 c50.result) (B5 Fx U U (By gc50) rfl) rfl (yq tb U (yz (.agg [(ls eI c50.params),(i64 c50.result),(i64 q49.1.op),(i64 q49.1.num),(ls AA q49.1.kids)]) (Dy Sk SX Jq U U) rfl (yz (.ptr 3 0 (Int.toNat f37) 0) (Br C3 U U U U gc50) rfl (AR (HM (u':=(Ar.mk c50.params c50.result q49.1)) AK IE U U gc50 U U U (show 0+5≤5 by decide) rfl U (dn hK47 U (AN U (zm tb 3 U ?_))))))))))
  exact AB (xi (Sh.w (f37 - 1),q49.2,Sh.put l39 f37 (Ar.mk c50.params c50.result q49.1)) h1 (by refine Wk.trans (Iv (st:=[⟨0,88,2,[[(.sl (List.map Cr s0_0)),(i64 q49.2)]]⟩,G6,⟨0,31,2,[[(.sl (List.map AI q3.1)),(.own 3 0 (List.length l39))]]⟩,⟨0,52,5,List.map AH (Sh.put l39 f37 (Ar.mk c50.params c50.result q49.1))⟩,⟨1,50,3,[]⟩]) (st':=[⟨0,88,2,[[(.sl (List.map Cr s0_0)),(i64 q49.2)]]⟩,G6,⟨0,31,2,[[(.sl (List.map AI q3.1)),(.own 3 0 (List.length (Sh.put l39 f37 (Ar.mk c50.params c50.result q49.1))))]]⟩,⟨0,52,5,List.map AH (Sh.put l39 f37 (Ar.mk c50.params c50.result q49.1))⟩,⟨1,50,3,[]⟩]) (by simp only[Sh.FX])) ?_;exact AT (L:=[(0,(.ptr 0 0 0 0)),(2,(.ptr 1 0 0 0)),(3,(.ptr 2 0 0 0)),(8,(i64 (Sh.w (f37 - 1))))]) (st':=[⟨0,88,2,[[(.sl (List.map Cr s0_0)),(i64 q49.2)]]⟩,G6,⟨0,31,2,[[(.sl (List.map AI q3.1)),(.own 3 0 (List.length (Sh.put l39 f37 (Ar.mk c50.params c50.result q49.1))))]]⟩,⟨0,52,5,List.map AH (Sh.put l39 f37 (Ar.mk c50.params c50.result q49.1))⟩]) [0,1,2,3] U (by decide) rfl U (.raw U U (.raw U U (.raw U U (.pure (AD fun _=>U) .nil)))) ⟨.rfl,.rfl,.rfl,.rfl,trivial⟩))
 ·intro b46 h1
  exact BE (M42 f38 l39 (Sh.AE h1).symm _ (AG U))
theorem NX {rec_spec_copyExprs:(List AP)→Option ((List AP))} (hrec_spec_copyExprs :∀{p0:(List AP)} {r:(List AP)},rec_spec_copyExprs p0=some r→Aj Try.prog 107 [(ls AA p0)] [] (fun v st=>v=(ow 0 0 r)∧st=[(ro 0 50 3 AA r)])) {p0:AP} {r:AP} (h0:Ho rec_spec_copyExprs p0=some r):Aj Try.prog 124 [(.agg [(i64 p0.op),(i64 p0.num),(ls AA p0.kids)])] [] (fun v st=>v=(.agg [(i64 r.op),(i64 r.num),(ls AA r.kids)])∧st=[]):=by
 unfold Ho at h0
 refine DO U (ai Try.func124 U U U U (sr U fun K1 hK1=>Bj (m:=0) AK U U U U U (A0 (m:=1) AK Dw U U (dn hK1 U (AJ fun K2 hK2=>?_)))))
 refine C2 8 (by kernel_rfl) (by kernel_rfl) (by rfl) ?_
 iterate 6 refine yq tb rfl ?_
 refine bs h0 fun q3 gq3 h0=>?_
 refine BX (v:=(ls AA q3)) AK JE (Aj.wk (hrec_spec_copyExprs gq3) (by refine Wk.trans (Wk.BH (L:=[(0,(ls AA q3))]) (st':=[⟨1,50,3,[]⟩]) (id:=0) rfl (show 0≤0 by decide) (AD Ag) ⟨(.BH U),trivial⟩ U) ?_;exact AT (L:=[(0,(ls AA q3))]) (st':=[]) [] U (by decide) rfl U .nil ⟨.rfl,trivial⟩)) rfl U U ?_
 refine yz (.agg [(i64 p0.op),(i64 p0.num),(ls AA q3)]) (Dy UX Uf Dw U U) rfl (AR (Az AK BP U U U U U U (show 0+3≤3 by decide) rfl (dn hK2 U ?_)))
 replace h0:=Sh.AE h0
 subst r
 exact AZ (Exists.intro _ (And.intro (HP _ _) (BD (x:=.tmp 2) (off:=0) (cs:=[(i64 p0.op),(i64 p0.num),(ls AA q3)]) (vs:=[(i64 p0.op),(i64 p0.num),(ls AA q3)]) BP U U U (show 0+3≤3 by decide) rfl _ U)))
theorem LK {N:Nat} {rec_spec_copyExprs:(List AP)→Option ((List AP))} (hrec_spec_copyExprs :∀{p0:(List AP)} {r:(List AP)},rec_spec_copyExprs p0=some r→Aj Try.prog 107 [(ls AA p0)] [] (fun v st=>v=(ow 0 0 r)∧st=[(ro 0 50 3 AA r)])) {p0:(List AP)} {r:(List AP)} (h0:GX N rec_spec_copyExprs p0=some r):Aj Try.prog 107 [(ls AA p0)] [] (fun v st=>v=(ow 0 0 r)∧st=[(ro 0 50 3 AA r)]):=by
 unfold GX at h0
 refine ai Try.func107 U U U U (zr tb U U (sr U fun K2 hK2=>?_))
 refine A8 (m:=0) (l:=([]:List AP)) (enc:=AA) AK BW (by decide) rfl U (by simp only[List.map,Ao];rfl) rfl U U ?_
 refine zq tb U (dn hK2 U (AJ fun K3 hK3=>zr tb U U (bs h0 fun o8 h1 h0=>?_)))
 have M8 :∀(l7:(List AP)),o8=l7→∀s,Wk 0 s ⟨21,Ab [(3,(ow 0 0 l7))],[(ro 0 50 3 AA l7)]⟩→K3 s:=by
  intro l7 hq s hw
  subst o8
  try dsimp only at h0
  refine hK3 _ (AS hw (zr tb U U ?_))
  replace h0:=Sh.AE h0
  subst r
  exact AZ (xr (Ah (L:=[(2,(ow 0 0 l7))]) ⟨.rfl,trivial⟩))
 refine Ae (A5 (σ:=Int×(List AP)) (fun n v=>CR p0 rec_spec_copyExprs n v.1 v.2=some o8) (fun (i5,l6)=>⟨21,Ab [(0,(ls AA p0)),(3,(ow 0 0 l6)),(4,(i64 i5))],[(ro 0 50 3 AA l6)]⟩) N (0,[]) h1 (AG U) (fun _ hv=>by rw[CR] at hv;cases hv) ?_)
 rintro n ⟨i5,l6⟩ h1
 try dsimp only at h1 ⊢
 rw[CR] at h1
 refine AJ fun K10 hK10=>sr U fun K11 hK11=>zm tb 2 U (zl tb U U (zq tb U (dn hK11 U ?_)))
 refine ci h1 U ?_ ?_ <;> clear h1
 ·intro b12 h1
  refine AU (hK10 _ (AJ fun K13 hK13=>Ae (AN U (zm tb 3 U (bs h1 fun c14 gc14 h1=>zz (.Al [(i64 c14.op),(i64 c14.num),(ls AA c14.kids)] 0) (CG BW U U gc14 (Ao _) rfl) rfl (zq tb U (bs h1 fun q15 gq15 h1=>zc (v':=(.agg [(i64 q15.op),(i64 q15.num),(ls AA q15.kids)])) YC (NX hrec_spec_copyExprs gq15) rfl U U ?_)))))))
  refine A8 (m:=1) (l:=[q15]) (enc:=AA) AK BW (by decide) rfl U (by simp only[List.map,Ao];rfl) rfl U U ?_
  refine bs h1 fun l16 gl16 h1=>CL (l2:=[q15]) AK BW U U U U (EP U U Cz) B4 gl16 U (zq tb U (dn hK13 U (AN U (zm tb 3 U ?_))))
  exact AB (xi (Sh.w (i5+1),l16) h1 (by refine Wk.trans (FD (L:=[(0,(ls AA p0)),(3,(ow 0 0 l16)),(4,(i64 (Sh.w (i5+1))))]) (st':=[(ro 0 50 3 AA l16),(ro 0 50 3 AA [q15])]) (.pure (AD Ag) (.pure (AD Ag) .nil)) ⟨.rfl,.rfl,.rfl,trivial⟩) ?_;exact AT (L:=[(0,(ls AA p0)),(3,(ow 0 0 l16)),(4,(i64 (Sh.w (i5+1))))]) (st':=[(ro 0 50 3 AA l16)]) [0] U (by decide) rfl U (.pure (AD Ag) .nil) ⟨.rfl,.rfl,.rfl,trivial⟩))
 ·intro b12 h1
  exact BE (M8 l6 (Sh.AE h1).symm _ (AG U))

theorem LP {N:Nat} :∀(n:Nat),∀{p0:(List AP)} {r:(List AP)},De N n p0=some r→Aj Try.prog 107 [(ls AA p0)] [] (fun v st=>v=(ow 0 0 r)∧st=[(ro 0 50 3 AA r)]):=by
 intro n
 induction n with
 | zero=>intro p0 r h0;cases h0
 | succ n ih=>
  intro p0 r h0
  rw[De] at h0
  exact LK (fun h=>ih h) h0
theorem CU {N:Nat} :∀{p0:(List AP)} {r:(List AP)},IY N p0=some r→Aj Try.prog 107 [(ls AA p0)] [] (fun v st=>v=(ow 0 0 r)∧st=[(ro 0 50 3 AA r)]):=by
 intro p0 r h0
 exact LP N h0
theorem O2 {N:Nat} {rec_spec_bend:(List Int)→Int→AP→Option (AP×Int)} (hrec_spec_bend :∀{s0_0:(List Int)} {s0_1:Int} {p1:AP} {r:AP×Int},rec_spec_bend s0_0 s0_1 p1=some r→Aj Try.prog 84 [(.ptr 0 0 0 0),(.agg [(i64 p1.op),(i64 p1.num),(ls AA p1.kids)])] [(A6 s0_0 s0_1)] (fun v st=>v=(.agg [(i64 r.1.op),(i64 r.1.num),(ls AA r.1.kids)])∧st=[(A6 s0_0 r.2)])) {s0_0:(List Int)} {s0_1:Int} {p1:AP} {r:AP×Int} (h0:Im N rec_spec_bend s0_0 s0_1 p1=some r):Aj Try.prog 84 [(.ptr 0 0 0 0),(.agg [(i64 p1.op),(i64 p1.num),(ls AA p1.kids)])] [(A6 s0_0 s0_1)] (fun v st=>v=(.agg [(i64 r.1.op),(i64 r.1.num),(ls AA r.1.kids)])∧st=[(A6 s0_0 r.2)]):=by
 unfold Im at h0
 refine Aj.wk (r0:=(.agg [(i64 r.1.op),(i64 r.1.num),(ls AA r.1.kids)])) (st0:=[(A6 s0_0 r.2),(Vr r.1.op r.1.num r.1.kids)]) ?_ (D0 (L:=[(0,(.agg [(i64 r.1.op),(i64 r.1.num),(ls AA r.1.kids)]))]) (st':=[(A6 s0_0 r.2)]) [0] U (by decide) rfl U (.raw U trivial) ⟨.rfl,trivial⟩)
 refine ai Try.func84 U U U U (sr U fun K1 hK1=>Bj (m:=1) AK U U U U U (Af (Wk.BH (L:=[(0,(.ptr 0 0 0 0)),(3,(.Al [(i64 p1.op),(i64 p1.num),(ls AA p1.kids)] 0))]) (st':=[(A6 s0_0 s0_1),⟨1,50,3,[]⟩]) (id:=1) rfl (show 1≤1 by decide) (Cp U) ⟨.rfl,.rfl,trivial⟩ U) (A0 (m:=2) AK Dw U U (dn hK1 U (AJ fun K2 hK2=>AJ fun K3 hK3=>bs h0 fun o6 h1 h0=>?_)))))
 have M6 :∀(t4:Bool) (f5:Int),o6=(t4,f5)→∀s,Wk 1 s ⟨85,Ab [(0,(.ptr 0 0 0 0)),(3,(.Al [(i64 p1.op),(i64 p1.num),(ls AA p1.kids)] 0)),(4,(.ptr 1 0 0 0)),(15,(.bool t4))],[(A6 s0_0 f5),CD]⟩→K3 s:=by
  intro t4 f5 hq s hw
  subst o6
  try dsimp only at h0
  refine hK3 _ (AS hw ?_)
  refine ci h0 U ?_ ?_ <;> clear h0
  ·intro b7 h0
   refine sr U fun K8 hK8=>zm tb 2 U (bs h0 fun q9 gq9 h0=>CC (v':=(ow 2 0 q9)) AK JE (CU gq9) rfl U ⟨(Bs Ag),trivial⟩ U U (zq tb U (dn hK8 U (sr U fun K10 hK10=>zm tb 2 U (zz (i64 (Sh.len q9)) (Ch RW U U U) rfl (bs h0 fun q11 gq11 h0=>?_))))))
   refine A4 (rowsP:=[(A6 s0_0 f5)]) (rows0:=[(A6 s0_0 f5)]) (rows1:=[(A6 s0_0 q11.2)]) (rows2:=[]) (rows1':=[(A6 s0_0 q11.2)]) (rows2':=[]) (st':=[(A6 s0_0 q11.2),CD,(ro 0 50 3 AA q9)]) (v':=(i64 q11.1)) [0] AK Ef (Aw gq11) rfl (by decide) rfl U (.raw U U .nil) rfl U (.raw U U .nil) .nil U U ?_
   refine zq tb U (dn hK10 U (sr U fun K12 hK12=>zm tb 5 U (bs h0 fun c13 gc13 h0=>zz (.ptr 2 0 (Int.toNat q11.1) 0) (Br BW U U U U gc13) rfl (zz (.agg [(i64 c13.op),(i64 c13.num),(ls AA c13.kids)]) (BD BP U U (Ux gc13 (Ao _)) (show 0+3≤3 by decide) rfl) rfl (bs h0 fun q14 gq14 h0=>?_)))))
   refine A4 (rowsP:=[(A6 s0_0 q11.2)]) (rows0:=[(A6 s0_0 q11.2)]) (rows1:=[(A6 s0_0 q14.2)]) (rows2:=[]) (rows1':=[(A6 s0_0 q14.2)]) (rows2':=[]) (st':=[(A6 s0_0 q14.2),CD,(ro 0 50 3 AA q9)]) (v':=(.agg [(i64 q14.1.op),(i64 q14.1.num),(ls AA q14.1.kids)])) [0] AK XR (hrec_spec_bend gq14) rfl (by decide) rfl U (.raw U U .nil) rfl U (.raw U U .nil) .nil U U ?_
   refine zz (.ptr 2 0 (Int.toNat q11.1) 0) (Br BW U U U U gc13) rfl ?_
   refine HM (u':=q14.1) AK BP U U gc13 U U U (show 0+3≤3 by decide) (by rw[Ao,Ao];rfl) rfl ?_
   refine dn hK12 U (sr U fun K15 hK15=>zm tb 5 U ?_)
   refine Af (Wk.BH (L:=[(4,(.ptr 1 0 0 0)),(33,(i64 p1.op)),(35,(i64 p1.num)),(36,(.sl (List.map AA (Sh.put q9 q11.1 q14.1))))]) (st':=[⟨0,88,2,[[(.sl (List.map Cr s0_0)),(i64 q14.2)]]⟩,CD,⟨1,50,3,[]⟩]) (id:=2) rfl (show 1≤2 by decide) (AD Ag) ⟨.rfl,.rfl,.rfl,(.BH (by simp only[Sh.FX])),trivial⟩ U) ?_
   refine bs h0 fun q16 gq16 h0=>zc (v':=(.agg [(i64 q16.op),(i64 q16.num),(ls AA q16.kids)])) C1 (BJ gq16) rfl U U (Az AK BP U U U U U U (show 0+3≤3 by decide) rfl (dn hK15 U ?_))
   replace h0:=Sh.AE h0
   subst r
   exact AZ (Exists.intro _ (And.intro ((AT (L:=[(4,(.ptr 1 0 0 0))]) (st':=[(A6 s0_0 q14.2),(Vr q16.op q16.num q16.kids)]) [0,1] U (by decide) rfl U (.raw U U (.raw U U .nil)) ⟨.rfl,trivial⟩).trans (Ah (L:=[(4,(.ptr 1 0 0 0))]) ⟨.rfl,trivial⟩)) (BD (x:=.tmp 4) (off:=0) (cs:=[(i64 q16.op),(i64 q16.num),(ls AA q16.kids)]) (vs:=[(i64 q16.op),(i64 q16.num),(ls AA q16.kids)]) BP U U U (show 0+3≤3 by decide) rfl _ ⟨U,U⟩)))
  ·intro b7 h0
   refine AU (hK2 _ (AJ fun K17 hK17=>sr U fun K18 hK18=>zq tb U (bs h0 fun q19 gq19 h0=>?_)))
   refine A4 (rowsP:=[(A6 s0_0 f5)]) (rows0:=[(A6 s0_0 f5)]) (rows1:=[(A6 s0_0 q19.2)]) (rows2:=[]) (rows1':=[(A6 s0_0 q19.2)]) (rows2':=[]) (st':=[(A6 s0_0 q19.2),CD]) (v':=(i64 q19.1)) [0] AK Ef (Aw gq19) rfl (by decide) rfl U (.raw U U .nil) rfl U (.raw U U .nil) .nil U U ?_
   refine dn hK18 U (Ae (zr tb U U ?_))
   refine ci h0 U ?_ ?_ <;> clear h0
   ·intro b21 h0
    refine AJ fun K22 hK22=>?_
    refine BQ [CD] 7 (by kernel_rfl) (by kernel_rfl) (by kernel_rfl) (by rfl) ?_
    refine A1 AK (fun x0 zz=>A9 (v:=(.ptr 0 0 0 0)) AK U (BO U) (AR U)) (bs h0 fun q23 gq23 h0=>?_)
    refine B7 (rowsP:=[(A6 s0_0 q19.2)]) (rows0:=[(A6 s0_0 q19.2)]) (rows1:=[(A6 s0_0 q23.2)]) (rows1':=[(A6 s0_0 q23.2)]) (v':=(i64 q23.1)) (y0:=(A6 s0_0 q23.2)) [0] AK Ef (Aw gq23) rfl (by decide) rfl U (.raw U U .nil) rfl U (fun _=>(.raw U U .nil)) (fun _=>U) rfl ?_
    refine A1 AK (fun x0 zz=>A9 (v:=(.Al [(i64 p1.op),(i64 p1.num),(ls AA p1.kids)] 1)) AK U (Fk UL U U) (AR U)) (A1 AK (fun x0 zz=>A9 (v:=(i64 p1.num)) AK U (FR Fx U U) (AR U)) (A1 AK (fun x0 zz=>A9 (v:=(.Al [(i64 p1.op),(i64 p1.num),(ls AA p1.kids)] 2)) AK U (Fk UC U U) (AR U)) (A1 AK (fun x0 zz=>A9 (v:=(ls AA p1.kids)) AK U (FR XG U U) (AR U)) (bs h0 fun q24 gq24 h0=>A1 AK (fun x0 zz=>BX (v:=(.agg [(i64 q24.op),(i64 q24.num),(ls AA q24.kids)])) AK C1 (BJ gq24) rfl U U (AR U)) (Da U (Az AK BP U U U U U U (show 0+3≤3 by decide) rfl (dn hK22 U ?_)))))))
    replace h0:=Sh.AE h0
    subst r
    exact AZ (Exists.intro _ (And.intro (Ah (L:=[(4,(.ptr 1 0 0 0))]) ⟨.rfl,trivial⟩) (BD (x:=.tmp 4) (off:=0) (cs:=[(i64 q24.op),(i64 q24.num),(ls AA q24.kids)]) (vs:=[(i64 q24.op),(i64 q24.num),(ls AA q24.kids)]) BP U U U (show 0+3≤3 by decide) rfl _ ⟨U,U⟩)))
   ·intro b21 h0
    refine zr tb U U ?_
    refine ci h0 U ?_ ?_ <;> clear h0
    ·intro b26 h0
     refine AJ fun K27 hK27=>?_
     refine BQ [CD] 11 (by kernel_rfl) (by kernel_rfl) (by kernel_rfl) (by rfl) ?_
     refine A1 AK (fun x0 zz=>A9 (v:=(.Al [(i64 p1.op),(i64 p1.num),(ls AA p1.kids)] 0)) AK U (Fk Wp U U) (AR U)) (A1 AK (fun x0 zz=>A9 (v:=(i64 p1.op)) AK U (FR Fx U U) (AR U)) (A1 AK (fun x0 zz=>A9 (v:=(.Al [(i64 p1.op),(i64 p1.num),(ls AA p1.kids)] 1)) AK U (Fk UL U U) (AR U)) (A1 AK (fun x0 zz=>A9 (v:=(i64 p1.num)) AK U (FR Fx U U) (AR U)) (A1 AK (fun x0 zz=>A9 (v:=(.ptr 0 0 0 0)) AK U (BO U) (AR U)) ?_))))
     refine A1 AK (fun x0 zz=>Eu (l:=[(1:Int),-1,1000,2]) (enc:=eI) AK BF (by decide) rfl U U U U (AD fun _=>U) (AR U)) ?_
     refine bs h0 fun q28 gq28 h0=>?_
     refine B7 (rowsP:=[(A6 s0_0 q19.2)]) (rows0:=[(A6 s0_0 q19.2)]) (rows1:=[(A6 s0_0 q28.2)]) (rows1':=[(A6 s0_0 q28.2)]) (v':=(i64 q28.1)) (y0:=(A6 s0_0 q28.2)) [0] AK HZ (BV gq28) rfl (by decide) rfl U (.raw U U .nil) rfl U (fun _=>(.raw U U .nil)) (fun _=>U) rfl ?_
     refine A1 AK (fun x0 zz=>A9 (v:=(i64 (Sh.w (p1.num+q28.1)))) AK U (R3 U U) (AR U)) (A1 AK (fun x0 zz=>A9 (v:=(.Al [(i64 p1.op),(i64 p1.num),(ls AA p1.kids)] 2)) AK U (Fk UC U U) (AR U)) (A1 AK (fun x0 zz=>A9 (v:=(ls AA p1.kids)) AK U (FR XG U U) (AR U)) (bs h0 fun q29 gq29 h0=>A1 AK (fun x0 zz=>BX (v:=(.agg [(i64 q29.op),(i64 q29.num),(ls AA q29.kids)])) AK C1 (BJ gq29) rfl U U (AR U)) (Da U (Az AK BP U U U U U U (show 0+3≤3 by decide) rfl (dn hK27 U ?_))))))
     replace h0:=Sh.AE h0
     subst r
     exact AZ (Exists.intro _ (And.intro (Ah (L:=[(4,(.ptr 1 0 0 0))]) ⟨.rfl,trivial⟩) (BD (x:=.tmp 4) (off:=0) (cs:=[(i64 q29.op),(i64 q29.num),(ls AA q29.kids)]) (vs:=[(i64 q29.op),(i64 q29.num),(ls AA q29.kids)]) BP U U U (show 0+3≤3 by decide) rfl _ ⟨U,U⟩)))
    ·intro b26 h0
     refine zr tb U U ?_
     refine ci h0 U ?_ ?_ <;> clear h0
     ·intro b31 h0
      refine AJ fun K32 hK32=>?_
      refine HV (by kernel_rfl) ?_
      refine bs h0 fun q33 gq33 h0=>bs h0 fun q34 gq34 h0=>bs h0 fun l35 gl35 h0=>bs h0 fun q36 gq36 h0=>Lp fun A37 hA37=>?_
      have A37_0123456789ab:A37 0 #[true,true,true,true,true,true,true,true,true,true,true,true] ⟨85,Ab [(4,(.ptr 1 0 0 0))],[(A6 s0_0 q19.2),(Vr q36.op q36.num q36.kids)]⟩:=(hA37 _ _ _).2 (by
       refine Fm U (by kernel_rfl) ?_
       refine hK32 _ ?_
       replace h0:=Sh.AE h0
       subst r
       exact AZ (Exists.intro _ (And.intro (Ah (L:=[(4,(.ptr 1 0 0 0))]) ⟨.rfl,trivial⟩) (BD (x:=.tmp 4) (off:=0) (cs:=[(i64 q36.op),(i64 q36.num),(ls AA q36.kids)]) (vs:=[(i64 q36.op),(i64 q36.num),(ls AA q36.kids)]) BP U U U (show 0+3≤3 by decide) rfl _ ⟨U,U⟩))))
      have A37_0123456789a:A37 1 #[true,true,true,true,true,true,true,true,true,true,true,false] ⟨85,Ab [(4,(.ptr 1 0 0 0)),(74,(.agg [(i64 q36.op),(i64 q36.num),(ls AA q36.kids)]))],[(A6 s0_0 q19.2),CD]⟩:=(hA37 _ _ _).2 (by
       refine Ad [11] U (by kernel_rfl) (by decide) ⟨?_,trivial⟩
       ·refine Av.of (i:=11) rfl U (by rfl) ?_
        refine Az AK BP U U U U U U (show 0+3≤3 by decide) rfl (AB ⟨U,?_⟩)
        exact AF (by exact AG U) (AL (by kernel_rfl) ((hA37 _ _ _).1 A37_0123456789ab)) rfl)
      have A37_0123456789:A37 2 #[true,true,true,true,true,true,true,true,true,true,false,false] ⟨85,Ab [(4,(.ptr 1 0 0 0)),(65,(i64 p1.op)),(67,(i64 p1.num)),(73,(ow 2 0 l35))],[(A6 s0_0 q19.2),CD,(ro 0 50 3 AA l35)]⟩:=(hA37 _ _ _).2 (by
       refine Ad [10] U (by kernel_rfl) (by decide) ⟨?_,trivial⟩
       ·refine Av.of (i:=10) rfl U (by rfl) ?_
        refine Af (Wk.BH (L:=[(4,(.ptr 1 0 0 0)),(65,(i64 p1.op)),(67,(i64 p1.num)),(73,(ls AA l35))]) (st':=[(A6 s0_0 q19.2),CD,⟨1,50,3,[]⟩]) (id:=2) rfl (show 1≤2 by decide) (AD Ag) ⟨.rfl,.rfl,.rfl,(.BH U),trivial⟩ U) (zc (v':=(.agg [(i64 q36.op),(i64 q36.num),(ls AA q36.kids)])) C1 (BJ gq36) rfl U U (AB ⟨U,?_⟩))
        exact AF (by exact AT (L:=[(4,(.ptr 1 0 0 0)),(74,(.agg [(i64 q36.op),(i64 q36.num),(ls AA q36.kids)]))]) (st':=[(A6 s0_0 q19.2),CD]) [0,1] U (by decide) rfl U (.raw U U (.raw U U .nil)) ⟨.rfl,.rfl,trivial⟩) (AL (by kernel_rfl) ((hA37 _ _ _).1 A37_0123456789a)) rfl)
      have A37_012345678:A37 3 #[true,true,true,true,true,true,true,true,true,false,false,false] ⟨85,Ab [(4,(.ptr 1 0 0 0)),(65,(i64 p1.op)),(67,(i64 p1.num)),(70,(ow 2 0 q33)),(72,(ow 3 0 [q34]))],[(A6 s0_0 q19.2),CD,(ro 0 50 3 AA q33),(ro 0 50 3 AA [q34])]⟩:=(hA37 _ _ _).2 (by
       refine Ad [9] U (by kernel_rfl) (by decide) ⟨?_,trivial⟩
       ·refine Av.of (i:=9) rfl U (by rfl) ?_
        refine CL (l2:=[q34]) AK BW U U U U (EP U U Cz) B4 gl35 U (AB ⟨U,?_⟩)
        exact AF (by refine Wk.trans (B6 (L:=[(4,(.ptr 1 0 0 0)),(65,(i64 p1.op)),(67,(i64 p1.num)),(73,(ow 2 0 l35))]) (st':=[(A6 s0_0 q19.2),CD,(ro 0 50 3 AA l35),(ro 0 50 3 AA [q34])]) (.raw U U U (.raw U U U (.pure U (AD Ag) (.pure U (AD Ag) .nil)))) ⟨.rfl,.rfl,.rfl,.rfl,trivial⟩) ?_;exact AT (L:=[(4,(.ptr 1 0 0 0)),(65,(i64 p1.op)),(67,(i64 p1.num)),(73,(ow 2 0 l35))]) (st':=[(A6 s0_0 q19.2),CD,(ro 0 50 3 AA l35)]) [0,1,2] U (by decide) rfl U (.raw U U (.raw U U (.pure (AD Ag) .nil))) ⟨.rfl,.rfl,.rfl,.rfl,trivial⟩) (AL (by kernel_rfl) ((hA37 _ _ _).1 A37_0123456789)) rfl)
      have A37_01234567:A37 4 #[true,true,true,true,true,true,true,true,false,false,false,false] ⟨85,Ab [(4,(.ptr 1 0 0 0)),(65,(i64 p1.op)),(67,(i64 p1.num)),(70,(ow 2 0 q33)),(71,(.agg [(i64 q34.op),(i64 q34.num),(ls AA q34.kids)]))],[(A6 s0_0 q19.2),CD,(ro 0 50 3 AA q33)]⟩:=(hA37 _ _ _).2 (by
       refine Ad [8] U (by kernel_rfl) (by decide) ⟨?_,trivial⟩
       ·refine Av.of (i:=8) rfl U (by rfl) ?_
        refine A8 (m:=3) (l:=[q34]) (enc:=AA) AK BW (by decide) rfl U (by simp only[List.map,Ao];rfl) rfl U U ?_
        refine AB ⟨U,?_⟩
        exact AF (by exact AG U) (AL (by kernel_rfl) ((hA37 _ _ _).1 A37_012345678)) rfl)
      have A37_0123456:A37 5 #[true,true,true,true,true,true,true,false,false,false,false,false] ⟨85,Ab [(4,(.ptr 1 0 0 0)),(65,(i64 p1.op)),(67,(i64 p1.num)),(70,(ow 2 0 q33))],[(A6 s0_0 q19.2),CD,(ro 0 50 3 AA q33)]⟩:=(hA37 _ _ _).2 (by
       refine Ad [7] U (by kernel_rfl) (by decide) ⟨?_,trivial⟩
       ·refine Av.of (i:=7) rfl U (by rfl) ?_
        refine zc (v':=(.agg [(i64 q34.op),(i64 q34.num),(ls AA q34.kids)])) Gh (Bp gq34) rfl U U (AB ⟨U,?_⟩)
        exact AF (by exact AG U) (AL (by kernel_rfl) ((hA37 _ _ _).1 A37_01234567)) rfl)
      have A37_012345:A37 6 #[true,true,true,true,true,true,false,false,false,false,false,false] ⟨85,Ab [(4,(.ptr 1 0 0 0)),(65,(i64 p1.op)),(67,(i64 p1.num)),(69,(ls AA p1.kids))],[(A6 s0_0 q19.2),CD]⟩:=(hA37 _ _ _).2 (by
       refine Ad [6] U (by kernel_rfl) (by decide) ⟨?_,trivial⟩
       ·refine Av.of (i:=6) rfl U (by rfl) ?_
        refine CC (v':=(ow 2 0 q33)) AK JE (CU gq33) rfl U ⟨(Bs Ag),trivial⟩ U U (AB ⟨U,?_⟩)
        exact AF (by exact AG U) (AL (by kernel_rfl) ((hA37 _ _ _).1 A37_0123456)) rfl)
      have A37_01234:A37 7 #[true,true,true,true,true,false,false,false,false,false,false,false] ⟨85,Ab [(4,(.ptr 1 0 0 0)),(65,(i64 p1.op)),(67,(i64 p1.num)),(68,(.Al [(i64 p1.op),(i64 p1.num),(ls AA p1.kids)] 2))],[(A6 s0_0 q19.2),CD]⟩:=(hA37 _ _ _).2 (by
       refine Ad [5] U (by kernel_rfl) (by decide) ⟨?_,trivial⟩
       ·refine Av.of (i:=5) rfl U (by rfl) ?_
        refine zq tb U (AB ⟨U,?_⟩)
        exact AF (by exact AG U) (AL (by kernel_rfl) ((hA37 _ _ _).1 A37_012345)) rfl)
      have A37_0123:A37 8 #[true,true,true,true,false,false,false,false,false,false,false,false] ⟨85,Ab [(3,(.Al [(i64 p1.op),(i64 p1.num),(ls AA p1.kids)] 0)),(4,(.ptr 1 0 0 0)),(65,(i64 p1.op)),(67,(i64 p1.num))],[(A6 s0_0 q19.2),CD]⟩:=(hA37 _ _ _).2 (by
       refine Ad [4] U (by kernel_rfl) (by decide) ⟨?_,trivial⟩
       ·refine Av.of (i:=4) rfl U (by rfl) ?_
        refine zq tb U (AB ⟨U,?_⟩)
        exact AF (by exact AG U) (AL (by kernel_rfl) ((hA37 _ _ _).1 A37_01234)) rfl)
      have A37_012456789:A37 3 #[true,true,true,false,true,true,true,true,true,true,false,false] ⟨85,Ab [(4,(.ptr 1 0 0 0)),(65,(i64 p1.op)),(66,(.Al [(i64 p1.op),(i64 p1.num),(ls AA p1.kids)] 1)),(73,(ow 2 0 l35))],[(A6 s0_0 q19.2),CD,(ro 0 50 3 AA l35)]⟩:=(hA37 _ _ _).2 (by
       refine Ad [3] U (by kernel_rfl) (by decide) ⟨?_,trivial⟩
       ·refine Av.of (i:=3) rfl U (by rfl) ?_
        refine zq tb U (AB ⟨U,?_⟩)
        exact AF (by exact AG U) (AL (by kernel_rfl) ((hA37 _ _ _).1 A37_0123456789)) rfl)
      have A37_01245678:A37 4 #[true,true,true,false,true,true,true,true,true,false,false,false] ⟨85,Ab [(4,(.ptr 1 0 0 0)),(65,(i64 p1.op)),(66,(.Al [(i64 p1.op),(i64 p1.num),(ls AA p1.kids)] 1)),(70,(ow 2 0 q33)),(72,(ow 3 0 [q34]))],[(A6 s0_0 q19.2),CD,(ro 0 50 3 AA q33),(ro 0 50 3 AA [q34])]⟩:=(hA37 _ _ _).2 (by
       refine Ad [3,9] U (by kernel_rfl) (by decide) ⟨?_,?_,trivial⟩
       ·refine Av.of (i:=3) rfl U (by rfl) ?_
        refine zq tb U (AB ⟨U,?_⟩)
        exact AF (by exact AG U) (AL (by kernel_rfl) ((hA37 _ _ _).1 A37_012345678)) rfl
       ·refine Av.of (i:=9) rfl U (by rfl) ?_
        refine CL (l2:=[q34]) AK BW U U U U (EP U U Cz) B4 gl35 U (AB ⟨U,?_⟩)
        exact AF (by refine Wk.trans (B6 (L:=[(4,(.ptr 1 0 0 0)),(65,(i64 p1.op)),(66,(.Al [(i64 p1.op),(i64 p1.num),(ls AA p1.kids)] 1)),(73,(ow 2 0 l35))]) (st':=[(A6 s0_0 q19.2),CD,(ro 0 50 3 AA l35),(ro 0 50 3 AA [q34])]) (.raw U U U (.raw U U U (.pure U (AD Ag) (.pure U (AD Ag) .nil)))) ⟨.rfl,.rfl,.rfl,.rfl,trivial⟩) ?_;exact AT (L:=[(4,(.ptr 1 0 0 0)),(65,(i64 p1.op)),(66,(.Al [(i64 p1.op),(i64 p1.num),(ls AA p1.kids)] 1)),(73,(ow 2 0 l35))]) (st':=[(A6 s0_0 q19.2),CD,(ro 0 50 3 AA l35)]) [0,1,2] U (by decide) rfl U (.raw U U (.raw U U (.pure (AD Ag) .nil))) ⟨.rfl,.rfl,.rfl,.rfl,trivial⟩) (AL (by kernel_rfl) ((hA37 _ _ _).1 A37_012456789)) rfl)
      have A37_0124567:A37 5 #[true,true,true,false,true,true,true,true,false,false,false,false] ⟨85,Ab [(4,(.ptr 1 0 0 0)),(65,(i64 p1.op)),(66,(.Al [(i64 p1.op),(i64 p1.num),(ls AA p1.kids)] 1)),(70,(ow 2 0 q33)),(71,(.agg [(i64 q34.op),(i64 q34.num),(ls AA q34.kids)]))],[(A6 s0_0 q19.2),CD,(ro 0 50 3 AA q33)]⟩:=(hA37 _ _ _).2 (by
       refine Ad [3,8] U (by kernel_rfl) (by decide) ⟨?_,?_,trivial⟩
       ·refine Av.of (i:=3) rfl U (by rfl) ?_
        refine zq tb U (AB ⟨U,?_⟩)
        exact AF (by exact AG U) (AL (by kernel_rfl) ((hA37 _ _ _).1 A37_01234567)) rfl
       ·refine Av.of (i:=8) rfl U (by rfl) ?_
        refine A8 (m:=3) (l:=[q34]) (enc:=AA) AK BW (by decide) rfl U (by simp only[List.map,Ao];rfl) rfl U U ?_
        refine AB ⟨U,?_⟩
        exact AF (by exact AG U) (AL (by kernel_rfl) ((hA37 _ _ _).1 A37_01245678)) rfl)
      have A37_012456:A37 6 #[true,true,true,false,true,true,true,false,false,false,false,false] ⟨85,Ab [(4,(.ptr 1 0 0 0)),(65,(i64 p1.op)),(66,(.Al [(i64 p1.op),(i64 p1.num),(ls AA p1.kids)] 1)),(70,(ow 2 0 q33))],[(A6 s0_0 q19.2),CD,(ro 0 50 3 AA q33)]⟩:=(hA37 _ _ _).2 (by
       refine Ad [3,7] U (by kernel_rfl) (by decide) ⟨?_,?_,trivial⟩
       ·refine Av.of (i:=3) rfl U (by rfl) ?_
        refine zq tb U (AB ⟨U,?_⟩)
        exact AF (by exact AG U) (AL (by kernel_rfl) ((hA37 _ _ _).1 A37_0123456)) rfl
       ·refine Av.of (i:=7) rfl U (by rfl) ?_
        refine zc (v':=(.agg [(i64 q34.op),(i64 q34.num),(ls AA q34.kids)])) Gh (Bp gq34) rfl U U (AB ⟨U,?_⟩)
        exact AF (by exact AG U) (AL (by kernel_rfl) ((hA37 _ _ _).1 A37_0124567)) rfl)
      have A37_01245:A37 7 #[true,true,true,false,true,true,false,false,false,false,false,false] ⟨85,Ab [(4,(.ptr 1 0 0 0)),(65,(i64 p1.op)),(66,(.Al [(i64 p1.op),(i64 p1.num),(ls AA p1.kids)] 1)),(69,(ls AA p1.kids))],[(A6 s0_0 q19.2),CD]⟩:=(hA37 _ _ _).2 (by
       refine Ad [3,6] U (by kernel_rfl) (by decide) ⟨?_,?_,trivial⟩
       ·refine Av.of (i:=3) rfl U (by rfl) ?_
        refine zq tb U (AB ⟨U,?_⟩)
        exact AF (by exact AG U) (AL (by kernel_rfl) ((hA37 _ _ _).1 A37_012345)) rfl
       ·refine Av.of (i:=6) rfl U (by rfl) ?_
        refine CC (v':=(ow 2 0 q33)) AK JE (CU gq33) rfl U ⟨(Bs Ag),trivial⟩ U U (AB ⟨U,?_⟩)
        exact AF (by exact AG U) (AL (by kernel_rfl) ((hA37 _ _ _).1 A37_012456)) rfl)
      have A37_0124:A37 8 #[true,true,true,false,true,false,false,false,false,false,false,false] ⟨85,Ab [(4,(.ptr 1 0 0 0)),(65,(i64 p1.op)),(66,(.Al [(i64 p1.op),(i64 p1.num),(ls AA p1.kids)] 1)),(68,(.Al [(i64 p1.op),(i64 p1.num),(ls AA p1.kids)] 2))],[(A6 s0_0 q19.2),CD]⟩:=(hA37 _ _ _).2 (by
       refine Ad [3,5] U (by kernel_rfl) (by decide) ⟨?_,?_,trivial⟩
       ·refine Av.of (i:=3) rfl U (by rfl) ?_
        refine zq tb U (AB ⟨U,?_⟩)
        exact AF (by exact AG U) (AL (by kernel_rfl) ((hA37 _ _ _).1 A37_01234)) rfl
       ·refine Av.of (i:=5) rfl U (by rfl) ?_
        refine zq tb U (AB ⟨U,?_⟩)
        exact AF (by exact AG U) (AL (by kernel_rfl) ((hA37 _ _ _).1 A37_01245)) rfl)
      have A37_012:A37 9 #[true,true,true,false,false,false,false,false,false,false,false,false] ⟨85,Ab [(3,(.Al [(i64 p1.op),(i64 p1.num),(ls AA p1.kids)] 0)),(4,(.ptr 1 0 0 0)),(65,(i64 p1.op)),(66,(.Al [(i64 p1.op),(i64 p1.num),(ls AA p1.kids)] 1))],[(A6 s0_0 q19.2),CD]⟩:=(hA37 _ _ _).2 (by
       refine Ad [3,4] U (by kernel_rfl) (by decide) ⟨?_,?_,trivial⟩
       ·refine Av.of (i:=3) rfl U (by rfl) ?_
        refine zq tb U (AB ⟨U,?_⟩)
        exact AF (by exact AG U) (AL (by kernel_rfl) ((hA37 _ _ _).1 A37_0123)) rfl
       ·refine Av.of (i:=4) rfl U (by rfl) ?_
        refine zq tb U (AB ⟨U,?_⟩)
        exact AF (by exact AG U) (AL (by kernel_rfl) ((hA37 _ _ _).1 A37_0124)) rfl)
      have A37_01456789:A37 4 #[true,true,false,false,true,true,true,true,true,true,false,false] ⟨85,Ab [(3,(.Al [(i64 p1.op),(i64 p1.num),(ls AA p1.kids)] 0)),(4,(.ptr 1 0 0 0)),(65,(i64 p1.op)),(73,(ow 2 0 l35))],[(A6 s0_0 q19.2),CD,(ro 0 50 3 AA l35)]⟩:=(hA37 _ _ _).2 (by
       refine Ad [2] U (by kernel_rfl) (by decide) ⟨?_,trivial⟩
       ·refine Av.of (i:=2) rfl U (by rfl) ?_
        refine zq tb U (AB ⟨U,?_⟩)
        exact AF (by exact AG U) (AL (by kernel_rfl) ((hA37 _ _ _).1 A37_012456789)) rfl)
      have A37_0145678:A37 5 #[true,true,false,false,true,true,true,true,true,false,false,false] ⟨85,Ab [(3,(.Al [(i64 p1.op),(i64 p1.num),(ls AA p1.kids)] 0)),(4,(.ptr 1 0 0 0)),(65,(i64 p1.op)),(70,(ow 2 0 q33)),(72,(ow 3 0 [q34]))],[(A6 s0_0 q19.2),CD,(ro 0 50 3 AA q33),(ro 0 50 3 AA [q34])]⟩:=(hA37 _ _ _).2 (by
       refine Ad [2,9] U (by kernel_rfl) (by decide) ⟨?_,?_,trivial⟩
       ·refine Av.of (i:=2) rfl U (by rfl) ?_
        refine zq tb U (AB ⟨U,?_⟩)
        exact AF (by exact AG U) (AL (by kernel_rfl) ((hA37 _ _ _).1 A37_01245678)) rfl
       ·refine Av.of (i:=9) rfl U (by rfl) ?_
        refine CL (l2:=[q34]) AK BW U U U U (EP U U Cz) B4 gl35 U (AB ⟨U,?_⟩)
        exact AF (by refine Wk.trans (B6 (L:=[(3,(.Al [(i64 p1.op),(i64 p1.num),(ls AA p1.kids)] 0)),(4,(.ptr 1 0 0 0)),(65,(i64 p1.op)),(73,(ow 2 0 l35))]) (st':=[(A6 s0_0 q19.2),CD,(ro 0 50 3 AA l35),(ro 0 50 3 AA [q34])]) (.raw U U U (.raw U U U (.pure U (AD Ag) (.pure U (AD Ag) .nil)))) ⟨.rfl,.rfl,.rfl,.rfl,trivial⟩) ?_;exact AT (L:=[(3,(.Al [(i64 p1.op),(i64 p1.num),(ls AA p1.kids)] 0)),(4,(.ptr 1 0 0 0)),(65,(i64 p1.op)),(73,(ow 2 0 l35))]) (st':=[(A6 s0_0 q19.2),CD,(ro 0 50 3 AA l35)]) [0,1,2] U (by decide) rfl U (.raw U U (.raw U U (.pure (AD Ag) .nil))) ⟨.rfl,.rfl,.rfl,.rfl,trivial⟩) (AL (by kernel_rfl) ((hA37 _ _ _).1 A37_01456789)) rfl)
      have A37_014567:A37 6 #[true,true,false,false,true,true,true,true,false,false,false,false] ⟨85,Ab [(3,(.Al [(i64 p1.op),(i64 p1.num),(ls AA p1.kids)] 0)),(4,(.ptr 1 0 0 0)),(65,(i64 p1.op)),(70,(ow 2 0 q33)),(71,(.agg [(i64 q34.op),(i64 q34.num),(ls AA q34.kids)]))],[(A6 s0_0 q19.2),CD,(ro 0 50 3 AA q33)]⟩:=(hA37 _ _ _).2 (by
       refine Ad [2,8] U (by kernel_rfl) (by decide) ⟨?_,?_,trivial⟩
       ·refine Av.of (i:=2) rfl U (by rfl) ?_
        refine zq tb U (AB ⟨U,?_⟩)
        exact AF (by exact AG U) (AL (by kernel_rfl) ((hA37 _ _ _).1 A37_0124567)) rfl
       ·refine Av.of (i:=8) rfl U (by rfl) ?_
        refine A8 (m:=3) (l:=[q34]) (enc:=AA) AK BW (by decide) rfl U (by simp only[List.map,Ao];rfl) rfl U U ?_
        refine AB ⟨U,?_⟩
        exact AF (by exact AG U) (AL (by kernel_rfl) ((hA37 _ _ _).1 A37_0145678)) rfl)
      have A37_01456:A37 7 #[true,true,false,false,true,true,true,false,false,false,false,false] ⟨85,Ab [(3,(.Al [(i64 p1.op),(i64 p1.num),(ls AA p1.kids)] 0)),(4,(.ptr 1 0 0 0)),(65,(i64 p1.op)),(70,(ow 2 0 q33))],[(A6 s0_0 q19.2),CD,(ro 0 50 3 AA q33)]⟩:=(hA37 _ _ _).2 (by
       refine Ad [2,7] U (by kernel_rfl) (by decide) ⟨?_,?_,trivial⟩
       ·refine Av.of (i:=2) rfl U (by rfl) ?_
        refine zq tb U (AB ⟨U,?_⟩)
        exact AF (by exact AG U) (AL (by kernel_rfl) ((hA37 _ _ _).1 A37_012456)) rfl
       ·refine Av.of (i:=7) rfl U (by rfl) ?_
        refine zc (v':=(.agg [(i64 q34.op),(i64 q34.num),(ls AA q34.kids)])) Gh (Bp gq34) rfl U U (AB ⟨U,?_⟩)
        exact AF (by exact AG U) (AL (by kernel_rfl) ((hA37 _ _ _).1 A37_014567)) rfl)
      have A37_0145:A37 8 #[true,true,false,false,true,true,false,false,false,false,false,false] ⟨85,Ab [(3,(.Al [(i64 p1.op),(i64 p1.num),(ls AA p1.kids)] 0)),(4,(.ptr 1 0 0 0)),(65,(i64 p1.op)),(69,(ls AA p1.kids))],[(A6 s0_0 q19.2),CD]⟩:=(hA37 _ _ _).2 (by
       refine Ad [2,6] U (by kernel_rfl) (by decide) ⟨?_,?_,trivial⟩
       ·refine Av.of (i:=2) rfl U (by rfl) ?_
        refine zq tb U (AB ⟨U,?_⟩)
        exact AF (by exact AG U) (AL (by kernel_rfl) ((hA37 _ _ _).1 A37_01245)) rfl
       ·refine Av.of (i:=6) rfl U (by rfl) ?_
        refine CC (v':=(ow 2 0 q33)) AK JE (CU gq33) rfl U ⟨(Bs Ag),trivial⟩ U U (AB ⟨U,?_⟩)
        exact AF (by exact AG U) (AL (by kernel_rfl) ((hA37 _ _ _).1 A37_01456)) rfl)
      have A37_014:A37 9 #[true,true,false,false,true,false,false,false,false,false,false,false] ⟨85,Ab [(3,(.Al [(i64 p1.op),(i64 p1.num),(ls AA p1.kids)] 0)),(4,(.ptr 1 0 0 0)),(65,(i64 p1.op)),(68,(.Al [(i64 p1.op),(i64 p1.num),(ls AA p1.kids)] 2))],[(A6 s0_0 q19.2),CD]⟩:=(hA37 _ _ _).2 (by
       refine Ad [2,5] U (by kernel_rfl) (by decide) ⟨?_,?_,trivial⟩
       ·refine Av.of (i:=2) rfl U (by rfl) ?_
        refine zq tb U (AB ⟨U,?_⟩)
        exact AF (by exact AG U) (AL (by kernel_rfl) ((hA37 _ _ _).1 A37_0124)) rfl
       ·refine Av.of (i:=5) rfl U (by rfl) ?_
        refine zq tb U (AB ⟨U,?_⟩)
        exact AF (by exact AG U) (AL (by kernel_rfl) ((hA37 _ _ _).1 A37_0145)) rfl)
      have A37_01:A37 10 #[true,true,false,false,false,false,false,false,false,false,false,false] ⟨85,Ab [(3,(.Al [(i64 p1.op),(i64 p1.num),(ls AA p1.kids)] 0)),(4,(.ptr 1 0 0 0)),(65,(i64 p1.op))],[(A6 s0_0 q19.2),CD]⟩:=(hA37 _ _ _).2 (by
       refine Ad [2,4] U (by kernel_rfl) (by decide) ⟨?_,?_,trivial⟩
       ·refine Av.of (i:=2) rfl U (by rfl) ?_
        refine zq tb U (AB ⟨U,?_⟩)
        exact AF (by exact AG U) (AL (by kernel_rfl) ((hA37 _ _ _).1 A37_012)) rfl
       ·refine Av.of (i:=4) rfl U (by rfl) ?_
        refine zq tb U (AB ⟨U,?_⟩)
        exact AF (by exact AG U) (AL (by kernel_rfl) ((hA37 _ _ _).1 A37_014)) rfl)
      have A37_023456789:A37 3 #[true,false,true,true,true,true,true,true,true,true,false,false] ⟨85,Ab [(4,(.ptr 1 0 0 0)),(64,(.Al [(i64 p1.op),(i64 p1.num),(ls AA p1.kids)] 0)),(67,(i64 p1.num)),(73,(ow 2 0 l35))],[(A6 s0_0 q19.2),CD,(ro 0 50 3 AA l35)]⟩:=(hA37 _ _ _).2 (by
       refine Ad [1] U (by kernel_rfl) (by decide) ⟨?_,trivial⟩
       ·refine Av.of (i:=1) rfl U (by rfl) ?_
        refine zq tb U (AB ⟨U,?_⟩)
        exact AF (by exact AG U) (AL (by kernel_rfl) ((hA37 _ _ _).1 A37_0123456789)) rfl)
      have A37_02345678:A37 4 #[true,false,true,true,true,true,true,true,true,false,false,false] ⟨85,Ab [(4,(.ptr 1 0 0 0)),(64,(.Al [(i64 p1.op),(i64 p1.num),(ls AA p1.kids)] 0)),(67,(i64 p1.num)),(70,(ow 2 0 q33)),(72,(ow 3 0 [q34]))],[(A6 s0_0 q19.2),CD,(ro 0 50 3 AA q33),(ro 0 50 3 AA [q34])]⟩:=(hA37 _ _ _).2 (by
       refine Ad [1,9] U (by kernel_rfl) (by decide) ⟨?_,?_,trivial⟩
       ·refine Av.of (i:=1) rfl U (by rfl) ?_
        refine zq tb U (AB ⟨U,?_⟩)
        exact AF (by exact AG U) (AL (by kernel_rfl) ((hA37 _ _ _).1 A37_012345678)) rfl
       ·refine Av.of (i:=9) rfl U (by rfl) ?_
        refine CL (l2:=[q34]) AK BW U U U U (EP U U Cz) B4 gl35 U (AB ⟨U,?_⟩)
        exact AF (by refine Wk.trans (B6 (L:=[(4,(.ptr 1 0 0 0)),(64,(.Al [(i64 p1.op),(i64 p1.num),(ls AA p1.kids)] 0)),(67,(i64 p1.num)),(73,(ow 2 0 l35))]) (st':=[(A6 s0_0 q19.2),CD,(ro 0 50 3 AA l35),(ro 0 50 3 AA [q34])]) (.raw U U U (.raw U U U (.pure U (AD Ag) (.pure U (AD Ag) .nil)))) ⟨.rfl,.rfl,.rfl,.rfl,trivial⟩) ?_;exact AT (L:=[(4,(.ptr 1 0 0 0)),(64,(.Al [(i64 p1.op),(i64 p1.num),(ls AA p1.kids)] 0)),(67,(i64 p1.num)),(73,(ow 2 0 l35))]) (st':=[(A6 s0_0 q19.2),CD,(ro 0 50 3 AA l35)]) [0,1,2] U (by decide) rfl U (.raw U U (.raw U U (.pure (AD Ag) .nil))) ⟨.rfl,.rfl,.rfl,.rfl,trivial⟩) (AL (by kernel_rfl) ((hA37 _ _ _).1 A37_023456789)) rfl)
      have A37_0234567:A37 5 #[true,false,true,true,true,true,true,true,false,false,false,false] ⟨85,Ab [(4,(.ptr 1 0 0 0)),(64,(.Al [(i64 p1.op),(i64 p1.num),(ls AA p1.kids)] 0)),(67,(i64 p1.num)),(70,(ow 2 0 q33)),(71,(.agg [(i64 q34.op),(i64 q34.num),(ls AA q34.kids)]))],[(A6 s0_0 q19.2),CD,(ro 0 50 3 AA q33)]⟩:=(hA37 _ _ _).2 (by
       refine Ad [1,8] U (by kernel_rfl) (by decide) ⟨?_,?_,trivial⟩
       ·refine Av.of (i:=1) rfl U (by rfl) ?_
        refine zq tb U (AB ⟨U,?_⟩)
        exact AF (by exact AG U) (AL (by kernel_rfl) ((hA37 _ _ _).1 A37_01234567)) rfl
       ·refine Av.of (i:=8) rfl U (by rfl) ?_
        refine A8 (m:=3) (l:=[q34]) (enc:=AA) AK BW (by decide) rfl U (by simp only[List.map,Ao];rfl) rfl U U ?_
        refine AB ⟨U,?_⟩
        exact AF (by exact AG U) (AL (by kernel_rfl) ((hA37 _ _ _).1 A37_02345678)) rfl)
      have A37_023456:A37 6 #[true,false,true,true,true,true,true,false,false,false,false,false] ⟨85,Ab [(4,(.ptr 1 0 0 0)),(64,(.Al [(i64 p1.op),(i64 p1.num),(ls AA p1.kids)] 0)),(67,(i64 p1.num)),(70,(ow 2 0 q33))],[(A6 s0_0 q19.2),CD,(ro 0 50 3 AA q33)]⟩:=(hA37 _ _ _).2 (by
       refine Ad [1,7] U (by kernel_rfl) (by decide) ⟨?_,?_,trivial⟩
       ·refine Av.of (i:=1) rfl U (by rfl) ?_
        refine zq tb U (AB ⟨U,?_⟩)
        exact AF (by exact AG U) (AL (by kernel_rfl) ((hA37 _ _ _).1 A37_0123456)) rfl
       ·refine Av.of (i:=7) rfl U (by rfl) ?_
        refine zc (v':=(.agg [(i64 q34.op),(i64 q34.num),(ls AA q34.kids)])) Gh (Bp gq34) rfl U U (AB ⟨U,?_⟩)
        exact AF (by exact AG U) (AL (by kernel_rfl) ((hA37 _ _ _).1 A37_0234567)) rfl)
      have A37_02345:A37 7 #[true,false,true,true,true,true,false,false,false,false,false,false] ⟨85,Ab [(4,(.ptr 1 0 0 0)),(64,(.Al [(i64 p1.op),(i64 p1.num),(ls AA p1.kids)] 0)),(67,(i64 p1.num)),(69,(ls AA p1.kids))],[(A6 s0_0 q19.2),CD]⟩:=(hA37 _ _ _).2 (by
       refine Ad [1,6] U (by kernel_rfl) (by decide) ⟨?_,?_,trivial⟩
       ·refine Av.of (i:=1) rfl U (by rfl) ?_
        refine zq tb U (AB ⟨U,?_⟩)
        exact AF (by exact AG U) (AL (by kernel_rfl) ((hA37 _ _ _).1 A37_012345)) rfl
       ·refine Av.of (i:=6) rfl U (by rfl) ?_
        refine CC (v':=(ow 2 0 q33)) AK JE (CU gq33) rfl U ⟨(Bs Ag),trivial⟩ U U (AB ⟨U,?_⟩)
        exact AF (by exact AG U) (AL (by kernel_rfl) ((hA37 _ _ _).1 A37_023456)) rfl)
      have A37_0234:A37 8 #[true,false,true,true,true,false,false,false,false,false,false,false] ⟨85,Ab [(4,(.ptr 1 0 0 0)),(64,(.Al [(i64 p1.op),(i64 p1.num),(ls AA p1.kids)] 0)),(67,(i64 p1.num)),(68,(.Al [(i64 p1.op),(i64 p1.num),(ls AA p1.kids)] 2))],[(A6 s0_0 q19.2),CD]⟩:=(hA37 _ _ _).2 (by
       refine Ad [1,5] U (by kernel_rfl) (by decide) ⟨?_,?_,trivial⟩
       ·refine Av.of (i:=1) rfl U (by rfl) ?_
        refine zq tb U (AB ⟨U,?_⟩)
        exact AF (by exact AG U) (AL (by kernel_rfl) ((hA37 _ _ _).1 A37_01234)) rfl
       ·refine Av.of (i:=5) rfl U (by rfl) ?_
        refine zq tb U (AB ⟨U,?_⟩)
        exact AF (by exact AG U) (AL (by kernel_rfl) ((hA37 _ _ _).1 A37_02345)) rfl)
      have A37_023:A37 9 #[true,false,true,true,false,false,false,false,false,false,false,false] ⟨85,Ab [(3,(.Al [(i64 p1.op),(i64 p1.num),(ls AA p1.kids)] 0)),(4,(.ptr 1 0 0 0)),(64,(.Al [(i64 p1.op),(i64 p1.num),(ls AA p1.kids)] 0)),(67,(i64 p1.num))],[(A6 s0_0 q19.2),CD]⟩:=(hA37 _ _ _).2 (by
       refine Ad [1,4] U (by kernel_rfl) (by decide) ⟨?_,?_,trivial⟩
       ·refine Av.of (i:=1) rfl U (by rfl) ?_
        refine zq tb U (AB ⟨U,?_⟩)
        exact AF (by exact AG U) (AL (by kernel_rfl) ((hA37 _ _ _).1 A37_0123)) rfl
       ·refine Av.of (i:=4) rfl U (by rfl) ?_
        refine zq tb U (AB ⟨U,?_⟩)
        exact AF (by exact AG U) (AL (by kernel_rfl) ((hA37 _ _ _).1 A37_0234)) rfl)
      have A37_02456789:A37 4 #[true,false,true,false,true,true,true,true,true,true,false,false] ⟨85,Ab [(4,(.ptr 1 0 0 0)),(64,(.Al [(i64 p1.op),(i64 p1.num),(ls AA p1.kids)] 0)),(66,(.Al [(i64 p1.op),(i64 p1.num),(ls AA p1.kids)] 1)),(73,(ow 2 0 l35))],[(A6 s0_0 q19.2),CD,(ro 0 50 3 AA l35)]⟩:=(hA37 _ _ _).2 (by
       refine Ad [1,3] U (by kernel_rfl) (by decide) ⟨?_,?_,trivial⟩
       ·refine Av.of (i:=1) rfl U (by rfl) ?_
        refine zq tb U (AB ⟨U,?_⟩)
        exact AF (by exact AG U) (AL (by kernel_rfl) ((hA37 _ _ _).1 A37_012456789)) rfl
       ·refine Av.of (i:=3) rfl U (by rfl) ?_
        refine zq tb U (AB ⟨U,?_⟩)
        exact AF (by exact AG U) (AL (by kernel_rfl) ((hA37 _ _ _).1 A37_023456789)) rfl)
      have A37_0245678:A37 5 #[true,false,true,false,true,true,true,true,true,false,false,false] ⟨85,Ab [(4,(.ptr 1 0 0 0)),(64,(.Al [(i64 p1.op),(i64 p1.num),(ls AA p1.kids)] 0)),(66,(.Al [(i64 p1.op),(i64 p1.num),(ls AA p1.kids)] 1)),(70,(ow 2 0 q33)),(72,(ow 3 0 [q34]))],[(A6 s0_0 q19.2),CD,(ro 0 50 3 AA q33),(ro 0 50 3 AA [q34])]⟩:=(hA37 _ _ _).2 (by
       refine Ad [1,3,9] U (by kernel_rfl) (by decide) ⟨?_,?_,?_,trivial⟩
       ·refine Av.of (i:=1) rfl U (by rfl) ?_
        refine zq tb U (AB ⟨U,?_⟩)
        exact AF (by exact AG U) (AL (by kernel_rfl) ((hA37 _ _ _).1 A37_01245678)) rfl
       ·refine Av.of (i:=3) rfl U (by rfl) ?_
        refine zq tb U (AB ⟨U,?_⟩)
        exact AF (by exact AG U) (AL (by kernel_rfl) ((hA37 _ _ _).1 A37_02345678)) rfl
       ·refine Av.of (i:=9) rfl U (by rfl) ?_
        refine CL (l2:=[q34]) AK BW U U U U (EP U U Cz) B4 gl35 U (AB ⟨U,?_⟩)
        exact AF (by refine Wk.trans (B6 (L:=[(4,(.ptr 1 0 0 0)),(64,(.Al [(i64 p1.op),(i64 p1.num),(ls AA p1.kids)] 0)),(66,(.Al [(i64 p1.op),(i64 p1.num),(ls AA p1.kids)] 1)),(73,(ow 2 0 l35))]) (st':=[(A6 s0_0 q19.2),CD,(ro 0 50 3 AA l35),(ro 0 50 3 AA [q34])]) (.raw U U U (.raw U U U (.pure U (AD Ag) (.pure U (AD Ag) .nil)))) ⟨.rfl,.rfl,.rfl,.rfl,trivial⟩) ?_;exact AT (L:=[(4,(.ptr 1 0 0 0)),(64,(.Al [(i64 p1.op),(i64 p1.num),(ls AA p1.kids)] 0)),(66,(.Al [(i64 p1.op),(i64 p1.num),(ls AA p1.kids)] 1)),(73,(ow 2 0 l35))]) (st':=[(A6 s0_0 q19.2),CD,(ro 0 50 3 AA l35)]) [0,1,2] U (by decide) rfl U (.raw U U (.raw U U (.pure (AD Ag) .nil))) ⟨.rfl,.rfl,.rfl,.rfl,trivial⟩) (AL (by kernel_rfl) ((hA37 _ _ _).1 A37_02456789)) rfl)
      have A37_024567:A37 6 #[true,false,true,false,true,true,true,true,false,false,false,false] ⟨85,Ab [(4,(.ptr 1 0 0 0)),(64,(.Al [(i64 p1.op),(i64 p1.num),(ls AA p1.kids)] 0)),(66,(.Al [(i64 p1.op),(i64 p1.num),(ls AA p1.kids)] 1)),(70,(ow 2 0 q33)),(71,(.agg [(i64 q34.op),(i64 q34.num),(ls AA q34.kids)]))],[(A6 s0_0 q19.2),CD,(ro 0 50 3 AA q33)]⟩:=(hA37 _ _ _).2 (by
       refine Ad [1,3,8] U (by kernel_rfl) (by decide) ⟨?_,?_,?_,trivial⟩
       ·refine Av.of (i:=1) rfl U (by rfl) ?_
        refine zq tb U (AB ⟨U,?_⟩)
        exact AF (by exact AG U) (AL (by kernel_rfl) ((hA37 _ _ _).1 A37_0124567)) rfl
       ·refine Av.of (i:=3) rfl U (by rfl) ?_
        refine zq tb U (AB ⟨U,?_⟩)
        exact AF (by exact AG U) (AL (by kernel_rfl) ((hA37 _ _ _).1 A37_0234567)) rfl
       ·refine Av.of (i:=8) rfl U (by rfl) ?_
        refine A8 (m:=3) (l:=[q34]) (enc:=AA) AK BW (by decide) rfl U (by simp only[List.map,Ao];rfl) rfl U U ?_
        refine AB ⟨U,?_⟩
        exact AF (by exact AG U) (AL (by kernel_rfl) ((hA37 _ _ _).1 A37_0245678)) rfl)
      have A37_02456:A37 7 #[true,false,true,false,true,true,true,false,false,false,false,false] ⟨85,Ab [(4,(.ptr 1 0 0 0)),(64,(.Al [(i64 p1.op),(i64 p1.num),(ls AA p1.kids)] 0)),(66,(.Al [(i64 p1.op),(i64 p1.num),(ls AA p1.kids)] 1)),(70,(ow 2 0 q33))],[(A6 s0_0 q19.2),CD,(ro 0 50 3 AA q33)]⟩:=(hA37 _ _ _).2 (by
       refine Ad [1,3,7] U (by kernel_rfl) (by decide) ⟨?_,?_,?_,trivial⟩
       ·refine Av.of (i:=1) rfl U (by rfl) ?_
        refine zq tb U (AB ⟨U,?_⟩)
        exact AF (by exact AG U) (AL (by kernel_rfl) ((hA37 _ _ _).1 A37_012456)) rfl
       ·refine Av.of (i:=3) rfl U (by rfl) ?_
        refine zq tb U (AB ⟨U,?_⟩)
        exact AF (by exact AG U) (AL (by kernel_rfl) ((hA37 _ _ _).1 A37_023456)) rfl
       ·refine Av.of (i:=7) rfl U (by rfl) ?_
        refine zc (v':=(.agg [(i64 q34.op),(i64 q34.num),(ls AA q34.kids)])) Gh (Bp gq34) rfl U U (AB ⟨U,?_⟩)
        exact AF (by exact AG U) (AL (by kernel_rfl) ((hA37 _ _ _).1 A37_024567)) rfl)
      have A37_0245:A37 8 #[true,false,true,false,true,true,false,false,false,false,false,false] ⟨85,Ab [(4,(.ptr 1 0 0 0)),(64,(.Al [(i64 p1.op),(i64 p1.num),(ls AA p1.kids)] 0)),(66,(.Al [(i64 p1.op),(i64 p1.num),(ls AA p1.kids)] 1)),(69,(ls AA p1.kids))],[(A6 s0_0 q19.2),CD]⟩:=(hA37 _ _ _).2 (by
       refine Ad [1,3,6] U (by kernel_rfl) (by decide) ⟨?_,?_,?_,trivial⟩
       ·refine Av.of (i:=1) rfl U (by rfl) ?_
        refine zq tb U (AB ⟨U,?_⟩)
        exact AF (by exact AG U) (AL (by kernel_rfl) ((hA37 _ _ _).1 A37_01245)) rfl
       ·refine Av.of (i:=3) rfl U (by rfl) ?_
        refine zq tb U (AB ⟨U,?_⟩)
        exact AF (by exact AG U) (AL (by kernel_rfl) ((hA37 _ _ _).1 A37_02345)) rfl
       ·refine Av.of (i:=6) rfl U (by rfl) ?_
        refine CC (v':=(ow 2 0 q33)) AK JE (CU gq33) rfl U ⟨(Bs Ag),trivial⟩ U U (AB ⟨U,?_⟩)
        exact AF (by exact AG U) (AL (by kernel_rfl) ((hA37 _ _ _).1 A37_02456)) rfl)
      have A37_024:A37 9 #[true,false,true,false,true,false,false,false,false,false,false,false] ⟨85,Ab [(4,(.ptr 1 0 0 0)),(64,(.Al [(i64 p1.op),(i64 p1.num),(ls AA p1.kids)] 0)),(66,(.Al [(i64 p1.op),(i64 p1.num),(ls AA p1.kids)] 1)),(68,(.Al [(i64 p1.op),(i64 p1.num),(ls AA p1.kids)] 2))],[(A6 s0_0 q19.2),CD]⟩:=(hA37 _ _ _).2 (by
       refine Ad [1,3,5] U (by kernel_rfl) (by decide) ⟨?_,?_,?_,trivial⟩
       ·refine Av.of (i:=1) rfl U (by rfl) ?_
        refine zq tb U (AB ⟨U,?_⟩)
        exact AF (by exact AG U) (AL (by kernel_rfl) ((hA37 _ _ _).1 A37_0124)) rfl
       ·refine Av.of (i:=3) rfl U (by rfl) ?_
        refine zq tb U (AB ⟨U,?_⟩)
        exact AF (by exact AG U) (AL (by kernel_rfl) ((hA37 _ _ _).1 A37_0234)) rfl
       ·refine Av.of (i:=5) rfl U (by rfl) ?_
        refine zq tb U (AB ⟨U,?_⟩)
        exact AF (by exact AG U) (AL (by kernel_rfl) ((hA37 _ _ _).1 A37_0245)) rfl)
      have A37_02:A37 10 #[true,false,true,false,false,false,false,false,false,false,false,false] ⟨85,Ab [(3,(.Al [(i64 p1.op),(i64 p1.num),(ls AA p1.kids)] 0)),(4,(.ptr 1 0 0 0)),(64,(.Al [(i64 p1.op),(i64 p1.num),(ls AA p1.kids)] 0)),(66,(.Al [(i64 p1.op),(i64 p1.num),(ls AA p1.kids)] 1))],[(A6 s0_0 q19.2),CD]⟩:=(hA37 _ _ _).2 (by
       refine Ad [1,3,4] U (by kernel_rfl) (by decide) ⟨?_,?_,?_,trivial⟩
       ·refine Av.of (i:=1) rfl U (by rfl) ?_
        refine zq tb U (AB ⟨U,?_⟩)
        exact AF (by exact AG U) (AL (by kernel_rfl) ((hA37 _ _ _).1 A37_012)) rfl
       ·refine Av.of (i:=3) rfl U (by rfl) ?_
        refine zq tb U (AB ⟨U,?_⟩)
        exact AF (by exact AG U) (AL (by kernel_rfl) ((hA37 _ _ _).1 A37_023)) rfl
       ·refine Av.of (i:=4) rfl U (by rfl) ?_
        refine zq tb U (AB ⟨U,?_⟩)
        exact AF (by exact AG U) (AL (by kernel_rfl) ((hA37 _ _ _).1 A37_024)) rfl)
      have A37_0456789:A37 5 #[true,false,false,false,true,true,true,true,true,true,false,false] ⟨85,Ab [(3,(.Al [(i64 p1.op),(i64 p1.num),(ls AA p1.kids)] 0)),(4,(.ptr 1 0 0 0)),(64,(.Al [(i64 p1.op),(i64 p1.num),(ls AA p1.kids)] 0)),(73,(ow 2 0 l35))],[(A6 s0_0 q19.2),CD,(ro 0 50 3 AA l35)]⟩:=(hA37 _ _ _).2 (by
       refine Ad [1,2] U (by kernel_rfl) (by decide) ⟨?_,?_,trivial⟩
       ·refine Av.of (i:=1) rfl U (by rfl) ?_
        refine zq tb U (AB ⟨U,?_⟩)
        exact AF (by exact AG U) (AL (by kernel_rfl) ((hA37 _ _ _).1 A37_01456789)) rfl
       ·refine Av.of (i:=2) rfl U (by rfl) ?_
        refine zq tb U (AB ⟨U,?_⟩)
        exact AF (by exact AG U) (AL (by kernel_rfl) ((hA37 _ _ _).1 A37_02456789)) rfl)
      have A37_045678:A37 6 #[true,false,false,false,true,true,true,true,true,false,false,false] ⟨85,Ab [(3,(.Al [(i64 p1.op),(i64 p1.num),(ls AA p1.kids)] 0)),(4,(.ptr 1 0 0 0)),(64,(.Al [(i64 p1.op),(i64 p1.num),(ls AA p1.kids)] 0)),(70,(ow 2 0 q33)),(72,(ow 3 0 [q34]))],[(A6 s0_0 q19.2),CD,(ro 0 50 3 AA q33),(ro 0 50 3 AA [q34])]⟩:=(hA37 _ _ _).2 (by
       refine Ad [1,2,9] U (by kernel_rfl) (by decide) ⟨?_,?_,?_,trivial⟩
       ·refine Av.of (i:=1) rfl U (by rfl) ?_
        refine zq tb U (AB ⟨U,?_⟩)
        exact AF (by exact AG U) (AL (by kernel_rfl) ((hA37 _ _ _).1 A37_0145678)) rfl
       ·refine Av.of (i:=2) rfl U (by rfl) ?_
        refine zq tb U (AB ⟨U,?_⟩)
        exact AF (by exact AG U) (AL (by kernel_rfl) ((hA37 _ _ _).1 A37_0245678)) rfl
       ·refine Av.of (i:=9) rfl U (by rfl) ?_
        refine CL (l2:=[q34]) AK BW U U U U (EP U U Cz) B4 gl35 U (AB ⟨U,?_⟩)
        exact AF (by refine Wk.trans (B6 (L:=[(3,(.Al [(i64 p1.op),(i64 p1.num),(ls AA p1.kids)] 0)),(4,(.ptr 1 0 0 0)),(64,(.Al [(i64 p1.op),(i64 p1.num),(ls AA p1.kids)] 0)),(73,(ow 2 0 l35))]) (st':=[(A6 s0_0 q19.2),CD,(ro 0 50 3 AA l35),(ro 0 50 3 AA [q34])]) (.raw U U U (.raw U U U (.pure U (AD Ag) (.pure U (AD Ag) .nil)))) ⟨.rfl,.rfl,.rfl,.rfl,trivial⟩) ?_;exact AT (L:=[(3,(.Al [(i64 p1.op),(i64 p1.num),(ls AA p1.kids)] 0)),(4,(.ptr 1 0 0 0)),(64,(.Al [(i64 p1.op),(i64 p1.num),(ls AA p1.kids)] 0)),(73,(ow 2 0 l35))]) (st':=[(A6 s0_0 q19.2),CD,(ro 0 50 3 AA l35)]) [0,1,2] U (by decide) rfl U (.raw U U (.raw U U (.pure (AD Ag) .nil))) ⟨.rfl,.rfl,.rfl,.rfl,trivial⟩) (AL (by kernel_rfl) ((hA37 _ _ _).1 A37_0456789)) rfl)
      have A37_04567:A37 7 #[true,false,false,false,true,true,true,true,false,false,false,false] ⟨85,Ab [(3,(.Al [(i64 p1.op),(i64 p1.num),(ls AA p1.kids)] 0)),(4,(.ptr 1 0 0 0)),(64,(.Al [(i64 p1.op),(i64 p1.num),(ls AA p1.kids)] 0)),(70,(ow 2 0 q33)),(71,(.agg [(i64 q34.op),(i64 q34.num),(ls AA q34.kids)]))],[(A6 s0_0 q19.2),CD,(ro 0 50 3 AA q33)]⟩:=(hA37 _ _ _).2 (by
       refine Ad [1,2,8] U (by kernel_rfl) (by decide) ⟨?_,?_,?_,trivial⟩
       ·refine Av.of (i:=1) rfl U (by rfl) ?_
        refine zq tb U (AB ⟨U,?_⟩)
        exact AF (by exact AG U) (AL (by kernel_rfl) ((hA37 _ _ _).1 A37_014567)) rfl
       ·refine Av.of (i:=2) rfl U (by rfl) ?_
        refine zq tb U (AB ⟨U,?_⟩)
        exact AF (by exact AG U) (AL (by kernel_rfl) ((hA37 _ _ _).1 A37_024567)) rfl
       ·refine Av.of (i:=8) rfl U (by rfl) ?_
        refine A8 (m:=3) (l:=[q34]) (enc:=AA) AK BW (by decide) rfl U (by simp only[List.map,Ao];rfl) rfl U U ?_
        refine AB ⟨U,?_⟩
        exact AF (by exact AG U) (AL (by kernel_rfl) ((hA37 _ _ _).1 A37_045678)) rfl)
      have A37_0456:A37 8 #[true,false,false,false,true,true,true,false,false,false,false,false] ⟨85,Ab [(3,(.Al [(i64 p1.op),(i64 p1.num),(ls AA p1.kids)] 0)),(4,(.ptr 1 0 0 0)),(64,(.Al [(i64 p1.op),(i64 p1.num),(ls AA p1.kids)] 0)),(70,(ow 2 0 q33))],[(A6 s0_0 q19.2),CD,(ro 0 50 3 AA q33)]⟩:=(hA37 _ _ _).2 (by
       refine Ad [1,2,7] U (by kernel_rfl) (by decide) ⟨?_,?_,?_,trivial⟩
       ·refine Av.of (i:=1) rfl U (by rfl) ?_
        refine zq tb U (AB ⟨U,?_⟩)
        exact AF (by exact AG U) (AL (by kernel_rfl) ((hA37 _ _ _).1 A37_01456)) rfl
       ·refine Av.of (i:=2) rfl U (by rfl) ?_
        refine zq tb U (AB ⟨U,?_⟩)
        exact AF (by exact AG U) (AL (by kernel_rfl) ((hA37 _ _ _).1 A37_02456)) rfl
       ·refine Av.of (i:=7) rfl U (by rfl) ?_
        refine zc (v':=(.agg [(i64 q34.op),(i64 q34.num),(ls AA q34.kids)])) Gh (Bp gq34) rfl U U (AB ⟨U,?_⟩)
        exact AF (by exact AG U) (AL (by kernel_rfl) ((hA37 _ _ _).1 A37_04567)) rfl)
      have A37_045:A37 9 #[true,false,false,false,true,true,false,false,false,false,false,false] ⟨85,Ab [(3,(.Al [(i64 p1.op),(i64 p1.num),(ls AA p1.kids)] 0)),(4,(.ptr 1 0 0 0)),(64,(.Al [(i64 p1.op),(i64 p1.num),(ls AA p1.kids)] 0)),(69,(ls AA p1.kids))],[(A6 s0_0 q19.2),CD]⟩:=(hA37 _ _ _).2 (by
       refine Ad [1,2,6] U (by kernel_rfl) (by decide) ⟨?_,?_,?_,trivial⟩
       ·refine Av.of (i:=1) rfl U (by rfl) ?_
        refine zq tb U (AB ⟨U,?_⟩)
        exact AF (by exact AG U) (AL (by kernel_rfl) ((hA37 _ _ _).1 A37_0145)) rfl
       ·refine Av.of (i:=2) rfl U (by rfl) ?_
        refine zq tb U (AB ⟨U,?_⟩)
        exact AF (by exact AG U) (AL (by kernel_rfl) ((hA37 _ _ _).1 A37_0245)) rfl
       ·refine Av.of (i:=6) rfl U (by rfl) ?_
        refine CC (v':=(ow 2 0 q33)) AK JE (CU gq33) rfl U ⟨(Bs Ag),trivial⟩ U U (AB ⟨U,?_⟩)
        exact AF (by exact AG U) (AL (by kernel_rfl) ((hA37 _ _ _).1 A37_0456)) rfl)
      have A37_04:A37 10 #[true,false,false,false,true,false,false,false,false,false,false,false] ⟨85,Ab [(3,(.Al [(i64 p1.op),(i64 p1.num),(ls AA p1.kids)] 0)),(4,(.ptr 1 0 0 0)),(64,(.Al [(i64 p1.op),(i64 p1.num),(ls AA p1.kids)] 0)),(68,(.Al [(i64 p1.op),(i64 p1.num),(ls AA p1.kids)] 2))],[(A6 s0_0 q19.2),CD]⟩:=(hA37 _ _ _).2 (by
       refine Ad [1,2,5] U (by kernel_rfl) (by decide) ⟨?_,?_,?_,trivial⟩
       ·refine Av.of (i:=1) rfl U (by rfl) ?_
        refine zq tb U (AB ⟨U,?_⟩)
        exact AF (by exact AG U) (AL (by kernel_rfl) ((hA37 _ _ _).1 A37_014)) rfl
       ·refine Av.of (i:=2) rfl U (by rfl) ?_
        refine zq tb U (AB ⟨U,?_⟩)
        exact AF (by exact AG U) (AL (by kernel_rfl) ((hA37 _ _ _).1 A37_024)) rfl
       ·refine Av.of (i:=5) rfl U (by rfl) ?_
        refine zq tb U (AB ⟨U,?_⟩)
        exact AF (by exact AG U) (AL (by kernel_rfl) ((hA37 _ _ _).1 A37_045)) rfl)
      have A37_0:A37 11 #[true,false,false,false,false,false,false,false,false,false,false,false] ⟨85,Ab [(3,(.Al [(i64 p1.op),(i64 p1.num),(ls AA p1.kids)] 0)),(4,(.ptr 1 0 0 0)),(64,(.Al [(i64 p1.op),(i64 p1.num),(ls AA p1.kids)] 0))],[(A6 s0_0 q19.2),CD]⟩:=(hA37 _ _ _).2 (by
       refine Ad [1,2,4] U (by kernel_rfl) (by decide) ⟨?_,?_,?_,trivial⟩
       ·refine Av.of (i:=1) rfl U (by rfl) ?_
        refine zq tb U (AB ⟨U,?_⟩)
        exact AF (by exact AG U) (AL (by kernel_rfl) ((hA37 _ _ _).1 A37_01)) rfl
       ·refine Av.of (i:=2) rfl U (by rfl) ?_
        refine zq tb U (AB ⟨U,?_⟩)
        exact AF (by exact AG U) (AL (by kernel_rfl) ((hA37 _ _ _).1 A37_02)) rfl
       ·refine Av.of (i:=4) rfl U (by rfl) ?_
        refine zq tb U (AB ⟨U,?_⟩)
        exact AF (by exact AG U) (AL (by kernel_rfl) ((hA37 _ _ _).1 A37_04)) rfl)
      have A37_23456789:A37 4 #[false,false,true,true,true,true,true,true,true,true,false,false] ⟨85,Ab [(3,(.Al [(i64 p1.op),(i64 p1.num),(ls AA p1.kids)] 0)),(4,(.ptr 1 0 0 0)),(67,(i64 p1.num)),(73,(ow 2 0 l35))],[(A6 s0_0 q19.2),CD,(ro 0 50 3 AA l35)]⟩:=(hA37 _ _ _).2 (by
       refine Ad [0] U (by kernel_rfl) (by decide) ⟨?_,trivial⟩
       ·refine Av.of (i:=0) rfl U (by rfl) ?_
        refine zq tb U (AB ⟨U,?_⟩)
        exact AF (by exact AG U) (AL (by kernel_rfl) ((hA37 _ _ _).1 A37_023456789)) rfl)
      have A37_2345678:A37 5 #[false,false,true,true,true,true,true,true,true,false,false,false] ⟨85,Ab [(3,(.Al [(i64 p1.op),(i64 p1.num),(ls AA p1.kids)] 0)),(4,(.ptr 1 0 0 0)),(67,(i64 p1.num)),(70,(ow 2 0 q33)),(72,(ow 3 0 [q34]))],[(A6 s0_0 q19.2),CD,(ro 0 50 3 AA q33),(ro 0 50 3 AA [q34])]⟩:=(hA37 _ _ _).2 (by
       refine Ad [0,9] U (by kernel_rfl) (by decide) ⟨?_,?_,trivial⟩
       ·refine Av.of (i:=0) rfl U (by rfl) ?_
        refine zq tb U (AB ⟨U,?_⟩)
        exact AF (by exact AG U) (AL (by kernel_rfl) ((hA37 _ _ _).1 A37_02345678)) rfl
       ·refine Av.of (i:=9) rfl U (by rfl) ?_
        refine CL (l2:=[q34]) AK BW U U U U (EP U U Cz) B4 gl35 U (AB ⟨U,?_⟩)
        exact AF (by refine Wk.trans (B6 (L:=[(3,(.Al [(i64 p1.op),(i64 p1.num),(ls AA p1.kids)] 0)),(4,(.ptr 1 0 0 0)),(67,(i64 p1.num)),(73,(ow 2 0 l35))]) (st':=[(A6 s0_0 q19.2),CD,(ro 0 50 3 AA l35),(ro 0 50 3 AA [q34])]) (.raw U U U (.raw U U U (.pure U (AD Ag) (.pure U (AD Ag) .nil)))) ⟨.rfl,.rfl,.rfl,.rfl,trivial⟩) ?_;exact AT (L:=[(3,(.Al [(i64 p1.op),(i64 p1.num),(ls AA p1.kids)] 0)),(4,(.ptr 1 0 0 0)),(67,(i64 p1.num)),(73,(ow 2 0 l35))]) (st':=[(A6 s0_0 q19.2),CD,(ro 0 50 3 AA l35)]) [0,1,2] U (by decide) rfl U (.raw U U (.raw U U (.pure (AD Ag) .nil))) ⟨.rfl,.rfl,.rfl,.rfl,trivial⟩) (AL (by kernel_rfl) ((hA37 _ _ _).1 A37_23456789)) rfl)
      have A37_234567:A37 6 #[false,false,true,true,true,true,true,true,false,false,false,false] ⟨85,Ab [(3,(.Al [(i64 p1.op),(i64 p1.num),(ls AA p1.kids)] 0)),(4,(.ptr 1 0 0 0)),(67,(i64 p1.num)),(70,(ow 2 0 q33)),(71,(.agg [(i64 q34.op),(i64 q34.num),(ls AA q34.kids)]))],[(A6 s0_0 q19.2),CD,(ro 0 50 3 AA q33)]⟩:=(hA37 _ _ _).2 (by
       refine Ad [0,8] U (by kernel_rfl) (by decide) ⟨?_,?_,trivial⟩
       ·refine Av.of (i:=0) rfl U (by rfl) ?_
        refine zq tb U (AB ⟨U,?_⟩)
        exact AF (by exact AG U) (AL (by kernel_rfl) ((hA37 _ _ _).1 A37_0234567)) rfl
       ·refine Av.of (i:=8) rfl U (by rfl) ?_
        refine A8 (m:=3) (l:=[q34]) (enc:=AA) AK BW (by decide) rfl U (by simp only[List.map,Ao];rfl) rfl U U ?_
        refine AB ⟨U,?_⟩
        exact AF (by exact AG U) (AL (by kernel_rfl) ((hA37 _ _ _).1 A37_2345678)) rfl)
      have A37_23456:A37 7 #[false,false,true,true,true,true,true,false,false,false,false,false] ⟨85,Ab [(3,(.Al [(i64 p1.op),(i64 p1.num),(ls AA p1.kids)] 0)),(4,(.ptr 1 0 0 0)),(67,(i64 p1.num)),(70,(ow 2 0 q33))],[(A6 s0_0 q19.2),CD,(ro 0 50 3 AA q33)]⟩:=(hA37 _ _ _).2 (by
       refine Ad [0,7] U (by kernel_rfl) (by decide) ⟨?_,?_,trivial⟩
       ·refine Av.of (i:=0) rfl U (by rfl) ?_
        refine zq tb U (AB ⟨U,?_⟩)
        exact AF (by exact AG U) (AL (by kernel_rfl) ((hA37 _ _ _).1 A37_023456)) rfl
       ·refine Av.of (i:=7) rfl U (by rfl) ?_
        refine zc (v':=(.agg [(i64 q34.op),(i64 q34.num),(ls AA q34.kids)])) Gh (Bp gq34) rfl U U (AB ⟨U,?_⟩)
        exact AF (by exact AG U) (AL (by kernel_rfl) ((hA37 _ _ _).1 A37_234567)) rfl)
      have A37_2345:A37 8 #[false,false,true,true,true,true,false,false,false,false,false,false] ⟨85,Ab [(3,(.Al [(i64 p1.op),(i64 p1.num),(ls AA p1.kids)] 0)),(4,(.ptr 1 0 0 0)),(67,(i64 p1.num)),(69,(ls AA p1.kids))],[(A6 s0_0 q19.2),CD]⟩:=(hA37 _ _ _).2 (by
       refine Ad [0,6] U (by kernel_rfl) (by decide) ⟨?_,?_,trivial⟩
       ·refine Av.of (i:=0) rfl U (by rfl) ?_
        refine zq tb U (AB ⟨U,?_⟩)
        exact AF (by exact AG U) (AL (by kernel_rfl) ((hA37 _ _ _).1 A37_02345)) rfl
       ·refine Av.of (i:=6) rfl U (by rfl) ?_
        refine CC (v':=(ow 2 0 q33)) AK JE (CU gq33) rfl U ⟨(Bs Ag),trivial⟩ U U (AB ⟨U,?_⟩)
        exact AF (by exact AG U) (AL (by kernel_rfl) ((hA37 _ _ _).1 A37_23456)) rfl)
      have A37_234:A37 9 #[false,false,true,true,true,false,false,false,false,false,false,false] ⟨85,Ab [(3,(.Al [(i64 p1.op),(i64 p1.num),(ls AA p1.kids)] 0)),(4,(.ptr 1 0 0 0)),(67,(i64 p1.num)),(68,(.Al [(i64 p1.op),(i64 p1.num),(ls AA p1.kids)] 2))],[(A6 s0_0 q19.2),CD]⟩:=(hA37 _ _ _).2 (by
       refine Ad [0,5] U (by kernel_rfl) (by decide) ⟨?_,?_,trivial⟩
       ·refine Av.of (i:=0) rfl U (by rfl) ?_
        refine zq tb U (AB ⟨U,?_⟩)
        exact AF (by exact AG U) (AL (by kernel_rfl) ((hA37 _ _ _).1 A37_0234)) rfl
       ·refine Av.of (i:=5) rfl U (by rfl) ?_
        refine zq tb U (AB ⟨U,?_⟩)
        exact AF (by exact AG U) (AL (by kernel_rfl) ((hA37 _ _ _).1 A37_2345)) rfl)
      have A37_23:A37 10 #[false,false,true,true,false,false,false,false,false,false,false,false] ⟨85,Ab [(3,(.Al [(i64 p1.op),(i64 p1.num),(ls AA p1.kids)] 0)),(4,(.ptr 1 0 0 0)),(67,(i64 p1.num))],[(A6 s0_0 q19.2),CD]⟩:=(hA37 _ _ _).2 (by
       refine Ad [0,4] U (by kernel_rfl) (by decide) ⟨?_,?_,trivial⟩
       ·refine Av.of (i:=0) rfl U (by rfl) ?_
        refine zq tb U (AB ⟨U,?_⟩)
        exact AF (by exact AG U) (AL (by kernel_rfl) ((hA37 _ _ _).1 A37_023)) rfl
       ·refine Av.of (i:=4) rfl U (by rfl) ?_
        refine zq tb U (AB ⟨U,?_⟩)
        exact AF (by exact AG U) (AL (by kernel_rfl) ((hA37 _ _ _).1 A37_234)) rfl)
      have A37_2456789:A37 5 #[false,false,true,false,true,true,true,true,true,true,false,false] ⟨85,Ab [(3,(.Al [(i64 p1.op),(i64 p1.num),(ls AA p1.kids)] 0)),(4,(.ptr 1 0 0 0)),(66,(.Al [(i64 p1.op),(i64 p1.num),(ls AA p1.kids)] 1)),(73,(ow 2 0 l35))],[(A6 s0_0 q19.2),CD,(ro 0 50 3 AA l35)]⟩:=(hA37 _ _ _).2 (by
       refine Ad [0,3] U (by kernel_rfl) (by decide) ⟨?_,?_,trivial⟩
       ·refine Av.of (i:=0) rfl U (by rfl) ?_
        refine zq tb U (AB ⟨U,?_⟩)
        exact AF (by exact AG U) (AL (by kernel_rfl) ((hA37 _ _ _).1 A37_02456789)) rfl
       ·refine Av.of (i:=3) rfl U (by rfl) ?_
        refine zq tb U (AB ⟨U,?_⟩)
        exact AF (by exact AG U) (AL (by kernel_rfl) ((hA37 _ _ _).1 A37_23456789)) rfl)
      have A37_245678:A37 6 #[false,false,true,false,true,true,true,true,true,false,false,false] ⟨85,Ab [(3,(.Al [(i64 p1.op),(i64 p1.num),(ls AA p1.kids)] 0)),(4,(.ptr 1 0 0 0)),(66,(.Al [(i64 p1.op),(i64 p1.num),(ls AA p1.kids)] 1)),(70,(ow 2 0 q33)),(72,(ow 3 0 [q34]))],[(A6 s0_0 q19.2),CD,(ro 0 50 3 AA q33),(ro 0 50 3 AA [q34])]⟩:=(hA37 _ _ _).2 (by
       refine Ad [0,3,9] U (by kernel_rfl) (by decide) ⟨?_,?_,?_,trivial⟩
       ·refine Av.of (i:=0) rfl U (by rfl) ?_
        refine zq tb U (AB ⟨U,?_⟩)
        exact AF (by exact AG U) (AL (by kernel_rfl) ((hA37 _ _ _).1 A37_0245678)) rfl
       ·refine Av.of (i:=3) rfl U (by rfl) ?_
        refine zq tb U (AB ⟨U,?_⟩)
        exact AF (by exact AG U) (AL (by kernel_rfl) ((hA37 _ _ _).1 A37_2345678)) rfl
       ·refine Av.of (i:=9) rfl U (by rfl) ?_
        refine CL (l2:=[q34]) AK BW U U U U (EP U U Cz) B4 gl35 U (AB ⟨U,?_⟩)
        exact AF (by refine Wk.trans (B6 (L:=[(3,(.Al [(i64 p1.op),(i64 p1.num),(ls AA p1.kids)] 0)),(4,(.ptr 1 0 0 0)),(66,(.Al [(i64 p1.op),(i64 p1.num),(ls AA p1.kids)] 1)),(73,(ow 2 0 l35))]) (st':=[(A6 s0_0 q19.2),CD,(ro 0 50 3 AA l35),(ro 0 50 3 AA [q34])]) (.raw U U U (.raw U U U (.pure U (AD Ag) (.pure U (AD Ag) .nil)))) ⟨.rfl,.rfl,.rfl,.rfl,trivial⟩) ?_;exact AT (L:=[(3,(.Al [(i64 p1.op),(i64 p1.num),(ls AA p1.kids)] 0)),(4,(.ptr 1 0 0 0)),(66,(.Al [(i64 p1.op),(i64 p1.num),(ls AA p1.kids)] 1)),(73,(ow 2 0 l35))]) (st':=[(A6 s0_0 q19.2),CD,(ro 0 50 3 AA l35)]) [0,1,2] U (by decide) rfl U (.raw U U (.raw U U (.pure (AD Ag) .nil))) ⟨.rfl,.rfl,.rfl,.rfl,trivial⟩) (AL (by kernel_rfl) ((hA37 _ _ _).1 A37_2456789)) rfl)
      have A37_24567:A37 7 #[false,false,true,false,true,true,true,true,false,false,false,false] ⟨85,Ab [(3,(.Al [(i64 p1.op),(i64 p1.num),(ls AA p1.kids)] 0)),(4,(.ptr 1 0 0 0)),(66,(.Al [(i64 p1.op),(i64 p1.num),(ls AA p1.kids)] 1)),(70,(ow 2 0 q33)),(71,(.agg [(i64 q34.op),(i64 q34.num),(ls AA q34.kids)]))],[(A6 s0_0 q19.2),CD,(ro 0 50 3 AA q33)]⟩:=(hA37 _ _ _).2 (by
       refine Ad [0,3,8] U (by kernel_rfl) (by decide) ⟨?_,?_,?_,trivial⟩
       ·refine Av.of (i:=0) rfl U (by rfl) ?_
        refine zq tb U (AB ⟨U,?_⟩)
        exact AF (by exact AG U) (AL (by kernel_rfl) ((hA37 _ _ _).1 A37_024567)) rfl
       ·refine Av.of (i:=3) rfl U (by rfl) ?_
        refine zq tb U (AB ⟨U,?_⟩)
        exact AF (by exact AG U) (AL (by kernel_rfl) ((hA37 _ _ _).1 A37_234567)) rfl
       ·refine Av.of (i:=8) rfl U (by rfl) ?_
        refine A8 (m:=3) (l:=[q34]) (enc:=AA) AK BW (by decide) rfl U (by simp only[List.map,Ao];rfl) rfl U U ?_
        refine AB ⟨U,?_⟩
        exact AF (by exact AG U) (AL (by kernel_rfl) ((hA37 _ _ _).1 A37_245678)) rfl)
      have A37_2456:A37 8 #[false,false,true,false,true,true,true,false,false,false,false,false] ⟨85,Ab [(3,(.Al [(i64 p1.op),(i64 p1.num),(ls AA p1.kids)] 0)),(4,(.ptr 1 0 0 0)),(66,(.Al [(i64 p1.op),(i64 p1.num),(ls AA p1.kids)] 1)),(70,(ow 2 0 q33))],[(A6 s0_0 q19.2),CD,(ro 0 50 3 AA q33)]⟩:=(hA37 _ _ _).2 (by
       refine Ad [0,3,7] U (by kernel_rfl) (by decide) ⟨?_,?_,?_,trivial⟩
       ·refine Av.of (i:=0) rfl U (by rfl) ?_
        refine zq tb U (AB ⟨U,?_⟩)
        exact AF (by exact AG U) (AL (by kernel_rfl) ((hA37 _ _ _).1 A37_02456)) rfl
       ·refine Av.of (i:=3) rfl U (by rfl) ?_
        refine zq tb U (AB ⟨U,?_⟩)
        exact AF (by exact AG U) (AL (by kernel_rfl) ((hA37 _ _ _).1 A37_23456)) rfl
       ·refine Av.of (i:=7) rfl U (by rfl) ?_
        refine zc (v':=(.agg [(i64 q34.op),(i64 q34.num),(ls AA q34.kids)])) Gh (Bp gq34) rfl U U (AB ⟨U,?_⟩)
        exact AF (by exact AG U) (AL (by kernel_rfl) ((hA37 _ _ _).1 A37_24567)) rfl)
      have A37_245:A37 9 #[false,false,true,false,true,true,false,false,false,false,false,false] ⟨85,Ab [(3,(.Al [(i64 p1.op),(i64 p1.num),(ls AA p1.kids)] 0)),(4,(.ptr 1 0 0 0)),(66,(.Al [(i64 p1.op),(i64 p1.num),(ls AA p1.kids)] 1)),(69,(ls AA p1.kids))],[(A6 s0_0 q19.2),CD]⟩:=(hA37 _ _ _).2 (by
       refine Ad [0,3,6] U (by kernel_rfl) (by decide) ⟨?_,?_,?_,trivial⟩
       ·refine Av.of (i:=0) rfl U (by rfl) ?_
        refine zq tb U (AB ⟨U,?_⟩)
        exact AF (by exact AG U) (AL (by kernel_rfl) ((hA37 _ _ _).1 A37_0245)) rfl
       ·refine Av.of (i:=3) rfl U (by rfl) ?_
        refine zq tb U (AB ⟨U,?_⟩)
        exact AF (by exact AG U) (AL (by kernel_rfl) ((hA37 _ _ _).1 A37_2345)) rfl
       ·refine Av.of (i:=6) rfl U (by rfl) ?_
        refine CC (v':=(ow 2 0 q33)) AK JE (CU gq33) rfl U ⟨(Bs Ag),trivial⟩ U U (AB ⟨U,?_⟩)
        exact AF (by exact AG U) (AL (by kernel_rfl) ((hA37 _ _ _).1 A37_2456)) rfl)
      have A37_24:A37 10 #[false,false,true,false,true,false,false,false,false,false,false,false] ⟨85,Ab [(3,(.Al [(i64 p1.op),(i64 p1.num),(ls AA p1.kids)] 0)),(4,(.ptr 1 0 0 0)),(66,(.Al [(i64 p1.op),(i64 p1.num),(ls AA p1.kids)] 1)),(68,(.Al [(i64 p1.op),(i64 p1.num),(ls AA p1.kids)] 2))],[(A6 s0_0 q19.2),CD]⟩:=(hA37 _ _ _).2 (by
       refine Ad [0,3,5] U (by kernel_rfl) (by decide) ⟨?_,?_,?_,trivial⟩
       ·refine Av.of (i:=0) rfl U (by rfl) ?_
        refine zq tb U (AB ⟨U,?_⟩)
        exact AF (by exact AG U) (AL (by kernel_rfl) ((hA37 _ _ _).1 A37_024)) rfl
       ·refine Av.of (i:=3) rfl U (by rfl) ?_
        refine zq tb U (AB ⟨U,?_⟩)
        exact AF (by exact AG U) (AL (by kernel_rfl) ((hA37 _ _ _).1 A37_234)) rfl
       ·refine Av.of (i:=5) rfl U (by rfl) ?_
        refine zq tb U (AB ⟨U,?_⟩)
        exact AF (by exact AG U) (AL (by kernel_rfl) ((hA37 _ _ _).1 A37_245)) rfl)
      have A37_2:A37 11 #[false,false,true,false,false,false,false,false,false,false,false,false] ⟨85,Ab [(3,(.Al [(i64 p1.op),(i64 p1.num),(ls AA p1.kids)] 0)),(4,(.ptr 1 0 0 0)),(66,(.Al [(i64 p1.op),(i64 p1.num),(ls AA p1.kids)] 1))],[(A6 s0_0 q19.2),CD]⟩:=(hA37 _ _ _).2 (by
       refine Ad [0,3,4] U (by kernel_rfl) (by decide) ⟨?_,?_,?_,trivial⟩
       ·refine Av.of (i:=0) rfl U (by rfl) ?_
        refine zq tb U (AB ⟨U,?_⟩)
        exact AF (by exact AG U) (AL (by kernel_rfl) ((hA37 _ _ _).1 A37_02)) rfl
       ·refine Av.of (i:=3) rfl U (by rfl) ?_
        refine zq tb U (AB ⟨U,?_⟩)
        exact AF (by exact AG U) (AL (by kernel_rfl) ((hA37 _ _ _).1 A37_23)) rfl
       ·refine Av.of (i:=4) rfl U (by rfl) ?_
        refine zq tb U (AB ⟨U,?_⟩)
        exact AF (by exact AG U) (AL (by kernel_rfl) ((hA37 _ _ _).1 A37_24)) rfl)
      have A37_456789:A37 6 #[false,false,false,false,true,true,true,true,true,true,false,false] ⟨85,Ab [(3,(.Al [(i64 p1.op),(i64 p1.num),(ls AA p1.kids)] 0)),(4,(.ptr 1 0 0 0)),(73,(ow 2 0 l35))],[(A6 s0_0 q19.2),CD,(ro 0 50 3 AA l35)]⟩:=(hA37 _ _ _).2 (by
       refine Ad [0,2] U (by kernel_rfl) (by decide) ⟨?_,?_,trivial⟩
       ·refine Av.of (i:=0) rfl U (by rfl) ?_
        refine zq tb U (AB ⟨U,?_⟩)
        exact AF (by exact AG U) (AL (by kernel_rfl) ((hA37 _ _ _).1 A37_0456789)) rfl
       ·refine Av.of (i:=2) rfl U (by rfl) ?_
        refine zq tb U (AB ⟨U,?_⟩)
        exact AF (by exact AG U) (AL (by kernel_rfl) ((hA37 _ _ _).1 A37_2456789)) rfl)
      have A37_45678:A37 7 #[false,false,false,false,true,true,true,true,true,false,false,false] ⟨85,Ab [(3,(.Al [(i64 p1.op),(i64 p1.num),(ls AA p1.kids)] 0)),(4,(.ptr 1 0 0 0)),(70,(ow 2 0 q33)),(72,(ow 3 0 [q34]))],[(A6 s0_0 q19.2),CD,(ro 0 50 3 AA q33),(ro 0 50 3 AA [q34])]⟩:=(hA37 _ _ _).2 (by
       refine Ad [0,2,9] U (by kernel_rfl) (by decide) ⟨?_,?_,?_,trivial⟩
       ·refine Av.of (i:=0) rfl U (by rfl) ?_
        refine zq tb U (AB ⟨U,?_⟩)
        exact AF (by exact AG U) (AL (by kernel_rfl) ((hA37 _ _ _).1 A37_045678)) rfl
       ·refine Av.of (i:=2) rfl U (by rfl) ?_
        refine zq tb U (AB ⟨U,?_⟩)
        exact AF (by exact AG U) (AL (by kernel_rfl) ((hA37 _ _ _).1 A37_245678)) rfl
       ·refine Av.of (i:=9) rfl U (by rfl) ?_
        refine CL (l2:=[q34]) AK BW U U U U (EP U U Cz) B4 gl35 U (AB ⟨U,?_⟩)
        exact AF (by refine Wk.trans (B6 (L:=[(3,(.Al [(i64 p1.op),(i64 p1.num),(ls AA p1.kids)] 0)),(4,(.ptr 1 0 0 0)),(73,(ow 2 0 l35))]) (st':=[(A6 s0_0 q19.2),CD,(ro 0 50 3 AA l35),(ro 0 50 3 AA [q34])]) (.raw U U U (.raw U U U (.pure U (AD Ag) (.pure U (AD Ag) .nil)))) ⟨.rfl,.rfl,.rfl,trivial⟩) ?_;exact AT (L:=[(3,(.Al [(i64 p1.op),(i64 p1.num),(ls AA p1.kids)] 0)),(4,(.ptr 1 0 0 0)),(73,(ow 2 0 l35))]) (st':=[(A6 s0_0 q19.2),CD,(ro 0 50 3 AA l35)]) [0,1,2] U (by decide) rfl U (.raw U U (.raw U U (.pure (AD Ag) .nil))) ⟨.rfl,.rfl,.rfl,trivial⟩) (AL (by kernel_rfl) ((hA37 _ _ _).1 A37_456789)) rfl)
      have A37_4567:A37 8 #[false,false,false,false,true,true,true,true,false,false,false,false] ⟨85,Ab [(3,(.Al [(i64 p1.op),(i64 p1.num),(ls AA p1.kids)] 0)),(4,(.ptr 1 0 0 0)),(70,(ow 2 0 q33)),(71,(.agg [(i64 q34.op),(i64 q34.num),(ls AA q34.kids)]))],[(A6 s0_0 q19.2),CD,(ro 0 50 3 AA q33)]⟩:=(hA37 _ _ _).2 (by
       refine Ad [0,2,8] U (by kernel_rfl) (by decide) ⟨?_,?_,?_,trivial⟩
       ·refine Av.of (i:=0) rfl U (by rfl) ?_
        refine zq tb U (AB ⟨U,?_⟩)
        exact AF (by exact AG U) (AL (by kernel_rfl) ((hA37 _ _ _).1 A37_04567)) rfl
       ·refine Av.of (i:=2) rfl U (by rfl) ?_
        refine zq tb U (AB ⟨U,?_⟩)
        exact AF (by exact AG U) (AL (by kernel_rfl) ((hA37 _ _ _).1 A37_24567)) rfl
       ·refine Av.of (i:=8) rfl U (by rfl) ?_
        refine A8 (m:=3) (l:=[q34]) (enc:=AA) AK BW (by decide) rfl U (by simp only[List.map,Ao];rfl) rfl U U ?_
        refine AB ⟨U,?_⟩
        exact AF (by exact AG U) (AL (by kernel_rfl) ((hA37 _ _ _).1 A37_45678)) rfl)
      have A37_456:A37 9 #[false,false,false,false,true,true,true,false,false,false,false,false] ⟨85,Ab [(3,(.Al [(i64 p1.op),(i64 p1.num),(ls AA p1.kids)] 0)),(4,(.ptr 1 0 0 0)),(70,(ow 2 0 q33))],[(A6 s0_0 q19.2),CD,(ro 0 50 3 AA q33)]⟩:=(hA37 _ _ _).2 (by
       refine Ad [0,2,7] U (by kernel_rfl) (by decide) ⟨?_,?_,?_,trivial⟩
       ·refine Av.of (i:=0) rfl U (by rfl) ?_
        refine zq tb U (AB ⟨U,?_⟩)
        exact AF (by exact AG U) (AL (by kernel_rfl) ((hA37 _ _ _).1 A37_0456)) rfl
       ·refine Av.of (i:=2) rfl U (by rfl) ?_
        refine zq tb U (AB ⟨U,?_⟩)
        exact AF (by exact AG U) (AL (by kernel_rfl) ((hA37 _ _ _).1 A37_2456)) rfl
       ·refine Av.of (i:=7) rfl U (by rfl) ?_
        refine zc (v':=(.agg [(i64 q34.op),(i64 q34.num),(ls AA q34.kids)])) Gh (Bp gq34) rfl U U (AB ⟨U,?_⟩)
        exact AF (by exact AG U) (AL (by kernel_rfl) ((hA37 _ _ _).1 A37_4567)) rfl)
      have A37_45:A37 10 #[false,false,false,false,true,true,false,false,false,false,false,false] ⟨85,Ab [(3,(.Al [(i64 p1.op),(i64 p1.num),(ls AA p1.kids)] 0)),(4,(.ptr 1 0 0 0)),(69,(ls AA p1.kids))],[(A6 s0_0 q19.2),CD]⟩:=(hA37 _ _ _).2 (by
       refine Ad [0,2,6] U (by kernel_rfl) (by decide) ⟨?_,?_,?_,trivial⟩
       ·refine Av.of (i:=0) rfl U (by rfl) ?_
        refine zq tb U (AB ⟨U,?_⟩)
        exact AF (by exact AG U) (AL (by kernel_rfl) ((hA37 _ _ _).1 A37_045)) rfl
       ·refine Av.of (i:=2) rfl U (by rfl) ?_
        refine zq tb U (AB ⟨U,?_⟩)
        exact AF (by exact AG U) (AL (by kernel_rfl) ((hA37 _ _ _).1 A37_245)) rfl
       ·refine Av.of (i:=6) rfl U (by rfl) ?_
        refine CC (v':=(ow 2 0 q33)) AK JE (CU gq33) rfl U ⟨(Bs Ag),trivial⟩ U U (AB ⟨U,?_⟩)
        exact AF (by exact AG U) (AL (by kernel_rfl) ((hA37 _ _ _).1 A37_456)) rfl)
      have A37_4:A37 11 #[false,false,false,false,true,false,false,false,false,false,false,false] ⟨85,Ab [(3,(.Al [(i64 p1.op),(i64 p1.num),(ls AA p1.kids)] 0)),(4,(.ptr 1 0 0 0)),(68,(.Al [(i64 p1.op),(i64 p1.num),(ls AA p1.kids)] 2))],[(A6 s0_0 q19.2),CD]⟩:=(hA37 _ _ _).2 (by
       refine Ad [0,2,5] U (by kernel_rfl) (by decide) ⟨?_,?_,?_,trivial⟩
       ·refine Av.of (i:=0) rfl U (by rfl) ?_
        refine zq tb U (AB ⟨U,?_⟩)
        exact AF (by exact AG U) (AL (by kernel_rfl) ((hA37 _ _ _).1 A37_04)) rfl
       ·refine Av.of (i:=2) rfl U (by rfl) ?_
        refine zq tb U (AB ⟨U,?_⟩)
        exact AF (by exact AG U) (AL (by kernel_rfl) ((hA37 _ _ _).1 A37_24)) rfl
       ·refine Av.of (i:=5) rfl U (by rfl) ?_
        refine zq tb U (AB ⟨U,?_⟩)
        exact AF (by exact AG U) (AL (by kernel_rfl) ((hA37 _ _ _).1 A37_45)) rfl)
      have A37_e:A37 12 #[false,false,false,false,false,false,false,false,false,false,false,false] ⟨85,Ab [(3,(.Al [(i64 p1.op),(i64 p1.num),(ls AA p1.kids)] 0)),(4,(.ptr 1 0 0 0))],[(A6 s0_0 q19.2),CD]⟩:=(hA37 _ _ _).2 (by
       refine Ad [0,2,4] U (by kernel_rfl) (by decide) ⟨?_,?_,?_,trivial⟩
       ·refine Av.of (i:=0) rfl U (by rfl) ?_
        refine zq tb U (AB ⟨U,?_⟩)
        exact AF (by exact AG U) (AL (by kernel_rfl) ((hA37 _ _ _).1 A37_0)) rfl
       ·refine Av.of (i:=2) rfl U (by rfl) ?_
        refine zq tb U (AB ⟨U,?_⟩)
        exact AF (by exact AG U) (AL (by kernel_rfl) ((hA37 _ _ _).1 A37_2)) rfl
       ·refine Av.of (i:=4) rfl U (by rfl) ?_
        refine zq tb U (AB ⟨U,?_⟩)
        exact AF (by exact AG U) (AL (by kernel_rfl) ((hA37 _ _ _).1 A37_4)) rfl)
      refine (hA37 _ _ _).2 ?_
      exact AF (by exact AG U) (AL (by kernel_rfl) ((hA37 _ _ _).1 A37_e)) rfl
     ·intro b31 h0
      refine zr tb U U ?_
      refine ci h0 U ?_ ?_ <;> clear h0
      ·intro b39 h0
       refine sr U fun K40 hK40=>zq tb U ?_
       refine A8 (m:=2) (l:=[(0:Int),1,2,5,100,-1]) (enc:=eI) AK BF (by decide) rfl U U U U U ?_
       refine Af (Wk.BH (L:=[(4,(.ptr 1 0 0 0)),(77,(.ptr 0 0 0 0)),(78,(ls eI [(0:Int),1,2,5,100,-1]))]) (st':=[(A6 s0_0 q19.2),CD,⟨1,3,1,[]⟩]) (id:=2) rfl (show 1≤2 by decide) (AD fun _=>U) ⟨.rfl,.rfl,(.BH U),trivial⟩ U) (bs h0 fun q41 gq41 h0=>?_)
       refine A4 (rowsP:=[(A6 s0_0 q19.2)]) (rows0:=[(A6 s0_0 q19.2)]) (rows1:=[(A6 s0_0 q41.2)]) (rows2:=[]) (rows1':=[(A6 s0_0 q41.2)]) (rows2':=[]) (st':=[(A6 s0_0 q41.2),CD,⟨1,3,1,[]⟩]) (v':=(i64 q41.1)) [0] AK HZ (BV gq41) rfl (by decide) rfl U (.raw U U .nil) rfl U (.raw U U .nil) .nil U U ?_
       refine bs h0 fun q42 gq42 h0=>zc (v':=(.agg [(i64 q42.op),(i64 q42.num),(ls AA q42.kids)])) GZ (Bi gq42) rfl U U (Az AK BP U U U U U U (show 0+3≤3 by decide) rfl (dn hK40 U ?_))
       replace h0:=Sh.AE h0
       subst r
       exact AZ (Exists.intro _ (And.intro ((AT (L:=[(4,(.ptr 1 0 0 0))]) (st':=[(A6 s0_0 q41.2),(Vr q42.op q42.num q42.kids)]) [0,1] U (by decide) rfl U (.raw U U (.raw U U .nil)) ⟨.rfl,trivial⟩).trans (Ah (L:=[(4,(.ptr 1 0 0 0))]) ⟨.rfl,trivial⟩)) (BD (x:=.tmp 4) (off:=0) (cs:=[(i64 q42.op),(i64 q42.num),(ls AA q42.kids)]) (vs:=[(i64 q42.op),(i64 q42.num),(ls AA q42.kids)]) BP U U U (show 0+3≤3 by decide) rfl _ ⟨U,U⟩)))
      ·intro b39 h0
       refine AU (hK17 _ (sr U fun K43 hK43=>zq tb U ?_))
       refine A8 (m:=2) (l:=[(0:Int),1000,-1000,5]) (enc:=eI) AK BF (by decide) rfl U U U U U ?_
       refine Af (Wk.BH (L:=[(4,(.ptr 1 0 0 0)),(81,(.ptr 0 0 0 0)),(82,(ls eI [(0:Int),1000,-1000,5]))]) (st':=[(A6 s0_0 q19.2),CD,⟨1,3,1,[]⟩]) (id:=2) rfl (show 1≤2 by decide) (AD fun _=>U) ⟨.rfl,.rfl,(.BH U),trivial⟩ U) (bs h0 fun q44 gq44 h0=>?_)
       refine A4 (rowsP:=[(A6 s0_0 q19.2)]) (rows0:=[(A6 s0_0 q19.2)]) (rows1:=[(A6 s0_0 q44.2)]) (rows2:=[]) (rows1':=[(A6 s0_0 q44.2)]) (rows2':=[]) (st':=[(A6 s0_0 q44.2),CD,⟨1,3,1,[]⟩]) (v':=(i64 q44.1)) [0] AK HZ (BV gq44) rfl (by decide) rfl U (.raw U U .nil) rfl U (.raw U U .nil) .nil U U ?_
       refine bs h0 fun q45 gq45 h0=>zc (v':=(.agg [(i64 q45.op),(i64 q45.num),(ls AA q45.kids)])) Gh (Bp gq45) rfl U U (Az AK BP U U U U U U (show 0+3≤3 by decide) rfl (dn hK43 U ?_))
       replace h0:=Sh.AE h0
       subst r
       exact AZ (Exists.intro _ (And.intro ((AT (L:=[(4,(.ptr 1 0 0 0))]) (st':=[(A6 s0_0 q44.2),(Vr q45.op q45.num q45.kids)]) [0,1] U (by decide) rfl U (.raw U U (.raw U U .nil)) ⟨.rfl,trivial⟩).trans (Ah (L:=[(4,(.ptr 1 0 0 0))]) ⟨.rfl,trivial⟩)) (BD (x:=.tmp 4) (off:=0) (cs:=[(i64 q45.op),(i64 q45.num),(ls AA q45.kids)]) (vs:=[(i64 q45.op),(i64 q45.num),(ls AA q45.kids)]) BP U U U (show 0+3≤3 by decide) rfl _ ⟨U,U⟩)))
 refine AN U (zm tb 2 U (zl tb U U (zm tb 2 U ?_)))
 rcases Sh.An h1 with ⟨b46,h1⟩ | ⟨b46,h1⟩
 ·refine zg tb b46 U (bs h1 fun q47 gq47 h1=>?_)
  refine A4 (rowsP:=[(A6 s0_0 s0_1)]) (rows0:=[(A6 s0_0 s0_1)]) (rows1:=[(A6 s0_0 q47.2)]) (rows2:=[]) (rows1':=[(A6 s0_0 q47.2)]) (rows2':=[]) (st':=[(A6 s0_0 q47.2),⟨1,50,3,[]⟩,CD]) (v':=(i64 q47.1)) [0] (B0 U U b46) Ef (Aw gq47) rfl (by decide) rfl U (.raw U U .nil) rfl U (.raw U U .nil) .nil U U ?_
  refine zg tb b46 U (zt b46 U ?_)
  exact AB (M6 (decide (0 < q47.1)) q47.2 (Sh.AE h1).symm _ (AT (L:=[(0,(.ptr 0 0 0 0)),(3,(.Al [(i64 p1.op),(i64 p1.num),(ls AA p1.kids)] 0)),(4,(.ptr 1 0 0 0)),(15,(.bool (decide (0 < q47.1))))]) (st':=[(A6 s0_0 q47.2),CD]) [0,2] U (by decide) rfl U (.raw U U (.raw U U .nil)) ⟨.rfl,.rfl,.rfl,.rfl,trivial⟩))
 ·refine zs b46 U (zs b46 U (zs b46 U (zf b46 U ?_)))
  exact AB (M6 false s0_1 (Sh.AE h1).symm _ (AT (L:=[(0,(.ptr 0 0 0 0)),(3,(.Al [(i64 p1.op),(i64 p1.num),(ls AA p1.kids)] 0)),(4,(.ptr 1 0 0 0)),(15,(.bool false))]) (st':=[(A6 s0_0 s0_1),CD]) [0,2] U (by decide) rfl U (.raw U U (.raw U U .nil)) ⟨.rfl,.rfl,.rfl,.rfl,trivial⟩))

theorem O0 {N:Nat} :∀(n:Nat),∀{s0_0:(List Int)} {s0_1:Int} {p1:AP} {r:AP×Int},Gu N n s0_0 s0_1 p1=some r→Aj Try.prog 84 [(.ptr 0 0 0 0),(.agg [(i64 p1.op),(i64 p1.num),(ls AA p1.kids)])] [(A6 s0_0 s0_1)] (fun v st=>v=(.agg [(i64 r.1.op),(i64 r.1.num),(ls AA r.1.kids)])∧st=[(A6 s0_0 r.2)]):=by
 intro n
 induction n with
 | zero=>intro s0_0 s0_1 p1 r h0;cases h0
 | succ n ih=>
  intro s0_0 s0_1 p1 r h0
  rw[Gu] at h0
  exact O2 (fun h=>ih h) h0
theorem Qf {N:Nat} :∀{s0_0:(List Int)} {s0_1:Int} {p1:AP} {r:AP×Int},Mr N s0_0 s0_1 p1=some r→Aj Try.prog 84 [(.ptr 0 0 0 0),(.agg [(i64 p1.op),(i64 p1.num),(ls AA p1.kids)])] [(A6 s0_0 s0_1)] (fun v st=>v=(.agg [(i64 r.1.op),(i64 r.1.num),(ls AA r.1.kids)])∧st=[(A6 s0_0 r.2)]):=by
 intro s0_0 s0_1 p1 r h0
 exact O0 N h0
theorem NJ {s0_0:(List Int)} {s0_1:Int} {r:(List Ac)×Int} (h0:Ga s0_0 s0_1=some r):Aj Try.prog 85 [(.ptr 0 0 0 0)] [(A6 s0_0 s0_1)] (fun v st=>v=(ow 1 0 r.1)∧st=[(A6 s0_0 r.2),(ro 0 80 3 AI r.1)]):=by
 unfold Ga at h0
 refine ai Try.func85 U U U U (zr tb U U (sr U fun K2 hK2=>zq tb U (bs h0 fun q3 gq3 h0=>?_)))
 refine A4 (rowsP:=[(A6 s0_0 s0_1)]) (rows0:=[(A6 s0_0 s0_1)]) (rows1:=[(A6 s0_0 q3.2)]) (rows2:=[(ro 0 80 3 AI q3.1)]) (rows1':=[(A6 s0_0 q3.2)]) (rows2':=[(ro 0 80 3 AI q3.1)]) (st':=[(A6 s0_0 q3.2),(ro 0 80 3 AI q3.1)]) (v':=(ow 1 0 q3.1)) [0] AK XV (JD gq3) rfl (by decide) rfl U (.raw U U .nil) rfl U (.raw U U .nil) (.pure (AD fun _=>U) .nil) rfl U ?_
 refine zq tb U (dn hK2 U (sr U fun K4 hK4=>zm tb 2 U (zz (i64 (Sh.len q3.1)) (Ch RR U U U) rfl (bs h0 fun q5 gq5 h0=>?_))))
 refine A4 (rowsP:=[(A6 s0_0 q3.2)]) (rows0:=[(A6 s0_0 q3.2)]) (rows1:=[(A6 s0_0 q5.2)]) (rows2:=[]) (rows1':=[(A6 s0_0 q5.2)]) (rows2':=[]) (st':=[(A6 s0_0 q5.2),(ro 0 80 3 AI q3.1)]) (v':=(i64 q5.1)) [0] AK Ef (Aw gq5) rfl (by decide) rfl U (.raw U U .nil) rfl U (.raw U U .nil) .nil U U ?_
 refine zq tb U (dn hK4 U (AJ fun K6 hK6=>bs h0 fun o9 h1 h0=>?_))
 have M9 :∀(f7:Int) (l8:(List Ac)),o9=(f7,l8)→∀s,Wk 1 s ⟨89,Ab [(3,(ow 1 0 l8))],[(A6 s0_0 f7),(ro 0 80 3 AI l8)]⟩→K6 s:=by
  intro f7 l8 hq s hw
  subst o9
  try dsimp only at h0
  refine hK6 _ (AS hw (zr tb U U ?_))
  replace h0:=Sh.AE h0
  subst r
  exact AZ (xr (Ah (L:=[(2,(ow 1 0 l8))]) ⟨.rfl,trivial⟩))
 refine sr U fun K11 hK11=>zq tb U (bs h1 fun q12 gq12 h1=>?_)
 refine A4 (rowsP:=[(A6 s0_0 q5.2)]) (rows0:=[(A6 s0_0 q5.2)]) (rows1:=[(A6 s0_0 q12.2)]) (rows2:=[]) (rows1':=[(A6 s0_0 q12.2)]) (rows2':=[]) (st':=[(A6 s0_0 q12.2),(ro 0 80 3 AI q3.1)]) (v':=(i64 q12.1)) [0] AK Ef (Aw gq12) rfl (by decide) rfl U (.raw U U .nil) rfl U (.raw U U .nil) .nil U U ?_
 refine dn hK11 U (Ae (zr tb U U ?_))
 refine ci h1 U ?_ ?_ <;> clear h1
 ·intro b14 h1
  refine AN U (zm tb 3 U ?_)
  refine A8 (m:=2) (l:=[(-1:Int),5,0,2]) (enc:=eI) AK BF (by decide) rfl U U U U U ?_
  refine Af (Wk.BH (L:=[(0,(.ptr 0 0 0 0)),(3,(ow 1 0 q3.1)),(15,(ow 1 0 q3.1)),(16,(i64 q5.1)),(17,(.ptr 0 0 0 0)),(18,(ls eI [(-1:Int),5,0,2]))]) (st':=[(A6 s0_0 q12.2),(ro 0 80 3 AI q3.1),⟨1,3,1,[]⟩]) (id:=2) rfl (show 1≤2 by decide) (AD fun _=>U) ⟨.rfl,.rfl,.rfl,.rfl,.rfl,(.BH U),trivial⟩ U) (bs h1 fun q15 gq15 h1=>?_)
  refine A4 (rowsP:=[(A6 s0_0 q12.2)]) (rows0:=[(A6 s0_0 q12.2)]) (rows1:=[(A6 s0_0 q15.2)]) (rows2:=[]) (rows1':=[(A6 s0_0 q15.2)]) (rows2':=[]) (st':=[(A6 s0_0 q15.2),(ro 0 80 3 AI q3.1),⟨1,3,1,[]⟩]) (v':=(i64 q15.1)) [0] AK HZ (BV gq15) rfl (by decide) rfl U (.raw U U .nil) rfl U (.raw U U .nil) .nil U U ?_
  refine zq tb U ?_
  refine A8 (m:=3) (l:=[(0:Int),1,5]) (enc:=eI) AK BF (by decide) rfl U U U U U ?_
  refine Af (Wk.BH (L:=[(3,(ow 1 0 q3.1)),(15,(ow 1 0 q3.1)),(16,(i64 q5.1)),(19,(i64 q15.1)),(20,(.ptr 0 0 0 0)),(21,(ls eI [(0:Int),1,5]))]) (st':=[(A6 s0_0 q15.2),(ro 0 80 3 AI q3.1),⟨1,3,1,[]⟩,⟨1,3,1,[]⟩]) (id:=3) rfl (show 1≤3 by decide) (AD fun _=>U) ⟨.rfl,.rfl,.rfl,.rfl,.rfl,(.BH U),trivial⟩ U) (bs h1 fun q16 gq16 h1=>?_)
  refine A4 (rowsP:=[(A6 s0_0 q15.2)]) (rows0:=[(A6 s0_0 q15.2)]) (rows1:=[(A6 s0_0 q16.2)]) (rows2:=[]) (rows1':=[(A6 s0_0 q16.2)]) (rows2':=[]) (st':=[(A6 s0_0 q16.2),(ro 0 80 3 AI q3.1),⟨1,3,1,[]⟩,⟨1,3,1,[]⟩]) (v':=(i64 q16.1)) [0] AK HZ (BV gq16) rfl (by decide) rfl U (.raw U U .nil) rfl U (.raw U U .nil) .nil U U ?_
  refine zz (.agg [(i64 q15.1),(i64 q16.1),.zc]) (Dy JG It ET U U) rfl (bs h1 fun c17 gc17 h1=>zz (.ptr 1 0 (Int.toNat q5.1) 0) (Br EH U U U U gc17) rfl (Af (Ah (L:=[(3,(ow 1 0 q3.1)),(23,(.agg [(i64 q15.1),(i64 q16.1),(.sl (List.map BK []))])),(24,(.ptr 1 0 (Int.toNat q5.1) 0))]) ⟨.rfl,(.agg ⟨.rfl,.rfl,.zc,trivial⟩),.rfl,trivial⟩) (HM (u':=(Ac.mk q15.1 q16.1 [])) AK Hc U U gc17 U U U (show 0+3≤3 by decide) rfl U ?_)))
  exact AB (M9 q16.2 (Sh.put q3.1 q5.1 (Ac.mk q15.1 q16.1 [])) (Sh.AE h1).symm _ (by refine Wk.trans (AT (L:=[(3,(.own 1 0 (List.length q3.1)))]) (st':=[⟨0,88,2,[[(.sl (List.map Cr s0_0)),(i64 q16.2)]]⟩,⟨0,80,3,List.map AI (Sh.put q3.1 q5.1 (Ac.mk q15.1 q16.1 []))⟩]) [0,1] U (by decide) rfl U (.raw U U (.pure (AD fun _=>U) .nil)) ⟨.rfl,trivial⟩) ?_;exact Ah (L:=[(3,(.own 1 0 (List.length (Sh.put q3.1 q5.1 (Ac.mk q15.1 q16.1 [])))))]) ⟨(.len (by simp only[Sh.FX])),trivial⟩))
 ·intro b14 h1
  refine zr tb U U ?_
  refine ci h1 U ?_ ?_ <;> clear h1
  ·intro b19 h1
   refine AN U (zm tb 3 U ?_)
   refine A8 (m:=2) (l:=[(-1:Int),0,4,5]) (enc:=eI) AK BF (by decide) rfl U U U U U ?_
   refine Af (Wk.BH (L:=[(3,(ow 1 0 q3.1)),(27,(ow 1 0 q3.1)),(28,(i64 q5.1)),(29,(.ptr 0 0 0 0)),(30,(ls eI [(-1:Int),0,4,5]))]) (st':=[(A6 s0_0 q12.2),(ro 0 80 3 AI q3.1),⟨1,3,1,[]⟩]) (id:=2) rfl (show 1≤2 by decide) (AD fun _=>U) ⟨.rfl,.rfl,.rfl,.rfl,(.BH U),trivial⟩ U) (bs h1 fun q20 gq20 h1=>?_)
   refine A4 (rowsP:=[(A6 s0_0 q12.2)]) (rows0:=[(A6 s0_0 q12.2)]) (rows1:=[(A6 s0_0 q20.2)]) (rows2:=[]) (rows1':=[(A6 s0_0 q20.2)]) (rows2':=[]) (st':=[(A6 s0_0 q20.2),(ro 0 80 3 AI q3.1),⟨1,3,1,[]⟩]) (v':=(i64 q20.1)) [0] AK HZ (BV gq20) rfl (by decide) rfl U (.raw U U .nil) rfl U (.raw U U .nil) .nil U U ?_
   refine A8 (m:=3) (l:=[q20.1]) (enc:=eI) AK BF (by decide) rfl U U U U U ?_
   refine Af (Wk.BH (L:=[(3,(ow 1 0 q3.1)),(27,(ow 1 0 q3.1)),(28,(i64 q5.1)),(32,(ls eI [q20.1]))]) (st':=[(A6 s0_0 q20.2),(ro 0 80 3 AI q3.1),⟨1,3,1,[]⟩,⟨1,3,1,[]⟩]) (id:=3) rfl (show 1≤3 by decide) (AD fun _=>U) ⟨.rfl,.rfl,.rfl,(.BH U),trivial⟩ U) (bs h1 fun q21 gq21 h1=>zc (v':=(.agg (BK q21))) G2 (Cb gq21) rfl U U ?_)
   refine A8 (m:=4) (l:=[(0:Int),0,0,0]) (enc:=eI) AK BF (by decide) rfl U U U U U ?_
   refine Af (Wk.BH (L:=[(3,(ow 1 0 q3.1)),(27,(ow 1 0 q3.1)),(28,(i64 q5.1)),(33,(.agg (BK q21))),(34,(ls eI [(0:Int),0,0,0]))]) (st':=[(A6 s0_0 q20.2),(ro 0 80 3 AI q3.1),⟨1,3,1,[]⟩,⟨1,3,1,[]⟩,⟨1,3,1,[]⟩]) (id:=4) rfl (show 1≤4 by decide) (AD fun _=>U) ⟨.rfl,.rfl,.rfl,.rfl,(.BH U),trivial⟩ U) (bs h1 fun q22 gq22 h1=>zc (v':=(.agg (BK q22))) G2 (Cb gq22) rfl U U ?_)
   refine A8 (m:=5) (l:=([]:List Int)) (enc:=eI) AK BF (by decide) rfl U U U U U ?_
   refine Af (Wk.BH (L:=[(3,(ow 1 0 q3.1)),(27,(ow 1 0 q3.1)),(28,(i64 q5.1)),(33,(.agg (BK q21))),(35,(.agg (BK q22))),(36,(.sl (List.map eI [])))]) (st':=[(A6 s0_0 q20.2),(ro 0 80 3 AI q3.1),⟨1,3,1,[]⟩,⟨1,3,1,[]⟩,⟨1,3,1,[]⟩,⟨1,3,1,[]⟩]) (id:=5) rfl (show 1≤5 by decide) (AD fun _=>U) ⟨.rfl,.rfl,.rfl,.rfl,.rfl,(.BH U),trivial⟩ U) (bs h1 fun q23 gq23 h1=>zc (v':=(.agg (BK q23))) G2 (Cb gq23) rfl U U ?_)
   refine A8 (m:=6) (l:=[q21,q22,q23]) (enc:=BK) AK J5 (by decide) rfl U U U U U ?_
   refine zz (.agg [(i64 0),(i64 0),(ow 6 0 [q21,q22,q23])]) (Dy JG It ET U U) rfl (bs h1 fun c24 gc24 h1=>zz (.ptr 1 0 (Int.toNat q5.1) 0) (Br EH U U U U gc24) rfl (Af (Wk.BH (L:=[(3,(ow 1 0 q3.1)),(39,(.agg [(i64 0),(i64 0),(ls BK [q21,q22,q23])])),(40,(.ptr 1 0 (Int.toNat q5.1) 0))]) (st':=[(A6 s0_0 q20.2),(ro 0 80 3 AI q3.1),⟨1,3,1,[]⟩,⟨1,3,1,[]⟩,⟨1,3,1,[]⟩,⟨1,3,1,[]⟩,⟨1,130,1,[]⟩]) (id:=6) rfl (show 1≤6 by decide) (AD fun _=>U) ⟨.rfl,(.agg ⟨.rfl,.rfl,(.GJ U),trivial⟩),.rfl,trivial⟩ U) (HM (u':=(Ac.mk 0 0 [q21,q22,q23])) AK Hc U U gc24 U U U (show 0+3≤3 by decide) rfl U ?_)))
   exact AB (M9 q20.2 (Sh.put q3.1 q5.1 (Ac.mk 0 0 [q21,q22,q23])) (Sh.AE h1).symm _ (by refine Wk.trans (AT (L:=[(3,(.own 1 0 (List.length q3.1)))]) (st':=[⟨0,88,2,[[(.sl (List.map Cr s0_0)),(i64 q20.2)]]⟩,⟨0,80,3,List.map AI (Sh.put q3.1 q5.1 (Ac.mk 0 0 [q21,q22,q23]))⟩]) [0,1] U (by decide) rfl U (.raw U U (.pure (AD fun _=>U) .nil)) ⟨.rfl,trivial⟩) ?_;exact Ah (L:=[(3,(.own 1 0 (List.length (Sh.put q3.1 q5.1 (Ac.mk 0 0 [q21,q22,q23])))))]) ⟨(.len (by simp only[Sh.FX])),trivial⟩))
  ·intro b19 h1
   refine zr tb U U ?_
   refine ci h1 U ?_ ?_ <;> clear h1
   ·intro b26 h1
    refine AN U (zm tb 4 U ?_)
    refine A8 (m:=2) (l:=[Sh.w (q5.1+1)]) (enc:=eI) AK BF (by decide) rfl U U U U U ?_
    refine Af (Wk.BH (L:=[(3,(ow 1 0 q3.1)),(43,(ow 1 0 q3.1)),(44,(i64 q5.1)),(47,(ls eI [Sh.w (q5.1+1)]))]) (st':=[(A6 s0_0 q12.2),(ro 0 80 3 AI q3.1),⟨1,3,1,[]⟩]) (id:=2) rfl (show 1≤2 by decide) (AD fun _=>U) ⟨.rfl,.rfl,.rfl,(.BH U),trivial⟩ U) (bs h1 fun q27 gq27 h1=>zc (v':=(.agg (BK q27))) G2 (Cb gq27) rfl U U ?_)
    refine A8 (m:=3) (l:=[q27]) (enc:=BK) AK J5 (by decide) rfl U U U U U ?_
    refine zz (.agg [(i64 0),(i64 0),(ow 3 0 [q27])]) (Dy JG It ET U U) rfl (bs h1 fun c28 gc28 h1=>zz (.ptr 1 0 (Int.toNat q5.1) 0) (Br EH U U U U gc28) rfl (Af (Wk.BH (L:=[(3,(ow 1 0 q3.1)),(50,(.agg [(i64 0),(i64 0),(ls BK [q27])])),(51,(.ptr 1 0 (Int.toNat q5.1) 0))]) (st':=[(A6 s0_0 q12.2),(ro 0 80 3 AI q3.1),⟨1,3,1,[]⟩,⟨1,130,1,[]⟩]) (id:=3) rfl (show 1≤3 by decide) (AD fun _=>U) ⟨.rfl,(.agg ⟨.rfl,.rfl,(.GJ U),trivial⟩),.rfl,trivial⟩ U) (HM (u':=(Ac.mk 0 0 [q27])) AK Hc U U gc28 U U U (show 0+3≤3 by decide) rfl U ?_)))
    exact AB (M9 q12.2 (Sh.put q3.1 q5.1 (Ac.mk 0 0 [q27])) (Sh.AE h1).symm _ (by refine Wk.trans (AT (L:=[(3,(.own 1 0 (List.length q3.1)))]) (st':=[⟨0,88,2,[[(.sl (List.map Cr s0_0)),(i64 q12.2)]]⟩,⟨0,80,3,List.map AI (Sh.put q3.1 q5.1 (Ac.mk 0 0 [q27]))⟩]) [0,1] U (by decide) rfl U (.raw U U (.pure (AD fun _=>U) .nil)) ⟨.rfl,trivial⟩) ?_;exact Ah (L:=[(3,(.own 1 0 (List.length (Sh.put q3.1 q5.1 (Ac.mk 0 0 [q27])))))]) ⟨(.len (by simp only[Sh.FX])),trivial⟩))
   ·intro b26 h1
    refine zr tb U U ?_
    refine ci h1 U ?_ ?_ <;> clear h1
    ·intro b30 h1
     refine AN U (zm tb 2 U ?_)
     refine A8 (m:=2) (l:=[(0:Int),2,1]) (enc:=eI) AK BF (by decide) rfl U U U U U ?_
     refine Af (Wk.BH (L:=[(54,(ow 1 0 q3.1)),(55,(.ptr 0 0 0 0)),(56,(ls eI [(0:Int),2,1]))]) (st':=[(A6 s0_0 q12.2),(ro 0 80 3 AI q3.1),⟨1,3,1,[]⟩]) (id:=2) rfl (show 1≤2 by decide) (AD fun _=>U) ⟨.rfl,.rfl,(.BH U),trivial⟩ U) (bs h1 fun q31 gq31 h1=>?_)
     refine A4 (rowsP:=[(A6 s0_0 q12.2)]) (rows0:=[(A6 s0_0 q12.2)]) (rows1:=[(A6 s0_0 q31.2)]) (rows2:=[]) (rows1':=[(A6 s0_0 q31.2)]) (rows2':=[]) (st':=[(A6 s0_0 q31.2),(ro 0 80 3 AI q3.1),⟨1,3,1,[]⟩]) (v':=(i64 q31.1)) [0] AK HZ (BV gq31) rfl (by decide) rfl U (.raw U U .nil) rfl U (.raw U U .nil) .nil U U ?_
     refine zz (.agg [(i64 2),(i64 q31.1),.zc]) (Dy JG It ET U U) rfl (Af (Ah (L:=[(54,(ow 1 0 q3.1)),(58,(.agg [(i64 2),(i64 q31.1),(.sl (List.map BK []))]))]) ⟨.rfl,(.agg ⟨.rfl,.rfl,.zc,trivial⟩),trivial⟩) ?_)
     refine A8 (m:=3) (l:=([(Ac.mk 2 q31.1 [])])) (enc:=AI) AK EH (by decide) rfl U U U U U ?_
     refine bs h1 fun l32 gl32 h1=>CL (l2:=([(Ac.mk 2 q31.1 [])])) AK EH U U U U (EP U U) (fun _=>U) gl32 U (zq tb U ?_)
     exact AB (M9 q31.2 l32 (Sh.AE h1).symm _ (by refine Wk.trans (B6 (L:=[(3,(ow 1 0 l32))]) (st':=[(A6 s0_0 q31.2),(ro 0 80 3 AI l32),⟨0,3,1,[]⟩,(ro 0 80 3 AI ([(Ac.mk 2 q31.1 [])]))]) (.raw U U U (.pure U (AD fun _=>U) (.pure U (by intro x hx;cases hx) (.pure U (AD fun _=>U) .nil)))) ⟨.rfl,trivial⟩) ?_;exact AT (L:=[(3,(ow 1 0 l32))]) (st':=[(A6 s0_0 q31.2),(ro 0 80 3 AI l32)]) [0,1] U (by decide) rfl U (.raw U U (.pure (AD fun _=>U) .nil)) ⟨.rfl,trivial⟩))
    ·intro b30 h1
     refine zr tb U U ?_
     refine ci h1 U ?_ ?_ <;> clear h1
     ·intro b34 h1
      refine AN U (zm tb 3 U (bs h1 fun q35 gq35 h1=>?_))
      refine A4 (rowsP:=[(A6 s0_0 q12.2)]) (rows0:=[(A6 s0_0 q12.2)]) (rows1:=[(A6 s0_0 q35.2)]) (rows2:=[]) (rows1':=[(A6 s0_0 q35.2)]) (rows2':=[]) (st':=[(A6 s0_0 q35.2),(ro 0 80 3 AI q3.1)]) (v':=(i64 q35.1)) [0] AK Ef (Aw gq35) rfl (by decide) rfl U (.raw U U .nil) rfl U (.raw U U .nil) .nil U U ?_
      refine A8 (m:=2) (l:=([]:List Int)) (enc:=eI) AK BF (by decide) rfl U U U U U ?_
      refine Af (Wk.BH (L:=[(0,(.ptr 0 0 0 0)),(3,(ow 1 0 q3.1)),(63,(ow 1 0 q3.1)),(64,(i64 q5.1)),(66,(i64 q35.1)),(67,(.sl (List.map eI [])))]) (st':=[(A6 s0_0 q35.2),(ro 0 80 3 AI q3.1),⟨1,3,1,[]⟩]) (id:=2) rfl (show 1≤2 by decide) (AD fun _=>U) ⟨.rfl,.rfl,.rfl,.rfl,.rfl,(.BH U),trivial⟩ U) (bs h1 fun q36 gq36 h1=>zc (v':=(.agg (BK q36))) G2 (Cb gq36) rfl U U ?_)
      refine A8 (m:=3) (l:=[(2:Int)]) (enc:=eI) AK BF (by decide) rfl U U U U U ?_
      refine Af (Wk.BH (L:=[(0,(.ptr 0 0 0 0)),(3,(ow 1 0 q3.1)),(63,(ow 1 0 q3.1)),(64,(i64 q5.1)),(66,(i64 q35.1)),(68,(.agg (BK q36))),(69,(ls eI [(2:Int)]))]) (st':=[(A6 s0_0 q35.2),(ro 0 80 3 AI q3.1),⟨1,3,1,[]⟩,⟨1,3,1,[]⟩]) (id:=3) rfl (show 1≤3 by decide) (AD fun _=>U) ⟨.rfl,.rfl,.rfl,.rfl,.rfl,.rfl,(.BH U),trivial⟩ U) (bs h1 fun q37 gq37 h1=>zc (v':=(.agg (BK q37))) G2 (Cb gq37) rfl U U ?_)
      refine A8 (m:=4) (l:=([]:List Int)) (enc:=eI) AK BF (by decide) rfl U U U U U ?_
      refine Af (Wk.BH (L:=[(0,(.ptr 0 0 0 0)),(3,(ow 1 0 q3.1)),(63,(ow 1 0 q3.1)),(64,(i64 q5.1)),(66,(i64 q35.1)),(68,(.agg (BK q36))),(70,(.agg (BK q37))),(71,(.sl (List.map eI [])))]) (st':=[(A6 s0_0 q35.2),(ro 0 80 3 AI q3.1),⟨1,3,1,[]⟩,⟨1,3,1,[]⟩,⟨1,3,1,[]⟩]) (id:=4) rfl (show 1≤4 by decide) (AD fun _=>U) ⟨.rfl,.rfl,.rfl,.rfl,.rfl,.rfl,.rfl,(.BH U),trivial⟩ U) (bs h1 fun q38 gq38 h1=>zc (v':=(.agg (BK q38))) G2 (Cb gq38) rfl U U ?_)
      refine A8 (m:=5) (l:=([]:List Int)) (enc:=eI) AK BF (by decide) rfl U U U U U ?_
      refine Af (Wk.BH (L:=[(0,(.ptr 0 0 0 0)),(3,(ow 1 0 q3.1)),(63,(ow 1 0 q3.1)),(64,(i64 q5.1)),(66,(i64 q35.1)),(68,(.agg (BK q36))),(70,(.agg (BK q37))),(72,(.agg (BK q38))),(73,(.sl (List.map eI [])))]) (st':=[(A6 s0_0 q35.2),(ro 0 80 3 AI q3.1),⟨1,3,1,[]⟩,⟨1,3,1,[]⟩,⟨1,3,1,[]⟩,⟨1,3,1,[]⟩]) (id:=5) rfl (show 1≤5 by decide) (AD fun _=>U) ⟨.rfl,.rfl,.rfl,.rfl,.rfl,.rfl,.rfl,.rfl,(.BH U),trivial⟩ U) (bs h1 fun q39 gq39 h1=>zc (v':=(.agg (BK q39))) G2 (Cb gq39) rfl U U ?_)
      refine A8 (m:=6) (l:=[q36,q37,q38,q39]) (enc:=BK) AK J5 (by decide) rfl U U U U U ?_
      refine zq tb U (bs h1 fun q40 gq40 h1=>?_)
      refine A4 (rowsP:=[(A6 s0_0 q35.2)]) (rows0:=[(A6 s0_0 q35.2)]) (rows1:=[(A6 s0_0 q40.2)]) (rows2:=[]) (rows1':=[(A6 s0_0 q40.2)]) (rows2':=[]) (st':=[(A6 s0_0 q40.2),(ro 0 80 3 AI q3.1),⟨1,3,1,[]⟩,⟨1,3,1,[]⟩,⟨1,3,1,[]⟩,⟨1,3,1,[]⟩,(ro 0 130 1 BK [q36,q37,q38,q39])]) (v':=(i64 q40.1)) [0] AK Ef (Aw gq40) rfl (by decide) rfl U (.raw U U .nil) rfl U (.raw U U .nil) .nil U U ?_
      refine Af (Wk.BH (L:=[(3,(ow 1 0 q3.1)),(63,(ow 1 0 q3.1)),(64,(i64 q5.1)),(66,(i64 q35.1)),(75,(ls BK [q36,q37,q38,q39])),(77,(i64 q40.1))]) (st':=[(A6 s0_0 q40.2),(ro 0 80 3 AI q3.1),⟨1,3,1,[]⟩,⟨1,3,1,[]⟩,⟨1,3,1,[]⟩,⟨1,3,1,[]⟩,⟨1,130,1,[]⟩]) (id:=6) rfl (show 1≤6 by decide) (AD fun _=>U) ⟨.rfl,.rfl,.rfl,.rfl,(.BH U),.rfl,trivial⟩ U) (bs h1 fun l41 gl41 h1=>NC (i:=q40.1) (j:=Sh.len [q36,q37,q38,q39]) AK J5 U U U (fun _=>U) gl41 (zz (.agg [(i64 q35.1),(i64 0),(ls BK l41)]) (Dy JG It ET U U) rfl (bs h1 fun c42 gc42 h1=>zz (.ptr 1 0 (Int.toNat q5.1) 0) (Br EH U U U U gc42) rfl (HM (u':=(Ac.mk q35.1 0 l41)) AK Hc U U gc42 U U U (show 0+3≤3 by decide) rfl U ?_))))
      exact AB (M9 q40.2 (Sh.put q3.1 q5.1 (Ac.mk q35.1 0 l41)) (Sh.AE h1).symm _ (by refine Wk.trans (AT (L:=[(3,(.own 1 0 (List.length q3.1)))]) (st':=[⟨0,88,2,[[(.sl (List.map Cr s0_0)),(i64 q40.2)]]⟩,⟨0,80,3,List.map AI (Sh.put q3.1 q5.1 (Ac.mk q35.1 0 l41))⟩]) [0,1] U (by decide) rfl U (.raw U U (.pure (AD fun _=>U) .nil)) ⟨.rfl,trivial⟩) ?_;exact Ah (L:=[(3,(.own 1 0 (List.length (Sh.put q3.1 q5.1 (Ac.mk q35.1 0 l41)))))]) ⟨(.len (by simp only[Sh.FX])),trivial⟩))
     ·intro b34 h1
      refine zr tb U U ?_
      refine ci h1 U ?_ ?_ <;> clear h1
      ·intro b44 h1
       refine AN U (zq tb U (zz (.agg [(i64 0),(i64 0),.zc]) (Dy JG It ET U U) rfl (zz (.agg [(i64 3),(i64 0),.zc]) (Dy JG It ET U U) rfl (Af (Ah (L:=[(83,(ow 1 0 q3.1)),(84,(.agg [(i64 0),(i64 0),(.sl (List.map BK []))])),(85,(.agg [(i64 3),(i64 0),.zc]))]) ⟨.rfl,(.agg ⟨.rfl,.rfl,.zc,trivial⟩),.rfl,trivial⟩) (Af (Ah (L:=[(83,(ow 1 0 q3.1)),(84,(.agg [(i64 0),(i64 0),(.sl (List.map BK []))])),(85,(.agg [(i64 3),(i64 0),(.sl (List.map BK []))]))]) ⟨.rfl,.rfl,(.agg ⟨.rfl,.rfl,.zc,trivial⟩),trivial⟩) ?_)))))
       refine A8 (m:=2) (l:=([(Ac.mk 0 0 []),(Ac.mk 3 0 [])])) (enc:=AI) AK EH (by decide) rfl U U U U U ?_
       refine bs h1 fun l45 gl45 h1=>CL (l2:=([(Ac.mk 0 0 []),(Ac.mk 3 0 [])])) AK EH U U U U (EP U U) (fun _=>U) gl45 U (zq tb U ?_)
       exact AB (M9 q12.2 l45 (Sh.AE h1).symm _ (by refine Wk.trans (B6 (L:=[(3,(ow 1 0 l45))]) (st':=[(A6 s0_0 q12.2),(ro 0 80 3 AI l45),(ro 0 80 3 AI ([(Ac.mk 0 0 []),(Ac.mk 3 0 [])]))]) (.raw U U U (.pure U (AD fun _=>U) (.pure U (AD fun _=>U) .nil))) ⟨.rfl,trivial⟩) ?_;exact AT (L:=[(3,(ow 1 0 l45))]) (st':=[(A6 s0_0 q12.2),(ro 0 80 3 AI l45)]) [0,1] U (by decide) rfl U (.raw U U (.pure (AD fun _=>U) .nil)) ⟨.rfl,trivial⟩))
      ·intro b44 h1
       exact AU (M9 q12.2 q3.1 (Sh.AE h1).symm _ (AG U))
end Go.Proofs.Ytpahalfiiahddaa

