import Derived.Test.YtpahalfiiahddaaGreatProg
import Derived.Test.YtpahalfiiahddaaGreatGAbsXToAbsZN
import Derived.Test.YtpahalfiiahddaaGreatGAbsZPToSSDefs
import Derived.Test.YtpahalfiiahddaaGreatGHADefsToINDefs
import Derived.Test.YtpahalfiiahddaaGreatCFWalk
import Derived.Test.YtpahalfiiahddaaGreatLAWalk
import Derived.Test.YtpahalfiiahddaaGreatINWalkP0
namespace Go.Proofs.YtpahalfiiahddaaGreat
open Go Go.Abs RC
attribute [local irreducible] Go.Abs.DF
set_option maxRecDepth 100000
set_option maxHeartbeats 4000000

theorem ak:Hl Tryz.prog 111=true:=by kernel_rfl
theorem bH:Hl Tryz.prog 116=true:=by kernel_rfl
theorem dr:Hl Tryz.prog 119=true:=by kernel_rfl
theorem TW:Hl Tryz.prog 30=true:=by kernel_rfl
theorem ah:Hl Tryz.prog 48=true:=by kernel_rfl
theorem dj:Hl Tryz.prog 81=true:=by kernel_rfl
theorem bT:Ix Tryz.prog 111=some [(0,1)]:=by kernel_rfl
theorem bN:Ix Tryz.prog 116=some [(0,1),(1,1),(2,1)]:=by kernel_rfl
theorem eW:Ix Tryz.prog 119=some [(0,1),(1,1)]:=by kernel_rfl
theorem Tu:Ix Tryz.prog 30=some [(0,1),(1,1)]:=by kernel_rfl
theorem bE:Ix Tryz.prog 48=some [(0,1),(1,1),(2,3)]:=by kernel_rfl
theorem de:Ix Tryz.prog 81=some [(0,1),(1,1),(2,1)]:=by kernel_rfl
theorem Lp:By Tryz.prog 114=some ⟨116,3,56,[.sl [],.sl [],.int .i64 0]⟩:=by kernel_rfl
theorem Jn:By Tryz.prog 141=some ⟨46,1,24,[.sl []]⟩:=by kernel_rfl
theorem fX:Program.underlying Tryz.prog 3=some (.int .i64):=by kernel_rfl
theorem Y6:Cx Tryz.prog 114=true:=by kernel_rfl
theorem dp:Ch Tryz.prog 114=some (false,1):=by kernel_rfl
theorem eQ:Ch Tryz.prog 116=some (true,3):=by kernel_rfl
theorem Yc:Ch Tryz.prog 119=some (true,2):=by kernel_rfl
theorem YG:HN Tryz.prog 116=some [.zc,.zc,.int .i64 0]:=by kernel_rfl
theorem YP:HN Tryz.prog 119=some [.zc,.zc]:=by kernel_rfl
theorem fa:HN Tryz.prog 3=some [.int .i64 0]:=by kernel_rfl

theorem RB {N:Nat} {rec_spec_inline:AN→Int→AD→Int→Option (AD)} (hrec_spec_inline :∀{p0:AN} {p1:Int} {p2:AD} {p3:Int} {r:AD},rec_spec_inline p0 p1 p2 p3=some r→Aa Tryz.prog 37 [(HH p0),(i64 p1),(Bt p2),(i64 p3)] [] (fun v st=>v=(Bt r)∧st=[])) {p0:AN} {p1:Int} {p2:AD} {p3:Int} {r:AD} (h0:JY N rec_spec_inline p0 p1 p2 p3=some r):Aa Tryz.prog 37 [(HH p0),(i64 p1),(Bt p2),(i64 p3)] [] (fun v st=>v=(Bt r)∧st=[]):=by
 unfold JY at h0
 refine EM U (ai Tryz.func37 U U U U (sr U fun K1 hK1=>A7 (m:=0) Ac U U U U U (A7 (m:=1) Ac U U U U U (As (m:=2) Ac Hb U U (dn hK1 U (sr U fun K2 hK2=>?_))))))
 refine Bu (m:=3) (l:=([]:List AD)) (enc:=A4) Ac Bw (by decide) rfl U (by simp only[List.map,Aw];rfl) rfl U U ?_
 refine zq tb U (dn hK2 U (AB fun K3 hK3=>zr tb U U (bs h0 fun o8 h1 h0=>?_)))
 have M8 :∀(l7:(List AD)),o8=l7→∀s,Wk 0 s ⟨61,AL [(1,(i64 p1)),(3,(i64 p3)),(4,Am),(6,Aq),(8,BD),(9,(ow 3 0 l7))],[(Je p0.decls p0.funcs),(Py p2.op p2.num p2.kids),aY,(Th l7)]⟩→K3 s:=by
  intro l7 hq s hw
  subst o8
  try dsimp only at h0
  refine hK3 _ (AM hw (AB fun K9 hK9=>AB fun K10 hK10=>bs h0 fun o12 h1 h0=>?_))
  have M12 :∀(t11:Bool),o12=t11→∀s,Wk 0 s ⟨61,AL [(1,(i64 p1)),(3,(i64 p3)),(4,Am),(6,Aq),(8,BD),(9,(ow 3 0 l7)),(43,(.bool t11))],[(Je p0.decls p0.funcs),(Py p2.op p2.num p2.kids),aY,(Th l7)]⟩→K10 s:=by
   intro t11 hq s hw
   subst o12
   try dsimp only at h0
   refine hK10 _ (AM hw ?_)
   refine ci h0 U ?_ ?_ <;> clear h0 <;> intro b13 h0
   ·refine sr U fun K14 hK14=>zm tb 4 U (bs h0 fun c15 gc15 h0=>zx B3 gc15 U U U (zm tb 3 U (bs h0 fun q16 gq16 h0=>zc (v':=(Bt q16)) (hb 76) (OM gq16) rfl U U (zq tb U (Af (Wk.DN (L:=[(8,BD),(44,(EY l7)),(52,(Bt q16)),(53,(i64 p3))]) (st':=[(Je p0.decls p0.funcs),(Py p2.op p2.num p2.kids),aY,C8]) (id:=3) rfl (show 0≤3 by decide) (AJ Co) ⟨.rfl,(.DN U),.rfl,.rfl,trivial⟩ U) (bs h0 fun q17 gq17 h0=>zc (v':=(Bt q17)) (hb 75) (U6 gq17) rfl U U (Ay Ac Cz U U U U U U (show 0+3≤3 by decide) rfl ?_)))))))
    refine dn hK14 U ?_
    obtain rfl:=Sh.AA h0
    exact AI (Exists.intro _ (And.intro (Wk.refl _ _) (BM (x:=.tmp 8) (off:=0) (cs:=(ck q17)) (vs:=(ck q17)) Cz U U U (show 0+3≤3 by decide) rfl _ U)))
   ·refine AG (hK9 _ (sr U fun K18 hK18=>zm tb 5 U (zz (.agg [(i64 p2.op),(i64 p2.num),(ow 3 0 l7)]) (GA Vl Vb Hb U U) rfl (Af (Wk.DN (L:=[(8,BD),(60,(.agg (Zu p2 l7)))]) (st':=[(Je p0.decls p0.funcs),(Py p2.op p2.num p2.kids),aY,C8]) (id:=3) rfl (show 0≤3 by decide) (AJ Co) ⟨.rfl,(.agg ⟨.rfl,.rfl,(.JA U),trivial⟩),trivial⟩ U) (Ay Ac Cz U U U U U U (show 0+3≤3 by decide) rfl (dn hK18 U ?_))))))
    obtain rfl:=Sh.AA h0
    exact AI (Exists.intro _ (And.intro (Wk.refl _ _) (BM (x:=.tmp 8) (off:=0) (cs:=(Zu p2 l7)) (vs:=(Zu p2 l7)) Cz U U U (show 0+3≤3 by decide) rfl _ U)))
  refine AF U (zm tb 4 U ?_)
  rcases Sh.Ap h1 with ⟨b19,h1⟩ | ⟨b19,h1⟩
  ·refine zg tb b19 U ?_
   iterate 3 refine zg tb b19 rfl ?_
   exact zt b19 U (AE (M12 (decide (p2.num=p1)) (Sh.AA h1).symm _ (AH U)))
  ·refine zs b19 U ?_
   iterate 3 refine zs b19 rfl ?_
   exact zf b19 U (AE (M12 false (Sh.AA h1).symm _ (AH U)))
 refine AP (Ak (σ:=Int×(List AD)) (fun n v=>DX N p0 p1 p2 p3 rec_spec_inline n v.1 v.2=some o8) (fun (k5,l6)=>⟨61,AL [(1,(i64 p1)),(3,(i64 p3)),(4,(.ptr 0 0 0 0)),(6,(.ptr 1 0 0 0)),(8,(.ptr 2 0 0 0)),(9,(ow 3 0 l6)),(10,(i64 k5))],[(Je p0.decls p0.funcs),(Py p2.op p2.num p2.kids),aY,(ro 0 44 3 A4 l6)]⟩) N (0,[]) h1 (AH U) (fun _ hv=>by rw[DX] at hv;cases hv) ?_)
 rintro n ⟨k5,l6⟩ h1
 try dsimp only at h1 ⊢
 rw[DX] at h1
 refine AB fun K20 hK20=>sr U fun K21 hK21=>zm tb 3 U (zl tb U U (zq tb U (dn hK21 U ?_)))
 refine ci h1 U ?_ ?_ <;> clear h1 <;> intro b22 h1
 ·refine AG (hK20 _ (AB fun K23 hK23=>AP ?_))
  refine Bi 15 (by kernel_rfl) (by kernel_rfl) (by rfl) ?_
  iterate 6 refine yq tb rfl ?_
  refine bs h1 fun c24 gc24 h1=>yz (Ff c24) (BY Bw U U gc24 (Aw _) rfl) rfl ?_
  iterate 5 refine yq tb rfl ?_
  refine bs h1 fun q25 gq25 h1=>Bh (v:=(i64 q25)) Ac (hb 66) (Rz gq25) rfl U U (bs h1 fun q26 gq26 h1=>Bh (v:=(Bt q26)) Ac (hb 37) (hrec_spec_inline gq26) rfl U U ?_)
  refine Xu (l:=[q26]) (enc:=A4) Ac Bw (by decide) rfl U U (by simp only[List.map,Aw];rfl) rfl (AJ Co) ?_
  exact BL (bs h1 fun l27 gl27 h1=>FA (l2:=[q26]) Ac Bw U U U U Nw Ip gl27 U (zq tb U (dn hK23 U (AF U (zm tb 3 U (AE (xi (Sh.w (k5+1),l27) h1 (Cy (L:=[(1,(i64 p1)),(3,(i64 p3)),(4,Am),(6,Aq),(8,BD),(9,(ow 3 0 l27)),(10,(Ka k5))]) (st':=[(Je p0.decls p0.funcs),(Py p2.op p2.num p2.kids),aY,(Th l27)]) (.raw U U (.raw U U (.raw U U (.pure (AJ Co) .nil)))) (.same U)))))))))
 ·exact Ao (M8 l6 (Sh.AA h1).symm _ (AH U))

theorem Qt {N:Nat} :∀(n:Nat),∀{p0:AN} {p1:Int} {p2:AD} {p3:Int} {r:AD},Ex N n p0 p1 p2 p3=some r→Aa Tryz.prog 37 [(HH p0),(i64 p1),(Bt p2),(i64 p3)] [] (fun v st=>v=(Bt r)∧st=[]):=by
 intro n
 induction n with
 | zero=>intro p0 p1 p2 p3 r h0;cases h0
 | succ n ih=>
  intro p0 p1 p2 p3 r h0
  rw[Ex] at h0
  exact RB (fun h=>ih h) h0
theorem S3 {N:Nat} :∀{p0:AN} {p1:Int} {p2:AD} {p3:Int} {r:AD},MV N p0 p1 p2 p3=some r→Aa Tryz.prog 37 [(HH p0),(i64 p1),(Bt p2),(i64 p3)] [] (fun v st=>v=(Bt r)∧st=[]):=by
 intro p0 p1 p2 p3 r h0
 exact Qt N h0
theorem QE {N:Nat} {p0:(List Ab)} {r:(List Ab)} (h0:HG N p0=some r):Aa Tryz.prog 48 [(Bf p0)] [] (fun v st=>v=(ow 0 0 r)∧st=[(ro 0 81 3 AT r)]):=by
 unfold HG at h0
 refine ai Tryz.func48 U U U U (zr tb U U (sr U fun K2 hK2=>?_))
 refine Bu (m:=0) (l:=([]:List Ab)) (enc:=AT) Ac DO (by decide) rfl U U U U U ?_
 refine zq tb U (dn hK2 U (AB fun K3 hK3=>zr tb U U (bs h0 fun o8 h1 h0=>?_)))
 have M8 :∀(l7:(List Ab)),o8=l7→∀s,Wk 0 s ⟨55,AL [(3,(ow 0 0 l7))],[(ro 0 81 3 AT l7)]⟩→K3 s:=by
  intro l7 hq s hw
  subst o8
  try dsimp only at h0
  refine hK3 _ (AM hw (zr tb U U ?_))
  obtain rfl:=Sh.AA h0
  exact AI (xr (AS (L:=[(2,(ow 0 0 l7))]) (.same U)))
 refine AP (Ak (σ:=Int×(List Ab)) (fun n v=>Dr N p0 n v.1 v.2=some o8) (fun (i5,l6)=>⟨55,AL [(0,(ls AT p0)),(3,(ow 0 0 l6)),(4,(i64 i5))],[(ro 0 81 3 AT l6)]⟩) N (0,[]) h1 (AH U) (fun _ hv=>by rw[Dr] at hv;cases hv) ?_)
 rintro n ⟨i5,l6⟩ h1
 try dsimp only at h1 ⊢
 rw[Dr] at h1
 refine AB fun K10 hK10=>sr U fun K11 hK11=>zm tb 2 U (zl tb U U (zq tb U (dn hK11 U ?_)))
 refine ci h1 U ?_ ?_ <;> clear h1 <;> intro b12 h1
 ·refine AG (hK10 _ (AB fun K13 hK13=>AP (sr U fun K14 hK14=>?_)))
  refine Bu (m:=1) (l:=([]:List BP)) (enc:=BR) Ac Io (by decide) rfl U U U U U ?_
  refine zq tb U (dn hK14 U (AB fun K15 hK15=>zr tb U U (bs h1 fun o20 h2 h1=>?_)))
  have M20 :∀(l19:(List BP)),o20=l19→∀s,Wk 0 s ⟨55,AL [(0,(Bf p0)),(3,(ow 0 0 l6)),(4,(i64 i5)),(5,(ow 1 0 l19))],[(ro 0 81 3 AT l6),(ro 0 111 1 BR l19)]⟩→K15 s:=by
   intro l19 hq s hw
   subst o20
   try dsimp only at h1
   refine hK15 _ (AM hw (AM (Wk.DN (L:=[(0,(Bf p0)),(3,(ow 0 0 l6)),(4,(i64 i5)),(5,(ls BR l19))]) (st':=[(ro 0 81 3 AT l6),⟨1,111,1,[]⟩]) (id:=1) rfl (show 0≤1 by decide) (AJ fun _=>U) ⟨.rfl,.rfl,.rfl,(.DN U),trivial⟩ U) ?_))
   refine Bi 14 (by kernel_rfl) (by kernel_rfl) (by rfl) ?_
   iterate 3 refine yq tb rfl ?_
   refine bs h1 fun c21 gc21 h1=>yx DO gc21 U U U ?_
   iterate 4 refine yq tb rfl ?_
   refine yx DO gc21 U U U ?_
   iterate 3 refine yq tb rfl ?_
   refine yz (.agg [(i64 c21.from_),(i64 c21.to),(ls BR l19)]) (GA dj de Gm U U) rfl ?_
   refine Xu (l:=[(Ab.mk c21.from_ c21.to l19)]) (enc:=AT) Ac DO (by decide) rfl U U U U (AJ fun _=>U) ?_
   refine BL (bs h1 fun l22 gl22 h1=>FA (l2:=[(Ab.mk c21.from_ c21.to l19)]) Ac DO U U U U Nw (fun _=>U) gl22 U (zq tb U (dn hK13 U (AF U (zm tb 3 U ?_)))))
   exact AE (xi (Sh.w (i5+1),l22) h1 (by refine Wk.trans (Cy (L:=[(0,(Bf p0)),(3,(ow 0 0 l22)),(4,(Ka i5))]) (st':=[(ro 0 81 3 AT l22),⟨0,111,1,[]⟩]) (.pure (AJ fun _=>U) (.pure (by intro x hx;cases hx) .nil)) (.same U)) ?_;exact AU [0] U (by decide) rfl U (.pure (AJ fun _=>U) .nil) (.same U)))
  refine AP (Ak (σ:=Int×(List BP)) (fun n v=>DA i5 p0 n v.1 v.2=some o20) (fun (k17,l18)=>⟨55,AL [(0,(ls AT p0)),(3,(ow 0 0 l6)),(4,(i64 i5)),(5,(ow 1 0 l18)),(6,(i64 k17))],[(ro 0 81 3 AT l6),(ro 0 111 1 BR l18)]⟩) N (0,[]) h2 (AH U) (fun _ hv=>by rw[DA] at hv;cases hv) ?_)
  rintro n ⟨k17,l18⟩ h2
  try dsimp only at h2 ⊢
  rw[DA] at h2
  refine AB fun K23 hK23=>sr U fun K24 hK24=>zm tb 3 U (bs h2 fun c25 gc25 h2=>zx DO gc25 U U U (zm tb 2 U (zl tb U U (zq tb U (dn hK24 U ?_)))))
  refine ci h2 U ?_ ?_ <;> clear h2 <;> intro b26 h2
  ·refine AG (hK23 _ (AB fun K27 hK27=>AP (AF U (zm tb 3 U (zx DO gc25 U U U (zm tb 3 U (bs h2 fun c28 gc28 h2=>zx Io gc28 U U U (zm tb 2 U (bs h2 fun q29 gq29 h2=>BF (v':=(ow 2 0 q29)) Ac (hb 49) (I2 gq29) rfl U ⟨(BZ fun _=>U),trivial⟩ U U ?_)))))))))
   refine zz (.agg [(ow 2 0 q29)]) (GA ak bT Lr U U) rfl (Af (Wk.DN (L:=[(0,(Bf p0)),(3,(ow 0 0 l6)),(4,(i64 i5)),(6,(i64 k17)),(25,(ow 1 0 l18)),(36,(.agg [(ls eI q29)]))]) (st':=[(ro 0 81 3 AT l6),(ro 0 111 1 BR l18),⟨1,3,1,[]⟩]) (id:=2) rfl (show 0≤2 by decide) (AJ fun _=>U) ⟨.rfl,.rfl,.rfl,.rfl,.rfl,(.agg ⟨(.JA U),trivial⟩),trivial⟩ U) ?_)
   refine Bu (m:=3) (l:=[(BP.mk q29)]) (enc:=BR) Ac Io (by decide) rfl U U U U U ?_
   refine bs h2 fun l30 gl30 h2=>FA (l2:=[(BP.mk q29)]) Ac Io U U U U (IC U U) (fun _=>U) gl30 U (zq tb U (dn hK27 U (AF U (zm tb 3 U ?_))))
   exact AE (xi (Sh.w (k17+1),l30) h2 (by refine Wk.trans (Cy (L:=[(0,(Bf p0)),(3,(ow 0 0 l6)),(4,(i64 i5)),(5,(ow 1 0 l30)),(6,(Ka k17))]) (st':=[(ro 0 81 3 AT l6),(ro 0 111 1 BR l30),⟨0,3,1,[]⟩,(ro 0 111 1 BR [(BP.mk q29)])]) (.pure (AJ fun _=>U) (.pure (AJ fun _=>U) (.pure (by intro x hx;cases hx) (.pure (AJ fun _=>U) .nil)))) (.same U)) ?_;exact AU [0,1] U (by decide) rfl U (.pure (AJ fun _=>U) (.pure (AJ fun _=>U) .nil)) (.same U)))
  ·exact Ao (M20 l18 (Sh.AA h2).symm _ (AH U))
 ·exact Ao (M8 l6 (Sh.AA h1).symm _ (AH U))
theorem Nj {N:Nat} {rec_spec_copyExpr_5:AD→Option (AD)} (hrec_spec_copyExpr_5 :∀{p0:AD} {r:AD},rec_spec_copyExpr_5 p0=some r→Aa Tryz.prog 50 [(Bt p0)] [] (fun v st=>v=(Bt r)∧st=[])) {p0:(List AD)} {r:(List AD)} (h0:HZ N rec_spec_copyExpr_5 p0=some r):Aa Tryz.prog 47 [(EY p0)] [] (fun v st=>v=(ow 0 0 r)∧st=[(Th r)]):=by
 unfold HZ at h0
 refine ai Tryz.func47 U U U U (zr tb U U (sr U fun K2 hK2=>?_))
 refine Bu (m:=0) (l:=([]:List AD)) (enc:=A4) Ac Bw (by decide) rfl U (by simp only[List.map,Aw];rfl) rfl U U ?_
 refine zq tb U (dn hK2 U (AB fun K3 hK3=>zr tb U U (bs h0 fun o8 h1 h0=>?_)))
 have M8 :∀(l7:(List AD)),o8=l7→∀s,Wk 0 s ⟨21,AL [(3,(ow 0 0 l7))],[(Th l7)]⟩→K3 s:=by
  intro l7 hq s hw
  subst o8
  try dsimp only at h0
  refine hK3 _ (AM hw (zr tb U U ?_))
  obtain rfl:=Sh.AA h0
  exact AI (xr (AS (L:=[(2,(ow 0 0 l7))]) (.same U)))
 refine AP (Ak (σ:=Int×(List AD)) (fun n v=>CW p0 rec_spec_copyExpr_5 n v.1 v.2=some o8) (fun (i5,l6)=>⟨21,AL [(0,(ls A4 p0)),(3,(ow 0 0 l6)),(4,(i64 i5))],[(ro 0 44 3 A4 l6)]⟩) N (0,[]) h1 (AH U) (fun _ hv=>by rw[CW] at hv;cases hv) ?_)
 rintro n ⟨i5,l6⟩ h1
 try dsimp only at h1 ⊢
 rw[CW] at h1
 refine AB fun K10 hK10=>sr U fun K11 hK11=>zm tb 2 U (zl tb U U (zq tb U (dn hK11 U ?_)))
 refine ci h1 U ?_ ?_ <;> clear h1 <;> intro b12 h1
 ·refine AG (hK10 _ (AB fun K13 hK13=>AP (AF U (zm tb 3 U (bs h1 fun c14 gc14 h1=>zz (Ff c14) (BY Bw U U gc14 (Aw _) rfl) rfl (zq tb U (bs h1 fun q15 gq15 h1=>zc (v':=(Bt q15)) (hb 50) (hrec_spec_copyExpr_5 gq15) rfl U U ?_)))))))
  refine Bu (m:=1) (l:=[q15]) (enc:=A4) Ac Bw (by decide) rfl U (by simp only[List.map,Aw];rfl) rfl U U ?_
  refine bs h1 fun l16 gl16 h1=>FA (l2:=[q15]) Ac Bw U U U U (IC U U Qz) Ip gl16 U (zq tb U (dn hK13 U (AF U (zm tb 3 U ?_))))
  exact AE (xi (Sh.w (i5+1),l16) h1 (by refine Wk.trans (Cy (L:=[(0,(EY p0)),(3,(ow 0 0 l16)),(4,(Ka i5))]) (st':=[(Th l16),(ro 0 44 3 A4 [q15])]) (.pure (AJ Co) (.pure (AJ Co) .nil)) (.same U)) ?_;exact AU [0] U (by decide) rfl U (.pure (AJ Co) .nil) (.same U)))
 ·exact Ao (M8 l6 (Sh.AA h1).symm _ (AH U))
theorem NV {N:Nat} {rec_spec_copyExpr_5:AD→Option (AD)} (hrec_spec_copyExpr_5 :∀{p0:AD} {r:AD},rec_spec_copyExpr_5 p0=some r→Aa Tryz.prog 50 [(Bt p0)] [] (fun v st=>v=(Bt r)∧st=[])) {p0:AD} {r:AD} (h0:Gu N rec_spec_copyExpr_5 p0=some r):Aa Tryz.prog 50 [(Bt p0)] [] (fun v st=>v=(Bt r)∧st=[]):=by
 unfold Gu at h0
 refine EM U (ai Tryz.func50 U U U U (sr U fun K1 hK1=>A7 (m:=0) Ac U U U U U (As (m:=1) Ac Hb U U (dn hK1 U (AB fun K2 hK2=>?_)))))
 refine Bi 8 (by kernel_rfl) (by kernel_rfl) (by rfl) ?_
 iterate 6 refine yq tb rfl ?_
 refine bs h0 fun q3 gq3 h0=>?_
 refine Bh (v:=(EY q3)) Ac (hb 47) (Aa.wk (Nj hrec_spec_copyExpr_5 gq3) (by refine Wk.trans (Wk.DN (L:=[(0,(EY q3))]) (st':=[C8]) (id:=0) rfl (show 0≤0 by decide) (AJ Co) ⟨(.DN U),trivial⟩ U) ?_;exact AU [] U (by decide) rfl U .nil (.same U))) rfl U U ?_
 refine yz (.agg (Zu p0 q3)) (GA Vl Vb Hb U U) rfl (BL (Ay Ac Cz U U U U U U (show 0+3≤3 by decide) rfl (dn hK2 U ?_)))
 obtain rfl:=Sh.AA h0
 exact AI (Exists.intro _ (And.intro (Wk.refl _ _) (BM (x:=.tmp 2) (off:=0) (cs:=(Zu p0 q3)) (vs:=(Zu p0 q3)) Cz U U U (show 0+3≤3 by decide) rfl _ U)))

theorem NP {N:Nat} :∀(n:Nat),∀{p0:AD} {r:AD},Di N n p0=some r→Aa Tryz.prog 50 [(Bt p0)] [] (fun v st=>v=(Bt r)∧st=[]):=by
 intro n
 induction n with
 | zero=>intro p0 r h0;cases h0
 | succ n ih=>
  intro p0 r h0
  rw[Di] at h0
  exact NV (fun h=>ih h) h0
theorem Ok {N:Nat} :∀{p0:AD} {r:AD},Hs N p0=some r→Aa Tryz.prog 50 [(Bt p0)] [] (fun v st=>v=(Bt r)∧st=[]):=by
 intro p0 r h0
 exact NP N h0
theorem NW {N:Nat} {p0:AN} {p1:(List AD)} {r:AN×Bool} (h0:F3 N p0 p1=some r):Aa Tryz.prog 21 [(HH p0),(EY p1)] [] (fun v st=>v=(aV r.1.decls r.1.funcs r.2)∧st=[]):=by
 unfold F3 at h0
 refine EM U (ai Tryz.func21 U U U U (sr U fun K1 hK1=>A7 (m:=0) Ac U U U U U (As (m:=1) Ac H5 U U (zq tb U (dn hK1 U (sr U fun K2 hK2=>zm tb 2 U (bs h0 fun q3 gq3 h0=>BF (v':=(ow 2 0 q3)) Ac (hb 48) (QE gq3) rfl U ⟨(BZ fun _=>U),trivial⟩ U U ?_)))))))
 refine Bu (m:=3) (l:=([]:List Ah)) (enc:=Ar) Ac B3 (by decide) rfl U U U U U ?_
 refine zz (.agg [(ow 2 0 q3),(.own 3 0 (List.length ([]:List Ah)))]) (GA TW Tu H5 U U) rfl (As (m:=4) Ac H5 U U (Af (Wk.DN (L:=[(1,(EY p1)),(2,Am),(4,Aq),(6,Fc),(12,(.agg [(Bf q3),(.own 3 0 (List.length ([]:List Ah)))]))]) (st':=[(Je p0.decls p0.funcs),Pm,WJ,(ro 0 48 5 Ar ([]:List Ah)),Pm]) (id:=2) rfl (show 0≤2 by decide) (AJ fun _=>U) ⟨.rfl,.rfl,.rfl,.rfl,(.agg ⟨(.JA U),.rfl,trivial⟩),trivial⟩ U) (Ay Ac Fw U U U U U U (show 0+2≤2 by decide) rfl (dn hK2 U (AB fun K4 hK4=>zr tb U U ?_)))))
 obtain⟨o9,h1,h0⟩:=Sh.A8 h0
 have M9 :∀(l8:(List Ah)),o9=Sum.inr l8→∀s,Wk 0 s ⟨52,AL [(4,Am),(6,BD)],[Pm,(ro 0 48 5 Ar l8),⟨0,30,2,[[(Bf q3),(ow 1 0 l8)]]⟩]⟩→K4 s:=by
  intro l8 hq s hw
  subst o9
  try dsimp only at h0
  refine hK4 _ (AM hw (sr U fun K10 hK10=>zq tb U (Af (Wk.DN (L:=[(4,Am),(51,(.agg (Ws q3 l8)))]) (st':=[Pm,⟨1,48,5,[]⟩,⟨0,30,2,[[(Bf q3),(ow 1 0 l8)]]⟩]) (id:=1) rfl (show 0≤1 by decide) (AJ fun _=>U) ⟨.rfl,(.agg ⟨.rfl,(.JA U),trivial⟩),trivial⟩ U) (Ay Ac Fw U U U U U U (show 0+2≤2 by decide) rfl (zq tb U (dn hK10 U ?_))))))
  obtain rfl:=Sh.AA h0
  exact AI (Exists.intro _ (And.intro ((AU (L:=[(4,Am),(5,(.bool true))]) (st':=[(Je q3 l8)]) [0] U (by decide) rfl U (.raw U U .nil) ⟨.rfl,.rfl,trivial⟩).trans (AS (L:=[(4,Am),(5,(.bool true))]) ⟨.rfl,.rfl,trivial⟩)) (BM (x:=.tmp 4) (off:=0) (cs:=(Ws q3 l8)) (vs:=(Ws q3 l8)) Fw U U U (show 0+2≤2 by decide) rfl _ U)))
 refine AP (Ak (σ:=Int×(List Ah)) (fun n v=>CE N p0 p1 n v.1 v.2=some o9) (fun (i6,l7)=>⟨52,AL [(1,(ls A4 p1)),(2,(.ptr 0 0 0 0)),(4,(.ptr 1 0 0 0)),(6,(.ptr 3 0 0 0)),(7,(i64 i6))],[(Je p0.decls p0.funcs),Pm,(ro 0 48 5 Ar l7),⟨0,30,2,[[(ls AT q3),(ow 2 0 l7)]]⟩]⟩) N (0,[]) h1 (A5 (L:=[(1,(ls A4 p1)),(2,(.ptr 0 0 0 0)),(4,(.ptr 1 0 0 0)),(6,(.ptr 3 0 0 0)),(7,(i64 0))]) (st':=[(Je p0.decls p0.funcs),Pm,(ro 0 48 5 Ar ([]:List Ah)),⟨0,30,2,[[(ls AT q3),(.own 2 0 (List.length ([]:List Ah)))]]⟩]) (st1:=[(Je p0.decls p0.funcs),Pm,(ro 0 48 5 Ar ([]:List Ah)),⟨0,30,2,[[(ls AT q3),(.own 3 0 (List.length ([]:List Ah)))]]⟩]) [0,1,3,4] U .nil (by decide) rfl U (.raw U U (.raw U U (.pure (AJ fun _=>U) (.raw U U .nil)))) (.same U)) (fun _ hv=>by rw[CE] at hv;cases hv) ?_)
 rintro n ⟨i6,l7⟩ h1
 try dsimp only at h1 ⊢
 rw[CE] at h1
 refine AB fun K11 hK11=>sr U fun K12 hK12=>zm tb 3 U (zl tb U U (zq tb U (dn hK12 U ?_)))
 refine ci h1 U ?_ ?_ <;> clear h1 <;> intro b13 h1
 ·refine AG (hK11 _ (AB fun K14 hK14=>AP (AB fun K15 hK15=>sr U fun K16 hK16=>zm tb 2 U (bs h1 fun c17 gc17 h1=>zz (Ff c17) (BY Bw U U gc17 (Aw _) rfl) rfl (zq tb U (bs h1 fun q18 gq18 h1=>zc (hb 45) (L7 gq18) rfl U U (zq tb U ?_)))))))
  refine dn hK16 U ?_
  refine ci h1 U ?_ ?_ <;> clear h1 <;> intro b19 h1
  ·refine sr U fun K20 hK20=>zz (.agg [.zc,.zc]) (GA TW Tu H5 U U) rfl (Ay Ac Fw U U U U U U (show 0+2≤2 by decide) rfl (zq tb U (dn hK20 U ?_)))
   obtain rfl:=Sh.AA h1
   try dsimp only[id] at h0
   obtain rfl:=Sh.AA h0
   exact AI (Exists.intro _ (And.intro ((((GH (id:=1) (cs:=[.zc,.zc]) (cs':=WS) (st':=[(Je p0.decls p0.funcs),⟨0,30,2,[WS]⟩,(ro 0 48 5 Ar l7),⟨0,30,2,[[(Bf q3),(ow 2 0 l7)]]⟩]) rfl ⟨le.zc,le.rfl,trivial⟩ U U).trans (GH (id:=1) (cs:=WS) (cs':=VA) (st':=[(Je p0.decls p0.funcs),Z7,(ro 0 48 5 Ar l7),⟨0,30,2,[[(Bf q3),(ow 2 0 l7)]]⟩]) rfl ⟨le.rfl,le.zc,trivial⟩ U U)).trans (AU (L:=[(4,Am),(5,(.bool false))]) (st':=[Z7]) [1] U (by decide) rfl U (.raw U U .nil) ⟨.rfl,.rfl,trivial⟩)).trans (AS (L:=[(4,Am),(5,(.bool false))]) ⟨.rfl,.rfl,trivial⟩)) (BM (x:=.tmp 4) (off:=0) (cs:=VA) (vs:=VA) Fw U U U (show 0+2≤2 by decide) rfl _ U)))
  ·refine AG (hK15 _ ?_)
   refine Bi 22 (by kernel_rfl) (by kernel_rfl) (by rfl) ?_
   iterate 5 refine yq tb rfl ?_
   refine bs h1 fun c21 gc21 h1=>yx B3 gc21 U U U ?_
   iterate 2 refine yq tb rfl ?_
   refine bs h1 fun q22 gq22 h1=>?_
   refine Bh (v:=(ls eI q22)) Ac (hb 49) (Aa.wk (I2 gq22) (by refine Wk.trans (Wk.DN (L:=[(0,(ls eI q22))]) (st':=WK) (id:=0) rfl (show 0≤0 by decide) (AJ fun _=>U) ⟨(.DN U),trivial⟩ U) ?_;exact AU [] U (by decide) rfl U .nil (.same U))) rfl U U ?_
   iterate 3 refine yq tb rfl ?_
   refine yx B3 gc21 U U U ?_
   iterate 4 refine yq tb rfl ?_
   refine yz (Ff c17) (BY Bw U U gc17 (Aw _) rfl) rfl (yq tb U (bs h1 fun q23 gq23 h1=>Bh (v:=(Bt q23)) Ac (hb 50) (Ok gq23) rfl U U (yz (.agg [(ls eI q22),(i64 c21.result),(i64 q23.op),(i64 q23.num),(IJ q23)]) (GA ah bE N5 U U) rfl ?_)))
   refine Xu (l:=[(Ah.mk q22 c21.result q23)]) (enc:=Ar) Ac B3 (by decide) rfl U U U U (AJ fun _=>U) ?_
   exact BL (bs h1 fun l24 gl24 h1=>FA (l2:=[(Ah.mk q22 c21.result q23)]) Ac B3 U U U U Nw (fun _=>U) gl24 U (zq tb U (Ay Ac bB U U U U U U (show 1+1≤2 by decide) rfl (dn hK14 U (AF U (zm tb 3 U (AE (xi (Sh.w (i6+1),l24) h1 (Cy (L:=[(1,(EY p1)),(2,Am),(4,Aq),(6,Bg),(7,(Ka i6))]) (st':=[(Je p0.decls p0.funcs),Pm,(ro 0 48 5 Ar l24),⟨0,30,2,[[(Bf q3),(ow 2 0 l24)]]⟩]) (.raw U U (.raw U U (.pure (AJ fun _=>U) (.raw U U .nil)))) (.same U))))))))))
 ·exact Ao (M9 l7 (Sh.AA h1).symm _ (A5 (L:=[(4,Am),(6,BD)]) (st':=[Pm,(ro 0 48 5 Ar l7),⟨0,30,2,[[(Bf q3),(ow 1 0 l7)]]⟩]) (st1:=[Pm,(ro 0 48 5 Ar l7),⟨0,30,2,[[(Bf q3),(ow 2 0 l7)]]⟩]) [1,2,3] U .nil (by decide) rfl U (.raw U U (.pure (AJ fun _=>U) (.raw U U .nil))) (.same U)))
theorem S6 {N:Nat} {p0:AN} {p1:Int} {r:AN×Bool} (h0:FK N p0 p1=some r):Aa Tryz.prog 15 [(HH p0),(i64 p1)] [] (fun v st=>v=(aV r.1.decls r.1.funcs r.2)∧st=[]):=by
 unfold FK at h0
 refine EM U (ai Tryz.func15 U U U U (sr U fun K1 hK1=>A7 (m:=0) Ac U U U U U (As (m:=1) Ac H5 U U (zq tb U (dn hK1 U (AB fun K2 hK2=>AB fun K3 hK3=>bs h0 fun o5 h1 h0=>?_))))))
 have M5 :∀(t4:Bool),o5=t4→∀s,Wk 0 s ⟨50,AL [(1,(i64 p1)),(2,Am),(4,Aq),(16,(.bool t4))],[(Je p0.decls p0.funcs),Pm]⟩→K3 s:=by
  intro t4 hq s hw
  subst o5
  try dsimp only at h0
  refine hK3 _ (AM hw ?_)
  refine ci h0 U ?_ ?_ <;> clear h0 <;> intro b6 h0
  ·refine sr U fun K7 hK7=>zz (.agg [.zc,.zc]) (GA TW Tu H5 U U) rfl (Ay Ac Fw U U U U U U (show 0+2≤2 by decide) rfl (zq tb U (dn hK7 U ?_)))
   obtain rfl:=Sh.AA h0
   exact AI (Exists.intro _ (And.intro ((((GH (id:=1) (cs:=[.zc,.zc]) (cs':=WS) (st':=[(Je p0.decls p0.funcs),⟨0,30,2,[WS]⟩]) rfl ⟨le.zc,le.rfl,trivial⟩ U U).trans (GH (id:=1) (cs:=WS) (cs':=VA) (st':=[(Je p0.decls p0.funcs),Z7]) rfl ⟨le.rfl,le.zc,trivial⟩ U U)).trans (AU (L:=[(4,Am),(5,(.bool false))]) (st':=[Z7]) [1] U (by decide) rfl U (.raw U U .nil) ⟨.rfl,.rfl,trivial⟩)).trans (AS (L:=[(4,Am),(5,(.bool false))]) ⟨.rfl,.rfl,trivial⟩)) (BM (x:=.tmp 4) (off:=0) (cs:=VA) (vs:=VA) Fw U U U (show 0+2≤2 by decide) rfl _ U)))
  ·refine AG (hK2 _ (sr U fun K8 hK8=>?_))
   refine Bu (m:=2) (l:=([]:List AD)) (enc:=A4) Ac Bw (by decide) rfl U (by simp only[List.map,Aw];rfl) rfl U U ?_
   refine zq tb U (dn hK8 U (AB fun K9 hK9=>zr tb U U (bs h0 fun o14 h1 h0=>?_)))
   have M14 :∀(l13:(List AD)),o14=l13→∀s,Wk 0 s ⟨50,AL [(2,Am),(4,Aq),(6,(ow 2 0 l13))],[(Je p0.decls p0.funcs),Pm,(Th l13)]⟩→K9 s:=by
    intro l13 hq s hw
    subst o14
    try dsimp only at h0
    refine hK9 _ (AM hw (sr U fun K15 hK15=>zm tb 2 U (Af (Wk.DN (L:=[(4,Aq),(45,(HH p0)),(46,(EY l13))]) (st':=[(Je p0.decls p0.funcs),Pm,C8]) (id:=2) rfl (show 0≤2 by decide) (AJ Co) ⟨.rfl,.rfl,(.DN U),trivial⟩ U) (bs h0 fun q16 gq16 h0=>zc (v':=(aV q16.1.decls q16.1.funcs q16.2)) (hb 21) (NW gq16) rfl U U (zm tb 2 U (Ay Ac Fw U U U U U U (show 0+2≤2 by decide) rfl (zq tb U (dn hK15 U ?_))))))))
    obtain rfl:=Sh.AA h0
    exact AI (Exists.intro _ (And.intro ((AU (L:=[(4,Am),(5,(.bool q16.2))]) (st':=[(Je q16.1.decls q16.1.funcs)]) [1] U (by decide) rfl U (.raw U U .nil) ⟨.rfl,.rfl,trivial⟩).trans (AS (L:=[(4,Am),(5,(.bool q16.2))]) ⟨.rfl,.rfl,trivial⟩)) (BM (x:=.tmp 4) (off:=0) (cs:=(Ws q16.1.decls q16.1.funcs)) (vs:=(Ws q16.1.decls q16.1.funcs)) Fw U U U (show 0+2≤2 by decide) rfl _ U)))
   refine AP (Ak (σ:=Int×(List AD)) (fun n v=>Ea N p0 p1 n v.1 v.2=some o14) (fun (i11,l12)=>⟨50,AL [(1,(i64 p1)),(2,(.ptr 0 0 0 0)),(4,(.ptr 1 0 0 0)),(6,(ow 2 0 l12)),(7,(i64 i11))],[(Je p0.decls p0.funcs),Pm,(ro 0 44 3 A4 l12)]⟩) N (0,[]) h1 (AH U) (fun _ hv=>by rw[Ea] at hv;cases hv) ?_)
   rintro n ⟨i11,l12⟩ h1
   try dsimp only at h1 ⊢
   rw[Ea] at h1
   refine AB fun K17 hK17=>sr U fun K18 hK18=>zm tb 3 U (zl tb U U (zq tb U (dn hK18 U ?_)))
   refine ci h1 U ?_ ?_ <;> clear h1 <;> intro b19 h1
   ·refine AG (hK17 _ (AB fun K20 hK20=>AP ?_))
    refine Bi 18 (by kernel_rfl) (by kernel_rfl) (by rfl) ?_
    iterate 6 refine yq tb rfl ?_
    refine bs h1 fun c21 gc21 h1=>yx B3 gc21 U U U ?_
    iterate 5 refine yq tb rfl ?_
    refine yx B3 gc21 U U U ?_
    iterate 2 refine yq tb rfl ?_
    refine yl tb U U (bs h1 fun q22 gq22 h1=>Bh (v:=(Bt q22)) Ac (hb 37) (S3 gq22) rfl U U ?_)
    refine Xu (l:=[q22]) (enc:=A4) Ac Bw (by decide) rfl U U (by simp only[List.map,Aw];rfl) rfl (AJ Co) ?_
    exact BL (bs h1 fun l23 gl23 h1=>FA (l2:=[q22]) Ac Bw U U U U Nw Ip gl23 U (zq tb U (dn hK20 U (AF U (zm tb 3 U (AE (xi (Sh.w (i11+1),l23) h1 (Cy (L:=[(1,(i64 p1)),(2,Am),(4,Aq),(6,(ow 2 0 l23)),(7,(Ka i11))]) (st':=[(Je p0.decls p0.funcs),Pm,(Th l23)]) (.raw U U (.raw U U (.pure (AJ Co) .nil))) (.same U)))))))))
   ·exact Ao (M14 l12 (Sh.AA h1).symm _ (AH U))
 refine AF U (zq tb U (bs h1 fun q24 gq24 h1=>zc (hb 19) (NT gq24) rfl U U (zm tb 2 U ?_)))
 rcases Sh.Ap h1 with ⟨b25,h1⟩ | ⟨b25,h1⟩
 ·refine zs b25 U ?_
  iterate 3 refine zs b25 rfl ?_
  exact zt b25 U (AE (M5 true (Sh.AA h1).symm _ (AH U)))
 ·exact zg tb b25 U (zg tb b25 U (bs h1 fun q26 gq26 h1=>zd b25 (hb 36) (P7 gq26) rfl U U U (zg tb b25 U (zf b25 U (AE (M5 (!q26) (Sh.AA h1).symm _ (AH U)))))))
theorem IX {p0:(List Ab)} {p1:Int} {r:Bool} (h0:GM p0 p1=some r):Aa Tryz.prog 126 [(Bf p0),(i64 p1)] [] (fun v st=>v=(.bool r)∧st=[]):=by
 unfold GM at h0
 refine ai Tryz.func126 U U U U (zr tb U U (AB fun K2 hK2=>bs h0 fun o4 h1 h0=>?_))
 have M4 :∀(t3:Bool),o4=t3→∀s,Wk 0 s ⟨13,AL [(4,(.bool t3))],[]⟩→K2 s:=by
  intro t3 hq s hw
  subst o4
  try dsimp only at h0
  refine hK2 _ (AM hw ?_)
  obtain rfl:=Sh.AA h0
  exact AI (xr (AS (L:=[(4,(.bool t3))]) (.same U)))
 refine AF U (zm tb 3 U ?_)
 rcases Sh.Ap h1 with ⟨b5,h1⟩ | ⟨b5,h1⟩
 ·exact zg tb b5 U (zg tb b5 U (BH (v:=(B0 p0)) (DT U U b5) rfl (CK Qu U) (zg tb b5 U (zt b5 U (zq tb U (AE (M4 (decide (p1≤(Sh.len p0))) (Sh.AA h1).symm _ (AH U))))))))
 ·refine zs b5 U ?_
  iterate 3 refine zs b5 rfl ?_
  exact zf b5 U (zq tb U (AE (M4 false (Sh.AA h1).symm _ (AH U))))
theorem JD {N:Nat} {p0:(List Ab)} {p1:(List Int)} {r:Bool} (h0:Fy N p0 p1=some r):Aa Tryz.prog 99 [(Bf p0),(ls eI p1)] [] (fun v st=>v=(.bool r)∧st=[]):=by
 unfold Fy at h0
 refine ai Tryz.func99 U U U U (zr tb U U (AB fun K2 hK2=>sr U fun K3 hK3=>zq tb U (zl tb U U (zq tb U (dn hK3 U ?_)))))
 obtain⟨o5,h1,h0⟩:=Sh.A8 h0
 have M5 :∀(_:Unit),o5=Sum.inr ()→∀s,Wk 0 s ⟨18,AL [],[]⟩→K2 s:=by
  intro _ hq s hw
  subst o5
  try dsimp only at h0
  refine hK2 _ (AM hw (zr tb U U ?_))
  obtain rfl:=Sh.AA h0
  exact AI (xr (AS (L:=[(4,(.bool true))]) (.same U)))
 refine AP (Ak (σ:=Int) (fun n v=>EF p0 p1 n v=some o5) (fun t4=>⟨18,AL [(0,(ls AT p0)),(7,(ls eI p1)),(8,(i64 (Sh.len p1))),(9,(i64 t4))],[]⟩) N 0 h1 (AH U) (fun _ hv=>by rw[EF] at hv;cases hv) ?_)
 rintro n t4 h1
 try dsimp only at h1 ⊢
 rw[EF] at h1
 refine zr tb U U (AB fun K8 hK8=>?_)
 refine ci h1 U ?_ ?_ <;> clear h1 <;> intro b9 h1
 ·refine AG (hK8 _ (AB fun K10 hK10=>AP (sr U fun K11 hK11=>bs h1 fun c12 gc12 h1=>zx BJ gc12 U U U (zm tb 2 U (dn hK11 U (sr U fun K13 hK13=>zm tb 2 U (bs h1 fun q14 gq14 h1=>zc (hb 126) (IX gq14) rfl U U ?_)))))))
  refine zq tb U (dn hK13 U ?_)
  refine ci h1 U ?_ ?_ <;> clear h1 <;> intro b15 h1
  ·have b16:q14=false:=by simpa using b15
   refine zr tb U U ?_
   obtain rfl:=Sh.AA h1
   try dsimp only[id] at h0
   obtain rfl:=Sh.AA h0
   exact AI (xr (AS (L:=[(4,(.bool false))]) (.same U)))
  ·have b18:q14=true:=by simpa using b15
   exact AG (hK10 _ (AF U (zm tb 2 U (AE (xi (Sh.w (t4+1)) h1 (AH U))))))
 ·exact Ao (M5 () (Sh.AA h1).symm _ (AH U))
theorem Og {N:Nat} {p0:(List Ab)} {r:Bool} (h0:Ge N p0=some r):Aa Tryz.prog 125 [(Bf p0)] [] (fun v st=>v=(.bool r)∧st=[]):=by
 unfold Ge at h0
 refine ai Tryz.func125 U U U U (zr tb U U (AB fun K2 hK2=>sr U fun K3 hK3=>zq tb U (zl tb U U (zq tb U (dn hK3 U ?_)))))
 refine ci h0 U ?_ ?_ <;> clear h0 <;> intro b4 h0
 ·refine zr tb U U ?_
  obtain rfl:=Sh.AA h0
  exact AI (xr (AS (L:=[(2,(.bool false))]) (.same U)))
 ·refine AG (hK2 _ (AB fun K6 hK6=>sr U fun K7 hK7=>zq tb U (zl tb U U (zq tb U (dn hK7 U ?_)))))
  obtain⟨o9,h1,h0⟩:=Sh.A8 h0
  have M9 :∀(_:Unit),o9=Sum.inr ()→∀s,Wk 0 s ⟨106,AL [],[]⟩→K6 s:=by
   intro _ hq s hw
   subst o9
   try dsimp only at h0
   refine hK6 _ (AM hw (zr tb U U ?_))
   obtain rfl:=Sh.AA h0
   exact AI (xr (AS (L:=[(2,(.bool true))]) (.same U)))
  refine AP (Ak (σ:=Int) (fun n v=>DP N p0 n v=some o9) (fun t8=>⟨106,AL [(0,(ls AT p0)),(12,(ls AT p0)),(13,(i64 (Sh.len p0))),(14,(i64 t8))],[]⟩) N 0 h1 (AH U) (fun _ hv=>by rw[DP] at hv;cases hv) ?_)
  rintro n t8 h1
  try dsimp only at h1 ⊢
  rw[DP] at h1
  refine zr tb U U (AB fun K12 hK12=>?_)
  refine ci h1 U ?_ ?_ <;> clear h1 <;> intro b13 h1
  ·refine AG (hK12 _ (AB fun K14 hK14=>AP (sr U fun K15 hK15=>zq tb U (bs h1 fun c16 gc16 h1=>zx DO gc16 U U U (zq tb U (As (m:=0) Ac Gm U U (zq tb U (Ay Ac Ji U U U U U U (show 0+3≤3 by decide) rfl (dn hK15 U ?_)))))))))
   refine AB fun K17 hK17=>AB fun K18 hK18=>bs h1 fun o20 h2 h1=>?_
   have M20 :∀(t19:Bool),o20=t19→∀s,Wk 0 s ⟨106,AL [(0,(Bf p0)),(3,(i64 t8)),(4,Am),(12,(Bf p0)),(13,(B0 p0)),(14,(i64 t8)),(52,(.bool t19))],[(Sp c16)]⟩→K18 s:=by
    intro t19 hq s hw
    subst o20
    try dsimp only at h1
    refine hK18 _ (AM hw ?_)
    refine ci h1 U ?_ ?_ <;> clear h1 <;> intro b21 h1
    ·refine zr tb U U ?_
     obtain rfl:=Sh.AA h1
     try dsimp only[id] at h0
     obtain rfl:=Sh.AA h0
     exact AI (xr (Ai [(2,(.bool false))] U))
    ·refine AG (hK17 _ (AB fun K23 hK23=>sr U fun K24 hK24=>zm tb 2 U (zl tb U U (zq tb U (dn hK24 U ?_)))))
     obtain⟨o26,h2,h1⟩:=Sh.A8 h1
     have M26 :∀(_:Unit),o26=Sum.inr ()→∀s,Wk 0 s ⟨106,AL [(0,(Bf p0)),(3,(i64 t8)),(4,Am),(12,(Bf p0)),(13,(B0 p0)),(14,(i64 t8))],[(Sp c16)]⟩→K23 s:=by
      intro _ hq s hw
      subst o26
      try dsimp only at h1
      refine hK23 _ (AM hw (sr U fun K27 hK27=>zm tb 2 U (bs h1 fun l28 gl28 h1=>WI (i:=0) (j:=t8) Ac DO U U U (fun _=>U) gl28 (zl tb U U (zq tb U (dn hK27 U ?_))))))
      obtain⟨o30,h2,h1⟩:=Sh.A8 h1
      have M30 :∀(_:Unit),o30=Sum.inr ()→∀s,Wk 0 s ⟨106,AL [(0,(Bf p0)),(12,(Bf p0)),(13,(B0 p0)),(14,(i64 t8))],[]⟩→K14 s:=by
       intro _ hq s hw
       subst o30
       try dsimp only at h1
       exact hK14 _ (AM hw (AF U (zm tb 2 U (AE (xi (Sh.w (t8+1)) h1 (AH U))))))
      refine AP (Ak (σ:=Int) (fun n v=>Ck c16 l28 n v=some o30) (fun t29=>⟨106,AL [(0,(ls AT p0)),(4,(.ptr 0 0 0 0)),(12,(ls AT p0)),(13,(i64 (Sh.len p0))),(14,(i64 t8)),(74,(ls AT l28)),(75,(i64 (Sh.len l28))),(76,(i64 t29))],[⟨0,81,3,[(AT c16)]⟩]⟩) N 0 h2 (AH U) (fun _ hv=>by rw[Ck] at hv;cases hv) ?_)
      rintro n t29 h2
      try dsimp only at h2 ⊢
      rw[Ck] at h2
      refine zr tb U U (AB fun K32 hK32=>?_)
      refine ci h2 U ?_ ?_ <;> clear h2 <;> intro b33 h2
      ·refine AG (hK32 _ (AB fun K34 hK34=>AP (sr U fun K35 hK35=>bs h2 fun c36 gc36 h2=>zx DO gc36 U U U (zq tb U (As (m:=1) Ac Gm U U (Ay Ac Ji U U U U U U (show 0+3≤3 by decide) rfl (dn hK35 U (AB fun K37 hK37=>bs h2 fun o39 h3 h2=>?_))))))))
       have M39 :∀(t38:Bool),o39=t38→∀s,Wk 0 s ⟨106,AL [(0,(Bf p0)),(4,Am),(12,(Bf p0)),(13,(B0 p0)),(14,(i64 t8)),(74,(Bf l28)),(75,(B0 l28)),(76,(i64 t29)),(103,(.bool t38))],[(Sp c16)]⟩→K37 s:=by
        intro t38 hq s hw
        subst o39
        try dsimp only at h2
        refine hK37 _ (AM hw ?_)
        refine ci h2 U ?_ ?_ <;> clear h2 <;> intro b40 h2
        ·refine zr tb U U ?_
         obtain rfl:=Sh.AA h2
         try dsimp only[id] at h1
         obtain rfl:=Sh.AA h1
         try dsimp only[id] at h0
         obtain rfl:=Sh.AA h0
         exact AI (xr (Ai [(2,(.bool false))] U))
        ·exact AG (hK34 _ (AF U (zm tb 2 U (AE (xi (Sh.w (t29+1)) h2 (AH U))))))
       refine AF U (zm tb 2 U (zl tb U U (zm tb 2 U ?_)))
       rcases Sh.Ap h3 with ⟨b42,h3⟩ | ⟨b42,h3⟩
       ·refine zg tb b42 U (zg tb b42 U (BH (v:=(XJ c36)) (DT U U b42) rfl (CK O6 U) (zg tb b42 U (zt b42 U (zq tb U ?_)))))
        rcases Sh.Ap h3 with ⟨b43,h3⟩ | ⟨b43,h3⟩
        ·refine zg tb b43 U ?_
         iterate 4 refine zg tb b43 rfl ?_
         refine zt b43 U (zq tb U ?_)
         rcases Sh.Ap h3 with ⟨b44,h3⟩ | ⟨b44,h3⟩
         ·refine zg tb b44 U ?_
          iterate 4 refine zg tb b44 rfl ?_
          refine zt b44 U ?_
          exact AE (M39 (decide (c36.to=c16.to)) (Sh.AA h3).symm _ (AU [0] U (by decide) rfl U (.raw U U .nil) (.same U)))
         ·refine zs b44 U ?_
          iterate 4 refine zs b44 rfl ?_
          refine zf b44 U ?_
          exact AE (M39 false (Sh.AA h3).symm _ (AU [0] U (by decide) rfl U (.raw U U .nil) (.same U)))
        ·refine zs b43 U ?_
         iterate 4 refine zs b43 rfl ?_
         refine zf b43 U (zq tb U ?_)
         iterate 5 refine zs rfl rfl ?_
         refine zf U U ?_
         exact AE (M39 false (Sh.AA h3).symm _ (AU [0] U (by decide) rfl U (.raw U U .nil) (.same U)))
       ·refine zs b42 U ?_
        iterate 3 refine zs b42 rfl ?_
        refine zf b42 U (zq tb U ?_)
        iterate 5 refine zs rfl rfl ?_
        refine zf U U (zq tb U ?_)
        iterate 5 refine zs rfl rfl ?_
        refine zf U U ?_
        exact AE (M39 false (Sh.AA h3).symm _ (AU [0] U (by decide) rfl U (.raw U U .nil) (.same U)))
      ·exact Ao (M30 () (Sh.AA h2).symm _ (Ai _ U))
     refine AP (Ak (σ:=Int) (fun n v=>Cm N c16 p0 n v=some o26) (fun t25=>⟨106,AL [(0,(ls AT p0)),(3,(i64 t8)),(4,(.ptr 0 0 0 0)),(12,(ls AT p0)),(13,(i64 (Sh.len p0))),(14,(i64 t8)),(54,(ls BR c16.cons)),(55,(i64 (Sh.len c16.cons))),(56,(i64 t25))],[⟨0,81,3,[(AT c16)]⟩]⟩) N 0 h2 (AH U) (fun _ hv=>by rw[Cm] at hv;cases hv) ?_)
     rintro n t25 h2
     try dsimp only at h2 ⊢
     rw[Cm] at h2
     refine zr tb U U (AB fun K46 hK46=>?_)
     refine ci h2 U ?_ ?_ <;> clear h2 <;> intro b47 h2
     ·refine AG (hK46 _ (AB fun K48 hK48=>AP (sr U fun K49 hK49=>bs h2 fun c50 gc50 h2=>zx Io gc50 U U U (zq tb U (As (m:=1) Ac Lr U U (Ay Ac Jr U U U U U U (show 0+1≤1 by decide) rfl (dn hK49 U (AB fun K51 hK51=>bs h2 fun o53 h3 h2=>?_))))))))
      have M53 :∀(t52:Bool),o53=t52→∀s,Wk 0 s ⟨106,AL [(0,(Bf p0)),(3,(i64 t8)),(4,Am),(12,(Bf p0)),(13,(B0 p0)),(14,(i64 t8)),(54,(ls BR c16.cons)),(55,(XJ c16)),(56,(i64 t25)),(70,(.bool t52))],[(Sp c16)]⟩→K51 s:=by
       intro t52 hq s hw
       subst o53
       try dsimp only at h2
       refine hK51 _ (AM hw ?_)
       refine ci h2 U ?_ ?_ <;> clear h2 <;> intro b54 h2
       ·refine zr tb U U ?_
        obtain rfl:=Sh.AA h2
        try dsimp only[id] at h1
        obtain rfl:=Sh.AA h1
        try dsimp only[id] at h0
        obtain rfl:=Sh.AA h0
        exact AI (xr (Ai [(2,(.bool false))] U))
       ·exact AG (hK48 _ (AF U (zm tb 2 U (AE (xi (Sh.w (t25+1)) h2 (AH U))))))
      refine AF U (zm tb 2 U (zl tb U U (zm tb 2 U ?_)))
      rcases Sh.Ap h3 with ⟨b56,h3⟩ | ⟨b56,h3⟩
      ·refine zs b56 U ?_
       iterate 4 refine zs b56 rfl ?_
       refine zt b56 U ?_
       exact AE (M53 true (Sh.AA h3).symm _ (AU [0] U (by decide) rfl U (.raw U U .nil) (.same U)))
      ·refine zg tb b56 U (zg tb b56 U (zg tb b56 U (bs h3 fun q57 gq57 h3=>zd b56 (hb 99) (JD gq57) rfl U U U (zg tb b56 U (zf b56 U ?_)))))
       exact AE (M53 (!q57) (Sh.AA h3).symm _ (AU [0] U (by decide) rfl U (.raw U U .nil) (.same U)))
     ·exact Ao (M26 () (Sh.AA h2).symm _ (AH U))
   refine AF U (zm tb 3 U (bs h2 fun q58 gq58 h2=>zc (hb 126) (IX gq58) rfl U U (zm tb 2 U ?_)))
   rcases Sh.Ap h2 with ⟨b59,h2⟩ | ⟨b59,h2⟩
   ·refine zs b59 U ?_
    iterate 4 refine zs b59 rfl ?_
    refine zt b59 U (zq tb U ?_)
    iterate 4 refine zs rfl rfl ?_
    refine zt U U (zq tb U ?_)
    iterate 5 refine zs rfl rfl ?_
    iterate 8 refine zn rfl ?_
    exact zs U U (zt U U (AE (M20 true (Sh.AA h2).symm _ (AH U))))
   ·refine zg tb b59 U (zg tb b59 U (zg tb b59 U (bs h2 fun q60 gq60 h2=>zd b59 (hb 126) (IX gq60) rfl U U U (zg tb b59 U (zf b59 U (zq tb U ?_))))))
    rcases Sh.Ap h2 with ⟨b61,h2⟩ | ⟨b61,h2⟩
    ·refine zs b61 U ?_
     iterate 3 refine zs b61 rfl ?_
     refine zt b61 U (zq tb U ?_)
     iterate 5 refine zs rfl rfl ?_
     iterate 8 refine zn rfl ?_
     exact zs U U (zt U U (AE (M20 true (Sh.AA h2).symm _ (AH U))))
    ·refine zg tb b61 U (zg tb b61 U (BH (v:=(XJ c16)) (DT U U b61) rfl (CK O6 U) (zg tb b61 U (zf b61 U (zq tb U ?_)))))
     rcases Sh.Ap h2 with ⟨b62,h2⟩ | ⟨b62,h2⟩
     ·refine zs b62 U ?_
      iterate 4 refine zs b62 rfl ?_
      iterate 8 refine zn rfl ?_
      exact zs b62 U (zt b62 U (AE (M20 true (Sh.AA h2).symm _ (AH U))))
     ·refine zg tb b62 U (zg tb b62 U (BH (v:=(XJ c16)) (DT U U b62) rfl (CK O6 U) (zg tb b62 U (zg tb b62 U ?_))))
      rcases Sh.Ap h2 with ⟨b63,h2⟩ | ⟨b63,h2⟩
      ·refine zg tb b63 U ?_
       iterate 3 refine zg tb b63 rfl ?_
       rcases Sh.Ap h2 with ⟨b64,h2⟩ | ⟨b64,h2⟩
       ·exact zs b64 U (zs b64 U (zs b64 U (BH (v:=(.bool true)) (DT U U b63) rfl (MY U b64 U) (BH (v:=(.bool true)) (DT U U b62) rfl (MY U b63 U) (zf b62 U (AE (M20 true (Sh.AA h2).symm _ (AH U))))))))
       ·exact zg tb b64 U (zg tb b64 U (zg tb b64 U (BH (v:=(.bool (!decide (c16.to=0)))) (DT U U b63) rfl (OS U b64 U) (BH (v:=(.bool (!decide (c16.to=0)))) (DT U U b62) rfl (MY U b63 U) (zf b62 U (AE (M20 (!decide (c16.to=0)) (Sh.AA h2).symm _ (AH U))))))))
      ·refine zs b63 U ?_
       iterate 3 refine zs b63 rfl ?_
       iterate 3 refine zn rfl ?_
       exact zs b63 U (BH (v:=(.bool false)) (DT U U b62) rfl (OS U b63 U) (zf b62 U (AE (M20 false (Sh.AA h2).symm _ (AH U)))))
  ·exact Ao (M9 () (Sh.AA h1).symm _ (AH U))
theorem PU {N:Nat} {p0:(List Ab)} {p1:(List BI)} {r:Bool} (h0:G2 N p0 p1=some r):Aa Tryz.prog 98 [(Bf p0),(ls BQ p1)] [] (fun v st=>v=(.bool r)∧st=[]):=by
 unfold G2 at h0
 refine ai Tryz.func98 U U U U (zr tb U U (AB fun K2 hK2=>AB fun K3 hK3=>bs h0 fun o5 h1 h0=>?_))
 have M5 :∀(t4:Bool),o5=t4→∀s,Wk 0 s ⟨102,AL [(0,(Bf p0)),(1,(ls BQ p1)),(36,(.bool t4))],[]⟩→K3 s:=by
  intro t4 hq s hw
  subst o5
  try dsimp only at h0
  refine hK3 _ (AM hw ?_)
  refine ci h0 U ?_ ?_ <;> clear h0 <;> intro b6 h0
  ·refine zr tb U U ?_
   obtain rfl:=Sh.AA h0
   exact AI (xr (AS (L:=[(4,(.bool false))]) (.same U)))
  ·refine AG (hK2 _ (AB fun K8 hK8=>sr U fun K9 hK9=>zq tb U (zl tb U U (zq tb U (dn hK9 U ?_)))))
   obtain⟨o11,h1,h0⟩:=Sh.A8 h0
   have M11 :∀(_:Unit),o11=Sum.inr ()→∀s,Wk 0 s ⟨102,AL [],[]⟩→K8 s:=by
    intro _ hq s hw
    subst o11
    try dsimp only at h0
    refine hK8 _ (AM hw (zr tb U U ?_))
    obtain rfl:=Sh.AA h0
    exact AI (xr (AS (L:=[(4,(.bool true))]) (.same U)))
   refine AP (Ak (σ:=Int) (fun n v=>C6 N p0 p1 n v=some o11) (fun t10=>⟨102,AL [(0,(ls AT p0)),(37,(ls BQ p1)),(38,(i64 (Sh.len p1))),(39,(i64 t10))],[]⟩) N 0 h1 (AH U) (fun _ hv=>by rw[C6] at hv;cases hv) ?_)
   rintro n t10 h1
   try dsimp only at h1 ⊢
   rw[C6] at h1
   refine zr tb U U (AB fun K14 hK14=>?_)
   refine ci h1 U ?_ ?_ <;> clear h1 <;> intro b15 h1
   ·refine AG (hK14 _ (AB fun K16 hK16=>AP (sr U fun K17 hK17=>bs h1 fun c18 gc18 h1=>zx Lp gc18 U U U (zq tb U (As (m:=0) Ac YG U U (Ay Ac eQ U U U U U U (show 0+3≤3 by decide) rfl (dn hK17 U (AB fun K19 hK19=>AB fun K20 hK20=>?_))))))))
    refine bs h1 fun o22 h2 h1=>?_
    have M22 :∀(t21:Bool),o22=t21→∀s,Wk 0 s ⟨102,AL [(0,(Bf p0)),(6,Am),(37,(ls BQ p1)),(38,(B0 p1)),(39,(i64 t10)),(60,(.bool t21))],[⟨0,116,3,[[(ls eI c18.params),(ls eI c18.E4),(i64 c18.result)]]⟩]⟩→K20 s:=by
     intro t21 hq s hw
     subst o22
     try dsimp only at h1
     refine hK20 _ (AM hw ?_)
     refine ci h1 U ?_ ?_ <;> clear h1 <;> intro b23 h1
     ·refine zr tb U U ?_
      obtain rfl:=Sh.AA h1
      try dsimp only[id] at h0
      obtain rfl:=Sh.AA h0
      exact AI (xr (Ai [(4,(.bool false))] U))
     ·refine AG (hK19 _ (sr U fun K25 hK25=>zm tb 2 U (zl tb U U (zq tb U (dn hK25 U ?_)))))
      obtain⟨o27,h2,h1⟩:=Sh.A8 h1
      have M27 :∀(_:Unit),o27=Sum.inr ()→∀s,Wk 0 s ⟨102,AL [(0,(Bf p0)),(37,(ls BQ p1)),(38,(B0 p1)),(39,(i64 t10))],[]⟩→K16 s:=by
       intro _ hq s hw
       subst o27
       try dsimp only at h1
       exact hK16 _ (AM hw (AF U (zm tb 2 U (AE (xi (Sh.w (t10+1)) h1 (AH U))))))
      refine AP (Ak (σ:=Int) (fun n v=>DC c18 n v=some o27) (fun t26=>⟨102,AL [(0,(ls AT p0)),(6,(.ptr 0 0 0 0)),(37,(ls BQ p1)),(38,(i64 (Sh.len p1))),(39,(i64 t10)),(62,(ls eI c18.E4)),(63,(i64 (Sh.len c18.E4))),(64,(i64 t26))],[⟨0,116,3,[[(ls eI c18.params),(ls eI c18.E4),(i64 c18.result)]]⟩]⟩) N 0 h2 (AH U) (fun _ hv=>by rw[DC] at hv;cases hv) ?_)
      rintro n t26 h2
      try dsimp only at h2 ⊢
      rw[DC] at h2
      refine zr tb U U (AB fun K29 hK29=>?_)
      refine ci h2 U ?_ ?_ <;> clear h2 <;> intro b30 h2
      ·refine AG (hK29 _ (AB fun K31 hK31=>AP (sr U fun K32 hK32=>zq tb U (bs h2 fun c33 gc33 h2=>zx BJ gc33 U U U (zm tb 3 U (dn hK32 U (AB fun K34 hK34=>bs h2 fun o36 h3 h2=>?_)))))))
       have M36 :∀(t35:Bool),o36=t35→∀s,Wk 0 s ⟨102,AL [(0,(Bf p0)),(6,Am),(37,(ls BQ p1)),(38,(B0 p1)),(39,(i64 t10)),(62,(ls eI c18.E4)),(63,(i64 (Sh.len c18.E4))),(64,(i64 t26)),(99,(.bool t35))],[⟨0,116,3,[[(ls eI c18.params),(ls eI c18.E4),(i64 c18.result)]]⟩]⟩→K34 s:=by
        intro t35 hq s hw
        subst o36
        try dsimp only at h2
        refine hK34 _ (AM hw ?_)
        refine ci h2 U ?_ ?_ <;> clear h2 <;> intro b37 h2
        ·refine zr tb U U ?_
         obtain rfl:=Sh.AA h2
         try dsimp only[id] at h1
         obtain rfl:=Sh.AA h1
         try dsimp only[id] at h0
         obtain rfl:=Sh.AA h0
         exact AI (xr (Ai [(4,(.bool false))] U))
        ·exact AG (hK31 _ (AF U (zm tb 2 U (AE (xi (Sh.w (t26+1)) h2 (AH U))))))
       refine AF U (zm tb 3 U ?_)
       rcases Sh.Ap h3 with ⟨b39,h3⟩ | ⟨b39,h3⟩
       ·refine zs b39 U ?_
        iterate 4 refine zs b39 rfl ?_
        refine zt b39 U (zq tb U ?_)
        iterate 6 refine zs rfl rfl ?_
        refine zt U U (zq tb U ?_)
        iterate 3 refine zs rfl rfl ?_
        iterate 8 refine zn rfl ?_
        exact zs U U (zt U U (AE (M36 true (Sh.AA h3).symm _ (AH U))))
       ·refine zg tb b39 U (zg tb b39 U (zg tb b39 U (BH (v:=(i64 (Sh.len c18.params))) (DT U U b39) rfl (CK Fp U) (zg tb b39 U (zf b39 U (zq tb U ?_))))))
        rcases Sh.Ap h3 with ⟨b40,h3⟩ | ⟨b40,h3⟩
        ·refine zs b40 U ?_
         iterate 5 refine zs b40 rfl ?_
         refine zt b40 U (zq tb U ?_)
         iterate 3 refine zs rfl rfl ?_
         iterate 8 refine zn rfl ?_
         exact zs U U (zt U U (AE (M36 true (Sh.AA h3).symm _ (AH U))))
        ·refine zg tb b40 U (zg tb b40 U (zg tb b40 U (bs h3 fun c41 gc41 h3=>BH (v:=(.Bd (eI c41) 0)) (DT U U b40) rfl (FC BJ U U gc41 U) (zg tb b40 U (zg tb b40 U (zf b40 U (zq tb U ?_)))))))
         rcases Sh.Ap h3 with ⟨b42,h3⟩ | ⟨b42,h3⟩
         ·refine zs b42 U (zs b42 U (zs b42 U ?_))
          iterate 8 refine zn rfl ?_
          exact zs b42 U (zt b42 U (AE (M36 true (Sh.AA h3).symm _ (AH U))))
         ·refine zg tb b42 U (zg tb b42 U (zg tb b42 U ?_))
          rcases Sh.Ap h3 with ⟨b43,h3⟩ | ⟨b43,h3⟩
          ·refine zg tb b43 U ?_
           iterate 4 refine zg tb b43 rfl ?_
           exact bs h3 fun c44 gc44 h3=>BH (v:=(.Bd (eI c44) 0)) (DT U U b43) rfl (FC BJ U U gc44 U) (zg tb b43 U (zg tb b43 U (BH (v:=(.bool (decide (c33≤c44)))) (DT U U b42) rfl (MY U b43 U) (zf b42 U (AE (M36 (decide (c33≤c44)) (Sh.AA h3).symm _ (AH U)))))))
          ·refine zs b43 U ?_
           iterate 7 refine zs b43 rfl ?_
           exact BH (v:=(.bool false)) (DT U U b42) rfl (OS U b43 U) (zf b42 U (AE (M36 false (Sh.AA h3).symm _ (AH U))))
      ·exact Ao (M27 () (Sh.AA h2).symm _ (Ai _ U))
    refine AF U (zm tb 2 U (zl tb U U (zm tb 2 U ?_)))
    rcases Sh.Ap h2 with ⟨b45,h2⟩ | ⟨b45,h2⟩
    ·refine zs b45 U ?_
     iterate 4 refine zs b45 rfl ?_
     refine zt b45 U (zq tb U ?_)
     iterate 5 refine zs rfl rfl ?_
     exact zt U U (AE (M22 true (Sh.AA h2).symm _ (AH U)))
    ·refine zg tb b45 U (zg tb b45 U (zg tb b45 U (bs h2 fun q46 gq46 h2=>zd b45 (hb 99) (JD gq46) rfl U U U (zg tb b45 U (zf b45 U (zq tb U ?_))))))
     rcases Sh.Ap h2 with ⟨b47,h2⟩ | ⟨b47,h2⟩
     ·refine zs b47 U ?_
      iterate 4 refine zs b47 rfl ?_
      exact zt b47 U (AE (M22 true (Sh.AA h2).symm _ (AH U)))
     ·exact zg tb b47 U (zg tb b47 U (zg tb b47 U (bs h2 fun q48 gq48 h2=>zd b47 (hb 126) (IX gq48) rfl U U U (zg tb b47 U (zf b47 U (AE (M22 (!q48) (Sh.AA h2).symm _ (AH U))))))))
   ·exact Ao (M11 () (Sh.AA h1).symm _ (AH U))
 refine AF U (zq tb U (bs h1 fun q49 gq49 h1=>zc (hb 125) (Og gq49) rfl U U (zm tb 2 U ?_)))
 rcases Sh.Ap h1 with ⟨b50,h1⟩ | ⟨b50,h1⟩
 ·refine zs b50 U (zs b50 U (zs b50 U (zt b50 U (zq tb U ?_))))
  iterate 3 refine zs rfl rfl ?_
  refine zt U U (zq tb U ?_)
  iterate 6 refine zs rfl rfl ?_
  refine zt U U (zq tb U ?_)
  iterate 5 refine zs rfl rfl ?_
  exact zt U U (AE (M5 true (Sh.AA h1).symm _ (AH U)))
 ·refine zg tb b50 U (BH (v:=(B0 p1)) (DT U U b50) rfl (CK Y6 U) (zg tb b50 U (zf b50 U (zq tb U ?_))))
  rcases Sh.Ap h1 with ⟨b51,h1⟩ | ⟨b51,h1⟩
  ·refine zs b51 U (zs b51 U (zs b51 U (zt b51 U (zq tb U ?_))))
   iterate 6 refine zs rfl rfl ?_
   refine zt U U (zq tb U ?_)
   iterate 5 refine zs rfl rfl ?_
   exact zt U U (AE (M5 true (Sh.AA h1).symm _ (AH U)))
  ·refine zg tb b51 U (BH (v:=(B0 p1)) (DT U U b51) rfl (CK Y6 U) (zg tb b51 U (zf b51 U (zq tb U ?_))))
   rcases Sh.Ap h1 with ⟨b52,h1⟩ | ⟨b52,h1⟩
   ·refine zs b52 U ?_
    iterate 5 refine zs b52 rfl ?_
    refine zt b52 U (zq tb U ?_)
    iterate 5 refine zs rfl rfl ?_
    exact zt U U (AE (M5 true (Sh.AA h1).symm _ (AH U)))
   ·refine zg tb b52 U (bs h1 fun c53 gc53 h1=>BH (v:=(.Bd (BQ c53) 0)) (DT U U b52) rfl (FC Lp U U gc53 U) (zg tb b52 U (zg tb b52 U (BH (v:=(i64 (Sh.len c53.params))) (DT U U b52) rfl (CK Fp U) (zg tb b52 U (zf b52 U (zq tb U ?_)))))))
    rcases Sh.Ap h1 with ⟨b54,h1⟩ | ⟨b54,h1⟩
    ·refine zs b54 U ?_
     iterate 4 refine zs b54 rfl ?_
     exact zt b54 U (AE (M5 true (Sh.AA h1).symm _ (AH U)))
    ·refine zg tb b54 U (BH (v:=(.Bd (BQ c53) 0)) (DT U U b54) rfl (FC Lp U U gc53 U) ?_)
     iterate 3 refine zg tb b54 rfl ?_
     exact zf b54 U (AE (M5 (!decide (c53.result=0)) (Sh.AA h1).symm _ (AH U)))
theorem Kr {N:Nat} {p0:AN} {r:Bool} (h0:GB N p0=some r):Aa Tryz.prog 53 [(HH p0)] [] (fun v st=>v=(.bool r)∧st=[]):=by
 unfold GB at h0
 refine ai Tryz.func53 U U U U (sr U fun K1 hK1=>A7 (m:=0) Ac U U U U U (zq tb U (dn hK1 U (sr U fun K2 hK2=>Zj (c:=4) (m:=1) (st':=[(Je p0.decls p0.funcs),(ro 0 116 3 BQ ([]:List BI))]) Lp U U U U U (zq tb U (dn hK2 U (AB fun K3 hK3=>sr U fun K4 hK4=>zm tb 2 U ?_)))))))
 refine zl tb U U (zq tb U (dn hK4 U ?_))
 refine ci h0 U ?_ ?_ <;> clear h0 <;> intro b5 h0
 ·refine zr tb U U ?_
  obtain rfl:=Sh.AA h0
  exact AI (xr (Ai [(2,(.bool false))] U))
 ·refine AG (hK3 _ (AB fun K7 hK7=>sr U fun K8 hK8=>zm tb 2 U (zl tb U U (zq tb U (dn hK8 U (bs h0 fun o12 h1 h0=>?_))))))
  have M12 :∀(l11:(List BI)),o12=l11→∀s,Wk 0 s ⟨31,AL [(1,Am),(3,(ow 1 0 l11))],[(Je p0.decls p0.funcs),(ro 0 116 3 BQ l11)]⟩→K7 s:=by
   intro l11 hq s hw
   subst o12
   try dsimp only at h0
   refine hK7 _ (AM hw (sr U fun K13 hK13=>zm tb 3 U (Af (Wk.DN (L:=[(28,(ls AT p0.decls)),(29,(ls BQ l11))]) (st':=[(Je p0.decls p0.funcs),⟨1,116,3,[]⟩]) (id:=1) rfl (show 0≤1 by decide) (AJ fun _=>U) ⟨.rfl,(.DN U),trivial⟩ U) (bs h0 fun q14 gq14 h0=>zc (hb 98) (PU gq14) rfl U U (zq tb U (dn hK13 U ?_))))))
   obtain rfl:=Sh.AA h0
   exact AI (xr (Ai [(2,(.bool q14))] U))
  refine AP (Ak (σ:=Int×(List BI)) (fun n v=>Cf p0 n v.1 v.2=some o12) (fun (t9,l10)=>⟨31,AL [(1,(.ptr 0 0 0 0)),(3,(ow 1 0 l10)),(12,(ls Ar p0.funcs)),(13,(i64 (Sh.len p0.funcs))),(14,(i64 t9))],[(Je p0.decls p0.funcs),(ro 0 116 3 BQ l10)]⟩) N (0,[]) h1 (AH U) (fun _ hv=>by rw[Cf] at hv;cases hv) ?_)
  rintro n ⟨t9,l10⟩ h1
  try dsimp only at h1 ⊢
  rw[Cf] at h1
  refine zr tb U U (AB fun K16 hK16=>?_)
  refine ci h1 U ?_ ?_ <;> clear h1 <;> intro b17 h1
  ·refine AG (hK16 _ (AB fun K18 hK18=>AP (sr U fun K19 hK19=>bs h1 fun c20 gc20 h1=>zx B3 gc20 U U U (zq tb U (As (m:=2) Ac N5 U U (Ay Ac QZ U U U U U U (show 0+5≤5 by decide) rfl (dn hK19 U (AF U (zm tb 5 U ?_)))))))))
   refine zz (.agg [(ls eI c20.params),.zc,(i64 c20.result)]) (GA bH bN YG U U) rfl (Af (AS (L:=[(1,Am),(12,(LM p0)),(13,(i64 (Sh.len p0.funcs))),(14,(i64 t9)),(18,(ow 1 0 l10)),(23,(.agg [(ls eI c20.params),VC,(i64 c20.result)]))]) ⟨.rfl,.rfl,.rfl,.rfl,.rfl,(.agg ⟨.rfl,.zc,.rfl,trivial⟩),trivial⟩) ?_)
   refine Bu (m:=3) (l:=([(BI.mk c20.params [] c20.result)])) (enc:=BQ) Ac Lp (by decide) rfl U U U U U ?_
   refine bs h1 fun l21 gl21 h1=>FA (l2:=([(BI.mk c20.params [] c20.result)])) Ac Lp U U U U (IC U U) (fun _=>U) gl21 U (zq tb U (dn hK18 U (AF U (zm tb 2 U ?_))))
   exact AE (xi (Sh.w (t9+1),l21) h1 (by refine Wk.trans (Cy (L:=[(1,Am),(3,(ow 1 0 l21)),(12,(LM p0)),(13,(i64 (Sh.len p0.funcs))),(14,(Ka t9))]) (st':=[(Je p0.decls p0.funcs),(ro 0 116 3 BQ l21),⟨0,48,5,[(T6 c20)]⟩,(ro 0 116 3 BQ ([(BI.mk c20.params [] c20.result)]))]) (.raw U U (.pure (AJ fun _=>U) (.raw U U (.pure (AJ fun _=>U) .nil)))) (.same U)) ?_;exact AU [0,1] U (by decide) rfl U (.raw U U (.pure (AJ fun _=>U) .nil)) (.same U)))
  ·exact Ao (M12 l10 (Sh.AA h1).symm _ (AH U))
theorem NQ {N:Nat} {rec_impl_countNodes:Int→AD→Option (Bool×Int)} (hrec_impl_countNodes :∀{s0_0:Int} {p0:AD} {r:Bool×Int},rec_impl_countNodes s0_0 p0=some r→Aa Tryz.prog 106 [(Bt p0),Am] [(On s0_0)] (fun v st=>v=(.bool r.1)∧st=[(On r.2)])) {s0_0:Int} {p0:AD} {r:Bool×Int} (h0:Gr N rec_impl_countNodes s0_0 p0=some r):Aa Tryz.prog 106 [(Bt p0),Am] [(On s0_0)] (fun v st=>v=(.bool r.1)∧st=[(On r.2)]):=by
 unfold Gr at h0
 refine ai Tryz.func106 U U U U (sr U fun K1 hK1=>A7 (m:=1) Ac U U U U U (zq tb U (dn hK1 U (AB fun K2 hK2=>sr U fun K3 hK3=>zm tb 5 U (Ay Ac Ja U U U U U U (show 0+1≤1 by decide) rfl (dn hK3 U (zr tb U U ?_)))))))
 refine ci h0 U ?_ ?_ <;> clear h0 <;> intro b5 h0
 ·refine zr tb U U ?_
  obtain rfl:=Sh.AA h0
  exact AI (xr (AU (L:=[(4,(.bool false))]) (st':=[⟨0,3,1,[[(Ka s0_0)]]⟩]) [0] U (by decide) rfl U (.raw U U .nil) ⟨.rfl,trivial⟩))
 ·refine AG (hK2 _ (AB fun K7 hK7=>sr U fun K8 hK8=>zm tb 2 U (zl tb U U (zq tb U (dn hK8 U ?_)))))
  obtain⟨o12,h1,h0⟩:=Sh.A8 h0
  have M12 :∀(f11:Int),o12=Sum.inr f11→∀s,Wk 1 s ⟨28,AL [],[(On f11)]⟩→K7 s:=by
   intro f11 hq s hw
   subst o12
   try dsimp only at h0
   refine hK7 _ (AM hw (zr tb U U ?_))
   obtain rfl:=Sh.AA h0
   exact AI (xr (AS (L:=[(4,(.bool true))]) (.same U)))
  refine AP (Ak (σ:=Int×Int) (fun n v=>B9 p0 rec_impl_countNodes n v.1 v.2=some o12) (fun (t9,f10)=>⟨28,AL [(1,(.ptr 0 0 0 0)),(17,(ls A4 p0.kids)),(18,(i64 (Sh.len p0.kids))),(19,(i64 t9))],[(On f10)]⟩) N (0,Sh.w (s0_0+1)) h1 (AU [0] U (by decide) rfl U (.raw U U .nil) (.same U)) (fun _ hv=>by rw[B9] at hv;cases hv) ?_)
  rintro n ⟨t9,f10⟩ h1
  try dsimp only at h1 ⊢
  rw[B9] at h1
  refine zr tb U U (AB fun K15 hK15=>?_)
  refine ci h1 U ?_ ?_ <;> clear h1 <;> intro b16 h1
  ·refine AG (hK15 _ (AB fun K17 hK17=>AP (sr U fun K18 hK18=>bs h1 fun c19 gc19 h1=>zz (Ff c19) (BY Bw U U gc19 (Aw _) rfl) rfl (zq tb U (As (m:=1) Ac Hb U U (Ay Ac Cz U U U U U U (show 0+3≤3 by decide) rfl (dn hK18 U (sr U fun K20 hK20=>zm tb 2 U ?_))))))))
   refine bs h1 fun q21 gq21 h1=>?_
   refine Pd (rows0:=[(On f10)]) (rows1:=[(On q21.2)]) (st':=[(On q21.2),(Py c19.op c19.num c19.kids)]) (v':=(.bool q21.1)) [0] Ac (hb 106) (hrec_impl_countNodes gq21) rfl (by decide) rfl U (.raw U U .nil) rfl U (.raw U U .nil) .nil U U ?_
   refine zq tb U (dn hK20 U ?_)
   refine ci h1 U ?_ ?_ <;> clear h1 <;> intro b22 h1
   ·have b23:q21.1=false:=by simpa using b22
    refine zr tb U U ?_
    obtain rfl:=Sh.AA h1
    try dsimp only[id] at h0
    obtain rfl:=Sh.AA h0
    exact AI (xr (AU (L:=[(4,(.bool false))]) (st':=[(On q21.2)]) [0] U (by decide) rfl U (.raw U U .nil) ⟨.rfl,trivial⟩))
   ·have b25:q21.1=true:=by simpa using b22
    refine AG (hK17 _ (AF U (zm tb 2 U ?_)))
    exact AE (xi (Sh.w (t9+1),q21.2) h1 (AU [0] U (by decide) rfl U (.raw U U .nil) (.same U)))
  ·exact Ao (M12 f10 (Sh.AA h1).symm _ (AH U))

theorem NO {N:Nat} :∀(n:Nat),∀{s0_0:Int} {p0:AD} {r:Bool×Int},Dm N n s0_0 p0=some r→Aa Tryz.prog 106 [(Bt p0),Am] [(On s0_0)] (fun v st=>v=(.bool r.1)∧st=[(On r.2)]):=by
 intro n
 induction n with
 | zero=>intro s0_0 p0 r h0;cases h0
 | succ n ih=>
  intro s0_0 p0 r h0
  rw[Dm] at h0
  exact NQ (fun h=>ih h) h0
theorem Ou {N:Nat} :∀{s0_0:Int} {p0:AD} {r:Bool×Int},Jy N s0_0 p0=some r→Aa Tryz.prog 106 [(Bt p0),Am] [(On s0_0)] (fun v st=>v=(.bool r.1)∧st=[(On r.2)]):=by
 intro s0_0 p0 r h0
 exact NO N h0
theorem MM {N:Nat} {p0:AD} {r:Int} (h0:HM N p0=some r):Aa Tryz.prog 57 [(Bt p0)] [] (fun v st=>v=(i64 r)∧st=[]):=by
 unfold HM at h0
 refine ai Tryz.func57 U U U U (sr U fun K1 hK1=>A7 (m:=0) Ac U U U U U (zq tb U (dn hK1 U (sr U fun K2 hK2=>As (m:=1) Ac fa U U (Ay Ac Ja U U U U U U (show 0+1≤1 by decide) rfl (dn hK2 U (AB fun K3 hK3=>sr U fun K4 hK4=>zq tb U ?_)))))))
 refine bs h0 fun q5 gq5 h0=>?_
 refine Pd (rows0:=[⟨0,3,1,[[(i64 0)]]⟩]) (rows1:=[(On q5.2)]) (st':=[(Py p0.op p0.num p0.kids),(On q5.2)]) (v':=(.bool q5.1)) [1] Ac (hb 106) (Ou gq5) rfl (by decide) rfl U (.raw U U .nil) rfl U (.raw U U .nil) .nil U U ?_
 refine zq tb U (dn hK4 U ?_)
 refine ci h0 U ?_ ?_ <;> clear h0 <;> intro b6 h0
 ·have b7:q5.1=false:=by simpa using b6
  refine zr tb U U ?_
  obtain rfl:=Sh.AA h0
  exact AI (xr (Ai [(2,(i64 (-1)))] U))
 ·have b9:q5.1=true:=by simpa using b6
  refine AG (hK3 _ (zr tb U U ?_))
  obtain rfl:=Sh.AA h0
  exact AI (xr (Ai [(2,(i64 q5.2))] U))
theorem ND {N:Nat} {p0:AN} {r:A1} (h0:I7 N p0=some r):Aa Tryz.prog 100 [(HH p0)] [] (fun v st=>v=(F9 r)∧st=[]):=by
 unfold I7 at h0
 refine EM U (ai Tryz.func100 U U U U (sr U fun K1 hK1=>A7 (m:=0) Ac U U U U U (As (m:=1) Ac YP U U (dn hK1 U (sr U fun K2 hK2=>zm tb 2 U (zz (.agg [(ls AT p0.decls),.zc]) (GA dr eW YP U U) rfl (As (m:=2) Ac YP U U (Ay Ac Yc U U U U U U (show 0+2≤2 by decide) rfl (dn hK2 U ?_)))))))))
 refine AB fun K3 hK3=>sr U fun K4 hK4=>zm tb 2 U (zl tb U U (zq tb U (dn hK4 U (bs h0 fun o8 h1 h0=>?_))))
 have M8 :∀(l7:(List BI)),o8=l7→∀s,Wk 0 s ⟨28,AL [(2,Am),(3,Aq)],[Ym,⟨0,119,2,[[(ls AT p0.decls),(ow 2 0 l7)]]⟩,(ro 0 116 3 BQ l7)]⟩→K3 s:=by
  intro l7 hq s hw
  subst o8
  try dsimp only at h0
  refine hK3 _ (AM hw (sr U fun K9 hK9=>zq tb U (Af (Wk.DN (L:=[(2,Am),(27,(.agg [(ls AT p0.decls),(ls BQ l7)]))]) (st':=[Ym,⟨0,119,2,[[(ls AT p0.decls),(ow 2 0 l7)]]⟩,⟨1,116,3,[]⟩]) (id:=2) rfl (show 0≤2 by decide) (AJ fun _=>U) ⟨.rfl,(.agg ⟨.rfl,(.JA U),trivial⟩),trivial⟩ U) (Ay Ac Yc U U U U U U (show 0+2≤2 by decide) rfl (dn hK9 U ?_)))))
  obtain rfl:=Sh.AA h0
  exact AI (Exists.intro _ (And.intro (Wk.refl _ _) (BM (x:=.tmp 2) (off:=0) (cs:=[(ls AT p0.decls),(ls BQ l7)]) (vs:=[(ls AT p0.decls),(ls BQ l7)]) Yc U U U (show 0+2≤2 by decide) rfl _ U)))
 refine AP (Ak (σ:=Int×(List BI)) (fun n v=>EU p0 n v.1 v.2=some o8) (fun (t5,l6)=>⟨28,AL [(2,(.ptr 0 0 0 0)),(3,(.ptr 1 0 0 0)),(10,(ls Ar p0.funcs)),(11,(i64 (Sh.len p0.funcs))),(12,(i64 t5))],[Ym,⟨0,119,2,[[(ls AT p0.decls),(ow 2 0 l6)]]⟩,(ro 0 116 3 BQ l6)]⟩) N (0,[]) h1 (by refine Wk.trans (G1 (id:=2) (st':=[(Je p0.decls p0.funcs),Ym,⟨0,119,2,[[(ls AT p0.decls),(.own 3 0 (List.length ([]:List BI)))]]⟩,(ro 0 116 3 BQ ([]:List BI))]) (j:=1) rfl U 116 (size':=3) (by decide) rfl U U U) ?_;exact A5 (L:=[(2,(.ptr 0 0 0 0)),(3,(.ptr 1 0 0 0)),(10,(ls Ar p0.funcs)),(11,(i64 (Sh.len p0.funcs))),(12,(i64 0))]) (st':=[Ym,⟨0,119,2,[[(ls AT p0.decls),(.own 2 0 (List.length ([]:List BI)))]]⟩,(ro 0 116 3 BQ ([]:List BI))]) (st1:=[Ym,⟨0,119,2,[[(ls AT p0.decls),(.own 3 0 (List.length ([]:List BI)))]]⟩,(ro 0 116 3 BQ ([]:List BI))]) [1,2,3] U .nil (by decide) rfl U (.raw U U (.raw U U (.pure (AJ fun _=>U) .nil))) (.same U)) (fun _ hv=>by rw[EU] at hv;cases hv) ?_)
 rintro n ⟨t5,l6⟩ h1
 try dsimp only at h1 ⊢
 rw[EU] at h1
 refine zr tb U U (AB fun K11 hK11=>?_)
 refine ci h1 U ?_ ?_ <;> clear h1 <;> intro b12 h1
 ·refine AG (hK11 _ (AB fun K13 hK13=>AP (sr U fun K14 hK14=>bs h1 fun c15 gc15 h1=>zx B3 gc15 U U U (zq tb U (As (m:=3) Ac N5 U U (Ay Ac QZ U U U U U U (show 0+5≤5 by decide) rfl (dn hK14 U (AF U (zm tb 6 U ?_)))))))))
  refine zz (.agg [(ls eI c15.params),.zc,(i64 c15.result)]) (GA bH bN YG U U) rfl (Af (AS (L:=[(2,Am),(3,Aq),(10,(LM p0)),(11,(i64 (Sh.len p0.funcs))),(12,(i64 t5)),(17,(ow 2 0 l6)),(22,(.agg [(ls eI c15.params),VC,(i64 c15.result)]))]) ⟨.rfl,.rfl,.rfl,.rfl,.rfl,.rfl,(.agg ⟨.rfl,.zc,.rfl,trivial⟩),trivial⟩) ?_)
  refine Bu (m:=4) (l:=([(BI.mk c15.params [] c15.result)])) (enc:=BQ) Ac Lp (by decide) rfl U U U U U ?_
  refine bs h1 fun l16 gl16 h1=>FA (l2:=([(BI.mk c15.params [] c15.result)])) Ac Lp U U U U (IC U U) (fun _=>U) gl16 U (zq tb U (Ay Ac dp U U U U U U (show 1+1≤2 by decide) rfl (dn hK13 U (AF U (zm tb 2 U ?_)))))
  exact AE (xi (Sh.w (t5+1),l16) h1 (by refine Wk.trans (Cy (L:=[(2,Am),(3,Aq),(10,(LM p0)),(11,(i64 (Sh.len p0.funcs))),(12,(Ka t5))]) (st':=[Ym,⟨0,119,2,[[(ls AT p0.decls),(ow 2 0 l16)]]⟩,(ro 0 116 3 BQ l16),⟨0,48,5,[(T6 c15)]⟩,(ro 0 116 3 BQ ([(BI.mk c15.params [] c15.result)]))]) (.raw U U (.raw U U (.pure (AJ fun _=>U) (.raw U U (.pure (AJ fun _=>U) .nil))))) (.same U)) ?_;exact AU [0,1,2] U (by decide) rfl U (.raw U U (.raw U U (.pure (AJ fun _=>U) .nil))) (.same U)))
 ·exact Ao (M8 l6 (Sh.AA h1).symm _ (AH U))
theorem Bv {p0:(List Int)} {r:(List Int)} (h0:BW p0=some r):Aa Tryz.prog 102 [(ls eI p0)] [] (fun v st=>v=(ow 0 0 r)∧st=[(BB r)]):=by
 unfold BW at h0
 refine ai Tryz.func102 U U U U (zr tb U U (AB fun K2 hK2=>sr U fun K3 hK3=>zq tb U ?_))
 refine TJ Ac Fp U (fun hn=>?_) ?_
 ·subst hn
  replace h0:some []=some r:=by rw[← h0];first | rfl | simp[Sh.app]
  refine dn hK3 U (FT (b:=true) rfl (fun _=>zr tb U U ?_) (fun q=>nomatch (show true=false from (U:true=true).symm.trans q)))
  obtain rfl:=Sh.AA h0
  exact AI (Exists.intro _ (And.intro (((Fq (t:=2) rfl 3 (size:=1) (by decide)).trans (AS (L:=[(2,Us)]) (.same U))).trans (AS (L:=[(2,Us)]) (.same U))) (And.intro U U)))
 ·refine dn hK3 U (FT (b:=false) rfl (fun q=>nomatch (show false=true from (U:false=false).symm.trans q)) (fun _=>AG (hK2 _ (sr U fun K5 hK5=>?_))))
  refine Bu (m:=0) (l:=([]:List Int)) (enc:=eI) Ac BJ (by decide) rfl U U U U U ?_
  refine zq tb U (bs h0 fun l6 gl6 h0=>FA (l2:=p0) Ac BJ U U U U Nw (fun _=>U) gl6 U (zq tb U (dn hK5 U ?_)))
  obtain rfl:=Sh.AA h0
  exact AI (xr (Cy (L:=[(2,(ow 0 0 l6))]) (st':=[(BB l6)]) (.pure (AJ fun _=>U) .nil) (.same U)))
theorem MH {p1:Int} {r:(List Int)} (h0:FV p1=some r):Aa Tryz.prog 141 [.zc,(i64 p1)] [] (fun v st=>v=(ow 0 0 r)∧st=[(BB r)]):=by
 unfold FV at h0
 refine ai Tryz.func141 U U U U (zr tb U U (AB fun K2 hK2=>zr tb U U ?_))
 refine ci h0 U ?_ ?_ <;> clear h0 <;> intro b4 h0
 ·refine AF U ?_
  cases h0
 ·refine AG (hK2 _ (AB fun K5 hK5=>bs h0 fun o7 h1 h0=>?_))
  have M7 :∀(l6:(List Int)),o7=l6→∀s,Wk 0 s ⟨27,AL [(0,(ow 0 0 l6))],[(BB l6)]⟩→K5 s:=by
   intro l6 hq s hw
   subst o7
   try dsimp only at h0
   refine hK5 _ (AM hw (zr tb U U ?_))
   obtain rfl:=Sh.AA h0
   exact AI (xr (AS (L:=[(4,(ow 0 0 l6))]) (.same U)))
  refine sr U fun K9 hK9=>zm tb 2 U (Xx Fp U (zq tb U (zz (i64 0) (Xn Fp U) rfl (zm tb 3 U (dn hK9 U (zr tb U U ?_))))))
  refine ci h1 U ?_ ?_ <;> clear h1 <;> intro b11 h1
  ·refine AF U (zm tb 2 U (Xx Fp U (dU BJ U U (zq tb U (bs h1 fun l12 gl12 h1=>bF (u:=0) (enc:=eI) (m:=0) (st':=[(BB l12)]) BJ fX U U b11 U gl12 U U (zq tb U (zz (i64 0) (Xn Fp U) rfl (bs h1 fun l13 gl13 h1=>dP Ac BJ U U U U gl13 U (zq tb U ?_)))))))))
   exact AE (M7 l13 (Sh.AA h1).symm _ (Cy (L:=[(0,(ow 0 0 l13))]) (st':=[(BB l13)]) (.pure (AJ fun _=>U) .nil) (.same U)))
  ·exact AG (M7 [] (Sh.AA h1).symm _ ((Fq (t:=0) rfl 3 (size:=1) (by decide)).trans (AS (L:=[(0,Us)]) (.same U))))
theorem E9 {N:Nat} {p0:(List (List Int))} {r:(List Int)} (h0:Et N p0=some r):Aa Tryz.prog 137 [(Gc p0)] [] (fun v st=>v=(ow 0 0 r)∧st=[(BB r)]):=by
 unfold Et at h0
 refine ai Tryz.func137 U U U U ?_
 iterate 2 refine zr tb rfl rfl ?_
 refine AB fun K3 hK3=>sr U fun K4 hK4=>zq tb U (zl tb U U (zq tb U (dn hK4 U (bs h0 fun o8 h1 h0=>?_))))
 have M8 :∀(size7:Int),o8=size7→∀s,Wk 0 s ⟨36,AL [(0,(Gc p0)),(3,(i64 size7))],[]⟩→K3 s:=by
  intro size7 hq s hw
  subst o8
  try dsimp only at h0
  refine hK3 _ (AM hw (sr U fun K9 hK9=>zq tb U (bs h0 fun q10 gq10 h0=>BF (v':=(ow 0 0 q10)) Ac (hb 141) (MH gq10) rfl U ⟨(BZ fun _=>U),trivial⟩ U U (zq tb U (dn hK9 U (AB fun K11 hK11=>sr U fun K12 hK12=>zq tb U (zl tb U U (zq tb U ?_))))))))
  refine dn hK12 U (bs h0 fun o16 h1 h0=>?_)
  have M16 :∀(l15:(List Int)),o16=l15→∀s,Wk 0 s ⟨36,AL [(6,(ow 0 0 l15))],[(BB l15)]⟩→K11 s:=by
   intro l15 hq s hw
   subst o16
   try dsimp only at h0
   refine hK11 _ (AM hw (zr tb U U ?_))
   obtain rfl:=Sh.AA h0
   exact AI (xr (AS (L:=[(2,(ow 0 0 l15))]) (.same U)))
  refine AP (Ak (σ:=Int×(List Int)) (fun n v=>Bm p0 n v.1 v.2=some o16) (fun (t13,l14)=>⟨36,AL [(6,(ow 0 0 l14)),(25,(ls (eS eI) p0)),(26,(i64 (Sh.len p0))),(27,(i64 t13))],[(ro 0 3 1 eI l14)]⟩) N (0,q10) h1 (AH U) (fun _ hv=>by rw[Bm] at hv;cases hv) ?_)
  rintro n ⟨t13,l14⟩ h1
  try dsimp only at h1 ⊢
  rw[Bm] at h1
  refine zr tb U U (AB fun K19 hK19=>?_)
  refine ci h1 U ?_ ?_ <;> clear h1 <;> intro b20 h1
  ·refine AG (hK19 _ (AB fun K21 hK21=>AP (sr U fun K22 hK22=>bs h1 fun c23 gc23 h1=>zx Jn gc23 U U U (zm tb 2 U (dn hK22 U (AF U (zm tb 2 U (bs h1 fun l24 gl24 h1=>FA (l2:=c23) Ac BJ U U U U Nw (fun _=>U) gl24 U ?_))))))))
   exact zq tb U (dn hK21 U (AF U (zm tb 2 U (AE (xi (Sh.w (t13+1),l24) h1 (Cy (L:=[(6,(ow 0 0 l24)),(25,(Gc p0)),(26,(B0 p0)),(27,(Ka t13))]) (st':=[(BB l24)]) (.pure (AJ fun _=>U) .nil) (.same U)))))))
  ·exact Ao (M16 l14 (Sh.AA h1).symm _ (AH U))
 refine AP (Ak (σ:=Int×Int) (fun n v=>Bl p0 n v.1 v.2=some o8) (fun (size5,t6)=>⟨36,AL [(0,(ls (eS eI) p0)),(3,(i64 size5)),(9,(ls (eS eI) p0)),(10,(i64 (Sh.len p0))),(11,(i64 t6))],[]⟩) N (0,0) h1 (AH U) (fun _ hv=>by rw[Bl] at hv;cases hv) ?_)
 rintro n ⟨size5,t6⟩ h1
 try dsimp only at h1 ⊢
 rw[Bl] at h1
 refine zr tb U U (AB fun K26 hK26=>?_)
 refine ci h1 U ?_ ?_ <;> clear h1 <;> intro b27 h1
 ·refine AG (hK26 _ (AB fun K28 hK28=>AP (sr U fun K29 hK29=>bs h1 fun c30 gc30 h1=>zx Jn gc30 U U U (zm tb 2 U (dn hK29 U (sr U fun K31 hK31=>zm tb 2 U (zl tb U U (zm tb 2 U ?_))))))))
  refine dn hK31 U (zr tb U U ?_)
  refine ci h1 U ?_ ?_ <;> clear h1 <;> intro b33 h1
  ·refine AF U ?_
   cases h1
  ·exact AG (hK28 _ (AF U (zm tb 2 U (AE (xi (Sh.w (size5+(Sh.len c30)),Sh.w (t6+1)) h1 (AH U))))))
 ·exact Ao (M8 size5 (Sh.AA h1).symm _ (AH U))
theorem HY {N:Nat} {rec_impl_signatures_typeOf:(List Int)→A1→AD→Option (Int)} (hrec_impl_signatures_typeOf :∀{s0:(List Int)} {p0:A1} {p2:AD} {r:Int},rec_impl_signatures_typeOf s0 p0 p2=some r→Aa Tryz.prog 101 [(F9 p0),(ow 0 0 s0),(Bt p2)] [(BB s0)] (fun v st=>v=(i64 r)∧st=[(BB s0)])) {p0:A1} {p1:(List Int)} {p2:(List AD)} {p3:(List (List Int))} {r:Int} (h0:DL N rec_impl_signatures_typeOf p0 p1 p2 p3=some r):Aa Tryz.prog 127 [(F9 p0),(ls eI p1),(EY p2),(Gc p3)] [] (fun v st=>v=(i64 r)∧st=[]):=by
 unfold DL at h0
 refine ai Tryz.func127 U U U U (sr U fun K1 hK1=>A7 (m:=0) Ac U U U U U (zq tb U (dn hK1 U (zr tb U U (AB fun K3 hK3=>sr U fun K4 hK4=>zq tb U (zl tb U U (zq tb U (dn hK4 U ?_))))))))
 obtain⟨o8,h1,h0⟩:=Sh.A8 h0
 have M8 :∀(result7:Int),o8=Sum.inr result7→∀s,Wk 0 s ⟨44,AL [(9,(i64 result7))],[]⟩→K3 s:=by
  intro result7 hq s hw
  subst o8
  try dsimp only at h0
  refine hK3 _ (AM hw (zr tb U U ?_))
  obtain rfl:=Sh.AA h0
  exact AI (xr (AS (L:=[(8,(i64 result7))]) (.same U)))
 refine AP (Ak (σ:=Int×Int) (fun n v=>BE N p0 p1 p2 p3 rec_impl_signatures_typeOf n v.1 v.2=some o8) (fun (result5,t6)=>⟨44,AL [(1,(ls eI p1)),(3,(ls (eS eI) p3)),(4,(.ptr 0 0 0 0)),(9,(i64 result5)),(13,(ls A4 p2)),(14,(i64 (Sh.len p2))),(15,(i64 t6))],[⟨0,119,2,[(FN p0)]⟩]⟩) N (-1,0) h1 (AH U) (fun _ hv=>by rw[BE] at hv;cases hv) ?_)
 rintro n ⟨result5,t6⟩ h1
 try dsimp only at h1 ⊢
 rw[BE] at h1
 refine zr tb U U (AB fun K11 hK11=>?_)
 refine ci h1 U ?_ ?_ <;> clear h1 <;> intro b12 h1
 ·refine AG (hK11 _ (AB fun K13 hK13=>AP (sr U fun K14 hK14=>zq tb U (bs h1 fun c15 gc15 h1=>zz (Ff c15) (BY Bw U U gc15 (Aw _) rfl) rfl (zq tb U (As (m:=1) Ac Hb U U (zq tb U (Ay Ac Cz U U U U U U (show 0+3≤3 by decide) rfl (dn hK14 U ?_)))))))))
  refine AB fun K16 hK16=>?_
  refine Hh (by kernel_rfl) ?_
  refine bs h1 fun c17 gc17 h1=>bs h1 fun q18 gq18 h1=>bs h1 fun q19 gq19 h1=>Jo fun A20 hA20=>?_
  have A20_0123456789a:A20 0 (bm 11 2047) ⟨44,AL [(1,(ls eI p1)),(3,(Gc p3)),(4,Am),(9,(i64 result5)),(10,(i64 t6)),(12,(i64 q19)),(13,(EY p2)),(14,(B0 p2)),(15,(i64 t6))],[(Er p0)]⟩:=(hA20 _ _ _).2 (by
   refine G0 U (by kernel_rfl) ?_
   refine hK16 _ (AB fun K21 hK21=>AB fun K22 hK22=>bs h1 fun o24 h2 h1=>?_)
   have M24 :∀(t23:Bool),o24=t23→∀s,Wk 0 s ⟨44,AL [(1,(ls eI p1)),(3,(Gc p3)),(4,Am),(12,(i64 q19)),(13,(EY p2)),(14,(B0 p2)),(15,(i64 t6)),(40,(.bool t23))],[(Er p0)]⟩→K22 s:=by
    intro t23 hq s hw
    subst o24
    try dsimp only at h1
    refine hK22 _ (AM hw ?_)
    refine ci h1 U ?_ ?_ <;> clear h1 <;> intro b25 h1
    ·refine zr tb U U ?_
     obtain rfl:=Sh.AA h1
     try dsimp only[id] at h0
     obtain rfl:=Sh.AA h0
     exact AI (xr (Ai [(8,(i64 (-1)))] U))
    ·exact AG (hK21 _ (AF U (zm tb 2 U (dn hK13 U (AF U (zm tb 2 U (AE (xi (q19,Sh.w (t6+1)) h1 (AH U)))))))))
   refine AF U (zm tb 3 U ?_)
   rcases Sh.Ap h2 with ⟨b27,h2⟩ | ⟨b27,h2⟩
   ·refine zs b27 U (zs b27 U (zs b27 U ?_))
    iterate 3 refine zn rfl ?_
    exact zs b27 U (zt b27 U (AE (M24 true (Sh.AA h2).symm _ (AH U))))
   ·refine zg tb b27 U (zg tb b27 U (zg tb b27 U ?_))
    rcases Sh.Ap h2 with ⟨b28,h2⟩ | ⟨b28,h2⟩
    ·exact zg tb b28 U (zg tb b28 U (zg tb b28 U (BH (v:=(.bool (!decide (q19=result5)))) (DT U U b27) rfl (MY U b28 U) (zf b27 U (AE (M24 (!decide (q19=result5)) (Sh.AA h2).symm _ (AH U)))))))
    ·exact zs b28 U (zs b28 U (zs b28 U (BH (v:=(.bool false)) (DT U U b27) rfl (OS U b28 U) (zf b27 U (AE (M24 false (Sh.AA h2).symm _ (AS (L:=[(1,(ls eI p1)),(3,(Gc p3)),(4,Am),(12,(i64 q19)),(13,(EY p2)),(14,(B0 p2)),(15,(i64 t6)),(40,(.bool false))]) (.same U)))))))))
  have A20_0123456789:A20 1 (bm 11 1023) ⟨44,AL [(1,(ls eI p1)),(3,(Gc p3)),(4,Am),(9,(i64 result5)),(10,(i64 t6)),(13,(EY p2)),(14,(B0 p2)),(15,(i64 t6)),(29,(i64 q19))],[(Er p0)]⟩:=(hA20 _ _ _).2 (by
   refine Bq 10 (v:=(i64 q19)) rfl U (by kernel_rfl) (by kernel_rfl) (by kernel_rfl) rfl (MO U) ?_
   exact xt hA20 A20_0123456789a)
  have A20_012345678:A20 2 (bm 11 511) ⟨44,AL [(1,(ls eI p1)),(3,(Gc p3)),(4,Am),(9,(i64 result5)),(10,(i64 t6)),(13,(EY p2)),(14,(B0 p2)),(15,(i64 t6)),(20,(F9 p0)),(27,(ow 1 0 q18)),(28,(Bt c15))],[(Er p0),(BB q18)]⟩:=(hA20 _ _ _).2 (by
   refine xa [9] ⟨?_,trivial⟩
   ·refine xo 9 ?_
    refine Pd (rows0:=[(BB q18)]) (rows1:=[(BB q18)]) (st':=[(Er p0),(BB q18)]) (v':=(i64 q19)) [1] Ac (hb 101) (hrec_impl_signatures_typeOf gq19) rfl (by decide) rfl U (.pure (AJ fun _=>U) .nil) rfl U (.pure (AJ fun _=>U) .nil) .nil U U ?_
    exact C4 hA20 A20_0123456789 (by exact AU [0] U (by decide) rfl U (.raw U U .nil) (.same U)))
  have A20_01234567:A20 3 (bm 11 255) ⟨44,AL [(1,(ls eI p1)),(3,(Gc p3)),(4,Am),(9,(i64 result5)),(10,(i64 t6)),(11,Aq),(13,(EY p2)),(14,(B0 p2)),(15,(i64 t6)),(20,(F9 p0)),(27,(ow 2 0 q18))],[(Er p0),(Py c15.op c15.num c15.kids),(BB q18)]⟩:=(hA20 _ _ _).2 (by
   refine xa [8] ⟨?_,trivial⟩
   ·refine xo 8 ?_
    exact zq tb U (C4 hA20 A20_012345678 (by exact AU [0,2] U (by decide) rfl U (.raw U U (.pure (AJ fun _=>U) .nil)) (.same U))))
  have A20_01234568:A20 3 (bm 11 383) ⟨44,AL [(1,(ls eI p1)),(3,(Gc p3)),(4,Am),(9,(i64 result5)),(10,(i64 t6)),(13,(EY p2)),(14,(B0 p2)),(15,(i64 t6)),(20,(F9 p0)),(26,(ow 1 0 [p1,c17])),(28,(Bt c15))],[(Er p0),(ro 0 46 1 (eS eI) [p1,c17])]⟩:=(hA20 _ _ _).2 (by
   refine xa [7] ⟨?_,trivial⟩
   ·refine xo 7 ?_
    exact Af (Wk.DN (L:=[(1,(ls eI p1)),(3,(Gc p3)),(4,Am),(9,(i64 result5)),(10,(i64 t6)),(13,(EY p2)),(14,(B0 p2)),(15,(i64 t6)),(20,(F9 p0)),(26,(ls (eS eI) [p1,c17])),(28,(Bt c15))]) (st':=[(Er p0),⟨1,46,1,[]⟩]) (id:=1) rfl (show 0≤1 by decide) (AJ fun _=>U) ⟨.rfl,.rfl,.rfl,.rfl,.rfl,.rfl,.rfl,.rfl,.rfl,(.DN U),.rfl,trivial⟩ U) (BF (v':=(ow 2 0 q18)) Ac (hb 137) (E9 gq18) rfl U ⟨(BZ fun _=>U),trivial⟩ U U (C4 hA20 A20_012345678 (by exact AU [0,2] U (by decide) rfl U (.raw U U (.pure (AJ fun _=>U) .nil)) (.same U)))))
  have A20_0123456:A20 4 (bm 11 127) ⟨44,AL [(1,(ls eI p1)),(3,(Gc p3)),(4,Am),(9,(i64 result5)),(10,(i64 t6)),(11,Aq),(13,(EY p2)),(14,(B0 p2)),(15,(i64 t6)),(20,(F9 p0)),(26,(ow 2 0 [p1,c17]))],[(Er p0),(Py c15.op c15.num c15.kids),(ro 0 46 1 (eS eI) [p1,c17])]⟩:=(hA20 _ _ _).2 (by
   refine xa [7,8] ⟨?_,?_,trivial⟩
   ·refine xo 7 ?_
    exact Af (Wk.DN (L:=[(1,(ls eI p1)),(3,(Gc p3)),(4,Am),(9,(i64 result5)),(10,(i64 t6)),(11,Aq),(13,(EY p2)),(14,(B0 p2)),(15,(i64 t6)),(20,(F9 p0)),(26,(ls (eS eI) [p1,c17]))]) (st':=[(Er p0),(Py c15.op c15.num c15.kids),⟨1,46,1,[]⟩]) (id:=2) rfl (show 0≤2 by decide) (AJ fun _=>U) ⟨.rfl,.rfl,.rfl,.rfl,.rfl,.rfl,.rfl,.rfl,.rfl,.rfl,(.DN U),trivial⟩ U) (BF (v':=(ow 3 0 q18)) Ac (hb 137) (E9 gq18) rfl U ⟨(BZ fun _=>U),trivial⟩ U U (C4 hA20 A20_01234567 (by exact AU [0,1,3] U (by decide) rfl U (.raw U U (.raw U U (.pure (AJ fun _=>U) .nil))) (.same U))))
   ·refine xo 8 ?_
    exact zq tb U (C4 hA20 A20_01234568 (by exact AU [0,2] U (by decide) rfl U (.raw U U (.pure (AJ fun _=>U) .nil)) (.same U))))
  have A20_0123458:A20 4 (bm 11 319) ⟨44,AL [(1,(ls eI p1)),(3,(Gc p3)),(4,Am),(9,(i64 result5)),(10,(i64 t6)),(13,(EY p2)),(14,(B0 p2)),(15,(i64 t6)),(20,(F9 p0)),(21,(ls eI p1)),(25,(ls eI c17)),(28,(Bt c15))],[(Er p0)]⟩:=(hA20 _ _ _).2 (by
   refine xa [6] ⟨?_,trivial⟩
   ·refine xo 6 ?_
    refine Bu (m:=1) (l:=[p1,c17]) (enc:=(eS eI)) Ac Jn (by decide) rfl U U U U U ?_
    exact xd hA20 A20_01234568)
  have A20_012345:A20 5 (bm 11 63) ⟨44,AL [(1,(ls eI p1)),(3,(Gc p3)),(4,Am),(9,(i64 result5)),(10,(i64 t6)),(11,Aq),(13,(EY p2)),(14,(B0 p2)),(15,(i64 t6)),(20,(F9 p0)),(21,(ls eI p1)),(25,(ls eI c17))],(Wi p0 c15)⟩:=(hA20 _ _ _).2 (by
   refine xa [6,8] ⟨?_,?_,trivial⟩
   ·refine xo 6 ?_
    refine Bu (m:=2) (l:=[p1,c17]) (enc:=(eS eI)) Ac Jn (by decide) rfl U U U U U ?_
    exact xd hA20 A20_0123456
   ·refine xo 8 ?_
    exact zq tb U (C4 hA20 A20_0123458 (by exact AU [0] U (by decide) rfl U (.raw U U .nil) (.same U))))
  have A20_012348:A20 5 (bm 11 287) ⟨44,AL [(1,(ls eI p1)),(3,(Gc p3)),(4,Am),(9,(i64 result5)),(10,(i64 t6)),(13,(EY p2)),(14,(B0 p2)),(15,(i64 t6)),(20,(F9 p0)),(21,(ls eI p1)),(24,(.Bd ((eS eI) c17) 0)),(28,(Bt c15))],[(Er p0)]⟩:=(hA20 _ _ _).2 (by
   refine xa [5] ⟨?_,trivial⟩
   ·exact xq tb hA20 A20_0123458)
  have A20_01234:A20 6 (bm 11 31) ⟨44,AL [(1,(ls eI p1)),(3,(Gc p3)),(4,Am),(9,(i64 result5)),(10,(i64 t6)),(11,Aq),(13,(EY p2)),(14,(B0 p2)),(15,(i64 t6)),(20,(F9 p0)),(21,(ls eI p1)),(24,(.Bd ((eS eI) c17) 0))],(Wi p0 c15)⟩:=(hA20 _ _ _).2 (by
   refine xa [5,8] ⟨?_,?_,trivial⟩
   ·exact xq tb hA20 A20_012345
   ·refine xo 8 ?_
    exact zq tb U (C4 hA20 A20_012348 (by exact AU [0] U (by decide) rfl U (.raw U U .nil) (.same U))))
  have A20_01238:A20 6 (bm 11 271) ⟨44,AL [(1,(ls eI p1)),(3,(Gc p3)),(4,Am),(9,(i64 result5)),(10,(i64 t6)),(13,(EY p2)),(14,(B0 p2)),(15,(i64 t6)),(20,(F9 p0)),(21,(ls eI p1)),(22,(Gc p3)),(23,(i64 t6)),(28,(Bt c15))],[(Er p0)]⟩:=(hA20 _ _ _).2 (by
   refine xa [4] ⟨?_,trivial⟩
   ·refine xo 4 ?_
    exact zx Jn gc17 U U U (xd hA20 A20_012348))
  have A20_0123:A20 7 (bm 11 15) ⟨44,AL [(1,(ls eI p1)),(3,(Gc p3)),(4,Am),(9,(i64 result5)),(10,(i64 t6)),(11,Aq),(13,(EY p2)),(14,(B0 p2)),(15,(i64 t6)),(20,(F9 p0)),(21,(ls eI p1)),(22,(Gc p3)),(23,(i64 t6))],(Wi p0 c15)⟩:=(hA20 _ _ _).2 (by
   refine xa [4,8] ⟨?_,?_,trivial⟩
   ·refine xo 4 ?_
    exact zx Jn gc17 U U U (xd hA20 A20_01234)
   ·refine xo 8 ?_
    exact zq tb U (C4 hA20 A20_01238 (by exact AU [0] U (by decide) rfl U (.raw U U .nil) (.same U))))
  have A20_12345678:A20 3 (bm 11 510) ⟨44,AL [(1,(ls eI p1)),(3,(Gc p3)),(4,Am),(9,(i64 result5)),(10,(i64 t6)),(13,(EY p2)),(14,(B0 p2)),(15,(i64 t6)),(27,(ow 1 0 q18)),(28,(Bt c15))],[(Er p0),(BB q18)]⟩:=(hA20 _ _ _).2 (by
   refine xa [0] ⟨?_,trivial⟩
   ·exact xq tb hA20 A20_012345678)
  have A20_1234567:A20 4 (bm 11 254) ⟨44,AL [(1,(ls eI p1)),(3,(Gc p3)),(4,Am),(9,(i64 result5)),(10,(i64 t6)),(11,Aq),(13,(EY p2)),(14,(B0 p2)),(15,(i64 t6)),(27,(ow 2 0 q18))],[(Er p0),(Py c15.op c15.num c15.kids),(BB q18)]⟩:=(hA20 _ _ _).2 (by
   refine xa [0,8] ⟨?_,?_,trivial⟩
   ·exact xq tb hA20 A20_01234567
   ·refine xo 8 ?_
    exact zq tb U (C4 hA20 A20_12345678 (by exact AU [0,2] U (by decide) rfl U (.raw U U (.pure (AJ fun _=>U) .nil)) (.same U))))
  have A20_1234568:A20 4 (bm 11 382) ⟨44,AL [(1,(ls eI p1)),(3,(Gc p3)),(4,Am),(9,(i64 result5)),(10,(i64 t6)),(13,(EY p2)),(14,(B0 p2)),(15,(i64 t6)),(26,(ow 1 0 [p1,c17])),(28,(Bt c15))],[(Er p0),(ro 0 46 1 (eS eI) [p1,c17])]⟩:=(hA20 _ _ _).2 (by
   refine xa [0,7] ⟨?_,?_,trivial⟩
   ·exact xq tb hA20 A20_01234568
   ·refine xo 7 ?_
    exact Af (Wk.DN (L:=[(1,(ls eI p1)),(3,(Gc p3)),(4,Am),(9,(i64 result5)),(10,(i64 t6)),(13,(EY p2)),(14,(B0 p2)),(15,(i64 t6)),(26,(ls (eS eI) [p1,c17])),(28,(Bt c15))]) (st':=[(Er p0),⟨1,46,1,[]⟩]) (id:=1) rfl (show 0≤1 by decide) (AJ fun _=>U) ⟨.rfl,.rfl,.rfl,.rfl,.rfl,.rfl,.rfl,.rfl,(.DN U),.rfl,trivial⟩ U) (BF (v':=(ow 2 0 q18)) Ac (hb 137) (E9 gq18) rfl U ⟨(BZ fun _=>U),trivial⟩ U U (C4 hA20 A20_12345678 (by exact AU [0,2] U (by decide) rfl U (.raw U U (.pure (AJ fun _=>U) .nil)) (.same U)))))
  have A20_123456:A20 5 (bm 11 126) ⟨44,AL [(1,(ls eI p1)),(3,(Gc p3)),(4,Am),(9,(i64 result5)),(10,(i64 t6)),(11,Aq),(13,(EY p2)),(14,(B0 p2)),(15,(i64 t6)),(26,(ow 2 0 [p1,c17]))],[(Er p0),(Py c15.op c15.num c15.kids),(ro 0 46 1 (eS eI) [p1,c17])]⟩:=(hA20 _ _ _).2 (by
   refine xa [0,7,8] ⟨?_,?_,?_,trivial⟩
   ·exact xq tb hA20 A20_0123456
   ·refine xo 7 ?_
    exact Af (Wk.DN (L:=[(1,(ls eI p1)),(3,(Gc p3)),(4,Am),(9,(i64 result5)),(10,(i64 t6)),(11,Aq),(13,(EY p2)),(14,(B0 p2)),(15,(i64 t6)),(26,(ls (eS eI) [p1,c17]))]) (st':=[(Er p0),(Py c15.op c15.num c15.kids),⟨1,46,1,[]⟩]) (id:=2) rfl (show 0≤2 by decide) (AJ fun _=>U) ⟨.rfl,.rfl,.rfl,.rfl,.rfl,.rfl,.rfl,.rfl,.rfl,(.DN U),trivial⟩ U) (BF (v':=(ow 3 0 q18)) Ac (hb 137) (E9 gq18) rfl U ⟨(BZ fun _=>U),trivial⟩ U U (C4 hA20 A20_1234567 (by exact AU [0,1,3] U (by decide) rfl U (.raw U U (.raw U U (.pure (AJ fun _=>U) .nil))) (.same U))))
   ·refine xo 8 ?_
    exact zq tb U (C4 hA20 A20_1234568 (by exact AU [0,2] U (by decide) rfl U (.raw U U (.pure (AJ fun _=>U) .nil)) (.same U))))
  have A20_123458:A20 5 (bm 11 318) ⟨44,AL [(1,(ls eI p1)),(3,(Gc p3)),(4,Am),(9,(i64 result5)),(10,(i64 t6)),(13,(EY p2)),(14,(B0 p2)),(15,(i64 t6)),(21,(ls eI p1)),(25,(ls eI c17)),(28,(Bt c15))],[(Er p0)]⟩:=(hA20 _ _ _).2 (by
   refine xa [0,6] ⟨?_,?_,trivial⟩
   ·exact xq tb hA20 A20_0123458
   ·refine xo 6 ?_
    refine Bu (m:=1) (l:=[p1,c17]) (enc:=(eS eI)) Ac Jn (by decide) rfl U U U U U ?_
    exact xd hA20 A20_1234568)
  have A20_12345:A20 6 (bm 11 62) ⟨44,AL [(1,(ls eI p1)),(3,(Gc p3)),(4,Am),(9,(i64 result5)),(10,(i64 t6)),(11,Aq),(13,(EY p2)),(14,(B0 p2)),(15,(i64 t6)),(21,(ls eI p1)),(25,(ls eI c17))],(Wi p0 c15)⟩:=(hA20 _ _ _).2 (by
   refine xa [0,6,8] ⟨?_,?_,?_,trivial⟩
   ·exact xq tb hA20 A20_012345
   ·refine xo 6 ?_
    refine Bu (m:=2) (l:=[p1,c17]) (enc:=(eS eI)) Ac Jn (by decide) rfl U U U U U ?_
    exact xd hA20 A20_123456
   ·refine xo 8 ?_
    exact zq tb U (C4 hA20 A20_123458 (by exact AU [0] U (by decide) rfl U (.raw U U .nil) (.same U))))
  have A20_12348:A20 6 (bm 11 286) ⟨44,AL [(1,(ls eI p1)),(3,(Gc p3)),(4,Am),(9,(i64 result5)),(10,(i64 t6)),(13,(EY p2)),(14,(B0 p2)),(15,(i64 t6)),(21,(ls eI p1)),(24,(.Bd ((eS eI) c17) 0)),(28,(Bt c15))],[(Er p0)]⟩:=(hA20 _ _ _).2 (by
   refine xa [0,5] ⟨?_,?_,trivial⟩
   ·exact xq tb hA20 A20_012348
   ·exact xq tb hA20 A20_123458)
  have A20_1234:A20 7 (bm 11 30) ⟨44,AL [(1,(ls eI p1)),(3,(Gc p3)),(4,Am),(9,(i64 result5)),(10,(i64 t6)),(11,Aq),(13,(EY p2)),(14,(B0 p2)),(15,(i64 t6)),(21,(ls eI p1)),(24,(.Bd ((eS eI) c17) 0))],(Wi p0 c15)⟩:=(hA20 _ _ _).2 (by
   refine xa [0,5,8] ⟨?_,?_,?_,trivial⟩
   ·exact xq tb hA20 A20_01234
   ·exact xq tb hA20 A20_12345
   ·refine xo 8 ?_
    exact zq tb U (C4 hA20 A20_12348 (by exact AU [0] U (by decide) rfl U (.raw U U .nil) (.same U))))
  have A20_1238:A20 7 (bm 11 270) ⟨44,AL [(1,(ls eI p1)),(3,(Gc p3)),(4,Am),(9,(i64 result5)),(10,(i64 t6)),(13,(EY p2)),(14,(B0 p2)),(15,(i64 t6)),(21,(ls eI p1)),(22,(Gc p3)),(23,(i64 t6)),(28,(Bt c15))],[(Er p0)]⟩:=(hA20 _ _ _).2 (by
   refine xa [0,4] ⟨?_,?_,trivial⟩
   ·exact xq tb hA20 A20_01238
   ·refine xo 4 ?_
    exact zx Jn gc17 U U U (xd hA20 A20_12348))
  have A20_123:A20 8 (bm 11 14) ⟨44,AL [(1,(ls eI p1)),(3,(Gc p3)),(4,Am),(9,(i64 result5)),(10,(i64 t6)),(11,Aq),(13,(EY p2)),(14,(B0 p2)),(15,(i64 t6)),(21,(ls eI p1)),(22,(Gc p3)),(23,(i64 t6))],(Wi p0 c15)⟩:=(hA20 _ _ _).2 (by
   refine xa [0,4,8] ⟨?_,?_,?_,trivial⟩
   ·exact xq tb hA20 A20_0123
   ·refine xo 4 ?_
    exact zx Jn gc17 U U U (xd hA20 A20_1234)
   ·refine xo 8 ?_
    exact zq tb U (C4 hA20 A20_1238 (by exact AU [0] U (by decide) rfl U (.raw U U .nil) (.same U))))
  have A20_12:A20 9 (bm 11 6) ⟨44,AL [(1,(ls eI p1)),(3,(Gc p3)),(4,Am),(9,(i64 result5)),(10,(i64 t6)),(11,Aq),(13,(EY p2)),(14,(B0 p2)),(15,(i64 t6)),(21,(ls eI p1)),(22,(Gc p3))],(Wi p0 c15)⟩:=(hA20 _ _ _).2 (by
   refine Bq 3 (v:=(i64 t6)) rfl U (by kernel_rfl) (by kernel_rfl) (by kernel_rfl) rfl (CR U) ?_
   exact xt hA20 A20_123)
  have A20_1:A20 10 (bm 11 2) ⟨44,AL [(1,(ls eI p1)),(3,(Gc p3)),(4,Am),(9,(i64 result5)),(10,(i64 t6)),(11,Aq),(13,(EY p2)),(14,(B0 p2)),(15,(i64 t6)),(21,(ls eI p1))],(Wi p0 c15)⟩:=(hA20 _ _ _).2 (by
   refine Bq 2 (v:=(Gc p3)) rfl U (by kernel_rfl) (by kernel_rfl) (by kernel_rfl) rfl (CR U) ?_
   exact xt hA20 A20_12)
  have A20_e:A20 11 (bm 11 0) ⟨44,AL [(1,(ls eI p1)),(3,(Gc p3)),(4,Am),(9,(i64 result5)),(10,(i64 t6)),(11,Aq),(13,(EY p2)),(14,(B0 p2)),(15,(i64 t6))],(Wi p0 c15)⟩:=(hA20 _ _ _).2 (by
   refine Bq 1 (v:=(ls eI p1)) rfl U (by kernel_rfl) (by kernel_rfl) (by kernel_rfl) rfl (CR U) ?_
   exact xt hA20 A20_1)
  refine (hA20 _ _ _).2 ?_
  exact xt hA20 A20_e
 ·exact Ao (M8 result5 (Sh.AA h1).symm _ (Ai _ U))
theorem Qk {N:Nat} {p0:(List Ab)} {r:Int} (h0:Hi N p0=some r):Aa Tryz.prog 113 [(Bf p0)] [] (fun v st=>v=(i64 r)∧st=[]):=by
 unfold Hi at h0
 refine ai Tryz.func113 U U U U ?_
 iterate 2 refine zr tb rfl rfl ?_
 refine AB fun K3 hK3=>sr U fun K4 hK4=>zq tb U (zl tb U U (zq tb U (dn hK4 U (bs h0 fun o8 h1 h0=>?_))))
 have M8 :∀(n7:Int),o8=n7→∀s,Wk 0 s ⟨19,AL [(3,(i64 n7))],[]⟩→K3 s:=by
  intro n7 hq s hw
  subst o8
  try dsimp only at h0
  refine hK3 _ (AM hw (zr tb U U ?_))
  obtain rfl:=Sh.AA h0
  exact AI (xr (AS (L:=[(2,(i64 n7))]) (.same U)))
 refine AP (Ak (σ:=Int×Int) (fun n v=>DV p0 n v.1 v.2=some o8) (fun (n5,t6)=>⟨19,AL [(3,(i64 n5)),(6,(ls AT p0)),(7,(i64 (Sh.len p0))),(8,(i64 t6))],[]⟩) N (0,0) h1 (AH U) (fun _ hv=>by rw[DV] at hv;cases hv) ?_)
 rintro n ⟨n5,t6⟩ h1
 try dsimp only at h1 ⊢
 rw[DV] at h1
 refine zr tb U U (AB fun K11 hK11=>?_)
 refine ci h1 U ?_ ?_ <;> clear h1 <;> intro b12 h1
 ·refine AG (hK11 _ (AB fun K13 hK13=>AP (sr U fun K14 hK14=>bs h1 fun c15 gc15 h1=>zx DO gc15 U U U (zq tb U (As (m:=0) Ac Gm U U (Ay Ac Ji U U U U U U (show 0+3≤3 by decide) rfl (dn hK14 U (AF U (zm tb 3 U ?_)))))))))
  exact zl tb U U (zm tb 2 U (dn hK13 U (AF U (zm tb 2 U (AE (xi (Sh.w (n5+(Sh.len c15.cons)),Sh.w (t6+1)) h1 (Ai _ U)))))))
 ·exact Ao (M8 n5 (Sh.AA h1).symm _ (AH U))
theorem NI {N:Nat} {p0:(List Ab)} {p1:Int} {r:(List Int)} (h0:Gt N p0 p1=some r):Aa Tryz.prog 70 [(Bf p0),(i64 p1)] [] (fun v st=>v=(ow 0 0 r)∧st=[(BB r)]):=by
 unfold Gt at h0
 refine ai Tryz.func70 U U U U (zr tb U U (AB fun K2 hK2=>AB fun K3 hK3=>bs h0 fun o5 h1 h0=>?_))
 have M5 :∀(t4:Bool),o5=t4→∀s,Wk 0 s ⟨39,AL [(0,(Bf p0)),(1,(i64 p1)),(15,(.bool t4))],[]⟩→K3 s:=by
  intro t4 hq s hw
  subst o5
  try dsimp only at h0
  refine hK3 _ (AM hw ?_)
  refine ci h0 U ?_ ?_ <;> clear h0 <;> intro b6 h0
  ·refine zr tb U U ?_
   obtain rfl:=Sh.AA h0
   exact AI (Exists.intro _ (And.intro (((Fq (t:=4) rfl 3 (size:=1) (by decide)).trans (AS (L:=[(4,Us)]) (.same U))).trans (AS (L:=[(4,Us)]) (.same U))) (And.intro U U)))
  ·refine AG (hK2 _ (sr U fun K8 hK8=>zm tb 3 U (bs h0 fun l9 gl9 h0=>WI (i:=0) (j:=Sh.w (p1 - 1)) Ac DO U U U (fun _=>U) gl9 (bs h0 fun q10 gq10 h0=>zc (hb 113) (Qk gq10) rfl U U (zq tb U (dn hK8 U (zr tb U U (AB fun K12 hK12=>sr U fun K13 hK13=>?_))))))))
   refine zm tb 3 U (bs h0 fun c14 gc14 h0=>zx DO gc14 U U U (zm tb 2 U (zl tb U U (zq tb U (dn hK13 U (bs h0 fun o18 h1 h0=>?_))))))
   have M18 :∀(l17:(List Int)),o18=l17→∀s,Wk 0 s ⟨39,AL [(6,(ow 0 0 l17))],[(BB l17)]⟩→K12 s:=by
    intro l17 hq s hw
    subst o18
    try dsimp only at h0
    refine hK12 _ (AM hw (zr tb U U ?_))
    obtain rfl:=Sh.AA h0
    exact AI (xr (AS (L:=[(4,(ow 0 0 l17))]) (.same U)))
   refine AP (Ak (σ:=Int×(List Int)) (fun n v=>ES c14 q10 n v.1 v.2=some o18) (fun (t15,l16)=>⟨39,AL [(5,(i64 q10)),(6,(ow 0 0 l16)),(27,(i64 (Sh.len c14.cons))),(28,(i64 t15))],[(ro 0 3 1 eI l16)]⟩) N (0,[]) h1 ((Fq (t:=6) rfl 3 (size:=1) (by decide)).trans (AS (L:=[(5,(i64 q10)),(6,(.own 0 0 (List.length ([]:List Int)))),(27,(i64 (Sh.len c14.cons))),(28,(i64 0))]) (.same U))) (fun _ hv=>by rw[ES] at hv;cases hv) ?_)
   rintro n ⟨t15,l16⟩ h1
   try dsimp only at h1 ⊢
   rw[ES] at h1
   refine zr tb U U (AB fun K21 hK21=>?_)
   refine ci h1 U ?_ ?_ <;> clear h1 <;> intro b22 h1
   ·refine AG (hK21 _ (AB fun K23 hK23=>AP (zr tb U U (AF U (zm tb 4 U ?_)))))
    refine Bu (m:=1) (l:=[Sh.w (q10+t15)]) (enc:=eI) Ac BJ (by decide) rfl U U U U U ?_
    refine bs h1 fun l25 gl25 h1=>FA (l2:=[Sh.w (q10+t15)]) Ac BJ U U U U (IC U U) (fun _=>U) gl25 U (zq tb U (dn hK23 U (AF U (zm tb 2 U ?_))))
    exact AE (xi (Sh.w (t15+1),l25) h1 (by refine Wk.trans (Cy (L:=[(5,(i64 q10)),(6,(ow 0 0 l25)),(27,(XJ c14)),(28,(Ka t15))]) (st':=[(BB l25),(ro 0 3 1 eI [Sh.w (q10+t15)])]) (.pure (AJ fun _=>U) (.pure (AJ fun _=>U) .nil)) (.same U)) ?_;exact AU [0] U (by decide) rfl U (.pure (AJ fun _=>U) .nil) (.same U)))
   ·exact Ao (M18 l16 (Sh.AA h1).symm _ (AH U))
 refine AF U (zm tb 3 U ?_)
 rcases Sh.Ap h1 with ⟨b26,h1⟩ | ⟨b26,h1⟩
 ·refine zs b26 U ?_
  iterate 3 refine zs b26 rfl ?_
  exact zt b26 U (AE (M5 true (Sh.AA h1).symm _ (AH U)))
 ·exact zg tb b26 U (zg tb b26 U (BH (v:=(B0 p0)) (DT U U b26) rfl (CK Qu U) (zg tb b26 U (zf b26 U (AE (M5 (decide ((Sh.len p0) < p1)) (Sh.AA h1).symm _ (AH U)))))))
theorem Nz {N:Nat} {p0:(List Ab)} {p1:Int} {r:Int×BP} (h0:Gk N p0 p1=some r):Aa Tryz.prog 131 [(Bf p0),(i64 p1)] [] (fun v st=>v=(.DE [(i64 r.1),(.agg (BR r.2))])∧st=[]):=by
 unfold Gk at h0
 refine EM U (ai Tryz.func131 U U U U (sr U fun K1 hK1=>zq tb U (As (m:=0) Ac Lr U U (dn hK1 U (AB fun K2 hK2=>sr U fun K3 hK3=>zq tb U (zl tb U U (zq tb U (dn hK3 U ?_))))))))
 obtain⟨o6,h1,h0⟩:=Sh.A8 h0
 have M6 :∀(_:Unit),o6=Sum.inr ()→∀s,Wk 0 s ⟨38,AL [(5,Am)],[⟨0,111,1,[[.zc]]⟩]⟩→K2 s:=by
  intro _ hq s hw
  subst o6
  try dsimp only at h0
  refine hK2 _ (AM hw (sr U fun K7 hK7=>zz (.agg [.zc]) (GA ak bT Lr U U) rfl (zq tb U (Ay Ac Jr U U U U U U (show 0+1≤1 by decide) rfl (dn hK7 U ?_)))))
  obtain rfl:=Sh.AA h0
  exact AI (Exists.intro _ (And.intro ((GH (id:=0) (cs:=[.zc]) (cs':=[VC]) (st':=[⟨0,111,1,[[VC]]⟩]) rfl ⟨le.zc,trivial⟩ U U).trans (AS (L:=[(4,(i64 (-1))),(5,Am)]) (.same U))) (BM (x:=.tmp 5) (off:=0) (cs:=[VC]) (vs:=[VC]) Jr U U U (show 0+1≤1 by decide) rfl _ U)))
 refine AP (Ak (σ:=Int×Int) (fun n v=>EP p0 n v.1 v.2=some o6) (fun (c4,t5)=>⟨38,AL [(1,(i64 c4)),(5,(.ptr 0 0 0 0)),(8,(ls AT p0)),(9,(i64 (Sh.len p0))),(10,(i64 t5))],[⟨0,111,1,[[.zc]]⟩]⟩) N (p1,0) h1 (AH U) (fun _ hv=>by rw[EP] at hv;cases hv) ?_)
 rintro n ⟨c4,t5⟩ h1
 try dsimp only at h1 ⊢
 rw[EP] at h1
 refine zr tb U U (AB fun K9 hK9=>?_)
 refine ci h1 U ?_ ?_ <;> clear h1 <;> intro b10 h1
 ·refine AG (hK9 _ (AB fun K11 hK11=>AP (sr U fun K12 hK12=>zq tb U (bs h1 fun c13 gc13 h1=>zx DO gc13 U U U (zq tb U (As (m:=1) Ac Gm U U (zq tb U (Ay Ac Ji U U U U U U (show 0+3≤3 by decide) rfl (dn hK12 U ?_)))))))))
  refine AB fun K14 hK14=>AB fun K15 hK15=>bs h1 fun o17 h2 h1=>?_
  have M17 :∀(t16:Bool),o17=t16→∀s,Wk 0 s ⟨38,AL [(1,(i64 c4)),(5,Am),(6,(i64 t5)),(7,Aq),(8,(Bf p0)),(9,(B0 p0)),(10,(i64 t5)),(23,(.bool t16))],[⟨0,111,1,[[.zc]]⟩,(Sp c13)]⟩→K15 s:=by
   intro t16 hq s hw
   subst o17
   try dsimp only at h1
   refine hK15 _ (AM hw ?_)
   refine ci h1 U ?_ ?_ <;> clear h1 <;> intro b18 h1
   ·refine AB fun K19 hK19=>?_
    refine Bi 8 (by kernel_rfl) (by kernel_rfl) (by rfl) ?_
    iterate 5 refine yq tb rfl ?_
    refine bs h1 fun c20 gc20 h1=>yx Io gc20 U U U ?_
    iterate 2 refine yq tb rfl ?_
    refine BL (Ay Ac Jr U U U U U U (show 0+1≤1 by decide) rfl (dn hK19 U ?_))
    obtain rfl:=Sh.AA h1
    try dsimp only[id] at h0
    obtain rfl:=Sh.AA h0
    exact AI (Exists.intro _ (And.intro ((AU (L:=[(4,(Ka t5)),(5,Am)]) (st':=[⟨0,111,1,[(BR c20)]⟩]) [0] U (by decide) rfl U (.raw U U .nil) ⟨.rfl,.rfl,trivial⟩).trans (AS (L:=[(4,(Ka t5)),(5,Am)]) ⟨.rfl,.rfl,trivial⟩)) (BM (x:=.tmp 5) (off:=0) (cs:=(BR c20)) (vs:=(BR c20)) Jr U U U (show 0+1≤1 by decide) rfl _ U)))
   ·refine AG (hK14 _ (AF U (zm tb 3 U (zl tb U U (zm tb 2 U (dn hK11 U (AF U (zm tb 2 U ?_))))))))
    exact AE (xi (Sh.w (c4 - (Sh.len c13.cons)),Sh.w (t5+1)) h1 (AU [0] U (by decide) rfl U (.raw U U .nil) (.same U)))
  refine AF U (zm tb 3 U ?_)
  rcases Sh.Ap h2 with ⟨b21,h2⟩ | ⟨b21,h2⟩
  ·exact zg tb b21 U (zg tb b21 U (zg tb b21 U (BH (v:=(XJ c13)) (DT U U b21) rfl (CK O6 U) (zg tb b21 U (zt b21 U (AE (M17 (decide (c4 < (Sh.len c13.cons))) (Sh.AA h2).symm _ (AH U))))))))
  ·refine zs b21 U ?_
   iterate 4 refine zs b21 rfl ?_
   exact zf b21 U (AE (M17 false (Sh.AA h2).symm _ (AH U)))
 ·exact Ao (M6 () (Sh.AA h1).symm _ (AH U))
theorem Ld {N:Nat} {p0:(List Ab)} {p1:Int} {r:(List Int)} (h0:DK N p0 p1=some r):Aa Tryz.prog 105 [(Bf p0),(i64 p1)] [] (fun v st=>v=(ls eI r)∧st=[]):=by
 unfold DK at h0
 refine ai Tryz.func105 U U U U (zr tb U U (sr U fun K2 hK2=>zm tb 2 U (bs h0 fun q3 gq3 h0=>zc (v':=(.DE [(i64 q3.1),(.agg (BR q3.2))])) (hb 131) (Nz gq3) rfl U U (zm tb 3 U (As (m:=0) Ac Lr U U (zq tb U (Ay Ac Jr U U U U U U (show 0+1≤1 by decide) rfl (dn hK2 U (zr tb U U ?_)))))))))
 obtain rfl:=Sh.AA h0
 exact AI (xr (Ai [(4,(ls eI q3.2.fields))] U))
theorem L5 {p0:(List Ab)} {p1:Int} {r:Ab×Bool} (h0:IH p0 p1=some r):Aa Tryz.prog 138 [(Bf p0),(i64 p1)] [] (fun v st=>v=(RD r.1 r.2)∧st=[]):=by
 unfold IH at h0
 refine EM U (ai Tryz.func138 U U U U (sr U fun K1 hK1=>As (m:=0) Ac Gm U U (zq tb U (dn hK1 U (AB fun K2 hK2=>AB fun K3 hK3=>bs h0 fun o5 h1 h0=>?_)))))
 have M5 :∀(t4:Bool),o5=t4→∀s,Wk 0 s ⟨30,AL [(0,(Bf p0)),(1,(i64 p1)),(4,Am),(23,(.bool t4))],[⟨0,81,3,[[(i64 0),(i64 0),.zc]]⟩]⟩→K3 s:=by
  intro t4 hq s hw
  subst o5
  try dsimp only at h0
  refine hK3 _ (AM hw ?_)
  refine ci h0 U ?_ ?_ <;> clear h0 <;> intro b6 h0
  ·refine sr U fun K7 hK7=>zz (.agg [(i64 0),(i64 0),.zc]) (GA dj de Gm U U) rfl (Ay Ac Ji U U U U U U (show 0+3≤3 by decide) rfl (zq tb U (dn hK7 U ?_)))
   obtain rfl:=Sh.AA h0
   exact AI (Exists.intro _ (And.intro ((GH (id:=0) (cs:=[(i64 0),(i64 0),.zc]) (cs':=cv) (st':=[⟨0,81,3,[cv]⟩]) rfl ⟨le.rfl,le.rfl,le.zc,trivial⟩ U U).trans (AS (L:=[(4,Am),(5,(.bool false))]) (.same U))) (BM (x:=.tmp 4) (off:=0) (cs:=cv) (vs:=cv) Ji U U U (show 0+3≤3 by decide) rfl _ U)))
  ·refine AG (hK2 _ (sr U fun K8 hK8=>zm tb 3 U (bs h0 fun c9 gc9 h0=>zx DO gc9 U U U (zq tb U (Ay Ac Ji U U U U U U (show 0+3≤3 by decide) rfl (zq tb U (dn hK8 U ?_)))))))
   obtain rfl:=Sh.AA h0
   exact AI (Exists.intro _ (And.intro (AS (L:=[(4,Am),(5,(.bool true))]) (.same U)) (BM (x:=.tmp 4) (off:=0) (cs:=(AT c9)) (vs:=(AT c9)) Ji U U U (show 0+3≤3 by decide) rfl _ U)))
 refine AF U (zm tb 3 U ?_)
 rcases Sh.Ap h1 with ⟨b10,h1⟩ | ⟨b10,h1⟩
 ·refine zs b10 U ?_
  iterate 3 refine zs b10 rfl ?_
  refine zt b10 U (zq tb U ?_)
  iterate 8 refine zs rfl rfl ?_
  exact zt U U (AE (M5 true (Sh.AA h1).symm _ (AH U)))
 ·refine zg tb b10 U (zg tb b10 U (BH (v:=(B0 p0)) (DT U U b10) rfl (CK Qu U) (zg tb b10 U (zf b10 U (zq tb U ?_)))))
  rcases Sh.Ap h1 with ⟨b11,h1⟩ | ⟨b11,h1⟩
  ·refine zs b11 U ?_
   iterate 7 refine zs b11 rfl ?_
   exact zt b11 U (AE (M5 true (Sh.AA h1).symm _ (AH U)))
  ·exact zg tb b11 U (zg tb b11 U (zg tb b11 U (bs h1 fun c12 gc12 h1=>BH (v:=(.Bd (AT c12) 0)) (DT U U b11) rfl (FC DO U U gc12 U) (zg tb b11 U (zg tb b11 U (BH (v:=(XJ c12)) (DT U U b11) rfl (CK O6 U) (zg tb b11 U (zf b11 U (AE (M5 (decide (0 < (Sh.len c12.cons))) (Sh.AA h1).symm _ (AH U)))))))))))
theorem FQ {N:Nat} {p0:(List Int)} {p1:(List Int)} {r:Bool} (h0:CC N p0 p1=some r):Aa Tryz.prog 139 [(ls eI p0),(ls eI p1)] [] (fun v st=>v=(.bool r)∧st=[]):=by
 unfold CC at h0
 refine ai Tryz.func139 U U U U (zr tb U U (AB fun K2 hK2=>sr U fun K3 hK3=>zq tb U (zl tb U U (zq tb U (zl tb U U (zq tb U (dn hK3 U ?_)))))))
 refine ci h0 U ?_ ?_ <;> clear h0 <;> intro b4 h0
 ·have b5:decide ((Sh.len p0)=(Sh.len p1))=false:=by simpa using b4
  refine zr tb U U ?_
  obtain rfl:=Sh.AA h0
  exact AI (xr (AS (L:=[(4,(.bool false))]) (.same U)))
 ·have b7:decide ((Sh.len p0)=(Sh.len p1))=true:=by simpa using b4
  refine AG (hK2 _ (AB fun K8 hK8=>sr U fun K9 hK9=>zq tb U (zl tb U U (zq tb U (dn hK9 U ?_)))))
  obtain⟨o11,h1,h0⟩:=Sh.A8 h0
  have M11 :∀(_:Unit),o11=Sum.inr ()→∀s,Wk 0 s ⟨26,AL [],[]⟩→K8 s:=by
   intro _ hq s hw
   subst o11
   try dsimp only at h0
   refine hK8 _ (AM hw (zr tb U U ?_))
   obtain rfl:=Sh.AA h0
   exact AI (xr (AS (L:=[(4,(.bool true))]) (.same U)))
  refine AP (Ak (σ:=Int) (fun n v=>B5 p0 p1 n v=some o11) (fun t10=>⟨26,AL [(0,(ls eI p0)),(1,(ls eI p1)),(12,(i64 (Sh.len p0))),(13,(i64 t10))],[]⟩) N 0 h1 (AH U) (fun _ hv=>by rw[B5] at hv;cases hv) ?_)
  rintro n t10 h1
  try dsimp only at h1 ⊢
  rw[B5] at h1
  refine zr tb U U (AB fun K14 hK14=>?_)
  refine ci h1 U ?_ ?_ <;> clear h1 <;> intro b15 h1
  ·refine AG (hK14 _ (AB fun K16 hK16=>AP (zr tb U U (AB fun K18 hK18=>?_))))
   refine Bk (by kernel_rfl) (by kernel_rfl) (by rfl) ?_
   iterate 2 refine yq tb rfl ?_
   refine bs h1 fun c19 gc19 h1=>yx BJ gc19 U U U ?_
   iterate 3 refine yq tb rfl ?_
   refine bs h1 fun c20 gc20 h1=>yx BJ gc20 U U U ?_
   iterate 2 refine yq tb rfl ?_
   refine BL (hK18 _ ?_)
   refine ci h1 U ?_ ?_ <;> clear h1 <;> intro b21 h1
   ·have b22:decide (c19=c20)=false:=by simpa using b21
    refine zr tb U U ?_
    obtain rfl:=Sh.AA h1
    try dsimp only[id] at h0
    obtain rfl:=Sh.AA h0
    exact AI (xr (AS (L:=[(4,(.bool false))]) (.same U)))
   ·have b24:decide (c19=c20)=true:=by simpa using b21
    exact AG (hK16 _ (AF U (zm tb 2 U (AE (xi (Sh.w (t10+1)) h1 (AH U))))))
  ·exact Ao (M11 () (Sh.AA h1).symm _ (AH U))
theorem RY {N:Nat} {p0:(List Ab)} {p1:Int} {p2:Int} {r:Int} (h0:IE N p0 p1 p2=some r):Aa Tryz.prog 140 [(Bf p0),(i64 p1),(i64 p2)] [] (fun v st=>v=(i64 r)∧st=[]):=by
 unfold IE at h0
 refine ai Tryz.func140 U U U U (zr tb U U (AB fun K2 hK2=>sr U fun K3 hK3=>zq tb U (zl tb U U (zq tb U (dn hK3 U ?_)))))
 obtain⟨o5,h1,h0⟩:=Sh.A8 h0
 have M5 :∀(_:Unit),o5=Sum.inr ()→∀s,Wk 0 s ⟨35,AL [],[]⟩→K2 s:=by
  intro _ hq s hw
  subst o5
  try dsimp only at h0
  refine hK2 _ (AM hw (zr tb U U ?_))
  obtain rfl:=Sh.AA h0
  exact AI (xr (AS (L:=[(6,(i64 (-1)))]) (.same U)))
 refine AP (Ak (σ:=Int) (fun n v=>D4 p0 p1 p2 n v=some o5) (fun t4=>⟨35,AL [(1,(i64 p1)),(2,(i64 p2)),(9,(ls AT p0)),(10,(i64 (Sh.len p0))),(11,(i64 t4))],[]⟩) N 0 h1 (AH U) (fun _ hv=>by rw[D4] at hv;cases hv) ?_)
 rintro n t4 h1
 try dsimp only at h1 ⊢
 rw[D4] at h1
 refine zr tb U U (AB fun K8 hK8=>?_)
 refine ci h1 U ?_ ?_ <;> clear h1 <;> intro b9 h1
 ·refine AG (hK8 _ (AB fun K10 hK10=>AP (sr U fun K11 hK11=>zq tb U (bs h1 fun c12 gc12 h1=>zx DO gc12 U U U (zq tb U (As (m:=0) Ac Gm U U (zq tb U (Ay Ac Ji U U U U U U (show 0+3≤3 by decide) rfl (dn hK11 U ?_)))))))))
  refine AB fun K13 hK13=>bs h1 fun o15 h2 h1=>?_
  have M15 :∀(t14:Bool),o15=t14→∀s,Wk 0 s ⟨35,AL [(1,(i64 p1)),(2,(i64 p2)),(7,(i64 t4)),(9,(Bf p0)),(10,(B0 p0)),(11,(i64 t4)),(31,(.bool t14))],[]⟩→K13 s:=by
   intro t14 hq s hw
   subst o15
   try dsimp only at h1
   refine hK13 _ (AM hw ?_)
   refine ci h1 U ?_ ?_ <;> clear h1 <;> intro b16 h1
   ·refine zr tb U U ?_
    obtain rfl:=Sh.AA h1
    try dsimp only[id] at h0
    obtain rfl:=Sh.AA h0
    exact AI (xr (AS (L:=[(6,(Ka t4))]) (.same U)))
   ·exact AG (hK10 _ (AF U (zm tb 2 U (AE (xi (Sh.w (t4+1)) h1 (AH U))))))
  refine AF U (zm tb 2 U (zl tb U U (zm tb 2 U ?_)))
  rcases Sh.Ap h2 with ⟨b18,h2⟩ | ⟨b18,h2⟩
  ·refine zg tb b18 U ?_
   iterate 3 refine zg tb b18 rfl ?_
   refine zt b18 U (zq tb U ?_)
   rcases Sh.Ap h2 with ⟨b19,h2⟩ | ⟨b19,h2⟩
   ·refine zg tb b19 U ?_
    iterate 3 refine zg tb b19 rfl ?_
    exact zt b19 U (AE (M15 (decide (c12.to=p2)) (Sh.AA h2).symm _ (Ai _ U)))
   ·refine zs b19 U ?_
    iterate 3 refine zs b19 rfl ?_
    exact zf b19 U (AE (M15 false (Sh.AA h2).symm _ (Ai _ U)))
  ·refine zs b18 U ?_
   iterate 3 refine zs b18 rfl ?_
   refine zf b18 U (zq tb U ?_)
   iterate 4 refine zs rfl rfl ?_
   exact zf U U (AE (M15 false (Sh.AA h2).symm _ (Ai _ U)))
 ·exact Ao (M5 () (Sh.AA h1).symm _ (AH U))
end Go.Proofs.YtpahalfiiahddaaGreat

