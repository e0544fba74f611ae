import Derived.Test.YtpahalfiiahddaaProg
import Derived.Test.YtpahalfiiahddaaGAbsXToSSDefs
import Derived.Test.YtpahalfiiahddaaGHADefsToFIDefs
import Derived.Test.YtpahalfiiahddaaAbsQ
namespace Go.Proofs.Ytpahalfiiahddaa
open Go Go.Abs RC
attribute [local irreducible] Go.Abs.Cw
set_option maxRecDepth 100000
set_option maxHeartbeats 4000000

def tb:KO Try.prog where
 t:=[(130,true,1),(28,false,1),(29,false,1),(3,false,1),(31,true,2),(36,false,1),(4,false,1),(40,false,1),(48,false,1),(5,false,1),(50,true,3),(52,true,5),(60,false,1),(78,false,1),(80,true,3),(91,false,1),(93,true,3),(97,true,2)]
 f:=[(130,0,0),(31,0,0),(31,1,1),(50,0,0),(50,1,1),(50,2,2),(52,0,0),(52,1,1),(52,2,2),(80,0,0),(80,1,1),(80,2,2),(88,0,0),(88,1,1),(93,0,0),(93,1,1),(93,2,2),(97,0,0),(97,1,1)]
 v:=[]
 b:=[4]
 s:=[123,28,29,36,40,48,60,78,91]
 ht:=by kernel_rfl
 hf:=by kernel_rfl
 hv:=by kernel_rfl
 hb:=by kernel_rfl
 hs:=by kernel_rfl

noncomputable abbrev BM (z0:List Int) (z1:Int):Go.Abs.Row:=⟨0,88,2,[[(ls Dk z0),(i64 z1)]]⟩
noncomputable abbrev FF:Go.Abs.Row:=⟨0,50,3,[[(i64 0),(i64 0),.zc]]⟩
noncomputable abbrev NN (z0:Int) (z1:Int) (z2:List AP):Go.Abs.Row:=⟨0,50,3,[[(i64 z0),(i64 z1),(ls AD z2)]]⟩
noncomputable abbrev Ra (z0:List Ac) (z1:List Ar):Go.Abs.Row:=⟨0,31,2,[[(ls AI z0),(ls AJ z1)]]⟩
theorem W2:Gt Try.prog 130=true:=by kernel_rfl
theorem U1:Gt Try.prog 50=true:=by kernel_rfl
theorem TI:Gt Try.prog 52=true:=by kernel_rfl
theorem JH:Gt Try.prog 80=true:=by kernel_rfl
theorem Zd:Gt Try.prog 88=true:=by kernel_rfl
theorem W0:Hx Try.prog 130=some [(0,1)]:=by kernel_rfl
theorem VA:Hx Try.prog 50=some [(0,1),(1,1),(2,1)]:=by kernel_rfl
theorem S3:Hx Try.prog 52=some [(0,1),(1,1),(2,3)]:=by kernel_rfl
theorem JN:Hx Try.prog 80=some [(0,1),(1,1),(2,1)]:=by kernel_rfl
theorem Zx:Hx Try.prog 88=some [(0,1),(1,1)]:=by kernel_rfl
theorem UY:Ua Try.prog 5 3=some .i64:=by kernel_rfl
theorem ER:Ct Try.prog 28=some ⟨80,3,40,[.int .i64 0,.int .i64 0,.sl []]⟩:=by kernel_rfl
theorem DD:Ct Try.prog 29=some ⟨52,5,72,[.sl [],.int .i64 0,.int .i64 0,.int .i64 0,.sl []]⟩:=by kernel_rfl
theorem U2:Ct Try.prog 36=some ⟨5,1,1,[.int .u8 0]⟩:=by kernel_rfl
theorem A4:Ct Try.prog 40=some ⟨3,1,8,[.int .i64 0]⟩:=by kernel_rfl
theorem BV:Ct Try.prog 48=some ⟨50,3,40,[.int .i64 0,.int .i64 0,.sl []]⟩:=by kernel_rfl
theorem J9:Ct Try.prog 78=some ⟨130,1,24,[.sl []]⟩:=by kernel_rfl
theorem Sx:Hf Try.prog 31 0=some 0:=by kernel_rfl
theorem Xh:Hf Try.prog 80 0=some 0:=by kernel_rfl
theorem YU:Aq Try.prog 100=true:=by kernel_rfl
theorem Sc:Aq Try.prog 101=true:=by kernel_rfl
theorem WV:Aq Try.prog 102=true:=by kernel_rfl
theorem DB:Aq Try.prog 108=true:=by kernel_rfl
theorem Gw:Aq Try.prog 109=true:=by kernel_rfl
theorem Gv:Aq Try.prog 110=true:=by kernel_rfl
theorem HM:Aq Try.prog 111=true:=by kernel_rfl
theorem HI:Aq Try.prog 125=true:=by kernel_rfl
theorem Ol:Aq Try.prog 127=true:=by kernel_rfl
theorem RE:Aq Try.prog 130=true:=by kernel_rfl
theorem W1:Aq Try.prog 134=true:=by kernel_rfl
theorem YX:Aq Try.prog 135=true:=by kernel_rfl
theorem SN:Aq Try.prog 136=true:=by kernel_rfl
theorem UK:Aq Try.prog 137=true:=by kernel_rfl
theorem Wb:Aq Try.prog 138=true:=by kernel_rfl
theorem LB:Aq Try.prog 23=true:=by kernel_rfl
theorem H5:Aq Try.prog 37=true:=by kernel_rfl
theorem Ur:Aq Try.prog 50=true:=by kernel_rfl
theorem Ez:Aq Try.prog 56=true:=by kernel_rfl
theorem Wv:Aq Try.prog 70=true:=by kernel_rfl
theorem Qb:Aq Try.prog 72=true:=by kernel_rfl
theorem Nh:Aq Try.prog 73=true:=by kernel_rfl
theorem Ul:Aq Try.prog 76=true:=by kernel_rfl
theorem Wx:Aq Try.prog 99=true:=by kernel_rfl
theorem ZX:DG Try.prog 36=true:=by kernel_rfl
theorem Em:DG Try.prog 40=true:=by kernel_rfl
theorem R0:DG Try.prog 78=true:=by kernel_rfl
theorem Kr:EN Try.prog 130=some (true,1):=by kernel_rfl
theorem Uy:EN Try.prog 28=some (false,1):=by kernel_rfl
theorem F6:EN Try.prog 3=some (false,1):=by kernel_rfl
theorem FA:EN Try.prog 31=some (true,2):=by kernel_rfl
theorem Le:EN Try.prog 40=some (false,1):=by kernel_rfl
theorem BN:EN Try.prog 50=some (true,3):=by kernel_rfl
theorem Iy:EN Try.prog 52=some (true,5):=by kernel_rfl
theorem Ht:EN Try.prog 80=some (true,3):=by kernel_rfl
theorem Mx:Gr Try.prog 130=some [.zc]:=by kernel_rfl
theorem EI:Gr Try.prog 50=some [.int .i64 0,.int .i64 0,.zc]:=by kernel_rfl
theorem LD:Gr Try.prog 52=some [.zc,.int .i64 0,.int .i64 0,.int .i64 0,.zc]:=by kernel_rfl
theorem Eh:Gr Try.prog 80=some [.int .i64 0,.int .i64 0,.zc]:=by kernel_rfl
theorem ZZ:Gr Try.prog 88=some [.zc,.int .i64 0]:=by kernel_rfl

theorem NM {p0:(List Int)} {r:(List Int)×Int} (h0:GC p0=some r):Ai Try.prog 35 [(ls Dk p0)] [] (fun v st=>v=(.ptr 0 0 0 0)∧st=[(BM r.1 r.2)]):=by
 unfold GC at h0
 refine ai Try.func35 U U U U (zr tb U U (AH fun K2 hK2=>bs h0 fun o4 h1 h0=>?_))
 have M4 :∀(code3:(List Int)),o4=code3→∀s,Wk 0 s ⟨11,Aa [(0,(ls Dk code3))],[]⟩→K2 s:=by
  intro code3 hq s hw
  subst o4
  try dsimp only at h0
  refine hK2 _ (AN hw (sr U fun K5 hK5=>zq tb U (zz (.agg [(ls Dk code3),(i64 0)]) (EF Zd Zx ZZ U U) rfl (Bl (m:=0) AM U U U U U (zq tb U (dn hK5 U ?_))))))
  replace h0:=Sh.AE h0
  subst r
  exact AU (xr (Ah (L:=[(2,(.ptr 0 0 0 0))]) (.same U)))
 refine sr U fun K6 hK6=>zq tb U (zl tb U U (zq tb U (dn hK6 U ?_)))
 refine ci h1 U ?_ ?_ <;> clear h1
 ·intro b7 h1
  exact AL U (zq tb U (bs h1 fun l8 gl8 h1=>Nr (i:=0) (j:=2000) AM U2 U U U (fun _=>U) gl8 (zq tb U (AA (M4 l8 (Sh.AE h1).symm _ (AG U))))))
 ·intro b7 h1
  exact AR (M4 p0 (Sh.AE h1).symm _ (AG U))
theorem Cm {p0:(List Int)} {r:Gl} (h0:D0 p0=some r):Ai Try.prog 111 [(ls eI p0)] [] (fun v st=>v=(.agg (BJ r))∧st=[]):=by
 unfold D0 at h0
 refine D3 U (ai Try.func111 U U U U (sr U fun K1 hK1=>A1 (m:=0) AM Mx U U (dn hK1 U (sr U fun K2 hK2=>zq tb U (zz (.agg [(ls eI p0)]) (EF W2 W0 Mx U U) rfl (Az AM Kr U U U U U U (show 0+1≤1 by decide) rfl (dn hK2 U ?_)))))))
 replace h0:=Sh.AE h0
 subst r
 exact AU (Exists.intro _ (And.intro (Wk.refl _ _) (A9 (x:=.tmp 2) (off:=0) (cs:=[(ls eI p0)]) (vs:=[(ls eI p0)]) Kr U U U (show 0+1≤1 by decide) rfl _ U)))
theorem Av {s0_0:(List Int)} {s0_1:Int} {p1:Int} {r:Int×Int} (h0:Aw s0_0 s0_1 p1=some r):Ai Try.prog 56 [(.ptr 0 0 0 0),(i64 p1)] [(BM s0_0 s0_1)] (fun v st=>v=(i64 r.1)∧st=[(BM s0_0 r.2)]):=by
 unfold Aw at h0
 refine ai Try.func56 U U U U (zr tb U U (sr U fun K2 hK2=>zm tb 8 U (Az AM F6 U U U U U U (show 1+1≤2 by decide) rfl (dn hK2 U (AH fun K3 hK3=>AH fun K4 hK4=>bs h0 fun o6 h1 h0=>?_)))))
 have M6 :∀(t5:Bool),o6=t5→∀s,Wk 1 s ⟨99,Aa [(0,(.ptr 0 0 0 0)),(1,(i64 p1)),(24,(.bool t5))],[⟨0,88,2,[[(ls Dk s0_0),(i64 (Sh.w (s0_1+1)))]]⟩]⟩→K4 s:=by
  intro t5 hq s hw
  subst o6
  try dsimp only at h0
  refine hK4 _ (AN hw ?_)
  refine ci h0 U ?_ ?_ <;> clear h0
  ·intro b7 h0
   refine zr tb U U ?_
   replace h0:=Sh.AE h0
   subst r
   exact AU (xr (Ah (L:=[(4,(i64 0))]) (.same U)))
  ·intro b7 h0
   refine AR (hK3 _ (zr tb U U (AH fun K10 hK10=>sr U fun K11 hK11=>zm tb 5 U (zl tb U U (zq tb U (dn hK11 U ?_))))))
   refine ci h0 U ?_ ?_ <;> clear h0
   ·intro b12 h0
    refine sr U fun K13 hK13=>zm tb 5 U (bs h0 fun c14 gc14 h0=>zx U2 gc14 U U U (zq tb U (zz (i64 (Sh.wk .i64 c14)) (UC UY U) rfl (zq tb U (bs h0 fun d15 gd15 h0=>zz (i64 d15) (Ni U U gd15) rfl (zq tb U (dn hK13 U ?_)))))))
    replace h0:=Sh.AE h0
    subst r
    exact AU (xr (Ah (L:=[(4,(i64 d15))]) (.same U)))
   ·intro b12 h0
    refine AR (hK10 _ (AH fun K16 hK16=>?_))
    refine CC (by kernel_rfl) (by kernel_rfl) (by rfl) ?_
    iterate 9 refine yq tb rfl ?_
    refine yl tb U U (bs h0 fun d17 gd17 h0=>yz (i64 d17) (Ni U U gd17) rfl (bs h0 fun c18 gc18 h0=>yx U2 gc18 U U U (yq tb U (yz (i64 (Sh.wk .i64 c18)) (UC UY U) rfl ?_))))
    iterate 12 refine yq tb rfl ?_
    refine yl tb U U (bs h0 fun d19 gd19 h0=>yz (i64 d19) (Ni U U gd19) rfl (bs h0 fun c20 gc20 h0=>yx U2 gc20 U U U (yq tb U (yz (i64 (Sh.wk .i64 c20)) (UC UY U) rfl ?_))))
    iterate 10 refine yq tb rfl ?_
    refine yl tb U U (bs h0 fun d21 gd21 h0=>yz (i64 d21) (QX U U gd21) rfl ?_)
    iterate 3 refine yq tb rfl ?_
    refine Ax (hK16 _ (sr U fun K22 hK22=>zm tb 2 U ?_))
    refine zz (i64 (Sh.w (Int.tdiv (Sh.w ((Sh.w ((Sh.w ((Sh.w ((Sh.wk .i64 c18) * 131)) + (Sh.w ((Sh.wk .i64 c20) * 1117)))) + (Sh.w ((Sh.w ((Sh.w (s0_1+1)) - 1)) * 29)))) + (Sh.w (d21 * 53)))) 64))) (Pw U U (by decide)) rfl ?_
    refine zz (i64 (Sh.xor (Sh.w ((Sh.w ((Sh.w ((Sh.w ((Sh.wk .i64 c18) * 131)) + (Sh.w ((Sh.wk .i64 c20) * 1117)))) + (Sh.w ((Sh.w ((Sh.w (s0_1+1)) - 1)) * 29)))) + (Sh.w (d21 * 53)))) (Sh.w (Int.tdiv (Sh.w ((Sh.w ((Sh.w ((Sh.w ((Sh.wk .i64 c18) * 131)) + (Sh.w ((Sh.wk .i64 c20) * 1117)))) + (Sh.w ((Sh.w ((Sh.w (s0_1+1)) - 1)) * 29)))) + (Sh.w (d21 * 53)))) 64)))) (XI U U) rfl (zq tb U (dn hK22 U (sr U fun K23 hK23=>zm tb 2 U (bs h0 fun d24 gd24 h0=>zz (i64 d24) (Ni U U gd24) rfl (zq tb U (dn hK23 U ?_))))))
    replace h0:=Sh.AE h0
    subst r
    exact AU (xr (Ah (L:=[(4,(i64 d24))]) (.same U)))
 refine AL U (zm tb 3 U ?_)
 rcases Sh.Am h1 with ⟨b25,h1⟩ | ⟨b25,h1⟩
 ·refine zs b25 U ?_
  iterate 5 refine zs b25 rfl ?_
  exact zt b25 U (AA (M6 true (Sh.AE h1).symm _ (AG U)))
 ·refine zg tb b25 U ?_
  iterate 3 refine zg tb b25 rfl ?_
  exact B3 (v:=(i64 (Sh.len s0_0))) (Bw U U b25) rfl (B6 ZX U) (zg tb b25 U (zf b25 U (AA (M6 (decide ((Sh.len s0_0)=0)) (Sh.AE h1).symm _ (AG U)))))
theorem JP {s0_0:(List Int)} {s0_1:Int} {r:(List Ac)×Int} (h0:FR s0_0 s0_1=some r):Ai Try.prog 86 [(.ptr 0 0 0 0)] [(BM s0_0 s0_1)] (fun v st=>v=(ow 1 0 r.1)∧st=[(BM s0_0 r.2),(ro 0 80 3 AI r.1)]):=by
 unfold FR at h0
 refine ai Try.func86 U U U U (zr tb U U (sr U fun K2 hK2=>?_))
 refine A3 (m:=1) (l:=([]:List Int)) (enc:=eI) AM A4 (by decide) rfl U U U U U ?_
 refine Ad (Wk.A7 (L:=[(0,(.ptr 0 0 0 0)),(8,(.sl (List.map eI [])))]) (st':=[(BM s0_0 s0_1),⟨1,3,1,[]⟩]) (id:=1) rfl (show 1≤1 by decide) (AB fun _=>U) ⟨.rfl,(.A7 U),trivial⟩ U) (bs h0 fun q3 gq3 h0=>zc (v':=(.agg (BJ q3))) HM (Cm gq3) rfl U U ?_)
 refine A3 (m:=2) (l:=[(0:Int),1]) (enc:=eI) AM A4 (by decide) rfl U U U U U ?_
 refine Ad (Wk.A7 (L:=[(0,(.ptr 0 0 0 0)),(9,(.agg (BJ q3))),(10,(ls eI [(0:Int),1]))]) (st':=[(BM s0_0 s0_1),⟨1,3,1,[]⟩,⟨1,3,1,[]⟩]) (id:=2) rfl (show 1≤2 by decide) (AB fun _=>U) ⟨.rfl,.rfl,(.A7 U),trivial⟩ U) (bs h0 fun q4 gq4 h0=>zc (v':=(.agg (BJ q4))) HM (Cm gq4) rfl U U ?_)
 refine A3 (m:=3) (l:=[q3,q4]) (enc:=BJ) AM J9 (by decide) rfl U U U U U ?_
 refine zz (.agg [(i64 0),(i64 0),(ow 3 0 [q3,q4])]) (EF JH JN Eh U U) rfl (A1 (m:=4) AM Eh U U (Ad (Wk.A7 (L:=[(0,(.ptr 0 0 0 0)),(3,(.ptr 4 0 0 0)),(13,(.agg [(i64 0),(i64 0),(ls BJ [q3,q4])]))]) (st':=[(BM s0_0 s0_1),⟨1,3,1,[]⟩,⟨1,3,1,[]⟩,⟨1,130,1,[]⟩,⟨0,80,3,[[(i64 0),(i64 0),.zc]]⟩]) (id:=3) rfl (show 1≤3 by decide) (AB fun _=>U) ⟨.rfl,.rfl,(.agg ⟨.rfl,.rfl,(.Gj U),trivial⟩),trivial⟩ U) (Az AM Ht U U U U U U (show 0+3≤3 by decide) rfl (Ad (Wk.A7 (L:=[(0,(.ptr 0 0 0 0)),(3,(.Al [(i64 0),(i64 0),(ls BJ [q3,q4])] 0))]) (st':=[(BM s0_0 s0_1),⟨1,3,1,[]⟩,⟨1,3,1,[]⟩,⟨1,130,1,[]⟩,⟨1,80,3,[]⟩]) (id:=4) rfl (show 1≤4 by decide) (Cz U) (.same U) rfl) (dn hK2 U (sr U fun K5 hK5=>?_))))))
 refine A3 (m:=5) (l:=([]:List Int)) (enc:=eI) AM A4 (by decide) rfl U U U U U ?_
 refine Ad (Wk.A7 (L:=[(0,(.ptr 0 0 0 0)),(3,(.Al [(i64 0),(i64 0),(ls BJ [q3,q4])] 0)),(14,(.sl (List.map eI [])))]) (st':=[(BM s0_0 s0_1),⟨1,3,1,[]⟩,⟨1,3,1,[]⟩,⟨1,130,1,[]⟩,⟨1,80,3,[]⟩,⟨1,3,1,[]⟩]) (id:=5) rfl (show 1≤5 by decide) (AB fun _=>U) ⟨.rfl,.rfl,(.A7 U),trivial⟩ U) (bs h0 fun q6 gq6 h0=>zc (v':=(.agg (BJ q6))) HM (Cm gq6) rfl U U ?_)
 refine A3 (m:=6) (l:=[(3:Int),0,3]) (enc:=eI) AM A4 (by decide) rfl U U U U U ?_
 refine Ad (Wk.A7 (L:=[(0,(.ptr 0 0 0 0)),(3,(.Al [(i64 0),(i64 0),(ls BJ [q3,q4])] 0)),(15,(.agg (BJ q6))),(16,(ls eI [(3:Int),0,3]))]) (st':=[(BM s0_0 s0_1),⟨1,3,1,[]⟩,⟨1,3,1,[]⟩,⟨1,130,1,[]⟩,⟨1,80,3,[]⟩,⟨1,3,1,[]⟩,⟨1,3,1,[]⟩]) (id:=6) rfl (show 1≤6 by decide) (AB fun _=>U) ⟨.rfl,.rfl,.rfl,(.A7 U),trivial⟩ U) (bs h0 fun q7 gq7 h0=>zc (v':=(.agg (BJ q7))) HM (Cm gq7) rfl U U ?_)
 refine A3 (m:=7) (l:=[q6,q7]) (enc:=BJ) AM J9 (by decide) rfl U U U U U ?_
 refine zz (.agg [(i64 0),(i64 0),(ow 7 0 [q6,q7])]) (EF JH JN Eh U U) rfl (A1 (m:=8) AM Eh U U (Ad (Wk.A7 (L:=[(0,(.ptr 0 0 0 0)),(3,(.Al [(i64 0),(i64 0),(ls BJ [q3,q4])] 0)),(4,(.ptr 8 0 0 0)),(19,(.agg [(i64 0),(i64 0),(ls BJ [q6,q7])]))]) (st':=[(BM s0_0 s0_1),⟨1,3,1,[]⟩,⟨1,3,1,[]⟩,⟨1,130,1,[]⟩,⟨1,80,3,[]⟩,⟨1,3,1,[]⟩,⟨1,3,1,[]⟩,⟨1,130,1,[]⟩,⟨0,80,3,[[(i64 0),(i64 0),.zc]]⟩]) (id:=7) rfl (show 1≤7 by decide) (AB fun _=>U) ⟨.rfl,.rfl,.rfl,(.agg ⟨.rfl,.rfl,(.Gj U),trivial⟩),trivial⟩ U) (Az AM Ht U U U U U U (show 0+3≤3 by decide) rfl (Ad (Wk.A7 (L:=[(0,(.ptr 0 0 0 0)),(3,(.Al [(i64 0),(i64 0),(ls BJ [q3,q4])] 0)),(4,(.Al [(i64 0),(i64 0),(ls BJ [q6,q7])] 0))]) (st':=[(BM s0_0 s0_1),⟨1,3,1,[]⟩,⟨1,3,1,[]⟩,⟨1,130,1,[]⟩,⟨1,80,3,[]⟩,⟨1,3,1,[]⟩,⟨1,3,1,[]⟩,⟨1,130,1,[]⟩,⟨1,80,3,[]⟩]) (id:=8) rfl (show 1≤8 by decide) (Cz U) (.same U) rfl) (dn hK5 U (sr U fun K8 hK8=>?_))))))
 refine A3 (m:=9) (l:=[(1:Int),3]) (enc:=eI) AM A4 (by decide) rfl U U U U U ?_
 refine Ad (Wk.A7 (L:=[(0,(.ptr 0 0 0 0)),(3,(.Al [(i64 0),(i64 0),(ls BJ [q3,q4])] 0)),(4,(.Al [(i64 0),(i64 0),(ls BJ [q6,q7])] 0)),(20,(ls eI [(1:Int),3]))]) (st':=[(BM s0_0 s0_1),⟨1,3,1,[]⟩,⟨1,3,1,[]⟩,⟨1,130,1,[]⟩,⟨1,80,3,[]⟩,⟨1,3,1,[]⟩,⟨1,3,1,[]⟩,⟨1,130,1,[]⟩,⟨1,80,3,[]⟩,⟨1,3,1,[]⟩]) (id:=9) rfl (show 1≤9 by decide) (AB fun _=>U) ⟨.rfl,.rfl,.rfl,(.A7 U),trivial⟩ U) (bs h0 fun q9 gq9 h0=>zc (v':=(.agg (BJ q9))) HM (Cm gq9) rfl U U ?_)
 refine A3 (m:=10) (l:=[q9]) (enc:=BJ) AM J9 (by decide) rfl U U U U U ?_
 refine zz (.agg [(i64 0),(i64 0),(ow 10 0 [q9])]) (EF JH JN Eh U U) rfl (zz (.agg [(i64 1),(i64 0),.zc]) (EF JH JN Eh U U) rfl ?_)
 refine A3 (m:=11) (l:=[(1:Int),1,0]) (enc:=eI) AM A4 (by decide) rfl U U U U U ?_
 refine Ad (Wk.A7 (L:=[(0,(.ptr 0 0 0 0)),(3,(.Al [(i64 0),(i64 0),(ls BJ [q3,q4])] 0)),(4,(.Al [(i64 0),(i64 0),(ls BJ [q6,q7])] 0)),(23,(.agg [(i64 0),(i64 0),(ow 10 0 [q9])])),(24,(.agg [(i64 1),(i64 0),.zc])),(25,(ls eI [(1:Int),1,0]))]) (st':=[(BM s0_0 s0_1),⟨1,3,1,[]⟩,⟨1,3,1,[]⟩,⟨1,130,1,[]⟩,⟨1,80,3,[]⟩,⟨1,3,1,[]⟩,⟨1,3,1,[]⟩,⟨1,130,1,[]⟩,⟨1,80,3,[]⟩,⟨1,3,1,[]⟩,(ro 0 130 1 BJ [q9]),⟨1,3,1,[]⟩]) (id:=11) rfl (show 1≤11 by decide) (AB fun _=>U) ⟨.rfl,.rfl,.rfl,(.agg ⟨.rfl,.rfl,.rfl,trivial⟩),.rfl,(.A7 U),trivial⟩ U) (bs h0 fun q10 gq10 h0=>zc (v':=(.agg (BJ q10))) HM (Cm gq10) rfl U U ?_)
 refine A3 (m:=12) (l:=[(0:Int)]) (enc:=eI) AM A4 (by decide) rfl U U U U U ?_
 refine Ad (Wk.A7 (L:=[(0,(.ptr 0 0 0 0)),(3,(.Al [(i64 0),(i64 0),(ls BJ [q3,q4])] 0)),(4,(.Al [(i64 0),(i64 0),(ls BJ [q6,q7])] 0)),(23,(.agg [(i64 0),(i64 0),(ow 10 0 [q9])])),(24,(.agg [(i64 1),(i64 0),.zc])),(26,(.agg (BJ q10))),(27,(ls eI [(0:Int)]))]) (st':=[(BM s0_0 s0_1),⟨1,3,1,[]⟩,⟨1,3,1,[]⟩,⟨1,130,1,[]⟩,⟨1,80,3,[]⟩,⟨1,3,1,[]⟩,⟨1,3,1,[]⟩,⟨1,130,1,[]⟩,⟨1,80,3,[]⟩,⟨1,3,1,[]⟩,(ro 0 130 1 BJ [q9]),⟨1,3,1,[]⟩,⟨1,3,1,[]⟩]) (id:=12) rfl (show 1≤12 by decide) (AB fun _=>U) ⟨.rfl,.rfl,.rfl,(.agg ⟨.rfl,.rfl,.rfl,trivial⟩),.rfl,.rfl,(.A7 U),trivial⟩ U) (bs h0 fun q11 gq11 h0=>zc (v':=(.agg (BJ q11))) HM (Cm gq11) rfl U U ?_)
 refine A3 (m:=13) (l:=[(3:Int)]) (enc:=eI) AM A4 (by decide) rfl U U U U U ?_
 refine Ad (Wk.A7 (L:=[(0,(.ptr 0 0 0 0)),(3,(.Al [(i64 0),(i64 0),(ls BJ [q3,q4])] 0)),(4,(.Al [(i64 0),(i64 0),(ls BJ [q6,q7])] 0)),(23,(.agg [(i64 0),(i64 0),(ow 10 0 [q9])])),(24,(.agg [(i64 1),(i64 0),.zc])),(26,(.agg (BJ q10))),(28,(.agg (BJ q11))),(29,(ls eI [(3:Int)]))]) (st':=[(BM s0_0 s0_1),⟨1,3,1,[]⟩,⟨1,3,1,[]⟩,⟨1,130,1,[]⟩,⟨1,80,3,[]⟩,⟨1,3,1,[]⟩,⟨1,3,1,[]⟩,⟨1,130,1,[]⟩,⟨1,80,3,[]⟩,⟨1,3,1,[]⟩,(ro 0 130 1 BJ [q9]),⟨1,3,1,[]⟩,⟨1,3,1,[]⟩,⟨1,3,1,[]⟩]) (id:=13) rfl (show 1≤13 by decide) (AB fun _=>U) ⟨.rfl,.rfl,.rfl,(.agg ⟨.rfl,.rfl,.rfl,trivial⟩),.rfl,.rfl,.rfl,(.A7 U),trivial⟩ U) (bs h0 fun q12 gq12 h0=>zc (v':=(.agg (BJ q12))) HM (Cm gq12) rfl U U ?_)
 refine A3 (m:=14) (l:=[q10,q11,q12]) (enc:=BJ) AM J9 (by decide) rfl U U U U U ?_
 refine zz (.agg [(i64 0),(i64 0),(ow 14 0 [q10,q11,q12])]) (EF JH JN Eh U U) rfl (zz (.agg [(i64 0),(i64 1),.zc]) (EF JH JN Eh U U) rfl (Ad (Wk.A7 (L:=[(0,(.ptr 0 0 0 0)),(3,(.Al [(i64 0),(i64 0),(ls BJ [q3,q4])] 0)),(4,(.Al [(i64 0),(i64 0),(ls BJ [q6,q7])] 0)),(23,(.agg [(i64 0),(i64 0),(ls BJ [q9])])),(24,(.agg [(i64 1),(i64 0),.zc])),(32,(.agg [(i64 0),(i64 0),(ow 14 0 [q10,q11,q12])])),(33,(.agg [(i64 0),(i64 1),.zc]))]) (st':=[(BM s0_0 s0_1),⟨1,3,1,[]⟩,⟨1,3,1,[]⟩,⟨1,130,1,[]⟩,⟨1,80,3,[]⟩,⟨1,3,1,[]⟩,⟨1,3,1,[]⟩,⟨1,130,1,[]⟩,⟨1,80,3,[]⟩,⟨1,3,1,[]⟩,⟨1,130,1,[]⟩,⟨1,3,1,[]⟩,⟨1,3,1,[]⟩,⟨1,3,1,[]⟩,(ro 0 130 1 BJ [q10,q11,q12])]) (id:=10) rfl (show 1≤10 by decide) (AB fun _=>U) ⟨.rfl,.rfl,.rfl,(.agg ⟨.rfl,.rfl,(.Gj U),trivial⟩),.rfl,(.agg ⟨.rfl,.rfl,.rfl,trivial⟩),.rfl,trivial⟩ U) (Ad (Ah (L:=[(0,(.ptr 0 0 0 0)),(3,(.Al [(i64 0),(i64 0),(ls BJ [q3,q4])] 0)),(4,(.Al [(i64 0),(i64 0),(ls BJ [q6,q7])] 0)),(23,(.agg [(i64 0),(i64 0),(ls BJ [q9])])),(24,(.agg [(i64 1),(i64 0),(.sl (List.map BJ []))])),(32,(.agg [(i64 0),(i64 0),(ow 14 0 [q10,q11,q12])])),(33,(.agg [(i64 0),(i64 1),.zc]))]) ⟨.rfl,.rfl,.rfl,.rfl,(.agg ⟨.rfl,.rfl,.zc,trivial⟩),.rfl,.rfl,trivial⟩) (Ad (Wk.A7 (L:=[(0,(.ptr 0 0 0 0)),(3,(.Al [(i64 0),(i64 0),(ls BJ [q3,q4])] 0)),(4,(.Al [(i64 0),(i64 0),(ls BJ [q6,q7])] 0)),(23,(.agg [(i64 0),(i64 0),(ls BJ [q9])])),(24,(.agg [(i64 1),(i64 0),(.sl (List.map BJ []))])),(32,(.agg [(i64 0),(i64 0),(ls BJ [q10,q11,q12])])),(33,(.agg [(i64 0),(i64 1),.zc]))]) (st':=[(BM s0_0 s0_1),⟨1,3,1,[]⟩,⟨1,3,1,[]⟩,⟨1,130,1,[]⟩,⟨1,80,3,[]⟩,⟨1,3,1,[]⟩,⟨1,3,1,[]⟩,⟨1,130,1,[]⟩,⟨1,80,3,[]⟩,⟨1,3,1,[]⟩,⟨1,130,1,[]⟩,⟨1,3,1,[]⟩,⟨1,3,1,[]⟩,⟨1,3,1,[]⟩,⟨1,130,1,[]⟩]) (id:=14) rfl (show 1≤14 by decide) (AB fun _=>U) ⟨.rfl,.rfl,.rfl,.rfl,.rfl,(.agg ⟨.rfl,.rfl,(.Gj U),trivial⟩),.rfl,trivial⟩ U) (Ad (Ah (L:=[(0,(.ptr 0 0 0 0)),(3,(.Al [(i64 0),(i64 0),(ls BJ [q3,q4])] 0)),(4,(.Al [(i64 0),(i64 0),(ls BJ [q6,q7])] 0)),(23,(.agg [(i64 0),(i64 0),(ls BJ [q9])])),(24,(.agg [(i64 1),(i64 0),(.sl (List.map BJ []))])),(32,(.agg [(i64 0),(i64 0),(ls BJ [q10,q11,q12])])),(33,(.agg [(i64 0),(i64 1),(.sl (List.map BJ []))]))]) ⟨.rfl,.rfl,.rfl,.rfl,.rfl,.rfl,(.agg ⟨.rfl,.rfl,.zc,trivial⟩),trivial⟩) ?_)))))
 refine A3 (m:=15) (l:=([(Ac.mk 0 0 [q9]),(Ac.mk 1 0 []),(Ac.mk 0 0 [q10,q11,q12]),(Ac.mk 0 1 [])])) (enc:=AI) AM ER (by decide) rfl U U U U U ?_
 refine zq tb U (dn hK8 U (sr U fun K13 hK13=>zq tb U (zz (.agg [(i64 0),(i64 0),.zc]) (EF JH JN Eh U U) rfl (zq tb U (Ad (Ah (L:=[(0,(.ptr 0 0 0 0)),(5,(.own 15 0 (List.length ([(Ac.mk 0 0 [q9]),(Ac.mk 1 0 []),(Ac.mk 0 0 [q10,q11,q12]),(Ac.mk 0 1 [])])))),(35,(.agg [(i64 0),(i64 0),(ls BJ [q3,q4])])),(36,(.agg [(i64 0),(i64 0),(.sl (List.map BJ []))])),(37,(.agg [(i64 0),(i64 0),(ls BJ [q6,q7])]))]) ⟨.rfl,.rfl,.rfl,(.agg ⟨.rfl,.rfl,.zc,trivial⟩),.rfl,trivial⟩) ?_)))))
 refine A3 (m:=16) (l:=([(Ac.mk 0 0 [q3,q4]),(Ac.mk 0 0 []),(Ac.mk 0 0 [q6,q7])])) (enc:=AI) AM ER (by decide) rfl U U U U U ?_
 refine zq tb U (dn hK13 U (sr U fun K14 hK14=>zq tb U (bs h0 fun q15 gq15 h0=>?_)))
 refine Bc (rows0:=[(BM s0_0 s0_1)]) (rows1:=[(BM s0_0 q15.2)]) (st':=[(BM s0_0 q15.2),⟨1,3,1,[]⟩,⟨1,3,1,[]⟩,⟨1,130,1,[]⟩,⟨1,80,3,[]⟩,⟨1,3,1,[]⟩,⟨1,3,1,[]⟩,⟨1,130,1,[]⟩,⟨1,80,3,[]⟩,⟨1,3,1,[]⟩,⟨1,130,1,[]⟩,⟨1,3,1,[]⟩,⟨1,3,1,[]⟩,⟨1,3,1,[]⟩,⟨1,130,1,[]⟩,(ro 0 80 3 AI ([(Ac.mk 0 0 [q9]),(Ac.mk 1 0 []),(Ac.mk 0 0 [q10,q11,q12]),(Ac.mk 0 1 [])])),(ro 0 80 3 AI ([(Ac.mk 0 0 [q3,q4]),(Ac.mk 0 0 []),(Ac.mk 0 0 [q6,q7])]))]) (v':=(i64 q15.1)) [0] AM Ez (Av gq15) rfl (by decide) rfl U (.raw U U .nil) rfl U (.raw U U .nil) .nil U U ?_
 refine zq tb U (dn hK14 U (AH fun K16 hK16=>bs h0 fun o18 h1 h0=>?_))
 have M18 :∀(l17:(List Ac)),o18=l17→∀s,Wk 1 s ⟨51,Aa [(6,(ow 1 0 l17))],[(BM s0_0 q15.2),(ro 0 80 3 AI l17)]⟩→K16 s:=by
  intro l17 hq s hw
  subst o18
  try dsimp only at h0
  refine hK16 _ (AN hw (zr tb U U ?_))
  replace h0:=Sh.AE h0
  subst r
  exact AU (xr (Ah (L:=[(2,(ow 1 0 l17))]) (.same U)))
 refine zr tb U U ?_
 refine ci h1 U ?_ ?_ <;> clear h1
 ·intro b21 h1
  refine AL U (zm tb 3 U (bs h1 fun c22 gc22 h1=>zz (.ptr 15 0 (Int.toNat q15.1) 0) (Bn ER U U U U gc22) rfl (zz (.agg (AI c22)) (A9 Ht U U (Bs gc22) (show 0+3≤3 by decide) rfl) rfl ?_)))
  refine A3 (m:=17) (l:=[c22]) (enc:=AI) AM ER (by decide) rfl U U U U U ?_
  refine bs h1 fun l23 gl23 h1=>CB (l2:=[c22]) AM ER U U U U (EO U U) (fun _=>U) gl23 U (zq tb U ?_)
  exact AA (M18 l23 (Sh.AE h1).symm _ (by refine Wk.trans (CA (L:=[(6,(ow 16 0 l23))]) (st':=[(BM s0_0 q15.2),⟨0,3,1,[]⟩,⟨0,3,1,[]⟩,⟨0,130,1,[]⟩,⟨0,80,3,[]⟩,⟨0,3,1,[]⟩,⟨0,3,1,[]⟩,⟨0,130,1,[]⟩,⟨0,80,3,[]⟩,⟨0,3,1,[]⟩,⟨0,130,1,[]⟩,⟨0,3,1,[]⟩,⟨0,3,1,[]⟩,⟨0,3,1,[]⟩,⟨0,130,1,[]⟩,(ro 0 80 3 AI ([(Ac.mk 0 0 [q9]),(Ac.mk 1 0 []),(Ac.mk 0 0 [q10,q11,q12]),(Ac.mk 0 1 [])])),(ro 0 80 3 AI l23),(ro 0 80 3 AI [c22])]) (.raw U U U (.pure U (by intro x hx;cases hx) (.pure U (by intro x hx;cases hx) (.pure U (by intro x hx;cases hx) (.pure U (by intro x hx;cases hx) (.pure U (by intro x hx;cases hx) (.pure U (by intro x hx;cases hx) (.pure U (by intro x hx;cases hx) (.pure U (by intro x hx;cases hx) (.pure U (by intro x hx;cases hx) (.pure U (by intro x hx;cases hx) (.pure U (by intro x hx;cases hx) (.pure U (by intro x hx;cases hx) (.pure U (by intro x hx;cases hx) (.pure U (by intro x hx;cases hx) (.pure U (AB fun _=>U) (.pure U (AB fun _=>U) (.pure U (AB fun _=>U) .nil)))))))))))))))))) (.same U)) ?_;exact AS [0,16] U (by decide) rfl U (.raw U U (.pure (AB fun _=>U) .nil)) (.same U)))
 ·intro b21 h1
  exact AR (M18 ([(Ac.mk 0 0 [q3,q4]),(Ac.mk 0 0 []),(Ac.mk 0 0 [q6,q7])]) (Sh.AE h1).symm _ (AS [0,16] U (by decide) rfl U (.raw U U (.pure (AB fun _=>U) .nil)) (.same U)))
theorem Ca {p0:(List Int)} {p1:Int} {r:Ar} (h0:Dj p0 p1=some r):Ai Try.prog 87 [(ls eI p0),(i64 p1)] [] (fun v st=>v=(.agg [(ls eI r.params),(i64 r.result),(i64 r.body.op),(i64 r.body.num),(ls AD r.body.kids)])∧st=[]):=by
 unfold Dj at h0
 refine D3 U (ai Try.func87 U U U U (sr U fun K1 hK1=>A1 (m:=0) AM LD U U (dn hK1 U (sr U fun K2 hK2=>zm tb 2 U (zz (.agg [(ls eI p0),(i64 p1),(i64 0),(i64 0),.zc]) (EF TI S3 LD U U) rfl (Az AM Iy U U U U U U (show 0+5≤5 by decide) rfl (dn hK2 U ?_)))))))
 replace h0:=Sh.AE h0
 subst r
 exact AU (Exists.intro _ (And.intro ((Ku (id:=0) (cs:=[(ls eI p0),(i64 p1),(i64 0),(i64 0),.zc]) (cs':=[(ls eI p0),(i64 p1),(i64 0),(i64 0),(.sl (List.map AD []))]) (st':=[⟨0,52,5,[[(ls eI p0),(i64 p1),(i64 0),(i64 0),(.sl (List.map AD []))]]⟩]) rfl ⟨le.rfl,le.rfl,le.rfl,le.rfl,le.zc,trivial⟩ U U).trans (Ah (L:=[(4,(.ptr 0 0 0 0))]) (.same U))) (A9 (x:=.tmp 4) (off:=0) (cs:=[(ls eI p0),(i64 p1),(i64 0),(i64 0),(.sl (List.map AD []))]) (vs:=[(ls eI p0),(i64 p1),(i64 0),(i64 0),(.sl (List.map AD []))]) Iy U U U (show 0+5≤5 by decide) rfl _ U)))
theorem BU {s0_0:(List Int)} {s0_1:Int} {p1:(List Int)} {r:Int×Int} (h0:BY s0_0 s0_1 p1=some r):Ai Try.prog 37 [(.ptr 0 0 0 0),(ls eI p1)] [(BM s0_0 s0_1)] (fun v st=>v=(i64 r.1)∧st=[(BM s0_0 r.2)]):=by
 unfold BY at h0
 refine ai Try.func37 U U U U (zr tb U U (sr U fun K2 hK2=>zm tb 3 U (zl tb U U (bs h0 fun q3 gq3 h0=>?_))))
 refine Bc (rows0:=[(BM s0_0 s0_1)]) (rows1:=[(BM s0_0 q3.2)]) (st':=[(BM s0_0 q3.2)]) (v':=(i64 q3.1)) [0] AM Ez (Av gq3) rfl (by decide) rfl U (.raw U U .nil) rfl U (.raw U U .nil) .nil U U ?_
 refine bs h0 fun c4 gc4 h0=>zx A4 gc4 U U U (zm tb 2 U (dn hK2 U ?_))
 replace h0:=Sh.AE h0
 subst r
 exact AU (xr (Ah (L:=[(4,(i64 c4))]) (.same U)))
theorem OT {N:Nat} {p0:(List Int)} {p1:Int} {r:Int} (h0:HR N p0 p1=some r):Ai Try.prog 112 [(ls eI p0),(i64 p1)] [] (fun v st=>v=(i64 r)∧st=[]):=by
 unfold HR at h0
 refine ai Try.func112 U U U U (zr tb U U (AH fun K2 hK2=>zr tb U U ?_))
 obtain⟨o5,h1,h0⟩:=Sh.BZ h0
 have M5 :∀(_:Unit),o5=Sum.inr ()→∀s,Wk 0 s ⟨19,Aa [],[]⟩→K2 s:=by
  intro _ hq s hw
  subst o5
  try dsimp only at h0
  refine hK2 _ (AN hw (zr tb U U ?_))
  replace h0:=Sh.AE h0
  subst r
  exact AU (xr (Ah (L:=[(4,(i64 (-1)))]) (.same U)))
 refine Ab (Ay (σ:=Int) (fun n v=>Dn p0 p1 n v=some o5) (fun i4=>⟨19,Aa [(0,(ls eI p0)),(1,(i64 p1)),(5,(i64 i4))],[]⟩) N 0 h1 (AG U) (fun _ hv=>by rw[Dn] at hv;cases hv) ?_)
 rintro n i4 h1
 try dsimp only at h1 ⊢
 rw[Dn] at h1
 refine AH fun K7 hK7=>sr U fun K8 hK8=>zm tb 2 U (zl tb U U (zq tb U (dn hK8 U ?_)))
 refine ci h1 U ?_ ?_ <;> clear h1
 ·intro b9 h1
  refine AR (hK7 _ (AH fun K10 hK10=>Ab (sr U fun K11 hK11=>zm tb 2 U (bs h1 fun c12 gc12 h1=>zx A4 gc12 U U U (zm tb 3 U (dn hK11 U ?_))))))
  refine ci h1 U ?_ ?_ <;> clear h1
  ·intro b13 h1
   refine zr tb U U ?_
   replace h1:=Sh.AE h1
   subst o5
   try dsimp only[id] at h0
   replace h0:=Sh.AE h0
   subst r
   exact AU (xr (Ah (L:=[(4,(i64 i4))]) (.same U)))
  ·intro b13 h1
   exact AR (hK10 _ (AL U (zm tb 3 U (AA (xi (Sh.w (i4+1)) h1 (AG U))))))
 ·intro b9 h1
  exact A5 (M5 () (Sh.AE h1).symm _ (AG U))
theorem Br {p0:Int} {r:AP} (h0:D2 p0=some r):Ai Try.prog 109 [(i64 p0)] [] (fun v st=>v=(.agg [(i64 r.op),(i64 r.num),(ls AD r.kids)])∧st=[]):=by
 unfold D2 at h0
 refine D3 U (ai Try.func109 U U U U (sr U fun K1 hK1=>A1 (m:=0) AM EI U U (dn hK1 U (sr U fun K2 hK2=>zq tb U ?_))))
 refine A3 (m:=1) (l:=([]:List AP)) (enc:=AD) AM BV (by decide) rfl U (by simp only[List.map,Ap];rfl) rfl U U ?_
 refine zz (.agg [(i64 0),(i64 p0),(.own 1 0 (List.length ([]:List AP)))]) (EF U1 VA EI U U) rfl (Ad (Wk.A7 (L:=[(2,(.ptr 0 0 0 0)),(5,(.agg [(i64 0),(i64 p0),(.sl (List.map AD []))]))]) (st':=[FF,⟨1,50,3,[]⟩]) (id:=1) rfl (show 0≤1 by decide) (AB Ag) ⟨.rfl,(.agg ⟨.rfl,.rfl,(.Gj U),trivial⟩),trivial⟩ U) (Az AM BN U U U U U U (show 0+3≤3 by decide) rfl (dn hK2 U ?_)))
 replace h0:=Sh.AE h0
 subst r
 exact AU (Exists.intro _ (And.intro (Wk.refl _ _) (A9 (x:=.tmp 2) (off:=0) (cs:=[(i64 0),(i64 p0),(.sl (List.map AD []))]) (vs:=[(i64 0),(i64 p0),(.sl (List.map AD []))]) BN U U U (show 0+3≤3 by decide) rfl _ U)))
theorem Mc {N:Nat} {p0:(List Int)} {p1:Int} {r:(List Int)} (h0:Fq N p0 p1=some r):Ai Try.prog 135 [(ls eI p0),(i64 p1)] [] (fun v st=>v=(ow 0 0 r)∧st=[(ro 0 3 1 eI r)]):=by
 unfold Fq at h0
 refine ai Try.func135 U U U U (zr tb U U (sr U fun K2 hK2=>?_))
 refine A3 (m:=0) (l:=([]:List Int)) (enc:=eI) AM A4 (by decide) rfl U U U U U ?_
 refine zq tb U (dn hK2 U (AH fun K3 hK3=>zr tb U U (bs h0 fun o8 h1 h0=>?_)))
 have M8 :∀(l7:(List Int)),o8=l7→∀s,Wk 0 s ⟨25,Aa [(5,(ow 0 0 l7))],[(ro 0 3 1 eI l7)]⟩→K3 s:=by
  intro l7 hq s hw
  subst o8
  try dsimp only at h0
  refine hK3 _ (AN hw (zr tb U U ?_))
  replace h0:=Sh.AE h0
  subst r
  exact AU (xr (Ah (L:=[(4,(ow 0 0 l7))]) (.same U)))
 refine Ab (Ay (σ:=Int×(List Int)) (fun n v=>Ck p0 p1 n v.1 v.2=some o8) (fun (i5,l6)=>⟨25,Aa [(0,(ls eI p0)),(1,(i64 p1)),(5,(ow 0 0 l6)),(6,(i64 i5))],[(ro 0 3 1 eI l6)]⟩) N (0,[]) h1 (AG U) (fun _ hv=>by rw[Ck] at hv;cases hv) ?_)
 rintro n ⟨i5,l6⟩ h1
 try dsimp only at h1 ⊢
 rw[Ck] at h1
 refine AH fun K10 hK10=>sr U fun K11 hK11=>zm tb 2 U (zl tb U U (zq tb U (dn hK11 U ?_)))
 refine ci h1 U ?_ ?_ <;> clear h1
 ·intro b12 h1
  refine AR (hK10 _ (AH fun K13 hK13=>bs h1 fun o15 h2 h1=>?_))
  have M15 :∀(l14:(List Int)),o15=l14→∀s,Wk 0 s ⟨25,Aa [(0,(ls eI p0)),(1,(i64 p1)),(5,(ow 0 0 l14)),(6,(i64 i5))],[(ro 0 3 1 eI l14)]⟩→K13 s:=by
   intro l14 hq s hw
   subst o15
   try dsimp only at h1
   exact hK13 _ (AN hw (AL U (zm tb 3 U (AA (xi (Sh.w (i5+1),l14) h1 (AG U))))))
  refine Ab (sr U fun K16 hK16=>zm tb 2 U (bs h2 fun c17 gc17 h2=>zx A4 gc17 U U U (zm tb 3 U (dn hK16 U ?_))))
  refine ci h2 U ?_ ?_ <;> clear h2
  ·intro b18 h2
   refine AL U (zm tb 2 U ?_)
   refine A3 (m:=1) (l:=[i5]) (enc:=eI) AM A4 (by decide) rfl U U U U U ?_
   refine bs h2 fun l19 gl19 h2=>CB (l2:=[i5]) AM A4 U U U U (EO U U) (fun _=>U) gl19 U (zq tb U ?_)
   exact AA (M15 l19 (Sh.AE h2).symm _ (by refine Wk.trans (EW (L:=[(0,(ls eI p0)),(1,(i64 p1)),(5,(ow 0 0 l19)),(6,(i64 i5))]) (st':=[(ro 0 3 1 eI l19),(ro 0 3 1 eI [i5])]) (.pure (AB fun _=>U) (.pure (AB fun _=>U) .nil)) (.same U)) ?_;exact AS [0] U (by decide) rfl U (.pure (AB fun _=>U) .nil) (.same U)))
  ·intro b18 h2
   exact AR (M15 l6 (Sh.AE h2).symm _ (AG U))
 ·intro b12 h1
  exact A5 (M8 l6 (Sh.AE h1).symm _ (AG U))
theorem CN {p0:Int} {p1:Int} {p2:Int} {r:Bool} (h0:CD p0 p1 p2=some r):Ai Try.prog 23 [(i64 p0),(i64 p1),(i64 p2)] [] (fun v st=>v=(.bool r)∧st=[]):=by
 unfold CD at h0
 refine ai Try.func23 U U U U (zr tb U U (AH fun K2 hK2=>bs h0 fun o4 h1 h0=>?_))
 have M4 :∀(t3:Bool),o4=t3→∀s,Wk 0 s ⟨15,Aa [(6,(.bool t3))],[]⟩→K2 s:=by
  intro t3 hq s hw
  subst o4
  try dsimp only at h0
  refine hK2 _ (AN hw ?_)
  replace h0:=Sh.AE h0
  subst r
  exact AU (xr (Ah (L:=[(6,(.bool t3))]) (.same U)))
 refine AL U (zm tb 4 U ?_)
 rcases Sh.Am h1 with ⟨b5,h1⟩ | ⟨b5,h1⟩
 ·exact zg tb b5 U (zg tb b5 U (zg tb b5 U (zt b5 U (zq tb U (AA (M4 (decide (p0≤p2)) (Sh.AE h1).symm _ (AG U)))))))
 ·exact zs b5 U (zs b5 U (zs b5 U (zf b5 U (zq tb U (AA (M4 false (Sh.AE h1).symm _ (AG U)))))))
theorem HD {p0:(List Ac)} {p1:Int} {r:Bool} (h0:FC p0 p1=some r):Ai Try.prog 76 [(ls AI p0),(i64 p1)] [] (fun v st=>v=(.bool r)∧st=[]):=by
 unfold FC at h0
 refine ai Try.func76 U U U U (zr tb U U (AH fun K2 hK2=>bs h0 fun o4 h1 h0=>?_))
 have M4 :∀(t3:Bool),o4=t3→∀s,Wk 0 s ⟨19,Aa [(4,(.bool t3))],[]⟩→K2 s:=by
  intro t3 hq s hw
  subst o4
  try dsimp only at h0
  refine hK2 _ (AN hw ?_)
  replace h0:=Sh.AE h0
  subst r
  exact AU (xr (Ah (L:=[(4,(.bool t3))]) (.same U)))
 refine AL U (zm tb 2 U (zl tb U U (bs h1 fun q5 gq5 h1=>zc LB (CN gq5) rfl U U (zq tb U ?_))))
 rcases Sh.Am h1 with ⟨b6,h1⟩ | ⟨b6,h1⟩
 ·exact zg tb b6 U (zg tb b6 U (zg tb b6 U (bs h1 fun c7 gc7 h1=>B3 (v:=(.Al (AI c7) 0)) (Bw U U b6) rfl (CZ ER U U gc7 U) (zg tb b6 U (zg tb b6 U (B3 (v:=(i64 (Sh.len c7.cons))) (Bw U U b6) rfl (B6 R0 U) (zg tb b6 U (zt b6 U (zq tb U (AA (M4 (decide ((Sh.len c7.cons)=0)) (Sh.AE h1).symm _ (AG U))))))))))))
 ·refine zs b6 U ?_
  iterate 7 refine zs b6 rfl ?_
  exact zf b6 U (zq tb U (AA (M4 false (Sh.AE h1).symm _ (AG U))))
theorem J8 {N:Nat} {p0:(List Ac)} {p1:Int} {p2:Int} {r:Int} (h0:GS N p0 p1 p2=some r):Ai Try.prog 102 [(ls AI p0),(i64 p1),(i64 p2)] [] (fun v st=>v=(i64 r)∧st=[]):=by
 unfold GS at h0
 refine ai Try.func102 U U U U (zr tb U U (AH fun K2 hK2=>zr tb U U ?_))
 obtain⟨o5,h1,h0⟩:=Sh.BZ h0
 have M5 :∀(_:Unit),o5=Sum.inr ()→∀s,Wk 0 s ⟨41,Aa [],[]⟩→K2 s:=by
  intro _ hq s hw
  subst o5
  try dsimp only at h0
  refine hK2 _ (AN hw (zr tb U U ?_))
  replace h0:=Sh.AE h0
  subst r
  exact AU (xr (Ah (L:=[(6,(i64 (-1)))]) (.same U)))
 refine Ab (Ay (σ:=Int) (fun n v=>Dq p0 p1 p2 n v=some o5) (fun i4=>⟨41,Aa [(0,(ls AI p0)),(1,(i64 p1)),(2,(i64 p2)),(7,(i64 i4))],[]⟩) N 0 h1 (AG U) (fun _ hv=>by rw[Dq] at hv;cases hv) ?_)
 rintro n i4 h1
 try dsimp only at h1 ⊢
 rw[Dq] at h1
 refine AH fun K7 hK7=>sr U fun K8 hK8=>zm tb 2 U (zl tb U U (zq tb U (dn hK8 U ?_)))
 refine ci h1 U ?_ ?_ <;> clear h1
 ·intro b9 h1
  refine AR (hK7 _ (AH fun K10 hK10=>Ab (AH fun K11 hK11=>bs h1 fun o13 h2 h1=>?_)))
  have M13 :∀(t12:Bool),o13=t12→∀s,Wk 0 s ⟨41,Aa [(0,(ls AI p0)),(1,(i64 p1)),(2,(i64 p2)),(7,(i64 i4)),(38,(.bool t12))],[]⟩→K11 s:=by
   intro t12 hq s hw
   subst o13
   try dsimp only at h1
   refine hK11 _ (AN hw ?_)
   refine ci h1 U ?_ ?_ <;> clear h1
   ·intro b14 h1
    refine zr tb U U ?_
    replace h1:=Sh.AE h1
    subst o5
    try dsimp only[id] at h0
    replace h0:=Sh.AE h0
    subst r
    exact AU (xr (Ah (L:=[(6,(i64 (Sh.w (i4+1))))]) (.same U)))
   ·intro b14 h1
    exact AR (hK10 _ (AL U (zm tb 3 U (AA (xi (Sh.w (i4+1)) h1 (AG U))))))
  refine AL U (zm tb 2 U (bs h2 fun c16 gc16 h2=>zx ER gc16 U U U (zm tb 2 U (zl tb U U (zm tb 2 U ?_)))))
  rcases Sh.Am h2 with ⟨b17,h2⟩ | ⟨b17,h2⟩
  ·refine zg tb b17 U (zg tb b17 U (B3 (v:=(.Al (AI c16) 0)) (Bw U U b17) rfl (CZ ER U U gc16 U) ?_))
   iterate 4 refine zg tb b17 rfl ?_
   refine zt b17 U (zq tb U ?_)
   rcases Sh.Am h2 with ⟨b18,h2⟩ | ⟨b18,h2⟩
   ·refine zg tb b18 U (zg tb b18 U (B3 (v:=(.Al (AI c16) 0)) (Bw U U b18) rfl (CZ ER U U gc16 U) ?_))
    iterate 4 refine zg tb b18 rfl ?_
    exact zt b18 U (AA (M13 (decide (c16.to=p2)) (Sh.AE h2).symm _ (AG U)))
   ·refine zs b18 U ?_
    iterate 6 refine zs b18 rfl ?_
    exact zf b18 U (AA (M13 false (Sh.AE h2).symm _ (AG U)))
  ·refine zs b17 U ?_
   iterate 6 refine zs b17 rfl ?_
   refine zf b17 U (zq tb U ?_)
   iterate 7 refine zs rfl rfl ?_
   exact zf U U (AA (M13 false (Sh.AE h2).symm _ (AG U)))
 ·intro b9 h1
  exact A5 (M5 () (Sh.AE h1).symm _ (AG U))
theorem Jr {N:Nat} {p0:Af} {p1:Int} {r:(List Int)} (h0:Fp N p0 p1=some r):Ai Try.prog 138 [(.agg [(ls AI p0.decls),(ls AJ p0.funcs)]),(i64 p1)] [] (fun v st=>v=(ow 0 0 r)∧st=[(ro 0 3 1 eI r)]):=by
 unfold Fp at h0
 refine ai Try.func138 U U U U (sr U fun K1 hK1=>Bl (m:=0) AM U U U U U (zq tb U (dn hK1 U (sr U fun K2 hK2=>?_))))
 refine A3 (m:=1) (l:=([]:List Int)) (enc:=eI) AM A4 (by decide) rfl U U U U U ?_
 refine zq tb U (dn hK2 U (AH fun K3 hK3=>zr tb U U (bs h0 fun o8 h1 h0=>?_)))
 have M8 :∀(l7:(List Int)),o8=l7→∀s,Wk 0 s ⟨53,Aa [(5,(ow 0 0 l7))],[(ro 0 3 1 eI l7)]⟩→K3 s:=by
  intro l7 hq s hw
  subst o8
  try dsimp only at h0
  refine hK3 _ (AN hw (zr tb U U ?_))
  replace h0:=Sh.AE h0
  subst r
  exact AU (xr (Ah (L:=[(4,(ow 0 0 l7))]) (.same U)))
 refine Ab (Ay (σ:=Int×(List Int)) (fun n v=>DP N p0 p1 n v.1 v.2=some o8) (fun (f5,l6)=>⟨53,Aa [(1,(i64 p1)),(2,(.ptr 0 0 0 0)),(5,(ow 1 0 l6)),(6,(i64 f5))],[(Ra p0.decls p0.funcs),(ro 0 3 1 eI l6)]⟩) N (0,[]) h1 (AG U) (fun _ hv=>by rw[DP] at hv;cases hv) ?_)
 rintro n ⟨f5,l6⟩ h1
 try dsimp only at h1 ⊢
 rw[DP] at h1
 refine AH fun K10 hK10=>sr U fun K11 hK11=>zm tb 3 U (zl tb U U (zq tb U (dn hK11 U ?_)))
 refine ci h1 U ?_ ?_ <;> clear h1
 ·intro b12 h1
  refine AR (hK10 _ (AH fun K13 hK13=>bs h1 fun o15 h2 h1=>?_))
  have M15 :∀(l14:(List Int)),o15=l14→∀s,Wk 0 s ⟨53,Aa [(1,(i64 p1)),(2,(.ptr 0 0 0 0)),(5,(ow 1 0 l14)),(6,(i64 f5))],[(Ra p0.decls p0.funcs),(ro 0 3 1 eI l14)]⟩→K13 s:=by
   intro l14 hq s hw
   subst o15
   try dsimp only at h1
   exact hK13 _ (AN hw (AL U (zm tb 3 U (AA (xi (Sh.w (f5+1),l14) h1 (AG U))))))
  refine Ab (sr U fun K16 hK16=>zm tb 3 U (bs h2 fun c17 gc17 h2=>zx DD gc17 U U U (zm tb 2 U (zl tb U U (zq tb U (dn hK16 U (AH fun K18 hK18=>bs h2 fun o20 h3 h2=>?_)))))))
  have M20 :∀(t19:Bool),o20=t19→∀s,Wk 0 s ⟨53,Aa [(1,(i64 p1)),(2,(.ptr 0 0 0 0)),(5,(ow 1 0 l6)),(6,(i64 f5)),(47,(.bool t19))],[(Ra p0.decls p0.funcs),(ro 0 3 1 eI l6)]⟩→K18 s:=by
   intro t19 hq s hw
   subst o20
   try dsimp only at h2
   refine hK18 _ (AN hw ?_)
   refine ci h2 U ?_ ?_ <;> clear h2
   ·intro b21 h2
    refine AL U (zm tb 2 U ?_)
    refine A3 (m:=2) (l:=[f5]) (enc:=eI) AM A4 (by decide) rfl U U U U U ?_
    refine bs h2 fun l22 gl22 h2=>CB (l2:=[f5]) AM A4 U U U U (EO U U) (fun _=>U) gl22 U (zq tb U ?_)
    exact AA (M15 l22 (Sh.AE h2).symm _ (by refine Wk.trans (EW (L:=[(1,(i64 p1)),(2,(.ptr 0 0 0 0)),(5,(ow 1 0 l22)),(6,(i64 f5))]) (st':=[(Ra p0.decls p0.funcs),(ro 0 3 1 eI l22),(ro 0 3 1 eI [f5])]) (.raw U U (.pure (AB fun _=>U) (.pure (AB fun _=>U) .nil))) (.same U)) ?_;exact AS [0,1] U (by decide) rfl U (.raw U U (.pure (AB fun _=>U) .nil)) (.same U)))
   ·intro b21 h2
    exact AR (M15 l6 (Sh.AE h2).symm _ (AG U))
  refine CC (by kernel_rfl) (by kernel_rfl) (by rfl) ?_
  iterate 3 refine yq tb rfl ?_
  rcases Sh.Am h3 with ⟨b23,h3⟩ | ⟨b23,h3⟩
  ·refine yg tb b23 U ?_
   iterate 4 refine yg tb b23 rfl ?_
   refine HN (v:=(.Al (AJ c17) 0)) (Bw U U b23) rfl (CZ DD U U gc17 U) ?_
   iterate 4 refine yg tb b23 rfl ?_
   refine bs h3 fun c24 gc24 h3=>HN (v:=(.Al (eI c24) 0)) (Bw U U b23) rfl (CZ A4 U U gc24 U) ?_
   iterate 4 refine yg tb b23 rfl ?_
   refine HN (v:=(.Al (AJ c17) 0)) (Bw U U b23) rfl (CZ DD U U gc17 U) ?_
   iterate 2 refine yg tb b23 rfl ?_
   refine bs h3 fun q25 gq25 h3=>BS (v:=(i64 q25)) (Bw U U b23) WV (J8 gq25) rfl U U ?_
   iterate 2 refine yg tb b23 rfl ?_
   exact yt b23 U (Ax (M20 (decide (q25=p1)) (Sh.AE h3).symm _ (AG U)))
  ·refine ys b23 U ?_
   iterate 20 refine ys b23 rfl ?_
   exact yf b23 U (Ax (M20 false (Sh.AE h3).symm _ (AG U)))
 ·intro b12 h1
  exact A5 (M8 l6 (Sh.AE h1).symm _ (AS [1] U (by decide) rfl U (.pure (AB fun _=>U) .nil) (.same U)))
theorem IW {N:Nat} {p0:(List Int)} {p1:Int} {r:Bool} (h0:E0 N p0 p1=some r):Ai Try.prog 50 [(ls eI p0),(i64 p1)] [] (fun v st=>v=(.bool r)∧st=[]):=by
 unfold E0 at h0
 refine ai Try.func50 U U U U (zr tb U U (AH fun K2 hK2=>zr tb U U ?_))
 obtain⟨o5,h1,h0⟩:=Sh.BZ h0
 have M5 :∀(_:Unit),o5=Sum.inr ()→∀s,Wk 0 s ⟨18,Aa [],[]⟩→K2 s:=by
  intro _ hq s hw
  subst o5
  try dsimp only at h0
  refine hK2 _ (AN hw (zr tb U U ?_))
  replace h0:=Sh.AE h0
  subst r
  exact AU (xr (Ah (L:=[(4,(.bool false))]) (.same U)))
 refine Ab (Ay (σ:=Int) (fun n v=>DH p0 p1 n v=some o5) (fun i4=>⟨18,Aa [(0,(ls eI p0)),(1,(i64 p1)),(5,(i64 i4))],[]⟩) N 0 h1 (AG U) (fun _ hv=>by rw[DH] at hv;cases hv) ?_)
 rintro n i4 h1
 try dsimp only at h1 ⊢
 rw[DH] at h1
 refine AH fun K7 hK7=>sr U fun K8 hK8=>zm tb 2 U (zl tb U U (zq tb U (dn hK8 U ?_)))
 refine ci h1 U ?_ ?_ <;> clear h1
 ·intro b9 h1
  refine AR (hK7 _ (AH fun K10 hK10=>Ab (sr U fun K11 hK11=>zm tb 2 U (bs h1 fun c12 gc12 h1=>zx A4 gc12 U U U (zm tb 3 U (dn hK11 U ?_))))))
  refine ci h1 U ?_ ?_ <;> clear h1
  ·intro b13 h1
   refine zr tb U U ?_
   replace h1:=Sh.AE h1
   subst o5
   try dsimp only[id] at h0
   replace h0:=Sh.AE h0
   subst r
   exact AU (xr (Ah (L:=[(4,(.bool true))]) (.same U)))
  ·intro b13 h1
   exact AR (hK10 _ (AL U (zm tb 3 U (AA (xi (Sh.w (i4+1)) h1 (AG U))))))
 ·intro b9 h1
  exact A5 (M5 () (Sh.AE h1).symm _ (AG U))
theorem HE {N:Nat} {p0:Af} {p1:(List Int)} {p2:Int} {r:Bool} (h0:FB N p0 p1 p2=some r):Ai Try.prog 136 [(.agg [(ls AI p0.decls),(ls AJ p0.funcs)]),(ls eI p1),(i64 p2)] [] (fun v st=>v=(.bool r)∧st=[]):=by
 unfold FB at h0
 refine ai Try.func136 U U U U (sr U fun K1 hK1=>Bl (m:=0) AM U U U U U (zq tb U (dn hK1 U (AH fun K2 hK2=>bs h0 fun o4 h1 h0=>?_))))
 have M4 :∀(t3:Bool),o4=t3→∀s,Wk 0 s ⟨24,Aa [(6,(.bool t3))],[]⟩→K2 s:=by
  intro t3 hq s hw
  subst o4
  try dsimp only at h0
  refine hK2 _ (AN hw ?_)
  replace h0:=Sh.AE h0
  subst r
  exact AU (xr (Ah (L:=[(6,(.bool t3))]) (.same U)))
 refine AL U (zm tb 3 U (bs h1 fun q5 gq5 h1=>zc Ul (HD gq5) rfl U U (zm tb 2 U ?_)))
 rcases Sh.Am h1 with ⟨b6,h1⟩ | ⟨b6,h1⟩
 ·refine zs b6 U ?_
  iterate 4 refine zs b6 rfl ?_
  refine zt b6 U (zq tb U ?_)
  iterate 3 refine zs rfl rfl ?_
  exact zt U U (zq tb U (AA (M4 true (Sh.AE h1).symm _ (As _ U))))
 ·refine zg tb b6 U (zg tb b6 U (bs h1 fun q7 gq7 h1=>Bz (v':=(ow 1 0 q7)) (Bw U U b6) Wb (Jr gq7) rfl U ⟨(Bi fun _=>U),trivial⟩ U U (B3 (v:=(i64 (Sh.len q7))) (Bw U U b6) rfl (CW Em U U U) (zg tb b6 U (zf b6 U (zq tb U ?_))))))
  rcases Sh.Am h1 with ⟨b8,h1⟩ | ⟨b8,h1⟩
  ·exact zs b8 U (zs b8 U (zs b8 U (zt b8 U (zq tb U (AA (M4 true (Sh.AE h1).symm _ (As _ U)))))))
  ·exact zg tb b8 U (zg tb b8 U (bs h1 fun q9 gq9 h1=>zd b8 Ur (IW gq9) rfl U U U (zf b8 U (zq tb U (AA (M4 q9 (Sh.AE h1).symm _ (As _ U)))))))
theorem Bm {p0:Int} {r:AP} (h0:Bt p0=some r):Ai Try.prog 110 [(i64 p0)] [] (fun v st=>v=(.agg [(i64 r.op),(i64 r.num),(ls AD r.kids)])∧st=[]):=by
 unfold Bt at h0
 refine D3 U (ai Try.func110 U U U U (sr U fun K1 hK1=>A1 (m:=0) AM EI U U (dn hK1 U (sr U fun K2 hK2=>zq tb U ?_))))
 refine A3 (m:=1) (l:=([]:List AP)) (enc:=AD) AM BV (by decide) rfl U (by simp only[List.map,Ap];rfl) rfl U U ?_
 refine zz (.agg [(i64 12),(i64 p0),(.own 1 0 (List.length ([]:List AP)))]) (EF U1 VA EI U U) rfl (Ad (Wk.A7 (L:=[(2,(.ptr 0 0 0 0)),(5,(.agg [(i64 12),(i64 p0),(.sl (List.map AD []))]))]) (st':=[FF,⟨1,50,3,[]⟩]) (id:=1) rfl (show 0≤1 by decide) (AB Ag) ⟨.rfl,(.agg ⟨.rfl,.rfl,(.Gj U),trivial⟩),trivial⟩ U) (Az AM BN U U U U U U (show 0+3≤3 by decide) rfl (dn hK2 U ?_)))
 replace h0:=Sh.AE h0
 subst r
 exact AU (Exists.intro _ (And.intro (Wk.refl _ _) (A9 (x:=.tmp 2) (off:=0) (cs:=[(i64 12),(i64 p0),(.sl (List.map AD []))]) (vs:=[(i64 12),(i64 p0),(.sl (List.map AD []))]) BN U U U (show 0+3≤3 by decide) rfl _ U)))
theorem H4 {N:Nat} {p0:(List Ac)} {p1:Int} {r:Int} (h0:FI N p0 p1=some r):Ai Try.prog 99 [(ls AI p0),(i64 p1)] [] (fun v st=>v=(i64 r)∧st=[]):=by
 unfold FI at h0
 refine ai Try.func99 U U U U ?_
 iterate 2 refine zr tb rfl rfl ?_
 refine AH fun K3 hK3=>zr tb U U (bs h0 fun o8 h1 h0=>?_)
 have M8 :∀(n7:Int),o8=n7→∀s,Wk 0 s ⟨21,Aa [(5,(i64 n7))],[]⟩→K3 s:=by
  intro n7 hq s hw
  subst o8
  try dsimp only at h0
  refine hK3 _ (AN hw (zr tb U U ?_))
  replace h0:=Sh.AE h0
  subst r
  exact AU (xr (Ah (L:=[(4,(i64 n7))]) (.same U)))
 refine Ab (Ay (σ:=Int×Int) (fun n v=>DT p0 p1 n v.1 v.2=some o8) (fun (n5,i6)=>⟨21,Aa [(0,(ls AI p0)),(1,(i64 p1)),(5,(i64 n5)),(6,(i64 i6))],[]⟩) N (0,0) h1 (AG U) (fun _ hv=>by rw[DT] at hv;cases hv) ?_)
 rintro n ⟨n5,i6⟩ h1
 try dsimp only at h1 ⊢
 rw[DT] at h1
 refine AH fun K10 hK10=>zr tb U U ?_
 refine ci h1 U ?_ ?_ <;> clear h1
 ·intro b12 h1
  refine AR (hK10 _ (AH fun K13 hK13=>Ab (AL U (zm tb 3 U (bs h1 fun c14 gc14 h1=>zx ER gc14 U U U (zm tb 2 U (zl tb U U (zm tb 2 U (dn hK13 U (AL U ?_))))))))))
  exact zm tb 3 U (AA (xi (Sh.w (n5+(Sh.len c14.cons)),Sh.w (i6+1)) h1 (AG U)))
 ·intro b12 h1
  exact A5 (M8 n5 (Sh.AE h1).symm _ (AG U))
theorem Hc {N:Nat} {p0:(List Ac)} {p1:Int} {r:(List Int)} (h0:E7 N p0 p1=some r):Ai Try.prog 101 [(ls AI p0),(i64 p1)] [] (fun v st=>v=(ow 0 0 r)∧st=[(ro 0 3 1 eI r)]):=by
 unfold E7 at h0
 refine ai Try.func101 U U U U (zr tb U U (sr U fun K2 hK2=>?_))
 refine A3 (m:=0) (l:=([]:List Int)) (enc:=eI) AM A4 (by decide) rfl U U U U U ?_
 refine zq tb U (dn hK2 U (AH fun K3 hK3=>sr U fun K4 hK4=>zm tb 2 U (zl tb U U (bs h0 fun q5 gq5 h0=>zc LB (CN gq5) rfl U U (zq tb U (dn hK4 U ?_))))))
 refine ci h0 U ?_ ?_ <;> clear h0
 ·intro b6 h0
  have b7:q5=false:=by simpa using b6
  refine zr tb U U ?_
  replace h0:=Sh.AE h0
  subst r
  exact AU (xr (Ah (L:=[(4,(.own 0 0 (List.length ([]:List Int))))]) (.same U)))
 ·intro b6 h0
  have b9:q5=true:=by simpa using b6
  refine AR (hK3 _ (AH fun K10 hK10=>zr tb U U (bs h0 fun o15 h1 h0=>?_)))
  have M15 :∀(l14:(List Int)),o15=l14→∀s,Wk 0 s ⟨35,Aa [(5,(ow 0 0 l14))],[(ro 0 3 1 eI l14)]⟩→K10 s:=by
   intro l14 hq s hw
   subst o15
   try dsimp only at h0
   refine hK10 _ (AN hw (zr tb U U ?_))
   replace h0:=Sh.AE h0
   subst r
   exact AU (xr (Ah (L:=[(4,(ow 0 0 l14))]) (.same U)))
  refine Ab (Ay (σ:=Int×(List Int)) (fun n v=>D7 N p0 p1 n v.1 v.2=some o15) (fun (i12,l13)=>⟨35,Aa [(0,(ls AI p0)),(1,(i64 p1)),(5,(ow 0 0 l13)),(6,(i64 i12))],[(ro 0 3 1 eI l13)]⟩) N (0,[]) h1 (AG U) (fun _ hv=>by rw[D7] at hv;cases hv) ?_)
  rintro n ⟨i12,l13⟩ h1
  try dsimp only at h1 ⊢
  rw[D7] at h1
  refine AH fun K17 hK17=>sr U fun K18 hK18=>zm tb 4 U (bs h1 fun c19 gc19 h1=>zx ER gc19 U U U (zm tb 2 U (zl tb U U (zq tb U (dn hK18 U ?_)))))
  refine ci h1 U ?_ ?_ <;> clear h1
  ·intro b20 h1
   refine AR (hK17 _ (AH fun K21 hK21=>Ab (AL U (zm tb 4 U (bs h1 fun q22 gq22 h1=>zc Wx (H4 gq22) rfl U U (zm tb 2 U ?_))))))
   refine A3 (m:=1) (l:=[Sh.w (q22+i12)]) (enc:=eI) AM A4 (by decide) rfl U U U U U ?_
   refine bs h1 fun l23 gl23 h1=>CB (l2:=[Sh.w (q22+i12)]) AM A4 U U U U (EO U U) (fun _=>U) gl23 U (zq tb U (dn hK21 U (AL U (zm tb 3 U ?_))))
   exact AA (xi (Sh.w (i12+1),l23) h1 (by refine Wk.trans (EW (L:=[(0,(ls AI p0)),(1,(i64 p1)),(5,(ow 0 0 l23)),(6,(i64 (Sh.w (i12+1))))]) (st':=[(ro 0 3 1 eI l23),(ro 0 3 1 eI [Sh.w (q22+i12)])]) (.pure (AB fun _=>U) (.pure (AB fun _=>U) .nil)) (.same U)) ?_;exact AS [0] U (by decide) rfl U (.pure (AB fun _=>U) .nil) (.same U)))
  ·intro b20 h1
   exact A5 (M15 l13 (Sh.AE h1).symm _ (AG U))
theorem II {N:Nat} {p0:(List Ac)} {p1:Int} {r:Int} (h0:Er N p0 p1=some r):Ai Try.prog 70 [(ls AI p0),(i64 p1)] [] (fun v st=>v=(i64 r)∧st=[]):=by
 unfold Er at h0
 refine ai Try.func70 U U U U (zr tb U U (AH fun K2 hK2=>zr tb U U ?_))
 obtain⟨o5,h1,h0⟩:=Sh.BZ h0
 have M5 :∀(_:Unit),o5=Sum.inr ()→∀s,Wk 0 s ⟨30,Aa [],[]⟩→K2 s:=by
  intro _ hq s hw
  subst o5
  try dsimp only at h0
  refine hK2 _ (AN hw (zr tb U U ?_))
  replace h0:=Sh.AE h0
  subst r
  exact AU (xr (Ah (L:=[(4,(i64 (-1)))]) (.same U)))
 refine Ab (Ay (σ:=Int) (fun n v=>Cs N p0 p1 n v=some o5) (fun i4=>⟨30,Aa [(0,(ls AI p0)),(1,(i64 p1)),(5,(i64 i4))],[]⟩) N 0 h1 (AG U) (fun _ hv=>by rw[Cs] at hv;cases hv) ?_)
 rintro n i4 h1
 try dsimp only at h1 ⊢
 rw[Cs] at h1
 refine AH fun K7 hK7=>sr U fun K8 hK8=>zm tb 2 U (zl tb U U (zq tb U (dn hK8 U ?_)))
 refine ci h1 U ?_ ?_ <;> clear h1
 ·intro b9 h1
  refine AR (hK7 _ (AH fun K10 hK10=>Ab (sr U fun K11 hK11=>zm tb 2 U (bs h1 fun q12 gq12 h1=>zc Wx (H4 gq12) rfl U U (zq tb U (dn hK11 U (sr U fun K13 hK13=>zm tb 5 U (bs h1 fun c14 gc14 h1=>?_))))))))
  refine zx ER gc14 U U U (zm tb 2 U (zl tb U U (zm tb 2 U (bs h1 fun q15 gq15 h1=>zc LB (CN gq15) rfl U U (dn hK13 U ?_)))))
  refine ci h1 U ?_ ?_ <;> clear h1
  ·intro b16 h1
   refine zr tb U U ?_
   replace h1:=Sh.AE h1
   subst o5
   try dsimp only[id] at h0
   replace h0:=Sh.AE h0
   subst r
   exact AU (xr (Ah (L:=[(4,(i64 (Sh.w (i4+1))))]) (.same U)))
  ·intro b16 h1
   exact AR (hK10 _ (AL U (zm tb 3 U (AA (xi (Sh.w (i4+1)) h1 (AG U))))))
 ·intro b9 h1
  exact A5 (M5 () (Sh.AE h1).symm _ (AG U))
theorem EE {N:Nat} {p0:(List Ac)} {p1:Int} {r:(List Int)} (h0:Bf N p0 p1=some r):Ai Try.prog 72 [(ls AI p0),(i64 p1)] [] (fun v st=>v=(ls eI r)∧st=[]):=by
 unfold Bf at h0
 refine ai Try.func72 U U U U (zr tb U U (sr U fun K2 hK2=>zm tb 2 U (bs h0 fun q3 gq3 h0=>zc Wv (II gq3) rfl U U (zq tb U (dn hK2 U (AH fun K4 hK4=>zr tb U U ?_))))))
 refine ci h0 U ?_ ?_ <;> clear h0
 ·intro b6 h0
  refine sr U fun K7 hK7=>?_
  refine A3 (m:=0) (l:=([]:List Int)) (enc:=eI) AM A4 (by decide) rfl U U U U U ?_
  refine zq tb U (dn hK7 U ?_)
  replace h0:=Sh.AE h0
  subst r
  exact AU (Exists.intro ⟨27,Aa [(4,(.sl (List.map eI [])))],[]⟩ (And.intro (by refine Wk.trans (Wk.A7 (L:=[(4,(.sl (List.map eI [])))]) (st':=[⟨1,3,1,[]⟩]) (id:=0) rfl (show 0≤0 by decide) (AB fun _=>U) ⟨(.A7 U),trivial⟩ U) ?_;exact AS [] U (by decide) rfl U .nil (.same U)) (And.intro U U)))
 ·intro b6 h0
  refine AR (hK4 _ (AH fun K8 hK8=>?_))
  refine CC (by kernel_rfl) (by kernel_rfl) (by rfl) ?_
  iterate 3 refine yq tb rfl ?_
  refine bs h0 fun c9 gc9 h0=>yx ER gc9 U U U ?_
  iterate 6 refine yq tb rfl ?_
  refine bs h0 fun q10 gq10 h0=>BS (v:=(i64 q10)) AM Wx (H4 gq10) rfl U U (yq tb U (bs h0 fun c11 gc11 h0=>yx J9 gc11 U U U ?_))
  iterate 3 refine yq tb rfl ?_
  refine Ax (hK8 _ ?_)
  replace h0:=Sh.AE h0
  subst r
  exact AU (xr (Ah (L:=[(4,(ls eI c11.fields))]) (.same U)))
theorem BH {p0:Int} {p1:Int} {p2:(List AP)} {r:AP} (h0:BQ p0 p1 p2=some r):Ai Try.prog 108 [(i64 p0),(i64 p1),(ls AD p2)] [] (fun v st=>v=(.agg [(i64 r.op),(i64 r.num),(ls AD r.kids)])∧st=[]):=by
 unfold BQ at h0
 refine D3 U (ai Try.func108 U U U U (sr U fun K1 hK1=>A1 (m:=0) AM EI U U (dn hK1 U (sr U fun K2 hK2=>zm tb 3 U (zz (.agg [(i64 p0),(i64 p1),(ls AD p2)]) (EF U1 VA EI U U) rfl (Az AM BN U U U U U U (show 0+3≤3 by decide) rfl (dn hK2 U ?_)))))))
 replace h0:=Sh.AE h0
 subst r
 exact AU (Exists.intro _ (And.intro (Wk.refl _ _) (A9 (x:=.tmp 6) (off:=0) (cs:=[(i64 p0),(i64 p1),(ls AD p2)]) (vs:=[(i64 p0),(i64 p1),(ls AD p2)]) BN U U U (show 0+3≤3 by decide) rfl _ U)))
theorem KV {s0_0:(List Int)} {s0_1:Int} {r:Int×Int} (h0:GU s0_0 s0_1=some r):Ai Try.prog 134 [(.ptr 0 0 0 0)] [(BM s0_0 s0_1)] (fun v st=>v=(i64 r.1)∧st=[(BM s0_0 r.2)]):=by
 unfold GU at h0
 refine ai Try.func134 U U U U (zr tb U U (sr U fun K2 hK2=>zm tb 2 U (bs h0 fun q3 gq3 h0=>?_)))
 refine Bc (rows0:=[(BM s0_0 s0_1)]) (rows1:=[(BM s0_0 q3.2)]) (st':=[(BM s0_0 q3.2)]) (v':=(i64 q3.1)) [0] AM Ez (Av gq3) rfl (by decide) rfl U (.raw U U .nil) rfl U (.raw U U .nil) .nil U U ?_
 refine zq tb U (bs h0 fun q4 gq4 h0=>?_)
 refine Bc (rows0:=[(BM s0_0 q3.2)]) (rows1:=[(BM s0_0 q4.2)]) (st':=[(BM s0_0 q4.2)]) (v':=(i64 q4.1)) [0] AM Ez (Av gq4) rfl (by decide) rfl U (.raw U U .nil) rfl U (.raw U U .nil) .nil U U ?_
 refine zq tb U (bs h0 fun q5 gq5 h0=>?_)
 refine Bc (rows0:=[(BM s0_0 q4.2)]) (rows1:=[(BM s0_0 q5.2)]) (st':=[(BM s0_0 q5.2)]) (v':=(i64 q5.1)) [0] AM Ez (Av gq5) rfl (by decide) rfl U (.raw U U .nil) rfl U (.raw U U .nil) .nil U U ?_
 refine XD (m:=1) (st':=[(BM s0_0 q5.2),(ro 0 3 1 eI [q3.1,q4.1,0,1,2,-1,3,q5.1,999,-998])]) (l:=[q3.1,q4.1,0,1,2,-1,3,q5.1,999,-998]) (enc:=eI) AM A4 (by decide) rfl U ⟨U,U,U,⟨U,U,U,⟨U,U,U,⟨U,U,U,⟨U,U,U,⟨U,U,U,⟨U,U,U,⟨U,U,U,⟨U,U,U,⟨U,U,U,trivial⟩⟩⟩⟩⟩⟩⟩⟩⟩⟩ U U U ?_
 refine Ad (Wk.A7 (L:=[(3,(.ptr 0 0 0 0)),(10,(ls eI [q3.1,q4.1,0,1,2,-1,3,q5.1,999,-998]))]) (st':=[(BM s0_0 q5.2),⟨1,3,1,[]⟩]) (id:=1) rfl (show 1≤1 by decide) (AB fun _=>U) ⟨.rfl,(.A7 U),trivial⟩ U) (bs h0 fun q6 gq6 h0=>?_)
 refine Bc (rows0:=[(BM s0_0 q5.2)]) (rows1:=[(BM s0_0 q6.2)]) (st':=[(BM s0_0 q6.2),⟨1,3,1,[]⟩]) (v':=(i64 q6.1)) [0] AM H5 (BU gq6) rfl (by decide) rfl U (.raw U U .nil) rfl U (.raw U U .nil) .nil U U ?_
 refine zq tb U (dn hK2 U ?_)
 replace h0:=Sh.AE h0
 subst r
 exact AU (xr (AS (L:=[(2,(i64 q6.1))]) (st':=[(BM s0_0 q6.2)]) [0] U (by decide) rfl U (.raw U U .nil) (.same U)))
theorem MW {N:Nat} {rec_spec_smallest:(List Int)→Int→(List Ar)→(List Ac)→Int→Option (AP×Int)} (hrec_spec_smallest :∀{s0_0:(List Int)} {s0_1:Int} {s1:(List Ar)} {p1_0:(List Ac)} {p2:Int} {r:AP×Int},rec_spec_smallest s0_0 s0_1 s1 p1_0 p2=some r→Ai Try.prog 137 [(.ptr 0 0 0 0),(.agg [(ls AI p1_0),(ow 1 0 s1)]),(i64 p2)] [(BM s0_0 s0_1),(ro 0 52 5 AJ s1)] (fun v st=>v=(.agg [(i64 r.1.op),(i64 r.1.num),(ls AD r.1.kids)])∧st=[(BM s0_0 r.2),(ro 0 52 5 AJ s1)])) {s0_0:(List Int)} {s0_1:Int} {s1:(List Ar)} {p1_0:(List Ac)} {p2:Int} {r:AP×Int} (h0:Fs N rec_spec_smallest s0_0 s0_1 s1 p1_0 p2=some r):Ai Try.prog 137 [(.ptr 0 0 0 0),(.agg [(ls AI p1_0),(ow 1 0 s1)]),(i64 p2)] [(BM s0_0 s0_1),(ro 0 52 5 AJ s1)] (fun v st=>v=(.agg [(i64 r.1.op),(i64 r.1.num),(ls AD r.1.kids)])∧st=[(BM s0_0 r.2),(ro 0 52 5 AJ s1)]):=by
 unfold Fs at h0
 refine Ai.wk (r0:=(.agg [(i64 r.1.op),(i64 r.1.num),(ls AD r.1.kids)])) (st0:=[(BM s0_0 r.2),(ro 0 52 5 AJ s1),(NN r.1.op r.1.num r.1.kids)]) ?_ (EG (L:=[(0,(.agg [(i64 r.1.op),(i64 r.1.num),(ls AD r.1.kids)]))]) (st':=[(BM s0_0 r.2),(ro 0 52 5 AJ s1)]) [0,1] U (by decide) rfl U (.raw U (.pure (AB fun _=>U) trivial)) (.same U))
 refine ai Try.func137 U U U U (sr U fun K1 hK1=>Bl (m:=2) AM U U U U U (A1 (m:=3) AM EI U U (dn hK1 U (sr U fun K2 hK2=>zm tb 3 U (bs h0 fun q3 gq3 h0=>Bz (v':=(ow 4 0 q3)) AM Sc (Hc gq3) rfl U ⟨(Bi fun _=>U),trivial⟩ U U (zq tb U (dn hK2 U (AH fun K4 hK4=>?_))))))))
 refine sr U fun K5 hK5=>zq tb U (zz (i64 (Sh.len q3)) (CW Em U U U) rfl (zq tb U (dn hK5 U ?_)))
 refine ci h0 U ?_ ?_ <;> clear h0
 ·intro b6 h0
  refine sr U fun K7 hK7=>zq tb U (bs h0 fun c8 gc8 h0=>zz (.ptr 4 0 (Int.toNat 0) 0) (Bn A4 U U U U gc8) rfl (zz (i64 c8) (B1 F6 U U (Bs gc8) rfl) rfl (zq tb U (dn hK7 U (AH fun K9 hK9=>bs h0 fun o12 h1 h0=>?_)))))
  have M12 :∀(c10:Int) (f11:Int),o12=(c10,f11)→∀s,Wk 2 s ⟨118,Aa [(0,(.ptr 0 0 0 0)),(2,(i64 p2)),(4,(.ptr 2 0 0 0)),(6,(.ptr 3 0 0 0)),(7,(ow 4 0 q3)),(8,(i64 c10))],[(BM s0_0 f11),(ro 0 52 5 AJ s1),⟨0,31,2,[[(ls AI p1_0),(ow 1 0 s1)]]⟩,FF,(ro 0 3 1 eI q3)]⟩→K9 s:=by
   intro c10 f11 hq s hw
   subst o12
   try dsimp only at h0
   refine hK9 _ (AN hw (AH fun K13 hK13=>bs h0 fun o15 h1 h0=>?_))
   have M15 :∀(c14:Int),o15=c14→∀s,Wk 2 s ⟨118,Aa [(0,(.ptr 0 0 0 0)),(4,(.ptr 2 0 0 0)),(6,(.ptr 3 0 0 0)),(8,(i64 c14))],[(BM s0_0 f11),(ro 0 52 5 AJ s1),⟨0,31,2,[[(ls AI p1_0),(ow 1 0 s1)]]⟩,FF]⟩→K13 s:=by
    intro c14 hq s hw
    subst o15
    try dsimp only at h0
    refine hK13 _ (AN hw (sr U fun K16 hK16=>?_))
    refine A3 (m:=4) (l:=([]:List AP)) (enc:=AD) AM BV (by decide) rfl U (by simp only[List.map,Ap];rfl) rfl U U ?_
    refine zq tb U (dn hK16 U (sr U fun K17 hK17=>zm tb 3 U (bs h0 fun q18 gq18 h0=>zc Qb (EE gq18) rfl U U (zq tb U (dn hK17 U (AH fun K19 hK19=>zr tb U U (bs h0 fun o26 h1 h0=>?_)))))))
    have M26 :∀(f24:Int) (l25:(List AP)),o26=(f24,l25)→∀s,Wk 2 s ⟨118,Aa [(6,(.ptr 2 0 0 0)),(8,(i64 c14)),(9,(ow 3 0 l25))],[(BM s0_0 f24),(ro 0 52 5 AJ s1),FF,(ro 0 50 3 AD l25)]⟩→K19 s:=by
     intro f24 l25 hq s hw
     subst o26
     try dsimp only at h0
     refine hK19 _ (AN hw (sr U fun K27 hK27=>zm tb 2 U (Ad (Wk.A7 (L:=[(6,(.ptr 2 0 0 0)),(68,(i64 c14)),(69,(ls AD l25))]) (st':=[(BM s0_0 f24),(ro 0 52 5 AJ s1),FF,⟨1,50,3,[]⟩]) (id:=3) rfl (show 2≤3 by decide) (AB Ag) ⟨.rfl,.rfl,(.A7 U),trivial⟩ U) (bs h0 fun q28 gq28 h0=>zc (v':=(.agg [(i64 q28.op),(i64 q28.num),(ls AD q28.kids)])) DB (BH gq28) rfl U U (Az AM BN U U U U U U (show 0+3≤3 by decide) rfl (dn hK27 U ?_))))))
     replace h0:=Sh.AE h0
     subst r
     exact AU (Exists.intro _ (And.intro ((AS (L:=[(6,(.ptr 2 0 0 0))]) (st':=[(BM s0_0 f24),(ro 0 52 5 AJ s1),(NN q28.op q28.num q28.kids)]) [0,1,2] U (by decide) rfl U (.raw U U (.pure (AB fun _=>U) (.raw U U .nil))) (.same U)).trans (Ah (L:=[(6,(.ptr 2 0 0 0))]) (.same U))) (A9 (x:=.tmp 6) (off:=0) (cs:=[(i64 q28.op),(i64 q28.num),(ls AD q28.kids)]) (vs:=[(i64 q28.op),(i64 q28.num),(ls AD q28.kids)]) BN U U U (show 0+3≤3 by decide) rfl _ ⟨U,U⟩)))
    refine Ab (Ay (σ:=Int×Int×(List AP)) (fun n v=>B9 s0_0 s1 p1_0 q18 rec_spec_smallest n v.1 v.2.1 v.2.2=some o26) (fun (i21,f22,l23)=>⟨118,Aa [(0,(.ptr 0 0 0 0)),(4,(.ptr 2 0 0 0)),(6,(.ptr 3 0 0 0)),(8,(i64 c14)),(9,(ow 4 0 l23)),(10,(ls eI q18)),(11,(i64 i21))],[(BM s0_0 f22),(ro 0 52 5 AJ s1),⟨0,31,2,[[(ls AI p1_0),(ow 1 0 s1)]]⟩,FF,(ro 0 50 3 AD l23)]⟩) N (0,f11,[]) h1 (AG U) (fun _ hv=>by rw[B9] at hv;cases hv) ?_)
    rintro n ⟨i21,f22,l23⟩ h1
    try dsimp only at h1 ⊢
    rw[B9] at h1
    refine AH fun K29 hK29=>sr U fun K30 hK30=>zm tb 2 U (zl tb U U (zq tb U (dn hK30 U ?_)))
    refine ci h1 U ?_ ?_ <;> clear h1
    ·intro b31 h1
     refine AR (hK29 _ (AH fun K32 hK32=>Ab ?_))
     refine BO [(ro 0 52 5 AJ s1),⟨0,31,2,[[(ls AI p1_0),(ow 1 0 s1)]]⟩,FF,(ro 0 50 3 AD l23)] 9 (by kernel_rfl) (by kernel_rfl) (by kernel_rfl) (by rfl) ?_
     refine BD (ow 4 0 l23) AM U (fun _ _=>BL U) (BD (.ptr 0 0 0 0) AM U (fun _ _=>BL U) (BD (.agg [(ls AI p1_0),(ow 1 0 s1)]) AM U (fun _ _=>A9 FA U U U (show 0+2≤2 by decide) rfl) (BD (ls eI q18) AM U (fun _ _=>BL U) (BD (i64 i21) AM U (fun _ _=>BL U) (bs h1 fun c33 gc33 h1=>BD (.Al (eI c33) 0) AM U (fun _ _=>CZ A4 U U gc33 U) (BD (i64 c33) AM U (fun _ _=>Fm F6 U U) (bs h1 fun q34 gq34 h1=>?_)))))))
     refine E2 (rows0:=[(BM s0_0 f22),(ro 0 52 5 AJ s1)]) (rows1:=[(BM s0_0 q34.2),(ro 0 52 5 AJ s1)]) (v':=(.agg [(i64 q34.1.op),(i64 q34.1.num),(ls AD q34.1.kids)])) (y0:=(BM s0_0 q34.2)) [0,1] AM UK (hrec_spec_smallest gq34) rfl (by decide) rfl U (.raw U U (.pure (AB fun _=>U) .nil)) rfl U (fun _=>(.raw U U (.pure (AB fun _=>U) .nil))) (fun _=>U) rfl ?_
     refine D9 AM (fun x0 zz=>E9 (l:=[q34.1]) (enc:=AD) AM BV (by decide) rfl U U (by simp only[List.map,Ap];rfl) rfl (AB Ag) (Ax U)) ?_
     exact Di U (bs h1 fun l35 gl35 h1=>CB (l2:=[q34.1]) AM BV U U U U OP B8 gl35 U (zq tb U (dn hK32 U (AL U (zm tb 3 U (AA (xi (Sh.w (i21+1),q34.2,l35) h1 (CA (L:=[(0,(.ptr 0 0 0 0)),(4,(.ptr 2 0 0 0)),(6,(.ptr 3 0 0 0)),(8,(i64 c14)),(9,(ow 4 0 l35)),(10,(ls eI q18)),(11,(i64 (Sh.w (i21+1))))]) (st':=[(BM s0_0 q34.2),(ro 0 52 5 AJ s1),⟨0,31,2,[[(ls AI p1_0),(ow 1 0 s1)]]⟩,FF,(ro 0 50 3 AD l35)]) (.raw U U U (.pure U (AB fun _=>U) (.raw U U U (.raw U U U (.pure U (AB Ag) .nil))))) (.same U)))))))))
    ·intro b31 h1
     exact A5 (M26 f22 l23 (Sh.AE h1).symm _ (AS [0,1,3,4] U (by decide) rfl U (.raw U U (.pure (AB fun _=>U) (.raw U U (.pure (AB Ag) .nil)))) (.same U)))
   refine sr U fun K36 hK36=>zm tb 3 U (bs h1 fun q37 gq37 h1=>zc Qb (EE gq37) rfl U U (zq tb U (bs h1 fun q38 gq38 h1=>zc Ur (IW gq38) rfl U U (dn hK36 U ?_))))
   refine ci h1 U ?_ ?_ <;> clear h1
   ·intro b39 h1
    refine AL U (zq tb U (zz (.ptr 4 0 (Int.toNat 0) 0) (Bn A4 U U U U gc8) rfl (zz (i64 c8) (B1 F6 U U (Bs gc8) rfl) rfl (zq tb U ?_))))
    exact AA (M15 c8 (Sh.AE h1).symm _ (AS [0,1,2,3] U (by decide) rfl U (.raw U U (.pure (AB fun _=>U) (.raw U U (.raw U U .nil)))) (.same U)))
   ·intro b39 h1
    exact AR (M15 c10 (Sh.AE h1).symm _ (AS [0,1,2,3] U (by decide) rfl U (.raw U U (.pure (AB fun _=>U) (.raw U U (.raw U U .nil)))) (.same U)))
  refine AH fun K40 hK40=>bs h1 fun o43 h2 h1=>?_
  have M43 :∀(t41:Bool) (f42:Int),o43=(t41,f42)→∀s,Wk 2 s ⟨118,Aa [(0,(.ptr 0 0 0 0)),(2,(i64 p2)),(4,(.ptr 2 0 0 0)),(6,(.ptr 3 0 0 0)),(7,(ow 4 0 q3)),(8,(i64 c8)),(34,(.bool t41))],[(BM s0_0 f42),(ro 0 52 5 AJ s1),⟨0,31,2,[[(ls AI p1_0),(ow 1 0 s1)]]⟩,FF,(ro 0 3 1 eI q3)]⟩→K40 s:=by
   intro t41 f42 hq s hw
   subst o43
   try dsimp only at h1
   refine hK40 _ (AN hw ?_)
   refine ci h1 U ?_ ?_ <;> clear h1
   ·intro b44 h1
    exact AL U (zq tb U (bs h1 fun c45 gc45 h1=>zz (.ptr 4 0 (Int.toNat 1) 0) (Bn A4 U U U U gc45) rfl (zz (i64 c45) (B1 F6 U U (Bs gc45) rfl) rfl (zq tb U (AA (M12 c45 f42 (Sh.AE h1).symm _ (AG U)))))))
   ·intro b44 h1
    exact AR (M12 c8 f42 (Sh.AE h1).symm _ (AG U))
  refine AL U (zq tb U (zz (i64 (Sh.len q3)) (CW Em U U U) rfl (zm tb 2 U ?_)))
  rcases Sh.Am h2 with ⟨b46,h2⟩ | ⟨b46,h2⟩
  ·refine zg tb b46 U (bs h2 fun q47 gq47 h2=>?_)
   refine Bc (rows0:=[(BM s0_0 s0_1)]) (rows1:=[(BM s0_0 q47.2)]) (st':=[(BM s0_0 q47.2),(ro 0 52 5 AJ s1),⟨0,31,2,[[(ls AI p1_0),(ow 1 0 s1)]]⟩,FF,(ro 0 3 1 eI q3)]) (v':=(i64 q47.1)) [0] (Bw U U b46) Ez (Av gq47) rfl (by decide) rfl U (.raw U U .nil) rfl U (.raw U U .nil) .nil U U ?_
   exact zg tb b46 U (zt b46 U (AA (M43 (decide (q47.1=0)) q47.2 (Sh.AE h2).symm _ (AG U))))
  ·exact zs b46 U (zs b46 U (zs b46 U (zf b46 U (AA (M43 false s0_1 (Sh.AE h2).symm _ (AG U))))))
 ·intro b6 h0
  refine AR (hK4 _ (sr U fun K48 hK48=>zm tb 2 U (bs h0 fun q49 gq49 h0=>JC (v':=(ow 5 0 q49)) AM Wb (Jr gq49) rfl (.agg (.val U (.own U U (fun _=>U) .nil)) (.val U .nil)) rfl (Xx (fun _=>U) trivial) rfl U (zq tb U (dn hK48 U (AH fun K50 hK50=>AH fun K51 hK51=>bs h0 fun o53 h1 h0=>?_))))))
  have M53 :∀(t52:Bool),o53=t52→∀s,Wk 2 s ⟨118,Aa [(0,(.ptr 0 0 0 0)),(4,(.ptr 2 0 0 0)),(6,(.ptr 3 0 0 0)),(12,(ow 4 0 q49)),(80,(.bool t52))],[(BM s0_0 s0_1),(ro 0 52 5 AJ s1),⟨0,31,2,[[(ls AI p1_0),(ow 1 0 s1)]]⟩,FF,(ro 0 3 1 eI q49)]⟩→K51 s:=by
   intro t52 hq s hw
   subst o53
   try dsimp only at h0
   refine hK51 _ (AN hw ?_)
   refine ci h0 U ?_ ?_ <;> clear h0
   ·intro b54 h0
    refine sr U fun K55 hK55=>zm tb 3 U (zz (i64 (Sh.len q49)) (CW Em U U U) rfl (bs h0 fun q56 gq56 h0=>?_))
    refine Bc (rows0:=[(BM s0_0 s0_1)]) (rows1:=[(BM s0_0 q56.2)]) (st':=[(BM s0_0 q56.2),(ro 0 52 5 AJ s1),⟨0,31,2,[[(ls AI p1_0),(ow 1 0 s1)]]⟩,FF,(ro 0 3 1 eI q49)]) (v':=(i64 q56.1)) [0] AM Ez (Av gq56) rfl (by decide) rfl U (.raw U U .nil) rfl U (.raw U U .nil) .nil U U ?_
    refine bs h0 fun c57 gc57 h0=>zz (.ptr 4 0 (Int.toNat q56.1) 0) (Bn A4 U U U U gc57) rfl (zz (i64 c57) (B1 F6 U U (Bs gc57) rfl) rfl (zq tb U (dn hK55 U (sr U fun K58 hK58=>zm tb 3 U (bs h0 fun c59 gc59 h0=>zz (.ptr 1 0 (Int.toNat c57) 0) (Bn DD U U U U gc59) rfl (zq tb U (zz (ls eI c59.params) (B1 Le U U (Bs gc59) rfl) rfl (zq tb U ?_))))))))
    refine dn hK58 U (sr U fun K60 hK60=>?_)
    refine A3 (m:=5) (l:=([]:List AP)) (enc:=AD) AM BV (by decide) rfl U (by simp only[List.map,Ap];rfl) rfl U U ?_
    refine zq tb U (dn hK60 U (AH fun K61 hK61=>zr tb U U (bs h0 fun o68 h1 h0=>?_)))
    have M68 :∀(f66:Int) (l67:(List AP)),o68=(f66,l67)→∀s,Wk 2 s ⟨118,Aa [(6,(.ptr 2 0 0 0)),(13,(i64 c57)),(15,(ow 3 0 l67))],[(BM s0_0 f66),(ro 0 52 5 AJ s1),FF,(ro 0 50 3 AD l67)]⟩→K61 s:=by
     intro f66 l67 hq s hw
     subst o68
     try dsimp only at h0
     refine hK61 _ (AN hw (sr U fun K69 hK69=>zm tb 2 U (Ad (Wk.A7 (L:=[(6,(.ptr 2 0 0 0)),(112,(i64 c57)),(113,(ls AD l67))]) (st':=[(BM s0_0 f66),(ro 0 52 5 AJ s1),FF,⟨1,50,3,[]⟩]) (id:=3) rfl (show 2≤3 by decide) (AB Ag) ⟨.rfl,.rfl,(.A7 U),trivial⟩ U) (bs h0 fun q70 gq70 h0=>zc (v':=(.agg [(i64 q70.op),(i64 q70.num),(ls AD q70.kids)])) DB (BH gq70) rfl U U (Az AM BN U U U U U U (show 0+3≤3 by decide) rfl (dn hK69 U ?_))))))
     replace h0:=Sh.AE h0
     subst r
     exact AU (Exists.intro _ (And.intro ((AS (L:=[(6,(.ptr 2 0 0 0))]) (st':=[(BM s0_0 f66),(ro 0 52 5 AJ s1),(NN q70.op q70.num q70.kids)]) [0,1,2] U (by decide) rfl U (.raw U U (.pure (AB fun _=>U) (.raw U U .nil))) (.same U)).trans (Ah (L:=[(6,(.ptr 2 0 0 0))]) (.same U))) (A9 (x:=.tmp 6) (off:=0) (cs:=[(i64 q70.op),(i64 q70.num),(ls AD q70.kids)]) (vs:=[(i64 q70.op),(i64 q70.num),(ls AD q70.kids)]) BN U U U (show 0+3≤3 by decide) rfl _ ⟨U,U⟩)))
    refine Ab (Ay (σ:=Int×Int×(List AP)) (fun n v=>Cp c59 s0_0 s1 p1_0 rec_spec_smallest n v.1 v.2.1 v.2.2=some o68) (fun (i63,f64,l65)=>⟨118,Aa [(0,(.ptr 0 0 0 0)),(4,(.ptr 2 0 0 0)),(6,(.ptr 3 0 0 0)),(13,(i64 c57)),(14,(ls eI c59.params)),(15,(ow 4 0 l65)),(16,(i64 i63))],[(BM s0_0 f64),(ro 0 52 5 AJ s1),⟨0,31,2,[[(ls AI p1_0),(ow 1 0 s1)]]⟩,FF,(ro 0 50 3 AD l65)]⟩) N (0,q56.2,[]) h1 (AS [0,1,2,3,5] U (by decide) rfl U (.raw U U (.pure (AB fun _=>U) (.raw U U (.raw U U (.pure (AB Ag) .nil))))) (.same U)) (fun _ hv=>by rw[Cp] at hv;cases hv) ?_)
    rintro n ⟨i63,f64,l65⟩ h1
    try dsimp only at h1 ⊢
    rw[Cp] at h1
    refine AH fun K71 hK71=>sr U fun K72 hK72=>zm tb 3 U (zl tb U U (zq tb U (dn hK72 U ?_)))
    refine ci h1 U ?_ ?_ <;> clear h1
    ·intro b73 h1
     refine AR (hK71 _ (AH fun K74 hK74=>Ab ?_))
     refine BO [(ro 0 52 5 AJ s1),⟨0,31,2,[[(ls AI p1_0),(ow 1 0 s1)]]⟩,FF,(ro 0 50 3 AD l65)] 9 (by kernel_rfl) (by kernel_rfl) (by kernel_rfl) (by rfl) ?_
     refine BD (ow 4 0 l65) AM U (fun _ _=>BL U) (BD (.ptr 0 0 0 0) AM U (fun _ _=>BL U) (BD (.agg [(ls AI p1_0),(ow 1 0 s1)]) AM U (fun _ _=>A9 FA U U U (show 0+2≤2 by decide) rfl) (BD (ls eI c59.params) AM U (fun _ _=>BL U) (BD (i64 i63) AM U (fun _ _=>BL U) (bs h1 fun c75 gc75 h1=>BD (.Al (eI c75) 0) AM U (fun _ _=>CZ A4 U U gc75 U) (BD (i64 c75) AM U (fun _ _=>Fm F6 U U) (bs h1 fun q76 gq76 h1=>?_)))))))
     refine E2 (rows0:=[(BM s0_0 f64),(ro 0 52 5 AJ s1)]) (rows1:=[(BM s0_0 q76.2),(ro 0 52 5 AJ s1)]) (v':=(.agg [(i64 q76.1.op),(i64 q76.1.num),(ls AD q76.1.kids)])) (y0:=(BM s0_0 q76.2)) [0,1] AM UK (hrec_spec_smallest gq76) rfl (by decide) rfl U (.raw U U (.pure (AB fun _=>U) .nil)) rfl U (fun _=>(.raw U U (.pure (AB fun _=>U) .nil))) (fun _=>U) rfl ?_
     refine D9 AM (fun x0 zz=>E9 (l:=[q76.1]) (enc:=AD) AM BV (by decide) rfl U U (by simp only[List.map,Ap];rfl) rfl (AB Ag) (Ax U)) ?_
     exact Di U (bs h1 fun l77 gl77 h1=>CB (l2:=[q76.1]) AM BV U U U U OP B8 gl77 U (zq tb U (dn hK74 U (AL U (zm tb 3 U (AA (xi (Sh.w (i63+1),q76.2,l77) h1 (CA (L:=[(0,(.ptr 0 0 0 0)),(4,(.ptr 2 0 0 0)),(6,(.ptr 3 0 0 0)),(13,(i64 c57)),(14,(ls eI c59.params)),(15,(ow 4 0 l77)),(16,(i64 (Sh.w (i63+1))))]) (st':=[(BM s0_0 q76.2),(ro 0 52 5 AJ s1),⟨0,31,2,[[(ls AI p1_0),(ow 1 0 s1)]]⟩,FF,(ro 0 50 3 AD l77)]) (.raw U U U (.pure U (AB fun _=>U) (.raw U U U (.raw U U U (.pure U (AB Ag) .nil))))) (.same U)))))))))
    ·intro b73 h1
     exact A5 (M68 f64 l65 (Sh.AE h1).symm _ (AS [0,1,3,4] U (by decide) rfl U (.raw U U (.pure (AB fun _=>U) (.raw U U (.pure (AB Ag) .nil)))) (.same U)))
   ·intro b54 h0
    refine AR (hK50 _ (sr U fun K78 hK78=>zq tb U (bs h0 fun q79 gq79 h0=>?_)))
    refine Bc (rows0:=[(BM s0_0 s0_1)]) (rows1:=[(BM s0_0 q79.2)]) (st':=[(BM s0_0 q79.2),(ro 0 52 5 AJ s1),⟨0,31,2,[[(ls AI p1_0),(ow 1 0 s1)]]⟩,FF,(ro 0 3 1 eI q49)]) (v':=(i64 q79.1)) [0] AM W1 (KV gq79) rfl (by decide) rfl U (.raw U U .nil) rfl U (.raw U U .nil) .nil U U ?_
    refine bs h0 fun q80 gq80 h0=>zc (v':=(.agg [(i64 q80.op),(i64 q80.num),(ls AD q80.kids)])) Gw (Br gq80) rfl U U (Az AM BN U U U U U U (show 0+3≤3 by decide) rfl (dn hK78 U ?_))
    replace h0:=Sh.AE h0
    subst r
    exact AU (Exists.intro _ (And.intro ((AS (L:=[(6,(.ptr 2 0 0 0))]) (st':=[(BM s0_0 q79.2),(ro 0 52 5 AJ s1),(NN q80.op q80.num q80.kids)]) [0,1,3] U (by decide) rfl U (.raw U U (.pure (AB fun _=>U) (.raw U U .nil))) (.same U)).trans (Ah (L:=[(6,(.ptr 2 0 0 0))]) (.same U))) (A9 (x:=.tmp 6) (off:=0) (cs:=[(i64 q80.op),(i64 q80.num),(ls AD q80.kids)]) (vs:=[(i64 q80.op),(i64 q80.num),(ls AD q80.kids)]) BN U U U (show 0+3≤3 by decide) rfl _ ⟨U,U⟩)))
  refine AL U (zm tb 3 U ?_)
  rcases Sh.Am h1 with ⟨b81,h1⟩ | ⟨b81,h1⟩
  ·refine zg tb b81 U (B3 (v:=(i64 (Sh.len q49))) (Bw U U b81) rfl (CW Em U U U) (zg tb b81 U (zt b81 U ?_)))
   exact AA (M53 (decide (0 < (Sh.len q49))) (Sh.AE h1).symm _ (AS [0,1,2,3,5] U (by decide) rfl U (.raw U U (.pure (AB fun _=>U) (.raw U U (.raw U U (.pure (AB fun _=>U) .nil))))) (.same U)))
  ·refine zs b81 U (zs b81 U (zs b81 U (zf b81 U ?_)))
   exact AA (M53 false (Sh.AE h1).symm _ (AS [0,1,2,3,5] U (by decide) rfl U (.raw U U (.pure (AB fun _=>U) (.raw U U (.raw U U (.pure (AB fun _=>U) .nil))))) (.same U)))

theorem MY {N:Nat} :∀(n:Nat),∀{s0_0:(List Int)} {s0_1:Int} {s1:(List Ar)} {p1_0:(List Ac)} {p2:Int} {r:AP×Int},CM N n s0_0 s0_1 s1 p1_0 p2=some r→Ai Try.prog 137 [(.ptr 0 0 0 0),(.agg [(ls AI p1_0),(ow 1 0 s1)]),(i64 p2)] [(BM s0_0 s0_1),(ro 0 52 5 AJ s1)] (fun v st=>v=(.agg [(i64 r.1.op),(i64 r.1.num),(ls AD r.1.kids)])∧st=[(BM s0_0 r.2),(ro 0 52 5 AJ s1)]):=by
 intro n
 induction n with
 | zero=>intro s0_0 s0_1 s1 p1_0 p2 r h0;cases h0
 | succ n ih=>
  intro s0_0 s0_1 s1 p1_0 p2 r h0
  rw[CM] at h0
  exact MW (fun h=>ih h) h0
theorem NY {N:Nat} :∀{s0_0:(List Int)} {s0_1:Int} {s1:(List Ar)} {p1_0:(List Ac)} {p2:Int} {r:AP×Int},JY N s0_0 s0_1 s1 p1_0 p2=some r→Ai Try.prog 137 [(.ptr 0 0 0 0),(.agg [(ls AI p1_0),(ow 1 0 s1)]),(i64 p2)] [(BM s0_0 s0_1),(ro 0 52 5 AJ s1)] (fun v st=>v=(.agg [(i64 r.1.op),(i64 r.1.num),(ls AD r.1.kids)])∧st=[(BM s0_0 r.2),(ro 0 52 5 AJ s1)]):=by
 intro s0_0 s0_1 s1 p1_0 p2 r h0
 exact MY N h0
theorem GV {N:Nat} {s0_0:(List Int)} {s0_1:Int} {s1:(List Ar)} {p1_0:(List Ac)} {p2:(List Int)} {p3:Int} {r:AP×Int} (h0:Fh N s0_0 s0_1 s1 p1_0 p2 p3=some r):Ai Try.prog 127 [(.ptr 0 0 0 0),(.agg [(ls AI p1_0),(ow 1 0 s1)]),(ls eI p2),(i64 p3)] [(BM s0_0 s0_1),(ro 0 52 5 AJ s1)] (fun v st=>v=(.agg [(i64 r.1.op),(i64 r.1.num),(ls AD r.1.kids)])∧st=[(BM s0_0 r.2),(ro 0 52 5 AJ s1)]):=by
 unfold Fh at h0
 refine Ai.wk (r0:=(.agg [(i64 r.1.op),(i64 r.1.num),(ls AD r.1.kids)])) (st0:=[(BM s0_0 r.2),(ro 0 52 5 AJ s1),(NN r.1.op r.1.num r.1.kids)]) ?_ (EG (L:=[(0,(.agg [(i64 r.1.op),(i64 r.1.num),(ls AD r.1.kids)]))]) (st':=[(BM s0_0 r.2),(ro 0 52 5 AJ s1)]) [0,1] U (by decide) rfl U (.raw U (.pure (AB fun _=>U) trivial)) (.same U))
 refine ai Try.func127 U U U U (sr U fun K1 hK1=>Bl (m:=2) AM U U U U U (A1 (m:=3) AM EI U U (dn hK1 U (sr U fun K2 hK2=>zm tb 2 U (bs h0 fun q3 gq3 h0=>Bz (v':=(ow 4 0 q3)) AM YX (Mc gq3) rfl U ⟨(Bi fun _=>U),trivial⟩ U U (zq tb U (dn hK2 U (AH fun K4 hK4=>?_))))))))
 refine AH fun K5 hK5=>bs h0 fun o8 h1 h0=>?_
 have M8 :∀(t6:Bool) (f7:Int),o8=(t6,f7)→∀s,Wk 2 s ⟨40,Aa [(0,(.ptr 0 0 0 0)),(3,(i64 p3)),(5,(.ptr 2 0 0 0)),(8,(.ptr 3 0 0 0)),(9,(ow 4 0 q3)),(27,(.bool t6))],[(BM s0_0 f7),(ro 0 52 5 AJ s1),⟨0,31,2,[[(ls AI p1_0),(ow 1 0 s1)]]⟩,FF,(ro 0 3 1 eI q3)]⟩→K5 s:=by
  intro t6 f7 hq s hw
  subst o8
  try dsimp only at h0
  refine hK5 _ (AN hw ?_)
  refine ci h0 U ?_ ?_ <;> clear h0
  ·intro b9 h0
   refine sr U fun K10 hK10=>zm tb 3 U (zz (i64 (Sh.len q3)) (CW Em U U U) rfl (bs h0 fun q11 gq11 h0=>?_))
   refine Bc (rows0:=[(BM s0_0 f7)]) (rows1:=[(BM s0_0 q11.2)]) (st':=[(BM s0_0 q11.2),(ro 0 52 5 AJ s1),⟨0,31,2,[[(ls AI p1_0),(ow 1 0 s1)]]⟩,FF,(ro 0 3 1 eI q3)]) (v':=(i64 q11.1)) [0] AM Ez (Av gq11) rfl (by decide) rfl U (.raw U U .nil) rfl U (.raw U U .nil) .nil U U ?_
   refine bs h0 fun c12 gc12 h0=>zz (.ptr 4 0 (Int.toNat q11.1) 0) (Bn A4 U U U U gc12) rfl (zz (i64 c12) (B1 F6 U U (Bs gc12) rfl) rfl (bs h0 fun q13 gq13 h0=>zc (v':=(.agg [(i64 q13.op),(i64 q13.num),(ls AD q13.kids)])) Gv (Bm gq13) rfl U U (Az AM BN U U U U U U (show 0+3≤3 by decide) rfl (dn hK10 U ?_))))
   replace h0:=Sh.AE h0
   subst r
   exact AU (Exists.intro _ (And.intro ((AS (L:=[(8,(.ptr 2 0 0 0))]) (st':=[(BM s0_0 q11.2),(ro 0 52 5 AJ s1),(NN q13.op q13.num q13.kids)]) [0,1,3] U (by decide) rfl U (.raw U U (.pure (AB fun _=>U) (.raw U U .nil))) (.same U)).trans (Ah (L:=[(8,(.ptr 2 0 0 0))]) (.same U))) (A9 (x:=.tmp 8) (off:=0) (cs:=[(i64 q13.op),(i64 q13.num),(ls AD q13.kids)]) (vs:=[(i64 q13.op),(i64 q13.num),(ls AD q13.kids)]) BN U U U (show 0+3≤3 by decide) rfl _ ⟨U,U⟩)))
  ·intro b9 h0
   refine AR (hK4 _ (sr U fun K14 hK14=>zm tb 3 U (bs h0 fun q15 gq15 h0=>?_)))
   refine Bc (rows0:=[(BM s0_0 f7),(ro 0 52 5 AJ s1)]) (rows1:=[(BM s0_0 q15.2),(ro 0 52 5 AJ s1)]) (st':=[(BM s0_0 q15.2),(ro 0 52 5 AJ s1),⟨0,31,2,[[(ls AI p1_0),(ow 1 0 s1)]]⟩,FF,(ro 0 3 1 eI q3)]) (v':=(.agg [(i64 q15.1.op),(i64 q15.1.num),(ls AD q15.1.kids)])) [0,1] AM UK (NY gq15) rfl (by decide) rfl U (.raw U U (.pure (AB fun _=>U) .nil)) rfl U (.raw U U (.pure (AB fun _=>U) .nil)) .nil U U ?_
   refine Az AM BN U U U U U U (show 0+3≤3 by decide) rfl (dn hK14 U ?_)
   replace h0:=Sh.AE h0
   subst r
   exact AU (Exists.intro _ (And.intro ((AS (L:=[(8,(.ptr 2 0 0 0))]) (st':=[(BM s0_0 q15.2),(ro 0 52 5 AJ s1),(NN q15.1.op q15.1.num q15.1.kids)]) [0,1,3] U (by decide) rfl U (.raw U U (.pure (AB fun _=>U) (.raw U U .nil))) (.same U)).trans (Ah (L:=[(8,(.ptr 2 0 0 0))]) (.same U))) (A9 (x:=.tmp 8) (off:=0) (cs:=[(i64 q15.1.op),(i64 q15.1.num),(ls AD q15.1.kids)]) (vs:=[(i64 q15.1.op),(i64 q15.1.num),(ls AD q15.1.kids)]) BN U U U (show 0+3≤3 by decide) rfl _ ⟨U,U⟩)))
 refine AL U (zq tb U (zz (i64 (Sh.len q3)) (CW Em U U U) rfl (zm tb 2 U ?_)))
 rcases Sh.Am h1 with ⟨b16,h1⟩ | ⟨b16,h1⟩
 ·refine zg tb b16 U (bs h1 fun q17 gq17 h1=>?_)
  refine Bc (rows0:=[(BM s0_0 s0_1)]) (rows1:=[(BM s0_0 q17.2)]) (st':=[(BM s0_0 q17.2),(ro 0 52 5 AJ s1),⟨0,31,2,[[(ls AI p1_0),(ow 1 0 s1)]]⟩,FF,(ro 0 3 1 eI q3)]) (v':=(i64 q17.1)) [0] (Bw U U b16) Ez (Av gq17) rfl (by decide) rfl U (.raw U U .nil) rfl U (.raw U U .nil) .nil U U ?_
  refine zg tb b16 U (zg tb b16 U ?_)
  rcases Sh.Am h1 with ⟨b18,h1⟩ | ⟨b18,h1⟩
  ·refine zs b18 U ?_
   iterate 4 refine zs b18 rfl ?_
   exact B3 (v:=(.bool true)) (Bw U U b16) rfl (Hu U b18 U) (zt b16 U (AA (M8 true q17.2 (Sh.AE h1).symm _ (AG U))))
  ·refine zg tb b18 U ?_
   refine A3 (m:=5) (l:=([]:List Int)) (enc:=eI) (Bw U U b18) A4 (by decide) rfl U U U U U ?_
   refine zg tb b18 U (Ad (Wk.A7 (L:=[(0,(.ptr 0 0 0 0)),(3,(i64 p3)),(5,(.ptr 2 0 0 0)),(8,(.ptr 3 0 0 0)),(9,(ow 4 0 q3)),(16,(.bool (decide (0 < (Sh.len q3))))),(20,(.bool (decide (0 < q17.1)))),(21,(.agg [(ls AI p1_0),(ow 1 0 s1)])),(22,(.sl (List.map eI []))),(23,(i64 p3))]) (st':=[(BM s0_0 q17.2),(ro 0 52 5 AJ s1),⟨0,31,2,[[(ls AI p1_0),(ow 1 0 s1)]]⟩,FF,(ro 0 3 1 eI q3),⟨1,3,1,[]⟩]) (id:=5) rfl (show 2≤5 by decide) (AB fun _=>U) ⟨.rfl,.rfl,.rfl,.rfl,.rfl,.rfl,.rfl,(.agg ⟨.rfl,.rfl,trivial⟩),(.A7 U),.rfl,trivial⟩ U) (bs h1 fun q19 gq19 h1=>JC (v':=(.bool q19)) (Bw U U b18) SN (HE gq19) rfl (.agg (.val U (.own U U (fun _=>U) .nil)) (.val U (.val U .nil))) rfl trivial U U (zg tb b18 U (B3 (v:=(.bool (!q19))) (Bw U U b16) rfl (Ia U b18 U) (zt b16 U ?_)))))
   exact AA (M8 (!q19) q17.2 (Sh.AE h1).symm _ (AS [0,1,2,3,4] U (by decide) rfl U (.raw U U (.pure (AB fun _=>U) (.raw U U (.raw U U (.pure (AB fun _=>U) .nil))))) (.same U)))
 ·refine zs b16 U ?_
  iterate 3 refine zs b16 rfl ?_
  iterate 5 refine zn rfl ?_
  exact zs b16 U (zf b16 U (AA (M8 false s0_1 (Sh.AE h1).symm _ (AG U))))
theorem O3 {N:Nat} {s0_0:(List Int)} {s0_1:Int} {s1:(List Ar)} {p1_0:(List Ac)} {p2:(List Int)} {r:Int×Int} (h0:HV N s0_0 s0_1 s1 p1_0 p2=some r):Ai Try.prog 129 [(.ptr 0 0 0 0),(.agg [(ls AI p1_0),(ow 1 0 s1)]),(ls eI p2)] [(BM s0_0 s0_1),(ro 0 52 5 AJ s1)] (fun v st=>v=(i64 r.1)∧st=[(BM s0_0 r.2),(ro 0 52 5 AJ s1)]):=by
 unfold HV at h0
 refine ai Try.func129 U U U U (sr U fun K1 hK1=>Bl (m:=2) AM U U U U U (zq tb U (dn hK1 U (sr U fun K2 hK2=>zq tb U ?_))))
 refine A3 (m:=3) (l:=[(1:Int),1,3,0,2,4,3]) (enc:=eI) AM A4 (by decide) rfl U U U U U ?_
 refine Ad (Wk.A7 (L:=[(2,(ls eI p2)),(4,(.ptr 2 0 0 0)),(8,(.ptr 0 0 0 0)),(9,(ls eI [(1:Int),1,3,0,2,4,3]))]) (st':=[(BM s0_0 s0_1),(ro 0 52 5 AJ s1),⟨0,31,2,[[(ls AI p1_0),(ow 1 0 s1)]]⟩,⟨1,3,1,[]⟩]) (id:=3) rfl (show 2≤3 by decide) (AB fun _=>U) ⟨.rfl,.rfl,.rfl,(.A7 U),trivial⟩ U) (bs h0 fun q3 gq3 h0=>?_)
 refine Bc (rows0:=[(BM s0_0 s0_1)]) (rows1:=[(BM s0_0 q3.2)]) (st':=[(BM s0_0 q3.2),(ro 0 52 5 AJ s1),⟨0,31,2,[[(ls AI p1_0),(ow 1 0 s1)]]⟩,⟨1,3,1,[]⟩]) (v':=(i64 q3.1)) [0] AM H5 (BU gq3) rfl (by decide) rfl U (.raw U U .nil) rfl U (.raw U U .nil) .nil U U ?_
 refine zq tb U (dn hK2 U (AH fun K4 hK4=>AH fun K5 hK5=>bs h0 fun o7 h1 h0=>?_))
 have M7 :∀(t6:Bool),o7=t6→∀s,Wk 2 s ⟨24,Aa [(7,(i64 q3.1)),(22,(.bool t6))],[(BM s0_0 q3.2),(ro 0 52 5 AJ s1)]⟩→K5 s:=by
  intro t6 hq s hw
  subst o7
  try dsimp only at h0
  refine hK5 _ (AN hw ?_)
  refine ci h0 U ?_ ?_ <;> clear h0
  ·intro b8 h0
   refine zr tb U U ?_
   replace h0:=Sh.AE h0
   subst r
   exact AU (xr (Ah (L:=[(6,(i64 1))]) (.same U)))
  ·intro b8 h0
   refine AR (hK4 _ (zr tb U U ?_))
   replace h0:=Sh.AE h0
   subst r
   exact AU (xr (Ah (L:=[(6,(i64 q3.1))]) (.same U)))
 refine AL U (zm tb 3 U (zl tb U U (zm tb 2 U ?_)))
 rcases Sh.Am h1 with ⟨b11,h1⟩ | ⟨b11,h1⟩
 ·refine zs b11 U ?_
  iterate 4 refine zs b11 rfl ?_
  refine zt b11 U ?_
  exact AA (M7 true (Sh.AE h1).symm _ (AS [0,1] U (by decide) rfl U (.raw U U (.pure (AB fun _=>U) .nil)) (.same U)))
 ·refine zg tb b11 U (zg tb b11 U (zg tb b11 U (bs h1 fun q12 gq12 h1=>JC (v':=(.bool q12)) (Bw U U b11) SN (HE gq12) rfl (.agg (.val U (.own U U (fun _=>U) .nil)) (.val U (.val U .nil))) rfl trivial U U (zg tb b11 U (zf b11 U ?_)))))
  exact AA (M7 (!q12) (Sh.AE h1).symm _ (AS [0,1] U (by decide) rfl U (.raw U U (.pure (AB fun _=>U) .nil)) (.same U)))
theorem OM {p0:(List Int)} {r:(List Int)} (h0:Hv p0=some r):Ai Try.prog 100 [(ls eI p0)] [] (fun v st=>v=(ow 0 0 r)∧st=[(ro 0 3 1 eI r)]):=by
 unfold Hv at h0
 refine ai Try.func100 U U U U (zr tb U U (sr U fun K2 hK2=>?_))
 refine A3 (m:=0) (l:=([]:List Int)) (enc:=eI) AM A4 (by decide) rfl U U U U U ?_
 refine zq tb U (bs h0 fun l3 gl3 h0=>CB (l2:=p0) AM A4 U U U U OP (fun _=>U) gl3 U (zq tb U (dn hK2 U ?_)))
 replace h0:=Sh.AE h0
 subst r
 exact AU (xr (EW (L:=[(2,(ow 0 0 l3))]) (st':=[(ro 0 3 1 eI l3)]) (.pure (AB fun _=>U) .nil) (.same U)))
theorem D8 {p0:(List Int)} {p1:(List Int)} {r:(List Int)} (h0:DO p0 p1=some r):Ai Try.prog 73 [(ls eI p0),(ls eI p1)] [] (fun v st=>v=(ow 0 0 r)∧st=[(ro 0 3 1 eI r)]):=by
 unfold DO at h0
 refine ai Try.func73 U U U U (zr tb U U (sr U fun K2 hK2=>zq tb U (bs h0 fun q3 gq3 h0=>Bz (v':=(ow 0 0 q3)) AM YU (OM gq3) rfl U ⟨(Bi fun _=>U),trivial⟩ U U (zq tb U (bs h0 fun l4 gl4 h0=>CB (l2:=p1) AM A4 U U U U OP (fun _=>U) gl4 U (zq tb U (dn hK2 U ?_)))))))
 replace h0:=Sh.AE h0
 subst r
 exact AU (xr (EW (L:=[(4,(ow 0 0 l4))]) (st':=[(ro 0 3 1 eI l4)]) (.pure (AB fun _=>U) .nil) (.same U)))
theorem GG {N:Nat} {rec_spec_gen:(List Int)→Int→(List Ar)→(List Ac)→(List Int)→Int→Int→Option (AP×Int)} (hrec_spec_gen :∀{s0_0:(List Int)} {s0_1:Int} {s1:(List Ar)} {p1_0:(List Ac)} {p2:(List Int)} {p3:Int} {p4:Int} {r:AP×Int},rec_spec_gen s0_0 s0_1 s1 p1_0 p2 p3 p4=some r→Ai Try.prog 125 [(.ptr 0 0 0 0),(.agg [(ls AI p1_0),(ow 1 0 s1)]),(ls eI p2),(i64 p3),(i64 p4)] [(BM s0_0 s0_1),(ro 0 52 5 AJ s1)] (fun v st=>v=(.agg [(i64 r.1.op),(i64 r.1.num),(ls AD r.1.kids)])∧st=[(BM s0_0 r.2),(ro 0 52 5 AJ s1)])) {s0_0:(List Int)} {s0_1:Int} {s1:(List Ar)} {p1_0:(List Ac)} {p2:(List Int)} {p3:(List Int)} {p4:Int} {r:(List AP)×Int} (h0:EZ N rec_spec_gen s0_0 s0_1 s1 p1_0 p2 p3 p4=some r):Ai Try.prog 130 [(.ptr 0 0 0 0),(.agg [(ls AI p1_0),(ow 1 0 s1)]),(ls eI p2),(ls eI p3),(i64 p4)] [(BM s0_0 s0_1),(ro 0 52 5 AJ s1)] (fun v st=>v=(ow 2 0 r.1)∧st=[(BM s0_0 r.2),(ro 0 52 5 AJ s1),(ro 0 50 3 AD r.1)]):=by
 unfold EZ at h0
 refine ai Try.func130 U U U U (sr U fun K1 hK1=>Bl (m:=2) AM U U U U U (zq tb U (dn hK1 U (sr U fun K2 hK2=>?_))))
 refine A3 (m:=3) (l:=([]:List AP)) (enc:=AD) AM BV (by decide) rfl U (by simp only[List.map,Ap];rfl) rfl U U ?_
 refine zq tb U (dn hK2 U (AH fun K3 hK3=>zr tb U U (bs h0 fun o10 h1 h0=>?_)))
 have M10 :∀(f8:Int) (l9:(List AP)),o10=(f8,l9)→∀s,Wk 2 s ⟨36,Aa [(11,(ow 2 0 l9))],[(BM s0_0 f8),(ro 0 52 5 AJ s1),(ro 0 50 3 AD l9)]⟩→K3 s:=by
  intro f8 l9 hq s hw
  subst o10
  try dsimp only at h0
  refine hK3 _ (AN hw (zr tb U U ?_))
  replace h0:=Sh.AE h0
  subst r
  exact AU (xr (Ah (L:=[(10,(ow 2 0 l9))]) (.same U)))
 refine Ab (Ay (σ:=Int×Int×(List AP)) (fun n v=>EB s0_0 s1 p1_0 p2 p3 p4 rec_spec_gen n v.1 v.2.1 v.2.2=some o10) (fun (i5,f6,l7)=>⟨36,Aa [(0,(.ptr 0 0 0 0)),(2,(ls eI p2)),(3,(ls eI p3)),(4,(i64 p4)),(6,(.ptr 2 0 0 0)),(11,(ow 3 0 l7)),(12,(i64 i5))],[(BM s0_0 f6),(ro 0 52 5 AJ s1),⟨0,31,2,[[(ls AI p1_0),(ow 1 0 s1)]]⟩,(ro 0 50 3 AD l7)]⟩) N (0,s0_1,[]) h1 (AG U) (fun _ hv=>by rw[EB] at hv;cases hv) ?_)
 rintro n ⟨i5,f6,l7⟩ h1
 try dsimp only at h1 ⊢
 rw[EB] at h1
 refine AH fun K12 hK12=>sr U fun K13 hK13=>zm tb 2 U (zl tb U U (zq tb U (dn hK13 U ?_)))
 refine ci h1 U ?_ ?_ <;> clear h1
 ·intro b14 h1
  refine AR (hK12 _ (AH fun K15 hK15=>Ab ?_))
  refine BO [(ro 0 52 5 AJ s1),⟨0,31,2,[[(ls AI p1_0),(ow 1 0 s1)]]⟩,(ro 0 50 3 AD l7)] 14 (by kernel_rfl) (by kernel_rfl) (by kernel_rfl) (by rfl) ?_
  refine BD (ow 3 0 l7) AM U (fun _ _=>BL U) (BD (.ptr 0 0 0 0) AM U (fun _ _=>BL U) (BD (.agg [(ls AI p1_0),(ow 1 0 s1)]) AM U (fun _ _=>A9 FA U U U (show 0+2≤2 by decide) rfl) (BD (ls eI p2) AM U (fun _ _=>BL U) (BD (ls eI p3) AM U (fun _ _=>BL U) (BD (i64 i5) AM U (fun _ _=>BL U) (bs h1 fun c16 gc16 h1=>BD (.Al (eI c16) 0) AM U (fun _ _=>CZ A4 U U gc16 U) (BD (i64 c16) AM U (fun _ _=>Fm F6 U U) (BD (i64 p4) AM U (fun _ _=>BL U) (BD (ls eI p3) AM U (fun _ _=>BL U) (BD (i64 (Sh.len p3)) AM U (fun _ _=>B6 Em U) ?_))))))))))
  refine bs h1 fun d17 gd17 h1=>BD (i64 d17) AM U (fun _ _=>QX U U gd17) (bs h1 fun q18 gq18 h1=>?_)
  refine E2 (rows0:=[(BM s0_0 f6),(ro 0 52 5 AJ s1)]) (rows1:=[(BM s0_0 q18.2),(ro 0 52 5 AJ s1)]) (v':=(.agg [(i64 q18.1.op),(i64 q18.1.num),(ls AD q18.1.kids)])) (y0:=(BM s0_0 q18.2)) [0,1] AM HI (hrec_spec_gen gq18) rfl (by decide) rfl U (.raw U U (.pure (AB fun _=>U) .nil)) rfl U (fun _=>(.raw U U (.pure (AB fun _=>U) .nil))) (fun _=>U) rfl ?_
  refine D9 AM (fun x0 zz=>E9 (l:=[q18.1]) (enc:=AD) AM BV (by decide) rfl U U (by simp only[List.map,Ap];rfl) rfl (AB Ag) (Ax U)) ?_
  exact Di U (bs h1 fun l19 gl19 h1=>CB (l2:=[q18.1]) AM BV U U U U OP B8 gl19 U (zq tb U (dn hK15 U (AL U (zm tb 3 U (AA (xi (Sh.w (i5+1),q18.2,l19) h1 (CA (L:=[(0,(.ptr 0 0 0 0)),(2,(ls eI p2)),(3,(ls eI p3)),(4,(i64 p4)),(6,(.ptr 2 0 0 0)),(11,(ow 3 0 l19)),(12,(i64 (Sh.w (i5+1))))]) (st':=[(BM s0_0 q18.2),(ro 0 52 5 AJ s1),⟨0,31,2,[[(ls AI p1_0),(ow 1 0 s1)]]⟩,(ro 0 50 3 AD l19)]) (.raw U U U (.pure U (AB fun _=>U) (.raw U U U (.pure U (AB Ag) .nil)))) (.same U)))))))))
 ·intro b14 h1
  exact A5 (M10 f6 l7 (Sh.AE h1).symm _ (AS [0,1,3] U (by decide) rfl U (.raw U U (.pure (AB fun _=>U) (.pure (AB Ag) .nil))) (.same U)))
theorem Nt {N:Nat} {rec_spec_gen:(List Int)→Int→(List Ar)→(List Ac)→(List Int)→Int→Int→Option (AP×Int)} (hrec_spec_gen :∀{s0_0:(List Int)} {s0_1:Int} {s1:(List Ar)} {p1_0:(List Ac)} {p2:(List Int)} {p3:Int} {p4:Int} {r:AP×Int},rec_spec_gen s0_0 s0_1 s1 p1_0 p2 p3 p4=some r→Ai Try.prog 125 [(.ptr 0 0 0 0),(.agg [(ls AI p1_0),(ow 1 0 s1)]),(ls eI p2),(i64 p3),(i64 p4)] [(BM s0_0 s0_1),(ro 0 52 5 AJ s1)] (fun v st=>v=(.agg [(i64 r.1.op),(i64 r.1.num),(ls AD r.1.kids)])∧st=[(BM s0_0 r.2),(ro 0 52 5 AJ s1)])) {s0_0:(List Int)} {s0_1:Int} {s1:(List Ar)} {p1_0:(List Ac)} {p2:(List Int)} {p3:Int} {p4:Int} {r:AP×Int} (h0:G9 N rec_spec_gen s0_0 s0_1 s1 p1_0 p2 p3 p4=some r):Ai Try.prog 131 [(.ptr 0 0 0 0),(.agg [(ls AI p1_0),(ow 1 0 s1)]),(ls eI p2),(i64 p3),(i64 p4)] [(BM s0_0 s0_1),(ro 0 52 5 AJ s1)] (fun v st=>v=(.agg [(i64 r.1.op),(i64 r.1.num),(ls AD r.1.kids)])∧st=[(BM s0_0 r.2),(ro 0 52 5 AJ s1)]):=by
 unfold G9 at h0
 refine Ai.wk (r0:=(.agg [(i64 r.1.op),(i64 r.1.num),(ls AD r.1.kids)])) (st0:=[(BM s0_0 r.2),(ro 0 52 5 AJ s1),(NN r.1.op r.1.num r.1.kids)]) ?_ (EG (L:=[(0,(.agg [(i64 r.1.op),(i64 r.1.num),(ls AD r.1.kids)]))]) (st':=[(BM s0_0 r.2),(ro 0 52 5 AJ s1)]) [0,1] U (by decide) rfl U (.raw U (.pure (AB fun _=>U) trivial)) (.same U))
 refine ai Try.func131 U U U U (sr U fun K1 hK1=>Bl (m:=2) AM U U U U U (A1 (m:=3) AM EI U U (dn hK1 U (sr U fun K2 hK2=>zq tb U ?_))))
 refine A3 (m:=4) (l:=[(1:Int),1,3,4]) (enc:=eI) AM A4 (by decide) rfl U U U U U ?_
 refine Ad (Wk.A7 (L:=[(0,(.ptr 0 0 0 0)),(2,(ls eI p2)),(3,(i64 p3)),(4,(i64 p4)),(6,(.ptr 2 0 0 0)),(10,(.ptr 3 0 0 0)),(15,(.ptr 0 0 0 0)),(16,(ls eI [(1:Int),1,3,4]))]) (st':=[(BM s0_0 s0_1),(ro 0 52 5 AJ s1),⟨0,31,2,[[(ls AI p1_0),(ow 1 0 s1)]]⟩,FF,⟨1,3,1,[]⟩]) (id:=4) rfl (show 2≤4 by decide) (AB fun _=>U) ⟨.rfl,.rfl,.rfl,.rfl,.rfl,.rfl,.rfl,(.A7 U),trivial⟩ U) (bs h0 fun q3 gq3 h0=>?_)
 refine Bc (rows0:=[(BM s0_0 s0_1)]) (rows1:=[(BM s0_0 q3.2)]) (st':=[(BM s0_0 q3.2),(ro 0 52 5 AJ s1),⟨0,31,2,[[(ls AI p1_0),(ow 1 0 s1)]]⟩,FF,⟨1,3,1,[]⟩]) (v':=(i64 q3.1)) [0] AM H5 (BU gq3) rfl (by decide) rfl U (.raw U U .nil) rfl U (.raw U U .nil) .nil U U ?_
 refine zq tb U (dn hK2 U (AH fun K4 hK4=>bs h0 fun o6 h1 h0=>?_))
 have M6 :∀(d5:Int),o6=d5→∀s,Wk 2 s ⟨69,Aa [(0,(.ptr 0 0 0 0)),(2,(ls eI p2)),(3,(i64 p3)),(4,(i64 p4)),(6,(.ptr 2 0 0 0)),(10,(.ptr 3 0 0 0)),(11,(i64 d5))],[(BM s0_0 q3.2),(ro 0 52 5 AJ s1),⟨0,31,2,[[(ls AI p1_0),(ow 1 0 s1)]]⟩,FF]⟩→K4 s:=by
  intro d5 hq s hw
  subst o6
  try dsimp only at h0
  refine hK4 _ (AN hw (sr U fun K7 hK7=>zm tb 3 U (bs h0 fun q8 gq8 h0=>Bz (v':=(ow 4 0 q8)) AM Sc (Hc gq8) rfl U ⟨(Bi fun _=>U),trivial⟩ U U (zq tb U (dn hK7 U (sr U fun K9 hK9=>zm tb 4 U (bs h0 fun q10 gq10 h0=>?_)))))))
  refine Bc (rows0:=[(BM s0_0 q3.2),(ro 0 52 5 AJ s1)]) (rows1:=[(BM s0_0 q10.2),(ro 0 52 5 AJ s1)]) (st':=[(BM s0_0 q10.2),(ro 0 52 5 AJ s1),⟨0,31,2,[[(ls AI p1_0),(ow 1 0 s1)]]⟩,FF,(ro 0 3 1 eI q8)]) (v':=(.agg [(i64 q10.1.op),(i64 q10.1.num),(ls AD q10.1.kids)])) [0,1] AM Ol (GV gq10) rfl (by decide) rfl U (.raw U U (.pure (AB fun _=>U) .nil)) rfl U (.raw U U (.pure (AB fun _=>U) .nil)) .nil U U ?_
  refine A3 (m:=5) (l:=[q10.1]) (enc:=AD) AM BV (by decide) rfl U (by simp only[List.map,Ap];rfl) rfl U U ?_
  refine zq tb U (dn hK9 U (AH fun K11 hK11=>zr tb U U (bs h0 fun o18 h1 h0=>?_)))
  have M18 :∀(f16:Int) (l17:(List AP)),o18=(f16,l17)→∀s,Wk 2 s ⟨69,Aa [(10,(.ptr 2 0 0 0)),(11,(i64 d5)),(13,(ow 3 0 l17))],[(BM s0_0 f16),(ro 0 52 5 AJ s1),FF,(ro 0 50 3 AD l17)]⟩→K11 s:=by
   intro f16 l17 hq s hw
   subst o18
   try dsimp only at h0
   refine hK11 _ (AN hw (sr U fun K19 hK19=>zm tb 2 U (Ad (Wk.A7 (L:=[(10,(.ptr 2 0 0 0)),(66,(i64 d5)),(67,(ls AD l17))]) (st':=[(BM s0_0 f16),(ro 0 52 5 AJ s1),FF,⟨1,50,3,[]⟩]) (id:=3) rfl (show 2≤3 by decide) (AB Ag) ⟨.rfl,.rfl,(.A7 U),trivial⟩ U) (bs h0 fun q20 gq20 h0=>zc (v':=(.agg [(i64 q20.op),(i64 q20.num),(ls AD q20.kids)])) DB (BH gq20) rfl U U (Az AM BN U U U U U U (show 0+3≤3 by decide) rfl (dn hK19 U ?_))))))
   replace h0:=Sh.AE h0
   subst r
   exact AU (Exists.intro _ (And.intro ((AS (L:=[(10,(.ptr 2 0 0 0))]) (st':=[(BM s0_0 f16),(ro 0 52 5 AJ s1),(NN q20.op q20.num q20.kids)]) [0,1,2] U (by decide) rfl U (.raw U U (.pure (AB fun _=>U) (.raw U U .nil))) (.same U)).trans (Ah (L:=[(10,(.ptr 2 0 0 0))]) (.same U))) (A9 (x:=.tmp 10) (off:=0) (cs:=[(i64 q20.op),(i64 q20.num),(ls AD q20.kids)]) (vs:=[(i64 q20.op),(i64 q20.num),(ls AD q20.kids)]) BN U U U (show 0+3≤3 by decide) rfl _ ⟨U,U⟩)))
  refine Ab (Ay (σ:=Int×Int×(List AP)) (fun n v=>Cv N s0_0 s1 p1_0 p2 p3 p4 q8 rec_spec_gen n v.1 v.2.1 v.2.2=some o18) (fun (i13,f14,l15)=>⟨69,Aa [(0,(.ptr 0 0 0 0)),(2,(ls eI p2)),(3,(i64 p3)),(4,(i64 p4)),(6,(.ptr 2 0 0 0)),(10,(.ptr 3 0 0 0)),(11,(i64 d5)),(12,(ow 4 0 q8)),(13,(ow 5 0 l15)),(14,(i64 i13))],[(BM s0_0 f14),(ro 0 52 5 AJ s1),⟨0,31,2,[[(ls AI p1_0),(ow 1 0 s1)]]⟩,FF,(ro 0 3 1 eI q8),(ro 0 50 3 AD l15)]⟩) N (0,q10.2,[q10.1]) h1 (AG U) (fun _ hv=>by rw[Cv] at hv;cases hv) ?_)
  rintro n ⟨i13,f14,l15⟩ h1
  try dsimp only at h1 ⊢
  rw[Cv] at h1
  refine AH fun K21 hK21=>sr U fun K22 hK22=>zm tb 2 U (zz (i64 (Sh.len q8)) (CW Em U U U) rfl (zq tb U (dn hK22 U ?_)))
  refine ci h1 U ?_ ?_ <;> clear h1
  ·intro b23 h1
   refine AR (hK21 _ (AH fun K24 hK24=>Ab ?_))
   refine BO [(ro 0 52 5 AJ s1),⟨0,31,2,[[(ls AI p1_0),(ow 1 0 s1)]]⟩,FF,(ro 0 3 1 eI q8),(ro 0 50 3 AD l15)] 20 (by kernel_rfl) (by kernel_rfl) (by kernel_rfl) (by rfl) ?_
   refine BD (ow 5 0 l15) AM U (fun _ _=>BL U) (BD (.ptr 0 0 0 0) AM U (fun _ _=>BL U) (BD (.agg [(ls AI p1_0),(ow 1 0 s1)]) AM U (fun _ _=>A9 FA U U U (show 0+2≤2 by decide) rfl) (BD (ls eI p2) AM U (fun _ _=>BL U) (BD (.ptr 2 0 0 0) AM U (fun _ _=>F8 Sx U U (show 0+0≤2 by decide) rfl) (BD (ls AI p1_0) AM U (fun _ _=>B1 Uy U U U U) (BD (ow 4 0 q8) AM U (fun _ _=>BL U) (BD (i64 i13) AM U (fun _ _=>BL U) (bs h1 fun c25 gc25 h1=>BD (.ptr 4 0 (Int.toNat i13) 0) AM U (fun _ _=>Bn A4 U U U U gc25) (BD (i64 c25) AM U (fun _ _=>B1 F6 U U (Bs gc25) rfl) (bs h1 fun q26 gq26 h1=>?_))))))))))
   refine D9 AM (fun x0 zz=>BS (v:=(ls eI q26)) AM Qb (EE gq26) rfl U U (Ax U)) (bs h1 fun q27 gq27 h1=>?_)
   refine D9 AM (fun x0 zz=>BS (v:=(ls eI q27)) AM Nh (Ai.wk (D8 gq27) (by refine Wk.trans (Wk.A7 (L:=[(0,(ls eI q27))]) (st':=[⟨1,3,1,[]⟩]) (id:=0) rfl (show 0≤0 by decide) (AB fun _=>U) ⟨(.A7 U),trivial⟩ U) ?_;exact AS [] U (by decide) rfl U .nil (.same U))) rfl U U (Ax U)) ?_
   refine BD (i64 p3) AM U (fun _ _=>BL U) (BD (i64 p4) AM U (fun _ _=>BL U) (BD (i64 (Sh.w (p4 - 2))) AM U (fun _ _=>Kl U U) (BD (ow 4 0 q8) AM U (fun _ _=>BL U) (BD (i64 (Sh.len q8)) AM U (fun _ _=>CW Em U U U) (bs h1 fun d28 gd28 h1=>BD (i64 d28) AM U (fun _ _=>QX U U gd28) (bs h1 fun q29 gq29 h1=>?_))))))
   refine E2 (rows0:=[(BM s0_0 f14),(ro 0 52 5 AJ s1)]) (rows1:=[(BM s0_0 q29.2),(ro 0 52 5 AJ s1)]) (v':=(.agg [(i64 q29.1.op),(i64 q29.1.num),(ls AD q29.1.kids)])) (y0:=(BM s0_0 q29.2)) [0,1] AM HI (hrec_spec_gen gq29) rfl (by decide) rfl U (.raw U U (.pure (AB fun _=>U) .nil)) rfl U (fun _=>(.raw U U (.pure (AB fun _=>U) .nil))) (fun _=>U) rfl ?_
   refine D9 AM (fun x0 zz=>E9 (l:=[q29.1]) (enc:=AD) AM BV (by decide) rfl U U (by simp only[List.map,Ap];rfl) rfl (AB Ag) (Ax U)) ?_
   exact Di U (bs h1 fun l30 gl30 h1=>CB (l2:=[q29.1]) AM BV U U U U OP B8 gl30 U (zq tb U (dn hK24 U (AL U (zm tb 3 U (AA (xi (Sh.w (i13+1),q29.2,l30) h1 (CA (L:=[(0,(.ptr 0 0 0 0)),(2,(ls eI p2)),(3,(i64 p3)),(4,(i64 p4)),(6,(.ptr 2 0 0 0)),(10,(.ptr 3 0 0 0)),(11,(i64 d5)),(12,(ow 4 0 q8)),(13,(ow 5 0 l30)),(14,(i64 (Sh.w (i13+1))))]) (st':=[(BM s0_0 q29.2),(ro 0 52 5 AJ s1),⟨0,31,2,[[(ls AI p1_0),(ow 1 0 s1)]]⟩,FF,(ro 0 3 1 eI q8),(ro 0 50 3 AD l30)]) (.raw U U U (.pure U (AB fun _=>U) (.raw U U U (.raw U U U (.pure U (AB fun _=>U) (.pure U (AB Ag) .nil)))))) (.same U)))))))))
  ·intro b23 h1
   exact A5 (M18 f14 l15 (Sh.AE h1).symm _ (AS [0,1,3,5] U (by decide) rfl U (.raw U U (.pure (AB fun _=>U) (.raw U U (.pure (AB Ag) .nil)))) (.same U)))
 refine AH fun K31 hK31=>bs h1 fun o33 h2 h1=>?_
 have M33 :∀(t32:Bool),o33=t32→∀s,Wk 2 s ⟨69,Aa [(0,(.ptr 0 0 0 0)),(2,(ls eI p2)),(3,(i64 p3)),(4,(i64 p4)),(6,(.ptr 2 0 0 0)),(10,(.ptr 3 0 0 0)),(11,(i64 q3.1)),(28,(.bool t32))],[(BM s0_0 q3.2),(ro 0 52 5 AJ s1),⟨0,31,2,[[(ls AI p1_0),(ow 1 0 s1)]]⟩,FF]⟩→K31 s:=by
  intro t32 hq s hw
  subst o33
  try dsimp only at h1
  refine hK31 _ (AN hw ?_)
  refine ci h1 U ?_ ?_ <;> clear h1
  ·intro b34 h1
   exact AL U (zq tb U (AA (M6 1 (Sh.AE h1).symm _ (AG U))))
  ·intro b34 h1
   exact AR (M6 q3.1 (Sh.AE h1).symm _ (AG U))
 refine AL U (zm tb 3 U (zl tb U U (zm tb 2 U ?_)))
 rcases Sh.Am h2 with ⟨b35,h2⟩ | ⟨b35,h2⟩
 ·refine zs b35 U ?_
  iterate 3 refine zs b35 rfl ?_
  refine zt b35 U ?_
  exact AA (M33 true (Sh.AE h2).symm _ (AS [0,1,2,3] U (by decide) rfl U (.raw U U (.pure (AB fun _=>U) (.raw U U (.raw U U .nil)))) (.same U)))
 ·refine zg tb b35 U (zg tb b35 U (zg tb b35 U (bs h2 fun q36 gq36 h2=>zd b35 Ul (HD gq36) rfl U U U (zf b35 U ?_))))
  exact AA (M33 q36 (Sh.AE h2).symm _ (AS [0,1,2,3] U (by decide) rfl U (.raw U U (.pure (AB fun _=>U) (.raw U U (.raw U U .nil)))) (.same U)))
theorem Ns {N:Nat} {p0:Af} {p1:Int} {r:(List Int)} (h0:G7 N p0 p1=some r):Ai Try.prog 132 [(.agg [(ls AI p0.decls),(ls AJ p0.funcs)]),(i64 p1)] [] (fun v st=>v=(ow 0 0 r)∧st=[(ro 0 3 1 eI r)]):=by
 unfold G7 at h0
 refine ai Try.func132 U U U U (sr U fun K1 hK1=>Bl (m:=0) AM U U U U U (zq tb U (dn hK1 U (sr U fun K2 hK2=>?_))))
 refine A3 (m:=1) (l:=([]:List Int)) (enc:=eI) AM A4 (by decide) rfl U U U U U ?_
 refine zq tb U (dn hK2 U (AH fun K3 hK3=>zr tb U U (bs h0 fun o8 h1 h0=>?_)))
 have M8 :∀(l7:(List Int)),o8=l7→∀s,Wk 0 s ⟨57,Aa [(5,(ow 0 0 l7))],[(ro 0 3 1 eI l7)]⟩→K3 s:=by
  intro l7 hq s hw
  subst o8
  try dsimp only at h0
  refine hK3 _ (AN hw (zr tb U U ?_))
  replace h0:=Sh.AE h0
  subst r
  exact AU (xr (Ah (L:=[(4,(ow 0 0 l7))]) (.same U)))
 refine Ab (Ay (σ:=Int×(List Int)) (fun n v=>DW N p0 p1 n v.1 v.2=some o8) (fun (f5,l6)=>⟨57,Aa [(1,(i64 p1)),(2,(.ptr 0 0 0 0)),(5,(ow 1 0 l6)),(6,(i64 f5))],[(Ra p0.decls p0.funcs),(ro 0 3 1 eI l6)]⟩) N (1,[]) h1 (AG U) (fun _ hv=>by rw[DW] at hv;cases hv) ?_)
 rintro n ⟨f5,l6⟩ h1
 try dsimp only at h1 ⊢
 rw[DW] at h1
 refine AH fun K10 hK10=>sr U fun K11 hK11=>zm tb 3 U (zl tb U U (zq tb U (dn hK11 U ?_)))
 refine ci h1 U ?_ ?_ <;> clear h1
 ·intro b12 h1
  refine AR (hK10 _ (AH fun K13 hK13=>bs h1 fun o15 h2 h1=>?_))
  have M15 :∀(l14:(List Int)),o15=l14→∀s,Wk 0 s ⟨57,Aa [(1,(i64 p1)),(2,(.ptr 0 0 0 0)),(5,(ow 1 0 l14)),(6,(i64 f5))],[(Ra p0.decls p0.funcs),(ro 0 3 1 eI l14)]⟩→K13 s:=by
   intro l14 hq s hw
   subst o15
   try dsimp only at h1
   exact hK13 _ (AN hw (AL U (zm tb 3 U (AA (xi (Sh.w (f5+1),l14) h1 (AG U))))))
  refine Ab (sr U fun K16 hK16=>zm tb 3 U (bs h2 fun c17 gc17 h2=>zx DD gc17 U U U (zm tb 5 U (dn hK16 U (AH fun K18 hK18=>zr tb U U (bs h2 fun o23 h3 h2=>?_))))))
  have M23 :∀(ok22:Bool),o23=ok22→∀s,Wk 0 s ⟨57,Aa [(1,(i64 p1)),(2,(.ptr 0 0 0 0)),(5,(ow 1 0 l6)),(6,(i64 f5)),(7,(.bool ok22))],[(Ra p0.decls p0.funcs),(ro 0 3 1 eI l6)]⟩→K18 s:=by
   intro ok22 hq s hw
   subst o23
   try dsimp only at h2
   refine hK18 _ (AN hw (zr tb U U ?_))
   refine ci h2 U ?_ ?_ <;> clear h2
   ·intro b25 h2
    refine AL U (zm tb 2 U ?_)
    refine A3 (m:=2) (l:=[f5]) (enc:=eI) AM A4 (by decide) rfl U U U U U ?_
    refine bs h2 fun l26 gl26 h2=>CB (l2:=[f5]) AM A4 U U U U (EO U U) (fun _=>U) gl26 U (zq tb U ?_)
    exact AA (M15 l26 (Sh.AE h2).symm _ (by refine Wk.trans (EW (L:=[(1,(i64 p1)),(2,(.ptr 0 0 0 0)),(5,(ow 1 0 l26)),(6,(i64 f5))]) (st':=[(Ra p0.decls p0.funcs),(ro 0 3 1 eI l26),(ro 0 3 1 eI [f5])]) (.raw U U (.pure (AB fun _=>U) (.pure (AB fun _=>U) .nil))) (.same U)) ?_;exact AS [0,1] U (by decide) rfl U (.raw U U (.pure (AB fun _=>U) .nil)) (.same U)))
   ·intro b25 h2
    exact AR (M15 l6 (Sh.AE h2).symm _ (AG U))
  refine Ab (Ay (σ:=Bool×Int) (fun n v=>DS N c17 p0 n v.1 v.2=some o23) (fun (ok20,i21)=>⟨57,Aa [(1,(i64 p1)),(2,(.ptr 0 0 0 0)),(5,(ow 1 0 l6)),(6,(i64 f5)),(7,(.bool ok20)),(8,(i64 i21))],[(Ra p0.decls p0.funcs),(ro 0 3 1 eI l6)]⟩) N (decide (c17.result=p1),0) h3 (AG U) (fun _ hv=>by rw[DS] at hv;cases hv) ?_)
  rintro n ⟨ok20,i21⟩ h3
  try dsimp only at h3 ⊢
  rw[DS] at h3
  refine AH fun K27 hK27=>sr U fun K28 hK28=>zm tb 4 U (zx DD gc17 U U U (zm tb 2 U (zl tb U U (zq tb U (dn hK28 U ?_)))))
  refine ci h3 U ?_ ?_ <;> clear h3
  ·intro b29 h3
   refine AR (hK27 _ (AH fun K30 hK30=>bs h3 fun o32 h4 h3=>?_))
   have M32 :∀(ok31:Bool),o32=ok31→∀s,Wk 0 s ⟨57,Aa [(1,(i64 p1)),(2,(.ptr 0 0 0 0)),(5,(ow 1 0 l6)),(6,(i64 f5)),(7,(.bool ok31)),(8,(i64 i21))],[(Ra p0.decls p0.funcs),(ro 0 3 1 eI l6)]⟩→K30 s:=by
    intro ok31 hq s hw
    subst o32
    try dsimp only at h3
    exact hK30 _ (AN hw (AL U (zm tb 3 U (AA (xi (ok31,Sh.w (i21+1)) h3 (AG U))))))
   refine Ab ?_
   refine CL 15 (by kernel_rfl) (by kernel_rfl) (by rfl) ?_
   iterate 2 refine yq tb rfl ?_
   rcases Sh.Am h4 with ⟨b33,h4⟩ | ⟨b33,h4⟩
   ·refine yg tb b33 U ?_
    refine E9 (l:=([]:List Int)) (enc:=eI) (Bw U U b33) A4 (by decide) rfl U U U U (AB fun _=>U) ?_
    iterate 3 refine yg tb b33 rfl ?_
    refine HN (v:=(.Al (AJ c17) 0)) (Bw U U b33) rfl (CZ DD U U gc17 U) ?_
    iterate 3 refine yg tb b33 rfl ?_
    exact bs h4 fun c34 gc34 h4=>HN (v:=(.Al (eI c34) 0)) (Bw U U b33) rfl (CZ A4 U U gc34 U) (yg tb b33 U (bs h4 fun q35 gq35 h4=>BS (v:=(.bool q35)) (Bw U U b33) SN (HE gq35) rfl U U (yt b33 U (Ax (zq tb U (AA (M32 q35 (Sh.AE h4).symm _ (AG U))))))))
   ·refine ys b33 U ?_
    iterate 11 refine ys b33 rfl ?_
    exact yf b33 U (Ax (zq tb U (AA (M32 false (Sh.AE h4).symm _ (AG U)))))
  ·intro b29 h3
   exact A5 (M23 ok20 (Sh.AE h3).symm _ (AG U))
 ·intro b12 h1
  exact A5 (M8 l6 (Sh.AE h1).symm _ (AS [1] U (by decide) rfl U (.pure (AB fun _=>U) .nil) (.same U)))
theorem OE {N:Nat} {rec_spec_gen:(List Int)→Int→(List Ar)→(List Ac)→(List Int)→Int→Int→Option (AP×Int)} (hrec_spec_gen :∀{s0_0:(List Int)} {s0_1:Int} {s1:(List Ar)} {p1_0:(List Ac)} {p2:(List Int)} {p3:Int} {p4:Int} {r:AP×Int},rec_spec_gen s0_0 s0_1 s1 p1_0 p2 p3 p4=some r→Ai Try.prog 125 [(.ptr 0 0 0 0),(.agg [(ls AI p1_0),(ow 1 0 s1)]),(ls eI p2),(i64 p3),(i64 p4)] [(BM s0_0 s0_1),(ro 0 52 5 AJ s1)] (fun v st=>v=(.agg [(i64 r.1.op),(i64 r.1.num),(ls AD r.1.kids)])∧st=[(BM s0_0 r.2),(ro 0 52 5 AJ s1)])) {s0_0:(List Int)} {s0_1:Int} {s1:(List Ar)} {p1_0:(List Ac)} {p2:(List Int)} {p3:Int} {p4:Int} {r:AP×Int} (h0:G5 N rec_spec_gen s0_0 s0_1 s1 p1_0 p2 p3 p4=some r):Ai Try.prog 133 [(.ptr 0 0 0 0),(.agg [(ls AI p1_0),(ow 1 0 s1)]),(ls eI p2),(i64 p3),(i64 p4)] [(BM s0_0 s0_1),(ro 0 52 5 AJ s1)] (fun v st=>v=(.agg [(i64 r.1.op),(i64 r.1.num),(ls AD r.1.kids)])∧st=[(BM s0_0 r.2),(ro 0 52 5 AJ s1)]):=by
 unfold G5 at h0
 refine Ai.wk (r0:=(.agg [(i64 r.1.op),(i64 r.1.num),(ls AD r.1.kids)])) (st0:=[(BM s0_0 r.2),(ro 0 52 5 AJ s1),(NN r.1.op r.1.num r.1.kids)]) ?_ (EG (L:=[(0,(.agg [(i64 r.1.op),(i64 r.1.num),(ls AD r.1.kids)]))]) (st':=[(BM s0_0 r.2),(ro 0 52 5 AJ s1)]) [0,1] U (by decide) rfl U (.raw U (.pure (AB fun _=>U) trivial)) (.same U))
 refine ai Try.func133 U U U U (sr U fun K1 hK1=>Bl (m:=2) AM U U U U U (A1 (m:=3) AM EI U U (dn hK1 U (AH fun K2 hK2=>?_))))
 obtain⟨o4,h1,h0⟩:=Sh.BZ h0
 have M4 :∀(f3:Int),o4=Sum.inr f3→∀s,Wk 2 s ⟨120,Aa [(0,(.ptr 0 0 0 0)),(2,(ls eI p2)),(3,(i64 p3)),(4,(i64 p4)),(6,(.ptr 2 0 0 0)),(10,(.ptr 3 0 0 0))],[(BM s0_0 f3),(ro 0 52 5 AJ s1),⟨0,31,2,[[(ls AI p1_0),(ow 1 0 s1)]]⟩,FF]⟩→K2 s:=by
  intro f3 hq s hw
  subst o4
  try dsimp only at h0
  refine hK2 _ (AN hw (sr U fun K5 hK5=>zm tb 3 U (bs h0 fun q6 gq6 h0=>Bz (v':=(ow 4 0 q6)) AM Sc (Hc gq6) rfl U ⟨(Bi fun _=>U),trivial⟩ U U (zq tb U (dn hK5 U (AH fun K7 hK7=>sr U fun K8 hK8=>zq tb U (zz (i64 (Sh.len q6)) (CW Em U U U) rfl (zq tb U ?_))))))))
  refine dn hK8 U ?_
  refine ci h0 U ?_ ?_ <;> clear h0
  ·intro b9 h0
   refine sr U fun K10 hK10=>zm tb 3 U (zz (i64 (Sh.len q6)) (CW Em U U U) rfl (bs h0 fun q11 gq11 h0=>?_))
   refine Bc (rows0:=[(BM s0_0 f3)]) (rows1:=[(BM s0_0 q11.2)]) (st':=[(BM s0_0 q11.2),(ro 0 52 5 AJ s1),⟨0,31,2,[[(ls AI p1_0),(ow 1 0 s1)]]⟩,FF,(ro 0 3 1 eI q6)]) (v':=(i64 q11.1)) [0] AM Ez (Av gq11) rfl (by decide) rfl U (.raw U U .nil) rfl U (.raw U U .nil) .nil U U ?_
   refine bs h0 fun c12 gc12 h0=>zz (.ptr 4 0 (Int.toNat q11.1) 0) (Bn A4 U U U U gc12) rfl (zz (i64 c12) (B1 F6 U U (Bs gc12) rfl) rfl (zq tb U (dn hK10 U (AH fun K13 hK13=>?_))))
   refine BO [(ro 0 52 5 AJ s1),⟨0,31,2,[[(ls AI p1_0),(ow 1 0 s1)]]⟩,FF,(ro 0 3 1 eI q6)] 12 (by kernel_rfl) (by kernel_rfl) (by kernel_rfl) (by rfl) ?_
   refine BD (i64 c12) AM U (fun _ _=>BL U) (BD (.ptr 0 0 0 0) AM U (fun _ _=>BL U) (BD (.agg [(ls AI p1_0),(ow 1 0 s1)]) AM U (fun _ _=>A9 FA U U U (show 0+2≤2 by decide) rfl) (BD (ls eI p2) AM U (fun _ _=>BL U) (BD (.ptr 2 0 0 0) AM U (fun _ _=>F8 Sx U U (show 0+0≤2 by decide) rfl) (BD (ls AI p1_0) AM U (fun _ _=>B1 Uy U U U U) (BD (i64 c12) AM U (fun _ _=>BL U) (bs h0 fun q14 gq14 h0=>D9 AM (fun x0 zz=>BS (v:=(ls eI q14)) AM Qb (EE gq14) rfl U U (Ax U)) (BD (i64 p4) AM U (fun _ _=>BL U) (BD (i64 (Sh.w (p4 - 1))) AM U (fun _ _=>Kl U U) (bs h0 fun q15 gq15 h0=>?_))))))))))
   refine E2 (rows0:=[(BM s0_0 q11.2),(ro 0 52 5 AJ s1)]) (rows1:=[(BM s0_0 q15.2),(ro 0 52 5 AJ s1)]) (v':=(ls AD q15.1)) (y0:=(BM s0_0 q15.2)) [0,1] AM RE (Ai.wk (GG hrec_spec_gen gq15) (by refine Wk.trans (Wk.A7 (L:=[(0,(ls AD q15.1))]) (st':=[(BM s0_0 q15.2),(ro 0 52 5 AJ s1),⟨1,50,3,[]⟩]) (id:=2) rfl (show 2≤2 by decide) (AB Ag) ⟨(.A7 U),trivial⟩ U) ?_;exact AS [0,1] U (by decide) rfl U (.raw U U (.pure (AB fun _=>U) .nil)) (.same U))) rfl (by decide) rfl U (.raw U U (.pure (AB fun _=>U) .nil)) rfl U (fun _=>(.raw U U (.pure (AB fun _=>U) .nil))) (fun _=>U) rfl ?_
   refine bs h0 fun q16 gq16 h0=>D9 AM (fun x0 zz=>BS (v:=(.agg [(i64 q16.op),(i64 q16.num),(ls AD q16.kids)])) AM DB (BH gq16) rfl U U (Ax U)) (Di U (Az AM BN U U U U U U (show 0+3≤3 by decide) rfl (dn hK13 U ?_)))
   replace h0:=Sh.AE h0
   subst r
   exact AU (Exists.intro _ (And.intro ((AS (L:=[(10,(.ptr 2 0 0 0))]) (st':=[(BM s0_0 q15.2),(ro 0 52 5 AJ s1),(NN q16.op q16.num q16.kids)]) [0,1,3] U (by decide) rfl U (.raw U U (.pure (AB fun _=>U) (.raw U U .nil))) (.same U)).trans (Ah (L:=[(10,(.ptr 2 0 0 0))]) (.same U))) (A9 (x:=.tmp 10) (off:=0) (cs:=[(i64 q16.op),(i64 q16.num),(ls AD q16.kids)]) (vs:=[(i64 q16.op),(i64 q16.num),(ls AD q16.kids)]) BN U U U (show 0+3≤3 by decide) rfl _ ⟨U,U⟩)))
  ·intro b9 h0
   refine AR (hK7 _ (AH fun K17 hK17=>zr tb U U ?_))
   refine ci h0 U ?_ ?_ <;> clear h0
   ·intro b19 h0
    refine sr U fun K20 hK20=>zm tb 4 U (bs h0 fun q21 gq21 h0=>?_)
    refine Bc (rows0:=[(BM s0_0 f3),(ro 0 52 5 AJ s1)]) (rows1:=[(BM s0_0 q21.2),(ro 0 52 5 AJ s1)]) (st':=[(BM s0_0 q21.2),(ro 0 52 5 AJ s1),⟨0,31,2,[[(ls AI p1_0),(ow 1 0 s1)]]⟩,FF,(ro 0 3 1 eI q6)]) (v':=(.agg [(i64 q21.1.op),(i64 q21.1.num),(ls AD q21.1.kids)])) [0,1] AM Ol (GV gq21) rfl (by decide) rfl U (.raw U U (.pure (AB fun _=>U) .nil)) rfl U (.raw U U (.pure (AB fun _=>U) .nil)) .nil U U ?_
    refine Az AM BN U U U U U U (show 0+3≤3 by decide) rfl (dn hK20 U ?_)
    replace h0:=Sh.AE h0
    subst r
    exact AU (Exists.intro _ (And.intro ((AS (L:=[(10,(.ptr 2 0 0 0))]) (st':=[(BM s0_0 q21.2),(ro 0 52 5 AJ s1),(NN q21.1.op q21.1.num q21.1.kids)]) [0,1,3] U (by decide) rfl U (.raw U U (.pure (AB fun _=>U) (.raw U U .nil))) (.same U)).trans (Ah (L:=[(10,(.ptr 2 0 0 0))]) (.same U))) (A9 (x:=.tmp 10) (off:=0) (cs:=[(i64 q21.1.op),(i64 q21.1.num),(ls AD q21.1.kids)]) (vs:=[(i64 q21.1.op),(i64 q21.1.num),(ls AD q21.1.kids)]) BN U U U (show 0+3≤3 by decide) rfl _ ⟨U,U⟩)))
   ·intro b19 h0
    refine AR (hK17 _ (AH fun K22 hK22=>sr U fun K23 hK23=>zq tb U (bs h0 fun q24 gq24 h0=>?_)))
    refine Bc (rows0:=[(BM s0_0 f3)]) (rows1:=[(BM s0_0 q24.2)]) (st':=[(BM s0_0 q24.2),(ro 0 52 5 AJ s1),⟨0,31,2,[[(ls AI p1_0),(ow 1 0 s1)]]⟩,FF,(ro 0 3 1 eI q6)]) (v':=(i64 q24.1)) [0] AM Ez (Av gq24) rfl (by decide) rfl U (.raw U U .nil) rfl U (.raw U U .nil) .nil U U ?_
    refine zq tb U (dn hK23 U ?_)
    refine ci h0 U ?_ ?_ <;> clear h0
    ·intro b25 h0
     refine sr U fun K26 hK26=>zm tb 3 U ?_
     refine A3 (m:=5) (l:=[(0:Int)]) (enc:=eI) AM A4 (by decide) rfl U U U U U ?_
     refine zm tb 2 U (Ad (Wk.A7 (L:=[(10,(.ptr 3 0 0 0)),(101,(.ptr 0 0 0 0)),(102,(.agg [(ls AI p1_0),(ow 1 0 s1)])),(103,(ls eI p2)),(104,(ls eI [(0:Int)])),(106,(i64 (Sh.w (p4 - 1))))]) (st':=[(BM s0_0 q24.2),(ro 0 52 5 AJ s1),⟨0,31,2,[[(ls AI p1_0),(ow 1 0 s1)]]⟩,FF,(ro 0 3 1 eI q6),⟨1,3,1,[]⟩]) (id:=5) rfl (show 2≤5 by decide) (AB fun _=>U) ⟨.rfl,.rfl,(.agg ⟨.rfl,.rfl,trivial⟩),.rfl,(.A7 U),.rfl,trivial⟩ U) (bs h0 fun q27 gq27 h0=>?_))
     refine Hk (rowsP:=[(BM s0_0 q24.2),(ro 0 52 5 AJ s1)]) (rows0:=[(BM s0_0 q24.2),(ro 0 52 5 AJ s1)]) (rows1:=[(BM s0_0 q27.2),(ro 0 52 5 AJ s1)]) (rows2:=[(ro 0 50 3 AD q27.1)]) (rows1':=[(BM s0_0 q27.2),(ro 0 52 5 AJ s1)]) (rows2':=[(ro 0 50 3 AD q27.1)]) (st':=[(BM s0_0 q27.2),(ro 0 52 5 AJ s1),⟨0,31,2,[[(ls AI p1_0),(ow 1 0 s1)]]⟩,FF,(ro 0 3 1 eI q6),⟨1,3,1,[]⟩,(ro 0 50 3 AD q27.1)]) (v':=(ow 6 0 q27.1)) [0,1] AM RE (GG hrec_spec_gen gq27) rfl (by decide) rfl U (.raw U U (.pure (AB fun _=>U) .nil)) rfl U (.raw U U (.pure (AB fun _=>U) .nil)) (.pure (AB Ag) .nil) rfl U ?_
     refine Ad (Wk.A7 (L:=[(10,(.ptr 3 0 0 0)),(107,(ls AD q27.1))]) (st':=[(BM s0_0 q27.2),(ro 0 52 5 AJ s1),⟨0,31,2,[[(ls AI p1_0),(ow 1 0 s1)]]⟩,FF,(ro 0 3 1 eI q6),⟨1,3,1,[]⟩,⟨1,50,3,[]⟩]) (id:=6) rfl (show 2≤6 by decide) (AB Ag) ⟨.rfl,(.A7 U),trivial⟩ U) (bs h0 fun q28 gq28 h0=>zc (v':=(.agg [(i64 q28.op),(i64 q28.num),(ls AD q28.kids)])) DB (BH gq28) rfl U U (Az AM BN U U U U U U (show 0+3≤3 by decide) rfl (dn hK26 U ?_)))
     replace h0:=Sh.AE h0
     subst r
     exact AU (Exists.intro _ (And.intro ((AS (L:=[(10,(.ptr 2 0 0 0))]) (st':=[(BM s0_0 q27.2),(ro 0 52 5 AJ s1),(NN q28.op q28.num q28.kids)]) [0,1,3] U (by decide) rfl U (.raw U U (.pure (AB fun _=>U) (.raw U U .nil))) (.same U)).trans (Ah (L:=[(10,(.ptr 2 0 0 0))]) (.same U))) (A9 (x:=.tmp 10) (off:=0) (cs:=[(i64 q28.op),(i64 q28.num),(ls AD q28.kids)]) (vs:=[(i64 q28.op),(i64 q28.num),(ls AD q28.kids)]) BN U U U (show 0+3≤3 by decide) rfl _ ⟨U,U⟩)))
    ·intro b25 h0
     refine AR (hK22 _ (AH fun K29 hK29=>?_))
     refine BO [(ro 0 52 5 AJ s1),⟨0,31,2,[[(ls AI p1_0),(ow 1 0 s1)]]⟩,FF,(ro 0 3 1 eI q6)] 11 (by kernel_rfl) (by kernel_rfl) (by kernel_rfl) (by rfl) ?_
     refine BD (.ptr 0 0 0 0) AM U (fun _ _=>BL U) ?_
     refine D9 AM (fun x0 zz=>E9 (l:=[(1:Int),2,3,4]) (enc:=eI) AM A4 (by decide) rfl U U U U (AB fun _=>U) (Ax U)) ?_
     refine bs h0 fun q30 gq30 h0=>?_
     refine E2 (rows0:=[(BM s0_0 q24.2)]) (rows1:=[(BM s0_0 q30.2)]) (v':=(i64 q30.1)) (y0:=(BM s0_0 q30.2)) [0] AM H5 (BU gq30) rfl (by decide) rfl U (.raw U U .nil) rfl U (fun _=>(.raw U U .nil)) (fun _=>U) rfl ?_
     refine BD (.ptr 0 0 0 0) AM U (fun _ _=>BL U) (BD (.agg [(ls AI p1_0),(ow 1 0 s1)]) AM U (fun _ _=>A9 FA U U U (show 0+2≤2 by decide) rfl) (BD (ls eI p2) AM U (fun _ _=>BL U) ?_))
     refine D9 AM (fun x0 zz=>E9 (l:=[(0:Int),0]) (enc:=eI) AM A4 (by decide) rfl U U U U (AB fun _=>U) (Ax U)) ?_
     refine BD (i64 p4) AM U (fun _ _=>BL U) (BD (i64 (Sh.w (p4 - 1))) AM U (fun _ _=>Kl U U) (bs h0 fun q31 gq31 h0=>?_))
     refine E2 (rows0:=[(BM s0_0 q30.2),(ro 0 52 5 AJ s1)]) (rows1:=[(BM s0_0 q31.2),(ro 0 52 5 AJ s1)]) (v':=(ls AD q31.1)) (y0:=(BM s0_0 q31.2)) [0,1] AM RE (Ai.wk (GG hrec_spec_gen gq31) (by refine Wk.trans (Wk.A7 (L:=[(0,(ls AD q31.1))]) (st':=[(BM s0_0 q31.2),(ro 0 52 5 AJ s1),⟨1,50,3,[]⟩]) (id:=2) rfl (show 2≤2 by decide) (AB Ag) ⟨(.A7 U),trivial⟩ U) ?_;exact AS [0,1] U (by decide) rfl U (.raw U U (.pure (AB fun _=>U) .nil)) (.same U))) rfl (by decide) rfl U (.raw U U (.pure (AB fun _=>U) .nil)) rfl U (fun _=>(.raw U U (.pure (AB fun _=>U) .nil))) (fun _=>U) rfl ?_
     refine bs h0 fun q32 gq32 h0=>D9 AM (fun x0 zz=>BS (v:=(.agg [(i64 q32.op),(i64 q32.num),(ls AD q32.kids)])) AM DB (BH gq32) rfl U U (Ax U)) (Di U (Az AM BN U U U U U U (show 0+3≤3 by decide) rfl (dn hK29 U ?_)))
     replace h0:=Sh.AE h0
     subst r
     exact AU (Exists.intro _ (And.intro ((AS (L:=[(10,(.ptr 2 0 0 0))]) (st':=[(BM s0_0 q31.2),(ro 0 52 5 AJ s1),(NN q32.op q32.num q32.kids)]) [0,1,3] U (by decide) rfl U (.raw U U (.pure (AB fun _=>U) (.raw U U .nil))) (.same U)).trans (Ah (L:=[(10,(.ptr 2 0 0 0))]) (.same U))) (A9 (x:=.tmp 10) (off:=0) (cs:=[(i64 q32.op),(i64 q32.num),(ls AD q32.kids)]) (vs:=[(i64 q32.op),(i64 q32.num),(ls AD q32.kids)]) BN U U U (show 0+3≤3 by decide) rfl _ ⟨U,U⟩)))
 refine sr U fun K33 hK33=>zq tb U (bs h1 fun q34 gq34 h1=>?_)
 refine Bc (rows0:=[(BM s0_0 s0_1)]) (rows1:=[(BM s0_0 q34.2)]) (st':=[(BM s0_0 q34.2),(ro 0 52 5 AJ s1),⟨0,31,2,[[(ls AI p1_0),(ow 1 0 s1)]]⟩,FF]) (v':=(i64 q34.1)) [0] AM Ez (Av gq34) rfl (by decide) rfl U (.raw U U .nil) rfl U (.raw U U .nil) .nil U U ?_
 refine zq tb U (dn hK33 U ?_)
 refine ci h1 U ?_ ?_ <;> clear h1
 ·intro b35 h1
  refine zr tb U U (OV fun K37 hK37=>?_)
  obtain⟨o39,h2,h1⟩:=Sh.BZ h1
  have M39 :∀(_:Unit),o39=Sum.inr ()→∀s,Wk 2 s ⟨120,Aa [(0,(.ptr 0 0 0 0)),(2,(ls eI p2)),(3,(i64 p3)),(4,(i64 p4)),(6,(.ptr 2 0 0 0)),(10,(.ptr 3 0 0 0))],[(BM s0_0 q34.2),(ro 0 52 5 AJ s1),⟨0,31,2,[[(ls AI p1_0),(ow 1 0 s1)]]⟩,FF]⟩→K37 s:=by
   intro _ hq s hw
   subst o39
   try dsimp only at h1
   exact hK37 _ (M4 q34.2 (Sh.AE h1).symm _ (hw.trans (Ah (L:=[(0,(.ptr 0 0 0 0)),(2,(ls eI p2)),(3,(i64 p3)),(4,(i64 p4)),(6,(.ptr 2 0 0 0)),(10,(.ptr 3 0 0 0))]) (.same U))))
  refine Ab (Ay (σ:=Int) (fun n v=>DY N s0_0 s1 p1_0 p2 p3 p4 q34 rec_spec_gen n v=some o39) (fun a38=>⟨120,Aa [(0,(.ptr 0 0 0 0)),(2,(ls eI p2)),(3,(i64 p3)),(4,(i64 p4)),(6,(.ptr 2 0 0 0)),(10,(.ptr 3 0 0 0)),(11,(i64 a38))],[(BM s0_0 q34.2),(ro 0 52 5 AJ s1),⟨0,31,2,[[(ls AI p1_0),(ow 1 0 s1)]]⟩,FF]⟩) N 1 h2 (AG U) (fun _ hv=>by rw[DY] at hv;cases hv) ?_)
  rintro n a38 h2
  try dsimp only at h2 ⊢
  rw[DY] at h2
  refine AH fun K40 hK40=>sr U fun K41 hK41=>zm tb 3 U (zl tb U U (zq tb U (dn hK41 U ?_)))
  refine ci h2 U ?_ ?_ <;> clear h2
  ·intro b42 h2
   refine AR (hK40 _ (AH fun K43 hK43=>Ab (AH fun K44 hK44=>bs h2 fun o46 h3 h2=>?_)))
   have M46 :∀(t45:Bool),o46=t45→∀s,Wk 2 s ⟨120,Aa [(0,(.ptr 0 0 0 0)),(2,(ls eI p2)),(3,(i64 p3)),(4,(i64 p4)),(6,(.ptr 2 0 0 0)),(10,(.ptr 3 0 0 0)),(11,(i64 a38)),(44,(.bool t45))],[(BM s0_0 q34.2),(ro 0 52 5 AJ s1),⟨0,31,2,[[(ls AI p1_0),(ow 1 0 s1)]]⟩,FF]⟩→K44 s:=by
    intro t45 hq s hw
    subst o46
    try dsimp only at h2
    refine hK44 _ (AN hw ?_)
    refine ci h2 U ?_ ?_ <;> clear h2
    ·intro b47 h2
     refine AH fun K48 hK48=>?_
     refine BO [(ro 0 52 5 AJ s1),⟨0,31,2,[[(ls AI p1_0),(ow 1 0 s1)]]⟩,FF] 20 (by kernel_rfl) (by kernel_rfl) (by kernel_rfl) (by rfl) ?_
     refine BD (.ptr 0 0 0 0) AM U (fun _ _=>BL U) (BD (.agg [(ls AI p1_0),(ow 1 0 s1)]) AM U (fun _ _=>A9 FA U U U (show 0+2≤2 by decide) rfl) (BD (ls eI p2) AM U (fun _ _=>BL U) (BD (i64 a38) AM U (fun _ _=>BL U) (bs h2 fun q49 gq49 h2=>?_))))
     refine E2 (rows0:=[(BM s0_0 q34.2),(ro 0 52 5 AJ s1)]) (rows1:=[(BM s0_0 q49.2),(ro 0 52 5 AJ s1)]) (v':=(.agg [(i64 q49.1.op),(i64 q49.1.num),(ls AD q49.1.kids)])) (y0:=(BM s0_0 q49.2)) [0,1] AM Ol (GV gq49) rfl (by decide) rfl U (.raw U U (.pure (AB fun _=>U) .nil)) rfl U (fun _=>(.raw U U (.pure (AB fun _=>U) .nil))) (fun _=>U) rfl ?_
     refine BD (.ptr 0 0 0 0) AM U (fun _ _=>BL U) (BD (.agg [(ls AI p1_0),(ow 1 0 s1)]) AM U (fun _ _=>A9 FA U U U (show 0+2≤2 by decide) rfl) (BD (ls eI p2) AM U (fun _ _=>BL U) (BD (.ptr 2 0 0 0) AM U (fun _ _=>F8 Sx U U (show 0+0≤2 by decide) rfl) (BD (ls AI p1_0) AM U (fun _ _=>B1 Uy U U U U) (BD (i64 a38) AM U (fun _ _=>BL U) (BD (i64 (Sh.w (a38 - 1))) AM U (fun _ _=>Kl U U) (bs h2 fun c50 gc50 h2=>BD (.Al (AI c50) 0) AM U (fun _ _=>CZ ER U U gc50 U) (BD (.Al (AI c50) 0) AM U (fun _ _=>GB Xh U U) (BD (i64 c50.from_) AM U (fun _ _=>Fm F6 U U) (BD (i64 p4) AM U (fun _ _=>BL U) ?_))))))))))
     refine BD (i64 (Sh.w (p4 - 2))) AM U (fun _ _=>Kl U U) (bs h2 fun q51 gq51 h2=>?_)
     refine E2 (rows0:=[(BM s0_0 q49.2),(ro 0 52 5 AJ s1)]) (rows1:=[(BM s0_0 q51.2),(ro 0 52 5 AJ s1)]) (v':=(.agg [(i64 q51.1.op),(i64 q51.1.num),(ls AD q51.1.kids)])) (y0:=(BM s0_0 q51.2)) [0,1] AM HI (hrec_spec_gen gq51) rfl (by decide) rfl U (.raw U U (.pure (AB fun _=>U) .nil)) rfl U (fun _=>(.raw U U (.pure (AB fun _=>U) .nil))) (fun _=>U) rfl ?_
     refine D9 AM (fun x0 zz=>E9 (l:=[q49.1,q51.1]) (enc:=AD) AM BV (by decide) rfl U U (by simp only[List.map,Ap];rfl) rfl (AB Ag) (Ax U)) ?_
     refine bs h2 fun q52 gq52 h2=>D9 AM (fun x0 zz=>BS (v:=(.agg [(i64 q52.op),(i64 q52.num),(ls AD q52.kids)])) AM DB (BH gq52) rfl U U (Ax U)) (Di U (Az AM BN U U U U U U (show 0+3≤3 by decide) rfl (dn hK48 U ?_)))
     replace h2:=Sh.AE h2
     subst o39
     try dsimp only[id] at h1
     replace h1:=Sh.AE h1
     subst o4
     try dsimp only[id] at h0
     replace h0:=Sh.AE h0
     subst r
     exact AU (Exists.intro _ (And.intro ((AS (L:=[(10,(.ptr 2 0 0 0))]) (st':=[(BM s0_0 q51.2),(ro 0 52 5 AJ s1),(NN q52.op q52.num q52.kids)]) [0,1,3] U (by decide) rfl U (.raw U U (.pure (AB fun _=>U) (.raw U U .nil))) (.same U)).trans (Ah (L:=[(10,(.ptr 2 0 0 0))]) (.same U))) (A9 (x:=.tmp 10) (off:=0) (cs:=[(i64 q52.op),(i64 q52.num),(ls AD q52.kids)]) (vs:=[(i64 q52.op),(i64 q52.num),(ls AD q52.kids)]) BN U U U (show 0+3≤3 by decide) rfl _ ⟨U,U⟩)))
    ·intro b47 h2
     exact AR (hK43 _ (AL U (zm tb 3 U (AA (xi (Sh.w (a38+1)) h2 (AG U))))))
   refine AL U (zm tb 3 U (bs h3 fun q53 gq53 h3=>zc Ul (HD gq53) rfl U U (zq tb U ?_)))
   rcases Sh.Am h3 with ⟨b54,h3⟩ | ⟨b54,h3⟩
   ·refine zg tb b54 U ?_
    iterate 3 refine zg tb b54 rfl ?_
    refine bs h3 fun c55 gc55 h3=>B3 (v:=(.Al (AI c55) 0)) (Bw U U b54) rfl (CZ ER U U gc55 U) ?_
    iterate 4 refine zg tb b54 rfl ?_
    refine zt b54 U (zq tb U ?_)
    rcases Sh.Am h3 with ⟨b56,h3⟩ | ⟨b56,h3⟩
    ·exact zg tb b56 U (zg tb b56 U (zg tb b56 U (bs h3 fun q57 gq57 h3=>JC (v':=(.bool q57)) (Bw U U b56) SN (HE gq57) rfl (.agg (.val U (.own U U (fun _=>U) .nil)) (.val U (.val U .nil))) rfl trivial U U (zt b56 U (AA (M46 q57 (Sh.AE h3).symm _ (AG U)))))))
    ·refine zs b56 U ?_
     iterate 3 refine zs b56 rfl ?_
     exact zf b56 U (AA (M46 false (Sh.AE h3).symm _ (AG U)))
   ·refine zs b54 U ?_
    iterate 8 refine zs b54 rfl ?_
    refine zf b54 U (zq tb U ?_)
    iterate 4 refine zs rfl rfl ?_
    exact zf U U (AA (M46 false (Sh.AE h3).symm _ (AG U)))
  ·intro b42 h2
   exact A5 (M39 () (Sh.AE h2).symm _ (AG U))
 ·intro b35 h1
  exact AR (M4 q34.2 (Sh.AE h1).symm _ (AG U))
end Go.Proofs.Ytpahalfiiahddaa


