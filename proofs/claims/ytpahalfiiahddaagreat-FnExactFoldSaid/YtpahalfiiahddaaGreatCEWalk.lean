import Derived.Test.YtpahalfiiahddaaGreatProg
import Derived.Test.YtpahalfiiahddaaGreatGHADefsToFODefs
import Derived.Test.YtpahalfiiahddaaGreatAbsQ
namespace Go.Proofs.YtpahalfiiahddaaGreat.Cl
open Go Go.Abs RC
attribute [local irreducible] Go.Abs.C3
set_option maxRecDepth 100000
set_option maxHeartbeats 4000000

def tb:Kh Tryz.prog where
 t:=[]
 f:=[]
 v:=[]
 b:=[]
 s:=[27,46,79]
 ht:=by kernel_rfl
 hf:=by kernel_rfl
 hv:=by kernel_rfl
 hb:=by kernel_rfl
 hs:=by kernel_rfl

theorem DC:CQ Tryz.prog 27=some ⟨81,3,40,[.int .i64 0,.int .i64 0,.sl []]⟩:=by kernel_rfl
theorem Bm:CQ Tryz.prog 46=some ⟨3,1,8,[.int .i64 0]⟩:=by kernel_rfl
theorem ID:CQ Tryz.prog 79=some ⟨111,1,24,[.sl []]⟩:=by kernel_rfl
theorem PV:Cv Tryz.prog 27=true:=by kernel_rfl
theorem Ff:Cv Tryz.prog 46=true:=by kernel_rfl
theorem OD:Cv Tryz.prog 79=true:=by kernel_rfl

theorem Hc {p0:(List Ab)} {r:(List Ab)} (h0:CN p0=some r):Ag Tryz.prog 129 [(ls Ai p0)] [] (fun v st=>v=(ow 0 0 r)∧st=[(ro 0 81 3 Ai r)]):=by
 unfold CN at h0
 refine ai Tryz.func129 U U U U ?_
 refine zr tb U U ?_
 refine AF fun K2 hK2=>?_
 refine sr U fun K3 hK3=>?_
 refine zq tb U ?_
 refine R0 Ah PV U (fun hn=>?_) ?_
 ·subst hn
  replace h0:some []=some r:=by rw[← h0];first | rfl | simp[Sh.app]
  refine dn hK3 U ?_
  refine E6 (b:=true) rfl (fun _=>?_) (fun q=>nomatch (show true=false from (U:true=true).symm.trans q))
  refine zr tb U U ?_
  replace h0:=Sh.AB h0
  subst r
  exact AJ (Exists.intro _ (And.intro (((HE (t:=2) rfl 81 (size:=3) (by decide)).trans (AT (L:=[(2,(.own 0 0 (List.length ([]:List Ab))))]) ⟨.rfl,trivial⟩)).trans (AT (L:=[(2,(.own 0 0 (List.length ([]:List Ab))))]) ⟨.rfl,trivial⟩)) (And.intro U U)))
 ·refine dn hK3 U ?_
  refine E6 (b:=false) rfl (fun q=>nomatch (show false=true from (U:false=false).symm.trans q)) (fun _=>?_)
  refine AI (hK2 _ ?_)
  refine sr U fun K5 hK5=>?_
  refine Cb (m:=0) (st':=[(ro 0 81 3 Ai ([]:List Ab))]) (l:=([]:List Ab)) (enc:=Ai) Ah DC (by decide) rfl U U U U U ?_
  refine zq tb U ?_
  obtain⟨l6,gl6,h0⟩:=Sh.bind_some h0
  refine Fb (st':=[(ro 1 81 3 Ai l6)]) (l2:=p0) Ah DC U U U U NN (fun _=>U) gl6 U ?_
  refine zq tb U ?_
  refine dn hK5 U ?_
  replace h0:=Sh.AB h0
  subst r
  exact AJ (xr (Dx (L:=[(2,(ow 0 0 l6))]) (st':=[(ro 0 81 3 Ai l6)]) (.pure (AN fun _=>U) .nil) ⟨.rfl,trivial⟩))
theorem IC {p0:(List BU)} {r:(List BU)} (h0:B6 p0=some r):Ag Tryz.prog 130 [(ls BZ p0)] [] (fun v st=>v=(ow 0 0 r)∧st=[(ro 0 111 1 BZ r)]):=by
 unfold B6 at h0
 refine ai Tryz.func130 U U U U ?_
 refine zr tb U U ?_
 refine AF fun K2 hK2=>?_
 refine sr U fun K3 hK3=>?_
 refine zq tb U ?_
 refine R0 Ah OD U (fun hn=>?_) ?_
 ·subst hn
  replace h0:some []=some r:=by rw[← h0];first | rfl | simp[Sh.app]
  refine dn hK3 U ?_
  refine E6 (b:=true) rfl (fun _=>?_) (fun q=>nomatch (show true=false from (U:true=true).symm.trans q))
  refine zr tb U U ?_
  replace h0:=Sh.AB h0
  subst r
  exact AJ (Exists.intro _ (And.intro (((HE (t:=2) rfl 111 (size:=1) (by decide)).trans (AT (L:=[(2,(.own 0 0 (List.length ([]:List BU))))]) ⟨.rfl,trivial⟩)).trans (AT (L:=[(2,(.own 0 0 (List.length ([]:List BU))))]) ⟨.rfl,trivial⟩)) (And.intro U U)))
 ·refine dn hK3 U ?_
  refine E6 (b:=false) rfl (fun q=>nomatch (show false=true from (U:false=false).symm.trans q)) (fun _=>?_)
  refine AI (hK2 _ ?_)
  refine sr U fun K5 hK5=>?_
  refine Cb (m:=0) (st':=[(ro 0 111 1 BZ ([]:List BU))]) (l:=([]:List BU)) (enc:=BZ) Ah ID (by decide) rfl U U U U U ?_
  refine zq tb U ?_
  obtain⟨l6,gl6,h0⟩:=Sh.bind_some h0
  refine Fb (st':=[(ro 1 111 1 BZ l6)]) (l2:=p0) Ah ID U U U U NN (fun _=>U) gl6 U ?_
  refine zq tb U ?_
  refine dn hK5 U ?_
  replace h0:=Sh.AB h0
  subst r
  exact AJ (xr (Dx (L:=[(2,(ow 0 0 l6))]) (st':=[(ro 0 111 1 BZ l6)]) (.pure (AN fun _=>U) .nil) ⟨.rfl,trivial⟩))
theorem B0 {p0:(List Int)} {r:(List Int)} (h0:Bh p0=some r):Ag Tryz.prog 102 [(ls eI p0)] [] (fun v st=>v=(ow 0 0 r)∧st=[(ro 0 3 1 eI r)]):=by
 unfold Bh at h0
 refine ai Tryz.func102 U U U U ?_
 refine zr tb U U ?_
 refine AF fun K2 hK2=>?_
 refine sr U fun K3 hK3=>?_
 refine zq tb U ?_
 refine R0 Ah Ff U (fun hn=>?_) ?_
 ·subst hn
  replace h0:some []=some r:=by rw[← h0];first | rfl | simp[Sh.app]
  refine dn hK3 U ?_
  refine E6 (b:=true) rfl (fun _=>?_) (fun q=>nomatch (show true=false from (U:true=true).symm.trans q))
  refine zr tb U U ?_
  replace h0:=Sh.AB h0
  subst r
  exact AJ (Exists.intro _ (And.intro (((HE (t:=2) rfl 3 (size:=1) (by decide)).trans (AT (L:=[(2,(.own 0 0 (List.length ([]:List Int))))]) ⟨.rfl,trivial⟩)).trans (AT (L:=[(2,(.own 0 0 (List.length ([]:List Int))))]) ⟨.rfl,trivial⟩)) (And.intro U U)))
 ·refine dn hK3 U ?_
  refine E6 (b:=false) rfl (fun q=>nomatch (show false=true from (U:false=false).symm.trans q)) (fun _=>?_)
  refine AI (hK2 _ ?_)
  refine sr U fun K5 hK5=>?_
  refine Cb (m:=0) (st':=[(ro 0 3 1 eI ([]:List Int))]) (l:=([]:List Int)) (enc:=eI) Ah Bm (by decide) rfl U U U U U ?_
  refine zq tb U ?_
  obtain⟨l6,gl6,h0⟩:=Sh.bind_some h0
  refine Fb (st':=[(ro 1 3 1 eI l6)]) (l2:=p0) Ah Bm U U U U NN (fun _=>U) gl6 U ?_
  refine zq tb U ?_
  refine dn hK5 U ?_
  replace h0:=Sh.AB h0
  subst r
  exact AJ (xr (Dx (L:=[(2,(ow 0 0 l6))]) (st':=[(ro 0 3 1 eI l6)]) (.pure (AN fun _=>U) .nil) ⟨.rfl,trivial⟩))
end Go.Proofs.YtpahalfiiahddaaGreat.Cl

