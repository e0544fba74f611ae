import Derived.Test.YtpahalfiiahddaaGreatProg
import Derived.Test.YtpahalfiiahddaaGreatGHADefsToINDefs
import Derived.Test.YtpahalfiiahddaaGreatAbsQ
namespace Go.Proofs.YtpahalfiiahddaaGreat.Cl
open Go Go.Abs RC
attribute [local irreducible] Go.Abs.DF
set_option maxRecDepth 100000
set_option maxHeartbeats 4000000

def tb:Kg Tryz.prog where
 t:=[]
 f:=[]
 v:=[]
 b:=[]
 s:=[27,46,79]
 ht:=by kernel_rfl
 hf:=by kernel_rfl
 hv:=by kernel_rfl
 hb:=by kernel_rfl
 hs:=by kernel_rfl

theorem DO:By Tryz.prog 27=some ⟨81,3,40,[.int .i64 0,.int .i64 0,.sl []]⟩:=by kernel_rfl
theorem BJ:By Tryz.prog 46=some ⟨3,1,8,[.int .i64 0]⟩:=by kernel_rfl
theorem Io:By Tryz.prog 79=some ⟨111,1,24,[.sl []]⟩:=by kernel_rfl
theorem Qu:Cx Tryz.prog 27=true:=by kernel_rfl
theorem Fp:Cx Tryz.prog 46=true:=by kernel_rfl
theorem O6:Cx Tryz.prog 79=true:=by kernel_rfl

theorem H7 {p0:(List Ab)} {r:(List Ab)} (h0:CJ p0=some r):Aa Tryz.prog 129 [(ls AT p0)] [] (fun v st=>v=(ow 0 0 r)∧st=[(ro 0 81 3 AT r)]):=by
 unfold CJ at h0
 refine ai Tryz.func129 U U U U ?_
 refine zr tb U U ?_
 refine AB fun K2 hK2=>?_
 refine sr U fun K3 hK3=>?_
 refine zq tb U ?_
 refine TJ Ac Qu U (fun hn=>?_) ?_
 ·subst hn
  replace h0:some []=some r:=by rw[← h0];first | rfl | simp[Sh.app]
  refine dn hK3 U ?_
  refine FT (b:=true) rfl (fun _=>?_) (fun q=>nomatch (show true=false from (U:true=true).symm.trans q))
  refine zr tb U U ?_
  replace h0:=Sh.AA h0
  subst r
  exact AI (Exists.intro _ (And.intro (((Fq (t:=2) rfl 81 (size:=3) (by decide)).trans (AS (L:=[(2,(.own 0 0 (List.length ([]:List Ab))))]) ⟨.rfl,trivial⟩)).trans (AS (L:=[(2,(.own 0 0 (List.length ([]:List Ab))))]) ⟨.rfl,trivial⟩)) (And.intro U U)))
 ·refine dn hK3 U ?_
  refine FT (b:=false) rfl (fun q=>nomatch (show false=true from (U:false=false).symm.trans q)) (fun _=>?_)
  refine AG (hK2 _ ?_)
  refine sr U fun K5 hK5=>?_
  refine Bu (m:=0) (st':=[(ro 0 81 3 AT ([]:List Ab))]) (l:=([]:List Ab)) (enc:=AT) Ac DO (by decide) rfl U U U U U ?_
  refine zq tb U ?_
  obtain⟨l6,gl6,h0⟩:=Sh.bind_some h0
  refine FA (st':=[(ro 1 81 3 AT l6)]) (l2:=p0) Ac DO U U U U Nw (fun _=>U) gl6 U ?_
  refine zq tb U ?_
  refine dn hK5 U ?_
  replace h0:=Sh.AA h0
  subst r
  exact AI (xr (Cy (L:=[(2,(ow 0 0 l6))]) (st':=[(ro 0 81 3 AT l6)]) (.pure (AJ fun _=>U) .nil) ⟨.rfl,trivial⟩))
theorem Ig {p0:(List BP)} {r:(List BP)} (h0:B2 p0=some r):Aa Tryz.prog 130 [(ls BR p0)] [] (fun v st=>v=(ow 0 0 r)∧st=[(ro 0 111 1 BR r)]):=by
 unfold B2 at h0
 refine ai Tryz.func130 U U U U ?_
 refine zr tb U U ?_
 refine AB fun K2 hK2=>?_
 refine sr U fun K3 hK3=>?_
 refine zq tb U ?_
 refine TJ Ac O6 U (fun hn=>?_) ?_
 ·subst hn
  replace h0:some []=some r:=by rw[← h0];first | rfl | simp[Sh.app]
  refine dn hK3 U ?_
  refine FT (b:=true) rfl (fun _=>?_) (fun q=>nomatch (show true=false from (U:true=true).symm.trans q))
  refine zr tb U U ?_
  replace h0:=Sh.AA h0
  subst r
  exact AI (Exists.intro _ (And.intro (((Fq (t:=2) rfl 111 (size:=1) (by decide)).trans (AS (L:=[(2,(.own 0 0 (List.length ([]:List BP))))]) ⟨.rfl,trivial⟩)).trans (AS (L:=[(2,(.own 0 0 (List.length ([]:List BP))))]) ⟨.rfl,trivial⟩)) (And.intro U U)))
 ·refine dn hK3 U ?_
  refine FT (b:=false) rfl (fun q=>nomatch (show false=true from (U:false=false).symm.trans q)) (fun _=>?_)
  refine AG (hK2 _ ?_)
  refine sr U fun K5 hK5=>?_
  refine Bu (m:=0) (st':=[(ro 0 111 1 BR ([]:List BP))]) (l:=([]:List BP)) (enc:=BR) Ac Io (by decide) rfl U U U U U ?_
  refine zq tb U ?_
  obtain⟨l6,gl6,h0⟩:=Sh.bind_some h0
  refine FA (st':=[(ro 1 111 1 BR l6)]) (l2:=p0) Ac Io U U U U Nw (fun _=>U) gl6 U ?_
  refine zq tb U ?_
  refine dn hK5 U ?_
  replace h0:=Sh.AA h0
  subst r
  exact AI (xr (Cy (L:=[(2,(ow 0 0 l6))]) (st':=[(ro 0 111 1 BR l6)]) (.pure (AJ fun _=>U) .nil) ⟨.rfl,trivial⟩))
theorem Bv {p0:(List Int)} {r:(List Int)} (h0:BW p0=some r):Aa Tryz.prog 102 [(ls eI p0)] [] (fun v st=>v=(ow 0 0 r)∧st=[(ro 0 3 1 eI r)]):=by
 unfold BW at h0
 refine ai Tryz.func102 U U U U ?_
 refine zr tb U U ?_
 refine AB fun K2 hK2=>?_
 refine sr U fun K3 hK3=>?_
 refine zq tb U ?_
 refine TJ Ac Fp U (fun hn=>?_) ?_
 ·subst hn
  replace h0:some []=some r:=by rw[← h0];first | rfl | simp[Sh.app]
  refine dn hK3 U ?_
  refine FT (b:=true) rfl (fun _=>?_) (fun q=>nomatch (show true=false from (U:true=true).symm.trans q))
  refine zr tb U U ?_
  replace h0:=Sh.AA h0
  subst r
  exact AI (Exists.intro _ (And.intro (((Fq (t:=2) rfl 3 (size:=1) (by decide)).trans (AS (L:=[(2,(.own 0 0 (List.length ([]:List Int))))]) ⟨.rfl,trivial⟩)).trans (AS (L:=[(2,(.own 0 0 (List.length ([]:List Int))))]) ⟨.rfl,trivial⟩)) (And.intro U U)))
 ·refine dn hK3 U ?_
  refine FT (b:=false) rfl (fun q=>nomatch (show false=true from (U:false=false).symm.trans q)) (fun _=>?_)
  refine AG (hK2 _ ?_)
  refine sr U fun K5 hK5=>?_
  refine Bu (m:=0) (st':=[(ro 0 3 1 eI ([]:List Int))]) (l:=([]:List Int)) (enc:=eI) Ac BJ (by decide) rfl U U U U U ?_
  refine zq tb U ?_
  obtain⟨l6,gl6,h0⟩:=Sh.bind_some h0
  refine FA (st':=[(ro 1 3 1 eI l6)]) (l2:=p0) Ac BJ U U U U Nw (fun _=>U) gl6 U ?_
  refine zq tb U ?_
  refine dn hK5 U ?_
  replace h0:=Sh.AA h0
  subst r
  exact AI (xr (Cy (L:=[(2,(ow 0 0 l6))]) (st':=[(ro 0 3 1 eI l6)]) (.pure (AJ fun _=>U) .nil) ⟨.rfl,trivial⟩))
end Go.Proofs.YtpahalfiiahddaaGreat.Cl

