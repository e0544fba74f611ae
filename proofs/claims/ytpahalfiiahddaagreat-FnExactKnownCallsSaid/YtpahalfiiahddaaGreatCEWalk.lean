import Derived.Test.YtpahalfiiahddaaGreatProg
import Derived.Test.YtpahalfiiahddaaGreatGHADefsToKCDefs
import Derived.Test.YtpahalfiiahddaaGreatAbsQ
namespace Go.Proofs.YtpahalfiiahddaaGreat.Cl
open Go Go.Abs RC
attribute [local irreducible] Go.Abs.Cp
set_option maxRecDepth 100000
set_option maxHeartbeats 4000000

def tb:Kg Tryz.prog where
 t:=[]
 f:=[]
 v:=[]
 b:=[]
 s:=[27,46,79]
 ht:=by kernel_rfl
 hf:=by kernel_rfl
 hv:=by kernel_rfl
 hb:=by kernel_rfl
 hs:=by kernel_rfl

theorem DA:CM Tryz.prog 27=some ⟨81,3,40,[.int .i64 0,.int .i64 0,.sl []]⟩:=by kernel_rfl
theorem Bu:CM Tryz.prog 46=some ⟨3,1,8,[.int .i64 0]⟩:=by kernel_rfl
theorem H0:CM Tryz.prog 79=some ⟨111,1,24,[.sl []]⟩:=by kernel_rfl
theorem OS:Cu Tryz.prog 27=true:=by kernel_rfl
theorem FU:Cu Tryz.prog 46=true:=by kernel_rfl
theorem Nc:Cu Tryz.prog 79=true:=by kernel_rfl

theorem HN {p0:(List Ah)} {r:(List Ah)} (h0:CL p0=some r):Ak Tryz.prog 129 [(ls Ad p0)] [] (fun v st=>v=(ow 0 0 r)∧st=[(ro 0 81 3 Ad r)]):=by
 unfold CL at h0
 refine ai Tryz.func129 U U U U ?_
 refine zr tb U U ?_
 refine AJ fun K2 hK2=>?_
 refine sr U fun K3 hK3=>?_
 refine zq tb U ?_
 refine Qg Aj OS U (fun hn=>?_) ?_
 ·subst hn
  replace h0:some []=some r:=by rw[← h0];first | rfl | simp[Sh.app]
  refine dn hK3 U ?_
  refine Ew (b:=true) rfl (fun _=>?_) (fun q=>nomatch (show true=false from (U:true=true).symm.trans q))
  refine zr tb U U ?_
  replace h0:=Sh.AE h0
  subst r
  exact AP (Exists.intro _ (And.intro (((G5 (t:=2) rfl 81 (size:=3) (by decide)).trans (Ab (L:=[(2,(.own 0 0 (List.length ([]:List Ah))))]) ⟨.rfl,trivial⟩)).trans (Ab (L:=[(2,(.own 0 0 (List.length ([]:List Ah))))]) ⟨.rfl,trivial⟩)) (And.intro U U)))
 ·refine dn hK3 U ?_
  refine Ew (b:=false) rfl (fun q=>nomatch (show false=true from (U:false=false).symm.trans q)) (fun _=>?_)
  refine AN (hK2 _ ?_)
  refine sr U fun K5 hK5=>?_
  refine Bb (m:=0) (st':=[(ro 0 81 3 Ad ([]:List Ah))]) (l:=([]:List Ah)) (enc:=Ad) Aj DA (by decide) rfl U U U U U ?_
  refine zq tb U ?_
  obtain⟨l6,gl6,h0⟩:=Sh.bind_some h0
  refine FR (st':=[(ro 1 81 3 Ad l6)]) (l2:=p0) Aj DA U U U U O0 (fun _=>U) gl6 U ?_
  refine zq tb U ?_
  refine dn hK5 U ?_
  replace h0:=Sh.AE h0
  subst r
  exact AP (xr (Dv (L:=[(2,(ow 0 0 l6))]) (st':=[(ro 0 81 3 Ad l6)]) (.pure (AS fun _=>U) .nil) ⟨.rfl,trivial⟩))
theorem Hq {p0:(List Ba)} {r:(List Ba)} (h0:CA p0=some r):Ak Tryz.prog 130 [(ls At p0)] [] (fun v st=>v=(ow 0 0 r)∧st=[(ro 0 111 1 At r)]):=by
 unfold CA at h0
 refine ai Tryz.func130 U U U U ?_
 refine zr tb U U ?_
 refine AJ fun K2 hK2=>?_
 refine sr U fun K3 hK3=>?_
 refine zq tb U ?_
 refine Qg Aj Nc U (fun hn=>?_) ?_
 ·subst hn
  replace h0:some []=some r:=by rw[← h0];first | rfl | simp[Sh.app]
  refine dn hK3 U ?_
  refine Ew (b:=true) rfl (fun _=>?_) (fun q=>nomatch (show true=false from (U:true=true).symm.trans q))
  refine zr tb U U ?_
  replace h0:=Sh.AE h0
  subst r
  exact AP (Exists.intro _ (And.intro (((G5 (t:=2) rfl 111 (size:=1) (by decide)).trans (Ab (L:=[(2,(.own 0 0 (List.length ([]:List Ba))))]) ⟨.rfl,trivial⟩)).trans (Ab (L:=[(2,(.own 0 0 (List.length ([]:List Ba))))]) ⟨.rfl,trivial⟩)) (And.intro U U)))
 ·refine dn hK3 U ?_
  refine Ew (b:=false) rfl (fun q=>nomatch (show false=true from (U:false=false).symm.trans q)) (fun _=>?_)
  refine AN (hK2 _ ?_)
  refine sr U fun K5 hK5=>?_
  refine Bb (m:=0) (st':=[(ro 0 111 1 At ([]:List Ba))]) (l:=([]:List Ba)) (enc:=At) Aj H0 (by decide) rfl U U U U U ?_
  refine zq tb U ?_
  obtain⟨l6,gl6,h0⟩:=Sh.bind_some h0
  refine FR (st':=[(ro 1 111 1 At l6)]) (l2:=p0) Aj H0 U U U U O0 (fun _=>U) gl6 U ?_
  refine zq tb U ?_
  refine dn hK5 U ?_
  replace h0:=Sh.AE h0
  subst r
  exact AP (xr (Dv (L:=[(2,(ow 0 0 l6))]) (st':=[(ro 0 111 1 At l6)]) (.pure (AS fun _=>U) .nil) ⟨.rfl,trivial⟩))
theorem B4 {p0:(List Int)} {r:(List Int)} (h0:Bi p0=some r):Ak Tryz.prog 102 [(ls eI p0)] [] (fun v st=>v=(ow 0 0 r)∧st=[(ro 0 3 1 eI r)]):=by
 unfold Bi at h0
 refine ai Tryz.func102 U U U U ?_
 refine zr tb U U ?_
 refine AJ fun K2 hK2=>?_
 refine sr U fun K3 hK3=>?_
 refine zq tb U ?_
 refine Qg Aj FU U (fun hn=>?_) ?_
 ·subst hn
  replace h0:some []=some r:=by rw[← h0];first | rfl | simp[Sh.app]
  refine dn hK3 U ?_
  refine Ew (b:=true) rfl (fun _=>?_) (fun q=>nomatch (show true=false from (U:true=true).symm.trans q))
  refine zr tb U U ?_
  replace h0:=Sh.AE h0
  subst r
  exact AP (Exists.intro _ (And.intro (((G5 (t:=2) rfl 3 (size:=1) (by decide)).trans (Ab (L:=[(2,(.own 0 0 (List.length ([]:List Int))))]) ⟨.rfl,trivial⟩)).trans (Ab (L:=[(2,(.own 0 0 (List.length ([]:List Int))))]) ⟨.rfl,trivial⟩)) (And.intro U U)))
 ·refine dn hK3 U ?_
  refine Ew (b:=false) rfl (fun q=>nomatch (show false=true from (U:false=false).symm.trans q)) (fun _=>?_)
  refine AN (hK2 _ ?_)
  refine sr U fun K5 hK5=>?_
  refine Bb (m:=0) (st':=[(ro 0 3 1 eI ([]:List Int))]) (l:=([]:List Int)) (enc:=eI) Aj Bu (by decide) rfl U U U U U ?_
  refine zq tb U ?_
  obtain⟨l6,gl6,h0⟩:=Sh.bind_some h0
  refine FR (st':=[(ro 1 3 1 eI l6)]) (l2:=p0) Aj Bu U U U U O0 (fun _=>U) gl6 U ?_
  refine zq tb U ?_
  refine dn hK5 U ?_
  replace h0:=Sh.AE h0
  subst r
  exact AP (xr (Dv (L:=[(2,(ow 0 0 l6))]) (st':=[(ro 0 3 1 eI l6)]) (.pure (AS fun _=>U) .nil) ⟨.rfl,trivial⟩))
end Go.Proofs.YtpahalfiiahddaaGreat.Cl

