import Derived.Test.YtcegihniiokijaaGreatProg
import Derived.Test.YtcegihniiokijaaGreatGEncCToULDefs
import Derived.Test.YtcegihniiokijaaGreatAbsQ
namespace Go.Proofs.YtcegihniiokijaaGreat.Cl
open Go Go.Abs RC
attribute [local irreducible] Go.Abs.Cc
set_option maxRecDepth 100000
set_option maxHeartbeats 4000000

def tb:Kh Tryz.prog where
 t:=[]
 f:=[]
 v:=[]
 b:=[]
 s:=[27,37,96]
 ht:=by kernel_rfl
 hf:=by kernel_rfl
 hv:=by kernel_rfl
 hb:=by kernel_rfl
 hs:=by kernel_rfl

theorem DA:CF Tryz.prog 27=some ⟨98,3,40,[.int .i64 0,.int .i64 0,.sl []]⟩:=by kernel_rfl
theorem BN:CF Tryz.prog 37=some ⟨3,1,8,[.int .i64 0]⟩:=by kernel_rfl
theorem IC:CF Tryz.prog 96=some ⟨134,1,24,[.sl []]⟩:=by kernel_rfl
theorem Oz:CI Tryz.prog 27=true:=by kernel_rfl
theorem Ga:CI Tryz.prog 37=true:=by kernel_rfl
theorem Nn:CI Tryz.prog 96=true:=by kernel_rfl

theorem HW {p0:(List Ag)} {r:(List Ag)} (h0:CE p0=some r):Ae Tryz.prog 127 [(ls AG p0)] [] (fun v st=>v=(ow 0 0 r)∧st=[(ro 0 98 3 AG r)]):=by
 unfold CE at h0
 refine ai Tryz.func127 U U U U ?_
 refine zr tb U U ?_
 refine AE fun K2 hK2=>?_
 refine sr U fun K3 hK3=>?_
 refine zq tb U ?_
 refine Q7 Ah Oz U (fun hn=>?_) ?_
 ·subst hn
  replace h0:some []=some r:=by rw[← h0];first | rfl | simp[Sh.app]
  refine dn hK3 U ?_
  refine Et (b:=true) rfl (fun _=>?_) (fun q=>nomatch (show true=false from (U:true=true).symm.trans q))
  refine zr tb U U ?_
  replace h0:=Sh.AA h0
  subst r
  exact AK (Exists.intro _ (And.intro (((Fe (t:=2) rfl 98 (size:=3) (by decide)).trans (AF (L:=[(2,(.own 0 0 (List.length ([]:List Ag))))]) ⟨.rfl,trivial⟩)).trans (AF (L:=[(2,(.own 0 0 (List.length ([]:List Ag))))]) ⟨.rfl,trivial⟩)) (And.intro U U)))
 ·refine dn hK3 U ?_
  refine Et (b:=false) rfl (fun q=>nomatch (show false=true from (U:false=false).symm.trans q)) (fun _=>?_)
  refine AI (hK2 _ ?_)
  refine sr U fun K5 hK5=>?_
  refine DV (m:=0) (st':=[(ro 0 98 3 AG ([]:List Ag))]) (l:=([]:List Ag)) (enc:=AG) Ah DA (by decide) rfl U U U U U ?_
  refine zq tb U ?_
  obtain⟨l6,gl6,h0⟩:=Sh.bind_some h0
  refine Eg (st':=[(ro 1 98 3 AG l6)]) (l2:=p0) Ah DA U U U U Me (fun _=>U) gl6 U ?_
  refine zq tb U ?_
  refine dn hK5 U ?_
  replace h0:=Sh.AA h0
  subst r
  exact AK (xr (Cz (L:=[(2,(ow 0 0 l6))]) (st':=[(ro 0 98 3 AG l6)]) (.pure (Ak fun _=>U) .nil) ⟨.rfl,trivial⟩))
theorem H7 {p0:(List BO)} {r:(List BO)} (h0:Bx p0=some r):Ae Tryz.prog 128 [(ls Ar p0)] [] (fun v st=>v=(ow 0 0 r)∧st=[(ro 0 134 1 Ar r)]):=by
 unfold Bx at h0
 refine ai Tryz.func128 U U U U ?_
 refine zr tb U U ?_
 refine AE fun K2 hK2=>?_
 refine sr U fun K3 hK3=>?_
 refine zq tb U ?_
 refine Q7 Ah Nn U (fun hn=>?_) ?_
 ·subst hn
  replace h0:some []=some r:=by rw[← h0];first | rfl | simp[Sh.app]
  refine dn hK3 U ?_
  refine Et (b:=true) rfl (fun _=>?_) (fun q=>nomatch (show true=false from (U:true=true).symm.trans q))
  refine zr tb U U ?_
  replace h0:=Sh.AA h0
  subst r
  exact AK (Exists.intro _ (And.intro (((Fe (t:=2) rfl 134 (size:=1) (by decide)).trans (AF (L:=[(2,(.own 0 0 (List.length ([]:List BO))))]) ⟨.rfl,trivial⟩)).trans (AF (L:=[(2,(.own 0 0 (List.length ([]:List BO))))]) ⟨.rfl,trivial⟩)) (And.intro U U)))
 ·refine dn hK3 U ?_
  refine Et (b:=false) rfl (fun q=>nomatch (show false=true from (U:false=false).symm.trans q)) (fun _=>?_)
  refine AI (hK2 _ ?_)
  refine sr U fun K5 hK5=>?_
  refine DV (m:=0) (st':=[(ro 0 134 1 Ar ([]:List BO))]) (l:=([]:List BO)) (enc:=Ar) Ah IC (by decide) rfl U U U U U ?_
  refine zq tb U ?_
  obtain⟨l6,gl6,h0⟩:=Sh.bind_some h0
  refine Eg (st':=[(ro 1 134 1 Ar l6)]) (l2:=p0) Ah IC U U U U Me (fun _=>U) gl6 U ?_
  refine zq tb U ?_
  refine dn hK5 U ?_
  replace h0:=Sh.AA h0
  subst r
  exact AK (xr (Cz (L:=[(2,(ow 0 0 l6))]) (st':=[(ro 0 134 1 Ar l6)]) (.pure (Ak fun _=>U) .nil) ⟨.rfl,trivial⟩))
theorem BY {p0:(List Int)} {r:(List Int)} (h0:Be p0=some r):Ae Tryz.prog 77 [(ls eI p0)] [] (fun v st=>v=(ow 0 0 r)∧st=[(ro 0 3 1 eI r)]):=by
 unfold Be at h0
 refine ai Tryz.func77 U U U U ?_
 refine zr tb U U ?_
 refine AE fun K2 hK2=>?_
 refine sr U fun K3 hK3=>?_
 refine zq tb U ?_
 refine Q7 Ah Ga U (fun hn=>?_) ?_
 ·subst hn
  replace h0:some []=some r:=by rw[← h0];first | rfl | simp[Sh.app]
  refine dn hK3 U ?_
  refine Et (b:=true) rfl (fun _=>?_) (fun q=>nomatch (show true=false from (U:true=true).symm.trans q))
  refine zr tb U U ?_
  replace h0:=Sh.AA h0
  subst r
  exact AK (Exists.intro _ (And.intro (((Fe (t:=2) rfl 3 (size:=1) (by decide)).trans (AF (L:=[(2,(.own 0 0 (List.length ([]:List Int))))]) ⟨.rfl,trivial⟩)).trans (AF (L:=[(2,(.own 0 0 (List.length ([]:List Int))))]) ⟨.rfl,trivial⟩)) (And.intro U U)))
 ·refine dn hK3 U ?_
  refine Et (b:=false) rfl (fun q=>nomatch (show false=true from (U:false=false).symm.trans q)) (fun _=>?_)
  refine AI (hK2 _ ?_)
  refine sr U fun K5 hK5=>?_
  refine DV (m:=0) (st':=[(ro 0 3 1 eI ([]:List Int))]) (l:=([]:List Int)) (enc:=eI) Ah BN (by decide) rfl U U U U U ?_
  refine zq tb U ?_
  obtain⟨l6,gl6,h0⟩:=Sh.bind_some h0
  refine Eg (st':=[(ro 1 3 1 eI l6)]) (l2:=p0) Ah BN U U U U Me (fun _=>U) gl6 U ?_
  refine zq tb U ?_
  refine dn hK5 U ?_
  replace h0:=Sh.AA h0
  subst r
  exact AK (xr (Cz (L:=[(2,(ow 0 0 l6))]) (st':=[(ro 0 3 1 eI l6)]) (.pure (Ak fun _=>U) .nil) ⟨.rfl,trivial⟩))
end Go.Proofs.YtcegihniiokijaaGreat.Cl

