import Derived.Test.YtihdgoiebmfapaaGreatProg
import Derived.Test.YtihdgoiebmfapaaGreatGHADefsToKTDefs
set_option linter.all false
namespace Go.Proofs.YtihdgoiebmfapaaGreat.Cl
open Go Go.Abs RC
attribute [local irreducible] Go.Abs.Dy
set_option maxRecDepth 100000
set_option maxHeartbeats 4000000
def tb:KY Tryz.prog where
 t:=[]
 f:=[]
 v:=[]
 b:=[]
 s:=[23,32,78]
 ht:=by kernel_rfl
 hf:=by kernel_rfl
 hv:=by kernel_rfl
 hb:=by kernel_rfl
 hs:=by kernel_rfl
theorem C8:Dt Tryz.prog 23=some ⟨80,3,40,[.int .i64 0,.int .i64 0,.sl []]⟩:=by kernel_rfl
theorem BM:Dt Tryz.prog 32=some ⟨3,1,8,[.int .i64 0]⟩:=by kernel_rfl
theorem IV:Dt Tryz.prog 78=some ⟨82,1,24,[.sl []]⟩:=by kernel_rfl
theorem RJ:DI Tryz.prog 23=true:=by kernel_rfl
theorem Fe:DI Tryz.prog 32=true:=by kernel_rfl
theorem Oi:DI Tryz.prog 78=true:=by kernel_rfl
theorem JJ {p0:(List AN)}{r:(List AN)}(h0:DP p0=some r):Ac Tryz.prog 124 [ls Ai p0] [] (λv st=>v=(ow 0 0 r)/\st=[ro 0 80 3 Ai r]):=by
 unfold DP at h0;refine ai Tryz.func124 AA AA AA AA ?_;refine zr tb AA AA ?_;refine AE λK2 tT=>?_;refine sr AA λK3 sa=>?_;refine zq tb AA ?_;refine TR AH RJ AA (λhn=>?_) ?_
 ·subst hn;replace h0:some []=some r:=by rw[<- h0];first|rfl|simp[Sh.app]
  refine dn sa AA ?_;refine GC (b:=true) rfl (λ_=>?_) (λq=>nomatch (show true=false from (AA:true=true).symm.trans q));refine zr tb AA AA ?_;replace h0:=Sh.AD h0;subst r;exact Ap (Exists.intro _ (And.intro (((Ig (t:=2) rfl 80 (size:=3) (by decide)).trans (Ag (L:=[(2,.own 0 0 (List.length ([]:List AN)))]) ⟨.rfl,fa⟩)).trans (Ag (L:=[(2,.own 0 0 (List.length ([]:List AN)))]) ⟨.rfl,fa⟩)) (And.intro AA AA)))
 ·refine dn sa AA ?_;refine GC (b:=false) rfl (λq=>nomatch (show false=true from (AA:false=false).symm.trans q)) (λ_=>?_);refine AL (tT _ ?_);refine sr AA λK5 tU=>?_;refine BD (m:=0) (l:=([]:List AN)) (enc:=Ai) AH C8 (by decide) rfl AA AA AA AA AA ?_;refine zq tb AA ?_;obtain⟨l6,gl6,h0⟩:=Sh.bind_some h0;refine Cv (l2:=p0) AH C8 AA AA AA AA MJ (λ_=>AA) gl6 AA ?_;refine zq tb AA ?_;refine dn tU AA ?_;replace h0:=Sh.AD h0;subst r;exact Ap (xr (ER (L:=[(2,ow 0 0 l6)]) (st':=[ro 0 80 3 Ai l6]) (.pure (AB λ_=>AA) .nil) ⟨.rfl,fa⟩))
theorem Jb {p0:(List Dd)}{r:(List Dd)}(h0:Ct p0=some r):Ac Tryz.prog 125 [ls Bv p0] [] (λv st=>v=(ow 0 0 r)/\st=[ro 0 82 1 Bv r]):=by
 unfold Ct at h0;refine ai Tryz.func125 AA AA AA AA ?_;refine zr tb AA AA ?_;refine AE λK2 tT=>?_;refine sr AA λK3 sa=>?_;refine zq tb AA ?_;refine TR AH Oi AA (λhn=>?_) ?_
 ·subst hn;replace h0:some []=some r:=by rw[<- h0];first|rfl|simp[Sh.app]
  refine dn sa AA ?_;refine GC (b:=true) rfl (λ_=>?_) (λq=>nomatch (show true=false from (AA:true=true).symm.trans q));refine zr tb AA AA ?_;replace h0:=Sh.AD h0;subst r;exact Ap (Exists.intro _ (And.intro (((Ig (t:=2) rfl 82 (size:=1) (by decide)).trans (Ag (L:=[(2,.own 0 0 (List.length ([]:List Dd)))]) ⟨.rfl,fa⟩)).trans (Ag (L:=[(2,.own 0 0 (List.length ([]:List Dd)))]) ⟨.rfl,fa⟩)) (And.intro AA AA)))
 ·refine dn sa AA ?_;refine GC (b:=false) rfl (λq=>nomatch (show false=true from (AA:false=false).symm.trans q)) (λ_=>?_);refine AL (tT _ ?_);refine sr AA λK5 tU=>?_;refine BD (m:=0) (l:=([]:List Dd)) (enc:=Bv) AH IV (by decide) rfl AA AA AA AA AA ?_;refine zq tb AA ?_;obtain⟨l6,gl6,h0⟩:=Sh.bind_some h0;refine Cv (l2:=p0) AH IV AA AA AA AA MJ (λ_=>AA) gl6 AA ?_;refine zq tb AA ?_;refine dn tU AA ?_;replace h0:=Sh.AD h0;subst r;exact Ap (xr (ER (L:=[(2,ow 0 0 l6)]) (st':=[ro 0 82 1 Bv l6]) (.pure (AB λ_=>AA) .nil) ⟨.rfl,fa⟩))
theorem Cj {p0:(List Int)}{r:(List Int)}(h0:CI p0=some r):Ac Tryz.prog 82 [ls eI p0] [] (λv st=>v=(ow 0 0 r)/\st=[ro 0 3 1 eI r]):=by
 unfold CI at h0;refine ai Tryz.func82 AA AA AA AA ?_;refine zr tb AA AA ?_;refine AE λK2 tT=>?_;refine sr AA λK3 sa=>?_;refine zq tb AA ?_;refine TR AH Fe AA (λhn=>?_) ?_
 ·subst hn;replace h0:some []=some r:=by rw[<- h0];first|rfl|simp[Sh.app]
  refine dn sa AA ?_;refine GC (b:=true) rfl (λ_=>?_) (λq=>nomatch (show true=false from (AA:true=true).symm.trans q));refine zr tb AA AA ?_;replace h0:=Sh.AD h0;subst r;exact Ap (Exists.intro _ (And.intro (((Ig (t:=2) rfl 3 (size:=1) (by decide)).trans (Ag (L:=[(2,.own 0 0 (List.length ([]:List Int)))]) ⟨.rfl,fa⟩)).trans (Ag (L:=[(2,.own 0 0 (List.length ([]:List Int)))]) ⟨.rfl,fa⟩)) (And.intro AA AA)))
 ·refine dn sa AA ?_;refine GC (b:=false) rfl (λq=>nomatch (show false=true from (AA:false=false).symm.trans q)) (λ_=>?_);refine AL (tT _ ?_);refine sr AA λK5 tU=>?_;refine BD (m:=0) (l:=([]:List Int)) (enc:=eI) AH BM (by decide) rfl AA AA AA AA AA ?_;refine zq tb AA ?_;obtain⟨l6,gl6,h0⟩:=Sh.bind_some h0;refine Cv (l2:=p0) AH BM AA AA AA AA MJ (λ_=>AA) gl6 AA ?_;refine zq tb AA ?_;refine dn tU AA ?_;replace h0:=Sh.AD h0;subst r;exact Ap (xr (ER (L:=[(2,ow 0 0 l6)]) (st':=[ro 0 3 1 eI l6]) (.pure (AB λ_=>AA) .nil) ⟨.rfl,fa⟩))
end Go.Proofs.YtihdgoiebmfapaaGreat.Cl
