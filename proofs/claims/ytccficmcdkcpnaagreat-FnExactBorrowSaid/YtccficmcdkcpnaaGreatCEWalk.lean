import Derived.Test.YtccficmcdkcpnaaGreatProg
import Derived.Test.YtccficmcdkcpnaaGreatGHADefsToBODefs
set_option linter.all false
namespace Go.Proofs.YtccficmcdkcpnaaGreat.Cl
open Go Go.Abs RC
attribute [local irreducible] Go.Abs.DI
set_option maxRecDepth 100000
set_option maxHeartbeats 4000000
def tb:KV Tryz.prog where
 t:=[]
 f:=[]
 v:=[]
 b:=[]
 s:=[102,27,45]
 ht:=by kernel_rfl
 hf:=by kernel_rfl
 hv:=by kernel_rfl
 hb:=by kernel_rfl
 hs:=by kernel_rfl
theorem HC:CH Tryz.prog 102=some ⟨106,1,24,[.sl []]⟩:=by kernel_rfl
theorem DZ:CH Tryz.prog 27=some ⟨104,3,40,[.int .i64 0,.int .i64 0,.sl []]⟩:=by kernel_rfl
theorem BH:CH Tryz.prog 45=some ⟨3,1,8,[.int .i64 0]⟩:=by kernel_rfl
theorem Mu:B1 Tryz.prog 102=true:=by kernel_rfl
theorem Sd:B1 Tryz.prog 27=true:=by kernel_rfl
theorem Hh:B1 Tryz.prog 45=true:=by kernel_rfl
theorem I0 {p0:(List AR)}{r:(List AR)}(h0:Cd p0=some r):BJ Tryz.prog 102 [ls Ak p0] [] (λv st=>v=(ow 0 0 r)/\st=[ro 0 104 3 Ak r]):=by
 unfold Cd at h0;refine ai Tryz.func102 AA AA AA AA ?_;refine zr tb AA AA ?_;refine AD λK2 hK2=>?_;refine sr AA λK3 yY=>?_;refine zq tb AA ?_;refine SJ AN Sd AA (λhn=>?_) ?_
 ·subst hn;replace h0:some []=some r:=by rw[<- h0];first|rfl|simp[Sh.app]
  refine dn yY AA ?_;refine FC (b:=true) rfl (λ_=>?_) (λq=>nomatch (show true=false from (AA:true=true).symm.trans q));refine zr tb AA AA ?_;replace h0:=Sh.AF h0;subst r;exact BB (Exists.intro _ (And.intro (((Fk (t:=2) rfl 104 (size:=3) (by decide)).trans (As (L:=[(2,.own 0 0 (List.length ([]:List AR)))]) ⟨.rfl,mV⟩)).trans (As (L:=[(2,.own 0 0 (List.length ([]:List AR)))]) ⟨.rfl,mV⟩)) (And.intro AA AA)))
 ·refine dn yY AA ?_;refine FC (b:=false) rfl (λq=>nomatch (show false=true from (AA:false=false).symm.trans q)) (λ_=>?_);refine AH (hK2 _ ?_);refine sr AA λK5 hK5=>?_;refine Cn (m:=0) (l:=([]:List AR)) (enc:=Ak) AN DZ (by decide) rfl AA AA AA AA AA ?_;refine zq tb AA ?_;obtain⟨l6,gl6,h0⟩:=Sh.bind_some h0;refine EI (l2:=p0) AN DZ AA AA AA AA OV (λ_=>AA) gl6 AA ?_;refine zq tb AA ?_;refine dn hK5 AA ?_;replace h0:=Sh.AF h0;subst r;exact BB (xr (CP (L:=[(2,ow 0 0 l6)]) (st':=[ro 0 104 3 Ak l6]) (.pure (Ac λ_=>AA) .nil) ⟨.rfl,mV⟩))
theorem JZ {p0:(List BN)}{r:(List BN)}(h0:CA p0=some r):BJ Tryz.prog 103 [ls BR p0] [] (λv st=>v=(ow 0 0 r)/\st=[ro 0 106 1 BR r]):=by
 unfold CA at h0;refine ai Tryz.func103 AA AA AA AA ?_;refine zr tb AA AA ?_;refine AD λK2 hK2=>?_;refine sr AA λK3 yY=>?_;refine zq tb AA ?_;refine SJ AN Mu AA (λhn=>?_) ?_
 ·subst hn;replace h0:some []=some r:=by rw[<- h0];first|rfl|simp[Sh.app]
  refine dn yY AA ?_;refine FC (b:=true) rfl (λ_=>?_) (λq=>nomatch (show true=false from (AA:true=true).symm.trans q));refine zr tb AA AA ?_;replace h0:=Sh.AF h0;subst r;exact BB (Exists.intro _ (And.intro (((Fk (t:=2) rfl 106 (size:=1) (by decide)).trans (As (L:=[(2,.own 0 0 (List.length ([]:List BN)))]) ⟨.rfl,mV⟩)).trans (As (L:=[(2,.own 0 0 (List.length ([]:List BN)))]) ⟨.rfl,mV⟩)) (And.intro AA AA)))
 ·refine dn yY AA ?_;refine FC (b:=false) rfl (λq=>nomatch (show false=true from (AA:false=false).symm.trans q)) (λ_=>?_);refine AH (hK2 _ ?_);refine sr AA λK5 hK5=>?_;refine Cn (m:=0) (l:=([]:List BN)) (enc:=BR) AN HC (by decide) rfl AA AA AA AA AA ?_;refine zq tb AA ?_;obtain⟨l6,gl6,h0⟩:=Sh.bind_some h0;refine EI (l2:=p0) AN HC AA AA AA AA OV (λ_=>AA) gl6 AA ?_;refine zq tb AA ?_;refine dn hK5 AA ?_;replace h0:=Sh.AF h0;subst r;exact BB (xr (CP (L:=[(2,ow 0 0 l6)]) (st':=[ro 0 106 1 BR l6]) (.pure (Ac λ_=>AA) .nil) ⟨.rfl,mV⟩))
theorem Ba {p0:(List Int)}{r:(List Int)}(h0:Bf p0=some r):BJ Tryz.prog 56 [ls eI p0] [] (λv st=>v=(ow 0 0 r)/\st=[ro 0 3 1 eI r]):=by
 unfold Bf at h0;refine ai Tryz.func56 AA AA AA AA ?_;refine zr tb AA AA ?_;refine AD λK2 hK2=>?_;refine sr AA λK3 yY=>?_;refine zq tb AA ?_;refine SJ AN Hh AA (λhn=>?_) ?_
 ·subst hn;replace h0:some []=some r:=by rw[<- h0];first|rfl|simp[Sh.app]
  refine dn yY AA ?_;refine FC (b:=true) rfl (λ_=>?_) (λq=>nomatch (show true=false from (AA:true=true).symm.trans q));refine zr tb AA AA ?_;replace h0:=Sh.AF h0;subst r;exact BB (Exists.intro _ (And.intro (((Fk (t:=2) rfl 3 (size:=1) (by decide)).trans (As (L:=[(2,.own 0 0 (List.length ([]:List Int)))]) ⟨.rfl,mV⟩)).trans (As (L:=[(2,.own 0 0 (List.length ([]:List Int)))]) ⟨.rfl,mV⟩)) (And.intro AA AA)))
 ·refine dn yY AA ?_;refine FC (b:=false) rfl (λq=>nomatch (show false=true from (AA:false=false).symm.trans q)) (λ_=>?_);refine AH (hK2 _ ?_);refine sr AA λK5 hK5=>?_;refine Cn (m:=0) (l:=([]:List Int)) (enc:=eI) AN BH (by decide) rfl AA AA AA AA AA ?_;refine zq tb AA ?_;obtain⟨l6,gl6,h0⟩:=Sh.bind_some h0;refine EI (l2:=p0) AN BH AA AA AA AA OV (λ_=>AA) gl6 AA ?_;refine zq tb AA ?_;refine dn hK5 AA ?_;replace h0:=Sh.AF h0;subst r;exact BB (xr (CP (L:=[(2,ow 0 0 l6)]) (st':=[ro 0 3 1 eI l6]) (.pure (Ac λ_=>AA) .nil) ⟨.rfl,mV⟩))
end Go.Proofs.YtccficmcdkcpnaaGreat.Cl
