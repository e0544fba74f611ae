import Derived.Test.YtccficmcdkcpnaaGreatProg
import Derived.Test.YtccficmcdkcpnaaGreatGHADefsToNODefs
set_option linter.all false
namespace Go.Proofs.YtccficmcdkcpnaaGreat.Cl
open Go Go.Abs RC
attribute [local irreducible] Go.Abs.Dp
set_option maxRecDepth 100000
set_option maxHeartbeats 4000000
def tb:MK Tryz.prog where
 t:=[]
 f:=[]
 v:=[]
 b:=[]
 s:=[102,27,45]
 ht:=by kernel_rfl
 hf:=by kernel_rfl
 hv:=by kernel_rfl
 hb:=by kernel_rfl
 hs:=by kernel_rfl
theorem Hg:DR Tryz.prog 102=some ⟨106,1,24,[.sl []]⟩:=by kernel_rfl
theorem DZ:DR Tryz.prog 27=some ⟨104,3,40,[.int .i64 0,.int .i64 0,.sl []]⟩:=by kernel_rfl
theorem BE:DR Tryz.prog 45=some ⟨3,1,8,[.int .i64 0]⟩:=by kernel_rfl
theorem Oe:DB Tryz.prog 102=true:=by kernel_rfl
theorem Ui:DB Tryz.prog 27=true:=by kernel_rfl
theorem FY:DB Tryz.prog 45=true:=by kernel_rfl
theorem LJ {p0:(List AI)}{r:(List AI)}(h0:Dm p0=some r):BS Tryz.prog 102 [ls Ak p0] [] (λv st=>v=(ow 0 0 r)/\st=[ro 0 104 3 Ak r]):=by
 unfold Dm at h0;refine ai Tryz.func102 AA AA AA AA ?_;refine zr tb AA AA ?_;refine AD λK2 hK2=>?_;refine sr AA λK3 hK3=>?_;refine zq tb AA ?_;refine Wy AT Ui AA (λhn=>?_) ?_
 ·subst hn;replace h0:some []=some r:=by rw[<- h0];first|rfl|simp[Sh.app]
  refine dn hK3 AA ?_;refine HK (b:=true) rfl (λ_=>?_) (λq=>nomatch (show true=false from (AA:true=true).symm.trans q));refine zr tb AA AA ?_;replace h0:=Sh.Bt h0;subst r;exact Ap (Exists.intro _ (And.intro (((JV (t:=2) rfl 104 (size:=3) (by decide)).trans (ET (L:=[(2,.own 0 0 (List.length ([]:List AI)))]) ⟨.rfl,pw⟩)).trans (ET (L:=[(2,.own 0 0 (List.length ([]:List AI)))]) ⟨.rfl,pw⟩)) (And.intro AA AA)))
 ·refine dn hK3 AA ?_;refine HK (b:=false) rfl (λq=>nomatch (show false=true from (AA:false=false).symm.trans q)) (λ_=>?_);refine AH (hK2 _ ?_);refine sr AA λK5 hK5=>?_;refine MN (m:=0) (l:=([]:List AI)) (enc:=Ak) AT DZ (by decide) rfl AA AA AA AA AA ?_;refine zq tb AA ?_;obtain⟨l6,gl6,h0⟩:=Sh.bind_some h0;refine Fx (l2:=p0) AT DZ AA AA AA AA N8 (λ_=>AA) gl6 AA ?_;refine zq tb AA ?_;refine dn hK5 AA ?_;replace h0:=Sh.Bt h0;subst r;exact Ap (xr (Eh (L:=[(2,ow 0 0 l6)]) (st':=[ro 0 104 3 Ak l6]) (.pure (AM λ_=>AA) .nil) ⟨.rfl,pw⟩))
theorem L0 {p0:(List EK)}{r:(List EK)}(h0:DN p0=some r):BS Tryz.prog 103 [ls CP p0] [] (λv st=>v=(ow 0 0 r)/\st=[ro 0 106 1 CP r]):=by
 unfold DN at h0;refine ai Tryz.func103 AA AA AA AA ?_;refine zr tb AA AA ?_;refine AD λK2 hK2=>?_;refine sr AA λK3 hK3=>?_;refine zq tb AA ?_;refine Wy AT Oe AA (λhn=>?_) ?_
 ·subst hn;replace h0:some []=some r:=by rw[<- h0];first|rfl|simp[Sh.app]
  refine dn hK3 AA ?_;refine HK (b:=true) rfl (λ_=>?_) (λq=>nomatch (show true=false from (AA:true=true).symm.trans q));refine zr tb AA AA ?_;replace h0:=Sh.Bt h0;subst r;exact Ap (Exists.intro _ (And.intro (((JV (t:=2) rfl 106 (size:=1) (by decide)).trans (ET (L:=[(2,.own 0 0 (List.length ([]:List EK)))]) ⟨.rfl,pw⟩)).trans (ET (L:=[(2,.own 0 0 (List.length ([]:List EK)))]) ⟨.rfl,pw⟩)) (And.intro AA AA)))
 ·refine dn hK3 AA ?_;refine HK (b:=false) rfl (λq=>nomatch (show false=true from (AA:false=false).symm.trans q)) (λ_=>?_);refine AH (hK2 _ ?_);refine sr AA λK5 hK5=>?_;refine MN (m:=0) (l:=([]:List EK)) (enc:=CP) AT Hg (by decide) rfl AA AA AA AA AA ?_;refine zq tb AA ?_;obtain⟨l6,gl6,h0⟩:=Sh.bind_some h0;refine Fx (l2:=p0) AT Hg AA AA AA AA N8 (λ_=>AA) gl6 AA ?_;refine zq tb AA ?_;refine dn hK5 AA ?_;replace h0:=Sh.Bt h0;subst r;exact Ap (xr (Eh (L:=[(2,ow 0 0 l6)]) (st':=[ro 0 106 1 CP l6]) (.pure (AM λ_=>AA) .nil) ⟨.rfl,pw⟩))
theorem Bc {p0:(List Int)}{r:(List Int)}(h0:Bx p0=some r):BS Tryz.prog 56 [ls eI p0] [] (λv st=>v=(ow 0 0 r)/\st=[ro 0 3 1 eI r]):=by
 unfold Bx at h0;refine ai Tryz.func56 AA AA AA AA ?_;refine zr tb AA AA ?_;refine AD λK2 hK2=>?_;refine sr AA λK3 hK3=>?_;refine zq tb AA ?_;refine Wy AT FY AA (λhn=>?_) ?_
 ·subst hn;replace h0:some []=some r:=by rw[<- h0];first|rfl|simp[Sh.app]
  refine dn hK3 AA ?_;refine HK (b:=true) rfl (λ_=>?_) (λq=>nomatch (show true=false from (AA:true=true).symm.trans q));refine zr tb AA AA ?_;replace h0:=Sh.Bt h0;subst r;exact Ap (Exists.intro _ (And.intro (((JV (t:=2) rfl 3 (size:=1) (by decide)).trans (ET (L:=[(2,.own 0 0 (List.length ([]:List Int)))]) ⟨.rfl,pw⟩)).trans (ET (L:=[(2,.own 0 0 (List.length ([]:List Int)))]) ⟨.rfl,pw⟩)) (And.intro AA AA)))
 ·refine dn hK3 AA ?_;refine HK (b:=false) rfl (λq=>nomatch (show false=true from (AA:false=false).symm.trans q)) (λ_=>?_);refine AH (hK2 _ ?_);refine sr AA λK5 hK5=>?_;refine MN (m:=0) (l:=([]:List Int)) (enc:=eI) AT BE (by decide) rfl AA AA AA AA AA ?_;refine zq tb AA ?_;obtain⟨l6,gl6,h0⟩:=Sh.bind_some h0;refine Fx (l2:=p0) AT BE AA AA AA AA N8 (λ_=>AA) gl6 AA ?_;refine zq tb AA ?_;refine dn hK5 AA ?_;replace h0:=Sh.Bt h0;subst r;exact Ap (xr (Eh (L:=[(2,ow 0 0 l6)]) (st':=[ro 0 3 1 eI l6]) (.pure (AM λ_=>AA) .nil) ⟨.rfl,pw⟩))
end Go.Proofs.YtccficmcdkcpnaaGreat.Cl
