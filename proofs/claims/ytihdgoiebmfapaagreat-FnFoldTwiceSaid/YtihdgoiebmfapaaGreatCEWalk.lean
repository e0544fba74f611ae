import Derived.Test.YtihdgoiebmfapaaGreatProg
import Derived.Test.YtihdgoiebmfapaaGreatGHADefsToFTDefs
set_option linter.all false
namespace Go.Proofs.YtihdgoiebmfapaaGreat.Cl
open Go Go.Abs RC
attribute [local irreducible] Go.Abs.D6
set_option maxRecDepth 100000
set_option maxHeartbeats 4000000
def tb:KZ Tryz.prog where
 t:=[]
 f:=[]
 v:=[]
 b:=[]
 s:=[23,32,78]
 ht:=by kernel_rfl
 hf:=by kernel_rfl
 hv:=by kernel_rfl
 hb:=by kernel_rfl
 hs:=by kernel_rfl
theorem DH:D2 Tryz.prog 23=some ⟨80,3,40,[.int .i64 0,.int .i64 0,.sl []]⟩:=by kernel_rfl
theorem BQ:D2 Tryz.prog 32=some ⟨3,1,8,[.int .i64 0]⟩:=by kernel_rfl
theorem Iw:D2 Tryz.prog 78=some ⟨82,1,24,[.sl []]⟩:=by kernel_rfl
theorem Rk:DT Tryz.prog 23=true:=by kernel_rfl
theorem Fp:DT Tryz.prog 32=true:=by kernel_rfl
theorem Pa:DT Tryz.prog 78=true:=by kernel_rfl
theorem Ja {p0:(List AM)}{r:(List AM)}(h0:DY p0=some r):Ab Tryz.prog 124 [ls Aj p0] [] (λv st=>v=(ow 0 0 r)/\st=[ro 0 80 3 Aj r]):=by
 unfold DY at h0;refine ai Tryz.func124 AA AA AA AA ?_;refine zr tb AA AA ?_;refine AG λK2 vM=>?_;refine sr AA λK3 vm=>?_;refine zq tb AA ?_;refine UM AI Rk AA (λhn=>?_) ?_
 ·subst hn;replace h0:some []=some r:=by rw[<- h0];first|rfl|simp[Sh.app]
  refine dn vm AA ?_;refine GN (b:=true) rfl (λ_=>?_) (λq=>nomatch (show true=false from (AA:true=true).symm.trans q));refine zr tb AA AA ?_;replace h0:=Sh.AB h0;subst r;exact Aq (Exists.intro _ (And.intro (((JD (t:=2) rfl 80 (size:=3) (by decide)).trans (Ag (L:=[(2,.own 0 0 (List.length ([]:List AM)))]) ⟨.rfl,jf⟩)).trans (Ag (L:=[(2,.own 0 0 (List.length ([]:List AM)))]) ⟨.rfl,jf⟩)) (And.intro AA AA)))
 ·refine dn vm AA ?_;refine GN (b:=false) rfl (λq=>nomatch (show false=true from (AA:false=false).symm.trans q)) (λ_=>?_);refine AL (vM _ ?_);refine sr AA λK5 xc=>?_;refine BF (m:=0) (l:=([]:List AM)) (enc:=Aj) AI DH (by decide) rfl AA AA AA AA AA ?_;refine zq tb AA ?_;obtain⟨l6,gl6,h0⟩:=Sh.bind_some h0;refine C9 (l2:=p0) AI DH AA AA AA AA Lh (λ_=>AA) gl6 AA ?_;refine zq tb AA ?_;refine dn xc AA ?_;replace h0:=Sh.AB h0;subst r;exact Aq (xr (EX (L:=[(2,ow 0 0 l6)]) (st':=[ro 0 80 3 Aj l6]) (.pure (AD λ_=>AA) .nil) ⟨.rfl,jf⟩))
theorem Jw {p0:(List Db)}{r:(List Db)}(h0:Cz p0=some r):Ab Tryz.prog 125 [ls CC p0] [] (λv st=>v=(ow 0 0 r)/\st=[ro 0 82 1 CC r]):=by
 unfold Cz at h0;refine ai Tryz.func125 AA AA AA AA ?_;refine zr tb AA AA ?_;refine AG λK2 vM=>?_;refine sr AA λK3 vm=>?_;refine zq tb AA ?_;refine UM AI Pa AA (λhn=>?_) ?_
 ·subst hn;replace h0:some []=some r:=by rw[<- h0];first|rfl|simp[Sh.app]
  refine dn vm AA ?_;refine GN (b:=true) rfl (λ_=>?_) (λq=>nomatch (show true=false from (AA:true=true).symm.trans q));refine zr tb AA AA ?_;replace h0:=Sh.AB h0;subst r;exact Aq (Exists.intro _ (And.intro (((JD (t:=2) rfl 82 (size:=1) (by decide)).trans (Ag (L:=[(2,.own 0 0 (List.length ([]:List Db)))]) ⟨.rfl,jf⟩)).trans (Ag (L:=[(2,.own 0 0 (List.length ([]:List Db)))]) ⟨.rfl,jf⟩)) (And.intro AA AA)))
 ·refine dn vm AA ?_;refine GN (b:=false) rfl (λq=>nomatch (show false=true from (AA:false=false).symm.trans q)) (λ_=>?_);refine AL (vM _ ?_);refine sr AA λK5 xc=>?_;refine BF (m:=0) (l:=([]:List Db)) (enc:=CC) AI Iw (by decide) rfl AA AA AA AA AA ?_;refine zq tb AA ?_;obtain⟨l6,gl6,h0⟩:=Sh.bind_some h0;refine C9 (l2:=p0) AI Iw AA AA AA AA Lh (λ_=>AA) gl6 AA ?_;refine zq tb AA ?_;refine dn xc AA ?_;replace h0:=Sh.AB h0;subst r;exact Aq (xr (EX (L:=[(2,ow 0 0 l6)]) (st':=[ro 0 82 1 CC l6]) (.pure (AD λ_=>AA) .nil) ⟨.rfl,jf⟩))
theorem Co {p0:(List Int)}{r:(List Int)}(h0:CP p0=some r):Ab Tryz.prog 82 [ls eI p0] [] (λv st=>v=(ow 0 0 r)/\st=[ro 0 3 1 eI r]):=by
 unfold CP at h0;refine ai Tryz.func82 AA AA AA AA ?_;refine zr tb AA AA ?_;refine AG λK2 vM=>?_;refine sr AA λK3 vm=>?_;refine zq tb AA ?_;refine UM AI Fp AA (λhn=>?_) ?_
 ·subst hn;replace h0:some []=some r:=by rw[<- h0];first|rfl|simp[Sh.app]
  refine dn vm AA ?_;refine GN (b:=true) rfl (λ_=>?_) (λq=>nomatch (show true=false from (AA:true=true).symm.trans q));refine zr tb AA AA ?_;replace h0:=Sh.AB h0;subst r;exact Aq (Exists.intro _ (And.intro (((JD (t:=2) rfl 3 (size:=1) (by decide)).trans (Ag (L:=[(2,.own 0 0 (List.length ([]:List Int)))]) ⟨.rfl,jf⟩)).trans (Ag (L:=[(2,.own 0 0 (List.length ([]:List Int)))]) ⟨.rfl,jf⟩)) (And.intro AA AA)))
 ·refine dn vm AA ?_;refine GN (b:=false) rfl (λq=>nomatch (show false=true from (AA:false=false).symm.trans q)) (λ_=>?_);refine AL (vM _ ?_);refine sr AA λK5 xc=>?_;refine BF (m:=0) (l:=([]:List Int)) (enc:=eI) AI BQ (by decide) rfl AA AA AA AA AA ?_;refine zq tb AA ?_;obtain⟨l6,gl6,h0⟩:=Sh.bind_some h0;refine C9 (l2:=p0) AI BQ AA AA AA AA Lh (λ_=>AA) gl6 AA ?_;refine zq tb AA ?_;refine dn xc AA ?_;replace h0:=Sh.AB h0;subst r;exact Aq (xr (EX (L:=[(2,ow 0 0 l6)]) (st':=[ro 0 3 1 eI l6]) (.pure (AD λ_=>AA) .nil) ⟨.rfl,jf⟩))
end Go.Proofs.YtihdgoiebmfapaaGreat.Cl
