import Derived.Test.YtihdgoiebmfapaaGreatProg
import Derived.Test.YtihdgoiebmfapaaGreatGHADefsToFEDefs
set_option linter.all false
namespace Go.Proofs.YtihdgoiebmfapaaGreat.Cl
open Go Go.Abs RC
attribute [local irreducible] Go.Abs.D7
set_option maxRecDepth 100000
set_option maxHeartbeats 4000000
def tb:Kr Tryz.prog where
 t:=[]
 f:=[]
 v:=[]
 b:=[]
 s:=[23,32,78]
 ht:=by kernel_rfl
 hf:=by kernel_rfl
 hv:=by kernel_rfl
 hb:=by kernel_rfl
 hs:=by kernel_rfl
theorem DI:Ds Tryz.prog 23=some ⟨80,3,40,[.int .i64 0,.int .i64 0,.sl []]⟩:=by kernel_rfl
theorem BM:Ds Tryz.prog 32=some ⟨3,1,8,[.int .i64 0]⟩:=by kernel_rfl
theorem I7:Ds Tryz.prog 78=some ⟨82,1,24,[.sl []]⟩:=by kernel_rfl
theorem SK:DW Tryz.prog 23=true:=by kernel_rfl
theorem Fz:DW Tryz.prog 32=true:=by kernel_rfl
theorem QB:DW Tryz.prog 78=true:=by kernel_rfl
theorem Ju {p0:(List AN)}{r:(List AN)}(h0:Da p0=some r):Ab Tryz.prog 124 [ls Ak p0] [] (λv st=>v=(ow 0 0 r)/\st=[ro 0 80 3 Ak r]):=by
 unfold Da at h0;refine ai Tryz.func124 AA AA AA AA ?_;refine zr tb AA AA ?_;refine AG λK2 xJ=>?_;refine sr AA λK3 xk=>?_;refine zq tb AA ?_;refine U5 AI SK AA (λhn=>?_) ?_
 ·subst hn;replace h0:some []=some r:=by rw[<- h0];first|rfl|simp[Sh.app]
  refine dn xk AA ?_;refine GY (b:=true) rfl (λ_=>?_) (λq=>nomatch (show true=false from (AA:true=true).symm.trans q));refine zr tb AA AA ?_;replace h0:=Sh.AB h0;subst r;exact Ao (Exists.intro _ (And.intro (((Hb (t:=2) rfl 80 (size:=3) (by decide)).trans (Af (L:=[(2,.own 0 0 (List.length ([]:List AN)))]) ⟨.rfl,lU⟩)).trans (Af (L:=[(2,.own 0 0 (List.length ([]:List AN)))]) ⟨.rfl,lU⟩)) (And.intro AA AA)))
 ·refine dn xk AA ?_;refine GY (b:=false) rfl (λq=>nomatch (show false=true from (AA:false=false).symm.trans q)) (λ_=>?_);refine AL (xJ _ ?_);refine sr AA λK5 zp=>?_;refine BF (m:=0) (l:=([]:List AN)) (enc:=Ak) AI DI (by decide) rfl AA AA AA AA AA ?_;refine zq tb AA ?_;obtain⟨l6,gl6,h0⟩:=Sh.bind_some h0;refine Cz (l2:=p0) AI DI AA AA AA AA L5 (λ_=>AA) gl6 AA ?_;refine zq tb AA ?_;refine dn zp AA ?_;replace h0:=Sh.AB h0;subst r;exact Ao (xr (EN (L:=[(2,ow 0 0 l6)]) (st':=[ro 0 80 3 Ak l6]) (.pure (AD λ_=>AA) .nil) ⟨.rfl,lU⟩))
theorem KF {p0:(List De)}{r:(List De)}(h0:DA p0=some r):Ab Tryz.prog 125 [ls CD p0] [] (λv st=>v=(ow 0 0 r)/\st=[ro 0 82 1 CD r]):=by
 unfold DA at h0;refine ai Tryz.func125 AA AA AA AA ?_;refine zr tb AA AA ?_;refine AG λK2 xJ=>?_;refine sr AA λK3 xk=>?_;refine zq tb AA ?_;refine U5 AI QB AA (λhn=>?_) ?_
 ·subst hn;replace h0:some []=some r:=by rw[<- h0];first|rfl|simp[Sh.app]
  refine dn xk AA ?_;refine GY (b:=true) rfl (λ_=>?_) (λq=>nomatch (show true=false from (AA:true=true).symm.trans q));refine zr tb AA AA ?_;replace h0:=Sh.AB h0;subst r;exact Ao (Exists.intro _ (And.intro (((Hb (t:=2) rfl 82 (size:=1) (by decide)).trans (Af (L:=[(2,.own 0 0 (List.length ([]:List De)))]) ⟨.rfl,lU⟩)).trans (Af (L:=[(2,.own 0 0 (List.length ([]:List De)))]) ⟨.rfl,lU⟩)) (And.intro AA AA)))
 ·refine dn xk AA ?_;refine GY (b:=false) rfl (λq=>nomatch (show false=true from (AA:false=false).symm.trans q)) (λ_=>?_);refine AL (xJ _ ?_);refine sr AA λK5 zp=>?_;refine BF (m:=0) (l:=([]:List De)) (enc:=CD) AI I7 (by decide) rfl AA AA AA AA AA ?_;refine zq tb AA ?_;obtain⟨l6,gl6,h0⟩:=Sh.bind_some h0;refine Cz (l2:=p0) AI I7 AA AA AA AA L5 (λ_=>AA) gl6 AA ?_;refine zq tb AA ?_;refine dn zp AA ?_;replace h0:=Sh.AB h0;subst r;exact Ao (xr (EN (L:=[(2,ow 0 0 l6)]) (st':=[ro 0 82 1 CD l6]) (.pure (AD λ_=>AA) .nil) ⟨.rfl,lU⟩))
theorem Cq {p0:(List Int)}{r:(List Int)}(h0:CQ p0=some r):Ab Tryz.prog 82 [ls eI p0] [] (λv st=>v=(ow 0 0 r)/\st=[ro 0 3 1 eI r]):=by
 unfold CQ at h0;refine ai Tryz.func82 AA AA AA AA ?_;refine zr tb AA AA ?_;refine AG λK2 xJ=>?_;refine sr AA λK3 xk=>?_;refine zq tb AA ?_;refine U5 AI Fz AA (λhn=>?_) ?_
 ·subst hn;replace h0:some []=some r:=by rw[<- h0];first|rfl|simp[Sh.app]
  refine dn xk AA ?_;refine GY (b:=true) rfl (λ_=>?_) (λq=>nomatch (show true=false from (AA:true=true).symm.trans q));refine zr tb AA AA ?_;replace h0:=Sh.AB h0;subst r;exact Ao (Exists.intro _ (And.intro (((Hb (t:=2) rfl 3 (size:=1) (by decide)).trans (Af (L:=[(2,.own 0 0 (List.length ([]:List Int)))]) ⟨.rfl,lU⟩)).trans (Af (L:=[(2,.own 0 0 (List.length ([]:List Int)))]) ⟨.rfl,lU⟩)) (And.intro AA AA)))
 ·refine dn xk AA ?_;refine GY (b:=false) rfl (λq=>nomatch (show false=true from (AA:false=false).symm.trans q)) (λ_=>?_);refine AL (xJ _ ?_);refine sr AA λK5 zp=>?_;refine BF (m:=0) (l:=([]:List Int)) (enc:=eI) AI BM (by decide) rfl AA AA AA AA AA ?_;refine zq tb AA ?_;obtain⟨l6,gl6,h0⟩:=Sh.bind_some h0;refine Cz (l2:=p0) AI BM AA AA AA AA L5 (λ_=>AA) gl6 AA ?_;refine zq tb AA ?_;refine dn zp AA ?_;replace h0:=Sh.AB h0;subst r;exact Ao (xr (EN (L:=[(2,ow 0 0 l6)]) (st':=[ro 0 3 1 eI l6]) (.pure (AD λ_=>AA) .nil) ⟨.rfl,lU⟩))
end Go.Proofs.YtihdgoiebmfapaaGreat.Cl
