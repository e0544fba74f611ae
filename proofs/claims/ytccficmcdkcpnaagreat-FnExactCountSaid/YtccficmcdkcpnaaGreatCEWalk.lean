import Derived.Test.YtccficmcdkcpnaaGreatProg
import Derived.Test.YtccficmcdkcpnaaGreatGHADefsToCNDefs
set_option linter.all false
namespace Go.Proofs.YtccficmcdkcpnaaGreat.Cl
open Go Go.Abs RC
attribute [local irreducible] Go.Abs.DX
set_option maxRecDepth 100000
set_option maxHeartbeats 4000000
def tb:Mo Tryz.prog where
 t:=[]
 f:=[]
 v:=[]
 b:=[]
 s:=[102,27,45]
 ht:=by kernel_rfl
 hf:=by kernel_rfl
 hv:=by kernel_rfl
 hb:=by kernel_rfl
 hs:=by kernel_rfl
theorem Jl:Ck Tryz.prog 102=some ⟨106,1,24,[.sl []]⟩:=by kernel_rfl
theorem EZ:Ck Tryz.prog 27=some ⟨104,3,40,[.int .i64 0,.int .i64 0,.sl []]⟩:=by kernel_rfl
theorem Ay:Ck Tryz.prog 45=some ⟨3,1,8,[.int .i64 0]⟩:=by kernel_rfl
theorem Qa:Cn Tryz.prog 102=true:=by kernel_rfl
theorem WG:Cn Tryz.prog 27=true:=by kernel_rfl
theorem Hq:Cn Tryz.prog 45=true:=by kernel_rfl
theorem Lm {p0:(List AP)}{r:(List AP)}(h0:Dd p0=some r):BW Tryz.prog 102 [ls Ai p0] [] (λv st=>v=(ow 0 0 r)/\st=[ro 0 104 3 Ai r]):=by
 unfold Dd at h0;refine ai Tryz.func102 AA AA AA AA ?_;refine zr tb AA AA ?_;refine AB λK2 hK2=>?_;refine sr AA λK3 hK3=>?_;refine zq tb AA ?_;refine Wg BJ WG AA (λhn=>?_) ?_
 ·subst hn;replace h0:some []=some r:=by rw[<- h0];first|rfl|simp[Sh.app]
  refine dn hK3 AA ?_;refine GZ (b:=true) rfl (λ_=>?_) (λq=>nomatch (show true=false from (AA:true=true).symm.trans q));refine zr tb AA AA ?_;replace h0:=Sh.Av h0;subst r;exact BP (Exists.intro _ (And.intro (((ER (t:=2) rfl 104 (size:=3) (by decide)).trans (FJ (L:=[(2,.own 0 0 (List.length ([]:List AP)))]) ⟨.rfl,uM⟩)).trans (FJ (L:=[(2,.own 0 0 (List.length ([]:List AP)))]) ⟨.rfl,uM⟩)) (And.intro AA AA)))
 ·refine dn hK3 AA ?_;refine GZ (b:=false) rfl (λq=>nomatch (show false=true from (AA:false=false).symm.trans q)) (λ_=>?_);refine AG (hK2 _ ?_);refine sr AA λK5 hK5=>?_;refine Oc (m:=0) (l:=([]:List AP)) (enc:=Ai) BJ EZ (by decide) rfl AA AA AA AA AA ?_;refine zq tb AA ?_;obtain⟨l6,gl6,h0⟩:=Sh.bind_some h0;refine I4 (l2:=p0) BJ EZ AA AA AA AA P1 (λ_=>AA) gl6 AA ?_;refine zq tb AA ?_;refine dn hK5 AA ?_;replace h0:=Sh.Av h0;subst r;exact BP (xr (CH (L:=[(2,ow 0 0 l6)]) (st':=[ro 0 104 3 Ai l6]) (.pure (BM λ_=>AA) .nil) ⟨.rfl,uM⟩))
theorem MU {p0:(List Bw)}{r:(List Bw)}(h0:DC p0=some r):BW Tryz.prog 103 [ls By p0] [] (λv st=>v=(ow 0 0 r)/\st=[ro 0 106 1 By r]):=by
 unfold DC at h0;refine ai Tryz.func103 AA AA AA AA ?_;refine zr tb AA AA ?_;refine AB λK2 hK2=>?_;refine sr AA λK3 hK3=>?_;refine zq tb AA ?_;refine Wg BJ Qa AA (λhn=>?_) ?_
 ·subst hn;replace h0:some []=some r:=by rw[<- h0];first|rfl|simp[Sh.app]
  refine dn hK3 AA ?_;refine GZ (b:=true) rfl (λ_=>?_) (λq=>nomatch (show true=false from (AA:true=true).symm.trans q));refine zr tb AA AA ?_;replace h0:=Sh.Av h0;subst r;exact BP (Exists.intro _ (And.intro (((ER (t:=2) rfl 106 (size:=1) (by decide)).trans (FJ (L:=[(2,.own 0 0 (List.length ([]:List Bw)))]) ⟨.rfl,uM⟩)).trans (FJ (L:=[(2,.own 0 0 (List.length ([]:List Bw)))]) ⟨.rfl,uM⟩)) (And.intro AA AA)))
 ·refine dn hK3 AA ?_;refine GZ (b:=false) rfl (λq=>nomatch (show false=true from (AA:false=false).symm.trans q)) (λ_=>?_);refine AG (hK2 _ ?_);refine sr AA λK5 hK5=>?_;refine Oc (m:=0) (l:=([]:List Bw)) (enc:=By) BJ Jl (by decide) rfl AA AA AA AA AA ?_;refine zq tb AA ?_;obtain⟨l6,gl6,h0⟩:=Sh.bind_some h0;refine I4 (l2:=p0) BJ Jl AA AA AA AA P1 (λ_=>AA) gl6 AA ?_;refine zq tb AA ?_;refine dn hK5 AA ?_;replace h0:=Sh.Av h0;subst r;exact BP (xr (CH (L:=[(2,ow 0 0 l6)]) (st':=[ro 0 106 1 By l6]) (.pure (BM λ_=>AA) .nil) ⟨.rfl,uM⟩))
theorem Bg {p0:(List Int)}{r:(List Int)}(h0:Bu p0=some r):BW Tryz.prog 56 [ls eI p0] [] (λv st=>v=(ow 0 0 r)/\st=[ro 0 3 1 eI r]):=by
 unfold Bu at h0;refine ai Tryz.func56 AA AA AA AA ?_;refine zr tb AA AA ?_;refine AB λK2 hK2=>?_;refine sr AA λK3 hK3=>?_;refine zq tb AA ?_;refine Wg BJ Hq AA (λhn=>?_) ?_
 ·subst hn;replace h0:some []=some r:=by rw[<- h0];first|rfl|simp[Sh.app]
  refine dn hK3 AA ?_;refine GZ (b:=true) rfl (λ_=>?_) (λq=>nomatch (show true=false from (AA:true=true).symm.trans q));refine zr tb AA AA ?_;replace h0:=Sh.Av h0;subst r;exact BP (Exists.intro _ (And.intro (((ER (t:=2) rfl 3 (size:=1) (by decide)).trans (FJ (L:=[(2,.own 0 0 (List.length ([]:List Int)))]) ⟨.rfl,uM⟩)).trans (FJ (L:=[(2,.own 0 0 (List.length ([]:List Int)))]) ⟨.rfl,uM⟩)) (And.intro AA AA)))
 ·refine dn hK3 AA ?_;refine GZ (b:=false) rfl (λq=>nomatch (show false=true from (AA:false=false).symm.trans q)) (λ_=>?_);refine AG (hK2 _ ?_);refine sr AA λK5 hK5=>?_;refine Oc (m:=0) (l:=([]:List Int)) (enc:=eI) BJ Ay (by decide) rfl AA AA AA AA AA ?_;refine zq tb AA ?_;obtain⟨l6,gl6,h0⟩:=Sh.bind_some h0;refine I4 (l2:=p0) BJ Ay AA AA AA AA P1 (λ_=>AA) gl6 AA ?_;refine zq tb AA ?_;refine dn hK5 AA ?_;replace h0:=Sh.Av h0;subst r;exact BP (xr (CH (L:=[(2,ow 0 0 l6)]) (st':=[ro 0 3 1 eI l6]) (.pure (BM λ_=>AA) .nil) ⟨.rfl,uM⟩))
end Go.Proofs.YtccficmcdkcpnaaGreat.Cl
