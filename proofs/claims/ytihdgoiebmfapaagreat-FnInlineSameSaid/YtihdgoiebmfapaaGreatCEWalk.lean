import Derived.Test.YtihdgoiebmfapaaGreatProg
import Derived.Test.YtihdgoiebmfapaaGreatGHADefsToNSDefs
set_option linter.all false
namespace Go.Proofs.YtihdgoiebmfapaaGreat.Cl
open Go Go.Abs RC
attribute [local irreducible] Go.Abs.EK
set_option maxRecDepth 100000
set_option maxHeartbeats 4000000
def tb:LN Tryz.prog where
 t:=[]
 f:=[]
 v:=[]
 b:=[]
 s:=[23,32,78]
 ht:=by kernel_rfl
 hf:=by kernel_rfl
 hv:=by kernel_rfl
 hb:=by kernel_rfl
 hs:=by kernel_rfl
theorem DI:DB Tryz.prog 23=some ⟨80,3,40,[.int .i64 0,.int .i64 0,.sl []]⟩:=by kernel_rfl
theorem BF:DB Tryz.prog 32=some ⟨3,1,8,[.int .i64 0]⟩:=by kernel_rfl
theorem JZ:DB Tryz.prog 78=some ⟨82,1,24,[.sl []]⟩:=by kernel_rfl
theorem TM:DG Tryz.prog 23=true:=by kernel_rfl
theorem Gd:DG Tryz.prog 32=true:=by kernel_rfl
theorem Q9:DG Tryz.prog 78=true:=by kernel_rfl
theorem KQ {p0 r:List AK}(h0:DY p0=some r):BJ Tryz.prog 124 [ls Ah p0] [] (λv st=>v=(ow 0 0 r)/\st=[ro 0 80 3 Ah r]):=by
 unfold DY at h0;refine ai Tryz.func124 AA AA AA AA ?_;refine zr tb AA AA ?_;refine AE λK2 hK2=>?_;refine sr AA λK3 hK3=>?_;refine zq tb AA ?_;refine Wo AN TM AA (λhn=>?_) ?_
 .subst hn;replace h0:some []=some r:=by rw[<- h0];first|rfl|simp[Sh.app]
  refine dn hK3 AA ?_;refine G0 (b:=true) rfl (λ_=>?_) (λq=>nomatch (show true=false from (AA:true=true).symm.trans q));refine zr tb AA AA ?_;replace h0:=Sh.BU h0;subst r;exact Am (Exists.intro _ (And.intro (((HU (t:=2) rfl 80 (size:=3) (by decide)).trans (Ag (L:=[(2,.own 0 0 (List.length ([]:List AK)))]) ⟨.rfl,oz⟩)).trans (Ag (L:=[(2,.own 0 0 (List.length ([]:List AK)))]) ⟨.rfl,oz⟩)) (And.intro AA AA)))
 .refine dn hK3 AA ?_;refine G0 (b:=false) rfl (λq=>nomatch (show false=true from (AA:false=false).symm.trans q)) (λ_=>?_);refine AH (hK2 _ ?_);refine sr AA λK5 hK5=>?_;refine So (m:=0) (l:=([]:List AK)) (enc:=Ah) AN DI (by decide) rfl AA AA AA AA AA ?_;refine zq tb AA ?_;obtain⟨l6,gl6,h0⟩:=Sh.bind_some h0;refine Ct (l2:=p0) AN DI AA AA AA AA Mk (λ_=>AA) gl6 AA ?_;refine zq tb AA ?_;refine dn hK5 AA ?_;replace h0:=Sh.BU h0;subst r;exact Am (xr (Da (L:=[(2,ow 0 0 l6)]) (st':=[ro 0 80 3 Ah l6]) (.pure (Ai λ_=>AA) .nil) ⟨.rfl,oz⟩))
theorem Kp {p0 r:List D7}(h0:DA p0=some r):BJ Tryz.prog 125 [ls CL p0] [] (λv st=>v=(ow 0 0 r)/\st=[ro 0 82 1 CL r]):=by
 unfold DA at h0;refine ai Tryz.func125 AA AA AA AA ?_;refine zr tb AA AA ?_;refine AE λK2 hK2=>?_;refine sr AA λK3 hK3=>?_;refine zq tb AA ?_;refine Wo AN Q9 AA (λhn=>?_) ?_
 .subst hn;replace h0:some []=some r:=by rw[<- h0];first|rfl|simp[Sh.app]
  refine dn hK3 AA ?_;refine G0 (b:=true) rfl (λ_=>?_) (λq=>nomatch (show true=false from (AA:true=true).symm.trans q));refine zr tb AA AA ?_;replace h0:=Sh.BU h0;subst r;exact Am (Exists.intro _ (And.intro (((HU (t:=2) rfl 82 (size:=1) (by decide)).trans (Ag (L:=[(2,.own 0 0 (List.length ([]:List D7)))]) ⟨.rfl,oz⟩)).trans (Ag (L:=[(2,.own 0 0 (List.length ([]:List D7)))]) ⟨.rfl,oz⟩)) (And.intro AA AA)))
 .refine dn hK3 AA ?_;refine G0 (b:=false) rfl (λq=>nomatch (show false=true from (AA:false=false).symm.trans q)) (λ_=>?_);refine AH (hK2 _ ?_);refine sr AA λK5 hK5=>?_;refine So (m:=0) (l:=([]:List D7)) (enc:=CL) AN JZ (by decide) rfl AA AA AA AA AA ?_;refine zq tb AA ?_;obtain⟨l6,gl6,h0⟩:=Sh.bind_some h0;refine Ct (l2:=p0) AN JZ AA AA AA AA Mk (λ_=>AA) gl6 AA ?_;refine zq tb AA ?_;refine dn hK5 AA ?_;replace h0:=Sh.BU h0;subst r;exact Am (xr (Da (L:=[(2,ow 0 0 l6)]) (st':=[ro 0 82 1 CL l6]) (.pure (Ai λ_=>AA) .nil) ⟨.rfl,oz⟩))
theorem Cr {p0 r:List Int}(h0:CN p0=some r):BJ Tryz.prog 82 [ls eI p0] [] (λv st=>v=(ow 0 0 r)/\st=[ro 0 3 1 eI r]):=by
 unfold CN at h0;refine ai Tryz.func82 AA AA AA AA ?_;refine zr tb AA AA ?_;refine AE λK2 hK2=>?_;refine sr AA λK3 hK3=>?_;refine zq tb AA ?_;refine Wo AN Gd AA (λhn=>?_) ?_
 .subst hn;replace h0:some []=some r:=by rw[<- h0];first|rfl|simp[Sh.app]
  refine dn hK3 AA ?_;refine G0 (b:=true) rfl (λ_=>?_) (λq=>nomatch (show true=false from (AA:true=true).symm.trans q));refine zr tb AA AA ?_;replace h0:=Sh.BU h0;subst r;exact Am (Exists.intro _ (And.intro (((HU (t:=2) rfl 3 (size:=1) (by decide)).trans (Ag (L:=[(2,.own 0 0 (List.length ([]:List Int)))]) ⟨.rfl,oz⟩)).trans (Ag (L:=[(2,.own 0 0 (List.length ([]:List Int)))]) ⟨.rfl,oz⟩)) (And.intro AA AA)))
 .refine dn hK3 AA ?_;refine G0 (b:=false) rfl (λq=>nomatch (show false=true from (AA:false=false).symm.trans q)) (λ_=>?_);refine AH (hK2 _ ?_);refine sr AA λK5 hK5=>?_;refine So (m:=0) (l:=([]:List Int)) (enc:=eI) AN BF (by decide) rfl AA AA AA AA AA ?_;refine zq tb AA ?_;obtain⟨l6,gl6,h0⟩:=Sh.bind_some h0;refine Ct (l2:=p0) AN BF AA AA AA AA Mk (λ_=>AA) gl6 AA ?_;refine zq tb AA ?_;refine dn hK5 AA ?_;replace h0:=Sh.BU h0;subst r;exact Am (xr (Da (L:=[(2,ow 0 0 l6)]) (st':=[ro 0 3 1 eI l6]) (.pure (Ai λ_=>AA) .nil) ⟨.rfl,oz⟩))
end Go.Proofs.YtihdgoiebmfapaaGreat.Cl
