import Derived.Test.YtgiajkaabnbieaaGreatProg
import Derived.Test.YtgiajkaabnbieaaGreatGHADefsToCTDefs
set_option linter.all false
namespace Go.Proofs.YtgiajkaabnbieaaGreat.Cl
open Go Go.Abs RC
attribute [local irreducible] Go.Abs.Di
set_option maxRecDepth 100000
set_option maxHeartbeats 4000000
def tb:LM Tryz.prog where
 t:=[]
 f:=[]
 v:=[]
 b:=[]
 s:=[27,49,81]
 ht:=by kernel_rfl
 hf:=by kernel_rfl
 hv:=by kernel_rfl
 hb:=by kernel_rfl
 hs:=by kernel_rfl
theorem Dl:Cj Tryz.prog 27=some ⟨83,3,40,[.int .i64 0,.int .i64 0,.sl []]⟩:=by kernel_rfl
theorem BD:Cj Tryz.prog 49=some ⟨3,1,8,[.int .i64 0]⟩:=by kernel_rfl
theorem KV:Cj Tryz.prog 81=some ⟨116,1,24,[.sl []]⟩:=by kernel_rfl
theorem TI:CY Tryz.prog 27=true:=by kernel_rfl
theorem F8:CY Tryz.prog 49=true:=by kernel_rfl
theorem RN:CY Tryz.prog 81=true:=by kernel_rfl
theorem Jv {p0:(List Ac)}{r:(List Ac)}(h0:DI p0=some r):AS Tryz.prog 91 [ls Am p0] [] (λv st=>v=(ow 0 0 r)/\st=[ro 0 83 3 Am r]):=by
 unfold DI at h0;refine ai Tryz.func91 AA AA AA AA ?_;refine zr tb AA AA ?_;refine AD λK2 yF=>?_;refine sr AA λK3 xU=>?_;refine zq tb AA ?_;refine TH AR TI AA (λhn=>?_) ?_
 ·subst hn;replace h0:some []=some r:=by rw[<- h0];first|rfl|simp[Sh.app]
  refine dn xU AA ?_;refine Fi (b:=true) rfl (λ_=>?_) (λq=>nomatch (show true=false from (AA:true=true).symm.trans q));refine zr tb AA AA ?_;replace h0:=Sh.AB h0;subst r;exact BG (Exists.intro _ (And.intro (((FG (t:=2) rfl 83 (size:=3) (by decide)).trans (Ao (L:=[(2,.own 0 0 (List.length ([]:List Ac)))]) ⟨.rfl,mD⟩)).trans (Ao (L:=[(2,.own 0 0 (List.length ([]:List Ac)))]) ⟨.rfl,mD⟩)) (And.intro AA AA)))
 ·refine dn xU AA ?_;refine Fi (b:=false) rfl (λq=>nomatch (show false=true from (AA:false=false).symm.trans q)) (λ_=>?_);refine AG (yF _ ?_);refine sr AA λK5 yG=>?_;refine CE (m:=0) (l:=([]:List Ac)) (enc:=Am) AR Dl (by decide) rfl AA AA AA AA AA ?_;refine zq tb AA ?_;obtain⟨l6,gl6,h0⟩:=Sh.bind_some h0;refine Cd (l2:=p0) AR Dl AA AA AA AA Nq (λ_=>AA) gl6 AA ?_;refine zq tb AA ?_;refine dn yG AA ?_;replace h0:=Sh.AB h0;subst r;exact BG (xr (CJ (L:=[(2,ow 0 0 l6)]) (st':=[ro 0 83 3 Am l6]) (.pure (AK λ_=>AA) .nil) ⟨.rfl,mD⟩))
theorem KL {p0:(List Bh)}{r:(List Bh)}(h0:Ci p0=some r):AS Tryz.prog 92 [ls Bv p0] [] (λv st=>v=(ow 0 0 r)/\st=[ro 0 116 1 Bv r]):=by
 unfold Ci at h0;refine ai Tryz.func92 AA AA AA AA ?_;refine zr tb AA AA ?_;refine AD λK2 yF=>?_;refine sr AA λK3 xU=>?_;refine zq tb AA ?_;refine TH AR RN AA (λhn=>?_) ?_
 ·subst hn;replace h0:some []=some r:=by rw[<- h0];first|rfl|simp[Sh.app]
  refine dn xU AA ?_;refine Fi (b:=true) rfl (λ_=>?_) (λq=>nomatch (show true=false from (AA:true=true).symm.trans q));refine zr tb AA AA ?_;replace h0:=Sh.AB h0;subst r;exact BG (Exists.intro _ (And.intro (((FG (t:=2) rfl 116 (size:=1) (by decide)).trans (Ao (L:=[(2,.own 0 0 (List.length ([]:List Bh)))]) ⟨.rfl,mD⟩)).trans (Ao (L:=[(2,.own 0 0 (List.length ([]:List Bh)))]) ⟨.rfl,mD⟩)) (And.intro AA AA)))
 ·refine dn xU AA ?_;refine Fi (b:=false) rfl (λq=>nomatch (show false=true from (AA:false=false).symm.trans q)) (λ_=>?_);refine AG (yF _ ?_);refine sr AA λK5 yG=>?_;refine CE (m:=0) (l:=([]:List Bh)) (enc:=Bv) AR KV (by decide) rfl AA AA AA AA AA ?_;refine zq tb AA ?_;obtain⟨l6,gl6,h0⟩:=Sh.bind_some h0;refine Cd (l2:=p0) AR KV AA AA AA AA Nq (λ_=>AA) gl6 AA ?_;refine zq tb AA ?_;refine dn yG AA ?_;replace h0:=Sh.AB h0;subst r;exact BG (xr (CJ (L:=[(2,ow 0 0 l6)]) (st':=[ro 0 116 1 Bv l6]) (.pure (AK λ_=>AA) .nil) ⟨.rfl,mD⟩))
theorem Bn {p0:(List Int)}{r:(List Int)}(h0:Bz p0=some r):AS Tryz.prog 47 [ls eI p0] [] (λv st=>v=(ow 0 0 r)/\st=[ro 0 3 1 eI r]):=by
 unfold Bz at h0;refine ai Tryz.func47 AA AA AA AA ?_;refine zr tb AA AA ?_;refine AD λK2 yF=>?_;refine sr AA λK3 xU=>?_;refine zq tb AA ?_;refine TH AR F8 AA (λhn=>?_) ?_
 ·subst hn;replace h0:some []=some r:=by rw[<- h0];first|rfl|simp[Sh.app]
  refine dn xU AA ?_;refine Fi (b:=true) rfl (λ_=>?_) (λq=>nomatch (show true=false from (AA:true=true).symm.trans q));refine zr tb AA AA ?_;replace h0:=Sh.AB h0;subst r;exact BG (Exists.intro _ (And.intro (((FG (t:=2) rfl 3 (size:=1) (by decide)).trans (Ao (L:=[(2,.own 0 0 (List.length ([]:List Int)))]) ⟨.rfl,mD⟩)).trans (Ao (L:=[(2,.own 0 0 (List.length ([]:List Int)))]) ⟨.rfl,mD⟩)) (And.intro AA AA)))
 ·refine dn xU AA ?_;refine Fi (b:=false) rfl (λq=>nomatch (show false=true from (AA:false=false).symm.trans q)) (λ_=>?_);refine AG (yF _ ?_);refine sr AA λK5 yG=>?_;refine CE (m:=0) (l:=([]:List Int)) (enc:=eI) AR BD (by decide) rfl AA AA AA AA AA ?_;refine zq tb AA ?_;obtain⟨l6,gl6,h0⟩:=Sh.bind_some h0;refine Cd (l2:=p0) AR BD AA AA AA AA Nq (λ_=>AA) gl6 AA ?_;refine zq tb AA ?_;refine dn yG AA ?_;replace h0:=Sh.AB h0;subst r;exact BG (xr (CJ (L:=[(2,ow 0 0 l6)]) (st':=[ro 0 3 1 eI l6]) (.pure (AK λ_=>AA) .nil) ⟨.rfl,mD⟩))
end Go.Proofs.YtgiajkaabnbieaaGreat.Cl
