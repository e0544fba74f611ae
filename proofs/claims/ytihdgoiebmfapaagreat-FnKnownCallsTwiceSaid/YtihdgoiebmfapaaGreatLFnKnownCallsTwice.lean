/- The law FnKnownCallsTwice holds at every argument: it returns true and leaves its arguments as they were. No condition. -/
import Derived.Test.YtihdgoiebmfapaaGreatTab
import Derived.Test.YtihdgoiebmfapaaGreatAbsR
import Derived.Test.YtihdgoiebmfapaaGreatKTA
import Derived.Test.YtihdgoiebmfapaaGreatKTWalk
set_option linter.all false
namespace Go.Proofs.YtihdgoiebmfapaaGreat.fnKnownCallsTwice
open Go Go.Abs RC Go.ChangeShapes Go.WideShapes Go.ChangeAt Go.RowKit
set_option maxRecDepth 100000
theorem bU:Tryz.prog.closure 3=[3,8,26,25,54,87,117,83,88,70,89,118,115,119,134,136,144,145,102,72,147,128,74,116,146,104,106,99,97,114,143,138,85,62,139,140,141,142,135,120,121,122,123,58,95,53,84,60,63,86,9,22,47,78,110,111,79,48,12,34,80,82,81,112,130,137,66,103,92,126,113,131,132,133,27,55,90,124,125,91,44,56,28,10,29,57,93,127,94,59,96,98,100,101,30,31,61,11,32,21,33]:=by rw[Oa Xx];kernel_rfl
theorem eW:Tryz.prog.unfollowed 3=true:=by unfold Program.unfollowed;rw[bU];kernel_rfl
theorem eb:Tryz.prog.recurses 3=true:=VE eW
theorem eZ:Tryz.prog.inPlace 3=[]:=by unfold Program.inPlace;rw[bU];kernel_rfl
theorem fU:Tryz.prog.varsNamed 3=[]:=by unfold Program.varsNamed;rw[bU];kernel_rfl
theorem closed:joinedFacts Tryz.prog 3 Tryz.f3 Rows.fnKnownCallsTwiceSpec Rows.fnKnownCallsTwiceRow=true:=by
  unfold joinedFacts;rw[eZ,eW,eb,fU,Ya,Wn,Zb];kernel_rfl
section
variable {H : Type} {na : TypeId × Value -> H} {w : World}
theorem fI:Rd na Tryz.prog w 5 Ey U8:=Rd.u8 Tryz.underlying5
theorem ek:Rd na Tryz.prog w 22 (eS Ey) (IP U8):=Rd.slice Tryz.underlying22 (iF (by kernel_rfl)) fI
end
theorem walk {w:World}{base:Nat}{H:Type}{na:TypeId×Value->H}{v0:Value}{d0:DataW H}{q0:List MemPlace}(h0:DataW.Trod na Tryz.prog w 0 (λ_=>true) true 22 v0 d0 q0)(k0:Value.okWide Tryz.prog w .any base 22 v0):
    Calls Tryz.prog 3 #[v0] w λe w'=>e=.returned (.bool true)/\Below w.heap.size w w':=by
  obtain⟨b0,len0,cap0,rfl⟩:=okWide_slice Tryz.underlying22 k0;obtain⟨zp,f0⟩:=h0;obtain⟨a0,r0,_,g0⟩:=ek _ _ _ f0;exact Ac.law (Ll (Me g0)) (r0)
theorem lifted (os:Os)(started:os.Started)(H:Type)(enc:TypeId×Value->H):
    ReturnsInHanded {} Tryz.checked os 3 .any (Rows.fnKnownCallsTwiceSpec.pre6 enc Tryz.prog Tryz.f3 Rows.fnKnownCallsTwiceRow.domain false) (Rows.fnKnownCallsTwiceSpec.post enc Tryz.prog Tryz.f3 false true false false):=by
  refine returnsInHanded_of_change (C:=Tryz.checked) ZU started (by kernel_rfl) Tryz.func3
    (ChangeSpec.witness6 (enc:=enc) (C:=Tryz.checked) false ⟨#[],#[.slice none 0 0],[]⟩ 8 (by kernel_rfl) (by kernel_rfl) (by kernel_rfl) (by kernel_rfl)) ?_
  intro W base args ds gs before wE hW hcnd _;have rm:∀(j:Nat) t v,Tryz.f3.params[j]?=some t->args[j]?=some v->Value.okWide Tryz.prog W .any base t v:=wE;have hW':=hW;obtain⟨p,q,hA0,hV,rfl,hfz,mh⟩:=hW;have hA:DataW.TrodAll enc Tryz.prog W 0 (λ_=>true) true Tryz.f3.params.toList args.toList ds p:=hA0;rw[Tryz.params3]at hA rm;obtain⟨v0,vs0,d0,ds0,p0,q0,oc,rfl,rfl,h0,r0⟩:=trodAll_cons hA;obtain⟨rfl,rfl,rfl⟩:=trodAll_nil r0;obtain rfl:args=#[v0]:=by cases args;simp_all
  obtain⟨rfl,rfl⟩:=trodVars_none hV;have lt0:∀x∈p0,x.block<W.heap.size:=by obtain⟨m,hm⟩:=h0;exact DataW.trod_lt m _ _ _ hm
  refine (walk h0 (rm 0 22 v0 rfl rfl)).mono λe W' ⟨he,bel⟩=>?_;subst he;exact⟨_,rfl,_,_,_,[],_,[],hW',trodAll_mk1 (shut_bool Tryz.underlying4 _),(trodAll_cons_mk (Below.trod Zp (by kernel_rfl) (iF (by kernel_rfl)) h0 bel lt0) trodAll_mk0),rfl,bel.frame _,λh=>by cases h⟩
theorem eu:Rows.fnKnownCallsTwiceRow.holds Tryz.pinned (OpenSpec.ofChange Rows.fnKnownCallsTwiceSpec):=
  OpenClaim.holds_of_wide 3 Tryz.f3 rfl rfl rfl rfl rfl rfl rfl ⟨rfl,rfl,rfl,rfl,rfl⟩ rfl rfl rfl rfl rfl (by kernel_rfl) Tryz.func3 closed
    (iF (by kernel_rfl)) (by unfold Func.isWrapper;rw[fr (kB (by kernel_rfl))];exact⟨rfl,rfl⟩)
    (λos started H enc _=>lifted os started H enc)
/-- The statement. -/
theorem proved:Rows.FnKnownCallsTwiceSaid:=eu
end Go.Proofs.YtihdgoiebmfapaaGreat.fnKnownCallsTwice
