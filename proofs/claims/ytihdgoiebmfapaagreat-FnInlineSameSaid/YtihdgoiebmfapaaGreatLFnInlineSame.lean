/- The law FnInlineSame holds at every argument: it returns true and leaves its arguments as they were. No condition. -/
import Derived.Test.YtihdgoiebmfapaaGreatTab
import Derived.Test.YtihdgoiebmfapaaGreatAbsR
import Derived.Test.YtihdgoiebmfapaaGreatTYR
import Derived.Test.YtihdgoiebmfapaaGreatNSWalk
set_option linter.all false
namespace Go.Proofs.YtihdgoiebmfapaaGreat.fnInlineSame
open Go Go.Abs RC Go.ChangeShapes Go.WideShapes Go.ChangeAt Go.RowKit
set_option maxRecDepth 100000
theorem kF:Tryz.prog.closure 7=[7,18,41,26,25,54,87,117,83,88,70,89,118,115,119,134,136,144,145,102,72,147,128,74,116,146,104,106,99,97,114,143,138,85,62,139,140,141,142,135,120,121,122,123,58,95,53,84,60,63,86,19,24,22,47,78,110,111,79,48,12,34,80,82,81,112,130,137,66,103,92,126,113,131,132,133,17,40,69,49,39,52,51,65,42,44,43,71,107,27,55,90,124,125,91,56,20,29,57,93,127,94,59,96,98,100,101,45,73,108,75,46,67,77,109,76,31,61,11,32,21,33,23,50]:=by rw[QT eA];kernel_rfl
theorem oP:Tryz.prog.unfollowed 7=true:=by unfold Program.unfollowed;rw[kF];kernel_rfl
theorem nZ:Tryz.prog.recurses 7=true:=Yq oP
theorem ng:Tryz.prog.inPlace 7=[]:=by unfold Program.inPlace;rw[kF];kernel_rfl
theorem oW:Tryz.prog.varsNamed 7=[]:=by unfold Program.varsNamed;rw[kF];kernel_rfl
theorem closed:joinedFacts Tryz.prog 7 Tryz.f7 Rows.fnInlineSameSpec Rows.fnInlineSameRow=true:=by
  unfold joinedFacts;rw[ng,oP,nZ,oW,dU,aD,gW];kernel_rfl
section
variable {H : Type} {wu : TypeId × Value -> H} {w : World}
theorem ob:Rd wu Tryz.prog w 5 FP U8:=Rd.u8 Tryz.underlying5
theorem nd:Rd wu Tryz.prog w 22 (eS FP) (I2 U8):=Rd.slice Tryz.underlying22 (ql (by kernel_rfl)) ob
end
theorem walk {w:World}{base:Nat}{H:Type}{wu:TypeId×Value->H}{v0:Value}{d0:DataW H}{q0:List MemPlace}(h0:DataW.Trod wu Tryz.prog w 0 (λ_=>true) true 22 v0 d0 q0)(k0:Value.okWide Tryz.prog w .any base 22 v0):
    Calls Tryz.prog 7 #[v0] w λe w'=>e=.returned (.bool true)/\Below w.heap.size w w':=by
  obtain⟨b0,len0,cap0,rfl⟩:=okWide_slice Tryz.underlying22 k0;obtain⟨fuel0,f0⟩:=h0;obtain⟨a0,r0,_,g0⟩:=nd _ _ _ f0;exact BJ.law (P9 (Rk g0)) (r0)
theorem lifted (os:Os)(started:os.Started)(H:Type)(enc:TypeId×Value->H):
    ReturnsInHanded {} Tryz.checked os 7 .any (Rows.fnInlineSameSpec.pre6 enc Tryz.prog Tryz.f7 Rows.fnInlineSameRow.domain false) (Rows.fnInlineSameSpec.post enc Tryz.prog Tryz.f7 false true false false):=by
  refine returnsInHanded_of_change (C:=Tryz.checked) gU started (by kernel_rfl) Tryz.func7
    (ChangeSpec.witness6 (enc:=enc) (C:=Tryz.checked) false ⟨#[],#[.slice none 0 0],[]⟩ 8 (by kernel_rfl) (by kernel_rfl) (by kernel_rfl) (by kernel_rfl)) ?_
  intro W base args ds gs before hval0 hW hcnd _;have hval:∀(j:Nat) t v,Tryz.f7.params[j]?=some t->args[j]?=some v->Value.okWide Tryz.prog W .any base t v:=hval0;have hW':=hW;obtain⟨p,q,hA0,hV,rfl,hfz,vu⟩:=hW;have hA:DataW.TrodAll enc Tryz.prog W 0 (λ_=>true) true Tryz.f7.params.toList args.toList ds p:=hA0;rw[Tryz.params7]at hA hval;obtain⟨v0,vs0,d0,ds0,p0,q0,yJ,rfl,rfl,h0,r0⟩:=trodAll_cons hA;obtain⟨rfl,rfl,rfl⟩:=trodAll_nil r0;obtain rfl:args=#[v0]:=by cases args;simp_all
  obtain⟨rfl,rfl⟩:=trodVars_none hV;have lt0:∀x∈p0,x.block<W.heap.size:=by obtain⟨m,hm⟩:=h0;exact DataW.trod_lt m _ _ _ hm
  refine (walk h0 (hval 0 22 v0 rfl rfl)).mono λe W' ⟨he,bel⟩=>?_;subst he;exact⟨_,rfl,_,_,_,[],_,[],hW',trodAll_mk1 (shut_bool Tryz.underlying4 _),(trodAll_cons_mk (Below.trod gY (by kernel_rfl) (ql (by kernel_rfl)) h0 bel lt0) trodAll_mk0),rfl,bel.frame _,λh=>by cases h⟩
theorem oO:Rows.fnInlineSameRow.holds Tryz.pinned (OpenSpec.ofChange Rows.fnInlineSameSpec):=
  OpenClaim.holds_of_wide 7 Tryz.f7 rfl rfl rfl rfl rfl rfl rfl ⟨rfl,rfl,rfl,rfl,rfl⟩ rfl rfl rfl rfl rfl (by kernel_rfl) Tryz.func7 closed
    (ql (by kernel_rfl)) (by unfold Func.isWrapper;rw[pJ (sm (by kernel_rfl))];exact⟨rfl,rfl⟩)
    (λos started H enc _=>lifted os started H enc)
/-- The statement. -/
theorem proved:Rows.FnInlineSameSaid:=oO
end Go.Proofs.YtihdgoiebmfapaaGreat.fnInlineSame
