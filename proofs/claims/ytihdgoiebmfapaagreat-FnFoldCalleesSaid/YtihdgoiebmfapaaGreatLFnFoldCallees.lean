/- The law FnFoldCallees holds at every argument: it returns true and leaves its arguments as they were. No condition. -/
import Derived.Test.YtihdgoiebmfapaaGreatTab
import Derived.Test.YtihdgoiebmfapaaGreatAbsR
import Derived.Test.YtihdgoiebmfapaaGreatTYO
import Derived.Test.YtihdgoiebmfapaaGreatFEWalk
set_option linter.all false
namespace Go.Proofs.YtihdgoiebmfapaaGreat.fnFoldCallees
open Go Go.Abs RC Go.ChangeShapes Go.WideShapes Go.ChangeAt Go.RowKit
set_option maxRecDepth 100000
theorem fE:Tryz.prog.closure 5=[5,13,26,25,54,87,117,83,88,70,89,118,115,119,134,136,144,145,102,72,147,128,74,116,146,104,106,99,97,114,143,138,85,62,139,140,141,142,135,120,121,122,123,58,95,53,84,60,63,86,14,22,47,78,110,111,79,48,12,34,80,82,81,112,130,137,66,103,92,126,113,131,132,133,35,36,64,65,43,71,107,44,27,55,90,124,125,91,56,15,29,57,93,127,94,59,96,98,100,101,37,67,68,105,129,76,77,109,31,61,11,32,21,33,17,40,69,49,39,16,38]:=by rw[Pb cC];kernel_rfl
theorem kg:Tryz.prog.unfollowed 5=true:=by unfold Program.unfollowed;rw[fE];kernel_rfl
theorem ka:Tryz.prog.recurses 5=true:=XS kg
theorem kK:Tryz.prog.inPlace 5=[]:=by unfold Program.inPlace;rw[fE];kernel_rfl
theorem lQ:Tryz.prog.varsNamed 5=[]:=by unfold Program.varsNamed;rw[fE];kernel_rfl
theorem closed:joinedFacts Tryz.prog 5 Tryz.f5 Rows.fnFoldCalleesSpec Rows.fnFoldCalleesRow=true:=by
  unfold joinedFacts;rw[kK,kg,ka,lQ,cE,YN,dL];kernel_rfl
section
variable {H : Type} {sm : TypeId × Value -> H} {w : World}
theorem lG:Rd sm Tryz.prog w 5 E8 U8:=Rd.u8 Tryz.underlying5
theorem kr:Rd sm Tryz.prog w 22 (eS E8) (IU U8):=Rd.slice Tryz.underlying22 (mz (by kernel_rfl)) lG
end
theorem walk {w:World}{base:Nat}{H:Type}{sm:TypeId×Value->H}{v0:Value}{d0:DataW H}{q0:List MemPlace}(h0:DataW.Trod sm Tryz.prog w 0 (λ_=>true) true 22 v0 d0 q0)(k0:Value.okWide Tryz.prog w .any base 22 v0):
    Calls Tryz.prog 5 #[v0] w λe w'=>e=.returned (.bool true)/\Below w.heap.size w w':=by
  obtain⟨b0,len0,cap0,rfl⟩:=okWide_slice Tryz.underlying22 k0;obtain⟨fuel0,f0⟩:=h0;obtain⟨a0,r0,_,g0⟩:=kr _ _ _ f0;exact Ab.law (Ob (QA g0)) (r0)
theorem lifted (os:Os)(started:os.Started)(H:Type)(enc:TypeId×Value->H):
    ReturnsInHanded {} Tryz.checked os 5 .any (Rows.fnFoldCalleesSpec.pre6 enc Tryz.prog Tryz.f5 Rows.fnFoldCalleesRow.domain false) (Rows.fnFoldCalleesSpec.post enc Tryz.prog Tryz.f5 false true false false):=by
  refine returnsInHanded_of_change (C:=Tryz.checked) dy started (by kernel_rfl) Tryz.func5
    (ChangeSpec.witness6 (enc:=enc) (C:=Tryz.checked) false ⟨#[],#[.slice none 0 0],[]⟩ 8 (by kernel_rfl) (by kernel_rfl) (by kernel_rfl) (by kernel_rfl)) ?_
  intro W base args ds gs before hval0 hW hcnd _;have xu:∀(j:Nat) t v,Tryz.f5.params[j]?=some t->args[j]?=some v->Value.okWide Tryz.prog W .any base t v:=hval0;have hW':=hW;obtain⟨p,q,hA0,hV,rfl,hfz,sC⟩:=hW;have hA:DataW.TrodAll enc Tryz.prog W 0 (λ_=>true) true Tryz.f5.params.toList args.toList ds p:=hA0;rw[Tryz.params5]at hA xu;obtain⟨v0,vs0,d0,ds0,p0,q0,uA,rfl,rfl,h0,r0⟩:=trodAll_cons hA;obtain⟨rfl,rfl,rfl⟩:=trodAll_nil r0;obtain rfl:args=#[v0]:=by cases args;simp_all
  obtain⟨rfl,rfl⟩:=trodVars_none hV;have lt0:∀x∈p0,x.block<W.heap.size:=by obtain⟨m,hm⟩:=h0;exact DataW.trod_lt m _ _ _ hm
  refine (walk h0 (xu 0 22 v0 rfl rfl)).mono λe W' ⟨he,bel⟩=>?_;subst he;exact⟨_,rfl,_,_,_,[],_,[],hW',trodAll_mk1 (shut_bool Tryz.underlying4 _),(trodAll_cons_mk (Below.trod dx (by kernel_rfl) (mz (by kernel_rfl)) h0 bel lt0) trodAll_mk0),rfl,bel.frame _,λh=>by cases h⟩
theorem kG:Rows.fnFoldCalleesRow.holds Tryz.pinned (OpenSpec.ofChange Rows.fnFoldCalleesSpec):=
  OpenClaim.holds_of_wide 5 Tryz.f5 rfl rfl rfl rfl rfl rfl rfl ⟨rfl,rfl,rfl,rfl,rfl⟩ rfl rfl rfl rfl rfl (by kernel_rfl) Tryz.func5 closed
    (mz (by kernel_rfl)) (by unfold Func.isWrapper;rw[la (pP (by kernel_rfl))];exact⟨rfl,rfl⟩)
    (λos started H enc _=>lifted os started H enc)
/-- The statement. -/
theorem proved:Rows.FnFoldCalleesSaid:=kG
end Go.Proofs.YtihdgoiebmfapaaGreat.fnFoldCallees
