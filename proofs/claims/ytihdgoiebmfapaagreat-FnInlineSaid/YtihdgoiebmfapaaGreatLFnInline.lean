/- The law FnInline holds at every argument: it returns true and leaves its arguments as they were. No condition. -/
import Derived.Test.YtihdgoiebmfapaaGreatTab
import Derived.Test.YtihdgoiebmfapaaGreatAbsR
import Derived.Test.YtihdgoiebmfapaaGreatTYQ
import Derived.Test.YtihdgoiebmfapaaGreatNLWalk
set_option linter.all false
namespace Go.Proofs.YtihdgoiebmfapaaGreat.fnInline
open Go Go.Abs RC Go.ChangeShapes Go.WideShapes Go.ChangeAt Go.RowKit
set_option maxRecDepth 100000
theorem kL:Tryz.prog.closure 6=[6,18,41,26,25,54,87,117,83,88,70,89,118,115,119,134,136,144,145,102,72,147,128,74,116,146,104,106,99,97,114,143,138,85,62,139,140,141,142,135,120,121,122,123,58,95,53,84,60,63,86,19,24,22,47,78,110,111,79,48,12,34,80,82,81,112,130,137,66,103,92,126,113,131,132,133,17,40,69,49,39,52,51,65,42,44,43,71,107,27,55,90,124,125,91,56,20,29,57,93,127,94,59,96,98,100,101,45,73,108,75,46,67,77,109,76,31,61,11,32,21,33,23,50]:=by rw[QR dx];kernel_rfl
theorem oK:Tryz.prog.unfollowed 6=true:=by unfold Program.unfollowed;rw[kL];kernel_rfl
theorem oB:Tryz.prog.recurses 6=true:=Y1 oK
theorem nt:Tryz.prog.inPlace 6=[]:=by unfold Program.inPlace;rw[kL];kernel_rfl
theorem og:Tryz.prog.varsNamed 6=[]:=by unfold Program.varsNamed;rw[kL];kernel_rfl
theorem closed:joinedFacts Tryz.prog 6 Tryz.f6 Rows.fnInlineSpec Rows.fnInlineRow=true:=by
  unfold joinedFacts;rw[nt,oK,oB,og,db,bH,gK];kernel_rfl
section
variable {H : Type} {wu : TypeId × Value -> H} {w : World}
theorem ot:Rd wu Tryz.prog w 5 FQ U8:=Rd.u8 Tryz.underlying5
theorem nV:Rd wu Tryz.prog w 22 (eS FQ) (Iz U8):=Rd.slice Tryz.underlying22 (qm (by kernel_rfl)) ot
end
theorem walk {w:World}{base:Nat}{H:Type}{wu:TypeId×Value->H}{v0:Value}{d0:DataW H}{q0:List MemPlace}(h0:DataW.Trod wu Tryz.prog w 0 (λ_=>true) true 22 v0 d0 q0)(k0:Value.okWide Tryz.prog w .any base 22 v0):
    Calls Tryz.prog 6 #[v0] w λe w'=>e=.returned (.bool true)/\Below w.heap.size w w':=by
  obtain⟨b0,len0,cap0,rfl⟩:=okWide_slice Tryz.underlying22 k0;obtain⟨fuel0,f0⟩:=h0;obtain⟨a0,r0,_,g0⟩:=nV _ _ _ f0;exact BJ.law (UM (Wj g0)) (r0)
theorem lifted (os:Os)(started:os.Started)(H:Type)(enc:TypeId×Value->H):
    ReturnsInHanded {} Tryz.checked os 6 .any (Rows.fnInlineSpec.pre6 enc Tryz.prog Tryz.f6 Rows.fnInlineRow.domain false) (Rows.fnInlineSpec.post enc Tryz.prog Tryz.f6 false true false false):=by
  refine returnsInHanded_of_change (C:=Tryz.checked) gV started (by kernel_rfl) Tryz.func6
    (ChangeSpec.witness6 (enc:=enc) (C:=Tryz.checked) false ⟨#[],#[.slice none 0 0],[]⟩ 8 (by kernel_rfl) (by kernel_rfl) (by kernel_rfl) (by kernel_rfl)) ?_
  intro W base args ds gs before hval0 hW hcnd _;have hval:∀(j:Nat) t v,Tryz.f6.params[j]?=some t->args[j]?=some v->Value.okWide Tryz.prog W .any base t v:=hval0;have hW':=hW;obtain⟨p,q,hA0,hV,rfl,hfz,vt⟩:=hW;have hA:DataW.TrodAll enc Tryz.prog W 0 (λ_=>true) true Tryz.f6.params.toList args.toList ds p:=hA0;rw[Tryz.params6]at hA hval;obtain⟨v0,vs0,d0,ds0,p0,q0,yI,rfl,rfl,h0,r0⟩:=trodAll_cons hA;obtain⟨rfl,rfl,rfl⟩:=trodAll_nil r0;obtain rfl:args=#[v0]:=by cases args;simp_all
  obtain⟨rfl,rfl⟩:=trodVars_none hV;have lt0:∀x∈p0,x.block<W.heap.size:=by obtain⟨m,hm⟩:=h0;exact DataW.trod_lt m _ _ _ hm
  refine (walk h0 (hval 0 22 v0 rfl rfl)).mono λe W' ⟨he,bel⟩=>?_;subst he;exact⟨_,rfl,_,_,_,[],_,[],hW',trodAll_mk1 (shut_bool Tryz.underlying4 _),(trodAll_cons_mk (Below.trod gw (by kernel_rfl) (qm (by kernel_rfl)) h0 bel lt0) trodAll_mk0),rfl,bel.frame _,λh=>by cases h⟩
theorem nq:Rows.fnInlineRow.holds Tryz.pinned (OpenSpec.ofChange Rows.fnInlineSpec):=
  OpenClaim.holds_of_wide 6 Tryz.f6 rfl rfl rfl rfl rfl rfl rfl ⟨rfl,rfl,rfl,rfl,rfl⟩ rfl rfl rfl rfl rfl (by kernel_rfl) Tryz.func6 closed
    (qm (by kernel_rfl)) (by unfold Func.isWrapper;rw[pK (sn (by kernel_rfl))];exact⟨rfl,rfl⟩)
    (λos started H enc _=>lifted os started H enc)
/-- The statement. -/
theorem proved:Rows.FnInlineSaid:=nq
end Go.Proofs.YtihdgoiebmfapaaGreat.fnInline
