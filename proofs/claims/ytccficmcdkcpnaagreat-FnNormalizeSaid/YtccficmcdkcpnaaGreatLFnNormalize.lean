/- The law FnNormalize holds at every argument: it returns true and leaves its arguments as they were. No condition. -/
import Derived.Test.YtccficmcdkcpnaaGreatTab
import Derived.Test.YtccficmcdkcpnaaGreatAbsR
import Derived.Test.YtccficmcdkcpnaaGreatNRQ
import Derived.Test.YtccficmcdkcpnaaGreatNOWalk
set_option linter.all false
namespace Go.Proofs.YtccficmcdkcpnaaGreat.fnNormalize
open Go Go.Abs RC Go.ChangeShapes Go.WideShapes Go.ChangeAt Go.RowKit
set_option maxRecDepth 100000
theorem jg:Tryz.prog.closure 6=[6,16,52,51,99,165,223,160,166,163,167,224,221,225,269,271,288,289,183,174,292,235,131,222,290,234,233,180,178,220,287,282,162,113,283,284,285,286,270,226,227,228,229,109,176,98,161,219,268,164,17,53,100,76,137,139,138,101,168,230,169,56,170,231,185,237,104,171,105,172,189,187,239,240,54,102,103,55,106,107,18,57,108,173,232,175,110,177,179,181,182,58,71,112,111,184,236,19,24,23,59,114,21,22,32,64,122,65,120,96,188,117,63,121,44]:=by rw[SX eh];kernel_rfl
theorem pP:Tryz.prog.unfollowed 6=true:=by unfold Program.unfollowed;rw[jg];kernel_rfl
theorem pJ:Tryz.prog.recurses 6=true:=ZC pP
theorem oW:Tryz.prog.inPlace 6=[]:=by unfold Program.inPlace;rw[jg];kernel_rfl
theorem ph:Tryz.prog.varsNamed 6=[]:=by unfold Program.varsNamed;rw[jg];kernel_rfl
theorem closed:joinedFacts Tryz.prog 6 Tryz.f6 Rows.fnNormalizeSpec Rows.fnNormalizeRow=true:=by
  unfold joinedFacts;rw[oW,pP,pJ,ph,fC,ah,iF];kernel_rfl
section
variable {H : Type} {xU : TypeId × Value -> H} {w : World}
theorem pR:Rd xU Tryz.prog w 5 Fi U8:=Rd.u8 Tryz.underlying5
theorem pH:Rd xU Tryz.prog w 37 (eS Fi) (IJ U8):=Rd.slice Tryz.underlying37 (rV (by kernel_rfl)) pR
end
theorem walk {w:World}{base:Nat}{H:Type}{xU:TypeId×Value->H}{v0:Value}{d0:DataW H}{q0:List MemPlace}(h0:DataW.Trod xU Tryz.prog w 0 (λ_=>true) true 37 v0 d0 q0)(k0:Value.okWide Tryz.prog w .any base 37 v0):
    Calls Tryz.prog 6 #[v0] w λe w'=>e=.returned (.bool true)/\Below w.heap.size w w':=by
  obtain⟨b0,len0,cap0,rfl⟩:=okWide_slice Tryz.underlying37 k0;obtain⟨fuel0,f0⟩:=h0;obtain⟨a0,r0,_,g0⟩:=pH _ _ _ f0;exact BS.law (R5 (Tv g0)) (r0)
theorem lifted (os:Os)(started:os.Started)(H:Type)(enc:TypeId×Value->H):
    ReturnsInHanded {} Tryz.checked os 6 .any (Rows.fnNormalizeSpec.pre6 enc Tryz.prog Tryz.f6 Rows.fnNormalizeRow.domain false) (Rows.fnNormalizeSpec.post enc Tryz.prog Tryz.f6 false true false false):=by
  refine returnsInHanded_of_change (C:=Tryz.checked) jF started (by kernel_rfl) Tryz.func6
    (ChangeSpec.witness6 (enc:=enc) (C:=Tryz.checked) false ⟨#[],#[.slice none 0 0],[]⟩ 8 (by kernel_rfl) (by kernel_rfl) (by kernel_rfl) (by kernel_rfl)) ?_
  intro W base args ds gs before hval0 hW hcnd _;have hval:∀(j:Nat) t v,Tryz.f6.params[j]?=some t->args[j]?=some v->Value.okWide Tryz.prog W .any base t v:=hval0;have hW':=hW;obtain⟨p,q,hA0,hV,rfl,hfz,wc⟩:=hW;have hA:DataW.TrodAll enc Tryz.prog W 0 (λ_=>true) true Tryz.f6.params.toList args.toList ds p:=hA0;rw[Tryz.params6]at hA hval;obtain⟨v0,vs0,d0,ds0,p0,q0,wB,rfl,rfl,h0,r0⟩:=trodAll_cons hA;obtain⟨rfl,rfl,rfl⟩:=trodAll_nil r0;obtain rfl:args=#[v0]:=by cases args;simp_all
  obtain⟨rfl,rfl⟩:=trodVars_none hV;have lt0:∀x∈p0,x.block<W.heap.size:=by obtain⟨m,hm⟩:=h0;exact DataW.trod_lt m _ _ _ hm
  refine (walk h0 (hval 0 37 v0 rfl rfl)).mono λe W' ⟨he,bel⟩=>?_;subst he;exact⟨_,rfl,_,_,_,[],_,[],hW',trodAll_mk1 (shut_bool Tryz.underlying4 _),(trodAll_cons_mk (Below.trod iN (by kernel_rfl) (rV (by kernel_rfl)) h0 bel lt0) trodAll_mk0),rfl,bel.frame _,λh=>by cases h⟩
theorem pA:Rows.fnNormalizeRow.holds Tryz.pinned (OpenSpec.ofChange Rows.fnNormalizeSpec):=
  OpenClaim.holds_of_wide 6 Tryz.f6 rfl rfl rfl rfl rfl rfl rfl ⟨rfl,rfl,rfl,rfl,rfl⟩ rfl rfl rfl rfl rfl (by kernel_rfl) Tryz.func6 closed
    (rV (by kernel_rfl)) (by unfold Func.isWrapper;rw[qG (tW (by kernel_rfl))];exact⟨rfl,rfl⟩)
    (λos started H enc _=>lifted os started H enc)
/-- The statement. -/
theorem proved:Rows.FnNormalizeSaid:=pA
end Go.Proofs.YtccficmcdkcpnaaGreat.fnNormalize
