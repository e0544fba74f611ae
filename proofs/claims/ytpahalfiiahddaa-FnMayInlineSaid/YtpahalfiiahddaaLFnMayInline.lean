/- The law FnMayInline holds at every argument: it returns true and leaves its arguments as they were. No condition. -/
import Derived.Test.YtpahalfiiahddaaRows
import Derived.Test.YtpahalfiiahddaaTab
import Derived.Test.YtpahalfiiahddaaAbsR
import Derived.Test.YtpahalfiiahddaaYGG
import Derived.Test.YtpahalfiiahddaaFIWalk
namespace Go.Proofs.Ytpahalfiiahddaa.fnMayInline
open Go Go.Abs RC Go.ChangeShapes Go.WideShapes Go.ChangeAt Go.RowKit
set_option maxRecDepth 100000

theorem Vy:Try.prog.closure 6=[6,17,35,36,55,86,111,56,87,37,88,112,109,113,125,127,135,136,76,23,138,102,50,110,137,101,99,72,70,108,134,129,73,100,130,131,132,133,126,114,115,116,117,43,68,54,84,107,124,85,13,18,38,57,89,90,59,39,58,91,60,62,61,92,118,128,93,119,94,120,95,121,122,123,16,34,53,27,33,19,32,52,12,22,42,66,98,67,44,69,71,74,75,31,49,83,51,15]:=by rw[Lr UG];kernel_rfl
theorem Z3:Try.prog.unfollowed 6=true:=by unfold Program.unfollowed;rw[Vy];kernel_rfl
theorem ZW:Try.prog.recurses 6=true:=RO Z3
theorem Y6:Try.prog.inPlace 6=[]:=by unfold Program.inPlace;rw[Vy];kernel_rfl
theorem Z8:Try.prog.varsNamed 6=[]:=by unfold Program.varsNamed;rw[Vy];kernel_rfl
theorem closed:joinedFacts Try.prog 6 Try.f6 Rows.fnMayInlineSpec Rows.fnMayInlineRow=true:=by
  unfold joinedFacts
  rw[Y6,Z3,ZW,Z8,T3,Su,Vf]
  kernel_rfl

section
variable {H : Type} {encH : TypeId × Value → H} {w : World}
theorem aA:Rd encH Try.prog w 5 Dk U8:=Rd.u8 Try.underlying5
theorem Zp:Rd encH Try.prog w 36 (eS Dk) (Hy U8):=Rd.slice Try.underlying36 (of_decide_eq_true (by kernel_rfl)) aA
end

theorem walk {w:World} {base:Nat} {H:Type} {encH:TypeId×Value→H} {v0:Value} {d0:DataW H} {q0:List MemPlace} (h0:DataW.Trod encH Try.prog w 0 (fun _=>true) true 36 v0 d0 q0) (k0:Value.okWide Try.prog w .any base 36 v0) :
    Calls Try.prog 6 #[v0] w fun e w'=>e=.returned (.bool true)∧Below w.heap.size w w':=by
  obtain⟨b0,len0,cap0,rfl⟩:=okWide_slice Try.underlying36 k0
  obtain⟨fuel0,f0⟩:=h0
  obtain⟨a0,r0,_,g0⟩:=Zp _ _ _ f0
  exact Ai.law (LY (NG g0)) (r0)

theorem lifted (os:Os) (started:os.Started) (H:Type) (enc:TypeId×Value→H) :
    ReturnsInHanded {} Try.checked os 6 .any (Rows.fnMayInlineSpec.pre6 enc Try.prog Try.f6 Rows.fnMayInlineRow.domain false) (Rows.fnMayInlineSpec.post enc Try.prog Try.f6 false true false false):=by
  refine returnsInHanded_of_change (C:=Try.checked) Vn started (by kernel_rfl) Try.func6
    (ChangeSpec.witness6 (enc:=enc) (C:=Try.checked) false ⟨#[],#[.slice none 0 0],[]⟩ 8 (by kernel_rfl) (by kernel_rfl) (by kernel_rfl) (by kernel_rfl)) ?_
  intro W base args ds gs before hval0 hW hcnd _
  have hval :∀(j:Nat) t v,Try.f6.params[j]?=some t→args[j]?=some v→Value.okWide Try.prog W .any base t v:=hval0
  have hW':=hW
  obtain⟨p,q,hA0,hV,rfl,hfz,hnd⟩:=hW
  have hA:DataW.TrodAll enc Try.prog W 0 (fun _=>true) true Try.f6.params.toList args.toList ds p:=hA0
  rw[Try.params6] at hA hval
  obtain⟨v0,vs0,d0,ds0,p0,q0,hargs,rfl,rfl,h0,r0⟩:=trodAll_cons hA
  obtain⟨rfl,rfl,rfl⟩:=trodAll_nil r0
  obtain rfl:args=#[v0]:=by cases args;simp_all
  obtain⟨rfl,rfl⟩:=trodVars_none hV
  have lt0 :∀x∈p0,x.block < W.heap.size:=by obtain⟨m,hm⟩:=h0;exact DataW.trod_lt m _ _ _ hm
  refine (walk h0 (hval 0 36 v0 rfl rfl)).mono fun e W' ⟨he,bel⟩=>?_
  subst he
  exact⟨_,rfl,_,_,_,[],_,[],hW',trodAll_mk1 (shut_bool Try.underlying4 _),(trodAll_cons_mk (Below.trod Vk (by kernel_rfl) (of_decide_eq_true (by kernel_rfl)) h0 bel lt0) trodAll_mk0),rfl,bel.frame _,fun h=>by cases h⟩

theorem ZR:Rows.fnMayInlineRow.holds Try.pinned (OpenSpec.ofChange Rows.fnMayInlineSpec):=
  OpenClaim.holds_of_wide 6 Try.f6 rfl rfl rfl rfl rfl rfl rfl ⟨rfl,rfl,rfl,rfl,rfl⟩ rfl rfl rfl rfl rfl (by kernel_rfl) Try.func6 closed
    (of_decide_eq_true (by kernel_rfl)) (by unfold Func.isWrapper;rw[if_neg (of_decide_eq_false (by kernel_rfl))];exact⟨rfl,rfl⟩)
    (fun os started H enc _=>lifted os started H enc)

/-- The statement. -/
theorem proved:Rows.FnMayInlineSaid:=ZR
end Go.Proofs.Ytpahalfiiahddaa.fnMayInline
