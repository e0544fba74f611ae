/- The law FnValidLazyPending holds at every argument: it returns true and leaves its arguments as they were. No condition. -/
import Derived.Test.YthapbpfhdnmboaaRows
import Derived.Test.YthapbpfhdnmboaaTab
import Derived.Test.YthapbpfhdnmboaaAbsR
import Derived.Test.YthapbpfhdnmboaaZME
import Derived.Test.YthapbpfhdnmboaaLPWalk
namespace Go.Proofs.Ythapbpfhdnmboaa.fnValidLazyPending
open Go Go.Abs RC Go.ChangeShapes Go.WideShapes Go.ChangeAt Go.RowKit
set_option maxRecDepth 100000

theorem QR:Try.prog.closure 4=[4,5,11,10,15,28,16,24,37,32,44,17,39,22,34,48,42,35,49,51,36,46,52,40,53,54,41,29,13,21,33,23,43,45,30,47,6,12,18,14,25,38,26,50,27,20,19,31,7,9]:=by rw[Hk Oh];kernel_rfl
theorem TC:Try.prog.unfollowed 4=true:=by unfold Program.unfollowed;rw[QR];kernel_rfl
theorem TI:Try.prog.recurses 4=true:=Le TC
theorem TE:Try.prog.inPlace 4=[]:=by unfold Program.inPlace;rw[QR];kernel_rfl
theorem TP:Try.prog.varsNamed 4=[]:=by unfold Program.varsNamed;rw[QR];kernel_rfl
theorem closed:joinedFacts Try.prog 4 Try.f4 Rows.fnValidLazyPendingSpec Rows.fnValidLazyPendingRow=true:=by
  unfold joinedFacts
  rw[TE,TC,TI,TP,Ol,Mq,PX]
  kernel_rfl

section
variable {H : Type} {encH : TypeId × Value → H} {w : World}
theorem TO:Rd encH Try.prog w 5 AI U8:=Rd.u8 Try.underlying5
theorem Sd:Rd encH Try.prog w 22 (eS AI) (H5 U8):=Rd.slice Try.underlying22 (of_decide_eq_true (by kernel_rfl)) TO
end

theorem walk {w:World} {base:Nat} {H:Type} {encH:TypeId×Value→H} {v0:Value} {d0:DataW H} {q0:List MemPlace} (h0:DataW.Trod encH Try.prog w 0 (fun _=>true) true 22 v0 d0 q0) (k0:Value.okWide Try.prog w .any base 22 v0) :
    Calls Try.prog 4 #[v0] w fun e w'=>e=.returned (.bool true)∧Below w.heap.size w w':=by
  obtain⟨b0,len0,cap0,rfl⟩:=okWide_slice Try.underlying22 k0
  obtain⟨fuel0,f0⟩:=h0
  obtain⟨a0,r0,_,g0⟩:=Sd _ _ _ f0
  exact Ag.law (Fg (GD g0)) (r0)

theorem lifted (os:Os) (started:os.Started) (H:Type) (enc:TypeId×Value→H) :
    ReturnsInHanded {} Try.checked os 4 .any (Rows.fnValidLazyPendingSpec.pre6 enc Try.prog Try.f4 Rows.fnValidLazyPendingRow.domain false) (Rows.fnValidLazyPendingSpec.post enc Try.prog Try.f4 false true false false):=by
  refine returnsInHanded_of_change (C:=Try.checked) P6 started (by kernel_rfl) Try.func4
    (ChangeSpec.witness6 (enc:=enc) (C:=Try.checked) false ⟨#[],#[.slice none 0 0],[]⟩ 8 (by kernel_rfl) (by kernel_rfl) (by kernel_rfl) (by kernel_rfl)) ?_
  intro W base args ds gs before hval0 hW hcnd _
  have hval :∀(j:Nat) t v,Try.f4.params[j]?=some t→args[j]?=some v→Value.okWide Try.prog W .any base t v:=hval0
  have hW':=hW
  obtain⟨p,q,hA0,hV,rfl,hfz,hnd⟩:=hW
  have hA:DataW.TrodAll enc Try.prog W 0 (fun _=>true) true Try.f4.params.toList args.toList ds p:=hA0
  rw[Try.params4] at hA hval
  obtain⟨v0,vs0,d0,ds0,p0,q0,hargs,rfl,rfl,h0,r0⟩:=trodAll_cons hA
  obtain⟨rfl,rfl,rfl⟩:=trodAll_nil r0
  obtain rfl:args=#[v0]:=by cases args;simp_all
  obtain⟨rfl,rfl⟩:=trodVars_none hV
  have lt0 :∀x∈p0,x.block < W.heap.size:=by obtain⟨m,hm⟩:=h0;exact DataW.trod_lt m _ _ _ hm
  refine (walk h0 (hval 0 22 v0 rfl rfl)).mono fun e W' ⟨he,bel⟩=>?_
  subst he
  exact⟨_,rfl,_,_,_,[],_,[],hW',trodAll_mk1 (shut_bool Try.underlying4 _),(trodAll_cons_mk (Below.trod Pv (by kernel_rfl) (of_decide_eq_true (by kernel_rfl)) h0 bel lt0) trodAll_mk0),rfl,bel.frame _,fun h=>by cases h⟩

theorem Sk:Rows.fnValidLazyPendingRow.holds Try.pinned (OpenSpec.ofChange Rows.fnValidLazyPendingSpec):=
  OpenClaim.holds_of_wide 4 Try.f4 rfl rfl rfl rfl rfl rfl rfl ⟨rfl,rfl,rfl,rfl,rfl⟩ rfl rfl rfl rfl rfl (by kernel_rfl) Try.func4 closed
    (of_decide_eq_true (by kernel_rfl)) (by unfold Func.isWrapper;rw[if_neg (of_decide_eq_false (by kernel_rfl))];exact⟨rfl,rfl⟩)
    (fun os started H enc _=>lifted os started H enc)

/-- The statement. -/
theorem proved:Rows.FnValidLazyPendingSaid:=Sk
end Go.Proofs.Ythapbpfhdnmboaa.fnValidLazyPending
