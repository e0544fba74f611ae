/- The law FnExactValidMemory holds at every argument: it returns true and leaves its arguments as they were. No condition. -/
import Derived.Test.YtfkncfjpobjbjaaTab
import Derived.Test.YtfkncfjpobjbjaaAbsR
import Derived.Test.YtfkncfjpobjbjaaMEH
import Derived.Test.YtfkncfjpobjbjaaVMWalk
set_option linter.all false
namespace Go.Proofs.Ytfkncfjpobjbjaa.fnExactValidMemory
open Go Go.Abs RC Go.ChangeShapes Go.WideShapes Go.ChangeAt Go.RowKit
set_option maxRecDepth 100000
theorem Ox:Try.prog.closure 3=[3,5,12,7,14,6,13,18,34,21,35,32,19,23,22,36,43,44,45,46,37,38,47,25,24,33,8,15,26,27,39,48,40,28,29,20,31,42,30,41,49,51,50,9,16]:=by rw[Ge Nc];kernel_rfl
theorem Q3:Try.prog.unfollowed 3=true:=by unfold Program.unfollowed;rw[Ox];kernel_rfl
theorem Qo:Try.prog.recurses 3=true:=KB Q3
theorem RM:Try.prog.inPlace 3=[]:=by unfold Program.inPlace;rw[Ox];kernel_rfl
theorem Rj:Try.prog.varsNamed 3=[]:=by unfold Program.varsNamed;rw[Ox];kernel_rfl
theorem closed:joinedFacts Try.prog 3 Try.f3 Rows.fnExactValidMemorySpec Rows.fnExactValidMemoryRow=true:=by
  unfold joinedFacts;rw[RM,Q3,Qo,Rj,Mx,Lo,OP];kernel_rfl
section
variable {H : Type} {U9 : TypeId × Value -> H} {w : World}
theorem Rh:Rd U9 Try.prog w 3 eI Bl:=Rd.int Try.underlying3
theorem QF:Rd U9 Try.prog w 22 (eS eI) (Fa Bl):=Rd.slice Try.underlying22 (Sv (by kernel_rfl)) Rh
theorem RU:Rd U9 Try.prog w 24 AS HJ:=λfuel cs x h=>by
  obtain⟨hl,n,hf⟩:=Ma Try.underlying24 h;obtain⟨y0,h0⟩:=hf 0 _ rfl;obtain⟨y1,h1⟩:=hf 1 _ rfl;obtain⟨a0,r0,l0,g0⟩:=QF _ _ _ h0;obtain⟨a1,r1,l1,g1⟩:=QF _ _ _ h1;have jO:Try.prog.cellsOf 22=1:=by kernel_rfl
  have jP:Try.prog.cellsOf 24=2:=by kernel_rfl
  simp only[jO,jP]at hl r0 r1
  match cs,hl with
  | [c0,c1],_=>
    refine⟨⟨a0,a1⟩,?_,?_,⟨g0,g1⟩⟩
    · exact Lq (xs:=(eS eI) a0) (us:=[c0]) r0 (r1)
    · intro c hc;rw[show AS _=(eS eI) a0++(eS eI) a1 from rfl]at hc;simp only[SI]at hc;rcases hc with hc|hc
      · exact l0 c hc
      · exact l1 c hc
end
theorem walk {w:World}{base:Nat}{H:Type}{U9:TypeId×Value->H}{v0:Value}{d0:DataW H}{q0:List MemPlace}(h0:DataW.Trod U9 Try.prog w 0 (λ_=>true) true 24 v0 d0 q0)(k0:Value.okWide Try.prog w .any base 24 v0):
    Calls Try.prog 3 #[v0] w λe w'=>e=.returned (.bool true)/\Below w.heap.size w w':=by
  obtain⟨kJ,rfl,_⟩:=okWide_struct Try.underlying24 k0;obtain⟨gS,f0⟩:=h0;obtain⟨a0,r0,_,g0⟩:=RU _ _ _ f0;replace r0:=N6 r0;exact AY.law (Ea (Ex g0)) (r0)
theorem lifted (os:Os)(started:os.Started)(H:Type)(enc:TypeId×Value->H):
    ReturnsInHanded {} Try.checked os 3 .any (Rows.fnExactValidMemorySpec.pre6 enc Try.prog Try.f3 Rows.fnExactValidMemoryRow.domain false) (Rows.fnExactValidMemorySpec.post enc Try.prog Try.f3 false true false false):=by
  refine returnsInHanded_of_change (C:=Try.checked) OQ started (by kernel_rfl) Try.func3
    (ChangeSpec.witness6 (enc:=enc) (C:=Try.checked) false ⟨#[],#[.agg #[.slice none 0 0,.slice none 0 0]],[]⟩ 8 (by kernel_rfl) (by kernel_rfl) (by kernel_rfl) (by kernel_rfl)) ?_
  intro W base args ds gs before bf hW jQ _;have Yk:∀(j:Nat) t v,Try.f3.params[j]?=some t->args[j]?=some v->Value.okWide Try.prog W .any base t v:=bf;have jR:=hW;obtain⟨p,q,hA0,hV,rfl,hfz,VF⟩:=hW;have hA:DataW.TrodAll enc Try.prog W 0 (λ_=>true) true Try.f3.params.toList args.toList ds p:=hA0;rw[Try.params3]at hA Yk;obtain⟨v0,vs0,d0,ds0,p0,q0,VZ,rfl,rfl,h0,r0⟩:=trodAll_cons hA;obtain⟨rfl,rfl,rfl⟩:=trodAll_nil r0;obtain rfl:args=#[v0]:=by cases args;simp_all
  obtain⟨rfl,rfl⟩:=trodVars_none hV;have jS:∀x∈p0,x.block<W.heap.size:=by obtain⟨m,hm⟩:=h0;exact DataW.trod_lt m _ _ _ hm
  refine (walk h0 (Yk 0 24 v0 rfl rfl)).mono λe W' ⟨he,bel⟩=>?_;subst he;exact⟨_,rfl,_,_,_,[],_,[],jR,trodAll_mk1 (shut_bool Try.underlying4 _),(trodAll_cons_mk (Below.trod N9 (by kernel_rfl) (Sv (by kernel_rfl)) h0 bel jS) trodAll_mk0),rfl,bel.frame _,λh=>by cases h⟩
theorem RE:Rows.fnExactValidMemoryRow.holds Try.pinned (OpenSpec.ofChange Rows.fnExactValidMemorySpec):=
  OpenClaim.holds_of_wide 3 Try.f3 rfl rfl rfl rfl rfl rfl rfl ⟨rfl,rfl,rfl,rfl,rfl⟩ rfl rfl rfl rfl rfl (by kernel_rfl) Try.func3 closed
    (Sv (by kernel_rfl)) (by unfold Func.isWrapper;rw[Rx (of_decide_eq_false (by kernel_rfl))];exact⟨rfl,rfl⟩)
    (λos started H enc _=>lifted os started H enc)
/-- The statement. -/
theorem proved:Rows.FnExactValidMemorySaid:=RE
end Go.Proofs.Ytfkncfjpobjbjaa.fnExactValidMemory
