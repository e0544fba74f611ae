/- The law FnExactCellOf holds at every argument: it returns true and leaves its arguments as they were. No condition. -/
import Derived.Test.YtfkncfjpobjbjaaTab
import Derived.Test.YtfkncfjpobjbjaaAbsR
import Derived.Test.YtfkncfjpobjbjaaMEI
import Derived.Test.YtfkncfjpobjbjaaCMWalk
set_option linter.all false
namespace Go.Proofs.Ytfkncfjpobjbjaa.fnExactCellOf
open Go Go.Abs RC Go.ChangeShapes Go.WideShapes Go.ChangeAt Go.RowKit
set_option maxRecDepth 100000
theorem Pa:Try.prog.closure 4=[4,5,12,7,14,10,13,18,34,21,35,32,19,23,22,36,43,44,45,46,37,38,47,25,24,33,17,11,15,26,27,39,48,40,28,29,20,31,42,30,41,49,51,50,9,16]:=by rw[GQ Mr];kernel_rfl
theorem Qw:Try.prog.unfollowed 4=true:=by unfold Program.unfollowed;rw[Pa];kernel_rfl
theorem Ri:Try.prog.recurses 4=true:=KE Qw
theorem RP:Try.prog.inPlace 4=[]:=by unfold Program.inPlace;rw[Pa];kernel_rfl
theorem Rk:Try.prog.varsNamed 4=[]:=by unfold Program.varsNamed;rw[Pa];kernel_rfl
theorem closed:joinedFacts Try.prog 4 Try.f4 Rows.fnExactCellOfSpec Rows.fnExactCellOfRow=true:=by
  unfold joinedFacts;rw[RP,Qw,Ri,Rk,NG,LS,OX];kernel_rfl
section
variable {H : Type} {U5 : TypeId × Value -> H} {w : World}
theorem Q2:Rd U5 Try.prog w 3 eI Bh:=Rd.int Try.underlying3
theorem QH:Rd U5 Try.prog w 22 (eS eI) (Fv Bh):=Rd.slice Try.underlying22 (Sq (by kernel_rfl)) Q2
theorem Q1:Rd U5 Try.prog w 24 AS HW:=λfuel cs x h=>by
  obtain⟨hl,n,hf⟩:=Mc Try.underlying24 h;obtain⟨y0,h0⟩:=hf 0 _ rfl;obtain⟨y1,h1⟩:=hf 1 _ rfl;obtain⟨a0,r0,l0,g0⟩:=QH _ _ _ h0;obtain⟨a1,r1,l1,g1⟩:=QH _ _ _ h1;have jW:Try.prog.cellsOf 22=1:=by kernel_rfl
  have jX:Try.prog.cellsOf 24=2:=by kernel_rfl
  simp only[jW,jX]at hl r0 r1
  match cs,hl with
  | [c0,c1],_=>
    refine⟨⟨a0,a1⟩,?_,?_,⟨g0,g1⟩⟩
    · exact He (xs:=(eS eI) a0) (us:=[c0]) r0 (r1)
    · intro c hc;rw[show AS _=(eS eI) a0++(eS eI) a1 from rfl]at hc;simp only[SM]at hc;rcases hc with hc|hc
      · exact l0 c hc
      · exact l1 c hc
end
theorem walk {w:World}{base:Nat}{H:Type}{U5:TypeId×Value->H}{v0:Value}{d0:DataW H}{q0:List MemPlace}{v1:Value}{d1:DataW H}{q1:List MemPlace}(h0:DataW.Trod U5 Try.prog w 0 (λ_=>true) true 24 v0 d0 q0)(h1:DataW.Trod U5 Try.prog w 0 (λ_=>true) true 3 v1 d1 q1)(k0:Value.okWide Try.prog w .any base 24 v0)(k1:Value.okWide Try.prog w .any base 3 v1):
    Calls Try.prog 4 #[v0,v1] w λe w'=>e=.returned (.bool true)/\Below w.heap.size w w':=by
  obtain⟨jY,rfl,_⟩:=okWide_struct Try.underlying24 k0;obtain⟨gf,f0⟩:=h0;obtain⟨a0,r0,_,g0⟩:=Q1 _ _ _ f0;replace r0:=OU r0;obtain⟨bl,f1⟩:=h1;obtain⟨a1,r1,_,g1⟩:=Q2 _ _ _ f1;obtain⟨n1,rfl,_,_,_⟩:=open_int Try.underlying3 k1 ⟨bl,f1⟩;exact AY.law (Fw (Gg g0 g1)) (He (us:=[.agg jY]) r0 r1)
theorem lifted (os:Os)(started:os.Started)(H:Type)(enc:TypeId×Value->H):
    ReturnsInHanded {} Try.checked os 4 .any (Rows.fnExactCellOfSpec.pre6 enc Try.prog Try.f4 Rows.fnExactCellOfRow.domain false) (Rows.fnExactCellOfSpec.post enc Try.prog Try.f4 false true false false):=by
  refine returnsInHanded_of_change (C:=Try.checked) OS started (by kernel_rfl) Try.func4
    (ChangeSpec.witness6 (enc:=enc) (C:=Try.checked) false ⟨#[],#[.agg #[.slice none 0 0,.slice none 0 0],.int .i64 0],[]⟩ 8 (by kernel_rfl) (by kernel_rfl) (by kernel_rfl) (by kernel_rfl)) ?_
  intro W base args ds gs before bm hW jZ _;have X7:∀(j:Nat) t v,Try.f4.params[j]?=some t->args[j]?=some v->Value.okWide Try.prog W .any base t v:=bm;have ja:=hW;obtain⟨p,q,hA0,hV,rfl,hfz,VM⟩:=hW;have hA:DataW.TrodAll enc Try.prog W 0 (λ_=>true) true Try.f4.params.toList args.toList ds p:=hA0;rw[Try.params4]at hA X7;obtain⟨v0,vs0,d0,ds0,p0,q0,Vg,rfl,rfl,h0,r0⟩:=trodAll_cons hA;obtain⟨v1,vs1,d1,ds1,p1,q1,rfl,rfl,rfl,h1,r1⟩:=trodAll_cons r0;obtain⟨rfl,rfl,rfl⟩:=trodAll_nil r1;obtain rfl:args=#[v0,v1]:=by cases args;simp_all
  obtain⟨rfl,rfl⟩:=trodVars_none hV;have jb:∀x∈p0,x.block<W.heap.size:=by obtain⟨m,hm⟩:=h0;exact DataW.trod_lt m _ _ _ hm
  have jc:∀x∈p1,x.block<W.heap.size:=by obtain⟨m,hm⟩:=h1;exact DataW.trod_lt m _ _ _ hm
  refine (walk h0 h1 (X7 0 24 v0 rfl rfl) (X7 1 3 v1 rfl rfl)).mono λe W' ⟨he,bel⟩=>?_;subst he;exact⟨_,rfl,_,_,_,[],_,[],ja,trodAll_mk1 (shut_bool Try.underlying4 _),(trodAll_cons_mk (Below.trod Ke (by kernel_rfl) (Sq (by kernel_rfl)) h0 bel jb) (trodAll_cons_mk (Below.trod Ke (by kernel_rfl) (Sq (by kernel_rfl)) h1 bel jc) trodAll_mk0)),rfl,bel.frame _,λh=>by cases h⟩
theorem RY:Rows.fnExactCellOfRow.holds Try.pinned (OpenSpec.ofChange Rows.fnExactCellOfSpec):=
  OpenClaim.holds_of_wide 4 Try.f4 rfl rfl rfl rfl rfl rfl rfl ⟨rfl,rfl,rfl,rfl,rfl⟩ rfl rfl rfl rfl rfl (by kernel_rfl) Try.func4 closed
    (Sq (by kernel_rfl)) (by unfold Func.isWrapper;rw[R0 (of_decide_eq_false (by kernel_rfl))];exact⟨rfl,rfl⟩)
    (λos started H enc _=>lifted os started H enc)
/-- The statement. -/
theorem proved:Rows.FnExactCellOfSaid:=RY
end Go.Proofs.Ytfkncfjpobjbjaa.fnExactCellOf
