/- The law FnExactCountLate holds at every argument: it returns true and leaves its arguments as they were. No condition. -/
import Derived.Test.YtgiajkaabnbieaaGreatTab
import Derived.Test.YtgiajkaabnbieaaGreatXPE
import Derived.Test.YtgiajkaabnbieaaGreatSMR
import Derived.Test.YtgiajkaabnbieaaGreatCTWalk
set_option linter.all false
namespace Go.Proofs.YtgiajkaabnbieaaGreat.fnExactCountLate
open Go Go.Abs RC Go.ChangeShapes Go.WideShapes Go.ChangeAt Go.RowKit
set_option maxRecDepth 100000
theorem fy:Tryz.prog.closure 3=[3,4,11,32,67,111,68,12,33,69,112,143,153,6,16,41,81,131,82,17,42,83,132,150,155,5,13,34,70,114,113,144,154,145,117,115,36,73,71,74,75,118,119,120,121,146,122,123,128,130,124,147,125,126,116,35,72,15,37,40,80,39,77,127,148,149,76,79,78,129,38,14,7,18,43,19,45,88,90,89,58,105,84,47,57,87,102,103,100,137,54,98,135,99,136,104,139,140,44,86,85,21,22,48,23,49,93,133,94,51,50,95,96,134,151,24,52,97,53,55,101,138,56,20,46,91,92,25,8,26,59,106,141,107,27,60,108,142,152,156,9,28,61,62,29,63,109,10,30,64,65,31,66,110]:=by rw[Pq bG];kernel_rfl
theorem lW:Tryz.prog.unfollowed 3=true:=by unfold Program.unfollowed;rw[fy];kernel_rfl
theorem lF:Tryz.prog.recurses 3=true:=XI lW
theorem lU:Tryz.prog.inPlace 3=["slices.overlaps[int]"]:=by unfold Program.inPlace;rw[fy];kernel_rfl
theorem lu:Tryz.prog.varsNamed 3=[]:=by unfold Program.varsNamed;rw[fy];kernel_rfl
theorem closed:joinedFacts Tryz.prog 3 Tryz.f3 Rows.fnExactCountLateSpec Rows.fnExactCountLateRow=true:=by
  unfold joinedFacts;rw[lU,lW,lF,lu,bu,YW,dw];kernel_rfl
section
variable {H : Type} {encH : TypeId × Value -> H} {w : World}
theorem gM:Rd encH Tryz.prog w 3 eI KZ:=Rd.int Tryz.underlying3
theorem cQ:Rd encH Tryz.prog w 49 (eS eI) (FO KZ):=Rd.slice Tryz.underlying49 (nQ (by kernel_rfl)) gM
theorem kO:Rd encH Tryz.prog w 147 Bv S9:=λfuel cs x h=>by
  obtain⟨hl,n,hf⟩:=Ns Tryz.underlying147 h;obtain⟨y0,h0⟩:=hf 0 _ rfl;obtain⟨a0,r0,l0,g0⟩:=cQ _ _ _ h0;have e49:Tryz.prog.cellsOf 49=1:=by kernel_rfl
  have e147:Tryz.prog.cellsOf 147=1:=by kernel_rfl
  simp only[e49,e147]at hl r0
  match cs,hl with
  | [c0],_=>
    refine⟨⟨a0⟩,?_,?_,⟨g0⟩⟩
    · exact r0
    · intro c hc;rw[show Bv _=(eS eI) a0 from rfl]at hc;exact l0 c hc
theorem lS:Rd encH Tryz.prog w 66 (eS Bv) (FO S9):=Rd.slice Tryz.underlying66 (nQ (by kernel_rfl)) kO
theorem lK:Rd encH Tryz.prog w 68 Am Py:=λfuel cs x h=>by
  obtain⟨hl,n,hf⟩:=Ns Tryz.underlying68 h;obtain⟨y0,h0⟩:=hf 0 _ rfl;obtain⟨y1,h1⟩:=hf 1 _ rfl;obtain⟨y2,h2⟩:=hf 2 _ rfl;obtain⟨a0,r0,l0,g0⟩:=gM _ _ _ h0;obtain⟨a1,r1,l1,g1⟩:=gM _ _ _ h1;obtain⟨a2,r2,l2,g2⟩:=lS _ _ _ h2;have e3:Tryz.prog.cellsOf 3=1:=by kernel_rfl
  have e66:Tryz.prog.cellsOf 66=1:=by kernel_rfl
  have e68:Tryz.prog.cellsOf 68=3:=by kernel_rfl
  simp only[e3,e66,e68]at hl r0 r1 r2
  match cs,hl with
  | [c0,c1,c2],_=>
    refine⟨⟨a0,a1,a2⟩,?_,?_,⟨g0,g1,g2⟩⟩
    · exact Ft (xs:=eI a0) (us:=[c0]) r0 (Ft (xs:=eI a1) (us:=[c1]) r1 (r2))
    · intro c hc;rw[show Am _=eI a0++eI a1++(eS Bv) a2 from rfl]at hc;simp only[my]at hc;rcases hc with (hc|hc)|hc
      · exact l0 c hc
      · exact l1 c hc
      · exact l2 c hc
theorem lD:Rd encH Tryz.prog w 22 (eS Am) (FO Py):=Rd.slice Tryz.underlying22 (nQ (by kernel_rfl)) lK
theorem lk:N9 encH Tryz.prog w 72 [70,3]:=by
  have h:=N9.mk (encH:=encH) (w:=w) Tryz.underlying72 (by kernel_rfl) (λi f h=>by
    match i,h with
    | 0,h=>cases h;exact⟨rfl,by kernel_rfl⟩
    | 1,h=>cases h;exact⟨rfl,by kernel_rfl⟩
    | i+2,h=>simp at h)
  exact h
theorem kP:N9 encH Tryz.prog w 173 [3,3,3,49,171]:=by
  have h:=N9.mk (encH:=encH) (w:=w) Tryz.underlying173 (by kernel_rfl) (λi f h=>by
    match i,h with
    | 0,h=>cases h;exact⟨rfl,by kernel_rfl⟩
    | 1,h=>cases h;exact⟨rfl,by kernel_rfl⟩
    | 2,h=>cases h;exact⟨rfl,by kernel_rfl⟩
    | 3,h=>cases h;exact⟨rfl,by kernel_rfl⟩
    | 4,h=>cases h;exact⟨rfl,by kernel_rfl⟩
    | i+5,h=>simp at h)
  exact h
theorem lO:Rd encH Tryz.prog w 72 Bq Jz:=Rd.block lk kP Tryz.underlying70 Tryz.underlying171 (nQ (by kernel_rfl)) (nQ (by kernel_rfl)) gM cQ
theorem lB:Rd encH Tryz.prog w 74 Aj MN:=λfuel cs x h=>by
  obtain⟨hl,n,hf⟩:=Ns Tryz.underlying74 h;obtain⟨y0,h0⟩:=hf 0 _ rfl;obtain⟨y1,h1⟩:=hf 1 _ rfl;obtain⟨y2,h2⟩:=hf 2 _ rfl;obtain⟨y3,h3⟩:=hf 3 _ rfl;obtain⟨a0,r0,l0,g0⟩:=cQ _ _ _ h0;obtain⟨a1,r1,l1,g1⟩:=cQ _ _ _ h1;obtain⟨a2,r2,l2,g2⟩:=gM _ _ _ h2;obtain⟨a3,r3,l3,g3⟩:=lO _ _ _ h3;have e3:Tryz.prog.cellsOf 3=1:=by kernel_rfl
  have e49:Tryz.prog.cellsOf 49=1:=by kernel_rfl
  have e72:Tryz.prog.cellsOf 72=2:=by kernel_rfl
  have e74:Tryz.prog.cellsOf 74=5:=by kernel_rfl
  simp only[e3,e49,e72,e74]at hl r0 r1 r2 r3
  match cs,hl with
  | [c0,c1,c2,c3,c4],_=>
    refine⟨⟨a0,a1,a2,a3⟩,?_,?_,⟨g0,g1,g2,g3⟩⟩
    · exact Ft (xs:=(eS eI) a0) (us:=[c0]) r0 (Ft (xs:=(eS eI) a1) (us:=[c1]) r1 (Ft (xs:=eI a2) (us:=[c2]) r2 (r3)))
    · intro c hc;rw[show Aj _=(eS eI) a0++(eS eI) a1++eI a2++Bq a3 from rfl]at hc;simp only[my]at hc;rcases hc with ((hc|hc)|hc)|hc
      · exact l0 c hc
      · exact l1 c hc
      · exact l2 c hc
      · exact l3 c hc
theorem lC:Rd encH Tryz.prog w 23 (eS Aj) (FO MN):=Rd.slice Tryz.underlying23 (nQ (by kernel_rfl)) lB
theorem lZ:Rd encH Tryz.prog w 25 Xv PK:=λfuel cs x h=>by
  obtain⟨hl,n,hf⟩:=Ns Tryz.underlying25 h;obtain⟨y0,h0⟩:=hf 0 _ rfl;obtain⟨y1,h1⟩:=hf 1 _ rfl;obtain⟨a0,r0,l0,g0⟩:=lD _ _ _ h0;obtain⟨a1,r1,l1,g1⟩:=lC _ _ _ h1;have e22:Tryz.prog.cellsOf 22=1:=by kernel_rfl
  have e23:Tryz.prog.cellsOf 23=1:=by kernel_rfl
  have e25:Tryz.prog.cellsOf 25=2:=by kernel_rfl
  simp only[e22,e23,e25]at hl r0 r1
  match cs,hl with
  | [c0,c1],_=>
    refine⟨⟨a0,a1⟩,?_,?_,⟨g0,g1⟩⟩
    · exact Ft (xs:=(eS Am) a0) (us:=[c0]) r0 (r1)
    · intro c hc;rw[show Xv _=(eS Am) a0++(eS Aj) a1 from rfl]at hc;simp only[my]at hc;rcases hc with hc|hc
      · exact l0 c hc
      · exact l1 c hc
end
theorem walk {w:World}{base:Nat}{H:Type}{encH:TypeId×Value->H}{v0:Value}{d0:DataW H}{q0:List MemPlace}(h0:DataW.Trod encH Tryz.prog w 0 (λ_=>true) true 25 v0 d0 q0)(k0:Value.okWide Tryz.prog w .any base 25 v0):
    Calls Tryz.prog 3 #[v0] w λe w'=>e=.returned (.bool true)/\Below w.heap.size w w':=by
  obtain⟨cs0,rfl,_⟩:=okWide_struct Tryz.underlying25 k0;obtain⟨fuel0,f0⟩:=h0;obtain⟨a0,r0,_,g0⟩:=lZ _ _ _ f0;replace r0:=dx r0;exact AS.law (Nf (On g0)) (r0)
theorem lifted (os:Os)(started:os.Started)(H:Type)(enc:TypeId×Value->H):
    ReturnsInHanded {} Tryz.checked os 3 .any (Rows.fnExactCountLateSpec.pre6 enc Tryz.prog Tryz.f3 Rows.fnExactCountLateRow.domain false) (Rows.fnExactCountLateSpec.post enc Tryz.prog Tryz.f3 false true false false):=by
  refine returnsInHanded_of_change (C:=Tryz.checked) dI started (by kernel_rfl) Tryz.func3
    (ChangeSpec.witness6 (enc:=enc) (C:=Tryz.checked) false ⟨#[],#[.agg #[.slice none 0 0,.slice none 0 0]],[]⟩ 8 (by kernel_rfl) (by kernel_rfl) (by kernel_rfl) (by kernel_rfl)) ?_
  intro W base args ds gs before hval0 hW hcnd _;have xX:∀(j:Nat) t v,Tryz.f3.params[j]?=some t->args[j]?=some v->Value.okWide Tryz.prog W .any base t v:=hval0;have hW':=hW;obtain⟨p,q,hA0,hV,rfl,hfz,sy⟩:=hW;have hA:DataW.TrodAll enc Tryz.prog W 0 (λ_=>true) true Tryz.f3.params.toList args.toList ds p:=hA0;rw[Tryz.params3]at hA xX;obtain⟨v0,vs0,d0,ds0,p0,q0,sI,rfl,rfl,h0,r0⟩:=trodAll_cons hA;obtain⟨rfl,rfl,rfl⟩:=trodAll_nil r0;obtain rfl:args=#[v0]:=by cases args;simp_all
  obtain⟨rfl,rfl⟩:=trodVars_none hV;have lt0:∀x∈p0,x.block<W.heap.size:=by obtain⟨m,hm⟩:=h0;exact DataW.trod_lt m _ _ _ hm
  refine (walk h0 (xX 0 25 v0 rfl rfl)).mono λe W' ⟨he,bel⟩=>?_;subst he;exact⟨_,rfl,_,_,_,[],_,[],hW',trodAll_mk1 (shut_bool Tryz.underlying4 _),(trodAll_cons_mk (Below.trod eD (by kernel_rfl) (nQ (by kernel_rfl)) h0 bel lt0) trodAll_mk0),rfl,bel.frame _,λh=>by cases h⟩
theorem lh:Rows.fnExactCountLateRow.holds Tryz.pinned (OpenSpec.ofChange Rows.fnExactCountLateSpec):=
  OpenClaim.holds_of_wide 3 Tryz.f3 rfl rfl rfl rfl rfl rfl rfl ⟨rfl,rfl,rfl,rfl,rfl⟩ rfl rfl rfl rfl rfl (by kernel_rfl) Tryz.func3 closed
    (nQ (by kernel_rfl)) (by unfold Func.isWrapper;rw[mJ (pc (by kernel_rfl))];exact⟨rfl,rfl⟩)
    (λos started H enc _=>lifted os started H enc)
/-- The statement. -/
theorem proved:Rows.FnExactCountLateSaid:=lh
end Go.Proofs.YtgiajkaabnbieaaGreat.fnExactCountLate
