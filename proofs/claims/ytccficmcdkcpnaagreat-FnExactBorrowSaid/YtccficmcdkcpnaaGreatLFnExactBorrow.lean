/- The law FnExactBorrow holds at every argument: it returns true and leaves its arguments as they were. No condition. -/
import Derived.Test.YtccficmcdkcpnaaGreatTab
import Derived.Test.YtccficmcdkcpnaaGreatXRF
import Derived.Test.YtccficmcdkcpnaaGreatSMR
import Derived.Test.YtccficmcdkcpnaaGreatBOWalk
set_option linter.all false
namespace Go.Proofs.YtccficmcdkcpnaaGreat.fnExactBorrow
open Go Go.Abs RC Go.ChangeShapes Go.WideShapes Go.ChangeAt Go.RowKit
set_option maxRecDepth 100000
theorem er:Tryz.prog.closure 4=[4,7,25,66,123,190,124,26,67,125,191,241,272,9,30,74,134,204,135,31,75,136,205,254,275,14,27,68,126,192,108,173,232,175,174,193,70,129,127,113,194,242,243,244,178,233,180,245,234,162,246,235,183,247,195,69,128,42,90,153,214,154,89,71,152,213,91,155,215,216,131,15,21,22,32,76,137,139,138,64,122,65,56,120,96,187,188,185,237,117,104,171,105,172,189,239,240,63,121,44,43,92,156,217,157,94,93,158,159,218,267,45,47,48,95,78,46,33,54,102,103,49,50,97,119,11,36,81,147,211,148,37,82,149,212,266,281,12,38,83,84,39,85,150,13,40,86,87,41,88,151]:=by rw[Pf bF];kernel_rfl
theorem lC:Tryz.prog.unfollowed 4=true:=by unfold Program.unfollowed;rw[er];kernel_rfl
theorem lW:Tryz.prog.recurses 4=true:=WW lC
theorem lK:Tryz.prog.inPlace 4=["slices.overlaps[int]"]:=by unfold Program.inPlace;rw[er];kernel_rfl
theorem mJ:Tryz.prog.varsNamed 4=[]:=by unfold Program.varsNamed;rw[er];kernel_rfl
theorem closed:joinedFacts Tryz.prog 4 Tryz.f4 Rows.fnExactBorrowSpec Rows.fnExactBorrowRow=true:=by
  unfold joinedFacts;rw[lK,lC,lW,mJ,aB,Xv,eJ];kernel_rfl
section
variable {H : Type} {encH : TypeId × Value -> H} {w : World}
theorem fk:Rd encH Tryz.prog w 3 eI Ji:=Rd.int Tryz.underlying3
theorem cU:Rd encH Tryz.prog w 45 (eS eI) (Ep Ji):=Rd.slice Tryz.underlying45 (nh (by kernel_rfl)) fk
theorem jy:Rd encH Tryz.prog w 215 BR Sp:=λfuel cs x h=>by
  obtain⟨hl,n,hf⟩:=Mg Tryz.underlying215 h;obtain⟨y0,h0⟩:=hf 0 _ rfl;obtain⟨a0,r0,l0,g0⟩:=cU _ _ _ h0;have e45:Tryz.prog.cellsOf 45=1:=by kernel_rfl
  have e215:Tryz.prog.cellsOf 215=1:=by kernel_rfl
  simp only[e45,e215]at hl r0
  match cs,hl with
  | [c0],_=>
    refine⟨⟨a0⟩,?_,?_,⟨g0⟩⟩
    · exact r0
    · intro c hc;rw[show BR _=(eS eI) a0 from rfl]at hc;exact l0 c hc
theorem kJ:Rd encH Tryz.prog w 108 (eS BR) (Ep Sp):=Rd.slice Tryz.underlying108 (nh (by kernel_rfl)) jy
theorem kM:Rd encH Tryz.prog w 110 Ak PE:=λfuel cs x h=>by
  obtain⟨hl,n,hf⟩:=Mg Tryz.underlying110 h;obtain⟨y0,h0⟩:=hf 0 _ rfl;obtain⟨y1,h1⟩:=hf 1 _ rfl;obtain⟨y2,h2⟩:=hf 2 _ rfl;obtain⟨a0,r0,l0,g0⟩:=fk _ _ _ h0;obtain⟨a1,r1,l1,g1⟩:=fk _ _ _ h1;obtain⟨a2,r2,l2,g2⟩:=kJ _ _ _ h2;have e3:Tryz.prog.cellsOf 3=1:=by kernel_rfl
  have e108:Tryz.prog.cellsOf 108=1:=by kernel_rfl
  have e110:Tryz.prog.cellsOf 110=3:=by kernel_rfl
  simp only[e3,e108,e110]at hl r0 r1 r2
  match cs,hl with
  | [c0,c1,c2],_=>
    refine⟨⟨a0,a1,a2⟩,?_,?_,⟨g0,g1,g2⟩⟩
    · exact FF (xs:=eI a0) (us:=[c0]) r0 (FF (xs:=eI a1) (us:=[c1]) r1 (r2))
    · intro c hc;rw[show Ak _=eI a0++eI a1++(eS BR) a2 from rfl]at hc;simp only[nM]at hc;rcases hc with (hc|hc)|hc
      · exact l0 c hc
      · exact l1 c hc
      · exact l2 c hc
theorem lI:Rd encH Tryz.prog w 22 (eS Ak) (Ep PE):=Rd.slice Tryz.underlying22 (nh (by kernel_rfl)) kM
theorem kf:NH encH Tryz.prog w 114 [112,3]:=by
  have h:=NH.mk (encH:=encH) (w:=w) Tryz.underlying114 (by kernel_rfl) (λi f h=>by
    match i,h with
    | 0,h=>cases h;exact⟨rfl,by kernel_rfl⟩
    | 1,h=>cases h;exact⟨rfl,by kernel_rfl⟩
    | i+2,h=>simp at h)
  exact h
theorem ju:NH encH Tryz.prog w 248 [3,3,3,45,246]:=by
  have h:=NH.mk (encH:=encH) (w:=w) Tryz.underlying248 (by kernel_rfl) (λi f h=>by
    match i,h with
    | 0,h=>cases h;exact⟨rfl,by kernel_rfl⟩
    | 1,h=>cases h;exact⟨rfl,by kernel_rfl⟩
    | 2,h=>cases h;exact⟨rfl,by kernel_rfl⟩
    | 3,h=>cases h;exact⟨rfl,by kernel_rfl⟩
    | 4,h=>cases h;exact⟨rfl,by kernel_rfl⟩
    | i+5,h=>simp at h)
  exact h
theorem jk:Rd encH Tryz.prog w 114 Bg JA:=Rd.block kf ju Tryz.underlying112 Tryz.underlying246 (nh (by kernel_rfl)) (nh (by kernel_rfl)) fk cU
theorem kZ:Rd encH Tryz.prog w 116 Ah Kw:=λfuel cs x h=>by
  obtain⟨hl,n,hf⟩:=Mg Tryz.underlying116 h;obtain⟨y0,h0⟩:=hf 0 _ rfl;obtain⟨y1,h1⟩:=hf 1 _ rfl;obtain⟨y2,h2⟩:=hf 2 _ rfl;obtain⟨y3,h3⟩:=hf 3 _ rfl;obtain⟨a0,r0,l0,g0⟩:=cU _ _ _ h0;obtain⟨a1,r1,l1,g1⟩:=cU _ _ _ h1;obtain⟨a2,r2,l2,g2⟩:=fk _ _ _ h2;obtain⟨a3,r3,l3,g3⟩:=jk _ _ _ h3;have e3:Tryz.prog.cellsOf 3=1:=by kernel_rfl
  have e45:Tryz.prog.cellsOf 45=1:=by kernel_rfl
  have e114:Tryz.prog.cellsOf 114=2:=by kernel_rfl
  have e116:Tryz.prog.cellsOf 116=5:=by kernel_rfl
  simp only[e3,e45,e114,e116]at hl r0 r1 r2 r3
  match cs,hl with
  | [c0,c1,c2,c3,c4],_=>
    refine⟨⟨a0,a1,a2,a3⟩,?_,?_,⟨g0,g1,g2,g3⟩⟩
    · exact FF (xs:=(eS eI) a0) (us:=[c0]) r0 (FF (xs:=(eS eI) a1) (us:=[c1]) r1 (FF (xs:=eI a2) (us:=[c2]) r2 (r3)))
    · intro c hc;rw[show Ah _=(eS eI) a0++(eS eI) a1++eI a2++Bg a3 from rfl]at hc;simp only[nM]at hc;rcases hc with ((hc|hc)|hc)|hc
      · exact l0 c hc
      · exact l1 c hc
      · exact l2 c hc
      · exact l3 c hc
theorem lS:Rd encH Tryz.prog w 23 (eS Ah) (Ep Kw):=Rd.slice Tryz.underlying23 (nh (by kernel_rfl)) kZ
theorem lE:Rd encH Tryz.prog w 25 XS OD:=λfuel cs x h=>by
  obtain⟨hl,n,hf⟩:=Mg Tryz.underlying25 h;obtain⟨y0,h0⟩:=hf 0 _ rfl;obtain⟨y1,h1⟩:=hf 1 _ rfl;obtain⟨a0,r0,l0,g0⟩:=lI _ _ _ h0;obtain⟨a1,r1,l1,g1⟩:=lS _ _ _ h1;have e22:Tryz.prog.cellsOf 22=1:=by kernel_rfl
  have e23:Tryz.prog.cellsOf 23=1:=by kernel_rfl
  have e25:Tryz.prog.cellsOf 25=2:=by kernel_rfl
  simp only[e22,e23,e25]at hl r0 r1
  match cs,hl with
  | [c0,c1],_=>
    refine⟨⟨a0,a1⟩,?_,?_,⟨g0,g1⟩⟩
    · exact FF (xs:=(eS Ak) a0) (us:=[c0]) r0 (r1)
    · intro c hc;rw[show XS _=(eS Ak) a0++(eS Ah) a1 from rfl]at hc;simp only[nM]at hc;rcases hc with hc|hc
      · exact l0 c hc
      · exact l1 c hc
end
theorem walk {w:World}{base:Nat}{H:Type}{encH:TypeId×Value->H}{v0:Value}{d0:DataW H}{q0:List MemPlace}(h0:DataW.Trod encH Tryz.prog w 0 (λ_=>true) true 25 v0 d0 q0)(k0:Value.okWide Tryz.prog w .any base 25 v0):
    Calls Tryz.prog 4 #[v0] w λe w'=>e=.returned (.bool true)/\Below w.heap.size w w':=by
  obtain⟨cs0,rfl,_⟩:=okWide_struct Tryz.underlying25 k0;obtain⟨fuel0,f0⟩:=h0;obtain⟨a0,r0,_,g0⟩:=lE _ _ _ f0;replace r0:=dG r0;exact BJ.law (N4 (Px g0)) (r0)
theorem lifted (os:Os)(started:os.Started)(H:Type)(enc:TypeId×Value->H):
    ReturnsInHanded {} Tryz.checked os 4 .any (Rows.fnExactBorrowSpec.pre6 enc Tryz.prog Tryz.f4 Rows.fnExactBorrowRow.domain false) (Rows.fnExactBorrowSpec.post enc Tryz.prog Tryz.f4 false true false false):=by
  refine returnsInHanded_of_change (C:=Tryz.checked) dO started (by kernel_rfl) Tryz.func4
    (ChangeSpec.witness6 (enc:=enc) (C:=Tryz.checked) false ⟨#[],#[.agg #[.slice none 0 0,.slice none 0 0]],[]⟩ 8 (by kernel_rfl) (by kernel_rfl) (by kernel_rfl) (by kernel_rfl)) ?_
  intro W base args ds gs before hval0 hW hcnd _;have xX:∀(j:Nat) t v,Tryz.f4.params[j]?=some t->args[j]?=some v->Value.okWide Tryz.prog W .any base t v:=hval0;have hW':=hW;obtain⟨p,q,hA0,hV,rfl,hfz,tX⟩:=hW;have hA:DataW.TrodAll enc Tryz.prog W 0 (λ_=>true) true Tryz.f4.params.toList args.toList ds p:=hA0;rw[Tryz.params4]at hA xX;obtain⟨v0,vs0,d0,ds0,p0,q0,sS,rfl,rfl,h0,r0⟩:=trodAll_cons hA;obtain⟨rfl,rfl,rfl⟩:=trodAll_nil r0;obtain rfl:args=#[v0]:=by cases args;simp_all
  obtain⟨rfl,rfl⟩:=trodVars_none hV;have lt0:∀x∈p0,x.block<W.heap.size:=by obtain⟨m,hm⟩:=h0;exact DataW.trod_lt m _ _ _ hm
  refine (walk h0 (xX 0 25 v0 rfl rfl)).mono λe W' ⟨he,bel⟩=>?_;subst he;exact⟨_,rfl,_,_,_,[],_,[],hW',trodAll_mk1 (shut_bool Tryz.underlying4 _),(trodAll_cons_mk (Below.trod dm (by kernel_rfl) (nh (by kernel_rfl)) h0 bel lt0) trodAll_mk0),rfl,bel.frame _,λh=>by cases h⟩
theorem lT:Rows.fnExactBorrowRow.holds Tryz.pinned (OpenSpec.ofChange Rows.fnExactBorrowSpec):=
  OpenClaim.holds_of_wide 4 Tryz.f4 rfl rfl rfl rfl rfl rfl rfl ⟨rfl,rfl,rfl,rfl,rfl⟩ rfl rfl rfl rfl rfl (by kernel_rfl) Tryz.func4 closed
    (nh (by kernel_rfl)) (by unfold Func.isWrapper;rw[mj (pg (by kernel_rfl))];exact⟨rfl,rfl⟩)
    (λos started H enc _=>lifted os started H enc)
/-- The statement. -/
theorem proved:Rows.FnExactBorrowSaid:=lT
end Go.Proofs.YtccficmcdkcpnaaGreat.fnExactBorrow
