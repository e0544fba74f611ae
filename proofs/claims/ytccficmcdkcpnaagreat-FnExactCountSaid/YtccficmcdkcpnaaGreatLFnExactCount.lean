/- The law FnExactCount holds at every argument: it returns true and leaves its arguments as they were. No condition. -/
import Derived.Test.YtccficmcdkcpnaaGreatTab
import Derived.Test.YtccficmcdkcpnaaGreatXQI
import Derived.Test.YtccficmcdkcpnaaGreatSMR
import Derived.Test.YtccficmcdkcpnaaGreatCNWalk
set_option linter.all false
namespace Go.Proofs.YtccficmcdkcpnaaGreat.fnExactCount
open Go Go.Abs RC Go.ChangeShapes Go.WideShapes Go.ChangeAt Go.RowKit
set_option maxRecDepth 100000
theorem pF:Tryz.prog.closure 3=[3,7,25,66,123,190,124,26,67,125,191,241,272,9,30,74,134,204,135,31,75,136,205,254,275,8,27,68,126,192,108,173,232,175,174,193,70,129,127,113,194,242,243,244,178,233,180,245,234,162,246,235,183,247,195,69,128,29,71,73,130,196,248,249,131,132,197,198,250,215,216,251,273,133,203,199,252,274,200,253,202,201,72,28,10,21,22,32,76,137,139,138,64,122,65,56,120,96,187,188,185,237,117,104,171,105,172,189,239,240,63,121,44,34,77,141,140,206,142,208,263,264,207,255,156,217,256,276,257,277,278,258,279,280,291,259,260,261,262,143,61,115,78,92,157,43,94,93,158,159,218,267,79,80,144,145,209,46,119,146,116,95,210,265,33,54,102,103,35,11,36,81,147,211,148,37,82,149,212,266,281,12,38,83,84,39,85,150,13,40,86,87,41,88,151]:=by rw[TQ jK];kernel_rfl
theorem tY:Tryz.prog.unfollowed 3=true:=by unfold Program.unfollowed;rw[pF];kernel_rfl
theorem tl:Tryz.prog.recurses 3=true:=bG tY
theorem tV:Tryz.prog.inPlace 3=["slices.overlaps[int]"]:=by unfold Program.inPlace;rw[pF];kernel_rfl
theorem tv:Tryz.prog.varsNamed 3=[]:=by unfold Program.varsNamed;rw[pF];kernel_rfl
theorem closed:joinedFacts Tryz.prog 3 Tryz.f3 Rows.fnExactCountSpec Rows.fnExactCountRow=true:=by
  unfold joinedFacts;rw[tV,tY,tl,tv,iY,dt,lj];kernel_rfl
section
variable {H : Type} {encH : TypeId × Value -> H} {w : World}
theorem nd:Rd encH Tryz.prog w 3 eI Mm:=Rd.int Tryz.underlying3
theorem jr:Rd encH Tryz.prog w 45 (eS eI) (F7 Mm):=Rd.slice Tryz.underlying45 (vm (by kernel_rfl)) nd
theorem sN:Rd encH Tryz.prog w 215 By Vh:=λfuel cs x h=>by
  obtain⟨hl,n,hf⟩:=QF Tryz.underlying215 h;obtain⟨y0,h0⟩:=hf 0 _ rfl;obtain⟨a0,r0,l0,g0⟩:=jr _ _ _ h0;have e45:Tryz.prog.cellsOf 45=1:=by kernel_rfl
  have e215:Tryz.prog.cellsOf 215=1:=by kernel_rfl
  simp only[e45,e215]at hl r0
  match cs,hl with
  | [c0],_=>
    refine⟨⟨a0⟩,?_,?_,⟨g0⟩⟩
    · exact r0
    · intro c hc;rw[show By _=(eS eI) a0 from rfl]at hc;exact l0 c hc
theorem sd:Rd encH Tryz.prog w 108 (eS By) (F7 Vh):=Rd.slice Tryz.underlying108 (vm (by kernel_rfl)) sN
theorem sZ:Rd encH Tryz.prog w 110 Ai TV:=λfuel cs x h=>by
  obtain⟨hl,n,hf⟩:=QF Tryz.underlying110 h;obtain⟨y0,h0⟩:=hf 0 _ rfl;obtain⟨y1,h1⟩:=hf 1 _ rfl;obtain⟨y2,h2⟩:=hf 2 _ rfl;obtain⟨a0,r0,l0,g0⟩:=nd _ _ _ h0;obtain⟨a1,r1,l1,g1⟩:=nd _ _ _ h1;obtain⟨a2,r2,l2,g2⟩:=sd _ _ _ h2;have e3:Tryz.prog.cellsOf 3=1:=by kernel_rfl
  have e108:Tryz.prog.cellsOf 108=1:=by kernel_rfl
  have e110:Tryz.prog.cellsOf 110=3:=by kernel_rfl
  simp only[e3,e108,e110]at hl r0 r1 r2
  match cs,hl with
  | [c0,c1,c2],_=>
    refine⟨⟨a0,a1,a2⟩,?_,?_,⟨g0,g1,g2⟩⟩
    · exact Gp (xs:=eI a0) (us:=[c0]) r0 (Gp (xs:=eI a1) (us:=[c1]) r1 (r2))
    · intro c hc;rw[show Ai _=eI a0++eI a1++(eS By) a2 from rfl]at hc;simp only[vJ]at hc;rcases hc with (hc|hc)|hc
      · exact l0 c hc
      · exact l1 c hc
      · exact l2 c hc
theorem tP:Rd encH Tryz.prog w 22 (eS Ai) (F7 TV):=Rd.slice Tryz.underlying22 (vm (by kernel_rfl)) sZ
theorem sF:QQ encH Tryz.prog w 114 [112,3]:=by
  have h:=QQ.mk (encH:=encH) (w:=w) Tryz.underlying114 (by kernel_rfl) (λi f h=>by
    match i,h with
    | 0,h=>cases h;exact⟨rfl,by kernel_rfl⟩
    | 1,h=>cases h;exact⟨rfl,by kernel_rfl⟩
    | i+2,h=>simp at h)
  exact h
theorem si:QQ encH Tryz.prog w 248 [3,3,3,45,246]:=by
  have h:=QQ.mk (encH:=encH) (w:=w) Tryz.underlying248 (by kernel_rfl) (λi f h=>by
    match i,h with
    | 0,h=>cases h;exact⟨rfl,by kernel_rfl⟩
    | 1,h=>cases h;exact⟨rfl,by kernel_rfl⟩
    | 2,h=>cases h;exact⟨rfl,by kernel_rfl⟩
    | 3,h=>cases h;exact⟨rfl,by kernel_rfl⟩
    | 4,h=>cases h;exact⟨rfl,by kernel_rfl⟩
    | i+5,h=>simp at h)
  exact h
theorem sJ:Rd encH Tryz.prog w 114 BS Lt:=Rd.block sF si Tryz.underlying112 Tryz.underlying246 (vm (by kernel_rfl)) (vm (by kernel_rfl)) nd jr
theorem sf:Rd encH Tryz.prog w 116 Al OJ:=λfuel cs x h=>by
  obtain⟨hl,n,hf⟩:=QF Tryz.underlying116 h;obtain⟨y0,h0⟩:=hf 0 _ rfl;obtain⟨y1,h1⟩:=hf 1 _ rfl;obtain⟨y2,h2⟩:=hf 2 _ rfl;obtain⟨y3,h3⟩:=hf 3 _ rfl;obtain⟨a0,r0,l0,g0⟩:=jr _ _ _ h0;obtain⟨a1,r1,l1,g1⟩:=jr _ _ _ h1;obtain⟨a2,r2,l2,g2⟩:=nd _ _ _ h2;obtain⟨a3,r3,l3,g3⟩:=sJ _ _ _ h3;have e3:Tryz.prog.cellsOf 3=1:=by kernel_rfl
  have e45:Tryz.prog.cellsOf 45=1:=by kernel_rfl
  have e114:Tryz.prog.cellsOf 114=2:=by kernel_rfl
  have e116:Tryz.prog.cellsOf 116=5:=by kernel_rfl
  simp only[e3,e45,e114,e116]at hl r0 r1 r2 r3
  match cs,hl with
  | [c0,c1,c2,c3,c4],_=>
    refine⟨⟨a0,a1,a2,a3⟩,?_,?_,⟨g0,g1,g2,g3⟩⟩
    · exact Gp (xs:=(eS eI) a0) (us:=[c0]) r0 (Gp (xs:=(eS eI) a1) (us:=[c1]) r1 (Gp (xs:=eI a2) (us:=[c2]) r2 (r3)))
    · intro c hc;rw[show Al _=(eS eI) a0++(eS eI) a1++eI a2++BS a3 from rfl]at hc;simp only[vJ]at hc;rcases hc with ((hc|hc)|hc)|hc
      · exact l0 c hc
      · exact l1 c hc
      · exact l2 c hc
      · exact l3 c hc
theorem tK:Rd encH Tryz.prog w 23 (eS Al) (F7 OJ):=Rd.slice Tryz.underlying23 (vm (by kernel_rfl)) sf
theorem tF:Rd encH Tryz.prog w 25 cK Rx:=λfuel cs x h=>by
  obtain⟨hl,n,hf⟩:=QF Tryz.underlying25 h;obtain⟨y0,h0⟩:=hf 0 _ rfl;obtain⟨y1,h1⟩:=hf 1 _ rfl;obtain⟨a0,r0,l0,g0⟩:=tP _ _ _ h0;obtain⟨a1,r1,l1,g1⟩:=tK _ _ _ h1;have e22:Tryz.prog.cellsOf 22=1:=by kernel_rfl
  have e23:Tryz.prog.cellsOf 23=1:=by kernel_rfl
  have e25:Tryz.prog.cellsOf 25=2:=by kernel_rfl
  simp only[e22,e23,e25]at hl r0 r1
  match cs,hl with
  | [c0,c1],_=>
    refine⟨⟨a0,a1⟩,?_,?_,⟨g0,g1⟩⟩
    · exact Gp (xs:=(eS Ai) a0) (us:=[c0]) r0 (r1)
    · intro c hc;rw[show cK _=(eS Ai) a0++(eS Al) a1 from rfl]at hc;simp only[vJ]at hc;rcases hc with hc|hc
      · exact l0 c hc
      · exact l1 c hc
end
theorem walk {w:World}{base:Nat}{H:Type}{encH:TypeId×Value->H}{v0:Value}{d0:DataW H}{q0:List MemPlace}(h0:DataW.Trod encH Tryz.prog w 0 (λ_=>true) true 25 v0 d0 q0)(k0:Value.okWide Tryz.prog w .any base 25 v0):
    Calls Tryz.prog 3 #[v0] w λe w'=>e=.returned (.bool true)/\Below w.heap.size w w':=by
  obtain⟨cs0,rfl,_⟩:=okWide_struct Tryz.underlying25 k0;obtain⟨fuel0,f0⟩:=h0;obtain⟨a0,r0,_,g0⟩:=tF _ _ _ f0;replace r0:=kj r0;exact BW.law (SP (UA g0)) (r0)
theorem lifted (os:Os)(started:os.Started)(H:Type)(enc:TypeId×Value->H):
    ReturnsInHanded {} Tryz.checked os 3 .any (Rows.fnExactCountSpec.pre6 enc Tryz.prog Tryz.f3 Rows.fnExactCountRow.domain false) (Rows.fnExactCountSpec.post enc Tryz.prog Tryz.f3 false true false false):=by
  refine returnsInHanded_of_change (C:=Tryz.checked) lZ started (by kernel_rfl) Tryz.func3
    (ChangeSpec.witness6 (enc:=enc) (C:=Tryz.checked) false ⟨#[],#[.agg #[.slice none 0 0,.slice none 0 0]],[]⟩ 8 (by kernel_rfl) (by kernel_rfl) (by kernel_rfl) (by kernel_rfl)) ?_
  intro W base args ds gs before hval0 hW hcnd _;have hval:∀(j:Nat) t v,Tryz.f3.params[j]?=some t->args[j]?=some v->Value.okWide Tryz.prog W .any base t v:=hval0;have hW':=hW;obtain⟨p,q,hA0,hV,rfl,hfz,hnd⟩:=hW;have hA:DataW.TrodAll enc Tryz.prog W 0 (λ_=>true) true Tryz.f3.params.toList args.toList ds p:=hA0;rw[Tryz.params3]at hA hval;obtain⟨v0,vs0,d0,ds0,p0,q0,hargs,rfl,rfl,h0,r0⟩:=trodAll_cons hA;obtain⟨rfl,rfl,rfl⟩:=trodAll_nil r0;obtain rfl:args=#[v0]:=by cases args;simp_all
  obtain⟨rfl,rfl⟩:=trodVars_none hV;have lt0:∀x∈p0,x.block<W.heap.size:=by obtain⟨m,hm⟩:=h0;exact DataW.trod_lt m _ _ _ hm
  refine (walk h0 (hval 0 25 v0 rfl rfl)).mono λe W' ⟨he,bel⟩=>?_;subst he;exact⟨_,rfl,_,_,_,[],_,[],hW',trodAll_mk1 (shut_bool Tryz.underlying4 _),(trodAll_cons_mk (Below.trod mM (by kernel_rfl) (vm (by kernel_rfl)) h0 bel lt0) trodAll_mk0),rfl,bel.frame _,λh=>by cases h⟩
theorem tO:Rows.fnExactCountRow.holds Tryz.pinned (OpenSpec.ofChange Rows.fnExactCountSpec):=
  OpenClaim.holds_of_wide 3 Tryz.f3 rfl rfl rfl rfl rfl rfl rfl ⟨rfl,rfl,rfl,rfl,rfl⟩ rfl rfl rfl rfl rfl (by kernel_rfl) Tryz.func3 closed
    (vm (by kernel_rfl)) (by unfold Func.isWrapper;rw[uY (yP (by kernel_rfl))];exact⟨rfl,rfl⟩)
    (λos started H enc _=>lifted os started H enc)
/-- The statement. -/
theorem proved:Rows.FnExactCountSaid:=tO
end Go.Proofs.YtccficmcdkcpnaaGreat.fnExactCount
