/- The law FnExactFold holds at every argument: it returns true and leaves its arguments as they were. No condition. -/
import Derived.Test.YtpahalfiiahddaaGreatRows
import Derived.Test.YtpahalfiiahddaaGreatTab
import Derived.Test.YtpahalfiiahddaaGreatAbsR
import Derived.Test.YtpahalfiiahddaaGreatTYG
import Derived.Test.YtpahalfiiahddaaGreatXMR
import Derived.Test.YtpahalfiiahddaaGreatFOWalk
namespace Go.Proofs.YtpahalfiiahddaaGreat.fnExactFold
open Go Go.Abs RC Go.ChangeShapes Go.WideShapes Go.ChangeAt Go.RowKit
set_option maxRecDepth 100000

theorem ZS:Tryz.prog.closure 4=[4,6,17,42,81,119,82,18,43,83,120,8,22,51,95,123,96,23,52,97,124,13,19,44,84,121,85,71,45,86,46,87,88,112,90,89,91,49,92,110,93,122,94,33,66,67,111,134,75,76,115,21,48,50,47,14,24,53,98,125,126,99,54,57,106,100,102,101,127,137,141,70,113,105,131,128,138,139,140,34,35,68,69,40,80,118,41,25,55,103,129,130,104,56,10,27,58,107,132,108,28,59,109,133,11,29,60,61,30,62,12,31,63,64,32,65]:=by rw[Mz XL];kernel_rfl
theorem fX:Tryz.prog.unfollowed 4=true:=by unfold Program.unfollowed;rw[ZS];kernel_rfl
theorem fJ:Tryz.prog.recurses 4=true:=T4 fX
theorem ez:Tryz.prog.inPlace 4=[]:=by unfold Program.inPlace;rw[ZS];kernel_rfl
theorem gC:Tryz.prog.varsNamed 4=[]:=by unfold Program.varsNamed;rw[ZS];kernel_rfl
theorem closed:joinedFacts Tryz.prog 4 Tryz.f4 Rows.fnExactFoldSpec Rows.fnExactFoldRow=true:=by
  unfold joinedFacts
  rw[ez,fX,fJ,gC,XH,Ve,Yb]
  kernel_rfl

section
variable {H : Type} {encH : TypeId × Value → H} {w : World}
theorem W6:Rd encH Tryz.prog w 3 eI FY:=Rd.int Tryz.underlying3
theorem cr:Rd encH Tryz.prog w 46 (eS eI) (EU FY):=Rd.slice Tryz.underlying46 (of_decide_eq_true (by kernel_rfl)) W6
theorem dB:Rd encH Tryz.prog w 135 BZ PI:=fun fuel cs x h=>by
  obtain⟨hl,n,hf⟩:=Kj Tryz.underlying135 h
  obtain⟨y0,h0⟩:=hf 0 _ rfl
  obtain⟨a0,r0,l0,g0⟩:=cr _ _ _ h0
  have e46:Tryz.prog.cellsOf 46=1:=by kernel_rfl
  have e135:Tryz.prog.cellsOf 135=1:=by kernel_rfl
  simp only[e46,e135] at hl r0
  match cs,hl with
  | [c0],_=>
    refine⟨⟨a0⟩,?_,?_,⟨g0⟩⟩
    · exact r0
    · intro c hc
      rw[show BZ _=(eS eI) a0 from rfl] at hc
      exact l0 c hc
theorem fD:Rd encH Tryz.prog w 65 (eS BZ) (EU PI):=Rd.slice Tryz.underlying65 (of_decide_eq_true (by kernel_rfl)) dB
theorem fI:Rd encH Tryz.prog w 67 Ai Ng:=fun fuel cs x h=>by
  obtain⟨hl,n,hf⟩:=Kj Tryz.underlying67 h
  obtain⟨y0,h0⟩:=hf 0 _ rfl
  obtain⟨y1,h1⟩:=hf 1 _ rfl
  obtain⟨y2,h2⟩:=hf 2 _ rfl
  obtain⟨a0,r0,l0,g0⟩:=W6 _ _ _ h0
  obtain⟨a1,r1,l1,g1⟩:=W6 _ _ _ h1
  obtain⟨a2,r2,l2,g2⟩:=fD _ _ _ h2
  have e3:Tryz.prog.cellsOf 3=1:=by kernel_rfl
  have e65:Tryz.prog.cellsOf 65=1:=by kernel_rfl
  have e67:Tryz.prog.cellsOf 67=3:=by kernel_rfl
  simp only[e3,e65,e67] at hl r0 r1 r2
  match cs,hl with
  | [c0,c1,c2],_=>
    refine⟨⟨a0,a1,a2⟩,?_,?_,⟨g0,g1,g2⟩⟩
    · exact D4 (xs:=eI a0) (us:=[c0]) r0 (D4 (xs:=eI a1) (us:=[c1]) r1 (r2))
    · intro c hc
      rw[show Ai _=eI a0 ++ eI a1 ++ (eS BZ) a2 from rfl] at hc
      simp only[List.mem_append] at hc
      rcases hc with (hc | hc) | hc
      · exact l0 c hc
      · exact l1 c hc
      · exact l2 c hc
theorem fh:Rd encH Tryz.prog w 22 (eS Ai) (EU Ng):=Rd.slice Tryz.underlying22 (of_decide_eq_true (by kernel_rfl)) fI
theorem fH:LI encH Tryz.prog w 71 [3,3,69]:=by
  have h:=LI.mk (encH:=encH) (w:=w) Tryz.underlying71 (by kernel_rfl) (fun i f h=>by
    match i,h with
    | 0,h=>cases h;exact⟨rfl,by kernel_rfl⟩
    | 1,h=>cases h;exact⟨rfl,by kernel_rfl⟩
    | 2,h=>cases h;exact⟨rfl,by kernel_rfl⟩
    | i+3,h=>simp at h)
  exact h
theorem eE:Rd encH Tryz.prog w 71 BS BG:=Rd.expr fH Tryz.underlying69 (of_decide_eq_true (by kernel_rfl)) W6
theorem eX:Rd encH Tryz.prog w 73 A3 Lg:=fun fuel cs x h=>by
  obtain⟨hl,n,hf⟩:=Kj Tryz.underlying73 h
  obtain⟨y0,h0⟩:=hf 0 _ rfl
  obtain⟨y1,h1⟩:=hf 1 _ rfl
  obtain⟨y2,h2⟩:=hf 2 _ rfl
  obtain⟨a0,r0,l0,g0⟩:=cr _ _ _ h0
  obtain⟨a1,r1,l1,g1⟩:=W6 _ _ _ h1
  obtain⟨a2,r2,l2,g2⟩:=eE _ _ _ h2
  have e3:Tryz.prog.cellsOf 3=1:=by kernel_rfl
  have e46:Tryz.prog.cellsOf 46=1:=by kernel_rfl
  have e71:Tryz.prog.cellsOf 71=3:=by kernel_rfl
  have e73:Tryz.prog.cellsOf 73=5:=by kernel_rfl
  simp only[e3,e46,e71,e73] at hl r0 r1 r2
  match cs,hl with
  | [c0,c1,c2,c3,c4],_=>
    refine⟨⟨a0,a1,a2⟩,?_,?_,⟨g0,g1,g2⟩⟩
    · rw[RO];exact D4 (xs:=(eS eI) a0) (us:=[c0]) r0 (D4 (xs:=eI a1) (us:=[c1]) r1 (r2))
    · intro c hc
      rw[RO] at hc
      simp only[List.mem_append] at hc
      rcases hc with hc | hc | hc
      · exact l0 c hc
      · exact l1 c hc
      · exact l2 c hc
theorem fO:Rd encH Tryz.prog w 23 (eS A3) (EU Lg):=Rd.slice Tryz.underlying23 (of_decide_eq_true (by kernel_rfl)) eX
theorem ef:Rd encH Tryz.prog w 25 SP Ku:=fun fuel cs x h=>by
  obtain⟨hl,n,hf⟩:=Kj Tryz.underlying25 h
  obtain⟨y0,h0⟩:=hf 0 _ rfl
  obtain⟨y1,h1⟩:=hf 1 _ rfl
  obtain⟨a0,r0,l0,g0⟩:=fh _ _ _ h0
  obtain⟨a1,r1,l1,g1⟩:=fO _ _ _ h1
  have e22:Tryz.prog.cellsOf 22=1:=by kernel_rfl
  have e23:Tryz.prog.cellsOf 23=1:=by kernel_rfl
  have e25:Tryz.prog.cellsOf 25=2:=by kernel_rfl
  simp only[e22,e23,e25] at hl r0 r1
  match cs,hl with
  | [c0,c1],_=>
    refine⟨⟨a0,a1⟩,?_,?_,⟨g0,g1⟩⟩
    · exact D4 (xs:=(eS Ai) a0) (us:=[c0]) r0 (r1)
    · intro c hc
      rw[show SP _=(eS Ai) a0 ++ (eS A3) a1 from rfl] at hc
      simp only[List.mem_append] at hc
      rcases hc with hc | hc
      · exact l0 c hc
      · exact l1 c hc
end

theorem walk {w:World} {base:Nat} {H:Type} {encH:TypeId×Value→H} {v0:Value} {d0:DataW H} {q0:List MemPlace} (h0:DataW.Trod encH Tryz.prog w 0 (fun _=>true) true 25 v0 d0 q0) (k0:Value.okWide Tryz.prog w .any base 25 v0) :
    Calls Tryz.prog 4 #[v0] w fun e w'=>e=.returned (.bool true)∧Below w.heap.size w w':=by
  obtain⟨cs0,rfl,_⟩:=okWide_struct Tryz.underlying25 k0
  obtain⟨fuel0,f0⟩:=h0
  obtain⟨a0,r0,_,g0⟩:=ef _ _ _ f0
  replace r0:=ZE r0
  exact Ag.law (NH (Ob g0)) (r0)

theorem lifted (os:Os) (started:os.Started) (H:Type) (enc:TypeId×Value→H) :
    ReturnsInHanded {} Tryz.checked os 4 .any (Rows.fnExactFoldSpec.pre6 enc Tryz.prog Tryz.f4 Rows.fnExactFoldRow.domain false) (Rows.fnExactFoldSpec.post enc Tryz.prog Tryz.f4 false true false false):=by
  refine returnsInHanded_of_change (C:=Tryz.checked) ZG started (by kernel_rfl) Tryz.func4
    (ChangeSpec.witness6 (enc:=enc) (C:=Tryz.checked) false ⟨#[],#[.agg #[.slice none 0 0,.slice none 0 0]],[]⟩ 8 (by kernel_rfl) (by kernel_rfl) (by kernel_rfl) (by kernel_rfl)) ?_
  intro W base args ds gs before hval0 hW hcnd _
  have hval :∀(j:Nat) t v,Tryz.f4.params[j]?=some t→args[j]?=some v→Value.okWide Tryz.prog W .any base t v:=hval0
  have hW':=hW
  obtain⟨p,q,hA0,hV,rfl,hfz,hnd⟩:=hW
  have hA:DataW.TrodAll enc Tryz.prog W 0 (fun _=>true) true Tryz.f4.params.toList args.toList ds p:=hA0
  rw[Tryz.params4] at hA hval
  obtain⟨v0,vs0,d0,ds0,p0,q0,hargs,rfl,rfl,h0,r0⟩:=trodAll_cons hA
  obtain⟨rfl,rfl,rfl⟩:=trodAll_nil r0
  obtain rfl:args=#[v0]:=by cases args;simp_all
  obtain⟨rfl,rfl⟩:=trodVars_none hV
  have lt0 :∀x∈p0,x.block < W.heap.size:=by obtain⟨m,hm⟩:=h0;exact DataW.trod_lt m _ _ _ hm
  refine (walk h0 (hval 0 25 v0 rfl rfl)).mono fun e W' ⟨he,bel⟩=>?_
  subst he
  exact⟨_,rfl,_,_,_,[],_,[],hW',trodAll_mk1 (shut_bool Tryz.underlying4 _),(trodAll_cons_mk (Below.trod Y2 (by kernel_rfl) (of_decide_eq_true (by kernel_rfl)) h0 bel lt0) trodAll_mk0),rfl,bel.frame _,fun h=>by cases h⟩

theorem ek:Rows.fnExactFoldRow.holds Tryz.pinned (OpenSpec.ofChange Rows.fnExactFoldSpec):=
  OpenClaim.holds_of_wide 4 Tryz.f4 rfl rfl rfl rfl rfl rfl rfl ⟨rfl,rfl,rfl,rfl,rfl⟩ rfl rfl rfl rfl rfl (by kernel_rfl) Tryz.func4 closed
    (of_decide_eq_true (by kernel_rfl)) (by unfold Func.isWrapper;rw[if_neg (of_decide_eq_false (by kernel_rfl))];exact⟨rfl,rfl⟩)
    (fun os started H enc _=>lifted os started H enc)

/-- The statement. -/
theorem proved:Rows.FnExactFoldSaid:=ek
end Go.Proofs.YtpahalfiiahddaaGreat.fnExactFold
