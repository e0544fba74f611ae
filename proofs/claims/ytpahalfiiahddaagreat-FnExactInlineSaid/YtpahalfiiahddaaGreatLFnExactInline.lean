/- The law FnExactInline holds at every argument: it returns true and leaves its arguments as they were. No condition. -/
import Derived.Test.YtpahalfiiahddaaGreatRows
import Derived.Test.YtpahalfiiahddaaGreatTab
import Derived.Test.YtpahalfiiahddaaGreatAbsR
import Derived.Test.YtpahalfiiahddaaGreatTYJ
import Derived.Test.YtpahalfiiahddaaGreatXMR
import Derived.Test.YtpahalfiiahddaaGreatINWalk
namespace Go.Proofs.YtpahalfiiahddaaGreat.fnExactInline
open Go Go.Abs RC Go.ChangeShapes Go.WideShapes Go.ChangeAt Go.RowKit
set_option maxRecDepth 100000

theorem aj:Tryz.prog.closure 5=[5,6,17,42,81,119,82,18,43,83,120,8,22,51,95,123,96,23,52,97,124,15,19,44,84,121,85,71,45,86,46,87,88,112,90,89,91,49,92,110,93,122,94,36,72,114,74,73,37,66,76,115,75,21,48,50,47,16,38,24,53,98,125,126,99,54,57,106,100,102,101,127,137,141,70,113,105,131,128,138,139,140,77,117,136,135,116,79,78,69,39,41,40,80,118,25,55,103,129,130,104,56,10,27,58,107,132,108,28,59,109,133,11,29,60,61,30,62,12,31,63,64,32,65]:=by rw[OK Yq];kernel_rfl
theorem fJ:Tryz.prog.unfollowed 5=true:=by unfold Program.unfollowed;rw[aj];kernel_rfl
theorem fQ:Tryz.prog.recurses 5=true:=Uw fJ
theorem ez:Tryz.prog.inPlace 5=[]:=by unfold Program.inPlace;rw[aj];kernel_rfl
theorem fY:Tryz.prog.varsNamed 5=[]:=by unfold Program.varsNamed;rw[aj];kernel_rfl
theorem closed:joinedFacts Tryz.prog 5 Tryz.f5 Rows.fnExactInlineSpec Rows.fnExactInlineRow=true:=by
  unfold joinedFacts
  rw[ez,fJ,fQ,fY,ZI,Wn,aF]
  kernel_rfl

section
variable {H : Type} {encH : TypeId × Value → H} {w : World}
theorem XU:Rd encH Tryz.prog w 3 eI GL:=Rd.int Tryz.underlying3
theorem di:Rd encH Tryz.prog w 46 (eS eI) (Es GL):=Rd.slice Tryz.underlying46 (of_decide_eq_true (by kernel_rfl)) XU
theorem eL:Rd encH Tryz.prog w 135 BR QP:=fun fuel cs x h=>by
  obtain⟨hl,n,hf⟩:=LP Tryz.underlying135 h
  obtain⟨y0,h0⟩:=hf 0 _ rfl
  obtain⟨a0,r0,l0,g0⟩:=di _ _ _ h0
  have e46:Tryz.prog.cellsOf 46=1:=by kernel_rfl
  have e135:Tryz.prog.cellsOf 135=1:=by kernel_rfl
  simp only[e46,e135] at hl r0
  match cs,hl with
  | [c0],_=>
    refine⟨⟨a0⟩,?_,?_,⟨g0⟩⟩
    · exact r0
    · intro c hc
      rw[show BR _=(eS eI) a0 from rfl] at hc
      exact l0 c hc
theorem ep:Rd encH Tryz.prog w 65 (eS BR) (Es QP):=Rd.slice Tryz.underlying65 (of_decide_eq_true (by kernel_rfl)) eL
theorem fD:Rd encH Tryz.prog w 67 AT Nb:=fun fuel cs x h=>by
  obtain⟨hl,n,hf⟩:=LP Tryz.underlying67 h
  obtain⟨y0,h0⟩:=hf 0 _ rfl
  obtain⟨y1,h1⟩:=hf 1 _ rfl
  obtain⟨y2,h2⟩:=hf 2 _ rfl
  obtain⟨a0,r0,l0,g0⟩:=XU _ _ _ h0
  obtain⟨a1,r1,l1,g1⟩:=XU _ _ _ h1
  obtain⟨a2,r2,l2,g2⟩:=ep _ _ _ h2
  have e3:Tryz.prog.cellsOf 3=1:=by kernel_rfl
  have e65:Tryz.prog.cellsOf 65=1:=by kernel_rfl
  have e67:Tryz.prog.cellsOf 67=3:=by kernel_rfl
  simp only[e3,e65,e67] at hl r0 r1 r2
  match cs,hl with
  | [c0,c1,c2],_=>
    refine⟨⟨a0,a1,a2⟩,?_,?_,⟨g0,g1,g2⟩⟩
    · exact D6 (xs:=eI a0) (us:=[c0]) r0 (D6 (xs:=eI a1) (us:=[c1]) r1 (r2))
    · intro c hc
      rw[show AT _=eI a0 ++ eI a1 ++ (eS BR) a2 from rfl] at hc
      simp only[List.mem_append] at hc
      rcases hc with (hc | hc) | hc
      · exact l0 c hc
      · exact l1 c hc
      · exact l2 c hc
theorem fL:Rd encH Tryz.prog w 22 (eS AT) (Es Nb):=Rd.slice Tryz.underlying22 (of_decide_eq_true (by kernel_rfl)) fD
theorem fR:Lj encH Tryz.prog w 71 [3,3,69]:=by
  have h:=Lj.mk (encH:=encH) (w:=w) Tryz.underlying71 (by kernel_rfl) (fun i f h=>by
    match i,h with
    | 0,h=>cases h;exact⟨rfl,by kernel_rfl⟩
    | 1,h=>cases h;exact⟨rfl,by kernel_rfl⟩
    | 2,h=>cases h;exact⟨rfl,by kernel_rfl⟩
    | i+3,h=>simp at h)
  exact h
theorem fN:Rd encH Tryz.prog w 71 A4 Bn:=Rd.expr fR Tryz.underlying69 (of_decide_eq_true (by kernel_rfl)) XU
theorem fI:Rd encH Tryz.prog w 73 Ar MI:=fun fuel cs x h=>by
  obtain⟨hl,n,hf⟩:=LP Tryz.underlying73 h
  obtain⟨y0,h0⟩:=hf 0 _ rfl
  obtain⟨y1,h1⟩:=hf 1 _ rfl
  obtain⟨y2,h2⟩:=hf 2 _ rfl
  obtain⟨a0,r0,l0,g0⟩:=di _ _ _ h0
  obtain⟨a1,r1,l1,g1⟩:=XU _ _ _ h1
  obtain⟨a2,r2,l2,g2⟩:=fN _ _ _ h2
  have e3:Tryz.prog.cellsOf 3=1:=by kernel_rfl
  have e46:Tryz.prog.cellsOf 46=1:=by kernel_rfl
  have e71:Tryz.prog.cellsOf 71=3:=by kernel_rfl
  have e73:Tryz.prog.cellsOf 73=5:=by kernel_rfl
  simp only[e3,e46,e71,e73] at hl r0 r1 r2
  match cs,hl with
  | [c0,c1,c2,c3,c4],_=>
    refine⟨⟨a0,a1,a2⟩,?_,?_,⟨g0,g1,g2⟩⟩
    · rw[SP];exact D6 (xs:=(eS eI) a0) (us:=[c0]) r0 (D6 (xs:=eI a1) (us:=[c1]) r1 (r2))
    · intro c hc
      rw[SP] at hc
      simp only[List.mem_append] at hc
      rcases hc with hc | hc | hc
      · exact l0 c hc
      · exact l1 c hc
      · exact l2 c hc
theorem fB:Rd encH Tryz.prog w 23 (eS Ar) (Es MI):=Rd.slice Tryz.underlying23 (of_decide_eq_true (by kernel_rfl)) fI
theorem fE:Rd encH Tryz.prog w 25 UW LX:=fun fuel cs x h=>by
  obtain⟨hl,n,hf⟩:=LP Tryz.underlying25 h
  obtain⟨y0,h0⟩:=hf 0 _ rfl
  obtain⟨y1,h1⟩:=hf 1 _ rfl
  obtain⟨a0,r0,l0,g0⟩:=fL _ _ _ h0
  obtain⟨a1,r1,l1,g1⟩:=fB _ _ _ h1
  have e22:Tryz.prog.cellsOf 22=1:=by kernel_rfl
  have e23:Tryz.prog.cellsOf 23=1:=by kernel_rfl
  have e25:Tryz.prog.cellsOf 25=2:=by kernel_rfl
  simp only[e22,e23,e25] at hl r0 r1
  match cs,hl with
  | [c0,c1],_=>
    refine⟨⟨a0,a1⟩,?_,?_,⟨g0,g1⟩⟩
    · exact D6 (xs:=(eS AT) a0) (us:=[c0]) r0 (r1)
    · intro c hc
      rw[show UW _=(eS AT) a0 ++ (eS Ar) a1 from rfl] at hc
      simp only[List.mem_append] at hc
      rcases hc with hc | hc
      · exact l0 c hc
      · exact l1 c hc
end

theorem walk {w:World} {base:Nat} {H:Type} {encH:TypeId×Value→H} {v0:Value} {d0:DataW H} {q0:List MemPlace} {v1:Value} {d1:DataW H} {q1:List MemPlace} (h0:DataW.Trod encH Tryz.prog w 0 (fun _=>true) true 25 v0 d0 q0) (h1:DataW.Trod encH Tryz.prog w 0 (fun _=>true) true 3 v1 d1 q1) (k0:Value.okWide Tryz.prog w .any base 25 v0) (k1:Value.okWide Tryz.prog w .any base 3 v1) :
    Calls Tryz.prog 5 #[v0,v1] w fun e w'=>e=.returned (.bool true)∧Below w.heap.size w w':=by
  obtain⟨cs0,rfl,_⟩:=okWide_struct Tryz.underlying25 k0
  obtain⟨fuel0,f0⟩:=h0
  obtain⟨a0,r0,_,g0⟩:=fE _ _ _ f0
  replace r0:=Zz r0
  obtain⟨fuel1,f1⟩:=h1
  obtain⟨a1,r1,_,g1⟩:=XU _ _ _ f1
  obtain⟨n1,rfl,_,_,_⟩:=open_int Tryz.underlying3 k1 ⟨fuel1,f1⟩
  exact Aa.law (Mt (Ng g0 g1)) ((D6 (us:=[.agg cs0]) r0 r1))

theorem lifted (os:Os) (started:os.Started) (H:Type) (enc:TypeId×Value→H) :
    ReturnsInHanded {} Tryz.checked os 5 .any (Rows.fnExactInlineSpec.pre6 enc Tryz.prog Tryz.f5 Rows.fnExactInlineRow.domain false) (Rows.fnExactInlineSpec.post enc Tryz.prog Tryz.f5 false true false false):=by
  refine returnsInHanded_of_change (C:=Tryz.checked) Z3 started (by kernel_rfl) Tryz.func5
    (ChangeSpec.witness6 (enc:=enc) (C:=Tryz.checked) false ⟨#[],#[.agg #[.slice none 0 0,.slice none 0 0],.int .i64 0],[]⟩ 8 (by kernel_rfl) (by kernel_rfl) (by kernel_rfl) (by kernel_rfl)) ?_
  intro W base args ds gs before hval0 hW hcnd _
  have hval :∀(j:Nat) t v,Tryz.f5.params[j]?=some t→args[j]?=some v→Value.okWide Tryz.prog W .any base t v:=hval0
  have hW':=hW
  obtain⟨p,q,hA0,hV,rfl,hfz,hnd⟩:=hW
  have hA:DataW.TrodAll enc Tryz.prog W 0 (fun _=>true) true Tryz.f5.params.toList args.toList ds p:=hA0
  rw[Tryz.params5] at hA hval
  obtain⟨v0,vs0,d0,ds0,p0,q0,hargs,rfl,rfl,h0,r0⟩:=trodAll_cons hA
  obtain⟨v1,vs1,d1,ds1,p1,q1,rfl,rfl,rfl,h1,r1⟩:=trodAll_cons r0
  obtain⟨rfl,rfl,rfl⟩:=trodAll_nil r1
  obtain rfl:args=#[v0,v1]:=by cases args;simp_all
  obtain⟨rfl,rfl⟩:=trodVars_none hV
  have lt0 :∀x∈p0,x.block < W.heap.size:=by obtain⟨m,hm⟩:=h0;exact DataW.trod_lt m _ _ _ hm
  have lt1 :∀x∈p1,x.block < W.heap.size:=by obtain⟨m,hm⟩:=h1;exact DataW.trod_lt m _ _ _ hm
  refine (walk h0 h1 (hval 0 25 v0 rfl rfl) (hval 1 3 v1 rfl rfl)).mono fun e W' ⟨he,bel⟩=>?_
  subst he
  exact⟨_,rfl,_,_,_,[],_,[],hW',trodAll_mk1 (shut_bool Tryz.underlying4 _),(trodAll_cons_mk (Below.trod VN (by kernel_rfl) (of_decide_eq_true (by kernel_rfl)) h0 bel lt0) (trodAll_cons_mk (Below.trod VN (by kernel_rfl) (of_decide_eq_true (by kernel_rfl)) h1 bel lt1) trodAll_mk0)),rfl,bel.frame _,fun h=>by cases h⟩

theorem fU:Rows.fnExactInlineRow.holds Tryz.pinned (OpenSpec.ofChange Rows.fnExactInlineSpec):=
  OpenClaim.holds_of_wide 5 Tryz.f5 rfl rfl rfl rfl rfl rfl rfl ⟨rfl,rfl,rfl,rfl,rfl⟩ rfl rfl rfl rfl rfl (by kernel_rfl) Tryz.func5 closed
    (of_decide_eq_true (by kernel_rfl)) (by unfold Func.isWrapper;rw[if_neg (of_decide_eq_false (by kernel_rfl))];exact⟨rfl,rfl⟩)
    (fun os started H enc _=>lifted os started H enc)

/-- The statement. -/
theorem proved:Rows.FnExactInlineSaid:=fU
end Go.Proofs.YtpahalfiiahddaaGreat.fnExactInline
