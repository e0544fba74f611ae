/- The law FnExactUnlend holds at every argument: it returns true and leaves its arguments as they were. No condition. -/
import Derived.Test.YtcegihniiokijaaGreatRows
import Derived.Test.YtcegihniiokijaaGreatTab
import Derived.Test.YtcegihniiokijaaGreatAbsR
import Derived.Test.YtcegihniiokijaaGreatXNM
import Derived.Test.YtcegihniiokijaaGreatSMR
import Derived.Test.YtcegihniiokijaaGreatULWalk
namespace Go.Proofs.YtcegihniiokijaaGreat.fnExactUnlend
open Go Go.Abs RC Go.ChangeShapes Go.WideShapes Go.ChangeAt Go.RowKit
set_option maxRecDepth 100000

theorem ZH:Tryz.prog.closure 6=[6,8,26,64,109,163,110,27,65,111,164,206,229,10,31,72,120,177,121,32,73,122,178,209,230,22,28,49,99,155,154,201,228,202,158,156,67,113,100,103,114,165,166,167,168,207,169,170,175,176,171,208,172,173,157,66,112,55,68,104,159,23,33,51,34,75,124,126,125,88,140,102,77,87,54,137,138,135,183,84,133,181,134,182,139,185,186,74,123,52,35,76,127,128,56,57,105,86,12,41,89,141,187,19,42,90,142,188,211,231,13,43,91,20,44,92,143,14,45,93,21,46,94,144]:=by rw[MM WB];kernel_rfl
theorem dA:Tryz.prog.unfollowed 6=true:=by unfold Program.unfollowed;rw[ZH];kernel_rfl
theorem dd:Tryz.prog.recurses 6=true:=SW dA
theorem dP:Tryz.prog.inPlace 6=[]:=by unfold Program.inPlace;rw[ZH];kernel_rfl
theorem dw:Tryz.prog.varsNamed 6=[]:=by unfold Program.varsNamed;rw[ZH];kernel_rfl
theorem closed:joinedFacts Tryz.prog 6 Tryz.f6 Rows.fnExactUnlendSpec Rows.fnExactUnlendRow=true:=by
  unfold joinedFacts
  rw[dP,dA,dd,dw,Ve,Tp,Xc]
  kernel_rfl

section
variable {H : Type} {encH : TypeId × Value → H} {w : World}
theorem ZT:Rd encH Tryz.prog w 3 eI IF:=Rd.int Tryz.underlying3
theorem W6:Rd encH Tryz.prog w 37 (eS eI) (D1 IF):=Rd.slice Tryz.underlying37 (of_decide_eq_true (by kernel_rfl)) ZT
theorem bj:Rd encH Tryz.prog w 178 Ar Ou:=fun fuel cs x h=>by
  obtain⟨hl,n,hf⟩:=KR Tryz.underlying178 h
  obtain⟨y0,h0⟩:=hf 0 _ rfl
  obtain⟨a0,r0,l0,g0⟩:=W6 _ _ _ h0
  have e37:Tryz.prog.cellsOf 37=1:=by kernel_rfl
  have e178:Tryz.prog.cellsOf 178=1:=by kernel_rfl
  simp only[e37,e178] at hl r0
  match cs,hl with
  | [c0],_=>
    refine⟨⟨a0⟩,?_,?_,⟨g0⟩⟩
    · exact r0
    · intro c hc
      rw[show Ar _=(eS eI) a0 from rfl] at hc
      exact l0 c hc
theorem cf:Rd encH Tryz.prog w 81 (eS Ar) (D1 Ou):=Rd.slice Tryz.underlying81 (of_decide_eq_true (by kernel_rfl)) bj
theorem dK:Rd encH Tryz.prog w 83 AG Mc:=fun fuel cs x h=>by
  obtain⟨hl,n,hf⟩:=KR Tryz.underlying83 h
  obtain⟨y0,h0⟩:=hf 0 _ rfl
  obtain⟨y1,h1⟩:=hf 1 _ rfl
  obtain⟨y2,h2⟩:=hf 2 _ rfl
  obtain⟨a0,r0,l0,g0⟩:=ZT _ _ _ h0
  obtain⟨a1,r1,l1,g1⟩:=ZT _ _ _ h1
  obtain⟨a2,r2,l2,g2⟩:=cf _ _ _ h2
  have e3:Tryz.prog.cellsOf 3=1:=by kernel_rfl
  have e81:Tryz.prog.cellsOf 81=1:=by kernel_rfl
  have e83:Tryz.prog.cellsOf 83=3:=by kernel_rfl
  simp only[e3,e81,e83] at hl r0 r1 r2
  match cs,hl with
  | [c0,c1,c2],_=>
    refine⟨⟨a0,a1,a2⟩,?_,?_,⟨g0,g1,g2⟩⟩
    · exact EN (xs:=eI a0) (us:=[c0]) r0 (EN (xs:=eI a1) (us:=[c1]) r1 (r2))
    · intro c hc
      rw[show AG _=eI a0 ++ eI a1 ++ (eS Ar) a2 from rfl] at hc
      simp only[List.mem_append] at hc
      rcases hc with (hc | hc) | hc
      · exact l0 c hc
      · exact l1 c hc
      · exact l2 c hc
theorem dU:Rd encH Tryz.prog w 22 (eS AG) (D1 Mc):=Rd.slice Tryz.underlying22 (of_decide_eq_true (by kernel_rfl)) dK
theorem db:Kj encH Tryz.prog w 87 [85,3]:=by
  have h:=Kj.mk (encH:=encH) (w:=w) Tryz.underlying87 (by kernel_rfl) (fun i f h=>by
    match i,h with
    | 0,h=>cases h;exact⟨rfl,by kernel_rfl⟩
    | 1,h=>cases h;exact⟨rfl,by kernel_rfl⟩
    | i+2,h=>simp at h)
  exact h
theorem bP:Kj encH Tryz.prog w 211 [3,3,3,37,209]:=by
  have h:=Kj.mk (encH:=encH) (w:=w) Tryz.underlying211 (by kernel_rfl) (fun i f h=>by
    match i,h with
    | 0,h=>cases h;exact⟨rfl,by kernel_rfl⟩
    | 1,h=>cases h;exact⟨rfl,by kernel_rfl⟩
    | 2,h=>cases h;exact⟨rfl,by kernel_rfl⟩
    | 3,h=>cases h;exact⟨rfl,by kernel_rfl⟩
    | 4,h=>cases h;exact⟨rfl,by kernel_rfl⟩
    | i+5,h=>simp at h)
  exact h
theorem dV:Rd encH Tryz.prog w 87 A2 Ie:=Rd.block db bP Tryz.underlying85 Tryz.underlying209 (of_decide_eq_true (by kernel_rfl)) (of_decide_eq_true (by kernel_rfl)) ZT W6
theorem cw:Rd encH Tryz.prog w 89 AT JW:=fun fuel cs x h=>by
  obtain⟨hl,n,hf⟩:=KR Tryz.underlying89 h
  obtain⟨y0,h0⟩:=hf 0 _ rfl
  obtain⟨y1,h1⟩:=hf 1 _ rfl
  obtain⟨y2,h2⟩:=hf 2 _ rfl
  obtain⟨y3,h3⟩:=hf 3 _ rfl
  obtain⟨a0,r0,l0,g0⟩:=W6 _ _ _ h0
  obtain⟨a1,r1,l1,g1⟩:=W6 _ _ _ h1
  obtain⟨a2,r2,l2,g2⟩:=ZT _ _ _ h2
  obtain⟨a3,r3,l3,g3⟩:=dV _ _ _ h3
  have e3:Tryz.prog.cellsOf 3=1:=by kernel_rfl
  have e37:Tryz.prog.cellsOf 37=1:=by kernel_rfl
  have e87:Tryz.prog.cellsOf 87=2:=by kernel_rfl
  have e89:Tryz.prog.cellsOf 89=5:=by kernel_rfl
  simp only[e3,e37,e87,e89] at hl r0 r1 r2 r3
  match cs,hl with
  | [c0,c1,c2,c3,c4],_=>
    refine⟨⟨a0,a1,a2,a3⟩,?_,?_,⟨g0,g1,g2,g3⟩⟩
    · exact EN (xs:=(eS eI) a0) (us:=[c0]) r0 (EN (xs:=(eS eI) a1) (us:=[c1]) r1 (EN (xs:=eI a2) (us:=[c2]) r2 (r3)))
    · intro c hc
      rw[show AT _=(eS eI) a0 ++ (eS eI) a1 ++ eI a2 ++ A2 a3 from rfl] at hc
      simp only[List.mem_append] at hc
      rcases hc with ((hc | hc) | hc) | hc
      · exact l0 c hc
      · exact l1 c hc
      · exact l2 c hc
      · exact l3 c hc
theorem dc:Rd encH Tryz.prog w 23 (eS AT) (D1 JW):=Rd.slice Tryz.underlying23 (of_decide_eq_true (by kernel_rfl)) cw
theorem dD:Rd encH Tryz.prog w 25 TL Li:=fun fuel cs x h=>by
  obtain⟨hl,n,hf⟩:=KR Tryz.underlying25 h
  obtain⟨y0,h0⟩:=hf 0 _ rfl
  obtain⟨y1,h1⟩:=hf 1 _ rfl
  obtain⟨a0,r0,l0,g0⟩:=dU _ _ _ h0
  obtain⟨a1,r1,l1,g1⟩:=dc _ _ _ h1
  have e22:Tryz.prog.cellsOf 22=1:=by kernel_rfl
  have e23:Tryz.prog.cellsOf 23=1:=by kernel_rfl
  have e25:Tryz.prog.cellsOf 25=2:=by kernel_rfl
  simp only[e22,e23,e25] at hl r0 r1
  match cs,hl with
  | [c0,c1],_=>
    refine⟨⟨a0,a1⟩,?_,?_,⟨g0,g1⟩⟩
    · exact EN (xs:=(eS AG) a0) (us:=[c0]) r0 (r1)
    · intro c hc
      rw[show TL _=(eS AG) a0 ++ (eS AT) a1 from rfl] at hc
      simp only[List.mem_append] at hc
      rcases hc with hc | hc
      · exact l0 c hc
      · exact l1 c hc
end

theorem walk {w:World} {base:Nat} {H:Type} {encH:TypeId×Value→H} {v0:Value} {d0:DataW H} {q0:List MemPlace} (h0:DataW.Trod encH Tryz.prog w 0 (fun _=>true) true 25 v0 d0 q0) (k0:Value.okWide Tryz.prog w .any base 25 v0) :
    Calls Tryz.prog 6 #[v0] w fun e w'=>e=.returned (.bool true)∧Below w.heap.size w w':=by
  obtain⟨cs0,rfl,_⟩:=okWide_struct Tryz.underlying25 k0
  obtain⟨fuel0,f0⟩:=h0
  obtain⟨a0,r0,_,g0⟩:=dD _ _ _ f0
  replace r0:=Xr r0
  exact Ae.law (LV (My g0)) (r0)

theorem lifted (os:Os) (started:os.Started) (H:Type) (enc:TypeId×Value→H) :
    ReturnsInHanded {} Tryz.checked os 6 .any (Rows.fnExactUnlendSpec.pre6 enc Tryz.prog Tryz.f6 Rows.fnExactUnlendRow.domain false) (Rows.fnExactUnlendSpec.post enc Tryz.prog Tryz.f6 false true false false):=by
  refine returnsInHanded_of_change (C:=Tryz.checked) Xu started (by kernel_rfl) Tryz.func6
    (ChangeSpec.witness6 (enc:=enc) (C:=Tryz.checked) false ⟨#[],#[.agg #[.slice none 0 0,.slice none 0 0]],[]⟩ 8 (by kernel_rfl) (by kernel_rfl) (by kernel_rfl) (by kernel_rfl)) ?_
  intro W base args ds gs before hval0 hW hcnd _
  have hval :∀(j:Nat) t v,Tryz.f6.params[j]?=some t→args[j]?=some v→Value.okWide Tryz.prog W .any base t v:=hval0
  have hW':=hW
  obtain⟨p,q,hA0,hV,rfl,hfz,hnd⟩:=hW
  have hA:DataW.TrodAll enc Tryz.prog W 0 (fun _=>true) true Tryz.f6.params.toList args.toList ds p:=hA0
  rw[Tryz.params6] at hA hval
  obtain⟨v0,vs0,d0,ds0,p0,q0,hargs,rfl,rfl,h0,r0⟩:=trodAll_cons hA
  obtain⟨rfl,rfl,rfl⟩:=trodAll_nil r0
  obtain rfl:args=#[v0]:=by cases args;simp_all
  obtain⟨rfl,rfl⟩:=trodVars_none hV
  have lt0 :∀x∈p0,x.block < W.heap.size:=by obtain⟨m,hm⟩:=h0;exact DataW.trod_lt m _ _ _ hm
  refine (walk h0 (hval 0 25 v0 rfl rfl)).mono fun e W' ⟨he,bel⟩=>?_
  subst he
  exact⟨_,rfl,_,_,_,[],_,[],hW',trodAll_mk1 (shut_bool Tryz.underlying4 _),(trodAll_cons_mk (Below.trod Xq (by kernel_rfl) (of_decide_eq_true (by kernel_rfl)) h0 bel lt0) trodAll_mk0),rfl,bel.frame _,fun h=>by cases h⟩

theorem dN:Rows.fnExactUnlendRow.holds Tryz.pinned (OpenSpec.ofChange Rows.fnExactUnlendSpec):=
  OpenClaim.holds_of_wide 6 Tryz.f6 rfl rfl rfl rfl rfl rfl rfl ⟨rfl,rfl,rfl,rfl,rfl⟩ rfl rfl rfl rfl rfl (by kernel_rfl) Tryz.func6 closed
    (of_decide_eq_true (by kernel_rfl)) (by unfold Func.isWrapper;rw[if_neg (of_decide_eq_false (by kernel_rfl))];exact⟨rfl,rfl⟩)
    (fun os started H enc _=>lifted os started H enc)

/-- The statement. -/
theorem proved:Rows.FnExactUnlendSaid:=dN
end Go.Proofs.YtcegihniiokijaaGreat.fnExactUnlend
