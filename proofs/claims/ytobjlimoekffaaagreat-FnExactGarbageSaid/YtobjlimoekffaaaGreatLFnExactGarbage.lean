/- The law FnExactGarbage holds at every argument: it returns true and leaves its arguments as they were. No condition. -/
import Derived.Test.YtobjlimoekffaaaGreatRows
import Derived.Test.YtobjlimoekffaaaGreatTab
import Derived.Test.YtobjlimoekffaaaGreatAbsR
import Derived.Test.YtobjlimoekffaaaGreatLVC
import Derived.Test.YtobjlimoekffaaaGreatGCWalk
namespace Go.Proofs.YtobjlimoekffaaaGreat.fnExactGarbage
open Go Go.Abs RC Go.ChangeShapes Go.WideShapes Go.ChangeAt Go.RowKit
set_option maxRecDepth 100000

theorem ZO:Tryz.prog.closure 4=[4,5,20,45,76,109,22,21,46,77,110,6,23,47,24,48,8,28,61,91,120,30,29,62,92,121,9,31,63,32,64,18,25,49,79,78,111,131,112,50,80,113,114,89,119,132,144,133,134,135,136,51,52,81,115,116,57,85,82,83,117,53,84,54,55,86,27,58,87,118,88,56,59,90,60,26,43,19,33,65,93,122,137,139,138,94,102,123,124,97,128,125,140,141,126,142,145,66,95,96,127,143,106,105,98,99,100,34,67,101,103,68,104,44,75,11,12,35,69,107,129,36,70,108,130,13,37,71,38,72,14,39,73,16,40,74,15,41,42,17]:=by rw[HI Wy];kernel_rfl
theorem cr:Tryz.prog.unfollowed 4=true:=by unfold Program.unfollowed;rw[ZO];kernel_rfl
theorem dW:Tryz.prog.recurses 4=true:=So cr
theorem dV:Tryz.prog.inPlace 4=[]:=by unfold Program.inPlace;rw[ZO];kernel_rfl
theorem fV:Tryz.prog.varsNamed 4=[]:=by unfold Program.varsNamed;rw[ZO];kernel_rfl
theorem closed:joinedFacts Tryz.prog 4 Tryz.f4 Rows.fnExactGarbageSpec Rows.fnExactGarbageRow=true:=by
  unfold joinedFacts
  rw[dV,cr,dW,fV,Vt,T3,Xt]
  kernel_rfl

section
variable {H : Type} {encH : TypeId × Value → H} {w : World}
theorem L1:Rd encH Tryz.prog w 3 eI E3:=Rd.int Tryz.underlying3
theorem NU:Rd encH Tryz.prog w 26 (eS eI) (Cb E3):=Rd.slice Tryz.underlying26 (of_decide_eq_true (by kernel_rfl)) L1
theorem cA:Rd encH Tryz.prog w 157 D5 Og:=fun fuel cs x h=>by
  obtain⟨hl,n,hf⟩:=GL Tryz.underlying157 h
  obtain⟨y0,h0⟩:=hf 0 _ rfl
  obtain⟨a0,r0,l0,g0⟩:=NU _ _ _ h0
  have e26:Tryz.prog.cellsOf 26=1:=by kernel_rfl
  have e157:Tryz.prog.cellsOf 157=1:=by kernel_rfl
  simp only[e26,e157] at hl r0
  match cs,hl with
  | [c0],_=>
    refine⟨⟨a0⟩,?_,?_,⟨g0⟩⟩
    · exact r0
    · intro c hc
      rw[show D5 _=(eS eI) a0 from rfl] at hc
      exact l0 c hc
theorem fN:Rd encH Tryz.prog w 74 (eS D5) (Cb Og):=Rd.slice Tryz.underlying74 (of_decide_eq_true (by kernel_rfl)) cA
theorem eJ:Rd encH Tryz.prog w 76 Ad Ml:=fun fuel cs x h=>by
  obtain⟨hl,n,hf⟩:=GL Tryz.underlying76 h
  obtain⟨y0,h0⟩:=hf 0 _ rfl
  obtain⟨y1,h1⟩:=hf 1 _ rfl
  obtain⟨y2,h2⟩:=hf 2 _ rfl
  obtain⟨a0,r0,l0,g0⟩:=L1 _ _ _ h0
  obtain⟨a1,r1,l1,g1⟩:=L1 _ _ _ h1
  obtain⟨a2,r2,l2,g2⟩:=fN _ _ _ h2
  have e3:Tryz.prog.cellsOf 3=1:=by kernel_rfl
  have e74:Tryz.prog.cellsOf 74=1:=by kernel_rfl
  have e76:Tryz.prog.cellsOf 76=3:=by kernel_rfl
  simp only[e3,e74,e76] at hl r0 r1 r2
  match cs,hl with
  | [c0,c1,c2],_=>
    refine⟨⟨a0,a1,a2⟩,?_,?_,⟨g0,g1,g2⟩⟩
    · exact BW (xs:=eI a0) (us:=[c0]) r0 (BW (xs:=eI a1) (us:=[c1]) r1 (r2))
    · intro c hc
      rw[show Ad _=eI a0 ++ eI a1 ++ (eS D5) a2 from rfl] at hc
      simp only[List.mem_append] at hc
      rcases hc with (hc | hc) | hc
      · exact l0 c hc
      · exact l1 c hc
      · exact l2 c hc
theorem eh:Rd encH Tryz.prog w 22 (eS Ad) (Cb Ml):=Rd.slice Tryz.underlying22 (of_decide_eq_true (by kernel_rfl)) eJ
theorem bT:Rd encH Tryz.prog w 159 AU LS:=fun fuel cs x h=>by
  obtain⟨hl,n,hf⟩:=GL Tryz.underlying159 h
  obtain⟨y0,h0⟩:=hf 0 _ rfl
  obtain⟨y1,h1⟩:=hf 1 _ rfl
  obtain⟨y2,h2⟩:=hf 2 _ rfl
  obtain⟨y3,h3⟩:=hf 3 _ rfl
  obtain⟨y4,h4⟩:=hf 4 _ rfl
  obtain⟨y5,h5⟩:=hf 5 _ rfl
  obtain⟨a0,r0,l0,g0⟩:=L1 _ _ _ h0
  obtain⟨a1,r1,l1,g1⟩:=L1 _ _ _ h1
  obtain⟨a2,r2,l2,g2⟩:=L1 _ _ _ h2
  obtain⟨a3,r3,l3,g3⟩:=L1 _ _ _ h3
  obtain⟨a4,r4,l4,g4⟩:=NU _ _ _ h4
  obtain⟨a5,r5,l5,g5⟩:=NU _ _ _ h5
  have e3:Tryz.prog.cellsOf 3=1:=by kernel_rfl
  have e26:Tryz.prog.cellsOf 26=1:=by kernel_rfl
  have e159:Tryz.prog.cellsOf 159=6:=by kernel_rfl
  simp only[e3,e26,e159] at hl r0 r1 r2 r3 r4 r5
  match cs,hl with
  | [c0,c1,c2,c3,c4,c5],_=>
    refine⟨⟨a0,a1,a2,a3,a4,a5⟩,?_,?_,⟨g0,g1,g2,g3,g4,g5⟩⟩
    · exact BW (xs:=eI a0) (us:=[c0]) r0 (BW (xs:=eI a1) (us:=[c1]) r1 (BW (xs:=eI a2) (us:=[c2]) r2 (BW (xs:=eI a3) (us:=[c3]) r3 (BW (xs:=(eS eI) a4) (us:=[c4]) r4 (r5)))))
    · intro c hc
      rw[show AU _=eI a0 ++ eI a1 ++ eI a2 ++ eI a3 ++ (eS eI) a4 ++ (eS eI) a5 from rfl] at hc
      simp only[List.mem_append] at hc
      rcases hc with ((((hc | hc) | hc) | hc) | hc) | hc
      · exact l0 c hc
      · exact l1 c hc
      · exact l2 c hc
      · exact l3 c hc
      · exact l4 c hc
      · exact l5 c hc
theorem dy:Rd encH Tryz.prog w 78 (eS AU) (Cb LS):=Rd.slice Tryz.underlying78 (of_decide_eq_true (by kernel_rfl)) bT
theorem dA:Rd encH Tryz.prog w 80 Az Me:=fun fuel cs x h=>by
  obtain⟨hl,n,hf⟩:=GL Tryz.underlying80 h
  obtain⟨y0,h0⟩:=hf 0 _ rfl
  obtain⟨y1,h1⟩:=hf 1 _ rfl
  obtain⟨y2,h2⟩:=hf 2 _ rfl
  obtain⟨y3,h3⟩:=hf 3 _ rfl
  obtain⟨y4,h4⟩:=hf 4 _ rfl
  obtain⟨a0,r0,l0,g0⟩:=NU _ _ _ h0
  obtain⟨a1,r1,l1,g1⟩:=NU _ _ _ h1
  obtain⟨a2,r2,l2,g2⟩:=L1 _ _ _ h2
  obtain⟨a3,r3,l3,g3⟩:=L1 _ _ _ h3
  obtain⟨a4,r4,l4,g4⟩:=dy _ _ _ h4
  have e3:Tryz.prog.cellsOf 3=1:=by kernel_rfl
  have e26:Tryz.prog.cellsOf 26=1:=by kernel_rfl
  have e78:Tryz.prog.cellsOf 78=1:=by kernel_rfl
  have e80:Tryz.prog.cellsOf 80=5:=by kernel_rfl
  simp only[e3,e26,e78,e80] at hl r0 r1 r2 r3 r4
  match cs,hl with
  | [c0,c1,c2,c3,c4],_=>
    refine⟨⟨a0,a1,a2,a3,a4⟩,?_,?_,⟨g0,g1,g2,g3,g4⟩⟩
    · exact BW (xs:=(eS eI) a0) (us:=[c0]) r0 (BW (xs:=(eS eI) a1) (us:=[c1]) r1 (BW (xs:=eI a2) (us:=[c2]) r2 (BW (xs:=eI a3) (us:=[c3]) r3 (r4))))
    · intro c hc
      rw[show Az _=(eS eI) a0 ++ (eS eI) a1 ++ eI a2 ++ eI a3 ++ (eS AU) a4 from rfl] at hc
      simp only[List.mem_append] at hc
      rcases hc with (((hc | hc) | hc) | hc) | hc
      · exact l0 c hc
      · exact l1 c hc
      · exact l2 c hc
      · exact l3 c hc
      · exact l4 c hc
theorem dr:Rd encH Tryz.prog w 23 (eS Az) (Cb Me):=Rd.slice Tryz.underlying23 (of_decide_eq_true (by kernel_rfl)) dA
theorem dq:Rd encH Tryz.prog w 25 Ao Pr:=fun fuel cs x h=>by
  obtain⟨hl,n,hf⟩:=GL Tryz.underlying25 h
  obtain⟨y0,h0⟩:=hf 0 _ rfl
  obtain⟨y1,h1⟩:=hf 1 _ rfl
  obtain⟨a0,r0,l0,g0⟩:=eh _ _ _ h0
  obtain⟨a1,r1,l1,g1⟩:=dr _ _ _ h1
  have e22:Tryz.prog.cellsOf 22=1:=by kernel_rfl
  have e23:Tryz.prog.cellsOf 23=1:=by kernel_rfl
  have e25:Tryz.prog.cellsOf 25=2:=by kernel_rfl
  simp only[e22,e23,e25] at hl r0 r1
  match cs,hl with
  | [c0,c1],_=>
    refine⟨⟨a0,a1⟩,?_,?_,⟨g0,g1⟩⟩
    · exact BW (xs:=(eS Ad) a0) (us:=[c0]) r0 (r1)
    · intro c hc
      rw[show Ao _=(eS Ad) a0 ++ (eS Az) a1 from rfl] at hc
      simp only[List.mem_append] at hc
      rcases hc with hc | hc
      · exact l0 c hc
      · exact l1 c hc
theorem fJ:Rd encH Tryz.prog w 82 Aj JI:=fun fuel cs x h=>by
  obtain⟨hl,n,hf⟩:=GL Tryz.underlying82 h
  obtain⟨y0,h0⟩:=hf 0 _ rfl
  obtain⟨y1,h1⟩:=hf 1 _ rfl
  obtain⟨y2,h2⟩:=hf 2 _ rfl
  obtain⟨a0,r0,l0,g0⟩:=L1 _ _ _ h0
  obtain⟨a1,r1,l1,g1⟩:=L1 _ _ _ h1
  obtain⟨a2,r2,l2,g2⟩:=NU _ _ _ h2
  have e3:Tryz.prog.cellsOf 3=1:=by kernel_rfl
  have e26:Tryz.prog.cellsOf 26=1:=by kernel_rfl
  have e82:Tryz.prog.cellsOf 82=3:=by kernel_rfl
  simp only[e3,e26,e82] at hl r0 r1 r2
  match cs,hl with
  | [c0,c1,c2],_=>
    refine⟨⟨a0,a1,a2⟩,?_,?_,⟨g0,g1,g2⟩⟩
    · exact BW (xs:=eI a0) (us:=[c0]) r0 (BW (xs:=eI a1) (us:=[c1]) r1 (r2))
    · intro c hc
      rw[show Aj _=eI a0 ++ eI a1 ++ (eS eI) a2 from rfl] at hc
      simp only[List.mem_append] at hc
      rcases hc with (hc | hc) | hc
      · exact l0 c hc
      · exact l1 c hc
      · exact l2 c hc
theorem eK:Rd encH Tryz.prog w 27 (eS Aj) (Cb JI):=Rd.slice Tryz.underlying27 (of_decide_eq_true (by kernel_rfl)) fJ
theorem eG:Rd encH Tryz.prog w 85 Ax IJ:=fun fuel cs x h=>by
  obtain⟨hl,n,hf⟩:=GL Tryz.underlying85 h
  obtain⟨y0,h0⟩:=hf 0 _ rfl
  obtain⟨y1,h1⟩:=hf 1 _ rfl
  obtain⟨y2,h2⟩:=hf 2 _ rfl
  obtain⟨y3,h3⟩:=hf 3 _ rfl
  obtain⟨y4,h4⟩:=hf 4 _ rfl
  obtain⟨y5,h5⟩:=hf 5 _ rfl
  obtain⟨a0,r0,l0,g0⟩:=L1 _ _ _ h0
  obtain⟨a1,r1,l1,g1⟩:=L1 _ _ _ h1
  obtain⟨a2,r2,l2,g2⟩:=L1 _ _ _ h2
  obtain⟨a3,r3,l3,g3⟩:=NU _ _ _ h3
  obtain⟨a4,r4,l4,g4⟩:=NU _ _ _ h4
  obtain⟨a5,r5,l5,g5⟩:=NU _ _ _ h5
  have e3:Tryz.prog.cellsOf 3=1:=by kernel_rfl
  have e26:Tryz.prog.cellsOf 26=1:=by kernel_rfl
  have e85:Tryz.prog.cellsOf 85=6:=by kernel_rfl
  simp only[e3,e26,e85] at hl r0 r1 r2 r3 r4 r5
  match cs,hl with
  | [c0,c1,c2,c3,c4,c5],_=>
    refine⟨⟨a0,a1,a2,a3,a4,a5⟩,?_,?_,⟨g0,g1,g2,g3,g4,g5⟩⟩
    · exact BW (xs:=eI a0) (us:=[c0]) r0 (BW (xs:=eI a1) (us:=[c1]) r1 (BW (xs:=eI a2) (us:=[c2]) r2 (BW (xs:=(eS eI) a3) (us:=[c3]) r3 (BW (xs:=(eS eI) a4) (us:=[c4]) r4 (r5)))))
    · intro c hc
      rw[show Ax _=eI a0 ++ eI a1 ++ eI a2 ++ (eS eI) a3 ++ (eS eI) a4 ++ (eS eI) a5 from rfl] at hc
      simp only[List.mem_append] at hc
      rcases hc with ((((hc | hc) | hc) | hc) | hc) | hc
      · exact l0 c hc
      · exact l1 c hc
      · exact l2 c hc
      · exact l3 c hc
      · exact l4 c hc
      · exact l5 c hc
theorem fP:Rd encH Tryz.prog w 28 (eS Ax) (Cb IJ):=Rd.slice Tryz.underlying28 (of_decide_eq_true (by kernel_rfl)) eG
theorem fA:Rd encH Tryz.prog w 30 Ah JA:=fun fuel cs x h=>by
  obtain⟨hl,n,hf⟩:=GL Tryz.underlying30 h
  obtain⟨y0,h0⟩:=hf 0 _ rfl
  obtain⟨y1,h1⟩:=hf 1 _ rfl
  obtain⟨y2,h2⟩:=hf 2 _ rfl
  obtain⟨y3,h3⟩:=hf 3 _ rfl
  obtain⟨y4,h4⟩:=hf 4 _ rfl
  obtain⟨y5,h5⟩:=hf 5 _ rfl
  obtain⟨y6,h6⟩:=hf 6 _ rfl
  obtain⟨a0,r0,l0,g0⟩:=L1 _ _ _ h0
  obtain⟨a1,r1,l1,g1⟩:=L1 _ _ _ h1
  obtain⟨a2,r2,l2,g2⟩:=L1 _ _ _ h2
  obtain⟨a3,r3,l3,g3⟩:=L1 _ _ _ h3
  obtain⟨a4,r4,l4,g4⟩:=NU _ _ _ h4
  obtain⟨a5,r5,l5,g5⟩:=eK _ _ _ h5
  obtain⟨a6,r6,l6,g6⟩:=fP _ _ _ h6
  have e3:Tryz.prog.cellsOf 3=1:=by kernel_rfl
  have e26:Tryz.prog.cellsOf 26=1:=by kernel_rfl
  have e27:Tryz.prog.cellsOf 27=1:=by kernel_rfl
  have e28:Tryz.prog.cellsOf 28=1:=by kernel_rfl
  have e30:Tryz.prog.cellsOf 30=7:=by kernel_rfl
  simp only[e3,e26,e27,e28,e30] at hl r0 r1 r2 r3 r4 r5 r6
  match cs,hl with
  | [c0,c1,c2,c3,c4,c5,c6],_=>
    refine⟨⟨a0,a1,a2,a3,a4,a5,a6⟩,?_,?_,⟨g0,g1,g2,g3,g4,g5,g6⟩⟩
    · exact BW (xs:=eI a0) (us:=[c0]) r0 (BW (xs:=eI a1) (us:=[c1]) r1 (BW (xs:=eI a2) (us:=[c2]) r2 (BW (xs:=eI a3) (us:=[c3]) r3 (BW (xs:=(eS eI) a4) (us:=[c4]) r4 (BW (xs:=(eS Aj) a5) (us:=[c5]) r5 (r6))))))
    · intro c hc
      rw[show Ah _=eI a0 ++ eI a1 ++ eI a2 ++ eI a3 ++ (eS eI) a4 ++ (eS Aj) a5 ++ (eS Ax) a6 from rfl] at hc
      simp only[List.mem_append] at hc
      rcases hc with (((((hc | hc) | hc) | hc) | hc) | hc) | hc
      · exact l0 c hc
      · exact l1 c hc
      · exact l2 c hc
      · exact l3 c hc
      · exact l4 c hc
      · exact l5 c hc
      · exact l6 c hc
end

theorem walk {w:World} {base:Nat} {H:Type} {encH:TypeId×Value→H} {v0:Value} {d0:DataW H} {q0:List MemPlace} {v1:Value} {d1:DataW H} {q1:List MemPlace} (h0:DataW.Trod encH Tryz.prog w 0 (fun _=>true) true 25 v0 d0 q0) (h1:DataW.Trod encH Tryz.prog w 0 (fun _=>true) true 30 v1 d1 q1) (k0:Value.okWide Tryz.prog w .any base 25 v0) (k1:Value.okWide Tryz.prog w .any base 30 v1) :
    Calls Tryz.prog 4 #[v0,v1] w fun e w'=>e=.returned (.bool true)∧Below w.heap.size w w':=by
  obtain⟨cs0,rfl,_⟩:=okWide_struct Tryz.underlying25 k0
  obtain⟨fuel0,f0⟩:=h0
  obtain⟨a0,r0,_,g0⟩:=dq _ _ _ f0
  replace r0:=TF r0
  obtain⟨cs1,rfl,_⟩:=okWide_struct Tryz.underlying30 k1
  obtain⟨fuel1,f1⟩:=h1
  obtain⟨a1,r1,_,g1⟩:=fA _ _ _ f1
  replace r1:=TF r1
  exact AY.law (LJ (Lz g0 g1)) ((BW (us:=[.agg cs0]) r0 r1))

theorem lifted (os:Os) (started:os.Started) (H:Type) (enc:TypeId×Value→H) :
    ReturnsInHanded {} Tryz.checked os 4 .any (Rows.fnExactGarbageSpec.pre6 enc Tryz.prog Tryz.f4 Rows.fnExactGarbageRow.domain false) (Rows.fnExactGarbageSpec.post enc Tryz.prog Tryz.f4 false true false false):=by
  refine returnsInHanded_of_change (C:=Tryz.checked) Xs started (by kernel_rfl) Tryz.func4
    (ChangeSpec.witness6 (enc:=enc) (C:=Tryz.checked) false ⟨#[],#[.agg #[.slice none 0 0,.slice none 0 0],.agg #[.int .i64 0,.int .i64 0,.int .i64 0,.int .i64 0,.slice none 0 0,.slice none 0 0,.slice none 0 0]],[]⟩ 8 (by kernel_rfl) (by kernel_rfl) (by kernel_rfl) (by kernel_rfl)) ?_
  intro W base args ds gs before hval0 hW hcnd _
  have hval :∀(j:Nat) t v,Tryz.f4.params[j]?=some t→args[j]?=some v→Value.okWide Tryz.prog W .any base t v:=hval0
  have hW':=hW
  obtain⟨p,q,hA0,hV,rfl,hfz,hnd⟩:=hW
  have hA:DataW.TrodAll enc Tryz.prog W 0 (fun _=>true) true Tryz.f4.params.toList args.toList ds p:=hA0
  rw[Tryz.params4] at hA hval
  obtain⟨v0,vs0,d0,ds0,p0,q0,hargs,rfl,rfl,h0,r0⟩:=trodAll_cons hA
  obtain⟨v1,vs1,d1,ds1,p1,q1,rfl,rfl,rfl,h1,r1⟩:=trodAll_cons r0
  obtain⟨rfl,rfl,rfl⟩:=trodAll_nil r1
  obtain rfl:args=#[v0,v1]:=by cases args;simp_all
  obtain⟨rfl,rfl⟩:=trodVars_none hV
  have lt0 :∀x∈p0,x.block < W.heap.size:=by obtain⟨m,hm⟩:=h0;exact DataW.trod_lt m _ _ _ hm
  have lt1 :∀x∈p1,x.block < W.heap.size:=by obtain⟨m,hm⟩:=h1;exact DataW.trod_lt m _ _ _ hm
  refine (walk h0 h1 (hval 0 25 v0 rfl rfl) (hval 1 30 v1 rfl rfl)).mono fun e W' ⟨he,bel⟩=>?_
  subst he
  exact⟨_,rfl,_,_,_,[],_,[],hW',trodAll_mk1 (shut_bool Tryz.underlying4 _),(trodAll_cons_mk (Below.trod TT (by kernel_rfl) (of_decide_eq_true (by kernel_rfl)) h0 bel lt0) (trodAll_cons_mk (Below.trod TT (by kernel_rfl) (of_decide_eq_true (by kernel_rfl)) h1 bel lt1) trodAll_mk0)),rfl,bel.frame _,fun h=>by cases h⟩

theorem fL:Rows.fnExactGarbageRow.holds Tryz.pinned (OpenSpec.ofChange Rows.fnExactGarbageSpec):=
  OpenClaim.holds_of_wide 4 Tryz.f4 rfl rfl rfl rfl rfl rfl rfl ⟨rfl,rfl,rfl,rfl,rfl⟩ rfl rfl rfl rfl rfl (by kernel_rfl) Tryz.func4 closed
    (of_decide_eq_true (by kernel_rfl)) (by unfold Func.isWrapper;rw[if_neg (of_decide_eq_false (by kernel_rfl))];exact⟨rfl,rfl⟩)
    (fun os started H enc _=>lifted os started H enc)

/-- The statement. -/
theorem proved:Rows.FnExactGarbageSaid:=fL
end Go.Proofs.YtobjlimoekffaaaGreat.fnExactGarbage
