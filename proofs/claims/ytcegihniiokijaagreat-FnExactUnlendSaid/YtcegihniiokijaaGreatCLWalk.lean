/- The copy of declarations: a row that Bm all that lies under it. -/
import Derived.Test.YtcegihniiokijaaGreatCBWalk
import Derived.Test.YtcegihniiokijaaGreatGCloneDToCloneE

namespace Go.Proofs.YtcegihniiokijaaGreat.Cl
open Go Go.Abs RC
set_option maxRecDepth 100000
set_option maxHeartbeats 4000000
theorem Hm:CP Tryz.prog 98=some (true,3):=by kernel_rfl
theorem Ix:CP Tryz.prog 134=some (true,1):=by kernel_rfl
theorem N3:CP Tryz.prog 96=some (false,1):=by kernel_rfl
theorem Iu:CP Tryz.prog 37=some (false,1):=by kernel_rfl
theorem Lj:G6 Tryz.prog 98 2=some 2:=by kernel_rfl
theorem Mw:G6 Tryz.prog 134 0=some 0:=by kernel_rfl
theorem B2:GG Tryz.prog 98=some [.int .i64 0,.int .i64 0,.zc]:=by kernel_rfl
theorem Kd:GG Tryz.prog 134=some [.zc]:=by kernel_rfl
theorem bD:Aq Tryz.prog 127=true:=by kernel_rfl
theorem cV:Aq Tryz.prog 128=true:=by kernel_rfl
theorem Mx:Aq Tryz.prog 77=true:=by kernel_rfl

theorem RE:True:=trivial
theorem L6 {N:Nat} {p0 r:List Ag} (h0:GH N p0=some r):Ae Tryz.prog 76 [(ls AG p0)] [] (fun v st=>v=(.own 0 0 (List.length r))∧st=[⟨0,98,3,List.map (Ab 134 3) r⟩]):=by
  unfold GH at h0
  refine Ae.intro Tryz.func76 U (by show 1≤46;decide) ?_
  show AW _ 0 _ (ZJ _ 0 Tryz.f76 _) ⟨46,_,_⟩
  refine AS (AF (L:=[(0,(ls AG p0))]) ⟨.rfl,trivial⟩) ?_
  refine AE fun K1 hK1=>?_
  refine AJ (by rfl) ?_
  refine A7 (v:=.zc) Ah U (PO U) ?_
  refine AB (hK1 _ ?_)
  refine AE fun K2 hK2=>?_
  refine AJ (by rfl) ?_
  refine A7 (v:=(ls AG p0)) Ah U (JY U) ?_
  obtain⟨q9,gq9,h0⟩:=Sh.bind_some h0
  refine BW (v':=(.own 0 0 (List.length q9))) (st':=[⟨0,98,3,List.map AG q9⟩]) Ah bD (HW gq9) rfl U ⟨(Bf fun _=>U),trivial⟩ U U ?_
  refine A7 (v:=(.own 0 0 (List.length q9))) Ah U (PO U) ?_
  refine AB (hK2 _ ?_)
  have hmax:q9.length≤9223372036854775807:=by
    unfold CE at gq9
    obtain⟨x,hx,hs⟩:=Sh.bind_some gq9
    unfold Sh.app at hx
    split at hx
    · rename_i hb
      simp only[Option.some.injEq] at hx hs
      rw[← hs,← hx];simpa using hb.2
    · cases hx
  refine AE fun K4 hK4=>?_
  refine AE fun K5 hK5=>?_
  refine AJ (by rfl) ?_
  refine A7 (v:=(.own 0 0 (List.length q9))) Ah U (JY U) ?_
  refine A7 (v:=(i64 (Sh.len q9))) Ah U (Ek Oz U U U) ?_
  refine A7 (v:=(i64 0)) Ah U (JY U) ?_
  refine AB (hK5 _ ?_)
  obtain⟨o9,h1,h0⟩:=Sh.bind_some h0
  have M9 :∀(l:List Ag),o9=l→l.length=q9.length→∀s,Wk 0 s ⟨46,Ad [(3,(.own 0 0 (List.length q9)))],[⟨0,98,3,List.map (Ab 134 3) l⟩]⟩→K4 s:=by
    intro l hq hlen s hw
    subst o9
    refine hK4 _ (AS hw ?_)
    refine AE fun K10 hK10=>?_
    refine AJ (by rfl) ?_
    refine A7 (v:=(.own 0 0 (List.length q9))) Ah U (JY U) ?_
    refine A7 (v:=(.own 0 0 (List.length q9))) Ah U (PO U) ?_
    refine AB (hK10 _ ?_)
    replace h0:=Sh.AA h0
    subst r
    exact AK (Exists.intro _ (And.intro (AF (L:=[(2,(.own 0 0 (List.length q9)))]) ⟨.rfl,trivial⟩) (And.intro (by rw[hlen];rfl) rfl)))
  refine Aa (Au (σ:=Int×(List Ag)) (fun n v=>C7 N (Sh.len q9) n v.1 v.2=some o9∧v.2.length=q9.length∧0≤v.1∧v.1≤q9.length) (fun (t,l)=>⟨46,Ad [(3,(.own 0 0 (List.length q9))),(10,(.own 0 0 (List.length q9))),(11,(i64 (Sh.len q9))),(12,(i64 t))],[⟨0,98,3,mix (Ab 134 3) AG (Int.toNat t) l⟩]⟩) N (0,q9) ⟨h1,U,Int.le_refl _,Int.natCast_nonneg _⟩ ((AF (L:=[(3,(.own 0 0 (List.length q9))),(10,(.own 0 0 (List.length q9))),(11,(i64 (Sh.len q9))),(12,(i64 0))]) ⟨.rfl,.rfl,.rfl,.rfl,trivial⟩).trans (DQ (by rw[show Int.toNat 0=0 from U,Sq]))) (fun _ hv=>by have hv:=hv.1;rw[C7] at hv;cases hv) ?_)
  rintro n ⟨t,l⟩ ⟨h1,hll,ht0,ht1⟩
  try dsimp only at h1 hll ht0 ht1 ⊢
  rw[C7] at h1
  refine AE fun K11 hK11=>?_
  refine AJ (by rfl) ?_
  refine A7 (v:=(.bool (decide (t < (Sh.len q9))))) Ah U (VQ U U) ?_
  refine AB (hK11 _ ?_)
  refine AE fun K12 hK12=>?_
  refine Et (b:=decide (t < (Sh.len q9))) rfl (fun b13=>?_) (fun b13=>?_)
  · replace h1:=Sh.YP b13 h1
    refine AI (hK12 _ ?_)
    have htl:t < (q9.length:Int):=of_decide_eq_true b13
    obtain⟨d,gd,h1⟩:=Sh.bind_some h1
    obtain⟨q21,gq21,h1⟩:=Sh.bind_some h1
    obtain⟨o22,h2,h1⟩:=Sh.bind_some h1
    have hget:l[Int.toNat t]?=some d:=by have h:=gd;unfold Sh.get at h;rw[if_pos ht0] at h;exact h
    have hkl:Int.toNat t < (mix (Ab 134 3) AG (Int.toNat t) l).length:=by rw[VC];exact (List.getElem?_eq_some_iff.1 hget).1
    have hpd:CQ (mix (Ab 134 3) AG (Int.toNat t) l):=PN (fun _=>rfl) (fun _=>rfl)
    refine AE fun K14 hK14=>?_
    refine Aa ?_
    refine AE fun K15 hK15=>?_
    refine AJ (by rfl) ?_
    refine A7 (v:=(i64 t)) Ah U (JY U) ?_
    refine A7 (v:=(.ptr 0 0 (Int.toNat t) 0)) Ah U (Lf DA U U U ht0 htl) ?_
    refine A7 (v:=(.agg [(i64 d.from_),(i64 d.to),(ls Ar d.cons)])) Ah U (Cb Hm U U (R6 hget) (show 0+3≤3 by decide) rfl) ?_
    refine Ap (m:=1) (st':=[⟨0,98,3,mix (Ab 134 3) AG (Int.toNat t) l⟩,⟨0,98,3,[[(i64 0),(i64 0),.zc]]⟩]) Ah B2 U U ?_
    refine A7 (v:=(i64 t)) Ah U (PO U) ?_
    refine A3 (st':=[⟨0,98,3,mix (Ab 134 3) AG (Int.toNat t) l⟩,⟨0,98,3,[[(i64 d.from_),(i64 d.to),(ls Ar d.cons)]]⟩]) Ah Hm U U U U U U (show 0+3≤3 by decide) rfl ?_
    refine AB (hK15 _ ?_)
    refine AE fun K16 hK16=>?_
    refine AJ (by rfl) ?_
    refine A7 (v:=(.own 0 0 (List.length q9))) Ah U (JY U) ?_
    refine A7 (v:=(i64 t)) Ah U (JY U) ?_
    refine A7 (v:=(.ptr 1 0 0 2)) Ah U (HF Lj U U (show 0+2≤3 by decide) rfl) ?_
    refine A7 (v:=(ls Ar d.cons)) Ah U (Cf N3 U U U U) ?_
    refine BW (v':=(.own 2 0 (List.length q21))) (st':=[⟨0,98,3,mix (Ab 134 3) AG (Int.toNat t) l⟩,⟨0,98,3,[[(i64 d.from_),(i64 d.to),(ls Ar d.cons)]]⟩,⟨0,134,1,List.map Ar q21⟩]) Ah cV (H7 gq21) rfl U ⟨(Bf fun _=>U),trivial⟩ U U ?_
    refine A7 (v:=(.ptr 0 0 (Int.toNat t) 0)) Ah U (Lf DA U U U ht0 htl) ?_
    refine A7 (v:=(.ptr 0 0 (Int.toNat t) 2)) Ah U (HF Lj U U (show 0+2≤3 by decide) rfl) ?_
    refine A3 (st':=[⟨0,98,3,(mix (Ab 134 3) AG (Int.toNat t) l).set (Int.toNat t) [(i64 d.from_),(i64 d.to),(.own 2 0 (List.length q21))]⟩,⟨0,98,3,[[(i64 d.from_),(i64 d.to),(ls Ar d.cons)]]⟩,⟨0,134,1,List.map Ar q21⟩]) Ah N3 U U (R6 hget) rfl U U (show 2+1≤3 by decide) rfl ?_
    refine AB (hK16 _ ?_)
    refine AE fun K17 hK17=>?_
    refine AJ (by rfl) ?_
    refine A7 (v:=(.ptr 1 0 0 2)) Ah U (HF Lj U U (show 0+2≤3 by decide) rfl) ?_
    refine A7 (v:=(ls Ar d.cons)) Ah U (Cf N3 U U U U) ?_
    refine A7 (v:=(i64 (Sh.len d.cons))) Ah U (Bo Nn U) ?_
    refine A7 (v:=(i64 0)) Ah U (JY U) ?_
    refine AB (hK17 _ ?_)
    have M22 :∀(q:List BO),o22=q→q.length=q21.length→∀s,Wk 0 s ⟨46,Ad [(3,(.own 0 0 (List.length q9))),(10,(.own 0 0 (List.length q9))),(11,(i64 (Sh.len q9))),(12,(i64 t))],[⟨0,98,3,(mix (Ab 134 3) AG (Int.toNat t) l).set (Int.toNat t) [(i64 d.from_),(i64 d.to),(.own 2 0 (List.length q21))]⟩,⟨0,98,3,[[(i64 d.from_),(i64 d.to),(ls Ar d.cons)]]⟩,⟨0,134,1,List.map (BD 3) q⟩]⟩→K14 s:=by
      intro q hq hlq s hw
      subst o22
      refine hK14 _ (AS hw ?_)
      have hmix:((mix (Ab 134 3) AG (Int.toNat t) l).set (Int.toNat t) [(i64 d.from_),(i64 d.to),(.own 2 0 (List.length q21))]).set (Int.toNat t) (Ab 134 3 (Ag.mk d.from_ d.to q))=mix (Ab 134 3) AG (Int.toNat t+1) (Sh.put l t (Ag.mk d.from_ d.to q)):=by rw[List.set_set];exact U7 hget
      refine AS (Ll (id:=0) (m:=2) (i:=Int.toNat t) (j:=2) (st':=[⟨0,98,3,mix (Ab 134 3) AG (Int.toNat t+1) (Sh.put l t (Ag.mk d.from_ d.to q))⟩,⟨0,98,3,[[(i64 d.from_),(i64 d.to),(ls Ar d.cons)]]⟩,⟨1,134,1,[]⟩]) rfl (List.getElem?_set_self hkl) rfl U (by simp[hlq]) (by decide) (Nat.zero_le _) (RC.GQ fun _=>U) (by rw[← hmix];rfl)) ?_
      refine AS (Rf (L:=[(3,(.own 0 0 (List.length q9))),(10,(.own 0 0 (List.length q9))),(11,(i64 (Sh.len q9))),(12,(i64 t))]) (st':=[⟨0,98,3,mix (Ab 134 3) AG (Int.toNat t+1) (Sh.put l t (Ag.mk d.from_ d.to q))⟩]) [0] (by decide) rfl U (fun row h=>by rw[List.mem_singleton.1 h];exact Lg (PN (fun _=>U) (fun _=>U))) ⟨.rfl,.rfl,.rfl,.rfl,trivial⟩) ?_
      refine AJ (by rfl) ?_
      refine A7 (v:=(i64 (Sh.w (t+1)))) Ah U (Ts U U) ?_
      refine A7 (v:=(i64 (Sh.w (t+1)))) Ah U (JY U) ?_
      have hw1:Sh.w (t+1)=t+1:=Go.Abs.wrap_i64 (by omega) (by omega)
      have ht2:Int.toNat (Sh.w (t+1))=Int.toNat t+1:=by rw[hw1];omega
      exact AB (Exists.intro (Sh.w (t+1),Sh.put l t (Ag.mk d.from_ d.to q)) (And.intro ⟨h1,by rw[Sh.BB];exact hll,by rw[hw1];omega,by rw[hw1];omega⟩ ((AF (L:=[(3,(.own 0 0 (List.length q9))),(10,(.own 0 0 (List.length q9))),(11,(i64 (Sh.len q9))),(12,(i64 (Sh.w (t+1))))]) ⟨.rfl,.rfl,.rfl,.rfl,trivial⟩).trans (DQ (by rw[ht2])))))
    have hq0:q21.length=d.cons.length:=by
      unfold Bx at gq21
      obtain⟨x,hx,hs⟩:=Sh.bind_some gq21
      unfold Sh.app at hx
      split at hx
      · simp only[Option.some.injEq,List.nil_append] at hx hs
        rw[← hs,← hx]
      · cases hx
    have hmaxc:d.cons.length≤9223372036854775807:=by
      unfold Bx at gq21
      obtain⟨x,hx,hs⟩:=Sh.bind_some gq21
      unfold Sh.app at hx
      split at hx
      · rename_i hb
        simpa using hb.2
      · cases hx
    refine Aa (Au (σ:=Int×(List BO)) (fun n v=>DC d.cons n v.1 v.2=some o22∧v.2.length=q21.length∧0≤v.1∧v.1≤d.cons.length) (fun (i,q)=>⟨46,Ad [(3,(.own 0 0 (List.length q9))),(4,(i64 t)),(10,(.own 0 0 (List.length q9))),(11,(i64 (Sh.len q9))),(12,(i64 t)),(25,(ls Ar d.cons)),(26,(i64 (Sh.len d.cons))),(27,(i64 i))],[⟨0,98,3,(mix (Ab 134 3) AG (Int.toNat t) l).set (Int.toNat t) [(i64 d.from_),(i64 d.to),(.own 2 0 (List.length q21))]⟩,⟨0,98,3,[[(i64 d.from_),(i64 d.to),(ls Ar d.cons)]]⟩,⟨0,134,1,mix (BD 3) Ar (Int.toNat i) q⟩]⟩) N (0,q21) ⟨h2,U,Int.le_refl _,Int.natCast_nonneg _⟩ ((AF (L:=[(3,(.own 0 0 (List.length q9))),(4,(i64 t)),(10,(.own 0 0 (List.length q9))),(11,(i64 (Sh.len q9))),(12,(i64 t)),(25,(ls Ar d.cons)),(26,(i64 (Sh.len d.cons))),(27,(i64 0))]) ⟨.rfl,.rfl,.rfl,.rfl,.rfl,.rfl,.rfl,.rfl,trivial⟩).trans (DQ (by rw[show Int.toNat 0=0 from U,Sq]))) (fun _ hv=>by have hv:=hv.1;rw[DC] at hv;cases hv) ?_)
    rintro n2 ⟨i,q⟩ ⟨h2,hlq,hi0,hi1⟩
    try dsimp only at h2 hlq hi0 hi1 ⊢
    rw[DC] at h2
    refine AE fun K31 hK31=>?_
    refine AJ (by rfl) ?_
    refine A7 (v:=(.bool (decide (i < (Sh.len d.cons))))) Ah U (VQ U U) ?_
    refine AB (hK31 _ ?_)
    refine AE fun K32 hK32=>?_
    refine Et (b:=decide (i < (Sh.len d.cons))) rfl (fun b33=>?_) (fun b33=>?_)
    · replace h2:=Sh.YP b33 h2
      refine AI (hK32 _ ?_)
      have hil:i < (q21.length:Int):=by rw[hq0];exact of_decide_eq_true b33
      obtain⟨c,gc,h2⟩:=Sh.bind_some h2
      obtain⟨f,gf,h2⟩:=Sh.bind_some h2
      obtain⟨c2,gc2,h2⟩:=Sh.bind_some h2
      have hgc:q[Int.toNat i]?=some c2:=by have h:=gc2;unfold Sh.get at h;rw[if_pos hi0] at h;exact h
      have hkc:Int.toNat i < (mix (BD 3) Ar (Int.toNat i) q).length:=by rw[VC];exact (List.getElem?_eq_some_iff.1 hgc).1
      refine AE fun K34 hK34=>?_
      refine Aa ?_
      refine AE fun K35 hK35=>?_
      refine AJ (by rfl) ?_
      refine A7 (v:=(i64 i)) Ah U (JY U) ?_
      refine A7 (v:=(.BF (Ar c) 0)) Ah U (CL IC U U gc U) ?_
      refine A7 (v:=(.agg [(ls eI c.fields)])) Ah U (U4 Ix U (show 0+1≤1 by decide) rfl) ?_
      refine Ap (m:=3) (st':=[⟨0,98,3,(mix (Ab 134 3) AG (Int.toNat t) l).set (Int.toNat t) [(i64 d.from_),(i64 d.to),(.own 2 0 (List.length q21))]⟩,⟨0,98,3,[[(i64 d.from_),(i64 d.to),(ls Ar d.cons)]]⟩,⟨0,134,1,mix (BD 3) Ar (Int.toNat i) q⟩,⟨0,134,1,[[.zc]]⟩]) Ah Kd U U ?_
      refine A7 (v:=(i64 i)) Ah U (PO U) ?_
      refine A3 (st':=[⟨0,98,3,(mix (Ab 134 3) AG (Int.toNat t) l).set (Int.toNat t) [(i64 d.from_),(i64 d.to),(.own 2 0 (List.length q21))]⟩,⟨0,98,3,[[(i64 d.from_),(i64 d.to),(ls Ar d.cons)]]⟩,⟨0,134,1,mix (BD 3) Ar (Int.toNat i) q⟩,⟨0,134,1,[[(ls eI c.fields)]]⟩]) Ah Ix U U U U U U (show 0+1≤1 by decide) rfl ?_
      refine AB (hK35 _ ?_)
      refine AS (AF (L:=[(3,(.own 0 0 (List.length q9))),(4,(i64 t)),(6,(i64 i)),(7,(.ptr 3 0 0 0)),(10,(.own 0 0 (List.length q9))),(11,(i64 (Sh.len q9))),(12,(i64 t)),(25,(ls Ar d.cons)),(26,(i64 (Sh.len d.cons))),(27,(i64 i))]) ⟨.rfl,.rfl,.rfl,.rfl,.rfl,.rfl,.rfl,.rfl,.rfl,.rfl,trivial⟩) ?_
      refine KP (by kernel_rfl) ?_
      refine NT fun A hA=>?_
      have hmixc:((mix (BD 3) Ar (Int.toNat i) q).set (Int.toNat i) [(.own 4 0 (List.length f))]).set (Int.toNat i) (BD 3 (BO.mk f))=mix (BD 3) Ar (Int.toNat i+1) (Sh.put q i (BO.mk f)):=by rw[List.set_set];exact U7 hgc
      have hselr :∀row∈[⟨0,98,3,(mix (Ab 134 3) AG (Int.toNat t) l).set (Int.toNat t) [(i64 d.from_),(i64 d.to),(.own 2 0 (List.length q21))]⟩,⟨0,98,3,[[(i64 d.from_),(i64 d.to),(ls Ar d.cons)]]⟩,⟨0,134,1,mix (BD 3) Ar (Int.toNat i+1) (Sh.put q i (BO.mk f))⟩],Bp [0,1,2] row=row:=by
        intro row h
        rcases List.mem_cons.1 h with rfl | h
        · exact UR hpd U
        rcases List.mem_cons.1 h with rfl | h
        · rfl
        rw[List.mem_singleton.1 h]
        exact Lg (PN (fun _=>U) (fun _=>U))
      have A_33:A 3 #[true,true,true,true,true,true,true,true,true,false,false,false] ⟨46,Ad [(3,(.own 0 0 (List.length q9))),(4,(i64 t)),(6,(i64 i)),(7,(.ptr 3 0 0 0)),(10,(.own 0 0 (List.length q9))),(11,(i64 (Sh.len q9))),(12,(i64 t)),(25,(ls Ar d.cons)),(26,(i64 (Sh.len d.cons))),(27,(i64 i)),(32,(.own 0 0 (List.length q9))),(33,(i64 t)),(37,(i64 i)),(34,(.ptr 0 0 (Int.toNat t) 0)),(35,(.ptr 0 0 (Int.toNat t) 2)),(36,(.own 2 0 (List.length q21))),(38,(.ptr 3 0 0 0)),(39,(ls eI c.fields)),(40,(.own 4 0 (List.length f)))],[⟨0,98,3,(mix (Ab 134 3) AG (Int.toNat t) l).set (Int.toNat t) [(i64 d.from_),(i64 d.to),(.own 2 0 (List.length q21))]⟩,⟨0,98,3,[[(i64 d.from_),(i64 d.to),(ls Ar d.cons)]]⟩,⟨0,134,1,mix (BD 3) Ar (Int.toNat i) q⟩,⟨0,134,1,[[(ls eI c.fields)]]⟩,⟨0,3,1,List.map eI f⟩]⟩:=(hA _ _ _).2 (by
        refine An [9] U (by kernel_rfl) (by decide) ⟨?_,trivial⟩
        refine A5.of (i:=9) rfl U (by rfl) ?_
        refine A7 (v:=(.ptr 2 0 (Int.toNat i) 0)) Ah U (Lf IC U U U hi0 hil) (AB ⟨U,?_⟩)
        refine An [10] U (by kernel_rfl) (by decide) ⟨?_,trivial⟩
        refine A5.of (i:=10) rfl U (by rfl) ?_
        refine A7 (v:=(.ptr 2 0 (Int.toNat i) 0)) Ah U (HF Mw U U (show 0+0≤1 by decide) rfl) (AB ⟨U,?_⟩)
        refine An [11] U (by kernel_rfl) (by decide) ⟨?_,trivial⟩
        refine A5.of (i:=11) rfl U (by rfl) ?_
        refine A3 (st':=[⟨0,98,3,(mix (Ab 134 3) AG (Int.toNat t) l).set (Int.toNat t) [(i64 d.from_),(i64 d.to),(.own 2 0 (List.length q21))]⟩,⟨0,98,3,[[(i64 d.from_),(i64 d.to),(ls Ar d.cons)]]⟩,⟨0,134,1,(mix (BD 3) Ar (Int.toNat i) q).set (Int.toNat i) [(.own 4 0 (List.length f))]⟩,⟨0,134,1,[[(ls eI c.fields)]]⟩,⟨0,3,1,List.map eI f⟩]) Ah Iu U U (R6 hgc) rfl U U (show 0+1≤1 by decide) rfl (AB ⟨U,?_⟩)
        refine LW U (by kernel_rfl) ?_
        refine hK34 _ ?_
        refine AS (Ll (id:=2) (m:=4) (i:=Int.toNat i) (j:=0) (st':=[⟨0,98,3,(mix (Ab 134 3) AG (Int.toNat t) l).set (Int.toNat t) [(i64 d.from_),(i64 d.to),(.own 2 0 (List.length q21))]⟩,⟨0,98,3,[[(i64 d.from_),(i64 d.to),(ls Ar d.cons)]]⟩,⟨0,134,1,mix (BD 3) Ar (Int.toNat i+1) (Sh.put q i (BO.mk f))⟩,⟨0,134,1,[[(ls eI c.fields)]]⟩,⟨1,3,1,[]⟩]) rfl (List.getElem?_set_self hkc) rfl U (by simp) (by decide) (Nat.zero_le _) (RC.GQ fun _=>U) (by rw[← hmixc];rfl)) ?_
        refine AS (Rf (L:=[(3,(.own 0 0 (List.length q9))),(4,(i64 t)),(10,(.own 0 0 (List.length q9))),(11,(i64 (Sh.len q9))),(12,(i64 t)),(25,(ls Ar d.cons)),(26,(i64 (Sh.len d.cons))),(27,(i64 i))]) (st':=[⟨0,98,3,(mix (Ab 134 3) AG (Int.toNat t) l).set (Int.toNat t) [(i64 d.from_),(i64 d.to),(.own 2 0 (List.length q21))]⟩,⟨0,98,3,[[(i64 d.from_),(i64 d.to),(ls Ar d.cons)]]⟩,⟨0,134,1,mix (BD 3) Ar (Int.toNat i+1) (Sh.put q i (BO.mk f))⟩]) [0,1,2] (by decide) rfl U hselr ⟨.rfl,.rfl,.rfl,.rfl,.rfl,.rfl,.rfl,.rfl,trivial⟩) ?_
        refine AJ (by rfl) ?_
        refine A7 (v:=(i64 (Sh.w (i+1)))) Ah U (Ts U U) ?_
        refine A7 (v:=(i64 (Sh.w (i+1)))) Ah U (JY U) ?_
        have htc:i < (d.cons.length:Int):=of_decide_eq_true b33
        have hw1:Sh.w (i+1)=i+1:=Go.Abs.wrap_i64 (by omega) (by omega)
        have ht2:Int.toNat (Sh.w (i+1))=Int.toNat i+1:=by rw[hw1];omega
        exact AB (Exists.intro (Sh.w (i+1),Sh.put q i (BO.mk f)) (And.intro ⟨h2,by rw[Sh.BB];exact hlq,by rw[hw1];omega,by rw[hw1];omega⟩ ((AF (L:=[(3,(.own 0 0 (List.length q9))),(4,(i64 t)),(10,(.own 0 0 (List.length q9))),(11,(i64 (Sh.len q9))),(12,(i64 t)),(25,(ls Ar d.cons)),(26,(i64 (Sh.len d.cons))),(27,(i64 (Sh.w (i+1))))]) ⟨.rfl,.rfl,.rfl,.rfl,.rfl,.rfl,.rfl,.rfl,trivial⟩).trans (DQ (by rw[ht2]))))))
      have A_32:A 4 #[true,true,true,true,true,true,true,true,false,false,false,false] ⟨46,Ad [(3,(.own 0 0 (List.length q9))),(4,(i64 t)),(6,(i64 i)),(7,(.ptr 3 0 0 0)),(10,(.own 0 0 (List.length q9))),(11,(i64 (Sh.len q9))),(12,(i64 t)),(25,(ls Ar d.cons)),(26,(i64 (Sh.len d.cons))),(27,(i64 i)),(32,(.own 0 0 (List.length q9))),(33,(i64 t)),(37,(i64 i)),(34,(.ptr 0 0 (Int.toNat t) 0)),(35,(.ptr 0 0 (Int.toNat t) 2)),(36,(.own 2 0 (List.length q21))),(38,(.ptr 3 0 0 0)),(39,(ls eI c.fields))],[⟨0,98,3,(mix (Ab 134 3) AG (Int.toNat t) l).set (Int.toNat t) [(i64 d.from_),(i64 d.to),(.own 2 0 (List.length q21))]⟩,⟨0,98,3,[[(i64 d.from_),(i64 d.to),(ls Ar d.cons)]]⟩,⟨0,134,1,mix (BD 3) Ar (Int.toNat i) q⟩,⟨0,134,1,[[(ls eI c.fields)]]⟩]⟩:=(hA _ _ _).2 (by
        refine An [8] U (by kernel_rfl) (by decide) ⟨?_,trivial⟩
        · refine A5.of (i:=8) rfl U (by rfl) ?_
          refine BW (v':=(.own 4 0 (List.length f))) (st':=[⟨0,98,3,(mix (Ab 134 3) AG (Int.toNat t) l).set (Int.toNat t) [(i64 d.from_),(i64 d.to),(.own 2 0 (List.length q21))]⟩,⟨0,98,3,[[(i64 d.from_),(i64 d.to),(ls Ar d.cons)]]⟩,⟨0,134,1,mix (BD 3) Ar (Int.toNat i) q⟩,⟨0,134,1,[[(ls eI c.fields)]]⟩,⟨0,3,1,List.map eI f⟩]) Ah Mx (BY gf) rfl U ⟨(Bf fun _=>U),trivial⟩ U U (AB ⟨U,?_⟩)
          exact AH (AF (L:=[(3,(.own 0 0 (List.length q9))),(4,(i64 t)),(6,(i64 i)),(7,(.ptr 3 0 0 0)),(10,(.own 0 0 (List.length q9))),(11,(i64 (Sh.len q9))),(12,(i64 t)),(25,(ls Ar d.cons)),(26,(i64 (Sh.len d.cons))),(27,(i64 i)),(32,(.own 0 0 (List.length q9))),(33,(i64 t)),(37,(i64 i)),(34,(.ptr 0 0 (Int.toNat t) 0)),(35,(.ptr 0 0 (Int.toNat t) 2)),(36,(.own 2 0 (List.length q21))),(38,(.ptr 3 0 0 0)),(39,(ls eI c.fields)),(40,(.own 4 0 (List.length f)))]) ⟨.rfl,.rfl,.rfl,.rfl,.rfl,.rfl,.rfl,.rfl,.rfl,.rfl,.rfl,.rfl,.rfl,.rfl,.rfl,.rfl,.rfl,.rfl,.rfl,trivial⟩) (AR (by kernel_rfl) ((hA _ _ _).1 A_33)) rfl)
      have A_23:A 4 #[true,true,true,true,false,true,true,true,true,false,false,false] ⟨46,Ad [(3,(.own 0 0 (List.length q9))),(4,(i64 t)),(6,(i64 i)),(7,(.ptr 3 0 0 0)),(10,(.own 0 0 (List.length q9))),(11,(i64 (Sh.len q9))),(12,(i64 t)),(25,(ls Ar d.cons)),(26,(i64 (Sh.len d.cons))),(27,(i64 i)),(32,(.own 0 0 (List.length q9))),(33,(i64 t)),(37,(i64 i)),(34,(.ptr 0 0 (Int.toNat t) 0)),(35,(.ptr 0 0 (Int.toNat t) 2)),(38,(.ptr 3 0 0 0)),(39,(ls eI c.fields)),(40,(.own 4 0 (List.length f)))],[⟨0,98,3,(mix (Ab 134 3) AG (Int.toNat t) l).set (Int.toNat t) [(i64 d.from_),(i64 d.to),(.own 2 0 (List.length q21))]⟩,⟨0,98,3,[[(i64 d.from_),(i64 d.to),(ls Ar d.cons)]]⟩,⟨0,134,1,mix (BD 3) Ar (Int.toNat i) q⟩,⟨0,134,1,[[(ls eI c.fields)]]⟩,⟨0,3,1,List.map eI f⟩]⟩:=(hA _ _ _).2 (by
        refine An [4] U (by kernel_rfl) (by decide) ⟨?_,trivial⟩
        · refine A5.of (i:=4) rfl U (by rfl) ?_
          refine A7 (v:=(.own 2 0 (List.length q21))) Ah U (Cf N3 U U (List.getElem?_set_self hkl) rfl) (AB ⟨U,?_⟩)
          exact AH (AF (L:=[(3,(.own 0 0 (List.length q9))),(4,(i64 t)),(6,(i64 i)),(7,(.ptr 3 0 0 0)),(10,(.own 0 0 (List.length q9))),(11,(i64 (Sh.len q9))),(12,(i64 t)),(25,(ls Ar d.cons)),(26,(i64 (Sh.len d.cons))),(27,(i64 i)),(32,(.own 0 0 (List.length q9))),(33,(i64 t)),(37,(i64 i)),(34,(.ptr 0 0 (Int.toNat t) 0)),(35,(.ptr 0 0 (Int.toNat t) 2)),(36,(.own 2 0 (List.length q21))),(38,(.ptr 3 0 0 0)),(39,(ls eI c.fields)),(40,(.own 4 0 (List.length f)))]) ⟨.rfl,.rfl,.rfl,.rfl,.rfl,.rfl,.rfl,.rfl,.rfl,.rfl,.rfl,.rfl,.rfl,.rfl,.rfl,.rfl,.rfl,.rfl,.rfl,trivial⟩) (AR (by kernel_rfl) ((hA _ _ _).1 A_33)) rfl)
      have A_31:A 5 #[true,true,true,true,true,true,true,false,false,false,false,false] ⟨46,Ad [(3,(.own 0 0 (List.length q9))),(4,(i64 t)),(6,(i64 i)),(7,(.ptr 3 0 0 0)),(10,(.own 0 0 (List.length q9))),(11,(i64 (Sh.len q9))),(12,(i64 t)),(25,(ls Ar d.cons)),(26,(i64 (Sh.len d.cons))),(27,(i64 i)),(32,(.own 0 0 (List.length q9))),(33,(i64 t)),(37,(i64 i)),(34,(.ptr 0 0 (Int.toNat t) 0)),(35,(.ptr 0 0 (Int.toNat t) 2)),(36,(.own 2 0 (List.length q21))),(38,(.ptr 3 0 0 0))],[⟨0,98,3,(mix (Ab 134 3) AG (Int.toNat t) l).set (Int.toNat t) [(i64 d.from_),(i64 d.to),(.own 2 0 (List.length q21))]⟩,⟨0,98,3,[[(i64 d.from_),(i64 d.to),(ls Ar d.cons)]]⟩,⟨0,134,1,mix (BD 3) Ar (Int.toNat i) q⟩,⟨0,134,1,[[(ls eI c.fields)]]⟩]⟩:=(hA _ _ _).2 (by
        refine An [7] U (by kernel_rfl) (by decide) ⟨?_,trivial⟩
        · refine A5.of (i:=7) rfl U (by rfl) ?_
          refine A7 (v:=(ls eI c.fields)) Ah U (Cf Iu U U U U) (AB ⟨U,?_⟩)
          exact AH (AF (L:=[(3,(.own 0 0 (List.length q9))),(4,(i64 t)),(6,(i64 i)),(7,(.ptr 3 0 0 0)),(10,(.own 0 0 (List.length q9))),(11,(i64 (Sh.len q9))),(12,(i64 t)),(25,(ls Ar d.cons)),(26,(i64 (Sh.len d.cons))),(27,(i64 i)),(32,(.own 0 0 (List.length q9))),(33,(i64 t)),(37,(i64 i)),(34,(.ptr 0 0 (Int.toNat t) 0)),(35,(.ptr 0 0 (Int.toNat t) 2)),(36,(.own 2 0 (List.length q21))),(38,(.ptr 3 0 0 0)),(39,(ls eI c.fields))]) ⟨.rfl,.rfl,.rfl,.rfl,.rfl,.rfl,.rfl,.rfl,.rfl,.rfl,.rfl,.rfl,.rfl,.rfl,.rfl,.rfl,.rfl,.rfl,trivial⟩) (AR (by kernel_rfl) ((hA _ _ _).1 A_32)) rfl)
      have A_22:A 5 #[true,true,true,true,false,true,true,true,false,false,false,false] ⟨46,Ad [(3,(.own 0 0 (List.length q9))),(4,(i64 t)),(6,(i64 i)),(7,(.ptr 3 0 0 0)),(10,(.own 0 0 (List.length q9))),(11,(i64 (Sh.len q9))),(12,(i64 t)),(25,(ls Ar d.cons)),(26,(i64 (Sh.len d.cons))),(27,(i64 i)),(32,(.own 0 0 (List.length q9))),(33,(i64 t)),(37,(i64 i)),(34,(.ptr 0 0 (Int.toNat t) 0)),(35,(.ptr 0 0 (Int.toNat t) 2)),(38,(.ptr 3 0 0 0)),(39,(ls eI c.fields))],[⟨0,98,3,(mix (Ab 134 3) AG (Int.toNat t) l).set (Int.toNat t) [(i64 d.from_),(i64 d.to),(.own 2 0 (List.length q21))]⟩,⟨0,98,3,[[(i64 d.from_),(i64 d.to),(ls Ar d.cons)]]⟩,⟨0,134,1,mix (BD 3) Ar (Int.toNat i) q⟩,⟨0,134,1,[[(ls eI c.fields)]]⟩]⟩:=(hA _ _ _).2 (by
        refine An [4,8] U (by kernel_rfl) (by decide) ⟨?_,?_,trivial⟩
        · refine A5.of (i:=4) rfl U (by rfl) ?_
          refine A7 (v:=(.own 2 0 (List.length q21))) Ah U (Cf N3 U U (List.getElem?_set_self hkl) rfl) (AB ⟨U,?_⟩)
          exact AH (AF (L:=[(3,(.own 0 0 (List.length q9))),(4,(i64 t)),(6,(i64 i)),(7,(.ptr 3 0 0 0)),(10,(.own 0 0 (List.length q9))),(11,(i64 (Sh.len q9))),(12,(i64 t)),(25,(ls Ar d.cons)),(26,(i64 (Sh.len d.cons))),(27,(i64 i)),(32,(.own 0 0 (List.length q9))),(33,(i64 t)),(37,(i64 i)),(34,(.ptr 0 0 (Int.toNat t) 0)),(35,(.ptr 0 0 (Int.toNat t) 2)),(36,(.own 2 0 (List.length q21))),(38,(.ptr 3 0 0 0)),(39,(ls eI c.fields))]) ⟨.rfl,.rfl,.rfl,.rfl,.rfl,.rfl,.rfl,.rfl,.rfl,.rfl,.rfl,.rfl,.rfl,.rfl,.rfl,.rfl,.rfl,.rfl,trivial⟩) (AR (by kernel_rfl) ((hA _ _ _).1 A_32)) rfl
        · refine A5.of (i:=8) rfl U (by rfl) ?_
          refine BW (v':=(.own 4 0 (List.length f))) (st':=[⟨0,98,3,(mix (Ab 134 3) AG (Int.toNat t) l).set (Int.toNat t) [(i64 d.from_),(i64 d.to),(.own 2 0 (List.length q21))]⟩,⟨0,98,3,[[(i64 d.from_),(i64 d.to),(ls Ar d.cons)]]⟩,⟨0,134,1,mix (BD 3) Ar (Int.toNat i) q⟩,⟨0,134,1,[[(ls eI c.fields)]]⟩,⟨0,3,1,List.map eI f⟩]) Ah Mx (BY gf) rfl U ⟨(Bf fun _=>U),trivial⟩ U U (AB ⟨U,?_⟩)
          exact AH (AF (L:=[(3,(.own 0 0 (List.length q9))),(4,(i64 t)),(6,(i64 i)),(7,(.ptr 3 0 0 0)),(10,(.own 0 0 (List.length q9))),(11,(i64 (Sh.len q9))),(12,(i64 t)),(25,(ls Ar d.cons)),(26,(i64 (Sh.len d.cons))),(27,(i64 i)),(32,(.own 0 0 (List.length q9))),(33,(i64 t)),(37,(i64 i)),(34,(.ptr 0 0 (Int.toNat t) 0)),(35,(.ptr 0 0 (Int.toNat t) 2)),(38,(.ptr 3 0 0 0)),(39,(ls eI c.fields)),(40,(.own 4 0 (List.length f)))]) ⟨.rfl,.rfl,.rfl,.rfl,.rfl,.rfl,.rfl,.rfl,.rfl,.rfl,.rfl,.rfl,.rfl,.rfl,.rfl,.rfl,.rfl,.rfl,trivial⟩) (AR (by kernel_rfl) ((hA _ _ _).1 A_23)) rfl)
      have A_13:A 5 #[true,true,true,false,false,true,true,true,true,false,false,false] ⟨46,Ad [(3,(.own 0 0 (List.length q9))),(4,(i64 t)),(6,(i64 i)),(7,(.ptr 3 0 0 0)),(10,(.own 0 0 (List.length q9))),(11,(i64 (Sh.len q9))),(12,(i64 t)),(25,(ls Ar d.cons)),(26,(i64 (Sh.len d.cons))),(27,(i64 i)),(32,(.own 0 0 (List.length q9))),(33,(i64 t)),(37,(i64 i)),(34,(.ptr 0 0 (Int.toNat t) 0)),(38,(.ptr 3 0 0 0)),(39,(ls eI c.fields)),(40,(.own 4 0 (List.length f)))],[⟨0,98,3,(mix (Ab 134 3) AG (Int.toNat t) l).set (Int.toNat t) [(i64 d.from_),(i64 d.to),(.own 2 0 (List.length q21))]⟩,⟨0,98,3,[[(i64 d.from_),(i64 d.to),(ls Ar d.cons)]]⟩,⟨0,134,1,mix (BD 3) Ar (Int.toNat i) q⟩,⟨0,134,1,[[(ls eI c.fields)]]⟩,⟨0,3,1,List.map eI f⟩]⟩:=(hA _ _ _).2 (by
        refine An [3] U (by kernel_rfl) (by decide) ⟨?_,trivial⟩
        · refine A5.of (i:=3) rfl U (by rfl) ?_
          refine A7 (v:=(.ptr 0 0 (Int.toNat t) 2)) Ah U (HF Lj U U (show 0+2≤3 by decide) rfl) (AB ⟨U,?_⟩)
          exact AH (AF (L:=[(3,(.own 0 0 (List.length q9))),(4,(i64 t)),(6,(i64 i)),(7,(.ptr 3 0 0 0)),(10,(.own 0 0 (List.length q9))),(11,(i64 (Sh.len q9))),(12,(i64 t)),(25,(ls Ar d.cons)),(26,(i64 (Sh.len d.cons))),(27,(i64 i)),(32,(.own 0 0 (List.length q9))),(33,(i64 t)),(37,(i64 i)),(34,(.ptr 0 0 (Int.toNat t) 0)),(35,(.ptr 0 0 (Int.toNat t) 2)),(38,(.ptr 3 0 0 0)),(39,(ls eI c.fields)),(40,(.own 4 0 (List.length f)))]) ⟨.rfl,.rfl,.rfl,.rfl,.rfl,.rfl,.rfl,.rfl,.rfl,.rfl,.rfl,.rfl,.rfl,.rfl,.rfl,.rfl,.rfl,.rfl,trivial⟩) (AR (by kernel_rfl) ((hA _ _ _).1 A_23)) rfl)
      have A_30:A 6 #[true,true,true,true,true,true,false,false,false,false,false,false] ⟨46,Ad [(3,(.own 0 0 (List.length q9))),(4,(i64 t)),(6,(i64 i)),(7,(.ptr 3 0 0 0)),(10,(.own 0 0 (List.length q9))),(11,(i64 (Sh.len q9))),(12,(i64 t)),(25,(ls Ar d.cons)),(26,(i64 (Sh.len d.cons))),(27,(i64 i)),(32,(.own 0 0 (List.length q9))),(33,(i64 t)),(37,(i64 i)),(34,(.ptr 0 0 (Int.toNat t) 0)),(35,(.ptr 0 0 (Int.toNat t) 2)),(36,(.own 2 0 (List.length q21)))],[⟨0,98,3,(mix (Ab 134 3) AG (Int.toNat t) l).set (Int.toNat t) [(i64 d.from_),(i64 d.to),(.own 2 0 (List.length q21))]⟩,⟨0,98,3,[[(i64 d.from_),(i64 d.to),(ls Ar d.cons)]]⟩,⟨0,134,1,mix (BD 3) Ar (Int.toNat i) q⟩,⟨0,134,1,[[(ls eI c.fields)]]⟩]⟩:=(hA _ _ _).2 (by
        refine An [6] U (by kernel_rfl) (by decide) ⟨?_,trivial⟩
        · refine A5.of (i:=6) rfl U (by rfl) ?_
          refine A7 (v:=(.ptr 3 0 0 0)) Ah U (HF Mw U U (show 0+0≤1 by decide) rfl) (AB ⟨U,?_⟩)
          exact AH (AF (L:=[(3,(.own 0 0 (List.length q9))),(4,(i64 t)),(6,(i64 i)),(7,(.ptr 3 0 0 0)),(10,(.own 0 0 (List.length q9))),(11,(i64 (Sh.len q9))),(12,(i64 t)),(25,(ls Ar d.cons)),(26,(i64 (Sh.len d.cons))),(27,(i64 i)),(32,(.own 0 0 (List.length q9))),(33,(i64 t)),(37,(i64 i)),(34,(.ptr 0 0 (Int.toNat t) 0)),(35,(.ptr 0 0 (Int.toNat t) 2)),(36,(.own 2 0 (List.length q21))),(38,(.ptr 3 0 0 0))]) ⟨.rfl,.rfl,.rfl,.rfl,.rfl,.rfl,.rfl,.rfl,.rfl,.rfl,.rfl,.rfl,.rfl,.rfl,.rfl,.rfl,.rfl,trivial⟩) (AR (by kernel_rfl) ((hA _ _ _).1 A_31)) rfl)
      have A_21:A 6 #[true,true,true,true,false,true,true,false,false,false,false,false] ⟨46,Ad [(3,(.own 0 0 (List.length q9))),(4,(i64 t)),(6,(i64 i)),(7,(.ptr 3 0 0 0)),(10,(.own 0 0 (List.length q9))),(11,(i64 (Sh.len q9))),(12,(i64 t)),(25,(ls Ar d.cons)),(26,(i64 (Sh.len d.cons))),(27,(i64 i)),(32,(.own 0 0 (List.length q9))),(33,(i64 t)),(37,(i64 i)),(34,(.ptr 0 0 (Int.toNat t) 0)),(35,(.ptr 0 0 (Int.toNat t) 2)),(38,(.ptr 3 0 0 0))],[⟨0,98,3,(mix (Ab 134 3) AG (Int.toNat t) l).set (Int.toNat t) [(i64 d.from_),(i64 d.to),(.own 2 0 (List.length q21))]⟩,⟨0,98,3,[[(i64 d.from_),(i64 d.to),(ls Ar d.cons)]]⟩,⟨0,134,1,mix (BD 3) Ar (Int.toNat i) q⟩,⟨0,134,1,[[(ls eI c.fields)]]⟩]⟩:=(hA _ _ _).2 (by
        refine An [4,7] U (by kernel_rfl) (by decide) ⟨?_,?_,trivial⟩
        · refine A5.of (i:=4) rfl U (by rfl) ?_
          refine A7 (v:=(.own 2 0 (List.length q21))) Ah U (Cf N3 U U (List.getElem?_set_self hkl) rfl) (AB ⟨U,?_⟩)
          exact AH (AF (L:=[(3,(.own 0 0 (List.length q9))),(4,(i64 t)),(6,(i64 i)),(7,(.ptr 3 0 0 0)),(10,(.own 0 0 (List.length q9))),(11,(i64 (Sh.len q9))),(12,(i64 t)),(25,(ls Ar d.cons)),(26,(i64 (Sh.len d.cons))),(27,(i64 i)),(32,(.own 0 0 (List.length q9))),(33,(i64 t)),(37,(i64 i)),(34,(.ptr 0 0 (Int.toNat t) 0)),(35,(.ptr 0 0 (Int.toNat t) 2)),(36,(.own 2 0 (List.length q21))),(38,(.ptr 3 0 0 0))]) ⟨.rfl,.rfl,.rfl,.rfl,.rfl,.rfl,.rfl,.rfl,.rfl,.rfl,.rfl,.rfl,.rfl,.rfl,.rfl,.rfl,.rfl,trivial⟩) (AR (by kernel_rfl) ((hA _ _ _).1 A_31)) rfl
        · refine A5.of (i:=7) rfl U (by rfl) ?_
          refine A7 (v:=(ls eI c.fields)) Ah U (Cf Iu U U U U) (AB ⟨U,?_⟩)
          exact AH (AF (L:=[(3,(.own 0 0 (List.length q9))),(4,(i64 t)),(6,(i64 i)),(7,(.ptr 3 0 0 0)),(10,(.own 0 0 (List.length q9))),(11,(i64 (Sh.len q9))),(12,(i64 t)),(25,(ls Ar d.cons)),(26,(i64 (Sh.len d.cons))),(27,(i64 i)),(32,(.own 0 0 (List.length q9))),(33,(i64 t)),(37,(i64 i)),(34,(.ptr 0 0 (Int.toNat t) 0)),(35,(.ptr 0 0 (Int.toNat t) 2)),(38,(.ptr 3 0 0 0)),(39,(ls eI c.fields))]) ⟨.rfl,.rfl,.rfl,.rfl,.rfl,.rfl,.rfl,.rfl,.rfl,.rfl,.rfl,.rfl,.rfl,.rfl,.rfl,.rfl,.rfl,trivial⟩) (AR (by kernel_rfl) ((hA _ _ _).1 A_22)) rfl)
      have A_12:A 6 #[true,true,true,false,false,true,true,true,false,false,false,false] ⟨46,Ad [(3,(.own 0 0 (List.length q9))),(4,(i64 t)),(6,(i64 i)),(7,(.ptr 3 0 0 0)),(10,(.own 0 0 (List.length q9))),(11,(i64 (Sh.len q9))),(12,(i64 t)),(25,(ls Ar d.cons)),(26,(i64 (Sh.len d.cons))),(27,(i64 i)),(32,(.own 0 0 (List.length q9))),(33,(i64 t)),(37,(i64 i)),(34,(.ptr 0 0 (Int.toNat t) 0)),(38,(.ptr 3 0 0 0)),(39,(ls eI c.fields))],[⟨0,98,3,(mix (Ab 134 3) AG (Int.toNat t) l).set (Int.toNat t) [(i64 d.from_),(i64 d.to),(.own 2 0 (List.length q21))]⟩,⟨0,98,3,[[(i64 d.from_),(i64 d.to),(ls Ar d.cons)]]⟩,⟨0,134,1,mix (BD 3) Ar (Int.toNat i) q⟩,⟨0,134,1,[[(ls eI c.fields)]]⟩]⟩:=(hA _ _ _).2 (by
        refine An [3,8] U (by kernel_rfl) (by decide) ⟨?_,?_,trivial⟩
        · refine A5.of (i:=3) rfl U (by rfl) ?_
          refine A7 (v:=(.ptr 0 0 (Int.toNat t) 2)) Ah U (HF Lj U U (show 0+2≤3 by decide) rfl) (AB ⟨U,?_⟩)
          exact AH (AF (L:=[(3,(.own 0 0 (List.length q9))),(4,(i64 t)),(6,(i64 i)),(7,(.ptr 3 0 0 0)),(10,(.own 0 0 (List.length q9))),(11,(i64 (Sh.len q9))),(12,(i64 t)),(25,(ls Ar d.cons)),(26,(i64 (Sh.len d.cons))),(27,(i64 i)),(32,(.own 0 0 (List.length q9))),(33,(i64 t)),(37,(i64 i)),(34,(.ptr 0 0 (Int.toNat t) 0)),(35,(.ptr 0 0 (Int.toNat t) 2)),(38,(.ptr 3 0 0 0)),(39,(ls eI c.fields))]) ⟨.rfl,.rfl,.rfl,.rfl,.rfl,.rfl,.rfl,.rfl,.rfl,.rfl,.rfl,.rfl,.rfl,.rfl,.rfl,.rfl,.rfl,trivial⟩) (AR (by kernel_rfl) ((hA _ _ _).1 A_22)) rfl
        · refine A5.of (i:=8) rfl U (by rfl) ?_
          refine BW (v':=(.own 4 0 (List.length f))) (st':=[⟨0,98,3,(mix (Ab 134 3) AG (Int.toNat t) l).set (Int.toNat t) [(i64 d.from_),(i64 d.to),(.own 2 0 (List.length q21))]⟩,⟨0,98,3,[[(i64 d.from_),(i64 d.to),(ls Ar d.cons)]]⟩,⟨0,134,1,mix (BD 3) Ar (Int.toNat i) q⟩,⟨0,134,1,[[(ls eI c.fields)]]⟩,⟨0,3,1,List.map eI f⟩]) Ah Mx (BY gf) rfl U ⟨(Bf fun _=>U),trivial⟩ U U (AB ⟨U,?_⟩)
          exact AH (AF (L:=[(3,(.own 0 0 (List.length q9))),(4,(i64 t)),(6,(i64 i)),(7,(.ptr 3 0 0 0)),(10,(.own 0 0 (List.length q9))),(11,(i64 (Sh.len q9))),(12,(i64 t)),(25,(ls Ar d.cons)),(26,(i64 (Sh.len d.cons))),(27,(i64 i)),(32,(.own 0 0 (List.length q9))),(33,(i64 t)),(37,(i64 i)),(34,(.ptr 0 0 (Int.toNat t) 0)),(38,(.ptr 3 0 0 0)),(39,(ls eI c.fields)),(40,(.own 4 0 (List.length f)))]) ⟨.rfl,.rfl,.rfl,.rfl,.rfl,.rfl,.rfl,.rfl,.rfl,.rfl,.rfl,.rfl,.rfl,.rfl,.rfl,.rfl,.rfl,trivial⟩) (AR (by kernel_rfl) ((hA _ _ _).1 A_13)) rfl)
      have A_03:A 6 #[true,true,false,false,false,true,true,true,true,false,false,false] ⟨46,Ad [(3,(.own 0 0 (List.length q9))),(4,(i64 t)),(6,(i64 i)),(7,(.ptr 3 0 0 0)),(10,(.own 0 0 (List.length q9))),(11,(i64 (Sh.len q9))),(12,(i64 t)),(25,(ls Ar d.cons)),(26,(i64 (Sh.len d.cons))),(27,(i64 i)),(32,(.own 0 0 (List.length q9))),(33,(i64 t)),(37,(i64 i)),(38,(.ptr 3 0 0 0)),(39,(ls eI c.fields)),(40,(.own 4 0 (List.length f)))],[⟨0,98,3,(mix (Ab 134 3) AG (Int.toNat t) l).set (Int.toNat t) [(i64 d.from_),(i64 d.to),(.own 2 0 (List.length q21))]⟩,⟨0,98,3,[[(i64 d.from_),(i64 d.to),(ls Ar d.cons)]]⟩,⟨0,134,1,mix (BD 3) Ar (Int.toNat i) q⟩,⟨0,134,1,[[(ls eI c.fields)]]⟩,⟨0,3,1,List.map eI f⟩]⟩:=(hA _ _ _).2 (by
        refine An [2] U (by kernel_rfl) (by decide) ⟨?_,trivial⟩
        · refine A5.of (i:=2) rfl U (by rfl) ?_
          refine A7 (v:=(.ptr 0 0 (Int.toNat t) 0)) Ah U (Lf DA U U U ht0 htl) (AB ⟨U,?_⟩)
          exact AH (AF (L:=[(3,(.own 0 0 (List.length q9))),(4,(i64 t)),(6,(i64 i)),(7,(.ptr 3 0 0 0)),(10,(.own 0 0 (List.length q9))),(11,(i64 (Sh.len q9))),(12,(i64 t)),(25,(ls Ar d.cons)),(26,(i64 (Sh.len d.cons))),(27,(i64 i)),(32,(.own 0 0 (List.length q9))),(33,(i64 t)),(37,(i64 i)),(34,(.ptr 0 0 (Int.toNat t) 0)),(38,(.ptr 3 0 0 0)),(39,(ls eI c.fields)),(40,(.own 4 0 (List.length f)))]) ⟨.rfl,.rfl,.rfl,.rfl,.rfl,.rfl,.rfl,.rfl,.rfl,.rfl,.rfl,.rfl,.rfl,.rfl,.rfl,.rfl,.rfl,trivial⟩) (AR (by kernel_rfl) ((hA _ _ _).1 A_13)) rfl)
      have A_20:A 7 #[true,true,true,true,false,true,false,false,false,false,false,false] ⟨46,Ad [(3,(.own 0 0 (List.length q9))),(4,(i64 t)),(6,(i64 i)),(7,(.ptr 3 0 0 0)),(10,(.own 0 0 (List.length q9))),(11,(i64 (Sh.len q9))),(12,(i64 t)),(25,(ls Ar d.cons)),(26,(i64 (Sh.len d.cons))),(27,(i64 i)),(32,(.own 0 0 (List.length q9))),(33,(i64 t)),(37,(i64 i)),(34,(.ptr 0 0 (Int.toNat t) 0)),(35,(.ptr 0 0 (Int.toNat t) 2))],[⟨0,98,3,(mix (Ab 134 3) AG (Int.toNat t) l).set (Int.toNat t) [(i64 d.from_),(i64 d.to),(.own 2 0 (List.length q21))]⟩,⟨0,98,3,[[(i64 d.from_),(i64 d.to),(ls Ar d.cons)]]⟩,⟨0,134,1,mix (BD 3) Ar (Int.toNat i) q⟩,⟨0,134,1,[[(ls eI c.fields)]]⟩]⟩:=(hA _ _ _).2 (by
        refine An [4,6] U (by kernel_rfl) (by decide) ⟨?_,?_,trivial⟩
        · refine A5.of (i:=4) rfl U (by rfl) ?_
          refine A7 (v:=(.own 2 0 (List.length q21))) Ah U (Cf N3 U U (List.getElem?_set_self hkl) rfl) (AB ⟨U,?_⟩)
          exact AH (AF (L:=[(3,(.own 0 0 (List.length q9))),(4,(i64 t)),(6,(i64 i)),(7,(.ptr 3 0 0 0)),(10,(.own 0 0 (List.length q9))),(11,(i64 (Sh.len q9))),(12,(i64 t)),(25,(ls Ar d.cons)),(26,(i64 (Sh.len d.cons))),(27,(i64 i)),(32,(.own 0 0 (List.length q9))),(33,(i64 t)),(37,(i64 i)),(34,(.ptr 0 0 (Int.toNat t) 0)),(35,(.ptr 0 0 (Int.toNat t) 2)),(36,(.own 2 0 (List.length q21)))]) ⟨.rfl,.rfl,.rfl,.rfl,.rfl,.rfl,.rfl,.rfl,.rfl,.rfl,.rfl,.rfl,.rfl,.rfl,.rfl,.rfl,trivial⟩) (AR (by kernel_rfl) ((hA _ _ _).1 A_30)) rfl
        · refine A5.of (i:=6) rfl U (by rfl) ?_
          refine A7 (v:=(.ptr 3 0 0 0)) Ah U (HF Mw U U (show 0+0≤1 by decide) rfl) (AB ⟨U,?_⟩)
          exact AH (AF (L:=[(3,(.own 0 0 (List.length q9))),(4,(i64 t)),(6,(i64 i)),(7,(.ptr 3 0 0 0)),(10,(.own 0 0 (List.length q9))),(11,(i64 (Sh.len q9))),(12,(i64 t)),(25,(ls Ar d.cons)),(26,(i64 (Sh.len d.cons))),(27,(i64 i)),(32,(.own 0 0 (List.length q9))),(33,(i64 t)),(37,(i64 i)),(34,(.ptr 0 0 (Int.toNat t) 0)),(35,(.ptr 0 0 (Int.toNat t) 2)),(38,(.ptr 3 0 0 0))]) ⟨.rfl,.rfl,.rfl,.rfl,.rfl,.rfl,.rfl,.rfl,.rfl,.rfl,.rfl,.rfl,.rfl,.rfl,.rfl,.rfl,trivial⟩) (AR (by kernel_rfl) ((hA _ _ _).1 A_21)) rfl)
      have A_11:A 7 #[true,true,true,false,false,true,true,false,false,false,false,false] ⟨46,Ad [(3,(.own 0 0 (List.length q9))),(4,(i64 t)),(6,(i64 i)),(7,(.ptr 3 0 0 0)),(10,(.own 0 0 (List.length q9))),(11,(i64 (Sh.len q9))),(12,(i64 t)),(25,(ls Ar d.cons)),(26,(i64 (Sh.len d.cons))),(27,(i64 i)),(32,(.own 0 0 (List.length q9))),(33,(i64 t)),(37,(i64 i)),(34,(.ptr 0 0 (Int.toNat t) 0)),(38,(.ptr 3 0 0 0))],[⟨0,98,3,(mix (Ab 134 3) AG (Int.toNat t) l).set (Int.toNat t) [(i64 d.from_),(i64 d.to),(.own 2 0 (List.length q21))]⟩,⟨0,98,3,[[(i64 d.from_),(i64 d.to),(ls Ar d.cons)]]⟩,⟨0,134,1,mix (BD 3) Ar (Int.toNat i) q⟩,⟨0,134,1,[[(ls eI c.fields)]]⟩]⟩:=(hA _ _ _).2 (by
        refine An [3,7] U (by kernel_rfl) (by decide) ⟨?_,?_,trivial⟩
        · refine A5.of (i:=3) rfl U (by rfl) ?_
          refine A7 (v:=(.ptr 0 0 (Int.toNat t) 2)) Ah U (HF Lj U U (show 0+2≤3 by decide) rfl) (AB ⟨U,?_⟩)
          exact AH (AF (L:=[(3,(.own 0 0 (List.length q9))),(4,(i64 t)),(6,(i64 i)),(7,(.ptr 3 0 0 0)),(10,(.own 0 0 (List.length q9))),(11,(i64 (Sh.len q9))),(12,(i64 t)),(25,(ls Ar d.cons)),(26,(i64 (Sh.len d.cons))),(27,(i64 i)),(32,(.own 0 0 (List.length q9))),(33,(i64 t)),(37,(i64 i)),(34,(.ptr 0 0 (Int.toNat t) 0)),(35,(.ptr 0 0 (Int.toNat t) 2)),(38,(.ptr 3 0 0 0))]) ⟨.rfl,.rfl,.rfl,.rfl,.rfl,.rfl,.rfl,.rfl,.rfl,.rfl,.rfl,.rfl,.rfl,.rfl,.rfl,.rfl,trivial⟩) (AR (by kernel_rfl) ((hA _ _ _).1 A_21)) rfl
        · refine A5.of (i:=7) rfl U (by rfl) ?_
          refine A7 (v:=(ls eI c.fields)) Ah U (Cf Iu U U U U) (AB ⟨U,?_⟩)
          exact AH (AF (L:=[(3,(.own 0 0 (List.length q9))),(4,(i64 t)),(6,(i64 i)),(7,(.ptr 3 0 0 0)),(10,(.own 0 0 (List.length q9))),(11,(i64 (Sh.len q9))),(12,(i64 t)),(25,(ls Ar d.cons)),(26,(i64 (Sh.len d.cons))),(27,(i64 i)),(32,(.own 0 0 (List.length q9))),(33,(i64 t)),(37,(i64 i)),(34,(.ptr 0 0 (Int.toNat t) 0)),(38,(.ptr 3 0 0 0)),(39,(ls eI c.fields))]) ⟨.rfl,.rfl,.rfl,.rfl,.rfl,.rfl,.rfl,.rfl,.rfl,.rfl,.rfl,.rfl,.rfl,.rfl,.rfl,.rfl,trivial⟩) (AR (by kernel_rfl) ((hA _ _ _).1 A_12)) rfl)
      have A_02:A 7 #[true,true,false,false,false,true,true,true,false,false,false,false] ⟨46,Ad [(3,(.own 0 0 (List.length q9))),(4,(i64 t)),(6,(i64 i)),(7,(.ptr 3 0 0 0)),(10,(.own 0 0 (List.length q9))),(11,(i64 (Sh.len q9))),(12,(i64 t)),(25,(ls Ar d.cons)),(26,(i64 (Sh.len d.cons))),(27,(i64 i)),(32,(.own 0 0 (List.length q9))),(33,(i64 t)),(37,(i64 i)),(38,(.ptr 3 0 0 0)),(39,(ls eI c.fields))],[⟨0,98,3,(mix (Ab 134 3) AG (Int.toNat t) l).set (Int.toNat t) [(i64 d.from_),(i64 d.to),(.own 2 0 (List.length q21))]⟩,⟨0,98,3,[[(i64 d.from_),(i64 d.to),(ls Ar d.cons)]]⟩,⟨0,134,1,mix (BD 3) Ar (Int.toNat i) q⟩,⟨0,134,1,[[(ls eI c.fields)]]⟩]⟩:=(hA _ _ _).2 (by
        refine An [2,8] U (by kernel_rfl) (by decide) ⟨?_,?_,trivial⟩
        · refine A5.of (i:=2) rfl U (by rfl) ?_
          refine A7 (v:=(.ptr 0 0 (Int.toNat t) 0)) Ah U (Lf DA U U U ht0 htl) (AB ⟨U,?_⟩)
          exact AH (AF (L:=[(3,(.own 0 0 (List.length q9))),(4,(i64 t)),(6,(i64 i)),(7,(.ptr 3 0 0 0)),(10,(.own 0 0 (List.length q9))),(11,(i64 (Sh.len q9))),(12,(i64 t)),(25,(ls Ar d.cons)),(26,(i64 (Sh.len d.cons))),(27,(i64 i)),(32,(.own 0 0 (List.length q9))),(33,(i64 t)),(37,(i64 i)),(34,(.ptr 0 0 (Int.toNat t) 0)),(38,(.ptr 3 0 0 0)),(39,(ls eI c.fields))]) ⟨.rfl,.rfl,.rfl,.rfl,.rfl,.rfl,.rfl,.rfl,.rfl,.rfl,.rfl,.rfl,.rfl,.rfl,.rfl,.rfl,trivial⟩) (AR (by kernel_rfl) ((hA _ _ _).1 A_12)) rfl
        · refine A5.of (i:=8) rfl U (by rfl) ?_
          refine BW (v':=(.own 4 0 (List.length f))) (st':=[⟨0,98,3,(mix (Ab 134 3) AG (Int.toNat t) l).set (Int.toNat t) [(i64 d.from_),(i64 d.to),(.own 2 0 (List.length q21))]⟩,⟨0,98,3,[[(i64 d.from_),(i64 d.to),(ls Ar d.cons)]]⟩,⟨0,134,1,mix (BD 3) Ar (Int.toNat i) q⟩,⟨0,134,1,[[(ls eI c.fields)]]⟩,⟨0,3,1,List.map eI f⟩]) Ah Mx (BY gf) rfl U ⟨(Bf fun _=>U),trivial⟩ U U (AB ⟨U,?_⟩)
          exact AH (AF (L:=[(3,(.own 0 0 (List.length q9))),(4,(i64 t)),(6,(i64 i)),(7,(.ptr 3 0 0 0)),(10,(.own 0 0 (List.length q9))),(11,(i64 (Sh.len q9))),(12,(i64 t)),(25,(ls Ar d.cons)),(26,(i64 (Sh.len d.cons))),(27,(i64 i)),(32,(.own 0 0 (List.length q9))),(33,(i64 t)),(37,(i64 i)),(38,(.ptr 3 0 0 0)),(39,(ls eI c.fields)),(40,(.own 4 0 (List.length f)))]) ⟨.rfl,.rfl,.rfl,.rfl,.rfl,.rfl,.rfl,.rfl,.rfl,.rfl,.rfl,.rfl,.rfl,.rfl,.rfl,.rfl,trivial⟩) (AR (by kernel_rfl) ((hA _ _ _).1 A_03)) rfl)
      have A_10:A 8 #[true,true,true,false,false,true,false,false,false,false,false,false] ⟨46,Ad [(3,(.own 0 0 (List.length q9))),(4,(i64 t)),(6,(i64 i)),(7,(.ptr 3 0 0 0)),(10,(.own 0 0 (List.length q9))),(11,(i64 (Sh.len q9))),(12,(i64 t)),(25,(ls Ar d.cons)),(26,(i64 (Sh.len d.cons))),(27,(i64 i)),(32,(.own 0 0 (List.length q9))),(33,(i64 t)),(37,(i64 i)),(34,(.ptr 0 0 (Int.toNat t) 0))],[⟨0,98,3,(mix (Ab 134 3) AG (Int.toNat t) l).set (Int.toNat t) [(i64 d.from_),(i64 d.to),(.own 2 0 (List.length q21))]⟩,⟨0,98,3,[[(i64 d.from_),(i64 d.to),(ls Ar d.cons)]]⟩,⟨0,134,1,mix (BD 3) Ar (Int.toNat i) q⟩,⟨0,134,1,[[(ls eI c.fields)]]⟩]⟩:=(hA _ _ _).2 (by
        refine An [3,6] U (by kernel_rfl) (by decide) ⟨?_,?_,trivial⟩
        · refine A5.of (i:=3) rfl U (by rfl) ?_
          refine A7 (v:=(.ptr 0 0 (Int.toNat t) 2)) Ah U (HF Lj U U (show 0+2≤3 by decide) rfl) (AB ⟨U,?_⟩)
          exact AH (AF (L:=[(3,(.own 0 0 (List.length q9))),(4,(i64 t)),(6,(i64 i)),(7,(.ptr 3 0 0 0)),(10,(.own 0 0 (List.length q9))),(11,(i64 (Sh.len q9))),(12,(i64 t)),(25,(ls Ar d.cons)),(26,(i64 (Sh.len d.cons))),(27,(i64 i)),(32,(.own 0 0 (List.length q9))),(33,(i64 t)),(37,(i64 i)),(34,(.ptr 0 0 (Int.toNat t) 0)),(35,(.ptr 0 0 (Int.toNat t) 2))]) ⟨.rfl,.rfl,.rfl,.rfl,.rfl,.rfl,.rfl,.rfl,.rfl,.rfl,.rfl,.rfl,.rfl,.rfl,.rfl,trivial⟩) (AR (by kernel_rfl) ((hA _ _ _).1 A_20)) rfl
        · refine A5.of (i:=6) rfl U (by rfl) ?_
          refine A7 (v:=(.ptr 3 0 0 0)) Ah U (HF Mw U U (show 0+0≤1 by decide) rfl) (AB ⟨U,?_⟩)
          exact AH (AF (L:=[(3,(.own 0 0 (List.length q9))),(4,(i64 t)),(6,(i64 i)),(7,(.ptr 3 0 0 0)),(10,(.own 0 0 (List.length q9))),(11,(i64 (Sh.len q9))),(12,(i64 t)),(25,(ls Ar d.cons)),(26,(i64 (Sh.len d.cons))),(27,(i64 i)),(32,(.own 0 0 (List.length q9))),(33,(i64 t)),(37,(i64 i)),(34,(.ptr 0 0 (Int.toNat t) 0)),(38,(.ptr 3 0 0 0))]) ⟨.rfl,.rfl,.rfl,.rfl,.rfl,.rfl,.rfl,.rfl,.rfl,.rfl,.rfl,.rfl,.rfl,.rfl,.rfl,trivial⟩) (AR (by kernel_rfl) ((hA _ _ _).1 A_11)) rfl)
      have A_01:A 8 #[true,true,false,false,false,true,true,false,false,false,false,false] ⟨46,Ad [(3,(.own 0 0 (List.length q9))),(4,(i64 t)),(6,(i64 i)),(7,(.ptr 3 0 0 0)),(10,(.own 0 0 (List.length q9))),(11,(i64 (Sh.len q9))),(12,(i64 t)),(25,(ls Ar d.cons)),(26,(i64 (Sh.len d.cons))),(27,(i64 i)),(32,(.own 0 0 (List.length q9))),(33,(i64 t)),(37,(i64 i)),(38,(.ptr 3 0 0 0))],[⟨0,98,3,(mix (Ab 134 3) AG (Int.toNat t) l).set (Int.toNat t) [(i64 d.from_),(i64 d.to),(.own 2 0 (List.length q21))]⟩,⟨0,98,3,[[(i64 d.from_),(i64 d.to),(ls Ar d.cons)]]⟩,⟨0,134,1,mix (BD 3) Ar (Int.toNat i) q⟩,⟨0,134,1,[[(ls eI c.fields)]]⟩]⟩:=(hA _ _ _).2 (by
        refine An [2,7] U (by kernel_rfl) (by decide) ⟨?_,?_,trivial⟩
        · refine A5.of (i:=2) rfl U (by rfl) ?_
          refine A7 (v:=(.ptr 0 0 (Int.toNat t) 0)) Ah U (Lf DA U U U ht0 htl) (AB ⟨U,?_⟩)
          exact AH (AF (L:=[(3,(.own 0 0 (List.length q9))),(4,(i64 t)),(6,(i64 i)),(7,(.ptr 3 0 0 0)),(10,(.own 0 0 (List.length q9))),(11,(i64 (Sh.len q9))),(12,(i64 t)),(25,(ls Ar d.cons)),(26,(i64 (Sh.len d.cons))),(27,(i64 i)),(32,(.own 0 0 (List.length q9))),(33,(i64 t)),(37,(i64 i)),(34,(.ptr 0 0 (Int.toNat t) 0)),(38,(.ptr 3 0 0 0))]) ⟨.rfl,.rfl,.rfl,.rfl,.rfl,.rfl,.rfl,.rfl,.rfl,.rfl,.rfl,.rfl,.rfl,.rfl,.rfl,trivial⟩) (AR (by kernel_rfl) ((hA _ _ _).1 A_11)) rfl
        · refine A5.of (i:=7) rfl U (by rfl) ?_
          refine A7 (v:=(ls eI c.fields)) Ah U (Cf Iu U U U U) (AB ⟨U,?_⟩)
          exact AH (AF (L:=[(3,(.own 0 0 (List.length q9))),(4,(i64 t)),(6,(i64 i)),(7,(.ptr 3 0 0 0)),(10,(.own 0 0 (List.length q9))),(11,(i64 (Sh.len q9))),(12,(i64 t)),(25,(ls Ar d.cons)),(26,(i64 (Sh.len d.cons))),(27,(i64 i)),(32,(.own 0 0 (List.length q9))),(33,(i64 t)),(37,(i64 i)),(38,(.ptr 3 0 0 0)),(39,(ls eI c.fields))]) ⟨.rfl,.rfl,.rfl,.rfl,.rfl,.rfl,.rfl,.rfl,.rfl,.rfl,.rfl,.rfl,.rfl,.rfl,.rfl,trivial⟩) (AR (by kernel_rfl) ((hA _ _ _).1 A_02)) rfl)
      have A_00:A 9 #[true,true,false,false,false,true,false,false,false,false,false,false] ⟨46,Ad [(3,(.own 0 0 (List.length q9))),(4,(i64 t)),(6,(i64 i)),(7,(.ptr 3 0 0 0)),(10,(.own 0 0 (List.length q9))),(11,(i64 (Sh.len q9))),(12,(i64 t)),(25,(ls Ar d.cons)),(26,(i64 (Sh.len d.cons))),(27,(i64 i)),(32,(.own 0 0 (List.length q9))),(33,(i64 t)),(37,(i64 i))],[⟨0,98,3,(mix (Ab 134 3) AG (Int.toNat t) l).set (Int.toNat t) [(i64 d.from_),(i64 d.to),(.own 2 0 (List.length q21))]⟩,⟨0,98,3,[[(i64 d.from_),(i64 d.to),(ls Ar d.cons)]]⟩,⟨0,134,1,mix (BD 3) Ar (Int.toNat i) q⟩,⟨0,134,1,[[(ls eI c.fields)]]⟩]⟩:=(hA _ _ _).2 (by
        refine An [2,6] U (by kernel_rfl) (by decide) ⟨?_,?_,trivial⟩
        · refine A5.of (i:=2) rfl U (by rfl) ?_
          refine A7 (v:=(.ptr 0 0 (Int.toNat t) 0)) Ah U (Lf DA U U U ht0 htl) (AB ⟨U,?_⟩)
          exact AH (AF (L:=[(3,(.own 0 0 (List.length q9))),(4,(i64 t)),(6,(i64 i)),(7,(.ptr 3 0 0 0)),(10,(.own 0 0 (List.length q9))),(11,(i64 (Sh.len q9))),(12,(i64 t)),(25,(ls Ar d.cons)),(26,(i64 (Sh.len d.cons))),(27,(i64 i)),(32,(.own 0 0 (List.length q9))),(33,(i64 t)),(37,(i64 i)),(34,(.ptr 0 0 (Int.toNat t) 0))]) ⟨.rfl,.rfl,.rfl,.rfl,.rfl,.rfl,.rfl,.rfl,.rfl,.rfl,.rfl,.rfl,.rfl,.rfl,trivial⟩) (AR (by kernel_rfl) ((hA _ _ _).1 A_10)) rfl
        · refine A5.of (i:=6) rfl U (by rfl) ?_
          refine A7 (v:=(.ptr 3 0 0 0)) Ah U (HF Mw U U (show 0+0≤1 by decide) rfl) (AB ⟨U,?_⟩)
          exact AH (AF (L:=[(3,(.own 0 0 (List.length q9))),(4,(i64 t)),(6,(i64 i)),(7,(.ptr 3 0 0 0)),(10,(.own 0 0 (List.length q9))),(11,(i64 (Sh.len q9))),(12,(i64 t)),(25,(ls Ar d.cons)),(26,(i64 (Sh.len d.cons))),(27,(i64 i)),(32,(.own 0 0 (List.length q9))),(33,(i64 t)),(37,(i64 i)),(38,(.ptr 3 0 0 0))]) ⟨.rfl,.rfl,.rfl,.rfl,.rfl,.rfl,.rfl,.rfl,.rfl,.rfl,.rfl,.rfl,.rfl,.rfl,trivial⟩) (AR (by kernel_rfl) ((hA _ _ _).1 A_01)) rfl)
      have B_2:A 10 #[true,true,false,false,false,false,false,false,false,false,false,false] ⟨46,Ad [(3,(.own 0 0 (List.length q9))),(4,(i64 t)),(6,(i64 i)),(7,(.ptr 3 0 0 0)),(10,(.own 0 0 (List.length q9))),(11,(i64 (Sh.len q9))),(12,(i64 t)),(25,(ls Ar d.cons)),(26,(i64 (Sh.len d.cons))),(27,(i64 i)),(32,(.own 0 0 (List.length q9))),(33,(i64 t))],[⟨0,98,3,(mix (Ab 134 3) AG (Int.toNat t) l).set (Int.toNat t) [(i64 d.from_),(i64 d.to),(.own 2 0 (List.length q21))]⟩,⟨0,98,3,[[(i64 d.from_),(i64 d.to),(ls Ar d.cons)]]⟩,⟨0,134,1,mix (BD 3) Ar (Int.toNat i) q⟩,⟨0,134,1,[[(ls eI c.fields)]]⟩]⟩:=(hA _ _ _).2 (by
        refine ET 5 (v:=(i64 i)) rfl U (by kernel_rfl) (by kernel_rfl) (by kernel_rfl) rfl (F8 U) ?_
        exact AH (AF (L:=[(3,(.own 0 0 (List.length q9))),(4,(i64 t)),(6,(i64 i)),(7,(.ptr 3 0 0 0)),(10,(.own 0 0 (List.length q9))),(11,(i64 (Sh.len q9))),(12,(i64 t)),(25,(ls Ar d.cons)),(26,(i64 (Sh.len d.cons))),(27,(i64 i)),(32,(.own 0 0 (List.length q9))),(33,(i64 t)),(37,(i64 i))]) ⟨.rfl,.rfl,.rfl,.rfl,.rfl,.rfl,.rfl,.rfl,.rfl,.rfl,.rfl,.rfl,.rfl,trivial⟩) (AR (by kernel_rfl) ((hA _ _ _).1 A_00)) rfl)
      have B_1:A 11 #[true,false,false,false,false,false,false,false,false,false,false,false] ⟨46,Ad [(3,(.own 0 0 (List.length q9))),(4,(i64 t)),(6,(i64 i)),(7,(.ptr 3 0 0 0)),(10,(.own 0 0 (List.length q9))),(11,(i64 (Sh.len q9))),(12,(i64 t)),(25,(ls Ar d.cons)),(26,(i64 (Sh.len d.cons))),(27,(i64 i)),(32,(.own 0 0 (List.length q9)))],[⟨0,98,3,(mix (Ab 134 3) AG (Int.toNat t) l).set (Int.toNat t) [(i64 d.from_),(i64 d.to),(.own 2 0 (List.length q21))]⟩,⟨0,98,3,[[(i64 d.from_),(i64 d.to),(ls Ar d.cons)]]⟩,⟨0,134,1,mix (BD 3) Ar (Int.toNat i) q⟩,⟨0,134,1,[[(ls eI c.fields)]]⟩]⟩:=(hA _ _ _).2 (by
        refine ET 1 (v:=(i64 t)) rfl U (by kernel_rfl) (by kernel_rfl) (by kernel_rfl) rfl (F8 U) ?_
        exact AH (AF (L:=[(3,(.own 0 0 (List.length q9))),(4,(i64 t)),(6,(i64 i)),(7,(.ptr 3 0 0 0)),(10,(.own 0 0 (List.length q9))),(11,(i64 (Sh.len q9))),(12,(i64 t)),(25,(ls Ar d.cons)),(26,(i64 (Sh.len d.cons))),(27,(i64 i)),(32,(.own 0 0 (List.length q9))),(33,(i64 t))]) ⟨.rfl,.rfl,.rfl,.rfl,.rfl,.rfl,.rfl,.rfl,.rfl,.rfl,.rfl,.rfl,trivial⟩) (AR (by kernel_rfl) ((hA _ _ _).1 B_2)) rfl)
      have B_0:A 12 #[false,false,false,false,false,false,false,false,false,false,false,false] ⟨46,Ad [(3,(.own 0 0 (List.length q9))),(4,(i64 t)),(6,(i64 i)),(7,(.ptr 3 0 0 0)),(10,(.own 0 0 (List.length q9))),(11,(i64 (Sh.len q9))),(12,(i64 t)),(25,(ls Ar d.cons)),(26,(i64 (Sh.len d.cons))),(27,(i64 i))],[⟨0,98,3,(mix (Ab 134 3) AG (Int.toNat t) l).set (Int.toNat t) [(i64 d.from_),(i64 d.to),(.own 2 0 (List.length q21))]⟩,⟨0,98,3,[[(i64 d.from_),(i64 d.to),(ls Ar d.cons)]]⟩,⟨0,134,1,mix (BD 3) Ar (Int.toNat i) q⟩,⟨0,134,1,[[(ls eI c.fields)]]⟩]⟩:=(hA _ _ _).2 (by
        refine ET 0 (v:=(.own 0 0 (List.length q9))) rfl U (by kernel_rfl) (by kernel_rfl) (by kernel_rfl) rfl (F8 U) ?_
        exact AH (AF (L:=[(3,(.own 0 0 (List.length q9))),(4,(i64 t)),(6,(i64 i)),(7,(.ptr 3 0 0 0)),(10,(.own 0 0 (List.length q9))),(11,(i64 (Sh.len q9))),(12,(i64 t)),(25,(ls Ar d.cons)),(26,(i64 (Sh.len d.cons))),(27,(i64 i)),(32,(.own 0 0 (List.length q9)))]) ⟨.rfl,.rfl,.rfl,.rfl,.rfl,.rfl,.rfl,.rfl,.rfl,.rfl,.rfl,trivial⟩) (AR (by kernel_rfl) ((hA _ _ _).1 B_1)) rfl)
      exact (hA _ _ _).2 (AR (by kernel_rfl) ((hA _ _ _).1 B_0))
    · replace h2:=Sh.Yd b33 h2
      have hfull:mix (BD 3) Ar (Int.toNat i) q=List.map (BD 3) q:=TA (by have h:=of_decide_eq_false b33;simp only[Sh.len] at h;omega)
      exact Ay (M22 q (Sh.AA h2).symm hlq _ ((AF (L:=[(3,(.own 0 0 (List.length q9))),(10,(.own 0 0 (List.length q9))),(11,(i64 (Sh.len q9))),(12,(i64 t))]) ⟨.rfl,.rfl,.rfl,.rfl,trivial⟩).trans (DQ (by rw[hfull]))))
  · replace h1:=Sh.Yd b13 h1
    have hfull:mix (Ab 134 3) AG (Int.toNat t) l=List.map (Ab 134 3) l:=TA (by have h:=of_decide_eq_false b13;simp only[Sh.len] at h;omega)
    exact Ay (M9 l (Sh.AA h1).symm hll _ ((AF (L:=[(3,(.own 0 0 (List.length q9)))]) ⟨.rfl,trivial⟩).trans (DQ (by rw[hfull]))))
end Go.Proofs.YtcegihniiokijaaGreat.Cl

