/- The copy of declarations: a row that owns all that lies under it. -/
import Derived.Test.YtpahalfiiahddaaGreatCEWalk
import Derived.Test.YtpahalfiiahddaaGreatGCloneDToCloneE

namespace Go.Proofs.YtpahalfiiahddaaGreat.Cl
open Go Go.Abs RC
set_option maxRecDepth 100000
set_option maxHeartbeats 4000000
theorem Im:DG Tryz.prog 81=some (true,3):=by kernel_rfl
theorem Iw:DG Tryz.prog 111=some (true,1):=by kernel_rfl
theorem Nn:DG Tryz.prog 79=some (false,1):=by kernel_rfl
theorem HM:DG Tryz.prog 46=some (false,1):=by kernel_rfl
theorem Ln:Gp Tryz.prog 81 2=some 2:=by kernel_rfl
theorem Ms:Gp Tryz.prog 111 0=some 0:=by kernel_rfl
theorem GI:HP Tryz.prog 81=some [.int .i64 0,.int .i64 0,.zc]:=by kernel_rfl
theorem Ki:HP Tryz.prog 111=some [.zc]:=by kernel_rfl
theorem Zs:As Tryz.prog 129=true:=by kernel_rfl
theorem Z7:As Tryz.prog 130=true:=by kernel_rfl
theorem LZ:As Tryz.prog 102=true:=by kernel_rfl

theorem Qd:True:=trivial
theorem MC {N:Nat} {p0 r:List Ah} (h0:F3 N p0=some r):Ak Tryz.prog 103 [(ls Ad p0)] [] (fun v st=>v=(.own 0 0 (List.length r))∧st=[⟨0,81,3,List.map (Ae 111 3) r⟩]):=by
  unfold F3 at h0
  refine Ak.intro Tryz.func103 U (by show 1≤46;decide) ?_
  show AW _ 0 _ (Xo _ 0 Tryz.f103 _) ⟨46,_,_⟩
  refine Aa (Ab (L:=[(0,(ls Ad p0))]) ⟨.rfl,trivial⟩) ?_
  refine AJ fun K1 hK1=>?_
  refine AR (by rfl) ?_
  refine BU (v:=.zc) Aj U (PZ U) ?_
  refine AA (hK1 _ ?_)
  refine AJ fun K2 hK2=>?_
  refine AR (by rfl) ?_
  refine BU (v:=(ls Ad p0)) Aj U (JR U) ?_
  obtain⟨q9,gq9,h0⟩:=Sh.bind_some h0
  refine BW (v':=(.own 0 0 (List.length q9))) (st':=[⟨0,81,3,List.map Ad q9⟩]) Aj Zs (HN gq9) rfl U ⟨(Br fun _=>U),trivial⟩ U U ?_
  refine BU (v:=(.own 0 0 (List.length q9))) Aj U (PZ U) ?_
  refine AA (hK2 _ ?_)
  have hmax:q9.length≤9223372036854775807:=by
    unfold CL at gq9
    obtain⟨x,hx,hs⟩:=Sh.bind_some gq9
    unfold Sh.app at hx
    split at hx
    · rename_i hb
      simp only[Option.some.injEq] at hx hs
      rw[← hs,← hx];simpa using hb.2
    · cases hx
  refine AJ fun K4 hK4=>?_
  refine AJ fun K5 hK5=>?_
  refine AR (by rfl) ?_
  refine BU (v:=(.own 0 0 (List.length q9))) Aj U (JR U) ?_
  refine BU (v:=(i64 (Sh.len q9))) Aj U (Ct OS U U U) ?_
  refine BU (v:=(i64 0)) Aj U (JR U) ?_
  refine AA (hK5 _ ?_)
  obtain⟨o9,h1,h0⟩:=Sh.bind_some h0
  have M9 :∀(l:List Ah),o9=l→l.length=q9.length→∀s,Wk 0 s ⟨46,AM [(3,(.own 0 0 (List.length q9)))],[⟨0,81,3,List.map (Ae 111 3) l⟩]⟩→K4 s:=by
    intro l hq hlen s hw
    subst o9
    refine hK4 _ (Aa hw ?_)
    refine AJ fun K10 hK10=>?_
    refine AR (by rfl) ?_
    refine BU (v:=(.own 0 0 (List.length q9))) Aj U (JR U) ?_
    refine BU (v:=(.own 0 0 (List.length q9))) Aj U (PZ U) ?_
    refine AA (hK10 _ ?_)
    replace h0:=Sh.AE h0
    subst r
    exact AP (Exists.intro _ (And.intro (Ab (L:=[(2,(.own 0 0 (List.length q9)))]) ⟨.rfl,trivial⟩) (And.intro (by rw[hlen];rfl) rfl)))
  refine Ac (Aw (σ:=Int×(List Ah)) (fun n v=>DE N (Sh.len q9) n v.1 v.2=some o9∧v.2.length=q9.length∧0≤v.1∧v.1≤q9.length) (fun (t,l)=>⟨46,AM [(3,(.own 0 0 (List.length q9))),(10,(.own 0 0 (List.length q9))),(11,(i64 (Sh.len q9))),(12,(i64 t))],[⟨0,81,3,mix (Ae 111 3) Ad (Int.toNat t) l⟩]⟩) N (0,q9) ⟨h1,U,Int.le_refl _,Int.natCast_nonneg _⟩ ((Ab (L:=[(3,(.own 0 0 (List.length q9))),(10,(.own 0 0 (List.length q9))),(11,(i64 (Sh.len q9))),(12,(i64 0))]) ⟨.rfl,.rfl,.rfl,.rfl,trivial⟩).trans (DF (by rw[show Int.toNat 0=0 from U,Sj]))) (fun _ hv=>by have hv:=hv.1;rw[DE] at hv;cases hv) ?_)
  rintro n ⟨t,l⟩ ⟨h1,hll,ht0,ht1⟩
  try dsimp only at h1 hll ht0 ht1 ⊢
  rw[DE] at h1
  refine AJ fun K11 hK11=>?_
  refine AR (by rfl) ?_
  refine BU (v:=(.bool (decide (t < (Sh.len q9))))) Aj U (Vn U U) ?_
  refine AA (hK11 _ ?_)
  refine AJ fun K12 hK12=>?_
  refine Ew (b:=decide (t < (Sh.len q9))) rfl (fun b13=>?_) (fun b13=>?_)
  · replace h1:=Sh.Xi b13 h1
    refine AN (hK12 _ ?_)
    have htl:t < (q9.length:Int):=of_decide_eq_true b13
    obtain⟨d,gd,h1⟩:=Sh.bind_some h1
    obtain⟨q21,gq21,h1⟩:=Sh.bind_some h1
    obtain⟨o22,h2,h1⟩:=Sh.bind_some h1
    have hget:l[Int.toNat t]?=some d:=by have h:=gd;unfold Sh.get at h;rw[if_pos ht0] at h;exact h
    have hkl:Int.toNat t < (mix (Ae 111 3) Ad (Int.toNat t) l).length:=by rw[E5];exact (List.getElem?_eq_some_iff.1 hget).1
    have hpd:B9 (mix (Ae 111 3) Ad (Int.toNat t) l):=Pk (fun _=>rfl) (fun _=>rfl)
    refine AJ fun K14 hK14=>?_
    refine Ac ?_
    refine AJ fun K15 hK15=>?_
    refine AR (by rfl) ?_
    refine BU (v:=(i64 t)) Aj U (JR U) ?_
    refine BU (v:=(.ptr 0 0 (Int.toNat t) 0)) Aj U (La DA U U U ht0 htl (by first | rfl | (rw[E5];omega) | (simp[E5];omega))) ?_
    refine BU (v:=(.agg [(i64 d.from_),(i64 d.to),(ls At d.cons)])) Aj U (A8 Im U U (Ru hget) (show 0+3≤3 by decide) rfl) ?_
    refine A7 (m:=1) (st':=[⟨0,81,3,mix (Ae 111 3) Ad (Int.toNat t) l⟩,⟨0,81,3,[[(i64 0),(i64 0),.zc]]⟩]) Aj GI U U ?_
    refine BU (v:=(i64 t)) Aj U (PZ U) ?_
    refine BI (st':=[⟨0,81,3,mix (Ae 111 3) Ad (Int.toNat t) l⟩,⟨0,81,3,[[(i64 d.from_),(i64 d.to),(ls At d.cons)]]⟩]) Aj Im U U U U U U (show 0+3≤3 by decide) rfl ?_
    refine AA (hK15 _ ?_)
    refine AJ fun K16 hK16=>?_
    refine AR (by rfl) ?_
    refine BU (v:=(.own 0 0 (List.length q9))) Aj U (JR U) ?_
    refine BU (v:=(i64 t)) Aj U (JR U) ?_
    refine BU (v:=(.ptr 1 0 0 2)) Aj U (HB Ln U U (show 0+2≤3 by decide) rfl) ?_
    refine BU (v:=(ls At d.cons)) Aj U (BG Nn U U U U) ?_
    refine BW (v':=(.own 2 0 (List.length q21))) (st':=[⟨0,81,3,mix (Ae 111 3) Ad (Int.toNat t) l⟩,⟨0,81,3,[[(i64 d.from_),(i64 d.to),(ls At d.cons)]]⟩,⟨0,111,1,List.map At q21⟩]) Aj Z7 (Hq gq21) rfl U ⟨(Br fun _=>U),trivial⟩ U U ?_
    refine BU (v:=(.ptr 0 0 (Int.toNat t) 0)) Aj U (La DA U U U ht0 htl (by first | rfl | (rw[E5];omega) | (simp[E5];omega))) ?_
    refine BU (v:=(.ptr 0 0 (Int.toNat t) 2)) Aj U (HB Ln U U (show 0+2≤3 by decide) rfl) ?_
    refine BI (st':=[⟨0,81,3,(mix (Ae 111 3) Ad (Int.toNat t) l).set (Int.toNat t) [(i64 d.from_),(i64 d.to),(.own 2 0 (List.length q21))]⟩,⟨0,81,3,[[(i64 d.from_),(i64 d.to),(ls At d.cons)]]⟩,⟨0,111,1,List.map At q21⟩]) Aj Nn U U (Ru hget) rfl U U (show 2+1≤3 by decide) rfl ?_
    refine AA (hK16 _ ?_)
    refine AJ fun K17 hK17=>?_
    refine AR (by rfl) ?_
    refine BU (v:=(.ptr 1 0 0 2)) Aj U (HB Ln U U (show 0+2≤3 by decide) rfl) ?_
    refine BU (v:=(ls At d.cons)) Aj U (BG Nn U U U U) ?_
    refine BU (v:=(i64 (Sh.len d.cons))) Aj U (Ci Nc U) ?_
    refine BU (v:=(i64 0)) Aj U (JR U) ?_
    refine AA (hK17 _ ?_)
    have M22 :∀(q:List Ba),o22=q→q.length=q21.length→∀s,Wk 0 s ⟨46,AM [(3,(.own 0 0 (List.length q9))),(10,(.own 0 0 (List.length q9))),(11,(i64 (Sh.len q9))),(12,(i64 t))],[⟨0,81,3,(mix (Ae 111 3) Ad (Int.toNat t) l).set (Int.toNat t) [(i64 d.from_),(i64 d.to),(.own 2 0 (List.length q21))]⟩,⟨0,81,3,[[(i64 d.from_),(i64 d.to),(ls At d.cons)]]⟩,⟨0,111,1,List.map (BR 3) q⟩]⟩→K14 s:=by
      intro q hq hlq s hw
      subst o22
      refine hK14 _ (Aa hw ?_)
      have hmix:((mix (Ae 111 3) Ad (Int.toNat t) l).set (Int.toNat t) [(i64 d.from_),(i64 d.to),(.own 2 0 (List.length q21))]).set (Int.toNat t) (Ae 111 3 (Ah.mk d.from_ d.to q))=mix (Ae 111 3) Ad (Int.toNat t+1) (Sh.put l t (Ah.mk d.from_ d.to q)):=by rw[List.set_set];exact UQ hget
      refine Aa (Li (id:=0) (m:=2) (i:=Int.toNat t) (j:=2) (st':=[⟨0,81,3,mix (Ae 111 3) Ad (Int.toNat t+1) (Sh.put l t (Ah.mk d.from_ d.to q))⟩,⟨0,81,3,[[(i64 d.from_),(i64 d.to),(ls At d.cons)]]⟩,⟨1,111,1,[]⟩]) rfl (List.getElem?_set_self hkl) rfl U (by simp[hlq]) (by decide) (Nat.zero_le _) (RC.FH fun _=>U) (by rw[← hmix];rfl)) ?_
      refine Aa (Rj (L:=[(3,(.own 0 0 (List.length q9))),(10,(.own 0 0 (List.length q9))),(11,(i64 (Sh.len q9))),(12,(i64 t))]) (st':=[⟨0,81,3,mix (Ae 111 3) Ad (Int.toNat t+1) (Sh.put l t (Ah.mk d.from_ d.to q))⟩]) [0] (by decide) rfl U (fun row h=>by rw[List.mem_singleton.1 h];exact Lc (Pk (fun _=>U) (fun _=>U))) ⟨.rfl,.rfl,.rfl,.rfl,trivial⟩) ?_
      refine AR (by rfl) ?_
      refine BU (v:=(i64 (Sh.w (t+1)))) Aj U (Tc U U) ?_
      refine BU (v:=(i64 (Sh.w (t+1)))) Aj U (JR U) ?_
      have hw1:Sh.w (t+1)=t+1:=Go.Abs.wrap_i64 (by omega) (by omega)
      have ht2:Int.toNat (Sh.w (t+1))=Int.toNat t+1:=by rw[hw1];omega
      exact AA (Exists.intro (Sh.w (t+1),Sh.put l t (Ah.mk d.from_ d.to q)) (And.intro ⟨h1,by rw[Sh.BF];exact hll,by rw[hw1];omega,by rw[hw1];omega⟩ ((Ab (L:=[(3,(.own 0 0 (List.length q9))),(10,(.own 0 0 (List.length q9))),(11,(i64 (Sh.len q9))),(12,(i64 (Sh.w (t+1))))]) ⟨.rfl,.rfl,.rfl,.rfl,trivial⟩).trans (DF (by rw[ht2])))))
    have hq0:q21.length=d.cons.length:=by
      unfold CA at gq21
      obtain⟨x,hx,hs⟩:=Sh.bind_some gq21
      unfold Sh.app at hx
      split at hx
      · simp only[Option.some.injEq,List.nil_append] at hx hs
        rw[← hs,← hx]
      · cases hx
    have hmaxc:d.cons.length≤9223372036854775807:=by
      unfold CA at gq21
      obtain⟨x,hx,hs⟩:=Sh.bind_some gq21
      unfold Sh.app at hx
      split at hx
      · rename_i hb
        simpa using hb.2
      · cases hx
    refine Ac (Aw (σ:=Int×(List Ba)) (fun n v=>DD d.cons n v.1 v.2=some o22∧v.2.length=q21.length∧0≤v.1∧v.1≤d.cons.length) (fun (i,q)=>⟨46,AM [(3,(.own 0 0 (List.length q9))),(4,(i64 t)),(10,(.own 0 0 (List.length q9))),(11,(i64 (Sh.len q9))),(12,(i64 t)),(25,(ls At d.cons)),(26,(i64 (Sh.len d.cons))),(27,(i64 i))],[⟨0,81,3,(mix (Ae 111 3) Ad (Int.toNat t) l).set (Int.toNat t) [(i64 d.from_),(i64 d.to),(.own 2 0 (List.length q21))]⟩,⟨0,81,3,[[(i64 d.from_),(i64 d.to),(ls At d.cons)]]⟩,⟨0,111,1,mix (BR 3) At (Int.toNat i) q⟩]⟩) N (0,q21) ⟨h2,U,Int.le_refl _,Int.natCast_nonneg _⟩ ((Ab (L:=[(3,(.own 0 0 (List.length q9))),(4,(i64 t)),(10,(.own 0 0 (List.length q9))),(11,(i64 (Sh.len q9))),(12,(i64 t)),(25,(ls At d.cons)),(26,(i64 (Sh.len d.cons))),(27,(i64 0))]) ⟨.rfl,.rfl,.rfl,.rfl,.rfl,.rfl,.rfl,.rfl,trivial⟩).trans (DF (by rw[show Int.toNat 0=0 from U,Sj]))) (fun _ hv=>by have hv:=hv.1;rw[DD] at hv;cases hv) ?_)
    rintro n2 ⟨i,q⟩ ⟨h2,hlq,hi0,hi1⟩
    try dsimp only at h2 hlq hi0 hi1 ⊢
    rw[DD] at h2
    refine AJ fun K31 hK31=>?_
    refine AR (by rfl) ?_
    refine BU (v:=(.bool (decide (i < (Sh.len d.cons))))) Aj U (Vn U U) ?_
    refine AA (hK31 _ ?_)
    refine AJ fun K32 hK32=>?_
    refine Ew (b:=decide (i < (Sh.len d.cons))) rfl (fun b33=>?_) (fun b33=>?_)
    · replace h2:=Sh.Xi b33 h2
      refine AN (hK32 _ ?_)
      have hil:i < (q21.length:Int):=by rw[hq0];exact of_decide_eq_true b33
      obtain⟨c,gc,h2⟩:=Sh.bind_some h2
      obtain⟨f,gf,h2⟩:=Sh.bind_some h2
      obtain⟨c2,gc2,h2⟩:=Sh.bind_some h2
      have hgc:q[Int.toNat i]?=some c2:=by have h:=gc2;unfold Sh.get at h;rw[if_pos hi0] at h;exact h
      have hkc:Int.toNat i < (mix (BR 3) At (Int.toNat i) q).length:=by rw[E5];exact (List.getElem?_eq_some_iff.1 hgc).1
      refine AJ fun K34 hK34=>?_
      refine Ac ?_
      refine AJ fun K35 hK35=>?_
      refine AR (by rfl) ?_
      refine BU (v:=(i64 i)) Aj U (JR U) ?_
      refine BU (v:=(.B1 (At c) 0)) Aj U (Eo H0 U U gc U) ?_
      refine BU (v:=(.agg [(ls eI c.fields)])) Aj U (Ue Iw U (show 0+1≤1 by decide) rfl) ?_
      refine A7 (m:=3) (st':=[⟨0,81,3,(mix (Ae 111 3) Ad (Int.toNat t) l).set (Int.toNat t) [(i64 d.from_),(i64 d.to),(.own 2 0 (List.length q21))]⟩,⟨0,81,3,[[(i64 d.from_),(i64 d.to),(ls At d.cons)]]⟩,⟨0,111,1,mix (BR 3) At (Int.toNat i) q⟩,⟨0,111,1,[[.zc]]⟩]) Aj Ki U U ?_
      refine BU (v:=(i64 i)) Aj U (PZ U) ?_
      refine BI (st':=[⟨0,81,3,(mix (Ae 111 3) Ad (Int.toNat t) l).set (Int.toNat t) [(i64 d.from_),(i64 d.to),(.own 2 0 (List.length q21))]⟩,⟨0,81,3,[[(i64 d.from_),(i64 d.to),(ls At d.cons)]]⟩,⟨0,111,1,mix (BR 3) At (Int.toNat i) q⟩,⟨0,111,1,[[(ls eI c.fields)]]⟩]) Aj Iw U U U U U U (show 0+1≤1 by decide) rfl ?_
      refine AA (hK35 _ ?_)
      refine Aa (Ab (L:=[(3,(.own 0 0 (List.length q9))),(4,(i64 t)),(6,(i64 i)),(7,(.ptr 3 0 0 0)),(10,(.own 0 0 (List.length q9))),(11,(i64 (Sh.len q9))),(12,(i64 t)),(25,(ls At d.cons)),(26,(i64 (Sh.len d.cons))),(27,(i64 i))]) ⟨.rfl,.rfl,.rfl,.rfl,.rfl,.rfl,.rfl,.rfl,.rfl,.rfl,trivial⟩) ?_
      refine GJ (by kernel_rfl) ?_
      refine I0 fun A hA=>?_
      have hmixc:((mix (BR 3) At (Int.toNat i) q).set (Int.toNat i) [(.own 4 0 (List.length f))]).set (Int.toNat i) (BR 3 (Ba.mk f))=mix (BR 3) At (Int.toNat i+1) (Sh.put q i (Ba.mk f)):=by rw[List.set_set];exact UQ hgc
      have hselr :∀row∈[⟨0,81,3,(mix (Ae 111 3) Ad (Int.toNat t) l).set (Int.toNat t) [(i64 d.from_),(i64 d.to),(.own 2 0 (List.length q21))]⟩,⟨0,81,3,[[(i64 d.from_),(i64 d.to),(ls At d.cons)]]⟩,⟨0,111,1,mix (BR 3) At (Int.toNat i+1) (Sh.put q i (Ba.mk f))⟩],Bs [0,1,2] row=row:=by
        intro row h
        rcases List.mem_cons.1 h with rfl | h
        · exact Tu hpd U
        rcases List.mem_cons.1 h with rfl | h
        · rfl
        rw[List.mem_singleton.1 h]
        exact Lc (Pk (fun _=>U) (fun _=>U))
      have A_33:A 3 #[true,true,true,true,true,true,true,true,true,false,false,false] ⟨46,AM [(3,(.own 0 0 (List.length q9))),(4,(i64 t)),(6,(i64 i)),(7,(.ptr 3 0 0 0)),(10,(.own 0 0 (List.length q9))),(11,(i64 (Sh.len q9))),(12,(i64 t)),(25,(ls At d.cons)),(26,(i64 (Sh.len d.cons))),(27,(i64 i)),(32,(.own 0 0 (List.length q9))),(33,(i64 t)),(37,(i64 i)),(34,(.ptr 0 0 (Int.toNat t) 0)),(35,(.ptr 0 0 (Int.toNat t) 2)),(36,(.own 2 0 (List.length q21))),(38,(.ptr 3 0 0 0)),(39,(ls eI c.fields)),(40,(.own 4 0 (List.length f)))],[⟨0,81,3,(mix (Ae 111 3) Ad (Int.toNat t) l).set (Int.toNat t) [(i64 d.from_),(i64 d.to),(.own 2 0 (List.length q21))]⟩,⟨0,81,3,[[(i64 d.from_),(i64 d.to),(ls At d.cons)]]⟩,⟨0,111,1,mix (BR 3) At (Int.toNat i) q⟩,⟨0,111,1,[[(ls eI c.fields)]]⟩,⟨0,3,1,List.map eI f⟩]⟩:=(hA _ _ _).2 (by
        refine Af [9] U (by kernel_rfl) (by decide) ⟨?_,trivial⟩
        refine A3.of (i:=9) rfl U (by rfl) ?_
        refine BU (v:=(.ptr 2 0 (Int.toNat i) 0)) Aj U (La H0 U U U hi0 hil (by first | rfl | (rw[E5];omega) | (simp[E5];omega))) (AA ⟨U,?_⟩)
        refine Af [10] U (by kernel_rfl) (by decide) ⟨?_,trivial⟩
        refine A3.of (i:=10) rfl U (by rfl) ?_
        refine BU (v:=(.ptr 2 0 (Int.toNat i) 0)) Aj U (HB Ms U U (show 0+0≤1 by decide) rfl) (AA ⟨U,?_⟩)
        refine Af [11] U (by kernel_rfl) (by decide) ⟨?_,trivial⟩
        refine A3.of (i:=11) rfl U (by rfl) ?_
        refine BI (st':=[⟨0,81,3,(mix (Ae 111 3) Ad (Int.toNat t) l).set (Int.toNat t) [(i64 d.from_),(i64 d.to),(.own 2 0 (List.length q21))]⟩,⟨0,81,3,[[(i64 d.from_),(i64 d.to),(ls At d.cons)]]⟩,⟨0,111,1,(mix (BR 3) At (Int.toNat i) q).set (Int.toNat i) [(.own 4 0 (List.length f))]⟩,⟨0,111,1,[[(ls eI c.fields)]]⟩,⟨0,3,1,List.map eI f⟩]) Aj HM U U (Ru hgc) rfl U U (show 0+1≤1 by decide) rfl (AA ⟨U,?_⟩)
        refine GR U (by kernel_rfl) ?_
        refine hK34 _ ?_
        refine Aa (Li (id:=2) (m:=4) (i:=Int.toNat i) (j:=0) (st':=[⟨0,81,3,(mix (Ae 111 3) Ad (Int.toNat t) l).set (Int.toNat t) [(i64 d.from_),(i64 d.to),(.own 2 0 (List.length q21))]⟩,⟨0,81,3,[[(i64 d.from_),(i64 d.to),(ls At d.cons)]]⟩,⟨0,111,1,mix (BR 3) At (Int.toNat i+1) (Sh.put q i (Ba.mk f))⟩,⟨0,111,1,[[(ls eI c.fields)]]⟩,⟨1,3,1,[]⟩]) rfl (List.getElem?_set_self hkc) rfl U (by simp) (by decide) (Nat.zero_le _) (RC.FH fun _=>U) (by rw[← hmixc];rfl)) ?_
        refine Aa (Rj (L:=[(3,(.own 0 0 (List.length q9))),(4,(i64 t)),(10,(.own 0 0 (List.length q9))),(11,(i64 (Sh.len q9))),(12,(i64 t)),(25,(ls At d.cons)),(26,(i64 (Sh.len d.cons))),(27,(i64 i))]) (st':=[⟨0,81,3,(mix (Ae 111 3) Ad (Int.toNat t) l).set (Int.toNat t) [(i64 d.from_),(i64 d.to),(.own 2 0 (List.length q21))]⟩,⟨0,81,3,[[(i64 d.from_),(i64 d.to),(ls At d.cons)]]⟩,⟨0,111,1,mix (BR 3) At (Int.toNat i+1) (Sh.put q i (Ba.mk f))⟩]) [0,1,2] (by decide) rfl U hselr ⟨.rfl,.rfl,.rfl,.rfl,.rfl,.rfl,.rfl,.rfl,trivial⟩) ?_
        refine AR (by rfl) ?_
        refine BU (v:=(i64 (Sh.w (i+1)))) Aj U (Tc U U) ?_
        refine BU (v:=(i64 (Sh.w (i+1)))) Aj U (JR U) ?_
        have htc:i < (d.cons.length:Int):=of_decide_eq_true b33
        have hw1:Sh.w (i+1)=i+1:=Go.Abs.wrap_i64 (by omega) (by omega)
        have ht2:Int.toNat (Sh.w (i+1))=Int.toNat i+1:=by rw[hw1];omega
        exact AA (Exists.intro (Sh.w (i+1),Sh.put q i (Ba.mk f)) (And.intro ⟨h2,by rw[Sh.BF];exact hlq,by rw[hw1];omega,by rw[hw1];omega⟩ ((Ab (L:=[(3,(.own 0 0 (List.length q9))),(4,(i64 t)),(10,(.own 0 0 (List.length q9))),(11,(i64 (Sh.len q9))),(12,(i64 t)),(25,(ls At d.cons)),(26,(i64 (Sh.len d.cons))),(27,(i64 (Sh.w (i+1))))]) ⟨.rfl,.rfl,.rfl,.rfl,.rfl,.rfl,.rfl,.rfl,trivial⟩).trans (DF (by rw[ht2]))))))
      have A_32:A 4 #[true,true,true,true,true,true,true,true,false,false,false,false] ⟨46,AM [(3,(.own 0 0 (List.length q9))),(4,(i64 t)),(6,(i64 i)),(7,(.ptr 3 0 0 0)),(10,(.own 0 0 (List.length q9))),(11,(i64 (Sh.len q9))),(12,(i64 t)),(25,(ls At d.cons)),(26,(i64 (Sh.len d.cons))),(27,(i64 i)),(32,(.own 0 0 (List.length q9))),(33,(i64 t)),(37,(i64 i)),(34,(.ptr 0 0 (Int.toNat t) 0)),(35,(.ptr 0 0 (Int.toNat t) 2)),(36,(.own 2 0 (List.length q21))),(38,(.ptr 3 0 0 0)),(39,(ls eI c.fields))],[⟨0,81,3,(mix (Ae 111 3) Ad (Int.toNat t) l).set (Int.toNat t) [(i64 d.from_),(i64 d.to),(.own 2 0 (List.length q21))]⟩,⟨0,81,3,[[(i64 d.from_),(i64 d.to),(ls At d.cons)]]⟩,⟨0,111,1,mix (BR 3) At (Int.toNat i) q⟩,⟨0,111,1,[[(ls eI c.fields)]]⟩]⟩:=(hA _ _ _).2 (by
        refine Af [8] U (by kernel_rfl) (by decide) ⟨?_,trivial⟩
        · refine A3.of (i:=8) rfl U (by rfl) ?_
          refine BW (v':=(.own 4 0 (List.length f))) (st':=[⟨0,81,3,(mix (Ae 111 3) Ad (Int.toNat t) l).set (Int.toNat t) [(i64 d.from_),(i64 d.to),(.own 2 0 (List.length q21))]⟩,⟨0,81,3,[[(i64 d.from_),(i64 d.to),(ls At d.cons)]]⟩,⟨0,111,1,mix (BR 3) At (Int.toNat i) q⟩,⟨0,111,1,[[(ls eI c.fields)]]⟩,⟨0,3,1,List.map eI f⟩]) Aj LZ (B4 gf) rfl U ⟨(Br fun _=>U),trivial⟩ U U (AA ⟨U,?_⟩)
          exact AI (Ab (L:=[(3,(.own 0 0 (List.length q9))),(4,(i64 t)),(6,(i64 i)),(7,(.ptr 3 0 0 0)),(10,(.own 0 0 (List.length q9))),(11,(i64 (Sh.len q9))),(12,(i64 t)),(25,(ls At d.cons)),(26,(i64 (Sh.len d.cons))),(27,(i64 i)),(32,(.own 0 0 (List.length q9))),(33,(i64 t)),(37,(i64 i)),(34,(.ptr 0 0 (Int.toNat t) 0)),(35,(.ptr 0 0 (Int.toNat t) 2)),(36,(.own 2 0 (List.length q21))),(38,(.ptr 3 0 0 0)),(39,(ls eI c.fields)),(40,(.own 4 0 (List.length f)))]) ⟨.rfl,.rfl,.rfl,.rfl,.rfl,.rfl,.rfl,.rfl,.rfl,.rfl,.rfl,.rfl,.rfl,.rfl,.rfl,.rfl,.rfl,.rfl,.rfl,trivial⟩) (AL (by kernel_rfl) ((hA _ _ _).1 A_33)) rfl)
      have A_23:A 4 #[true,true,true,true,false,true,true,true,true,false,false,false] ⟨46,AM [(3,(.own 0 0 (List.length q9))),(4,(i64 t)),(6,(i64 i)),(7,(.ptr 3 0 0 0)),(10,(.own 0 0 (List.length q9))),(11,(i64 (Sh.len q9))),(12,(i64 t)),(25,(ls At d.cons)),(26,(i64 (Sh.len d.cons))),(27,(i64 i)),(32,(.own 0 0 (List.length q9))),(33,(i64 t)),(37,(i64 i)),(34,(.ptr 0 0 (Int.toNat t) 0)),(35,(.ptr 0 0 (Int.toNat t) 2)),(38,(.ptr 3 0 0 0)),(39,(ls eI c.fields)),(40,(.own 4 0 (List.length f)))],[⟨0,81,3,(mix (Ae 111 3) Ad (Int.toNat t) l).set (Int.toNat t) [(i64 d.from_),(i64 d.to),(.own 2 0 (List.length q21))]⟩,⟨0,81,3,[[(i64 d.from_),(i64 d.to),(ls At d.cons)]]⟩,⟨0,111,1,mix (BR 3) At (Int.toNat i) q⟩,⟨0,111,1,[[(ls eI c.fields)]]⟩,⟨0,3,1,List.map eI f⟩]⟩:=(hA _ _ _).2 (by
        refine Af [4] U (by kernel_rfl) (by decide) ⟨?_,trivial⟩
        · refine A3.of (i:=4) rfl U (by rfl) ?_
          refine BU (v:=(.own 2 0 (List.length q21))) Aj U (BG Nn U U (List.getElem?_set_self hkl) rfl) (AA ⟨U,?_⟩)
          exact AI (Ab (L:=[(3,(.own 0 0 (List.length q9))),(4,(i64 t)),(6,(i64 i)),(7,(.ptr 3 0 0 0)),(10,(.own 0 0 (List.length q9))),(11,(i64 (Sh.len q9))),(12,(i64 t)),(25,(ls At d.cons)),(26,(i64 (Sh.len d.cons))),(27,(i64 i)),(32,(.own 0 0 (List.length q9))),(33,(i64 t)),(37,(i64 i)),(34,(.ptr 0 0 (Int.toNat t) 0)),(35,(.ptr 0 0 (Int.toNat t) 2)),(36,(.own 2 0 (List.length q21))),(38,(.ptr 3 0 0 0)),(39,(ls eI c.fields)),(40,(.own 4 0 (List.length f)))]) ⟨.rfl,.rfl,.rfl,.rfl,.rfl,.rfl,.rfl,.rfl,.rfl,.rfl,.rfl,.rfl,.rfl,.rfl,.rfl,.rfl,.rfl,.rfl,.rfl,trivial⟩) (AL (by kernel_rfl) ((hA _ _ _).1 A_33)) rfl)
      have A_31:A 5 #[true,true,true,true,true,true,true,false,false,false,false,false] ⟨46,AM [(3,(.own 0 0 (List.length q9))),(4,(i64 t)),(6,(i64 i)),(7,(.ptr 3 0 0 0)),(10,(.own 0 0 (List.length q9))),(11,(i64 (Sh.len q9))),(12,(i64 t)),(25,(ls At d.cons)),(26,(i64 (Sh.len d.cons))),(27,(i64 i)),(32,(.own 0 0 (List.length q9))),(33,(i64 t)),(37,(i64 i)),(34,(.ptr 0 0 (Int.toNat t) 0)),(35,(.ptr 0 0 (Int.toNat t) 2)),(36,(.own 2 0 (List.length q21))),(38,(.ptr 3 0 0 0))],[⟨0,81,3,(mix (Ae 111 3) Ad (Int.toNat t) l).set (Int.toNat t) [(i64 d.from_),(i64 d.to),(.own 2 0 (List.length q21))]⟩,⟨0,81,3,[[(i64 d.from_),(i64 d.to),(ls At d.cons)]]⟩,⟨0,111,1,mix (BR 3) At (Int.toNat i) q⟩,⟨0,111,1,[[(ls eI c.fields)]]⟩]⟩:=(hA _ _ _).2 (by
        refine Af [7] U (by kernel_rfl) (by decide) ⟨?_,trivial⟩
        · refine A3.of (i:=7) rfl U (by rfl) ?_
          refine BU (v:=(ls eI c.fields)) Aj U (BG HM U U U U) (AA ⟨U,?_⟩)
          exact AI (Ab (L:=[(3,(.own 0 0 (List.length q9))),(4,(i64 t)),(6,(i64 i)),(7,(.ptr 3 0 0 0)),(10,(.own 0 0 (List.length q9))),(11,(i64 (Sh.len q9))),(12,(i64 t)),(25,(ls At d.cons)),(26,(i64 (Sh.len d.cons))),(27,(i64 i)),(32,(.own 0 0 (List.length q9))),(33,(i64 t)),(37,(i64 i)),(34,(.ptr 0 0 (Int.toNat t) 0)),(35,(.ptr 0 0 (Int.toNat t) 2)),(36,(.own 2 0 (List.length q21))),(38,(.ptr 3 0 0 0)),(39,(ls eI c.fields))]) ⟨.rfl,.rfl,.rfl,.rfl,.rfl,.rfl,.rfl,.rfl,.rfl,.rfl,.rfl,.rfl,.rfl,.rfl,.rfl,.rfl,.rfl,.rfl,trivial⟩) (AL (by kernel_rfl) ((hA _ _ _).1 A_32)) rfl)
      have A_22:A 5 #[true,true,true,true,false,true,true,true,false,false,false,false] ⟨46,AM [(3,(.own 0 0 (List.length q9))),(4,(i64 t)),(6,(i64 i)),(7,(.ptr 3 0 0 0)),(10,(.own 0 0 (List.length q9))),(11,(i64 (Sh.len q9))),(12,(i64 t)),(25,(ls At d.cons)),(26,(i64 (Sh.len d.cons))),(27,(i64 i)),(32,(.own 0 0 (List.length q9))),(33,(i64 t)),(37,(i64 i)),(34,(.ptr 0 0 (Int.toNat t) 0)),(35,(.ptr 0 0 (Int.toNat t) 2)),(38,(.ptr 3 0 0 0)),(39,(ls eI c.fields))],[⟨0,81,3,(mix (Ae 111 3) Ad (Int.toNat t) l).set (Int.toNat t) [(i64 d.from_),(i64 d.to),(.own 2 0 (List.length q21))]⟩,⟨0,81,3,[[(i64 d.from_),(i64 d.to),(ls At d.cons)]]⟩,⟨0,111,1,mix (BR 3) At (Int.toNat i) q⟩,⟨0,111,1,[[(ls eI c.fields)]]⟩]⟩:=(hA _ _ _).2 (by
        refine Af [4,8] U (by kernel_rfl) (by decide) ⟨?_,?_,trivial⟩
        · refine A3.of (i:=4) rfl U (by rfl) ?_
          refine BU (v:=(.own 2 0 (List.length q21))) Aj U (BG Nn U U (List.getElem?_set_self hkl) rfl) (AA ⟨U,?_⟩)
          exact AI (Ab (L:=[(3,(.own 0 0 (List.length q9))),(4,(i64 t)),(6,(i64 i)),(7,(.ptr 3 0 0 0)),(10,(.own 0 0 (List.length q9))),(11,(i64 (Sh.len q9))),(12,(i64 t)),(25,(ls At d.cons)),(26,(i64 (Sh.len d.cons))),(27,(i64 i)),(32,(.own 0 0 (List.length q9))),(33,(i64 t)),(37,(i64 i)),(34,(.ptr 0 0 (Int.toNat t) 0)),(35,(.ptr 0 0 (Int.toNat t) 2)),(36,(.own 2 0 (List.length q21))),(38,(.ptr 3 0 0 0)),(39,(ls eI c.fields))]) ⟨.rfl,.rfl,.rfl,.rfl,.rfl,.rfl,.rfl,.rfl,.rfl,.rfl,.rfl,.rfl,.rfl,.rfl,.rfl,.rfl,.rfl,.rfl,trivial⟩) (AL (by kernel_rfl) ((hA _ _ _).1 A_32)) rfl
        · refine A3.of (i:=8) rfl U (by rfl) ?_
          refine BW (v':=(.own 4 0 (List.length f))) (st':=[⟨0,81,3,(mix (Ae 111 3) Ad (Int.toNat t) l).set (Int.toNat t) [(i64 d.from_),(i64 d.to),(.own 2 0 (List.length q21))]⟩,⟨0,81,3,[[(i64 d.from_),(i64 d.to),(ls At d.cons)]]⟩,⟨0,111,1,mix (BR 3) At (Int.toNat i) q⟩,⟨0,111,1,[[(ls eI c.fields)]]⟩,⟨0,3,1,List.map eI f⟩]) Aj LZ (B4 gf) rfl U ⟨(Br fun _=>U),trivial⟩ U U (AA ⟨U,?_⟩)
          exact AI (Ab (L:=[(3,(.own 0 0 (List.length q9))),(4,(i64 t)),(6,(i64 i)),(7,(.ptr 3 0 0 0)),(10,(.own 0 0 (List.length q9))),(11,(i64 (Sh.len q9))),(12,(i64 t)),(25,(ls At d.cons)),(26,(i64 (Sh.len d.cons))),(27,(i64 i)),(32,(.own 0 0 (List.length q9))),(33,(i64 t)),(37,(i64 i)),(34,(.ptr 0 0 (Int.toNat t) 0)),(35,(.ptr 0 0 (Int.toNat t) 2)),(38,(.ptr 3 0 0 0)),(39,(ls eI c.fields)),(40,(.own 4 0 (List.length f)))]) ⟨.rfl,.rfl,.rfl,.rfl,.rfl,.rfl,.rfl,.rfl,.rfl,.rfl,.rfl,.rfl,.rfl,.rfl,.rfl,.rfl,.rfl,.rfl,trivial⟩) (AL (by kernel_rfl) ((hA _ _ _).1 A_23)) rfl)
      have A_13:A 5 #[true,true,true,false,false,true,true,true,true,false,false,false] ⟨46,AM [(3,(.own 0 0 (List.length q9))),(4,(i64 t)),(6,(i64 i)),(7,(.ptr 3 0 0 0)),(10,(.own 0 0 (List.length q9))),(11,(i64 (Sh.len q9))),(12,(i64 t)),(25,(ls At d.cons)),(26,(i64 (Sh.len d.cons))),(27,(i64 i)),(32,(.own 0 0 (List.length q9))),(33,(i64 t)),(37,(i64 i)),(34,(.ptr 0 0 (Int.toNat t) 0)),(38,(.ptr 3 0 0 0)),(39,(ls eI c.fields)),(40,(.own 4 0 (List.length f)))],[⟨0,81,3,(mix (Ae 111 3) Ad (Int.toNat t) l).set (Int.toNat t) [(i64 d.from_),(i64 d.to),(.own 2 0 (List.length q21))]⟩,⟨0,81,3,[[(i64 d.from_),(i64 d.to),(ls At d.cons)]]⟩,⟨0,111,1,mix (BR 3) At (Int.toNat i) q⟩,⟨0,111,1,[[(ls eI c.fields)]]⟩,⟨0,3,1,List.map eI f⟩]⟩:=(hA _ _ _).2 (by
        refine Af [3] U (by kernel_rfl) (by decide) ⟨?_,trivial⟩
        · refine A3.of (i:=3) rfl U (by rfl) ?_
          refine BU (v:=(.ptr 0 0 (Int.toNat t) 2)) Aj U (HB Ln U U (show 0+2≤3 by decide) rfl) (AA ⟨U,?_⟩)
          exact AI (Ab (L:=[(3,(.own 0 0 (List.length q9))),(4,(i64 t)),(6,(i64 i)),(7,(.ptr 3 0 0 0)),(10,(.own 0 0 (List.length q9))),(11,(i64 (Sh.len q9))),(12,(i64 t)),(25,(ls At d.cons)),(26,(i64 (Sh.len d.cons))),(27,(i64 i)),(32,(.own 0 0 (List.length q9))),(33,(i64 t)),(37,(i64 i)),(34,(.ptr 0 0 (Int.toNat t) 0)),(35,(.ptr 0 0 (Int.toNat t) 2)),(38,(.ptr 3 0 0 0)),(39,(ls eI c.fields)),(40,(.own 4 0 (List.length f)))]) ⟨.rfl,.rfl,.rfl,.rfl,.rfl,.rfl,.rfl,.rfl,.rfl,.rfl,.rfl,.rfl,.rfl,.rfl,.rfl,.rfl,.rfl,.rfl,trivial⟩) (AL (by kernel_rfl) ((hA _ _ _).1 A_23)) rfl)
      have A_30:A 6 #[true,true,true,true,true,true,false,false,false,false,false,false] ⟨46,AM [(3,(.own 0 0 (List.length q9))),(4,(i64 t)),(6,(i64 i)),(7,(.ptr 3 0 0 0)),(10,(.own 0 0 (List.length q9))),(11,(i64 (Sh.len q9))),(12,(i64 t)),(25,(ls At d.cons)),(26,(i64 (Sh.len d.cons))),(27,(i64 i)),(32,(.own 0 0 (List.length q9))),(33,(i64 t)),(37,(i64 i)),(34,(.ptr 0 0 (Int.toNat t) 0)),(35,(.ptr 0 0 (Int.toNat t) 2)),(36,(.own 2 0 (List.length q21)))],[⟨0,81,3,(mix (Ae 111 3) Ad (Int.toNat t) l).set (Int.toNat t) [(i64 d.from_),(i64 d.to),(.own 2 0 (List.length q21))]⟩,⟨0,81,3,[[(i64 d.from_),(i64 d.to),(ls At d.cons)]]⟩,⟨0,111,1,mix (BR 3) At (Int.toNat i) q⟩,⟨0,111,1,[[(ls eI c.fields)]]⟩]⟩:=(hA _ _ _).2 (by
        refine Af [6] U (by kernel_rfl) (by decide) ⟨?_,trivial⟩
        · refine A3.of (i:=6) rfl U (by rfl) ?_
          refine BU (v:=(.ptr 3 0 0 0)) Aj U (HB Ms U U (show 0+0≤1 by decide) rfl) (AA ⟨U,?_⟩)
          exact AI (Ab (L:=[(3,(.own 0 0 (List.length q9))),(4,(i64 t)),(6,(i64 i)),(7,(.ptr 3 0 0 0)),(10,(.own 0 0 (List.length q9))),(11,(i64 (Sh.len q9))),(12,(i64 t)),(25,(ls At d.cons)),(26,(i64 (Sh.len d.cons))),(27,(i64 i)),(32,(.own 0 0 (List.length q9))),(33,(i64 t)),(37,(i64 i)),(34,(.ptr 0 0 (Int.toNat t) 0)),(35,(.ptr 0 0 (Int.toNat t) 2)),(36,(.own 2 0 (List.length q21))),(38,(.ptr 3 0 0 0))]) ⟨.rfl,.rfl,.rfl,.rfl,.rfl,.rfl,.rfl,.rfl,.rfl,.rfl,.rfl,.rfl,.rfl,.rfl,.rfl,.rfl,.rfl,trivial⟩) (AL (by kernel_rfl) ((hA _ _ _).1 A_31)) rfl)
      have A_21:A 6 #[true,true,true,true,false,true,true,false,false,false,false,false] ⟨46,AM [(3,(.own 0 0 (List.length q9))),(4,(i64 t)),(6,(i64 i)),(7,(.ptr 3 0 0 0)),(10,(.own 0 0 (List.length q9))),(11,(i64 (Sh.len q9))),(12,(i64 t)),(25,(ls At d.cons)),(26,(i64 (Sh.len d.cons))),(27,(i64 i)),(32,(.own 0 0 (List.length q9))),(33,(i64 t)),(37,(i64 i)),(34,(.ptr 0 0 (Int.toNat t) 0)),(35,(.ptr 0 0 (Int.toNat t) 2)),(38,(.ptr 3 0 0 0))],[⟨0,81,3,(mix (Ae 111 3) Ad (Int.toNat t) l).set (Int.toNat t) [(i64 d.from_),(i64 d.to),(.own 2 0 (List.length q21))]⟩,⟨0,81,3,[[(i64 d.from_),(i64 d.to),(ls At d.cons)]]⟩,⟨0,111,1,mix (BR 3) At (Int.toNat i) q⟩,⟨0,111,1,[[(ls eI c.fields)]]⟩]⟩:=(hA _ _ _).2 (by
        refine Af [4,7] U (by kernel_rfl) (by decide) ⟨?_,?_,trivial⟩
        · refine A3.of (i:=4) rfl U (by rfl) ?_
          refine BU (v:=(.own 2 0 (List.length q21))) Aj U (BG Nn U U (List.getElem?_set_self hkl) rfl) (AA ⟨U,?_⟩)
          exact AI (Ab (L:=[(3,(.own 0 0 (List.length q9))),(4,(i64 t)),(6,(i64 i)),(7,(.ptr 3 0 0 0)),(10,(.own 0 0 (List.length q9))),(11,(i64 (Sh.len q9))),(12,(i64 t)),(25,(ls At d.cons)),(26,(i64 (Sh.len d.cons))),(27,(i64 i)),(32,(.own 0 0 (List.length q9))),(33,(i64 t)),(37,(i64 i)),(34,(.ptr 0 0 (Int.toNat t) 0)),(35,(.ptr 0 0 (Int.toNat t) 2)),(36,(.own 2 0 (List.length q21))),(38,(.ptr 3 0 0 0))]) ⟨.rfl,.rfl,.rfl,.rfl,.rfl,.rfl,.rfl,.rfl,.rfl,.rfl,.rfl,.rfl,.rfl,.rfl,.rfl,.rfl,.rfl,trivial⟩) (AL (by kernel_rfl) ((hA _ _ _).1 A_31)) rfl
        · refine A3.of (i:=7) rfl U (by rfl) ?_
          refine BU (v:=(ls eI c.fields)) Aj U (BG HM U U U U) (AA ⟨U,?_⟩)
          exact AI (Ab (L:=[(3,(.own 0 0 (List.length q9))),(4,(i64 t)),(6,(i64 i)),(7,(.ptr 3 0 0 0)),(10,(.own 0 0 (List.length q9))),(11,(i64 (Sh.len q9))),(12,(i64 t)),(25,(ls At d.cons)),(26,(i64 (Sh.len d.cons))),(27,(i64 i)),(32,(.own 0 0 (List.length q9))),(33,(i64 t)),(37,(i64 i)),(34,(.ptr 0 0 (Int.toNat t) 0)),(35,(.ptr 0 0 (Int.toNat t) 2)),(38,(.ptr 3 0 0 0)),(39,(ls eI c.fields))]) ⟨.rfl,.rfl,.rfl,.rfl,.rfl,.rfl,.rfl,.rfl,.rfl,.rfl,.rfl,.rfl,.rfl,.rfl,.rfl,.rfl,.rfl,trivial⟩) (AL (by kernel_rfl) ((hA _ _ _).1 A_22)) rfl)
      have A_12:A 6 #[true,true,true,false,false,true,true,true,false,false,false,false] ⟨46,AM [(3,(.own 0 0 (List.length q9))),(4,(i64 t)),(6,(i64 i)),(7,(.ptr 3 0 0 0)),(10,(.own 0 0 (List.length q9))),(11,(i64 (Sh.len q9))),(12,(i64 t)),(25,(ls At d.cons)),(26,(i64 (Sh.len d.cons))),(27,(i64 i)),(32,(.own 0 0 (List.length q9))),(33,(i64 t)),(37,(i64 i)),(34,(.ptr 0 0 (Int.toNat t) 0)),(38,(.ptr 3 0 0 0)),(39,(ls eI c.fields))],[⟨0,81,3,(mix (Ae 111 3) Ad (Int.toNat t) l).set (Int.toNat t) [(i64 d.from_),(i64 d.to),(.own 2 0 (List.length q21))]⟩,⟨0,81,3,[[(i64 d.from_),(i64 d.to),(ls At d.cons)]]⟩,⟨0,111,1,mix (BR 3) At (Int.toNat i) q⟩,⟨0,111,1,[[(ls eI c.fields)]]⟩]⟩:=(hA _ _ _).2 (by
        refine Af [3,8] U (by kernel_rfl) (by decide) ⟨?_,?_,trivial⟩
        · refine A3.of (i:=3) rfl U (by rfl) ?_
          refine BU (v:=(.ptr 0 0 (Int.toNat t) 2)) Aj U (HB Ln U U (show 0+2≤3 by decide) rfl) (AA ⟨U,?_⟩)
          exact AI (Ab (L:=[(3,(.own 0 0 (List.length q9))),(4,(i64 t)),(6,(i64 i)),(7,(.ptr 3 0 0 0)),(10,(.own 0 0 (List.length q9))),(11,(i64 (Sh.len q9))),(12,(i64 t)),(25,(ls At d.cons)),(26,(i64 (Sh.len d.cons))),(27,(i64 i)),(32,(.own 0 0 (List.length q9))),(33,(i64 t)),(37,(i64 i)),(34,(.ptr 0 0 (Int.toNat t) 0)),(35,(.ptr 0 0 (Int.toNat t) 2)),(38,(.ptr 3 0 0 0)),(39,(ls eI c.fields))]) ⟨.rfl,.rfl,.rfl,.rfl,.rfl,.rfl,.rfl,.rfl,.rfl,.rfl,.rfl,.rfl,.rfl,.rfl,.rfl,.rfl,.rfl,trivial⟩) (AL (by kernel_rfl) ((hA _ _ _).1 A_22)) rfl
        · refine A3.of (i:=8) rfl U (by rfl) ?_
          refine BW (v':=(.own 4 0 (List.length f))) (st':=[⟨0,81,3,(mix (Ae 111 3) Ad (Int.toNat t) l).set (Int.toNat t) [(i64 d.from_),(i64 d.to),(.own 2 0 (List.length q21))]⟩,⟨0,81,3,[[(i64 d.from_),(i64 d.to),(ls At d.cons)]]⟩,⟨0,111,1,mix (BR 3) At (Int.toNat i) q⟩,⟨0,111,1,[[(ls eI c.fields)]]⟩,⟨0,3,1,List.map eI f⟩]) Aj LZ (B4 gf) rfl U ⟨(Br fun _=>U),trivial⟩ U U (AA ⟨U,?_⟩)
          exact AI (Ab (L:=[(3,(.own 0 0 (List.length q9))),(4,(i64 t)),(6,(i64 i)),(7,(.ptr 3 0 0 0)),(10,(.own 0 0 (List.length q9))),(11,(i64 (Sh.len q9))),(12,(i64 t)),(25,(ls At d.cons)),(26,(i64 (Sh.len d.cons))),(27,(i64 i)),(32,(.own 0 0 (List.length q9))),(33,(i64 t)),(37,(i64 i)),(34,(.ptr 0 0 (Int.toNat t) 0)),(38,(.ptr 3 0 0 0)),(39,(ls eI c.fields)),(40,(.own 4 0 (List.length f)))]) ⟨.rfl,.rfl,.rfl,.rfl,.rfl,.rfl,.rfl,.rfl,.rfl,.rfl,.rfl,.rfl,.rfl,.rfl,.rfl,.rfl,.rfl,trivial⟩) (AL (by kernel_rfl) ((hA _ _ _).1 A_13)) rfl)
      have A_03:A 6 #[true,true,false,false,false,true,true,true,true,false,false,false] ⟨46,AM [(3,(.own 0 0 (List.length q9))),(4,(i64 t)),(6,(i64 i)),(7,(.ptr 3 0 0 0)),(10,(.own 0 0 (List.length q9))),(11,(i64 (Sh.len q9))),(12,(i64 t)),(25,(ls At d.cons)),(26,(i64 (Sh.len d.cons))),(27,(i64 i)),(32,(.own 0 0 (List.length q9))),(33,(i64 t)),(37,(i64 i)),(38,(.ptr 3 0 0 0)),(39,(ls eI c.fields)),(40,(.own 4 0 (List.length f)))],[⟨0,81,3,(mix (Ae 111 3) Ad (Int.toNat t) l).set (Int.toNat t) [(i64 d.from_),(i64 d.to),(.own 2 0 (List.length q21))]⟩,⟨0,81,3,[[(i64 d.from_),(i64 d.to),(ls At d.cons)]]⟩,⟨0,111,1,mix (BR 3) At (Int.toNat i) q⟩,⟨0,111,1,[[(ls eI c.fields)]]⟩,⟨0,3,1,List.map eI f⟩]⟩:=(hA _ _ _).2 (by
        refine Af [2] U (by kernel_rfl) (by decide) ⟨?_,trivial⟩
        · refine A3.of (i:=2) rfl U (by rfl) ?_
          refine BU (v:=(.ptr 0 0 (Int.toNat t) 0)) Aj U (La DA U U U ht0 htl (by first | rfl | (rw[E5];omega) | (simp[E5];omega))) (AA ⟨U,?_⟩)
          exact AI (Ab (L:=[(3,(.own 0 0 (List.length q9))),(4,(i64 t)),(6,(i64 i)),(7,(.ptr 3 0 0 0)),(10,(.own 0 0 (List.length q9))),(11,(i64 (Sh.len q9))),(12,(i64 t)),(25,(ls At d.cons)),(26,(i64 (Sh.len d.cons))),(27,(i64 i)),(32,(.own 0 0 (List.length q9))),(33,(i64 t)),(37,(i64 i)),(34,(.ptr 0 0 (Int.toNat t) 0)),(38,(.ptr 3 0 0 0)),(39,(ls eI c.fields)),(40,(.own 4 0 (List.length f)))]) ⟨.rfl,.rfl,.rfl,.rfl,.rfl,.rfl,.rfl,.rfl,.rfl,.rfl,.rfl,.rfl,.rfl,.rfl,.rfl,.rfl,.rfl,trivial⟩) (AL (by kernel_rfl) ((hA _ _ _).1 A_13)) rfl)
      have A_20:A 7 #[true,true,true,true,false,true,false,false,false,false,false,false] ⟨46,AM [(3,(.own 0 0 (List.length q9))),(4,(i64 t)),(6,(i64 i)),(7,(.ptr 3 0 0 0)),(10,(.own 0 0 (List.length q9))),(11,(i64 (Sh.len q9))),(12,(i64 t)),(25,(ls At d.cons)),(26,(i64 (Sh.len d.cons))),(27,(i64 i)),(32,(.own 0 0 (List.length q9))),(33,(i64 t)),(37,(i64 i)),(34,(.ptr 0 0 (Int.toNat t) 0)),(35,(.ptr 0 0 (Int.toNat t) 2))],[⟨0,81,3,(mix (Ae 111 3) Ad (Int.toNat t) l).set (Int.toNat t) [(i64 d.from_),(i64 d.to),(.own 2 0 (List.length q21))]⟩,⟨0,81,3,[[(i64 d.from_),(i64 d.to),(ls At d.cons)]]⟩,⟨0,111,1,mix (BR 3) At (Int.toNat i) q⟩,⟨0,111,1,[[(ls eI c.fields)]]⟩]⟩:=(hA _ _ _).2 (by
        refine Af [4,6] U (by kernel_rfl) (by decide) ⟨?_,?_,trivial⟩
        · refine A3.of (i:=4) rfl U (by rfl) ?_
          refine BU (v:=(.own 2 0 (List.length q21))) Aj U (BG Nn U U (List.getElem?_set_self hkl) rfl) (AA ⟨U,?_⟩)
          exact AI (Ab (L:=[(3,(.own 0 0 (List.length q9))),(4,(i64 t)),(6,(i64 i)),(7,(.ptr 3 0 0 0)),(10,(.own 0 0 (List.length q9))),(11,(i64 (Sh.len q9))),(12,(i64 t)),(25,(ls At d.cons)),(26,(i64 (Sh.len d.cons))),(27,(i64 i)),(32,(.own 0 0 (List.length q9))),(33,(i64 t)),(37,(i64 i)),(34,(.ptr 0 0 (Int.toNat t) 0)),(35,(.ptr 0 0 (Int.toNat t) 2)),(36,(.own 2 0 (List.length q21)))]) ⟨.rfl,.rfl,.rfl,.rfl,.rfl,.rfl,.rfl,.rfl,.rfl,.rfl,.rfl,.rfl,.rfl,.rfl,.rfl,.rfl,trivial⟩) (AL (by kernel_rfl) ((hA _ _ _).1 A_30)) rfl
        · refine A3.of (i:=6) rfl U (by rfl) ?_
          refine BU (v:=(.ptr 3 0 0 0)) Aj U (HB Ms U U (show 0+0≤1 by decide) rfl) (AA ⟨U,?_⟩)
          exact AI (Ab (L:=[(3,(.own 0 0 (List.length q9))),(4,(i64 t)),(6,(i64 i)),(7,(.ptr 3 0 0 0)),(10,(.own 0 0 (List.length q9))),(11,(i64 (Sh.len q9))),(12,(i64 t)),(25,(ls At d.cons)),(26,(i64 (Sh.len d.cons))),(27,(i64 i)),(32,(.own 0 0 (List.length q9))),(33,(i64 t)),(37,(i64 i)),(34,(.ptr 0 0 (Int.toNat t) 0)),(35,(.ptr 0 0 (Int.toNat t) 2)),(38,(.ptr 3 0 0 0))]) ⟨.rfl,.rfl,.rfl,.rfl,.rfl,.rfl,.rfl,.rfl,.rfl,.rfl,.rfl,.rfl,.rfl,.rfl,.rfl,.rfl,trivial⟩) (AL (by kernel_rfl) ((hA _ _ _).1 A_21)) rfl)
      have A_11:A 7 #[true,true,true,false,false,true,true,false,false,false,false,false] ⟨46,AM [(3,(.own 0 0 (List.length q9))),(4,(i64 t)),(6,(i64 i)),(7,(.ptr 3 0 0 0)),(10,(.own 0 0 (List.length q9))),(11,(i64 (Sh.len q9))),(12,(i64 t)),(25,(ls At d.cons)),(26,(i64 (Sh.len d.cons))),(27,(i64 i)),(32,(.own 0 0 (List.length q9))),(33,(i64 t)),(37,(i64 i)),(34,(.ptr 0 0 (Int.toNat t) 0)),(38,(.ptr 3 0 0 0))],[⟨0,81,3,(mix (Ae 111 3) Ad (Int.toNat t) l).set (Int.toNat t) [(i64 d.from_),(i64 d.to),(.own 2 0 (List.length q21))]⟩,⟨0,81,3,[[(i64 d.from_),(i64 d.to),(ls At d.cons)]]⟩,⟨0,111,1,mix (BR 3) At (Int.toNat i) q⟩,⟨0,111,1,[[(ls eI c.fields)]]⟩]⟩:=(hA _ _ _).2 (by
        refine Af [3,7] U (by kernel_rfl) (by decide) ⟨?_,?_,trivial⟩
        · refine A3.of (i:=3) rfl U (by rfl) ?_
          refine BU (v:=(.ptr 0 0 (Int.toNat t) 2)) Aj U (HB Ln U U (show 0+2≤3 by decide) rfl) (AA ⟨U,?_⟩)
          exact AI (Ab (L:=[(3,(.own 0 0 (List.length q9))),(4,(i64 t)),(6,(i64 i)),(7,(.ptr 3 0 0 0)),(10,(.own 0 0 (List.length q9))),(11,(i64 (Sh.len q9))),(12,(i64 t)),(25,(ls At d.cons)),(26,(i64 (Sh.len d.cons))),(27,(i64 i)),(32,(.own 0 0 (List.length q9))),(33,(i64 t)),(37,(i64 i)),(34,(.ptr 0 0 (Int.toNat t) 0)),(35,(.ptr 0 0 (Int.toNat t) 2)),(38,(.ptr 3 0 0 0))]) ⟨.rfl,.rfl,.rfl,.rfl,.rfl,.rfl,.rfl,.rfl,.rfl,.rfl,.rfl,.rfl,.rfl,.rfl,.rfl,.rfl,trivial⟩) (AL (by kernel_rfl) ((hA _ _ _).1 A_21)) rfl
        · refine A3.of (i:=7) rfl U (by rfl) ?_
          refine BU (v:=(ls eI c.fields)) Aj U (BG HM U U U U) (AA ⟨U,?_⟩)
          exact AI (Ab (L:=[(3,(.own 0 0 (List.length q9))),(4,(i64 t)),(6,(i64 i)),(7,(.ptr 3 0 0 0)),(10,(.own 0 0 (List.length q9))),(11,(i64 (Sh.len q9))),(12,(i64 t)),(25,(ls At d.cons)),(26,(i64 (Sh.len d.cons))),(27,(i64 i)),(32,(.own 0 0 (List.length q9))),(33,(i64 t)),(37,(i64 i)),(34,(.ptr 0 0 (Int.toNat t) 0)),(38,(.ptr 3 0 0 0)),(39,(ls eI c.fields))]) ⟨.rfl,.rfl,.rfl,.rfl,.rfl,.rfl,.rfl,.rfl,.rfl,.rfl,.rfl,.rfl,.rfl,.rfl,.rfl,.rfl,trivial⟩) (AL (by kernel_rfl) ((hA _ _ _).1 A_12)) rfl)
      have A_02:A 7 #[true,true,false,false,false,true,true,true,false,false,false,false] ⟨46,AM [(3,(.own 0 0 (List.length q9))),(4,(i64 t)),(6,(i64 i)),(7,(.ptr 3 0 0 0)),(10,(.own 0 0 (List.length q9))),(11,(i64 (Sh.len q9))),(12,(i64 t)),(25,(ls At d.cons)),(26,(i64 (Sh.len d.cons))),(27,(i64 i)),(32,(.own 0 0 (List.length q9))),(33,(i64 t)),(37,(i64 i)),(38,(.ptr 3 0 0 0)),(39,(ls eI c.fields))],[⟨0,81,3,(mix (Ae 111 3) Ad (Int.toNat t) l).set (Int.toNat t) [(i64 d.from_),(i64 d.to),(.own 2 0 (List.length q21))]⟩,⟨0,81,3,[[(i64 d.from_),(i64 d.to),(ls At d.cons)]]⟩,⟨0,111,1,mix (BR 3) At (Int.toNat i) q⟩,⟨0,111,1,[[(ls eI c.fields)]]⟩]⟩:=(hA _ _ _).2 (by
        refine Af [2,8] U (by kernel_rfl) (by decide) ⟨?_,?_,trivial⟩
        · refine A3.of (i:=2) rfl U (by rfl) ?_
          refine BU (v:=(.ptr 0 0 (Int.toNat t) 0)) Aj U (La DA U U U ht0 htl (by first | rfl | (rw[E5];omega) | (simp[E5];omega))) (AA ⟨U,?_⟩)
          exact AI (Ab (L:=[(3,(.own 0 0 (List.length q9))),(4,(i64 t)),(6,(i64 i)),(7,(.ptr 3 0 0 0)),(10,(.own 0 0 (List.length q9))),(11,(i64 (Sh.len q9))),(12,(i64 t)),(25,(ls At d.cons)),(26,(i64 (Sh.len d.cons))),(27,(i64 i)),(32,(.own 0 0 (List.length q9))),(33,(i64 t)),(37,(i64 i)),(34,(.ptr 0 0 (Int.toNat t) 0)),(38,(.ptr 3 0 0 0)),(39,(ls eI c.fields))]) ⟨.rfl,.rfl,.rfl,.rfl,.rfl,.rfl,.rfl,.rfl,.rfl,.rfl,.rfl,.rfl,.rfl,.rfl,.rfl,.rfl,trivial⟩) (AL (by kernel_rfl) ((hA _ _ _).1 A_12)) rfl
        · refine A3.of (i:=8) rfl U (by rfl) ?_
          refine BW (v':=(.own 4 0 (List.length f))) (st':=[⟨0,81,3,(mix (Ae 111 3) Ad (Int.toNat t) l).set (Int.toNat t) [(i64 d.from_),(i64 d.to),(.own 2 0 (List.length q21))]⟩,⟨0,81,3,[[(i64 d.from_),(i64 d.to),(ls At d.cons)]]⟩,⟨0,111,1,mix (BR 3) At (Int.toNat i) q⟩,⟨0,111,1,[[(ls eI c.fields)]]⟩,⟨0,3,1,List.map eI f⟩]) Aj LZ (B4 gf) rfl U ⟨(Br fun _=>U),trivial⟩ U U (AA ⟨U,?_⟩)
          exact AI (Ab (L:=[(3,(.own 0 0 (List.length q9))),(4,(i64 t)),(6,(i64 i)),(7,(.ptr 3 0 0 0)),(10,(.own 0 0 (List.length q9))),(11,(i64 (Sh.len q9))),(12,(i64 t)),(25,(ls At d.cons)),(26,(i64 (Sh.len d.cons))),(27,(i64 i)),(32,(.own 0 0 (List.length q9))),(33,(i64 t)),(37,(i64 i)),(38,(.ptr 3 0 0 0)),(39,(ls eI c.fields)),(40,(.own 4 0 (List.length f)))]) ⟨.rfl,.rfl,.rfl,.rfl,.rfl,.rfl,.rfl,.rfl,.rfl,.rfl,.rfl,.rfl,.rfl,.rfl,.rfl,.rfl,trivial⟩) (AL (by kernel_rfl) ((hA _ _ _).1 A_03)) rfl)
      have A_10:A 8 #[true,true,true,false,false,true,false,false,false,false,false,false] ⟨46,AM [(3,(.own 0 0 (List.length q9))),(4,(i64 t)),(6,(i64 i)),(7,(.ptr 3 0 0 0)),(10,(.own 0 0 (List.length q9))),(11,(i64 (Sh.len q9))),(12,(i64 t)),(25,(ls At d.cons)),(26,(i64 (Sh.len d.cons))),(27,(i64 i)),(32,(.own 0 0 (List.length q9))),(33,(i64 t)),(37,(i64 i)),(34,(.ptr 0 0 (Int.toNat t) 0))],[⟨0,81,3,(mix (Ae 111 3) Ad (Int.toNat t) l).set (Int.toNat t) [(i64 d.from_),(i64 d.to),(.own 2 0 (List.length q21))]⟩,⟨0,81,3,[[(i64 d.from_),(i64 d.to),(ls At d.cons)]]⟩,⟨0,111,1,mix (BR 3) At (Int.toNat i) q⟩,⟨0,111,1,[[(ls eI c.fields)]]⟩]⟩:=(hA _ _ _).2 (by
        refine Af [3,6] U (by kernel_rfl) (by decide) ⟨?_,?_,trivial⟩
        · refine A3.of (i:=3) rfl U (by rfl) ?_
          refine BU (v:=(.ptr 0 0 (Int.toNat t) 2)) Aj U (HB Ln U U (show 0+2≤3 by decide) rfl) (AA ⟨U,?_⟩)
          exact AI (Ab (L:=[(3,(.own 0 0 (List.length q9))),(4,(i64 t)),(6,(i64 i)),(7,(.ptr 3 0 0 0)),(10,(.own 0 0 (List.length q9))),(11,(i64 (Sh.len q9))),(12,(i64 t)),(25,(ls At d.cons)),(26,(i64 (Sh.len d.cons))),(27,(i64 i)),(32,(.own 0 0 (List.length q9))),(33,(i64 t)),(37,(i64 i)),(34,(.ptr 0 0 (Int.toNat t) 0)),(35,(.ptr 0 0 (Int.toNat t) 2))]) ⟨.rfl,.rfl,.rfl,.rfl,.rfl,.rfl,.rfl,.rfl,.rfl,.rfl,.rfl,.rfl,.rfl,.rfl,.rfl,trivial⟩) (AL (by kernel_rfl) ((hA _ _ _).1 A_20)) rfl
        · refine A3.of (i:=6) rfl U (by rfl) ?_
          refine BU (v:=(.ptr 3 0 0 0)) Aj U (HB Ms U U (show 0+0≤1 by decide) rfl) (AA ⟨U,?_⟩)
          exact AI (Ab (L:=[(3,(.own 0 0 (List.length q9))),(4,(i64 t)),(6,(i64 i)),(7,(.ptr 3 0 0 0)),(10,(.own 0 0 (List.length q9))),(11,(i64 (Sh.len q9))),(12,(i64 t)),(25,(ls At d.cons)),(26,(i64 (Sh.len d.cons))),(27,(i64 i)),(32,(.own 0 0 (List.length q9))),(33,(i64 t)),(37,(i64 i)),(34,(.ptr 0 0 (Int.toNat t) 0)),(38,(.ptr 3 0 0 0))]) ⟨.rfl,.rfl,.rfl,.rfl,.rfl,.rfl,.rfl,.rfl,.rfl,.rfl,.rfl,.rfl,.rfl,.rfl,.rfl,trivial⟩) (AL (by kernel_rfl) ((hA _ _ _).1 A_11)) rfl)
      have A_01:A 8 #[true,true,false,false,false,true,true,false,false,false,false,false] ⟨46,AM [(3,(.own 0 0 (List.length q9))),(4,(i64 t)),(6,(i64 i)),(7,(.ptr 3 0 0 0)),(10,(.own 0 0 (List.length q9))),(11,(i64 (Sh.len q9))),(12,(i64 t)),(25,(ls At d.cons)),(26,(i64 (Sh.len d.cons))),(27,(i64 i)),(32,(.own 0 0 (List.length q9))),(33,(i64 t)),(37,(i64 i)),(38,(.ptr 3 0 0 0))],[⟨0,81,3,(mix (Ae 111 3) Ad (Int.toNat t) l).set (Int.toNat t) [(i64 d.from_),(i64 d.to),(.own 2 0 (List.length q21))]⟩,⟨0,81,3,[[(i64 d.from_),(i64 d.to),(ls At d.cons)]]⟩,⟨0,111,1,mix (BR 3) At (Int.toNat i) q⟩,⟨0,111,1,[[(ls eI c.fields)]]⟩]⟩:=(hA _ _ _).2 (by
        refine Af [2,7] U (by kernel_rfl) (by decide) ⟨?_,?_,trivial⟩
        · refine A3.of (i:=2) rfl U (by rfl) ?_
          refine BU (v:=(.ptr 0 0 (Int.toNat t) 0)) Aj U (La DA U U U ht0 htl (by first | rfl | (rw[E5];omega) | (simp[E5];omega))) (AA ⟨U,?_⟩)
          exact AI (Ab (L:=[(3,(.own 0 0 (List.length q9))),(4,(i64 t)),(6,(i64 i)),(7,(.ptr 3 0 0 0)),(10,(.own 0 0 (List.length q9))),(11,(i64 (Sh.len q9))),(12,(i64 t)),(25,(ls At d.cons)),(26,(i64 (Sh.len d.cons))),(27,(i64 i)),(32,(.own 0 0 (List.length q9))),(33,(i64 t)),(37,(i64 i)),(34,(.ptr 0 0 (Int.toNat t) 0)),(38,(.ptr 3 0 0 0))]) ⟨.rfl,.rfl,.rfl,.rfl,.rfl,.rfl,.rfl,.rfl,.rfl,.rfl,.rfl,.rfl,.rfl,.rfl,.rfl,trivial⟩) (AL (by kernel_rfl) ((hA _ _ _).1 A_11)) rfl
        · refine A3.of (i:=7) rfl U (by rfl) ?_
          refine BU (v:=(ls eI c.fields)) Aj U (BG HM U U U U) (AA ⟨U,?_⟩)
          exact AI (Ab (L:=[(3,(.own 0 0 (List.length q9))),(4,(i64 t)),(6,(i64 i)),(7,(.ptr 3 0 0 0)),(10,(.own 0 0 (List.length q9))),(11,(i64 (Sh.len q9))),(12,(i64 t)),(25,(ls At d.cons)),(26,(i64 (Sh.len d.cons))),(27,(i64 i)),(32,(.own 0 0 (List.length q9))),(33,(i64 t)),(37,(i64 i)),(38,(.ptr 3 0 0 0)),(39,(ls eI c.fields))]) ⟨.rfl,.rfl,.rfl,.rfl,.rfl,.rfl,.rfl,.rfl,.rfl,.rfl,.rfl,.rfl,.rfl,.rfl,.rfl,trivial⟩) (AL (by kernel_rfl) ((hA _ _ _).1 A_02)) rfl)
      have A_00:A 9 #[true,true,false,false,false,true,false,false,false,false,false,false] ⟨46,AM [(3,(.own 0 0 (List.length q9))),(4,(i64 t)),(6,(i64 i)),(7,(.ptr 3 0 0 0)),(10,(.own 0 0 (List.length q9))),(11,(i64 (Sh.len q9))),(12,(i64 t)),(25,(ls At d.cons)),(26,(i64 (Sh.len d.cons))),(27,(i64 i)),(32,(.own 0 0 (List.length q9))),(33,(i64 t)),(37,(i64 i))],[⟨0,81,3,(mix (Ae 111 3) Ad (Int.toNat t) l).set (Int.toNat t) [(i64 d.from_),(i64 d.to),(.own 2 0 (List.length q21))]⟩,⟨0,81,3,[[(i64 d.from_),(i64 d.to),(ls At d.cons)]]⟩,⟨0,111,1,mix (BR 3) At (Int.toNat i) q⟩,⟨0,111,1,[[(ls eI c.fields)]]⟩]⟩:=(hA _ _ _).2 (by
        refine Af [2,6] U (by kernel_rfl) (by decide) ⟨?_,?_,trivial⟩
        · refine A3.of (i:=2) rfl U (by rfl) ?_
          refine BU (v:=(.ptr 0 0 (Int.toNat t) 0)) Aj U (La DA U U U ht0 htl (by first | rfl | (rw[E5];omega) | (simp[E5];omega))) (AA ⟨U,?_⟩)
          exact AI (Ab (L:=[(3,(.own 0 0 (List.length q9))),(4,(i64 t)),(6,(i64 i)),(7,(.ptr 3 0 0 0)),(10,(.own 0 0 (List.length q9))),(11,(i64 (Sh.len q9))),(12,(i64 t)),(25,(ls At d.cons)),(26,(i64 (Sh.len d.cons))),(27,(i64 i)),(32,(.own 0 0 (List.length q9))),(33,(i64 t)),(37,(i64 i)),(34,(.ptr 0 0 (Int.toNat t) 0))]) ⟨.rfl,.rfl,.rfl,.rfl,.rfl,.rfl,.rfl,.rfl,.rfl,.rfl,.rfl,.rfl,.rfl,.rfl,trivial⟩) (AL (by kernel_rfl) ((hA _ _ _).1 A_10)) rfl
        · refine A3.of (i:=6) rfl U (by rfl) ?_
          refine BU (v:=(.ptr 3 0 0 0)) Aj U (HB Ms U U (show 0+0≤1 by decide) rfl) (AA ⟨U,?_⟩)
          exact AI (Ab (L:=[(3,(.own 0 0 (List.length q9))),(4,(i64 t)),(6,(i64 i)),(7,(.ptr 3 0 0 0)),(10,(.own 0 0 (List.length q9))),(11,(i64 (Sh.len q9))),(12,(i64 t)),(25,(ls At d.cons)),(26,(i64 (Sh.len d.cons))),(27,(i64 i)),(32,(.own 0 0 (List.length q9))),(33,(i64 t)),(37,(i64 i)),(38,(.ptr 3 0 0 0))]) ⟨.rfl,.rfl,.rfl,.rfl,.rfl,.rfl,.rfl,.rfl,.rfl,.rfl,.rfl,.rfl,.rfl,.rfl,trivial⟩) (AL (by kernel_rfl) ((hA _ _ _).1 A_01)) rfl)
      have B_2:A 10 #[true,true,false,false,false,false,false,false,false,false,false,false] ⟨46,AM [(3,(.own 0 0 (List.length q9))),(4,(i64 t)),(6,(i64 i)),(7,(.ptr 3 0 0 0)),(10,(.own 0 0 (List.length q9))),(11,(i64 (Sh.len q9))),(12,(i64 t)),(25,(ls At d.cons)),(26,(i64 (Sh.len d.cons))),(27,(i64 i)),(32,(.own 0 0 (List.length q9))),(33,(i64 t))],[⟨0,81,3,(mix (Ae 111 3) Ad (Int.toNat t) l).set (Int.toNat t) [(i64 d.from_),(i64 d.to),(.own 2 0 (List.length q21))]⟩,⟨0,81,3,[[(i64 d.from_),(i64 d.to),(ls At d.cons)]]⟩,⟨0,111,1,mix (BR 3) At (Int.toNat i) q⟩,⟨0,111,1,[[(ls eI c.fields)]]⟩]⟩:=(hA _ _ _).2 (by
        refine Bn 5 (v:=(i64 i)) rfl U (by kernel_rfl) (by kernel_rfl) (by kernel_rfl) rfl (CO U) ?_
        exact AI (Ab (L:=[(3,(.own 0 0 (List.length q9))),(4,(i64 t)),(6,(i64 i)),(7,(.ptr 3 0 0 0)),(10,(.own 0 0 (List.length q9))),(11,(i64 (Sh.len q9))),(12,(i64 t)),(25,(ls At d.cons)),(26,(i64 (Sh.len d.cons))),(27,(i64 i)),(32,(.own 0 0 (List.length q9))),(33,(i64 t)),(37,(i64 i))]) ⟨.rfl,.rfl,.rfl,.rfl,.rfl,.rfl,.rfl,.rfl,.rfl,.rfl,.rfl,.rfl,.rfl,trivial⟩) (AL (by kernel_rfl) ((hA _ _ _).1 A_00)) rfl)
      have B_1:A 11 #[true,false,false,false,false,false,false,false,false,false,false,false] ⟨46,AM [(3,(.own 0 0 (List.length q9))),(4,(i64 t)),(6,(i64 i)),(7,(.ptr 3 0 0 0)),(10,(.own 0 0 (List.length q9))),(11,(i64 (Sh.len q9))),(12,(i64 t)),(25,(ls At d.cons)),(26,(i64 (Sh.len d.cons))),(27,(i64 i)),(32,(.own 0 0 (List.length q9)))],[⟨0,81,3,(mix (Ae 111 3) Ad (Int.toNat t) l).set (Int.toNat t) [(i64 d.from_),(i64 d.to),(.own 2 0 (List.length q21))]⟩,⟨0,81,3,[[(i64 d.from_),(i64 d.to),(ls At d.cons)]]⟩,⟨0,111,1,mix (BR 3) At (Int.toNat i) q⟩,⟨0,111,1,[[(ls eI c.fields)]]⟩]⟩:=(hA _ _ _).2 (by
        refine Bn 1 (v:=(i64 t)) rfl U (by kernel_rfl) (by kernel_rfl) (by kernel_rfl) rfl (CO U) ?_
        exact AI (Ab (L:=[(3,(.own 0 0 (List.length q9))),(4,(i64 t)),(6,(i64 i)),(7,(.ptr 3 0 0 0)),(10,(.own 0 0 (List.length q9))),(11,(i64 (Sh.len q9))),(12,(i64 t)),(25,(ls At d.cons)),(26,(i64 (Sh.len d.cons))),(27,(i64 i)),(32,(.own 0 0 (List.length q9))),(33,(i64 t))]) ⟨.rfl,.rfl,.rfl,.rfl,.rfl,.rfl,.rfl,.rfl,.rfl,.rfl,.rfl,.rfl,trivial⟩) (AL (by kernel_rfl) ((hA _ _ _).1 B_2)) rfl)
      have B_0:A 12 #[false,false,false,false,false,false,false,false,false,false,false,false] ⟨46,AM [(3,(.own 0 0 (List.length q9))),(4,(i64 t)),(6,(i64 i)),(7,(.ptr 3 0 0 0)),(10,(.own 0 0 (List.length q9))),(11,(i64 (Sh.len q9))),(12,(i64 t)),(25,(ls At d.cons)),(26,(i64 (Sh.len d.cons))),(27,(i64 i))],[⟨0,81,3,(mix (Ae 111 3) Ad (Int.toNat t) l).set (Int.toNat t) [(i64 d.from_),(i64 d.to),(.own 2 0 (List.length q21))]⟩,⟨0,81,3,[[(i64 d.from_),(i64 d.to),(ls At d.cons)]]⟩,⟨0,111,1,mix (BR 3) At (Int.toNat i) q⟩,⟨0,111,1,[[(ls eI c.fields)]]⟩]⟩:=(hA _ _ _).2 (by
        refine Bn 0 (v:=(.own 0 0 (List.length q9))) rfl U (by kernel_rfl) (by kernel_rfl) (by kernel_rfl) rfl (CO U) ?_
        exact AI (Ab (L:=[(3,(.own 0 0 (List.length q9))),(4,(i64 t)),(6,(i64 i)),(7,(.ptr 3 0 0 0)),(10,(.own 0 0 (List.length q9))),(11,(i64 (Sh.len q9))),(12,(i64 t)),(25,(ls At d.cons)),(26,(i64 (Sh.len d.cons))),(27,(i64 i)),(32,(.own 0 0 (List.length q9)))]) ⟨.rfl,.rfl,.rfl,.rfl,.rfl,.rfl,.rfl,.rfl,.rfl,.rfl,.rfl,trivial⟩) (AL (by kernel_rfl) ((hA _ _ _).1 B_1)) rfl)
      exact (hA _ _ _).2 (AL (by kernel_rfl) ((hA _ _ _).1 B_0))
    · replace h2:=Sh.XR b33 h2
      have hfull:mix (BR 3) At (Int.toNat i) q=List.map (BR 3) q:=Sk (by have h:=of_decide_eq_false b33;simp only[Sh.len] at h;omega)
      exact A0 (M22 q (Sh.AE h2).symm hlq _ ((Ab (L:=[(3,(.own 0 0 (List.length q9))),(10,(.own 0 0 (List.length q9))),(11,(i64 (Sh.len q9))),(12,(i64 t))]) ⟨.rfl,.rfl,.rfl,.rfl,trivial⟩).trans (DF (by rw[hfull]))))
  · replace h1:=Sh.XR b13 h1
    have hfull:mix (Ae 111 3) Ad (Int.toNat t) l=List.map (Ae 111 3) l:=Sk (by have h:=of_decide_eq_false b13;simp only[Sh.len] at h;omega)
    exact A0 (M9 l (Sh.AE h1).symm hll _ ((Ab (L:=[(3,(.own 0 0 (List.length q9)))]) ⟨.rfl,trivial⟩).trans (DF (by rw[hfull]))))
end Go.Proofs.YtpahalfiiahddaaGreat.Cl

