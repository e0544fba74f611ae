/- The copy of declarations: a row that owns all that lies under it. -/
import Derived.Test.YtpahalfiiahddaaGreatGAbsXToSSDefs
import Derived.Test.YtpahalfiiahddaaGreatCEWalk
import Derived.Test.YtpahalfiiahddaaGreatGCloneDToCloneE

namespace Go.Proofs.YtpahalfiiahddaaGreat.Cl
open Go Go.Abs RC
set_option maxRecDepth 100000
noncomputable abbrev N0 (z0:_) (z1:_) (z2:Ab) {α3:Type} (z3:List α3) (z4:_) (z5:_) (z6:BU):=([⟨0,81,3,(mix (Aj 111 3) Ai (Int.toNat z0) z1).set (Int.toNat z0) [(i64 z2.from_),(i64 z2.to),(.own 2 0 (List.length z3))]⟩,⟨0,81,3,[[(i64 z2.from_),(i64 z2.to),(ls BZ z2.cons)]]⟩,⟨0,111,1,mix (CX 3) BZ (Int.toNat z4) z5⟩,⟨0,111,1,[[(ls eI z6.fields)]]⟩]:List Row)
noncomputable abbrev BW {α0:Type} (z0:List α0):=((.own 0 0 (List.length z0)):AV)
noncomputable abbrev Pp (z0:_) (z1:_) (z2:Ab) {α3:Type} (z3:List α3):=(⟨0,81,3,(mix (Aj 111 3) Ai (Int.toNat z0) z1).set (Int.toNat z0) [(i64 z2.from_),(i64 z2.to),(.own 2 0 (List.length z3))]⟩:Row)
noncomputable abbrev Cf:=((.ptr 3 0 0 0):AV)
noncomputable abbrev N8 (z0:Ab):=(⟨0,81,3,[[(i64 z0.from_),(i64 z0.to),(ls BZ z0.cons)]]⟩:Row)
noncomputable abbrev FH (z0:Ab):=((i64 (Sh.len z0.cons)):AV)
noncomputable abbrev He (z0:_):=((.ptr 0 0 (Int.toNat z0) 0):AV)
noncomputable abbrev FA (z0:Ab):=((ls BZ z0.cons):AV)
noncomputable abbrev JE (z0:_):=((.ptr 0 0 (Int.toNat z0) 2):AV)
noncomputable abbrev FF {α0:Type} (z0:List α0):=((i64 (Sh.len z0)):AV)
noncomputable abbrev Ui (z0:_) (z1:_):=(⟨0,111,1,mix (CX 3) BZ (Int.toNat z0) z1⟩:Row)
noncomputable abbrev I2 (z0:BU):=((ls eI z0.fields):AV)
noncomputable abbrev N5 {α0:Type} (z0:List α0):=((.own 2 0 (List.length z0)):AV)
noncomputable abbrev N2 {α0:Type} (z0:List α0):=((.own 4 0 (List.length z0)):AV)
noncomputable abbrev Ue (z0:_):=(⟨0,111,1,[[(I2 z0)]]⟩:Row)
noncomputable abbrev VL (z0:_):=(⟨0,3,1,List.map eI z0⟩:Row)
set_option maxHeartbeats 4000000
theorem I4:Cr Tryz.prog 81=some (true,3):=by kernel_rfl
theorem JI:Cr Tryz.prog 111=some (true,1):=by kernel_rfl
theorem OL:Cr Tryz.prog 79=some (false,1):=by kernel_rfl
theorem HZ:Cr Tryz.prog 46=some (false,1):=by kernel_rfl
theorem MD:Gy Tryz.prog 81 2=some 2:=by kernel_rfl
theorem Nd:Gy Tryz.prog 111 0=some 0:=by kernel_rfl
theorem GR:G9 Tryz.prog 81=some [.int .i64 0,.int .i64 0,.zc]:=by kernel_rfl
theorem LK:G9 Tryz.prog 111=some [.zc]:=by kernel_rfl
theorem dO:Ao Tryz.prog 129=true:=by kernel_rfl
theorem da:Ao Tryz.prog 130=true:=by kernel_rfl
theorem MB:Ao Tryz.prog 102=true:=by kernel_rfl

theorem R6:True:=trivial
theorem Mb {N:Nat} {p0 r:List Ab} (h0:GN N p0=some r):Ag Tryz.prog 103 [(ls Ai p0)] [] (fun v st=>v=(.own 0 0 (List.length r))∧st=[⟨0,81,3,List.map (Aj 111 3) r⟩]):=by
  unfold GN at h0
  refine Ag.intro Tryz.func103 U (by show 1≤46;decide) ?_
  show AW _ 0 _ (X9 _ 0 Tryz.f103 _) ⟨46,_,_⟩
  refine AR (AT (L:=[(0,(ls Ai p0))]) ⟨.rfl,trivial⟩) ?_
  refine AF fun K1 hK1=>?_
  refine AK (by rfl) ?_
  refine BP (v:=.zc) Ah U (QM U) ?_
  refine AA (hK1 _ ?_)
  refine AF fun K2 hK2=>?_
  refine AK (by rfl) ?_
  refine BP (v:=(ls Ai p0)) Ah U (Js U) ?_
  obtain⟨q9,gq9,h0⟩:=Sh.bind_some h0
  refine BY (v':=(BW q9)) (st':=[⟨0,81,3,List.map Ai q9⟩]) Ah dO (Hc gq9) rfl U ⟨(B2 fun _=>U),trivial⟩ U U ?_
  refine BP (v:=(BW q9)) Ah U (QM U) ?_
  refine AA (hK2 _ ?_)
  have hmax:q9.length≤9223372036854775807:=by
    unfold CN at gq9
    obtain⟨x,hx,hs⟩:=Sh.bind_some gq9
    unfold Sh.app at hx
    split at hx
    · rename_i hb
      simp only[Option.some.injEq] at hx hs
      rw[← hs,← hx];simpa using hb.2
    · cases hx
  refine AF fun K4 hK4=>?_
  refine AF fun K5 hK5=>?_
  refine AK (by rfl) ?_
  refine BP (v:=(BW q9)) Ah U (Js U) ?_
  refine BP (v:=(FF q9)) Ah U (Cs PV U U U) ?_
  refine BP (v:=(i64 0)) Ah U (Js U) ?_
  refine AA (hK5 _ ?_)
  obtain⟨o9,h1,h0⟩:=Sh.bind_some h0
  have M9 :∀(l:List Ab),o9=l→l.length=q9.length→∀s,Wk 0 s ⟨46,AP [(3,(BW q9))],[⟨0,81,3,List.map (Aj 111 3) l⟩]⟩→K4 s:=by
    intro l hq hlen s hw
    subst o9
    refine hK4 _ (AR hw ?_)
    refine AF fun K10 hK10=>?_
    refine AK (by rfl) ?_
    refine BP (v:=(BW q9)) Ah U (Js U) ?_
    refine BP (v:=(BW q9)) Ah U (QM U) ?_
    refine AA (hK10 _ ?_)
    replace h0:=Sh.AB h0
    subst r
    exact AJ (Exists.intro _ (And.intro (AT (L:=[(2,(.own 0 0 (List.length q9)))]) ⟨.rfl,trivial⟩) (And.intro (by rw[hlen];rfl) rfl)))
  refine AU (As (σ:=Int×(List Ab)) (fun n v=>DB N (Sh.len q9) n v.1 v.2=some o9∧v.2.length=q9.length∧0≤v.1∧v.1≤q9.length) (fun (t,l)=>⟨46,AP [(3,(.own 0 0 (List.length q9))),(10,(.own 0 0 (List.length q9))),(11,(i64 (Sh.len q9))),(12,(i64 t))],[⟨0,81,3,mix (Aj 111 3) Ai (Int.toNat t) l⟩]⟩) N (0,q9) ⟨h1,U,Int.le_refl _,Int.natCast_nonneg _⟩ ((AT (L:=[(3,(.own 0 0 (List.length q9))),(10,(.own 0 0 (List.length q9))),(11,(i64 (Sh.len q9))),(12,(i64 0))]) ⟨.rfl,.rfl,.rfl,.rfl,trivial⟩).trans (DG (by rw[show Int.toNat 0=0 from U,UI]))) (fun _ hv=>by have hv:=hv.1;rw[DB] at hv;cases hv) ?_)
  rintro n ⟨t,l⟩ ⟨h1,hll,ht0,ht1⟩
  try dsimp only at h1 hll ht0 ht1 ⊢
  rw[DB] at h1
  refine AF fun K11 hK11=>?_
  refine AK (by rfl) ?_
  refine BP (v:=(.bool (decide (t < (Sh.len q9))))) Ah U (XR U U) ?_
  refine AA (hK11 _ ?_)
  refine AF fun K12 hK12=>?_
  refine E6 (b:=decide (t < (Sh.len q9))) rfl (fun b13=>?_) (fun b13=>?_)
  · replace h1:=Sh.aF b13 h1
    refine AI (hK12 _ ?_)
    have htl:t < (q9.length:Int):=of_decide_eq_true b13
    obtain⟨d,gd,h1⟩:=Sh.bind_some h1
    obtain⟨q21,gq21,h1⟩:=Sh.bind_some h1
    obtain⟨o22,h2,h1⟩:=Sh.bind_some h1
    have hget:l[Int.toNat t]?=some d:=by have h:=gd;unfold Sh.get at h;rw[if_pos ht0] at h;exact h
    have hkl:Int.toNat t < (mix (Aj 111 3) Ai (Int.toNat t) l).length:=by rw[FE];exact (List.getElem?_eq_some_iff.1 hget).1
    have hpd:CT (mix (Aj 111 3) Ai (Int.toNat t) l):=Qh (fun _=>rfl) (fun _=>rfl)
    refine AF fun K14 hK14=>?_
    refine AU ?_
    refine AF fun K15 hK15=>?_
    refine AK (by rfl) ?_
    refine BP (v:=(i64 t)) Ah U (Js U) ?_
    refine BP (v:=(.ptr 0 0 (Int.toNat t) 0)) Ah U (L4 DC U U U ht0 htl (by first | rfl | (rw[FE];omega) | (simp[FE];omega))) ?_
    refine BP (v:=(.agg [(i64 d.from_),(i64 d.to),(FA d)])) Ah U (BE I4 U U (TU hget) (show 0+3≤3 by decide) rfl) ?_
    refine A0 (m:=1) (st':=[⟨0,81,3,mix (Aj 111 3) Ai (Int.toNat t) l⟩,⟨0,81,3,[[(i64 0),(i64 0),.zc]]⟩]) Ah GR U U ?_
    refine BP (v:=(i64 t)) Ah U (QM U) ?_
    refine A1 (st':=[⟨0,81,3,mix (Aj 111 3) Ai (Int.toNat t) l⟩,(N8 d)]) Ah I4 U U U U U U (show 0+3≤3 by decide) rfl ?_
    refine AA (hK15 _ ?_)
    refine AF fun K16 hK16=>?_
    refine AK (by rfl) ?_
    refine BP (v:=(BW q9)) Ah U (Js U) ?_
    refine BP (v:=(i64 t)) Ah U (Js U) ?_
    refine BP (v:=(.ptr 1 0 0 2)) Ah U (HS MD U U (show 0+2≤3 by decide) rfl) ?_
    refine BP (v:=(FA d)) Ah U (CP OL U U U U) ?_
    refine BY (v':=(N5 q21)) (st':=[⟨0,81,3,mix (Aj 111 3) Ai (Int.toNat t) l⟩,(N8 d),⟨0,111,1,List.map BZ q21⟩]) Ah da (IC gq21) rfl U ⟨(B2 fun _=>U),trivial⟩ U U ?_
    refine BP (v:=(.ptr 0 0 (Int.toNat t) 0)) Ah U (L4 DC U U U ht0 htl (by first | rfl | (rw[FE];omega) | (simp[FE];omega))) ?_
    refine BP (v:=(JE t)) Ah U (HS MD U U (show 0+2≤3 by decide) rfl) ?_
    refine A1 (st':=[(Pp t l d q21),(N8 d),⟨0,111,1,List.map BZ q21⟩]) Ah OL U U (TU hget) rfl U U (show 2+1≤3 by decide) rfl ?_
    refine AA (hK16 _ ?_)
    refine AF fun K17 hK17=>?_
    refine AK (by rfl) ?_
    refine BP (v:=(.ptr 1 0 0 2)) Ah U (HS MD U U (show 0+2≤3 by decide) rfl) ?_
    refine BP (v:=(FA d)) Ah U (CP OL U U U U) ?_
    refine BP (v:=(FH d)) Ah U (Cq OD U) ?_
    refine BP (v:=(i64 0)) Ah U (Js U) ?_
    refine AA (hK17 _ ?_)
    have M22 :∀(q:List BU),o22=q→q.length=q21.length→∀s,Wk 0 s ⟨46,AP [(3,(BW q9)),(10,(BW q9)),(11,(FF q9)),(12,(i64 t))],[(Pp t l d q21),(N8 d),⟨0,111,1,List.map (CX 3) q⟩]⟩→K14 s:=by
      intro q hq hlq s hw
      subst o22
      refine hK14 _ (AR hw ?_)
      have hmix:((mix (Aj 111 3) Ai (Int.toNat t) l).set (Int.toNat t) [(i64 d.from_),(i64 d.to),(.own 2 0 (List.length q21))]).set (Int.toNat t) (Aj 111 3 (Ab.mk d.from_ d.to q))=mix (Aj 111 3) Ai (Int.toNat t+1) (Sh.put l t (Ab.mk d.from_ d.to q)):=by rw[List.set_set];exact Wc hget
      refine AR (IP (id:=0) (m:=2) (i:=Int.toNat t) (j:=2) (st':=[⟨0,81,3,mix (Aj 111 3) Ai (Int.toNat t+1) (Sh.put l t (Ab.mk d.from_ d.to q))⟩,⟨0,81,3,[[(i64 d.from_),(i64 d.to),(ls BZ d.cons)]]⟩,⟨1,111,1,[]⟩]) rfl (List.getElem?_set_self hkl) rfl U (by simp[hlq]) (by decide) (Nat.zero_le _) (RC.EY fun _=>U) (by rw[← hmix];rfl)) ?_
      refine AR (TS (L:=[(3,(.own 0 0 (List.length q9))),(10,(.own 0 0 (List.length q9))),(11,(i64 (Sh.len q9))),(12,(i64 t))]) (st':=[⟨0,81,3,mix (Aj 111 3) Ai (Int.toNat t+1) (Sh.put l t (Ab.mk d.from_ d.to q))⟩]) [0] (by decide) rfl U (fun row h=>by rw[List.mem_singleton.1 h];exact MA (Qh (fun _=>U) (fun _=>U))) ⟨.rfl,.rfl,.rfl,.rfl,trivial⟩) ?_
      refine AK (by rfl) ?_
      refine BP (v:=(i64 (Sh.w (t+1)))) Ah U (Uh U U) ?_
      refine BP (v:=(i64 (Sh.w (t+1)))) Ah U (Js U) ?_
      have hw1:Sh.w (t+1)=t+1:=Go.Abs.wrap_i64 (by omega) (by omega)
      have ht2:Int.toNat (Sh.w (t+1))=Int.toNat t+1:=by rw[hw1];omega
      exact AA (Exists.intro (Sh.w (t+1),Sh.put l t (Ab.mk d.from_ d.to q)) (And.intro ⟨h1,by rw[Sh.A7];exact hll,by rw[hw1];omega,by rw[hw1];omega⟩ ((AT (L:=[(3,(.own 0 0 (List.length q9))),(10,(.own 0 0 (List.length q9))),(11,(i64 (Sh.len q9))),(12,(i64 (Sh.w (t+1))))]) ⟨.rfl,.rfl,.rfl,.rfl,trivial⟩).trans (DG (by rw[ht2])))))
    have hq0:q21.length=d.cons.length:=by
      unfold B6 at gq21
      obtain⟨x,hx,hs⟩:=Sh.bind_some gq21
      unfold Sh.app at hx
      split at hx
      · simp only[Option.some.injEq,List.nil_append] at hx hs
        rw[← hs,← hx]
      · cases hx
    have hmaxc:d.cons.length≤9223372036854775807:=by
      unfold B6 at gq21
      obtain⟨x,hx,hs⟩:=Sh.bind_some gq21
      unfold Sh.app at hx
      split at hx
      · rename_i hb
        simpa using hb.2
      · cases hx
    refine AU (As (σ:=Int×(List BU)) (fun n v=>DA d.cons n v.1 v.2=some o22∧v.2.length=q21.length∧0≤v.1∧v.1≤d.cons.length) (fun (i,q)=>⟨46,AP [(3,(.own 0 0 (List.length q9))),(4,(i64 t)),(10,(.own 0 0 (List.length q9))),(11,(i64 (Sh.len q9))),(12,(i64 t)),(25,(ls BZ d.cons)),(26,(i64 (Sh.len d.cons))),(27,(i64 i))],[⟨0,81,3,(mix (Aj 111 3) Ai (Int.toNat t) l).set (Int.toNat t) [(i64 d.from_),(i64 d.to),(.own 2 0 (List.length q21))]⟩,⟨0,81,3,[[(i64 d.from_),(i64 d.to),(ls BZ d.cons)]]⟩,⟨0,111,1,mix (CX 3) BZ (Int.toNat i) q⟩]⟩) N (0,q21) ⟨h2,U,Int.le_refl _,Int.natCast_nonneg _⟩ ((AT (L:=[(3,(.own 0 0 (List.length q9))),(4,(i64 t)),(10,(.own 0 0 (List.length q9))),(11,(i64 (Sh.len q9))),(12,(i64 t)),(25,(ls BZ d.cons)),(26,(i64 (Sh.len d.cons))),(27,(i64 0))]) ⟨.rfl,.rfl,.rfl,.rfl,.rfl,.rfl,.rfl,.rfl,trivial⟩).trans (DG (by rw[show Int.toNat 0=0 from U,UI]))) (fun _ hv=>by have hv:=hv.1;rw[DA] at hv;cases hv) ?_)
    rintro n2 ⟨i,q⟩ ⟨h2,hlq,hi0,hi1⟩
    try dsimp only at h2 hlq hi0 hi1 ⊢
    rw[DA] at h2
    refine AF fun K31 hK31=>?_
    refine AK (by rfl) ?_
    refine BP (v:=(.bool (decide (i < (Sh.len d.cons))))) Ah U (XR U U) ?_
    refine AA (hK31 _ ?_)
    refine AF fun K32 hK32=>?_
    refine E6 (b:=decide (i < (Sh.len d.cons))) rfl (fun b33=>?_) (fun b33=>?_)
    · replace h2:=Sh.aF b33 h2
      refine AI (hK32 _ ?_)
      have hil:i < (q21.length:Int):=by rw[hq0];exact of_decide_eq_true b33
      obtain⟨c,gc,h2⟩:=Sh.bind_some h2
      obtain⟨f,gf,h2⟩:=Sh.bind_some h2
      obtain⟨c2,gc2,h2⟩:=Sh.bind_some h2
      have hgc:q[Int.toNat i]?=some c2:=by have h:=gc2;unfold Sh.get at h;rw[if_pos hi0] at h;exact h
      have hkc:Int.toNat i < (mix (CX 3) BZ (Int.toNat i) q).length:=by rw[FE];exact (List.getElem?_eq_some_iff.1 hgc).1
      refine AF fun K34 hK34=>?_
      refine AU ?_
      refine AF fun K35 hK35=>?_
      refine AK (by rfl) ?_
      refine BP (v:=(i64 i)) Ah U (Js U) ?_
      refine BP (v:=(.Bu (BZ c) 0)) Ah U (Ex ID U U gc U) ?_
      refine BP (v:=(.agg [(I2 c)])) Ah U (Wj JI U (show 0+1≤1 by decide) rfl) ?_
      refine A0 (m:=3) (st':=[(Pp t l d q21),(N8 d),(Ui i q),⟨0,111,1,[[.zc]]⟩]) Ah LK U U ?_
      refine BP (v:=(i64 i)) Ah U (QM U) ?_
      refine A1 (st':=(N0 t l d q21 i q c)) Ah JI U U U U U U (show 0+1≤1 by decide) rfl ?_
      refine AA (hK35 _ ?_)
      refine AR (AT (L:=[(3,(BW q9)),(4,(i64 t)),(6,(i64 i)),(7,Cf),(10,(BW q9)),(11,(FF q9)),(12,(i64 t)),(25,(FA d)),(26,(FH d)),(27,(i64 i))]) ⟨.rfl,.rfl,.rfl,.rfl,.rfl,.rfl,.rfl,.rfl,.rfl,.rfl,trivial⟩) ?_
      refine HK (by kernel_rfl) ?_
      refine JP fun A hA=>?_
      have hmixc:((mix (CX 3) BZ (Int.toNat i) q).set (Int.toNat i) [(.own 4 0 (List.length f))]).set (Int.toNat i) (CX 3 (BU.mk f))=mix (CX 3) BZ (Int.toNat i+1) (Sh.put q i (BU.mk f)):=by rw[List.set_set];exact Wc hgc
      have hselr :∀row∈[(Pp t l d q21),(N8 d),⟨0,111,1,mix (CX 3) BZ (Int.toNat i+1) (Sh.put q i (BU.mk f))⟩],Bv [0,1,2] row=row:=by
        intro row h
        rcases List.mem_cons.1 h with rfl | h
        · exact Vp hpd U
        rcases List.mem_cons.1 h with rfl | h
        · rfl
        rw[List.mem_singleton.1 h]
        exact MA (Qh (fun _=>U) (fun _=>U))
      have A_33:A 3 (bm 12 511) ⟨46,AP [(3,(BW q9)),(4,(i64 t)),(6,(i64 i)),(7,Cf),(10,(BW q9)),(11,(FF q9)),(12,(i64 t)),(25,(FA d)),(26,(FH d)),(27,(i64 i)),(32,(BW q9)),(33,(i64 t)),(37,(i64 i)),(34,(He t)),(35,(JE t)),(36,(N5 q21)),(38,Cf),(39,(I2 c)),(40,(N2 f))],[(Pp t l d q21),(N8 d),(Ui i q),(Ue c),(VL f)]⟩:=(hA _ _ _).2 (by
        refine Ae [9] U (by kernel_rfl) (by decide) ⟨?_,trivial⟩
        refine Az.of (i:=9) rfl U (by rfl) ?_
        refine BP (v:=(.ptr 2 0 (Int.toNat i) 0)) Ah U (L4 ID U U U hi0 hil (by first | rfl | (rw[FE];omega) | (simp[FE];omega))) (AA ⟨U,?_⟩)
        refine Ae [10] U (by kernel_rfl) (by decide) ⟨?_,trivial⟩
        refine Az.of (i:=10) rfl U (by rfl) ?_
        refine BP (v:=(.ptr 2 0 (Int.toNat i) 0)) Ah U (HS Nd U U (show 0+0≤1 by decide) rfl) (AA ⟨U,?_⟩)
        refine Ae [11] U (by kernel_rfl) (by decide) ⟨?_,trivial⟩
        refine Az.of (i:=11) rfl U (by rfl) ?_
        refine A1 (st':=[(Pp t l d q21),(N8 d),⟨0,111,1,(mix (CX 3) BZ (Int.toNat i) q).set (Int.toNat i) [(N2 f)]⟩,(Ue c),(VL f)]) Ah HZ U U (TU hgc) rfl U U (show 0+1≤1 by decide) rfl (AA ⟨U,?_⟩)
        refine GZ U (by kernel_rfl) ?_
        refine hK34 _ ?_
        refine AR (IP (id:=2) (m:=4) (i:=Int.toNat i) (j:=0) (st':=[⟨0,81,3,(mix (Aj 111 3) Ai (Int.toNat t) l).set (Int.toNat t) [(i64 d.from_),(i64 d.to),(.own 2 0 (List.length q21))]⟩,⟨0,81,3,[[(i64 d.from_),(i64 d.to),(ls BZ d.cons)]]⟩,⟨0,111,1,mix (CX 3) BZ (Int.toNat i+1) (Sh.put q i (BU.mk f))⟩,⟨0,111,1,[[(ls eI c.fields)]]⟩,⟨1,3,1,[]⟩]) rfl (List.getElem?_set_self hkc) rfl U (by simp) (by decide) (Nat.zero_le _) (RC.EY fun _=>U) (by rw[← hmixc];rfl)) ?_
        refine AR (TS (L:=[(3,(BW q9)),(4,(i64 t)),(10,(BW q9)),(11,(FF q9)),(12,(i64 t)),(25,(FA d)),(26,(FH d)),(27,(i64 i))]) (st':=[(Pp t l d q21),(N8 d),⟨0,111,1,mix (CX 3) BZ (Int.toNat i+1) (Sh.put q i (BU.mk f))⟩]) [0,1,2] (by decide) rfl U hselr ⟨.rfl,.rfl,.rfl,.rfl,.rfl,.rfl,.rfl,.rfl,trivial⟩) ?_
        refine AK (by rfl) ?_
        refine BP (v:=(i64 (Sh.w (i+1)))) Ah U (Uh U U) ?_
        refine BP (v:=(i64 (Sh.w (i+1)))) Ah U (Js U) ?_
        have htc:i < (d.cons.length:Int):=of_decide_eq_true b33
        have hw1:Sh.w (i+1)=i+1:=Go.Abs.wrap_i64 (by omega) (by omega)
        have ht2:Int.toNat (Sh.w (i+1))=Int.toNat i+1:=by rw[hw1];omega
        exact AA (Exists.intro (Sh.w (i+1),Sh.put q i (BU.mk f)) (And.intro ⟨h2,by rw[Sh.A7];exact hlq,by rw[hw1];omega,by rw[hw1];omega⟩ ((AT (L:=[(3,(.own 0 0 (List.length q9))),(4,(i64 t)),(10,(.own 0 0 (List.length q9))),(11,(i64 (Sh.len q9))),(12,(i64 t)),(25,(ls BZ d.cons)),(26,(i64 (Sh.len d.cons))),(27,(i64 (Sh.w (i+1))))]) ⟨.rfl,.rfl,.rfl,.rfl,.rfl,.rfl,.rfl,.rfl,trivial⟩).trans (DG (by rw[ht2]))))))
      have A_32:A 4 (bm 12 255) ⟨46,AP [(3,(BW q9)),(4,(i64 t)),(6,(i64 i)),(7,Cf),(10,(BW q9)),(11,(FF q9)),(12,(i64 t)),(25,(FA d)),(26,(FH d)),(27,(i64 i)),(32,(BW q9)),(33,(i64 t)),(37,(i64 i)),(34,(He t)),(35,(JE t)),(36,(N5 q21)),(38,Cf),(39,(I2 c))],(N0 t l d q21 i q c)⟩:=(hA _ _ _).2 (by
        refine Ae [8] U (by kernel_rfl) (by decide) ⟨?_,trivial⟩
        · refine Az.of (i:=8) rfl U (by rfl) ?_
          refine BY (v':=(N2 f)) (st':=[(Pp t l d q21),(N8 d),(Ui i q),(Ue c),(VL f)]) Ah MB (B0 gf) rfl U ⟨(B2 fun _=>U),trivial⟩ U U (AA ⟨U,?_⟩)
          exact AE (AT (L:=[(3,(BW q9)),(4,(i64 t)),(6,(i64 i)),(7,Cf),(10,(BW q9)),(11,(FF q9)),(12,(i64 t)),(25,(FA d)),(26,(FH d)),(27,(i64 i)),(32,(BW q9)),(33,(i64 t)),(37,(i64 i)),(34,(He t)),(35,(JE t)),(36,(N5 q21)),(38,Cf),(39,(I2 c)),(40,(N2 f))]) ⟨.rfl,.rfl,.rfl,.rfl,.rfl,.rfl,.rfl,.rfl,.rfl,.rfl,.rfl,.rfl,.rfl,.rfl,.rfl,.rfl,.rfl,.rfl,.rfl,trivial⟩) (AH (by kernel_rfl) ((hA _ _ _).1 A_33)) rfl)
      have A_23:A 4 (bm 12 495) ⟨46,AP [(3,(BW q9)),(4,(i64 t)),(6,(i64 i)),(7,Cf),(10,(BW q9)),(11,(FF q9)),(12,(i64 t)),(25,(FA d)),(26,(FH d)),(27,(i64 i)),(32,(BW q9)),(33,(i64 t)),(37,(i64 i)),(34,(He t)),(35,(JE t)),(38,Cf),(39,(I2 c)),(40,(N2 f))],[(Pp t l d q21),(N8 d),(Ui i q),(Ue c),(VL f)]⟩:=(hA _ _ _).2 (by
        refine Ae [4] U (by kernel_rfl) (by decide) ⟨?_,trivial⟩
        · refine Az.of (i:=4) rfl U (by rfl) ?_
          refine BP (v:=(N5 q21)) Ah U (CP OL U U (List.getElem?_set_self hkl) rfl) (AA ⟨U,?_⟩)
          exact AE (AT (L:=[(3,(BW q9)),(4,(i64 t)),(6,(i64 i)),(7,Cf),(10,(BW q9)),(11,(FF q9)),(12,(i64 t)),(25,(FA d)),(26,(FH d)),(27,(i64 i)),(32,(BW q9)),(33,(i64 t)),(37,(i64 i)),(34,(He t)),(35,(JE t)),(36,(N5 q21)),(38,Cf),(39,(I2 c)),(40,(N2 f))]) ⟨.rfl,.rfl,.rfl,.rfl,.rfl,.rfl,.rfl,.rfl,.rfl,.rfl,.rfl,.rfl,.rfl,.rfl,.rfl,.rfl,.rfl,.rfl,.rfl,trivial⟩) (AH (by kernel_rfl) ((hA _ _ _).1 A_33)) rfl)
      have A_31:A 5 (bm 12 127) ⟨46,AP [(3,(BW q9)),(4,(i64 t)),(6,(i64 i)),(7,Cf),(10,(BW q9)),(11,(FF q9)),(12,(i64 t)),(25,(FA d)),(26,(FH d)),(27,(i64 i)),(32,(BW q9)),(33,(i64 t)),(37,(i64 i)),(34,(He t)),(35,(JE t)),(36,(N5 q21)),(38,Cf)],(N0 t l d q21 i q c)⟩:=(hA _ _ _).2 (by
        refine Ae [7] U (by kernel_rfl) (by decide) ⟨?_,trivial⟩
        · refine Az.of (i:=7) rfl U (by rfl) ?_
          refine BP (v:=(I2 c)) Ah U (CP HZ U U U U) (AA ⟨U,?_⟩)
          exact AE (AT (L:=[(3,(BW q9)),(4,(i64 t)),(6,(i64 i)),(7,Cf),(10,(BW q9)),(11,(FF q9)),(12,(i64 t)),(25,(FA d)),(26,(FH d)),(27,(i64 i)),(32,(BW q9)),(33,(i64 t)),(37,(i64 i)),(34,(He t)),(35,(JE t)),(36,(N5 q21)),(38,Cf),(39,(I2 c))]) ⟨.rfl,.rfl,.rfl,.rfl,.rfl,.rfl,.rfl,.rfl,.rfl,.rfl,.rfl,.rfl,.rfl,.rfl,.rfl,.rfl,.rfl,.rfl,trivial⟩) (AH (by kernel_rfl) ((hA _ _ _).1 A_32)) rfl)
      have A_22:A 5 (bm 12 239) ⟨46,AP [(3,(BW q9)),(4,(i64 t)),(6,(i64 i)),(7,Cf),(10,(BW q9)),(11,(FF q9)),(12,(i64 t)),(25,(FA d)),(26,(FH d)),(27,(i64 i)),(32,(BW q9)),(33,(i64 t)),(37,(i64 i)),(34,(He t)),(35,(JE t)),(38,Cf),(39,(I2 c))],(N0 t l d q21 i q c)⟩:=(hA _ _ _).2 (by
        refine Ae [4,8] U (by kernel_rfl) (by decide) ⟨?_,?_,trivial⟩
        · refine Az.of (i:=4) rfl U (by rfl) ?_
          refine BP (v:=(N5 q21)) Ah U (CP OL U U (List.getElem?_set_self hkl) rfl) (AA ⟨U,?_⟩)
          exact AE (AT (L:=[(3,(BW q9)),(4,(i64 t)),(6,(i64 i)),(7,Cf),(10,(BW q9)),(11,(FF q9)),(12,(i64 t)),(25,(FA d)),(26,(FH d)),(27,(i64 i)),(32,(BW q9)),(33,(i64 t)),(37,(i64 i)),(34,(He t)),(35,(JE t)),(36,(N5 q21)),(38,Cf),(39,(I2 c))]) ⟨.rfl,.rfl,.rfl,.rfl,.rfl,.rfl,.rfl,.rfl,.rfl,.rfl,.rfl,.rfl,.rfl,.rfl,.rfl,.rfl,.rfl,.rfl,trivial⟩) (AH (by kernel_rfl) ((hA _ _ _).1 A_32)) rfl
        · refine Az.of (i:=8) rfl U (by rfl) ?_
          refine BY (v':=(N2 f)) (st':=[(Pp t l d q21),(N8 d),(Ui i q),(Ue c),(VL f)]) Ah MB (B0 gf) rfl U ⟨(B2 fun _=>U),trivial⟩ U U (AA ⟨U,?_⟩)
          exact AE (AT (L:=[(3,(BW q9)),(4,(i64 t)),(6,(i64 i)),(7,Cf),(10,(BW q9)),(11,(FF q9)),(12,(i64 t)),(25,(FA d)),(26,(FH d)),(27,(i64 i)),(32,(BW q9)),(33,(i64 t)),(37,(i64 i)),(34,(He t)),(35,(JE t)),(38,Cf),(39,(I2 c)),(40,(N2 f))]) ⟨.rfl,.rfl,.rfl,.rfl,.rfl,.rfl,.rfl,.rfl,.rfl,.rfl,.rfl,.rfl,.rfl,.rfl,.rfl,.rfl,.rfl,.rfl,trivial⟩) (AH (by kernel_rfl) ((hA _ _ _).1 A_23)) rfl)
      have A_13:A 5 (bm 12 487) ⟨46,AP [(3,(BW q9)),(4,(i64 t)),(6,(i64 i)),(7,Cf),(10,(BW q9)),(11,(FF q9)),(12,(i64 t)),(25,(FA d)),(26,(FH d)),(27,(i64 i)),(32,(BW q9)),(33,(i64 t)),(37,(i64 i)),(34,(He t)),(38,Cf),(39,(I2 c)),(40,(N2 f))],[(Pp t l d q21),(N8 d),(Ui i q),(Ue c),(VL f)]⟩:=(hA _ _ _).2 (by
        refine Ae [3] U (by kernel_rfl) (by decide) ⟨?_,trivial⟩
        · refine Az.of (i:=3) rfl U (by rfl) ?_
          refine BP (v:=(JE t)) Ah U (HS MD U U (show 0+2≤3 by decide) rfl) (AA ⟨U,?_⟩)
          exact AE (AT (L:=[(3,(BW q9)),(4,(i64 t)),(6,(i64 i)),(7,Cf),(10,(BW q9)),(11,(FF q9)),(12,(i64 t)),(25,(FA d)),(26,(FH d)),(27,(i64 i)),(32,(BW q9)),(33,(i64 t)),(37,(i64 i)),(34,(He t)),(35,(JE t)),(38,Cf),(39,(I2 c)),(40,(N2 f))]) ⟨.rfl,.rfl,.rfl,.rfl,.rfl,.rfl,.rfl,.rfl,.rfl,.rfl,.rfl,.rfl,.rfl,.rfl,.rfl,.rfl,.rfl,.rfl,trivial⟩) (AH (by kernel_rfl) ((hA _ _ _).1 A_23)) rfl)
      have A_30:A 6 (bm 12 63) ⟨46,AP [(3,(BW q9)),(4,(i64 t)),(6,(i64 i)),(7,Cf),(10,(BW q9)),(11,(FF q9)),(12,(i64 t)),(25,(FA d)),(26,(FH d)),(27,(i64 i)),(32,(BW q9)),(33,(i64 t)),(37,(i64 i)),(34,(He t)),(35,(JE t)),(36,(N5 q21))],(N0 t l d q21 i q c)⟩:=(hA _ _ _).2 (by
        refine Ae [6] U (by kernel_rfl) (by decide) ⟨?_,trivial⟩
        · refine Az.of (i:=6) rfl U (by rfl) ?_
          refine BP (v:=Cf) Ah U (HS Nd U U (show 0+0≤1 by decide) rfl) (AA ⟨U,?_⟩)
          exact AE (AT (L:=[(3,(BW q9)),(4,(i64 t)),(6,(i64 i)),(7,Cf),(10,(BW q9)),(11,(FF q9)),(12,(i64 t)),(25,(FA d)),(26,(FH d)),(27,(i64 i)),(32,(BW q9)),(33,(i64 t)),(37,(i64 i)),(34,(He t)),(35,(JE t)),(36,(N5 q21)),(38,Cf)]) ⟨.rfl,.rfl,.rfl,.rfl,.rfl,.rfl,.rfl,.rfl,.rfl,.rfl,.rfl,.rfl,.rfl,.rfl,.rfl,.rfl,.rfl,trivial⟩) (AH (by kernel_rfl) ((hA _ _ _).1 A_31)) rfl)
      have A_21:A 6 (bm 12 111) ⟨46,AP [(3,(BW q9)),(4,(i64 t)),(6,(i64 i)),(7,Cf),(10,(BW q9)),(11,(FF q9)),(12,(i64 t)),(25,(FA d)),(26,(FH d)),(27,(i64 i)),(32,(BW q9)),(33,(i64 t)),(37,(i64 i)),(34,(He t)),(35,(JE t)),(38,Cf)],(N0 t l d q21 i q c)⟩:=(hA _ _ _).2 (by
        refine Ae [4,7] U (by kernel_rfl) (by decide) ⟨?_,?_,trivial⟩
        · refine Az.of (i:=4) rfl U (by rfl) ?_
          refine BP (v:=(N5 q21)) Ah U (CP OL U U (List.getElem?_set_self hkl) rfl) (AA ⟨U,?_⟩)
          exact AE (AT (L:=[(3,(BW q9)),(4,(i64 t)),(6,(i64 i)),(7,Cf),(10,(BW q9)),(11,(FF q9)),(12,(i64 t)),(25,(FA d)),(26,(FH d)),(27,(i64 i)),(32,(BW q9)),(33,(i64 t)),(37,(i64 i)),(34,(He t)),(35,(JE t)),(36,(N5 q21)),(38,Cf)]) ⟨.rfl,.rfl,.rfl,.rfl,.rfl,.rfl,.rfl,.rfl,.rfl,.rfl,.rfl,.rfl,.rfl,.rfl,.rfl,.rfl,.rfl,trivial⟩) (AH (by kernel_rfl) ((hA _ _ _).1 A_31)) rfl
        · refine Az.of (i:=7) rfl U (by rfl) ?_
          refine BP (v:=(I2 c)) Ah U (CP HZ U U U U) (AA ⟨U,?_⟩)
          exact AE (AT (L:=[(3,(BW q9)),(4,(i64 t)),(6,(i64 i)),(7,Cf),(10,(BW q9)),(11,(FF q9)),(12,(i64 t)),(25,(FA d)),(26,(FH d)),(27,(i64 i)),(32,(BW q9)),(33,(i64 t)),(37,(i64 i)),(34,(He t)),(35,(JE t)),(38,Cf),(39,(I2 c))]) ⟨.rfl,.rfl,.rfl,.rfl,.rfl,.rfl,.rfl,.rfl,.rfl,.rfl,.rfl,.rfl,.rfl,.rfl,.rfl,.rfl,.rfl,trivial⟩) (AH (by kernel_rfl) ((hA _ _ _).1 A_22)) rfl)
      have A_12:A 6 (bm 12 231) ⟨46,AP [(3,(BW q9)),(4,(i64 t)),(6,(i64 i)),(7,Cf),(10,(BW q9)),(11,(FF q9)),(12,(i64 t)),(25,(FA d)),(26,(FH d)),(27,(i64 i)),(32,(BW q9)),(33,(i64 t)),(37,(i64 i)),(34,(He t)),(38,Cf),(39,(I2 c))],(N0 t l d q21 i q c)⟩:=(hA _ _ _).2 (by
        refine Ae [3,8] U (by kernel_rfl) (by decide) ⟨?_,?_,trivial⟩
        · refine Az.of (i:=3) rfl U (by rfl) ?_
          refine BP (v:=(JE t)) Ah U (HS MD U U (show 0+2≤3 by decide) rfl) (AA ⟨U,?_⟩)
          exact AE (AT (L:=[(3,(BW q9)),(4,(i64 t)),(6,(i64 i)),(7,Cf),(10,(BW q9)),(11,(FF q9)),(12,(i64 t)),(25,(FA d)),(26,(FH d)),(27,(i64 i)),(32,(BW q9)),(33,(i64 t)),(37,(i64 i)),(34,(He t)),(35,(JE t)),(38,Cf),(39,(I2 c))]) ⟨.rfl,.rfl,.rfl,.rfl,.rfl,.rfl,.rfl,.rfl,.rfl,.rfl,.rfl,.rfl,.rfl,.rfl,.rfl,.rfl,.rfl,trivial⟩) (AH (by kernel_rfl) ((hA _ _ _).1 A_22)) rfl
        · refine Az.of (i:=8) rfl U (by rfl) ?_
          refine BY (v':=(N2 f)) (st':=[(Pp t l d q21),(N8 d),(Ui i q),(Ue c),(VL f)]) Ah MB (B0 gf) rfl U ⟨(B2 fun _=>U),trivial⟩ U U (AA ⟨U,?_⟩)
          exact AE (AT (L:=[(3,(BW q9)),(4,(i64 t)),(6,(i64 i)),(7,Cf),(10,(BW q9)),(11,(FF q9)),(12,(i64 t)),(25,(FA d)),(26,(FH d)),(27,(i64 i)),(32,(BW q9)),(33,(i64 t)),(37,(i64 i)),(34,(He t)),(38,Cf),(39,(I2 c)),(40,(N2 f))]) ⟨.rfl,.rfl,.rfl,.rfl,.rfl,.rfl,.rfl,.rfl,.rfl,.rfl,.rfl,.rfl,.rfl,.rfl,.rfl,.rfl,.rfl,trivial⟩) (AH (by kernel_rfl) ((hA _ _ _).1 A_13)) rfl)
      have A_03:A 6 (bm 12 483) ⟨46,AP [(3,(BW q9)),(4,(i64 t)),(6,(i64 i)),(7,Cf),(10,(BW q9)),(11,(FF q9)),(12,(i64 t)),(25,(FA d)),(26,(FH d)),(27,(i64 i)),(32,(BW q9)),(33,(i64 t)),(37,(i64 i)),(38,Cf),(39,(I2 c)),(40,(N2 f))],[(Pp t l d q21),(N8 d),(Ui i q),(Ue c),(VL f)]⟩:=(hA _ _ _).2 (by
        refine Ae [2] U (by kernel_rfl) (by decide) ⟨?_,trivial⟩
        · refine Az.of (i:=2) rfl U (by rfl) ?_
          refine BP (v:=(.ptr 0 0 (Int.toNat t) 0)) Ah U (L4 DC U U U ht0 htl (by first | rfl | (rw[FE];omega) | (simp[FE];omega))) (AA ⟨U,?_⟩)
          exact AE (AT (L:=[(3,(BW q9)),(4,(i64 t)),(6,(i64 i)),(7,Cf),(10,(BW q9)),(11,(FF q9)),(12,(i64 t)),(25,(FA d)),(26,(FH d)),(27,(i64 i)),(32,(BW q9)),(33,(i64 t)),(37,(i64 i)),(34,(He t)),(38,Cf),(39,(I2 c)),(40,(N2 f))]) ⟨.rfl,.rfl,.rfl,.rfl,.rfl,.rfl,.rfl,.rfl,.rfl,.rfl,.rfl,.rfl,.rfl,.rfl,.rfl,.rfl,.rfl,trivial⟩) (AH (by kernel_rfl) ((hA _ _ _).1 A_13)) rfl)
      have A_20:A 7 (bm 12 47) ⟨46,AP [(3,(BW q9)),(4,(i64 t)),(6,(i64 i)),(7,Cf),(10,(BW q9)),(11,(FF q9)),(12,(i64 t)),(25,(FA d)),(26,(FH d)),(27,(i64 i)),(32,(BW q9)),(33,(i64 t)),(37,(i64 i)),(34,(He t)),(35,(JE t))],(N0 t l d q21 i q c)⟩:=(hA _ _ _).2 (by
        refine Ae [4,6] U (by kernel_rfl) (by decide) ⟨?_,?_,trivial⟩
        · refine Az.of (i:=4) rfl U (by rfl) ?_
          refine BP (v:=(N5 q21)) Ah U (CP OL U U (List.getElem?_set_self hkl) rfl) (AA ⟨U,?_⟩)
          exact AE (AT (L:=[(3,(BW q9)),(4,(i64 t)),(6,(i64 i)),(7,Cf),(10,(BW q9)),(11,(FF q9)),(12,(i64 t)),(25,(FA d)),(26,(FH d)),(27,(i64 i)),(32,(BW q9)),(33,(i64 t)),(37,(i64 i)),(34,(He t)),(35,(JE t)),(36,(N5 q21))]) ⟨.rfl,.rfl,.rfl,.rfl,.rfl,.rfl,.rfl,.rfl,.rfl,.rfl,.rfl,.rfl,.rfl,.rfl,.rfl,.rfl,trivial⟩) (AH (by kernel_rfl) ((hA _ _ _).1 A_30)) rfl
        · refine Az.of (i:=6) rfl U (by rfl) ?_
          refine BP (v:=Cf) Ah U (HS Nd U U (show 0+0≤1 by decide) rfl) (AA ⟨U,?_⟩)
          exact AE (AT (L:=[(3,(BW q9)),(4,(i64 t)),(6,(i64 i)),(7,Cf),(10,(BW q9)),(11,(FF q9)),(12,(i64 t)),(25,(FA d)),(26,(FH d)),(27,(i64 i)),(32,(BW q9)),(33,(i64 t)),(37,(i64 i)),(34,(He t)),(35,(JE t)),(38,Cf)]) ⟨.rfl,.rfl,.rfl,.rfl,.rfl,.rfl,.rfl,.rfl,.rfl,.rfl,.rfl,.rfl,.rfl,.rfl,.rfl,.rfl,trivial⟩) (AH (by kernel_rfl) ((hA _ _ _).1 A_21)) rfl)
      have A_11:A 7 (bm 12 103) ⟨46,AP [(3,(BW q9)),(4,(i64 t)),(6,(i64 i)),(7,Cf),(10,(BW q9)),(11,(FF q9)),(12,(i64 t)),(25,(FA d)),(26,(FH d)),(27,(i64 i)),(32,(BW q9)),(33,(i64 t)),(37,(i64 i)),(34,(He t)),(38,Cf)],(N0 t l d q21 i q c)⟩:=(hA _ _ _).2 (by
        refine Ae [3,7] U (by kernel_rfl) (by decide) ⟨?_,?_,trivial⟩
        · refine Az.of (i:=3) rfl U (by rfl) ?_
          refine BP (v:=(JE t)) Ah U (HS MD U U (show 0+2≤3 by decide) rfl) (AA ⟨U,?_⟩)
          exact AE (AT (L:=[(3,(BW q9)),(4,(i64 t)),(6,(i64 i)),(7,Cf),(10,(BW q9)),(11,(FF q9)),(12,(i64 t)),(25,(FA d)),(26,(FH d)),(27,(i64 i)),(32,(BW q9)),(33,(i64 t)),(37,(i64 i)),(34,(He t)),(35,(JE t)),(38,Cf)]) ⟨.rfl,.rfl,.rfl,.rfl,.rfl,.rfl,.rfl,.rfl,.rfl,.rfl,.rfl,.rfl,.rfl,.rfl,.rfl,.rfl,trivial⟩) (AH (by kernel_rfl) ((hA _ _ _).1 A_21)) rfl
        · refine Az.of (i:=7) rfl U (by rfl) ?_
          refine BP (v:=(I2 c)) Ah U (CP HZ U U U U) (AA ⟨U,?_⟩)
          exact AE (AT (L:=[(3,(BW q9)),(4,(i64 t)),(6,(i64 i)),(7,Cf),(10,(BW q9)),(11,(FF q9)),(12,(i64 t)),(25,(FA d)),(26,(FH d)),(27,(i64 i)),(32,(BW q9)),(33,(i64 t)),(37,(i64 i)),(34,(He t)),(38,Cf),(39,(I2 c))]) ⟨.rfl,.rfl,.rfl,.rfl,.rfl,.rfl,.rfl,.rfl,.rfl,.rfl,.rfl,.rfl,.rfl,.rfl,.rfl,.rfl,trivial⟩) (AH (by kernel_rfl) ((hA _ _ _).1 A_12)) rfl)
      have A_02:A 7 (bm 12 227) ⟨46,AP [(3,(BW q9)),(4,(i64 t)),(6,(i64 i)),(7,Cf),(10,(BW q9)),(11,(FF q9)),(12,(i64 t)),(25,(FA d)),(26,(FH d)),(27,(i64 i)),(32,(BW q9)),(33,(i64 t)),(37,(i64 i)),(38,Cf),(39,(I2 c))],(N0 t l d q21 i q c)⟩:=(hA _ _ _).2 (by
        refine Ae [2,8] U (by kernel_rfl) (by decide) ⟨?_,?_,trivial⟩
        · refine Az.of (i:=2) rfl U (by rfl) ?_
          refine BP (v:=(.ptr 0 0 (Int.toNat t) 0)) Ah U (L4 DC U U U ht0 htl (by first | rfl | (rw[FE];omega) | (simp[FE];omega))) (AA ⟨U,?_⟩)
          exact AE (AT (L:=[(3,(BW q9)),(4,(i64 t)),(6,(i64 i)),(7,Cf),(10,(BW q9)),(11,(FF q9)),(12,(i64 t)),(25,(FA d)),(26,(FH d)),(27,(i64 i)),(32,(BW q9)),(33,(i64 t)),(37,(i64 i)),(34,(He t)),(38,Cf),(39,(I2 c))]) ⟨.rfl,.rfl,.rfl,.rfl,.rfl,.rfl,.rfl,.rfl,.rfl,.rfl,.rfl,.rfl,.rfl,.rfl,.rfl,.rfl,trivial⟩) (AH (by kernel_rfl) ((hA _ _ _).1 A_12)) rfl
        · refine Az.of (i:=8) rfl U (by rfl) ?_
          refine BY (v':=(N2 f)) (st':=[(Pp t l d q21),(N8 d),(Ui i q),(Ue c),(VL f)]) Ah MB (B0 gf) rfl U ⟨(B2 fun _=>U),trivial⟩ U U (AA ⟨U,?_⟩)
          exact AE (AT (L:=[(3,(BW q9)),(4,(i64 t)),(6,(i64 i)),(7,Cf),(10,(BW q9)),(11,(FF q9)),(12,(i64 t)),(25,(FA d)),(26,(FH d)),(27,(i64 i)),(32,(BW q9)),(33,(i64 t)),(37,(i64 i)),(38,Cf),(39,(I2 c)),(40,(N2 f))]) ⟨.rfl,.rfl,.rfl,.rfl,.rfl,.rfl,.rfl,.rfl,.rfl,.rfl,.rfl,.rfl,.rfl,.rfl,.rfl,.rfl,trivial⟩) (AH (by kernel_rfl) ((hA _ _ _).1 A_03)) rfl)
      have A_10:A 8 (bm 12 39) ⟨46,AP [(3,(BW q9)),(4,(i64 t)),(6,(i64 i)),(7,Cf),(10,(BW q9)),(11,(FF q9)),(12,(i64 t)),(25,(FA d)),(26,(FH d)),(27,(i64 i)),(32,(BW q9)),(33,(i64 t)),(37,(i64 i)),(34,(He t))],(N0 t l d q21 i q c)⟩:=(hA _ _ _).2 (by
        refine Ae [3,6] U (by kernel_rfl) (by decide) ⟨?_,?_,trivial⟩
        · refine Az.of (i:=3) rfl U (by rfl) ?_
          refine BP (v:=(JE t)) Ah U (HS MD U U (show 0+2≤3 by decide) rfl) (AA ⟨U,?_⟩)
          exact AE (AT (L:=[(3,(BW q9)),(4,(i64 t)),(6,(i64 i)),(7,Cf),(10,(BW q9)),(11,(FF q9)),(12,(i64 t)),(25,(FA d)),(26,(FH d)),(27,(i64 i)),(32,(BW q9)),(33,(i64 t)),(37,(i64 i)),(34,(He t)),(35,(JE t))]) ⟨.rfl,.rfl,.rfl,.rfl,.rfl,.rfl,.rfl,.rfl,.rfl,.rfl,.rfl,.rfl,.rfl,.rfl,.rfl,trivial⟩) (AH (by kernel_rfl) ((hA _ _ _).1 A_20)) rfl
        · refine Az.of (i:=6) rfl U (by rfl) ?_
          refine BP (v:=Cf) Ah U (HS Nd U U (show 0+0≤1 by decide) rfl) (AA ⟨U,?_⟩)
          exact AE (AT (L:=[(3,(BW q9)),(4,(i64 t)),(6,(i64 i)),(7,Cf),(10,(BW q9)),(11,(FF q9)),(12,(i64 t)),(25,(FA d)),(26,(FH d)),(27,(i64 i)),(32,(BW q9)),(33,(i64 t)),(37,(i64 i)),(34,(He t)),(38,Cf)]) ⟨.rfl,.rfl,.rfl,.rfl,.rfl,.rfl,.rfl,.rfl,.rfl,.rfl,.rfl,.rfl,.rfl,.rfl,.rfl,trivial⟩) (AH (by kernel_rfl) ((hA _ _ _).1 A_11)) rfl)
      have A_01:A 8 (bm 12 99) ⟨46,AP [(3,(BW q9)),(4,(i64 t)),(6,(i64 i)),(7,Cf),(10,(BW q9)),(11,(FF q9)),(12,(i64 t)),(25,(FA d)),(26,(FH d)),(27,(i64 i)),(32,(BW q9)),(33,(i64 t)),(37,(i64 i)),(38,Cf)],(N0 t l d q21 i q c)⟩:=(hA _ _ _).2 (by
        refine Ae [2,7] U (by kernel_rfl) (by decide) ⟨?_,?_,trivial⟩
        · refine Az.of (i:=2) rfl U (by rfl) ?_
          refine BP (v:=(.ptr 0 0 (Int.toNat t) 0)) Ah U (L4 DC U U U ht0 htl (by first | rfl | (rw[FE];omega) | (simp[FE];omega))) (AA ⟨U,?_⟩)
          exact AE (AT (L:=[(3,(BW q9)),(4,(i64 t)),(6,(i64 i)),(7,Cf),(10,(BW q9)),(11,(FF q9)),(12,(i64 t)),(25,(FA d)),(26,(FH d)),(27,(i64 i)),(32,(BW q9)),(33,(i64 t)),(37,(i64 i)),(34,(He t)),(38,Cf)]) ⟨.rfl,.rfl,.rfl,.rfl,.rfl,.rfl,.rfl,.rfl,.rfl,.rfl,.rfl,.rfl,.rfl,.rfl,.rfl,trivial⟩) (AH (by kernel_rfl) ((hA _ _ _).1 A_11)) rfl
        · refine Az.of (i:=7) rfl U (by rfl) ?_
          refine BP (v:=(I2 c)) Ah U (CP HZ U U U U) (AA ⟨U,?_⟩)
          exact AE (AT (L:=[(3,(BW q9)),(4,(i64 t)),(6,(i64 i)),(7,Cf),(10,(BW q9)),(11,(FF q9)),(12,(i64 t)),(25,(FA d)),(26,(FH d)),(27,(i64 i)),(32,(BW q9)),(33,(i64 t)),(37,(i64 i)),(38,Cf),(39,(I2 c))]) ⟨.rfl,.rfl,.rfl,.rfl,.rfl,.rfl,.rfl,.rfl,.rfl,.rfl,.rfl,.rfl,.rfl,.rfl,.rfl,trivial⟩) (AH (by kernel_rfl) ((hA _ _ _).1 A_02)) rfl)
      have A_00:A 9 (bm 12 35) ⟨46,AP [(3,(BW q9)),(4,(i64 t)),(6,(i64 i)),(7,Cf),(10,(BW q9)),(11,(FF q9)),(12,(i64 t)),(25,(FA d)),(26,(FH d)),(27,(i64 i)),(32,(BW q9)),(33,(i64 t)),(37,(i64 i))],(N0 t l d q21 i q c)⟩:=(hA _ _ _).2 (by
        refine Ae [2,6] U (by kernel_rfl) (by decide) ⟨?_,?_,trivial⟩
        · refine Az.of (i:=2) rfl U (by rfl) ?_
          refine BP (v:=(.ptr 0 0 (Int.toNat t) 0)) Ah U (L4 DC U U U ht0 htl (by first | rfl | (rw[FE];omega) | (simp[FE];omega))) (AA ⟨U,?_⟩)
          exact AE (AT (L:=[(3,(BW q9)),(4,(i64 t)),(6,(i64 i)),(7,Cf),(10,(BW q9)),(11,(FF q9)),(12,(i64 t)),(25,(FA d)),(26,(FH d)),(27,(i64 i)),(32,(BW q9)),(33,(i64 t)),(37,(i64 i)),(34,(He t))]) ⟨.rfl,.rfl,.rfl,.rfl,.rfl,.rfl,.rfl,.rfl,.rfl,.rfl,.rfl,.rfl,.rfl,.rfl,trivial⟩) (AH (by kernel_rfl) ((hA _ _ _).1 A_10)) rfl
        · refine Az.of (i:=6) rfl U (by rfl) ?_
          refine BP (v:=Cf) Ah U (HS Nd U U (show 0+0≤1 by decide) rfl) (AA ⟨U,?_⟩)
          exact AE (AT (L:=[(3,(BW q9)),(4,(i64 t)),(6,(i64 i)),(7,Cf),(10,(BW q9)),(11,(FF q9)),(12,(i64 t)),(25,(FA d)),(26,(FH d)),(27,(i64 i)),(32,(BW q9)),(33,(i64 t)),(37,(i64 i)),(38,Cf)]) ⟨.rfl,.rfl,.rfl,.rfl,.rfl,.rfl,.rfl,.rfl,.rfl,.rfl,.rfl,.rfl,.rfl,.rfl,trivial⟩) (AH (by kernel_rfl) ((hA _ _ _).1 A_01)) rfl)
      have B_2:A 10 (bm 12 3) ⟨46,AP [(3,(BW q9)),(4,(i64 t)),(6,(i64 i)),(7,Cf),(10,(BW q9)),(11,(FF q9)),(12,(i64 t)),(25,(FA d)),(26,(FH d)),(27,(i64 i)),(32,(BW q9)),(33,(i64 t))],(N0 t l d q21 i q c)⟩:=(hA _ _ _).2 (by
        refine Bt 5 (v:=(i64 i)) rfl U (by kernel_rfl) (by kernel_rfl) (by kernel_rfl) rfl (CS U) ?_
        exact AE (AT (L:=[(3,(BW q9)),(4,(i64 t)),(6,(i64 i)),(7,Cf),(10,(BW q9)),(11,(FF q9)),(12,(i64 t)),(25,(FA d)),(26,(FH d)),(27,(i64 i)),(32,(BW q9)),(33,(i64 t)),(37,(i64 i))]) ⟨.rfl,.rfl,.rfl,.rfl,.rfl,.rfl,.rfl,.rfl,.rfl,.rfl,.rfl,.rfl,.rfl,trivial⟩) (AH (by kernel_rfl) ((hA _ _ _).1 A_00)) rfl)
      have B_1:A 11 (bm 12 1) ⟨46,AP [(3,(BW q9)),(4,(i64 t)),(6,(i64 i)),(7,Cf),(10,(BW q9)),(11,(FF q9)),(12,(i64 t)),(25,(FA d)),(26,(FH d)),(27,(i64 i)),(32,(BW q9))],(N0 t l d q21 i q c)⟩:=(hA _ _ _).2 (by
        refine Bt 1 (v:=(i64 t)) rfl U (by kernel_rfl) (by kernel_rfl) (by kernel_rfl) rfl (CS U) ?_
        exact AE (AT (L:=[(3,(BW q9)),(4,(i64 t)),(6,(i64 i)),(7,Cf),(10,(BW q9)),(11,(FF q9)),(12,(i64 t)),(25,(FA d)),(26,(FH d)),(27,(i64 i)),(32,(BW q9)),(33,(i64 t))]) ⟨.rfl,.rfl,.rfl,.rfl,.rfl,.rfl,.rfl,.rfl,.rfl,.rfl,.rfl,.rfl,trivial⟩) (AH (by kernel_rfl) ((hA _ _ _).1 B_2)) rfl)
      have B_0:A 12 (bm 12 0) ⟨46,AP [(3,(BW q9)),(4,(i64 t)),(6,(i64 i)),(7,Cf),(10,(BW q9)),(11,(FF q9)),(12,(i64 t)),(25,(FA d)),(26,(FH d)),(27,(i64 i))],(N0 t l d q21 i q c)⟩:=(hA _ _ _).2 (by
        refine Bt 0 (v:=(BW q9)) rfl U (by kernel_rfl) (by kernel_rfl) (by kernel_rfl) rfl (CS U) ?_
        exact AE (AT (L:=[(3,(BW q9)),(4,(i64 t)),(6,(i64 i)),(7,Cf),(10,(BW q9)),(11,(FF q9)),(12,(i64 t)),(25,(FA d)),(26,(FH d)),(27,(i64 i)),(32,(BW q9))]) ⟨.rfl,.rfl,.rfl,.rfl,.rfl,.rfl,.rfl,.rfl,.rfl,.rfl,.rfl,trivial⟩) (AH (by kernel_rfl) ((hA _ _ _).1 B_1)) rfl)
      exact (hA _ _ _).2 (AH (by kernel_rfl) ((hA _ _ _).1 B_0))
    · replace h2:=Sh.ZU b33 h2
      have hfull:mix (CX 3) BZ (Int.toNat i) q=List.map (CX 3) q:=UF (by have h:=of_decide_eq_false b33;simp only[Sh.len] at h;omega)
      exact Aw (M22 q (Sh.AB h2).symm hlq _ ((AT (L:=[(3,(.own 0 0 (List.length q9))),(10,(.own 0 0 (List.length q9))),(11,(i64 (Sh.len q9))),(12,(i64 t))]) ⟨.rfl,.rfl,.rfl,.rfl,trivial⟩).trans (DG (by rw[hfull]))))
  · replace h1:=Sh.ZU b13 h1
    have hfull:mix (Aj 111 3) Ai (Int.toNat t) l=List.map (Aj 111 3) l:=UF (by have h:=of_decide_eq_false b13;simp only[Sh.len] at h;omega)
    exact Aw (M9 l (Sh.AB h1).symm hll _ ((AT (L:=[(3,(.own 0 0 (List.length q9)))]) ⟨.rfl,trivial⟩).trans (DG (by rw[hfull]))))
end Go.Proofs.YtpahalfiiahddaaGreat.Cl

