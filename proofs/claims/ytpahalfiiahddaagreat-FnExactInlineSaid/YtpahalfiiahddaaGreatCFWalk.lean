/- The copy of declarations: a row that owns all that lies under it. -/
import Derived.Test.YtpahalfiiahddaaGreatGAbsXToAbsZN
import Derived.Test.YtpahalfiiahddaaGreatGAbsZPToSSDefs
import Derived.Test.YtpahalfiiahddaaGreatCEWalk
import Derived.Test.YtpahalfiiahddaaGreatGCloneDToCloneE

namespace Go.Proofs.YtpahalfiiahddaaGreat.Cl
open Go Go.Abs RC
set_option maxRecDepth 100000
noncomputable abbrev Ot (z0:_) (z1:_) (z2:Ab) {α3:Type} (z3:List α3) (z4:_) (z5:_) (z6:BP):=([⟨0,81,3,(mix (Ad 111 3) AT (Int.toNat z0) z1).set (Int.toNat z0) [(i64 z2.from_),(i64 z2.to),(.own 2 0 (List.length z3))]⟩,⟨0,81,3,[[(i64 z2.from_),(i64 z2.to),(ls BR z2.cons)]]⟩,⟨0,111,1,mix (CA 3) BR (Int.toNat z4) z5⟩,⟨0,111,1,[[(ls eI z6.fields)]]⟩]:List Row)
noncomputable abbrev BN {α0:Type} (z0:List α0):=((.own 0 0 (List.length z0)):AV)
noncomputable abbrev Q4 (z0:_) (z1:_) (z2:Ab) {α3:Type} (z3:List α3):=(⟨0,81,3,(mix (Ad 111 3) AT (Int.toNat z0) z1).set (Int.toNat z0) [(i64 z2.from_),(i64 z2.to),(.own 2 0 (List.length z3))]⟩:Row)
noncomputable abbrev Cj:=((.ptr 3 0 0 0):AV)
noncomputable abbrev Ol (z0:Ab):=(⟨0,81,3,[[(i64 z0.from_),(i64 z0.to),(ls BR z0.cons)]]⟩:Row)
noncomputable abbrev Fl (z0:Ab):=((i64 (Sh.len z0.cons)):AV)
noncomputable abbrev H6 (z0:_):=((.ptr 0 0 (Int.toNat z0) 0):AV)
noncomputable abbrev Fb (z0:Ab):=((ls BR z0.cons):AV)
noncomputable abbrev Jl (z0:_):=((.ptr 0 0 (Int.toNat z0) 2):AV)
noncomputable abbrev Fi {α0:Type} (z0:List α0):=((i64 (Sh.len z0)):AV)
noncomputable abbrev Wb (z0:_) (z1:_):=(⟨0,111,1,mix (CA 3) BR (Int.toNat z0) z1⟩:Row)
noncomputable abbrev Jf (z0:BP):=((ls eI z0.fields):AV)
noncomputable abbrev Oj {α0:Type} (z0:List α0):=((.own 2 0 (List.length z0)):AV)
noncomputable abbrev Oq {α0:Type} (z0:List α0):=((.own 4 0 (List.length z0)):AV)
noncomputable abbrev Ww (z0:_):=(⟨0,111,1,[[(Jf z0)]]⟩:Row)
noncomputable abbrev Wf (z0:_):=(⟨0,3,1,List.map eI z0⟩:Row)
set_option maxHeartbeats 4000000
theorem Ji:Ch Tryz.prog 81=some (true,3):=by kernel_rfl
theorem Jr:Ch Tryz.prog 111=some (true,1):=by kernel_rfl
theorem PA:Ch Tryz.prog 79=some (false,1):=by kernel_rfl
theorem H3:Ch Tryz.prog 46=some (false,1):=by kernel_rfl
theorem MZ:HR Tryz.prog 81 2=some 2:=by kernel_rfl
theorem Na:HR Tryz.prog 111 0=some 0:=by kernel_rfl
theorem Gm:HN Tryz.prog 81=some [.int .i64 0,.int .i64 0,.zc]:=by kernel_rfl
theorem Lr:HN Tryz.prog 111=some [.zc]:=by kernel_rfl
theorem dx:DI Tryz.prog 129=true:=by kernel_rfl
theorem eJ:DI Tryz.prog 130=true:=by kernel_rfl
theorem V9:DI Tryz.prog 102=true:=by kernel_rfl

theorem TR:True:=trivial
theorem NX {N:Nat} {p0 r:List Ab} (h0:GW N p0=some r):Aa Tryz.prog 103 [(ls AT p0)] [] (fun v st=>v=(.own 0 0 (List.length r))∧st=[⟨0,81,3,List.map (Ad 111 3) r⟩]):=by
  unfold GW at h0
  refine Aa.intro Tryz.func103 U (by show 1≤46;decide) ?_
  show AW _ 0 _ (ZS _ 0 Tryz.f103 _) ⟨46,_,_⟩
  refine AM (AS (L:=[(0,(ls AT p0))]) ⟨.rfl,trivial⟩) ?_
  refine AB fun K1 hK1=>?_
  refine AF (by rfl) ?_
  refine BH (v:=.zc) Ac U (SH U) ?_
  refine AE (hK1 _ ?_)
  refine AB fun K2 hK2=>?_
  refine AF (by rfl) ?_
  refine BH (v:=(ls AT p0)) Ac U (KJ U) ?_
  obtain⟨q9,gq9,h0⟩:=Sh.bind_some h0
  refine BF (v':=(BN q9)) (st':=[⟨0,81,3,List.map AT q9⟩]) Ac dx (H7 gq9) rfl U ⟨(BZ fun _=>U),trivial⟩ U U ?_
  refine BH (v:=(BN q9)) Ac U (SH U) ?_
  refine AE (hK2 _ ?_)
  have hmax:q9.length≤9223372036854775807:=by
    unfold CJ at gq9
    obtain⟨x,hx,hs⟩:=Sh.bind_some gq9
    unfold Sh.app at hx
    split at hx
    · rename_i hb
      simp only[Option.some.injEq] at hx hs
      rw[← hs,← hx];simpa using hb.2
    · cases hx
  refine AB fun K4 hK4=>?_
  refine AB fun K5 hK5=>?_
  refine AF (by rfl) ?_
  refine BH (v:=(BN q9)) Ac U (KJ U) ?_
  refine BH (v:=(Fi q9)) Ac U (Cw Qu U U U) ?_
  refine BH (v:=(i64 0)) Ac U (KJ U) ?_
  refine AE (hK5 _ ?_)
  obtain⟨o9,h1,h0⟩:=Sh.bind_some h0
  have M9 :∀(l:List Ab),o9=l→l.length=q9.length→∀s,Wk 0 s ⟨46,AL [(3,(BN q9))],[⟨0,81,3,List.map (Ad 111 3) l⟩]⟩→K4 s:=by
    intro l hq hlen s hw
    subst o9
    refine hK4 _ (AM hw ?_)
    refine AB fun K10 hK10=>?_
    refine AF (by rfl) ?_
    refine BH (v:=(BN q9)) Ac U (KJ U) ?_
    refine BH (v:=(BN q9)) Ac U (SH U) ?_
    refine AE (hK10 _ ?_)
    obtain rfl:=Sh.AA h0
    exact AI (Exists.intro _ (And.intro (AS (L:=[(2,(.own 0 0 (List.length q9)))]) ⟨.rfl,trivial⟩) (And.intro (by rw[hlen];rfl) rfl)))
  refine AP (Ak (σ:=Int×(List Ab)) (fun n v=>DR N (Sh.len q9) n v.1 v.2=some o9∧v.2.length=q9.length∧0≤v.1∧v.1≤q9.length) (fun (t,l)=>⟨46,AL [(3,(.own 0 0 (List.length q9))),(10,(.own 0 0 (List.length q9))),(11,(i64 (Sh.len q9))),(12,(i64 t))],[⟨0,81,3,mix (Ad 111 3) AT (Int.toNat t) l⟩]⟩) N (0,q9) ⟨h1,U,Int.le_refl _,Int.natCast_nonneg _⟩ ((AS (L:=[(3,(.own 0 0 (List.length q9))),(10,(.own 0 0 (List.length q9))),(11,(i64 (Sh.len q9))),(12,(i64 0))]) ⟨.rfl,.rfl,.rfl,.rfl,trivial⟩).trans (C9 (by rw[show Int.toNat 0=0 from U,Vs]))) (fun _ hv=>by have hv:=hv.1;rw[DR] at hv;cases hv) ?_)
  rintro n ⟨t,l⟩ ⟨h1,hll,ht0,ht1⟩
  try dsimp only at h1 hll ht0 ht1 ⊢
  rw[DR] at h1
  refine AB fun K11 hK11=>?_
  refine AF (by rfl) ?_
  refine BH (v:=(.bool (decide (t < (Sh.len q9))))) Ac U (Yt U U) ?_
  refine AE (hK11 _ ?_)
  refine AB fun K12 hK12=>?_
  refine FT (b:=decide (t < (Sh.len q9))) rfl (fun b13=>?_) (fun b13=>?_)
  · replace h1:=Sh.cD b13 h1
    refine AG (hK12 _ ?_)
    have htl:t < (q9.length:Int):=of_decide_eq_true b13
    obtain⟨d,gd,h1⟩:=Sh.bind_some h1
    obtain⟨q21,gq21,h1⟩:=Sh.bind_some h1
    obtain⟨o22,h2,h1⟩:=Sh.bind_some h1
    have hget:l[Int.toNat t]?=some d:=by have h:=gd;unfold Sh.get at h;rw[if_pos ht0] at h;exact h
    have hkl:Int.toNat t < (mix (Ad 111 3) AT (Int.toNat t) l).length:=by rw[Fg];exact (List.getElem?_eq_some_iff.1 hget).1
    have hpd:CO (mix (Ad 111 3) AT (Int.toNat t) l):=Rc (fun _=>rfl) (fun _=>rfl)
    refine AB fun K14 hK14=>?_
    refine AP ?_
    refine AB fun K15 hK15=>?_
    refine AF (by rfl) ?_
    refine BH (v:=(i64 t)) Ac U (KJ U) ?_
    refine BH (v:=(.ptr 0 0 (Int.toNat t) 0)) Ac U (Mo DO U U U ht0 htl (by first | rfl | (rw[Fg];omega) | (simp[Fg];omega))) ?_
    refine BH (v:=(.agg [(i64 d.from_),(i64 d.to),(Fb d)])) Ac U (BM Ji U U (UR hget) (show 0+3≤3 by decide) rfl) ?_
    refine As (m:=1) (st':=[⟨0,81,3,mix (Ad 111 3) AT (Int.toNat t) l⟩,⟨0,81,3,[[(i64 0),(i64 0),.zc]]⟩]) Ac Gm U U ?_
    refine BH (v:=(i64 t)) Ac U (SH U) ?_
    refine Ay (st':=[⟨0,81,3,mix (Ad 111 3) AT (Int.toNat t) l⟩,(Ol d)]) Ac Ji U U U U U U (show 0+3≤3 by decide) rfl ?_
    refine AE (hK15 _ ?_)
    refine AB fun K16 hK16=>?_
    refine AF (by rfl) ?_
    refine BH (v:=(BN q9)) Ac U (KJ U) ?_
    refine BH (v:=(i64 t)) Ac U (KJ U) ?_
    refine BH (v:=(.ptr 1 0 0 2)) Ac U (Hu MZ U U (show 0+2≤3 by decide) rfl) ?_
    refine BH (v:=(Fb d)) Ac U (CZ PA U U U U) ?_
    refine BF (v':=(Oj q21)) (st':=[⟨0,81,3,mix (Ad 111 3) AT (Int.toNat t) l⟩,(Ol d),⟨0,111,1,List.map BR q21⟩]) Ac eJ (Ig gq21) rfl U ⟨(BZ fun _=>U),trivial⟩ U U ?_
    refine BH (v:=(.ptr 0 0 (Int.toNat t) 0)) Ac U (Mo DO U U U ht0 htl (by first | rfl | (rw[Fg];omega) | (simp[Fg];omega))) ?_
    refine BH (v:=(Jl t)) Ac U (Hu MZ U U (show 0+2≤3 by decide) rfl) ?_
    refine Ay (st':=[(Q4 t l d q21),(Ol d),⟨0,111,1,List.map BR q21⟩]) Ac PA U U (UR hget) rfl U U (show 2+1≤3 by decide) rfl ?_
    refine AE (hK16 _ ?_)
    refine AB fun K17 hK17=>?_
    refine AF (by rfl) ?_
    refine BH (v:=(.ptr 1 0 0 2)) Ac U (Hu MZ U U (show 0+2≤3 by decide) rfl) ?_
    refine BH (v:=(Fb d)) Ac U (CZ PA U U U U) ?_
    refine BH (v:=(Fl d)) Ac U (CK O6 U) ?_
    refine BH (v:=(i64 0)) Ac U (KJ U) ?_
    refine AE (hK17 _ ?_)
    have M22 :∀(q:List BP),o22=q→q.length=q21.length→∀s,Wk 0 s ⟨46,AL [(3,(BN q9)),(10,(BN q9)),(11,(Fi q9)),(12,(i64 t))],[(Q4 t l d q21),(Ol d),⟨0,111,1,List.map (CA 3) q⟩]⟩→K14 s:=by
      intro q hq hlq s hw
      subst o22
      refine hK14 _ (AM hw ?_)
      have hmix:((mix (Ad 111 3) AT (Int.toNat t) l).set (Int.toNat t) [(i64 d.from_),(i64 d.to),(.own 2 0 (List.length q21))]).set (Int.toNat t) (Ad 111 3 (Ab.mk d.from_ d.to q))=mix (Ad 111 3) AT (Int.toNat t+1) (Sh.put l t (Ab.mk d.from_ d.to q)):=by rw[List.set_set];exact Xt hget
      refine AM (JS (id:=0) (m:=2) (i:=Int.toNat t) (j:=2) (st':=[⟨0,81,3,mix (Ad 111 3) AT (Int.toNat t+1) (Sh.put l t (Ab.mk d.from_ d.to q))⟩,⟨0,81,3,[[(i64 d.from_),(i64 d.to),(ls BR d.cons)]]⟩,⟨1,111,1,[]⟩]) rfl (List.getElem?_set_self hkl) rfl U (by simp[hlq]) (by decide) (Nat.zero_le _) (RC.Ev fun _=>U) (by rw[← hmix];rfl)) ?_
      refine AM (UB (L:=[(3,(.own 0 0 (List.length q9))),(10,(.own 0 0 (List.length q9))),(11,(i64 (Sh.len q9))),(12,(i64 t))]) (st':=[⟨0,81,3,mix (Ad 111 3) AT (Int.toNat t+1) (Sh.put l t (Ab.mk d.from_ d.to q))⟩]) [0] (by decide) rfl U (fun row h=>by rw[List.mem_singleton.1 h];exact Mf (Rc (fun _=>U) (fun _=>U))) ⟨.rfl,.rfl,.rfl,.rfl,trivial⟩) ?_
      refine AF (by rfl) ?_
      refine BH (v:=(i64 (Sh.w (t+1)))) Ac U (Wm U U) ?_
      refine BH (v:=(i64 (Sh.w (t+1)))) Ac U (KJ U) ?_
      have hw1:Sh.w (t+1)=t+1:=Go.Abs.wrap_i64 (by omega) (by omega)
      have ht2:Int.toNat (Sh.w (t+1))=Int.toNat t+1:=by rw[hw1];omega
      exact AE (Exists.intro (Sh.w (t+1),Sh.put l t (Ab.mk d.from_ d.to q)) (And.intro ⟨h1,by rw[Sh.Az];exact hll,by rw[hw1];omega,by rw[hw1];omega⟩ ((AS (L:=[(3,(.own 0 0 (List.length q9))),(10,(.own 0 0 (List.length q9))),(11,(i64 (Sh.len q9))),(12,(i64 (Sh.w (t+1))))]) ⟨.rfl,.rfl,.rfl,.rfl,trivial⟩).trans (C9 (by rw[ht2])))))
    have hq0:q21.length=d.cons.length:=by
      unfold B2 at gq21
      obtain⟨x,hx,hs⟩:=Sh.bind_some gq21
      unfold Sh.app at hx
      split at hx
      · simp only[Option.some.injEq,List.nil_append] at hx hs
        rw[← hs,← hx]
      · cases hx
    have hmaxc:d.cons.length≤9223372036854775807:=by
      unfold B2 at gq21
      obtain⟨x,hx,hs⟩:=Sh.bind_some gq21
      unfold Sh.app at hx
      split at hx
      · rename_i hb
        simpa using hb.2
      · cases hx
    refine AP (Ak (σ:=Int×(List BP)) (fun n v=>DQ d.cons n v.1 v.2=some o22∧v.2.length=q21.length∧0≤v.1∧v.1≤d.cons.length) (fun (i,q)=>⟨46,AL [(3,(.own 0 0 (List.length q9))),(4,(i64 t)),(10,(.own 0 0 (List.length q9))),(11,(i64 (Sh.len q9))),(12,(i64 t)),(25,(ls BR d.cons)),(26,(i64 (Sh.len d.cons))),(27,(i64 i))],[⟨0,81,3,(mix (Ad 111 3) AT (Int.toNat t) l).set (Int.toNat t) [(i64 d.from_),(i64 d.to),(.own 2 0 (List.length q21))]⟩,⟨0,81,3,[[(i64 d.from_),(i64 d.to),(ls BR d.cons)]]⟩,⟨0,111,1,mix (CA 3) BR (Int.toNat i) q⟩]⟩) N (0,q21) ⟨h2,U,Int.le_refl _,Int.natCast_nonneg _⟩ ((AS (L:=[(3,(.own 0 0 (List.length q9))),(4,(i64 t)),(10,(.own 0 0 (List.length q9))),(11,(i64 (Sh.len q9))),(12,(i64 t)),(25,(ls BR d.cons)),(26,(i64 (Sh.len d.cons))),(27,(i64 0))]) ⟨.rfl,.rfl,.rfl,.rfl,.rfl,.rfl,.rfl,.rfl,trivial⟩).trans (C9 (by rw[show Int.toNat 0=0 from U,Vs]))) (fun _ hv=>by have hv:=hv.1;rw[DQ] at hv;cases hv) ?_)
    rintro n2 ⟨i,q⟩ ⟨h2,hlq,hi0,hi1⟩
    try dsimp only at h2 hlq hi0 hi1 ⊢
    rw[DQ] at h2
    refine AB fun K31 hK31=>?_
    refine AF (by rfl) ?_
    refine BH (v:=(.bool (decide (i < (Sh.len d.cons))))) Ac U (Yt U U) ?_
    refine AE (hK31 _ ?_)
    refine AB fun K32 hK32=>?_
    refine FT (b:=decide (i < (Sh.len d.cons))) rfl (fun b33=>?_) (fun b33=>?_)
    · replace h2:=Sh.cD b33 h2
      refine AG (hK32 _ ?_)
      have hil:i < (q21.length:Int):=by rw[hq0];exact of_decide_eq_true b33
      obtain⟨c,gc,h2⟩:=Sh.bind_some h2
      obtain⟨f,gf,h2⟩:=Sh.bind_some h2
      obtain⟨c2,gc2,h2⟩:=Sh.bind_some h2
      have hgc:q[Int.toNat i]?=some c2:=by have h:=gc2;unfold Sh.get at h;rw[if_pos hi0] at h;exact h
      have hkc:Int.toNat i < (mix (CA 3) BR (Int.toNat i) q).length:=by rw[Fg];exact (List.getElem?_eq_some_iff.1 hgc).1
      refine AB fun K34 hK34=>?_
      refine AP ?_
      refine AB fun K35 hK35=>?_
      refine AF (by rfl) ?_
      refine BH (v:=(i64 i)) Ac U (KJ U) ?_
      refine BH (v:=(.Bd (BR c) 0)) Ac U (FC Io U U gc U) ?_
      refine BH (v:=(.agg [(Jf c)])) Ac U (XH Jr U (show 0+1≤1 by decide) rfl) ?_
      refine As (m:=3) (st':=[(Q4 t l d q21),(Ol d),(Wb i q),⟨0,111,1,[[.zc]]⟩]) Ac Lr U U ?_
      refine BH (v:=(i64 i)) Ac U (SH U) ?_
      refine Ay (st':=(Ot t l d q21 i q c)) Ac Jr U U U U U U (show 0+1≤1 by decide) rfl ?_
      refine AE (hK35 _ ?_)
      refine AM (AS (L:=[(3,(BN q9)),(4,(i64 t)),(6,(i64 i)),(7,Cj),(10,(BN q9)),(11,(Fi q9)),(12,(i64 t)),(25,(Fb d)),(26,(Fl d)),(27,(i64 i))]) ⟨.rfl,.rfl,.rfl,.rfl,.rfl,.rfl,.rfl,.rfl,.rfl,.rfl,trivial⟩) ?_
      refine Hh (by kernel_rfl) ?_
      refine Jo fun A hA=>?_
      have hmixc:((mix (CA 3) BR (Int.toNat i) q).set (Int.toNat i) [(.own 4 0 (List.length f))]).set (Int.toNat i) (CA 3 (BP.mk f))=mix (CA 3) BR (Int.toNat i+1) (Sh.put q i (BP.mk f)):=by rw[List.set_set];exact Xt hgc
      have hselr :∀row∈[(Q4 t l d q21),(Ol d),⟨0,111,1,mix (CA 3) BR (Int.toNat i+1) (Sh.put q i (BP.mk f))⟩],Bp [0,1,2] row=row:=by
        intro row h
        rcases List.mem_cons.1 h with rfl | h
        · exact X5 hpd U
        rcases List.mem_cons.1 h with rfl | h
        · rfl
        rw[List.mem_singleton.1 h]
        exact Mf (Rc (fun _=>U) (fun _=>U))
      have A_33:A 3 (bm 12 511) ⟨46,AL [(3,(BN q9)),(4,(i64 t)),(6,(i64 i)),(7,Cj),(10,(BN q9)),(11,(Fi q9)),(12,(i64 t)),(25,(Fb d)),(26,(Fl d)),(27,(i64 i)),(32,(BN q9)),(33,(i64 t)),(37,(i64 i)),(34,(H6 t)),(35,(Jl t)),(36,(Oj q21)),(38,Cj),(39,(Jf c)),(40,(Oq f))],[(Q4 t l d q21),(Ol d),(Wb i q),(Ww c),(Wf f)]⟩:=(hA _ _ _).2 (by
        refine xa [9] ⟨?_,trivial⟩
        refine Da.of (i:=9) rfl U (by rfl) ?_
        refine BH (v:=(.ptr 2 0 (Int.toNat i) 0)) Ac U (Mo Io U U U hi0 hil (by first | rfl | (rw[Fg];omega) | (simp[Fg];omega))) (AE ⟨U,?_⟩)
        refine xa [10] ⟨?_,trivial⟩
        refine Da.of (i:=10) rfl U (by rfl) ?_
        refine BH (v:=(.ptr 2 0 (Int.toNat i) 0)) Ac U (Hu Na U U (show 0+0≤1 by decide) rfl) (AE ⟨U,?_⟩)
        refine xa [11] ⟨?_,trivial⟩
        refine Da.of (i:=11) rfl U (by rfl) ?_
        refine Ay (st':=[(Q4 t l d q21),(Ol d),⟨0,111,1,(mix (CA 3) BR (Int.toNat i) q).set (Int.toNat i) [(Oq f)]⟩,(Ww c),(Wf f)]) Ac H3 U U (UR hgc) rfl U U (show 0+1≤1 by decide) rfl (AE ⟨U,?_⟩)
        refine G0 U (by kernel_rfl) ?_
        refine hK34 _ ?_
        refine AM (JS (id:=2) (m:=4) (i:=Int.toNat i) (j:=0) (st':=[⟨0,81,3,(mix (Ad 111 3) AT (Int.toNat t) l).set (Int.toNat t) [(i64 d.from_),(i64 d.to),(.own 2 0 (List.length q21))]⟩,⟨0,81,3,[[(i64 d.from_),(i64 d.to),(ls BR d.cons)]]⟩,⟨0,111,1,mix (CA 3) BR (Int.toNat i+1) (Sh.put q i (BP.mk f))⟩,⟨0,111,1,[[(ls eI c.fields)]]⟩,⟨1,3,1,[]⟩]) rfl (List.getElem?_set_self hkc) rfl U (by simp) (by decide) (Nat.zero_le _) (RC.Ev fun _=>U) (by rw[← hmixc];rfl)) ?_
        refine AM (UB (L:=[(3,(BN q9)),(4,(i64 t)),(10,(BN q9)),(11,(Fi q9)),(12,(i64 t)),(25,(Fb d)),(26,(Fl d)),(27,(i64 i))]) (st':=[(Q4 t l d q21),(Ol d),⟨0,111,1,mix (CA 3) BR (Int.toNat i+1) (Sh.put q i (BP.mk f))⟩]) [0,1,2] (by decide) rfl U hselr ⟨.rfl,.rfl,.rfl,.rfl,.rfl,.rfl,.rfl,.rfl,trivial⟩) ?_
        refine AF (by rfl) ?_
        refine BH (v:=(i64 (Sh.w (i+1)))) Ac U (Wm U U) ?_
        refine BH (v:=(i64 (Sh.w (i+1)))) Ac U (KJ U) ?_
        have htc:i < (d.cons.length:Int):=of_decide_eq_true b33
        have hw1:Sh.w (i+1)=i+1:=Go.Abs.wrap_i64 (by omega) (by omega)
        have ht2:Int.toNat (Sh.w (i+1))=Int.toNat i+1:=by rw[hw1];omega
        exact AE (Exists.intro (Sh.w (i+1),Sh.put q i (BP.mk f)) (And.intro ⟨h2,by rw[Sh.Az];exact hlq,by rw[hw1];omega,by rw[hw1];omega⟩ ((AS (L:=[(3,(.own 0 0 (List.length q9))),(4,(i64 t)),(10,(.own 0 0 (List.length q9))),(11,(i64 (Sh.len q9))),(12,(i64 t)),(25,(ls BR d.cons)),(26,(i64 (Sh.len d.cons))),(27,(i64 (Sh.w (i+1))))]) ⟨.rfl,.rfl,.rfl,.rfl,.rfl,.rfl,.rfl,.rfl,trivial⟩).trans (C9 (by rw[ht2]))))))
      have A_32:A 4 (bm 12 255) ⟨46,AL [(3,(BN q9)),(4,(i64 t)),(6,(i64 i)),(7,Cj),(10,(BN q9)),(11,(Fi q9)),(12,(i64 t)),(25,(Fb d)),(26,(Fl d)),(27,(i64 i)),(32,(BN q9)),(33,(i64 t)),(37,(i64 i)),(34,(H6 t)),(35,(Jl t)),(36,(Oj q21)),(38,Cj),(39,(Jf c))],(Ot t l d q21 i q c)⟩:=(hA _ _ _).2 (by
        refine xa [8] ⟨?_,trivial⟩
        · refine Da.of (i:=8) rfl U (by rfl) ?_
          refine BF (v':=(Oq f)) (st':=[(Q4 t l d q21),(Ol d),(Wb i q),(Ww c),(Wf f)]) Ac V9 (Bv gf) rfl U ⟨(BZ fun _=>U),trivial⟩ U U (AE ⟨U,?_⟩)
          exact An (AS (L:=[(3,(BN q9)),(4,(i64 t)),(6,(i64 i)),(7,Cj),(10,(BN q9)),(11,(Fi q9)),(12,(i64 t)),(25,(Fb d)),(26,(Fl d)),(27,(i64 i)),(32,(BN q9)),(33,(i64 t)),(37,(i64 i)),(34,(H6 t)),(35,(Jl t)),(36,(Oj q21)),(38,Cj),(39,(Jf c)),(40,(Oq f))]) ⟨.rfl,.rfl,.rfl,.rfl,.rfl,.rfl,.rfl,.rfl,.rfl,.rfl,.rfl,.rfl,.rfl,.rfl,.rfl,.rfl,.rfl,.rfl,.rfl,trivial⟩) (Ax (by kernel_rfl) ((hA _ _ _).1 A_33)) rfl)
      have A_23:A 4 (bm 12 495) ⟨46,AL [(3,(BN q9)),(4,(i64 t)),(6,(i64 i)),(7,Cj),(10,(BN q9)),(11,(Fi q9)),(12,(i64 t)),(25,(Fb d)),(26,(Fl d)),(27,(i64 i)),(32,(BN q9)),(33,(i64 t)),(37,(i64 i)),(34,(H6 t)),(35,(Jl t)),(38,Cj),(39,(Jf c)),(40,(Oq f))],[(Q4 t l d q21),(Ol d),(Wb i q),(Ww c),(Wf f)]⟩:=(hA _ _ _).2 (by
        refine xa [4] ⟨?_,trivial⟩
        · refine Da.of (i:=4) rfl U (by rfl) ?_
          refine BH (v:=(Oj q21)) Ac U (CZ PA U U (List.getElem?_set_self hkl) rfl) (AE ⟨U,?_⟩)
          exact An (AS (L:=[(3,(BN q9)),(4,(i64 t)),(6,(i64 i)),(7,Cj),(10,(BN q9)),(11,(Fi q9)),(12,(i64 t)),(25,(Fb d)),(26,(Fl d)),(27,(i64 i)),(32,(BN q9)),(33,(i64 t)),(37,(i64 i)),(34,(H6 t)),(35,(Jl t)),(36,(Oj q21)),(38,Cj),(39,(Jf c)),(40,(Oq f))]) ⟨.rfl,.rfl,.rfl,.rfl,.rfl,.rfl,.rfl,.rfl,.rfl,.rfl,.rfl,.rfl,.rfl,.rfl,.rfl,.rfl,.rfl,.rfl,.rfl,trivial⟩) (Ax (by kernel_rfl) ((hA _ _ _).1 A_33)) rfl)
      have A_31:A 5 (bm 12 127) ⟨46,AL [(3,(BN q9)),(4,(i64 t)),(6,(i64 i)),(7,Cj),(10,(BN q9)),(11,(Fi q9)),(12,(i64 t)),(25,(Fb d)),(26,(Fl d)),(27,(i64 i)),(32,(BN q9)),(33,(i64 t)),(37,(i64 i)),(34,(H6 t)),(35,(Jl t)),(36,(Oj q21)),(38,Cj)],(Ot t l d q21 i q c)⟩:=(hA _ _ _).2 (by
        refine xa [7] ⟨?_,trivial⟩
        · refine Da.of (i:=7) rfl U (by rfl) ?_
          refine BH (v:=(Jf c)) Ac U (CZ H3 U U U U) (AE ⟨U,?_⟩)
          exact An (AS (L:=[(3,(BN q9)),(4,(i64 t)),(6,(i64 i)),(7,Cj),(10,(BN q9)),(11,(Fi q9)),(12,(i64 t)),(25,(Fb d)),(26,(Fl d)),(27,(i64 i)),(32,(BN q9)),(33,(i64 t)),(37,(i64 i)),(34,(H6 t)),(35,(Jl t)),(36,(Oj q21)),(38,Cj),(39,(Jf c))]) ⟨.rfl,.rfl,.rfl,.rfl,.rfl,.rfl,.rfl,.rfl,.rfl,.rfl,.rfl,.rfl,.rfl,.rfl,.rfl,.rfl,.rfl,.rfl,trivial⟩) (Ax (by kernel_rfl) ((hA _ _ _).1 A_32)) rfl)
      have A_22:A 5 (bm 12 239) ⟨46,AL [(3,(BN q9)),(4,(i64 t)),(6,(i64 i)),(7,Cj),(10,(BN q9)),(11,(Fi q9)),(12,(i64 t)),(25,(Fb d)),(26,(Fl d)),(27,(i64 i)),(32,(BN q9)),(33,(i64 t)),(37,(i64 i)),(34,(H6 t)),(35,(Jl t)),(38,Cj),(39,(Jf c))],(Ot t l d q21 i q c)⟩:=(hA _ _ _).2 (by
        refine xa [4,8] ⟨?_,?_,trivial⟩
        · refine Da.of (i:=4) rfl U (by rfl) ?_
          refine BH (v:=(Oj q21)) Ac U (CZ PA U U (List.getElem?_set_self hkl) rfl) (AE ⟨U,?_⟩)
          exact An (AS (L:=[(3,(BN q9)),(4,(i64 t)),(6,(i64 i)),(7,Cj),(10,(BN q9)),(11,(Fi q9)),(12,(i64 t)),(25,(Fb d)),(26,(Fl d)),(27,(i64 i)),(32,(BN q9)),(33,(i64 t)),(37,(i64 i)),(34,(H6 t)),(35,(Jl t)),(36,(Oj q21)),(38,Cj),(39,(Jf c))]) ⟨.rfl,.rfl,.rfl,.rfl,.rfl,.rfl,.rfl,.rfl,.rfl,.rfl,.rfl,.rfl,.rfl,.rfl,.rfl,.rfl,.rfl,.rfl,trivial⟩) (Ax (by kernel_rfl) ((hA _ _ _).1 A_32)) rfl
        · refine Da.of (i:=8) rfl U (by rfl) ?_
          refine BF (v':=(Oq f)) (st':=[(Q4 t l d q21),(Ol d),(Wb i q),(Ww c),(Wf f)]) Ac V9 (Bv gf) rfl U ⟨(BZ fun _=>U),trivial⟩ U U (AE ⟨U,?_⟩)
          exact An (AS (L:=[(3,(BN q9)),(4,(i64 t)),(6,(i64 i)),(7,Cj),(10,(BN q9)),(11,(Fi q9)),(12,(i64 t)),(25,(Fb d)),(26,(Fl d)),(27,(i64 i)),(32,(BN q9)),(33,(i64 t)),(37,(i64 i)),(34,(H6 t)),(35,(Jl t)),(38,Cj),(39,(Jf c)),(40,(Oq f))]) ⟨.rfl,.rfl,.rfl,.rfl,.rfl,.rfl,.rfl,.rfl,.rfl,.rfl,.rfl,.rfl,.rfl,.rfl,.rfl,.rfl,.rfl,.rfl,trivial⟩) (Ax (by kernel_rfl) ((hA _ _ _).1 A_23)) rfl)
      have A_13:A 5 (bm 12 487) ⟨46,AL [(3,(BN q9)),(4,(i64 t)),(6,(i64 i)),(7,Cj),(10,(BN q9)),(11,(Fi q9)),(12,(i64 t)),(25,(Fb d)),(26,(Fl d)),(27,(i64 i)),(32,(BN q9)),(33,(i64 t)),(37,(i64 i)),(34,(H6 t)),(38,Cj),(39,(Jf c)),(40,(Oq f))],[(Q4 t l d q21),(Ol d),(Wb i q),(Ww c),(Wf f)]⟩:=(hA _ _ _).2 (by
        refine xa [3] ⟨?_,trivial⟩
        · refine Da.of (i:=3) rfl U (by rfl) ?_
          refine BH (v:=(Jl t)) Ac U (Hu MZ U U (show 0+2≤3 by decide) rfl) (AE ⟨U,?_⟩)
          exact An (AS (L:=[(3,(BN q9)),(4,(i64 t)),(6,(i64 i)),(7,Cj),(10,(BN q9)),(11,(Fi q9)),(12,(i64 t)),(25,(Fb d)),(26,(Fl d)),(27,(i64 i)),(32,(BN q9)),(33,(i64 t)),(37,(i64 i)),(34,(H6 t)),(35,(Jl t)),(38,Cj),(39,(Jf c)),(40,(Oq f))]) ⟨.rfl,.rfl,.rfl,.rfl,.rfl,.rfl,.rfl,.rfl,.rfl,.rfl,.rfl,.rfl,.rfl,.rfl,.rfl,.rfl,.rfl,.rfl,trivial⟩) (Ax (by kernel_rfl) ((hA _ _ _).1 A_23)) rfl)
      have A_30:A 6 (bm 12 63) ⟨46,AL [(3,(BN q9)),(4,(i64 t)),(6,(i64 i)),(7,Cj),(10,(BN q9)),(11,(Fi q9)),(12,(i64 t)),(25,(Fb d)),(26,(Fl d)),(27,(i64 i)),(32,(BN q9)),(33,(i64 t)),(37,(i64 i)),(34,(H6 t)),(35,(Jl t)),(36,(Oj q21))],(Ot t l d q21 i q c)⟩:=(hA _ _ _).2 (by
        refine xa [6] ⟨?_,trivial⟩
        · refine Da.of (i:=6) rfl U (by rfl) ?_
          refine BH (v:=Cj) Ac U (Hu Na U U (show 0+0≤1 by decide) rfl) (AE ⟨U,?_⟩)
          exact An (AS (L:=[(3,(BN q9)),(4,(i64 t)),(6,(i64 i)),(7,Cj),(10,(BN q9)),(11,(Fi q9)),(12,(i64 t)),(25,(Fb d)),(26,(Fl d)),(27,(i64 i)),(32,(BN q9)),(33,(i64 t)),(37,(i64 i)),(34,(H6 t)),(35,(Jl t)),(36,(Oj q21)),(38,Cj)]) ⟨.rfl,.rfl,.rfl,.rfl,.rfl,.rfl,.rfl,.rfl,.rfl,.rfl,.rfl,.rfl,.rfl,.rfl,.rfl,.rfl,.rfl,trivial⟩) (Ax (by kernel_rfl) ((hA _ _ _).1 A_31)) rfl)
      have A_21:A 6 (bm 12 111) ⟨46,AL [(3,(BN q9)),(4,(i64 t)),(6,(i64 i)),(7,Cj),(10,(BN q9)),(11,(Fi q9)),(12,(i64 t)),(25,(Fb d)),(26,(Fl d)),(27,(i64 i)),(32,(BN q9)),(33,(i64 t)),(37,(i64 i)),(34,(H6 t)),(35,(Jl t)),(38,Cj)],(Ot t l d q21 i q c)⟩:=(hA _ _ _).2 (by
        refine xa [4,7] ⟨?_,?_,trivial⟩
        · refine Da.of (i:=4) rfl U (by rfl) ?_
          refine BH (v:=(Oj q21)) Ac U (CZ PA U U (List.getElem?_set_self hkl) rfl) (AE ⟨U,?_⟩)
          exact An (AS (L:=[(3,(BN q9)),(4,(i64 t)),(6,(i64 i)),(7,Cj),(10,(BN q9)),(11,(Fi q9)),(12,(i64 t)),(25,(Fb d)),(26,(Fl d)),(27,(i64 i)),(32,(BN q9)),(33,(i64 t)),(37,(i64 i)),(34,(H6 t)),(35,(Jl t)),(36,(Oj q21)),(38,Cj)]) ⟨.rfl,.rfl,.rfl,.rfl,.rfl,.rfl,.rfl,.rfl,.rfl,.rfl,.rfl,.rfl,.rfl,.rfl,.rfl,.rfl,.rfl,trivial⟩) (Ax (by kernel_rfl) ((hA _ _ _).1 A_31)) rfl
        · refine Da.of (i:=7) rfl U (by rfl) ?_
          refine BH (v:=(Jf c)) Ac U (CZ H3 U U U U) (AE ⟨U,?_⟩)
          exact An (AS (L:=[(3,(BN q9)),(4,(i64 t)),(6,(i64 i)),(7,Cj),(10,(BN q9)),(11,(Fi q9)),(12,(i64 t)),(25,(Fb d)),(26,(Fl d)),(27,(i64 i)),(32,(BN q9)),(33,(i64 t)),(37,(i64 i)),(34,(H6 t)),(35,(Jl t)),(38,Cj),(39,(Jf c))]) ⟨.rfl,.rfl,.rfl,.rfl,.rfl,.rfl,.rfl,.rfl,.rfl,.rfl,.rfl,.rfl,.rfl,.rfl,.rfl,.rfl,.rfl,trivial⟩) (Ax (by kernel_rfl) ((hA _ _ _).1 A_22)) rfl)
      have A_12:A 6 (bm 12 231) ⟨46,AL [(3,(BN q9)),(4,(i64 t)),(6,(i64 i)),(7,Cj),(10,(BN q9)),(11,(Fi q9)),(12,(i64 t)),(25,(Fb d)),(26,(Fl d)),(27,(i64 i)),(32,(BN q9)),(33,(i64 t)),(37,(i64 i)),(34,(H6 t)),(38,Cj),(39,(Jf c))],(Ot t l d q21 i q c)⟩:=(hA _ _ _).2 (by
        refine xa [3,8] ⟨?_,?_,trivial⟩
        · refine Da.of (i:=3) rfl U (by rfl) ?_
          refine BH (v:=(Jl t)) Ac U (Hu MZ U U (show 0+2≤3 by decide) rfl) (AE ⟨U,?_⟩)
          exact An (AS (L:=[(3,(BN q9)),(4,(i64 t)),(6,(i64 i)),(7,Cj),(10,(BN q9)),(11,(Fi q9)),(12,(i64 t)),(25,(Fb d)),(26,(Fl d)),(27,(i64 i)),(32,(BN q9)),(33,(i64 t)),(37,(i64 i)),(34,(H6 t)),(35,(Jl t)),(38,Cj),(39,(Jf c))]) ⟨.rfl,.rfl,.rfl,.rfl,.rfl,.rfl,.rfl,.rfl,.rfl,.rfl,.rfl,.rfl,.rfl,.rfl,.rfl,.rfl,.rfl,trivial⟩) (Ax (by kernel_rfl) ((hA _ _ _).1 A_22)) rfl
        · refine Da.of (i:=8) rfl U (by rfl) ?_
          refine BF (v':=(Oq f)) (st':=[(Q4 t l d q21),(Ol d),(Wb i q),(Ww c),(Wf f)]) Ac V9 (Bv gf) rfl U ⟨(BZ fun _=>U),trivial⟩ U U (AE ⟨U,?_⟩)
          exact An (AS (L:=[(3,(BN q9)),(4,(i64 t)),(6,(i64 i)),(7,Cj),(10,(BN q9)),(11,(Fi q9)),(12,(i64 t)),(25,(Fb d)),(26,(Fl d)),(27,(i64 i)),(32,(BN q9)),(33,(i64 t)),(37,(i64 i)),(34,(H6 t)),(38,Cj),(39,(Jf c)),(40,(Oq f))]) ⟨.rfl,.rfl,.rfl,.rfl,.rfl,.rfl,.rfl,.rfl,.rfl,.rfl,.rfl,.rfl,.rfl,.rfl,.rfl,.rfl,.rfl,trivial⟩) (Ax (by kernel_rfl) ((hA _ _ _).1 A_13)) rfl)
      have A_03:A 6 (bm 12 483) ⟨46,AL [(3,(BN q9)),(4,(i64 t)),(6,(i64 i)),(7,Cj),(10,(BN q9)),(11,(Fi q9)),(12,(i64 t)),(25,(Fb d)),(26,(Fl d)),(27,(i64 i)),(32,(BN q9)),(33,(i64 t)),(37,(i64 i)),(38,Cj),(39,(Jf c)),(40,(Oq f))],[(Q4 t l d q21),(Ol d),(Wb i q),(Ww c),(Wf f)]⟩:=(hA _ _ _).2 (by
        refine xa [2] ⟨?_,trivial⟩
        · refine Da.of (i:=2) rfl U (by rfl) ?_
          refine BH (v:=(.ptr 0 0 (Int.toNat t) 0)) Ac U (Mo DO U U U ht0 htl (by first | rfl | (rw[Fg];omega) | (simp[Fg];omega))) (AE ⟨U,?_⟩)
          exact An (AS (L:=[(3,(BN q9)),(4,(i64 t)),(6,(i64 i)),(7,Cj),(10,(BN q9)),(11,(Fi q9)),(12,(i64 t)),(25,(Fb d)),(26,(Fl d)),(27,(i64 i)),(32,(BN q9)),(33,(i64 t)),(37,(i64 i)),(34,(H6 t)),(38,Cj),(39,(Jf c)),(40,(Oq f))]) ⟨.rfl,.rfl,.rfl,.rfl,.rfl,.rfl,.rfl,.rfl,.rfl,.rfl,.rfl,.rfl,.rfl,.rfl,.rfl,.rfl,.rfl,trivial⟩) (Ax (by kernel_rfl) ((hA _ _ _).1 A_13)) rfl)
      have A_20:A 7 (bm 12 47) ⟨46,AL [(3,(BN q9)),(4,(i64 t)),(6,(i64 i)),(7,Cj),(10,(BN q9)),(11,(Fi q9)),(12,(i64 t)),(25,(Fb d)),(26,(Fl d)),(27,(i64 i)),(32,(BN q9)),(33,(i64 t)),(37,(i64 i)),(34,(H6 t)),(35,(Jl t))],(Ot t l d q21 i q c)⟩:=(hA _ _ _).2 (by
        refine xa [4,6] ⟨?_,?_,trivial⟩
        · refine Da.of (i:=4) rfl U (by rfl) ?_
          refine BH (v:=(Oj q21)) Ac U (CZ PA U U (List.getElem?_set_self hkl) rfl) (AE ⟨U,?_⟩)
          exact An (AS (L:=[(3,(BN q9)),(4,(i64 t)),(6,(i64 i)),(7,Cj),(10,(BN q9)),(11,(Fi q9)),(12,(i64 t)),(25,(Fb d)),(26,(Fl d)),(27,(i64 i)),(32,(BN q9)),(33,(i64 t)),(37,(i64 i)),(34,(H6 t)),(35,(Jl t)),(36,(Oj q21))]) ⟨.rfl,.rfl,.rfl,.rfl,.rfl,.rfl,.rfl,.rfl,.rfl,.rfl,.rfl,.rfl,.rfl,.rfl,.rfl,.rfl,trivial⟩) (Ax (by kernel_rfl) ((hA _ _ _).1 A_30)) rfl
        · refine Da.of (i:=6) rfl U (by rfl) ?_
          refine BH (v:=Cj) Ac U (Hu Na U U (show 0+0≤1 by decide) rfl) (AE ⟨U,?_⟩)
          exact An (AS (L:=[(3,(BN q9)),(4,(i64 t)),(6,(i64 i)),(7,Cj),(10,(BN q9)),(11,(Fi q9)),(12,(i64 t)),(25,(Fb d)),(26,(Fl d)),(27,(i64 i)),(32,(BN q9)),(33,(i64 t)),(37,(i64 i)),(34,(H6 t)),(35,(Jl t)),(38,Cj)]) ⟨.rfl,.rfl,.rfl,.rfl,.rfl,.rfl,.rfl,.rfl,.rfl,.rfl,.rfl,.rfl,.rfl,.rfl,.rfl,.rfl,trivial⟩) (Ax (by kernel_rfl) ((hA _ _ _).1 A_21)) rfl)
      have A_11:A 7 (bm 12 103) ⟨46,AL [(3,(BN q9)),(4,(i64 t)),(6,(i64 i)),(7,Cj),(10,(BN q9)),(11,(Fi q9)),(12,(i64 t)),(25,(Fb d)),(26,(Fl d)),(27,(i64 i)),(32,(BN q9)),(33,(i64 t)),(37,(i64 i)),(34,(H6 t)),(38,Cj)],(Ot t l d q21 i q c)⟩:=(hA _ _ _).2 (by
        refine xa [3,7] ⟨?_,?_,trivial⟩
        · refine Da.of (i:=3) rfl U (by rfl) ?_
          refine BH (v:=(Jl t)) Ac U (Hu MZ U U (show 0+2≤3 by decide) rfl) (AE ⟨U,?_⟩)
          exact An (AS (L:=[(3,(BN q9)),(4,(i64 t)),(6,(i64 i)),(7,Cj),(10,(BN q9)),(11,(Fi q9)),(12,(i64 t)),(25,(Fb d)),(26,(Fl d)),(27,(i64 i)),(32,(BN q9)),(33,(i64 t)),(37,(i64 i)),(34,(H6 t)),(35,(Jl t)),(38,Cj)]) ⟨.rfl,.rfl,.rfl,.rfl,.rfl,.rfl,.rfl,.rfl,.rfl,.rfl,.rfl,.rfl,.rfl,.rfl,.rfl,.rfl,trivial⟩) (Ax (by kernel_rfl) ((hA _ _ _).1 A_21)) rfl
        · refine Da.of (i:=7) rfl U (by rfl) ?_
          refine BH (v:=(Jf c)) Ac U (CZ H3 U U U U) (AE ⟨U,?_⟩)
          exact An (AS (L:=[(3,(BN q9)),(4,(i64 t)),(6,(i64 i)),(7,Cj),(10,(BN q9)),(11,(Fi q9)),(12,(i64 t)),(25,(Fb d)),(26,(Fl d)),(27,(i64 i)),(32,(BN q9)),(33,(i64 t)),(37,(i64 i)),(34,(H6 t)),(38,Cj),(39,(Jf c))]) ⟨.rfl,.rfl,.rfl,.rfl,.rfl,.rfl,.rfl,.rfl,.rfl,.rfl,.rfl,.rfl,.rfl,.rfl,.rfl,.rfl,trivial⟩) (Ax (by kernel_rfl) ((hA _ _ _).1 A_12)) rfl)
      have A_02:A 7 (bm 12 227) ⟨46,AL [(3,(BN q9)),(4,(i64 t)),(6,(i64 i)),(7,Cj),(10,(BN q9)),(11,(Fi q9)),(12,(i64 t)),(25,(Fb d)),(26,(Fl d)),(27,(i64 i)),(32,(BN q9)),(33,(i64 t)),(37,(i64 i)),(38,Cj),(39,(Jf c))],(Ot t l d q21 i q c)⟩:=(hA _ _ _).2 (by
        refine xa [2,8] ⟨?_,?_,trivial⟩
        · refine Da.of (i:=2) rfl U (by rfl) ?_
          refine BH (v:=(.ptr 0 0 (Int.toNat t) 0)) Ac U (Mo DO U U U ht0 htl (by first | rfl | (rw[Fg];omega) | (simp[Fg];omega))) (AE ⟨U,?_⟩)
          exact An (AS (L:=[(3,(BN q9)),(4,(i64 t)),(6,(i64 i)),(7,Cj),(10,(BN q9)),(11,(Fi q9)),(12,(i64 t)),(25,(Fb d)),(26,(Fl d)),(27,(i64 i)),(32,(BN q9)),(33,(i64 t)),(37,(i64 i)),(34,(H6 t)),(38,Cj),(39,(Jf c))]) ⟨.rfl,.rfl,.rfl,.rfl,.rfl,.rfl,.rfl,.rfl,.rfl,.rfl,.rfl,.rfl,.rfl,.rfl,.rfl,.rfl,trivial⟩) (Ax (by kernel_rfl) ((hA _ _ _).1 A_12)) rfl
        · refine Da.of (i:=8) rfl U (by rfl) ?_
          refine BF (v':=(Oq f)) (st':=[(Q4 t l d q21),(Ol d),(Wb i q),(Ww c),(Wf f)]) Ac V9 (Bv gf) rfl U ⟨(BZ fun _=>U),trivial⟩ U U (AE ⟨U,?_⟩)
          exact An (AS (L:=[(3,(BN q9)),(4,(i64 t)),(6,(i64 i)),(7,Cj),(10,(BN q9)),(11,(Fi q9)),(12,(i64 t)),(25,(Fb d)),(26,(Fl d)),(27,(i64 i)),(32,(BN q9)),(33,(i64 t)),(37,(i64 i)),(38,Cj),(39,(Jf c)),(40,(Oq f))]) ⟨.rfl,.rfl,.rfl,.rfl,.rfl,.rfl,.rfl,.rfl,.rfl,.rfl,.rfl,.rfl,.rfl,.rfl,.rfl,.rfl,trivial⟩) (Ax (by kernel_rfl) ((hA _ _ _).1 A_03)) rfl)
      have A_10:A 8 (bm 12 39) ⟨46,AL [(3,(BN q9)),(4,(i64 t)),(6,(i64 i)),(7,Cj),(10,(BN q9)),(11,(Fi q9)),(12,(i64 t)),(25,(Fb d)),(26,(Fl d)),(27,(i64 i)),(32,(BN q9)),(33,(i64 t)),(37,(i64 i)),(34,(H6 t))],(Ot t l d q21 i q c)⟩:=(hA _ _ _).2 (by
        refine xa [3,6] ⟨?_,?_,trivial⟩
        · refine Da.of (i:=3) rfl U (by rfl) ?_
          refine BH (v:=(Jl t)) Ac U (Hu MZ U U (show 0+2≤3 by decide) rfl) (AE ⟨U,?_⟩)
          exact An (AS (L:=[(3,(BN q9)),(4,(i64 t)),(6,(i64 i)),(7,Cj),(10,(BN q9)),(11,(Fi q9)),(12,(i64 t)),(25,(Fb d)),(26,(Fl d)),(27,(i64 i)),(32,(BN q9)),(33,(i64 t)),(37,(i64 i)),(34,(H6 t)),(35,(Jl t))]) ⟨.rfl,.rfl,.rfl,.rfl,.rfl,.rfl,.rfl,.rfl,.rfl,.rfl,.rfl,.rfl,.rfl,.rfl,.rfl,trivial⟩) (Ax (by kernel_rfl) ((hA _ _ _).1 A_20)) rfl
        · refine Da.of (i:=6) rfl U (by rfl) ?_
          refine BH (v:=Cj) Ac U (Hu Na U U (show 0+0≤1 by decide) rfl) (AE ⟨U,?_⟩)
          exact An (AS (L:=[(3,(BN q9)),(4,(i64 t)),(6,(i64 i)),(7,Cj),(10,(BN q9)),(11,(Fi q9)),(12,(i64 t)),(25,(Fb d)),(26,(Fl d)),(27,(i64 i)),(32,(BN q9)),(33,(i64 t)),(37,(i64 i)),(34,(H6 t)),(38,Cj)]) ⟨.rfl,.rfl,.rfl,.rfl,.rfl,.rfl,.rfl,.rfl,.rfl,.rfl,.rfl,.rfl,.rfl,.rfl,.rfl,trivial⟩) (Ax (by kernel_rfl) ((hA _ _ _).1 A_11)) rfl)
      have A_01:A 8 (bm 12 99) ⟨46,AL [(3,(BN q9)),(4,(i64 t)),(6,(i64 i)),(7,Cj),(10,(BN q9)),(11,(Fi q9)),(12,(i64 t)),(25,(Fb d)),(26,(Fl d)),(27,(i64 i)),(32,(BN q9)),(33,(i64 t)),(37,(i64 i)),(38,Cj)],(Ot t l d q21 i q c)⟩:=(hA _ _ _).2 (by
        refine xa [2,7] ⟨?_,?_,trivial⟩
        · refine Da.of (i:=2) rfl U (by rfl) ?_
          refine BH (v:=(.ptr 0 0 (Int.toNat t) 0)) Ac U (Mo DO U U U ht0 htl (by first | rfl | (rw[Fg];omega) | (simp[Fg];omega))) (AE ⟨U,?_⟩)
          exact An (AS (L:=[(3,(BN q9)),(4,(i64 t)),(6,(i64 i)),(7,Cj),(10,(BN q9)),(11,(Fi q9)),(12,(i64 t)),(25,(Fb d)),(26,(Fl d)),(27,(i64 i)),(32,(BN q9)),(33,(i64 t)),(37,(i64 i)),(34,(H6 t)),(38,Cj)]) ⟨.rfl,.rfl,.rfl,.rfl,.rfl,.rfl,.rfl,.rfl,.rfl,.rfl,.rfl,.rfl,.rfl,.rfl,.rfl,trivial⟩) (Ax (by kernel_rfl) ((hA _ _ _).1 A_11)) rfl
        · refine Da.of (i:=7) rfl U (by rfl) ?_
          refine BH (v:=(Jf c)) Ac U (CZ H3 U U U U) (AE ⟨U,?_⟩)
          exact An (AS (L:=[(3,(BN q9)),(4,(i64 t)),(6,(i64 i)),(7,Cj),(10,(BN q9)),(11,(Fi q9)),(12,(i64 t)),(25,(Fb d)),(26,(Fl d)),(27,(i64 i)),(32,(BN q9)),(33,(i64 t)),(37,(i64 i)),(38,Cj),(39,(Jf c))]) ⟨.rfl,.rfl,.rfl,.rfl,.rfl,.rfl,.rfl,.rfl,.rfl,.rfl,.rfl,.rfl,.rfl,.rfl,.rfl,trivial⟩) (Ax (by kernel_rfl) ((hA _ _ _).1 A_02)) rfl)
      have A_00:A 9 (bm 12 35) ⟨46,AL [(3,(BN q9)),(4,(i64 t)),(6,(i64 i)),(7,Cj),(10,(BN q9)),(11,(Fi q9)),(12,(i64 t)),(25,(Fb d)),(26,(Fl d)),(27,(i64 i)),(32,(BN q9)),(33,(i64 t)),(37,(i64 i))],(Ot t l d q21 i q c)⟩:=(hA _ _ _).2 (by
        refine xa [2,6] ⟨?_,?_,trivial⟩
        · refine Da.of (i:=2) rfl U (by rfl) ?_
          refine BH (v:=(.ptr 0 0 (Int.toNat t) 0)) Ac U (Mo DO U U U ht0 htl (by first | rfl | (rw[Fg];omega) | (simp[Fg];omega))) (AE ⟨U,?_⟩)
          exact An (AS (L:=[(3,(BN q9)),(4,(i64 t)),(6,(i64 i)),(7,Cj),(10,(BN q9)),(11,(Fi q9)),(12,(i64 t)),(25,(Fb d)),(26,(Fl d)),(27,(i64 i)),(32,(BN q9)),(33,(i64 t)),(37,(i64 i)),(34,(H6 t))]) ⟨.rfl,.rfl,.rfl,.rfl,.rfl,.rfl,.rfl,.rfl,.rfl,.rfl,.rfl,.rfl,.rfl,.rfl,trivial⟩) (Ax (by kernel_rfl) ((hA _ _ _).1 A_10)) rfl
        · refine Da.of (i:=6) rfl U (by rfl) ?_
          refine BH (v:=Cj) Ac U (Hu Na U U (show 0+0≤1 by decide) rfl) (AE ⟨U,?_⟩)
          exact An (AS (L:=[(3,(BN q9)),(4,(i64 t)),(6,(i64 i)),(7,Cj),(10,(BN q9)),(11,(Fi q9)),(12,(i64 t)),(25,(Fb d)),(26,(Fl d)),(27,(i64 i)),(32,(BN q9)),(33,(i64 t)),(37,(i64 i)),(38,Cj)]) ⟨.rfl,.rfl,.rfl,.rfl,.rfl,.rfl,.rfl,.rfl,.rfl,.rfl,.rfl,.rfl,.rfl,.rfl,trivial⟩) (Ax (by kernel_rfl) ((hA _ _ _).1 A_01)) rfl)
      have B_2:A 10 (bm 12 3) ⟨46,AL [(3,(BN q9)),(4,(i64 t)),(6,(i64 i)),(7,Cj),(10,(BN q9)),(11,(Fi q9)),(12,(i64 t)),(25,(Fb d)),(26,(Fl d)),(27,(i64 i)),(32,(BN q9)),(33,(i64 t))],(Ot t l d q21 i q c)⟩:=(hA _ _ _).2 (by
        refine Bq 5 (v:=(i64 i)) rfl U (by kernel_rfl) (by kernel_rfl) (by kernel_rfl) rfl (CR U) ?_
        exact An (AS (L:=[(3,(BN q9)),(4,(i64 t)),(6,(i64 i)),(7,Cj),(10,(BN q9)),(11,(Fi q9)),(12,(i64 t)),(25,(Fb d)),(26,(Fl d)),(27,(i64 i)),(32,(BN q9)),(33,(i64 t)),(37,(i64 i))]) ⟨.rfl,.rfl,.rfl,.rfl,.rfl,.rfl,.rfl,.rfl,.rfl,.rfl,.rfl,.rfl,.rfl,trivial⟩) (Ax (by kernel_rfl) ((hA _ _ _).1 A_00)) rfl)
      have B_1:A 11 (bm 12 1) ⟨46,AL [(3,(BN q9)),(4,(i64 t)),(6,(i64 i)),(7,Cj),(10,(BN q9)),(11,(Fi q9)),(12,(i64 t)),(25,(Fb d)),(26,(Fl d)),(27,(i64 i)),(32,(BN q9))],(Ot t l d q21 i q c)⟩:=(hA _ _ _).2 (by
        refine Bq 1 (v:=(i64 t)) rfl U (by kernel_rfl) (by kernel_rfl) (by kernel_rfl) rfl (CR U) ?_
        exact An (AS (L:=[(3,(BN q9)),(4,(i64 t)),(6,(i64 i)),(7,Cj),(10,(BN q9)),(11,(Fi q9)),(12,(i64 t)),(25,(Fb d)),(26,(Fl d)),(27,(i64 i)),(32,(BN q9)),(33,(i64 t))]) ⟨.rfl,.rfl,.rfl,.rfl,.rfl,.rfl,.rfl,.rfl,.rfl,.rfl,.rfl,.rfl,trivial⟩) (Ax (by kernel_rfl) ((hA _ _ _).1 B_2)) rfl)
      have B_0:A 12 (bm 12 0) ⟨46,AL [(3,(BN q9)),(4,(i64 t)),(6,(i64 i)),(7,Cj),(10,(BN q9)),(11,(Fi q9)),(12,(i64 t)),(25,(Fb d)),(26,(Fl d)),(27,(i64 i))],(Ot t l d q21 i q c)⟩:=(hA _ _ _).2 (by
        refine Bq 0 (v:=(BN q9)) rfl U (by kernel_rfl) (by kernel_rfl) (by kernel_rfl) rfl (CR U) ?_
        exact An (AS (L:=[(3,(BN q9)),(4,(i64 t)),(6,(i64 i)),(7,Cj),(10,(BN q9)),(11,(Fi q9)),(12,(i64 t)),(25,(Fb d)),(26,(Fl d)),(27,(i64 i)),(32,(BN q9))]) ⟨.rfl,.rfl,.rfl,.rfl,.rfl,.rfl,.rfl,.rfl,.rfl,.rfl,.rfl,trivial⟩) (Ax (by kernel_rfl) ((hA _ _ _).1 B_1)) rfl)
      exact (hA _ _ _).2 (Ax (by kernel_rfl) ((hA _ _ _).1 B_0))
    · replace h2:=Sh.av b33 h2
      have hfull:mix (CA 3) BR (Int.toNat i) q=List.map (CA 3) q:=Vn (by have h:=of_decide_eq_false b33;simp only[Sh.len] at h;omega)
      exact Ao (M22 q (Sh.AA h2).symm hlq _ ((AS (L:=[(3,(.own 0 0 (List.length q9))),(10,(.own 0 0 (List.length q9))),(11,(i64 (Sh.len q9))),(12,(i64 t))]) ⟨.rfl,.rfl,.rfl,.rfl,trivial⟩).trans (C9 (by rw[hfull]))))
  · replace h1:=Sh.av b13 h1
    have hfull:mix (Ad 111 3) AT (Int.toNat t) l=List.map (Ad 111 3) l:=Vn (by have h:=of_decide_eq_false b13;simp only[Sh.len] at h;omega)
    exact Ao (M9 l (Sh.AA h1).symm hll _ ((AS (L:=[(3,(.own 0 0 (List.length q9)))]) ⟨.rfl,trivial⟩).trans (C9 (by rw[hfull]))))
end Go.Proofs.YtpahalfiiahddaaGreat.Cl

