/- The copy of declarations: a row that owns all that lies under it. -/
import Derived.Test.YtihdgoiebmfapaaGreatCEWalk
import Derived.Test.YtihdgoiebmfapaaGreatGCloneDToCloneE
set_option linter.all false
namespace Go.Proofs.YtihdgoiebmfapaaGreat.Cl
noncomputable section
open Go Go.Abs RC
set_option maxRecDepth 100000
abbrev Rf (z0 z1:_)(z2:AL){α3:Type}(z3:List α3)(z4 z5:_)(z6:D6):=([⟨0,80,3,(mix (Bu 82 3) Ai (Int.toNat z0) z1).set (Int.toNat z0) [i64 z2.from_,i64 z2.to,.own 2 0 (List.length z3)]⟩,⟨0,80,3,[[i64 z2.from_,i64 z2.to,ls CM z2.cons]]⟩,⟨0,82,1,mix (Hw 3) CM (Int.toNat z4) z5⟩,⟨0,82,1,[[ls eI z6.fields]]⟩]:List Row)
abbrev Tr (z0 z1:_)(z2:AL){α3:Type}(z3:List α3):=(⟨0,80,3,(mix (Bu 82 3) Ai (Int.toNat z0) z1).set (Int.toNat z0) [i64 z2.from_,i64 z2.to,.own 2 0 (List.length z3)]⟩:Row)
abbrev FJ {α0:Type}(z0:List α0):=((.own 0 0 (List.length z0)):AV)
abbrev Rm (z0:AL):=(⟨0,80,3,[[i64 z0.from_,i64 z0.to,ls CM z0.cons]]⟩:Row)
abbrev Jn:=((.ptr 3 0 0 0):AV)
abbrev aM (z0 z1:_):=(⟨0,82,1,mix (Hw 3) CM (Int.toNat z0) z1⟩:Row)
abbrev Ns (z0:AL):=((i64 (Sh.len z0.cons)):AV)
abbrev bM (z0:D6):=(⟨0,82,1,[[ls eI z0.fields]]⟩:Row)
abbrev Mz (z0:AL):=((ls CM z0.cons):AV)
abbrev Ul z0:=((.ptr 0 0 (Int.toNat z0) 2):AV)
abbrev WX z0:=((.ptr 0 0 (Int.toNat z0) 0):AV)
abbrev Np {α0:Type}(z0:List α0):=((i64 (Sh.len z0)):AV)
set_option maxHeartbeats 4000000
theorem KM:Dd Tryz.prog 80=some (true,3):=by kernel_rfl
theorem P3:Dd Tryz.prog 82=some (true,1):=by kernel_rfl
theorem YF:Dd Tryz.prog 78=some (false,1):=by kernel_rfl
theorem LS:Dd Tryz.prog 32=some (false,1):=by kernel_rfl
theorem PI:IJ Tryz.prog 80 2=some 2:=by kernel_rfl
theorem TY:IJ Tryz.prog 82 0=some 0:=by kernel_rfl
theorem HW:II Tryz.prog 80=some [.int .i64 0,.int .i64 0,.zc]:=by kernel_rfl
theorem R3:II Tryz.prog 82=some [.zc]:=by kernel_rfl
theorem nE:Cp Tryz.prog 124=true:=by kernel_rfl
theorem mS:Cp Tryz.prog 125=true:=by kernel_rfl
theorem fS:Cp Tryz.prog 82=true:=by kernel_rfl
theorem Wz:True:=pA
theorem QD {N:Nat}{p0 r:List AL}(h0:IX N p0=some r):BJ Tryz.prog 90 [ls Ai p0] [] (λv st=>v=(FJ r)/\st=[⟨0,80,3,List.map (Bu 82 3) r⟩]):=by
  unfold IX at h0;refine BJ.intro Tryz.func90 AA (by show 1<=46;decide) ?_;show AW _ 0 _ (fa _ 0 Tryz.f90 _) ⟨46,_,_⟩;refine AG (Ag (L:=[(0,ls Ai p0)]) ⟨.rfl,pA⟩) ?_;refine AE λK1 hK1=>?_;refine AF (by rfl) ?_;refine BW (v:=.zc) AN AA (Va AA) ?_;refine AB (hK1 _ ?_);refine AE λK2 hK2=>?_;refine AF (by rfl) ?_;refine BW (v:=ls Ai p0) AN AA (BP AA) ?_;obtain⟨q9,gq9,h0⟩:=Sh.bind_some h0;refine Bo (v':=FJ q9) (st':=[⟨0,80,3,List.map Ai q9⟩]) AN nE (KQ gq9) rfl AA ⟨(Bq λ_=>AA),pA⟩ AA AA ?_;refine BW (v:=FJ q9) AN AA (Va AA) ?_;refine AB (hK2 _ ?_);have vo:q9.length<=9223372036854775807:=by
    unfold Db at gq9;obtain⟨x,hx,hs⟩:=Sh.bind_some gq9;unfold Sh.app at hx;split at hx
    · rename_i hb;simp only[pD]at hx hs;rw[<- hs,<- hx];simpa using hb.2
    · cases hx
  refine AE λK4 hK4=>?_;refine AE λK5 hK5=>?_;refine AF (by rfl) ?_;refine BW (v:=FJ q9) AN AA (BP AA) ?_;refine BW (v:=Np q9) AN AA (DD TZ AA AA AA) ?_;refine BW (v:=i64 0) AN AA (BP AA) ?_;refine AB (hK5 _ ?_);obtain⟨o9,h1,h0⟩:=Sh.bind_some h0;have M9:∀(l:List AL),o9=l->l.length=q9.length->∀s,Wk 0 s ⟨46,AP [(3,FJ q9)],[⟨0,80,3,List.map (Bu 82 3) l⟩]⟩->K4 s:=by
    intro l hq hlen s hw;subst o9;refine hK4 _ (AG hw ?_);refine AE λK10 hK10=>?_;refine AF (by rfl) ?_;refine BW (v:=FJ q9) AN AA (BP AA) ?_;refine BW (v:=FJ q9) AN AA (Va AA) ?_;refine AB (hK10 _ ?_);obtain rfl:=Sh.Bf h0;exact An (Exists.intro _ (And.intro (Ag (L:=[(2,.own 0 0 (List.length q9))]) ⟨.rfl,pA⟩) (And.intro (by show _=AV.own 0 0 l.length;rw[hlen];rfl) rfl)))
  refine AK (Am (σ:=Int×(List AL)) (λn v=>Em N (Sh.len q9) n v.1 v.2=some o9/\v.2.length=q9.length/\0<=v.1/\v.1<=q9.length) (λ(t,l)=>⟨46,AP [(3,.own 0 0 (List.length q9)),(10,.own 0 0 (List.length q9)),(11,i64 (Sh.len q9)),(12,i64 t)],[⟨0,80,3,mix (Bu 82 3) Ai (Int.toNat t) l⟩]⟩) N (0,q9) ⟨h1,AA,tK _,sN _⟩ ((Ag (L:=[(3,.own 0 0 (List.length q9)),(10,.own 0 0 (List.length q9)),(11,i64 (Sh.len q9)),(12,i64 0)]) ⟨.rfl,.rfl,.rfl,.rfl,pA⟩).trans (GF (by rw[show Int.toNat 0=0 from AA,Zd]))) (λ_ hv=>by have hv:=hv.1;rw[Em]at hv;cases hv) ?_);rintro n ⟨t,l⟩ ⟨h1,zM,ht0,ht1⟩;try dsimp only at h1 zM ht0 ht1⊢
  rw[Em]at h1;refine AE λK11 hK11=>?_;refine AF (by rfl) ?_;refine BW (v:=.bool (decide (t<Sh.len q9))) AN AA (eR AA AA) ?_;refine AB (hK11 _ ?_);refine AE λK12 hK12=>?_;refine G3 (b:=decide (t<Sh.len q9)) rfl (λb13=>?_) (λb13=>?_)
  · replace h1:=Sh.kQ b13 h1;refine AH (hK12 _ ?_);have yi:t<(q9.length:Int):=qm b13;obtain⟨d,gd,h1⟩:=Sh.bind_some h1;obtain⟨vC,gq21,h1⟩:=Sh.bind_some h1;obtain⟨o22,h2,h1⟩:=Sh.bind_some h1;have uF:l[Int.toNat t]?=some d:=by have h:=gd;unfold Sh.get at h;rw[pJ ht0]at h;exact h
    have xz:Int.toNat t<(mix (Bu 82 3) Ai (Int.toNat t) l).length:=by rw[HI];exact (pB.1 uF).1
    have hpd:DG (mix (Bu 82 3) Ai (Int.toNat t) l):=Uj (λ_=>rfl) (λ_=>rfl);refine AE λK14 hK14=>?_;refine AK ?_;refine AE λK15 hK15=>?_;refine AF (by rfl) ?_;refine BW (v:=i64 t) AN AA (BP AA) ?_;refine BW (v:=.ptr 0 0 (Int.toNat t) 0) AN AA (PR DK AA AA AA ht0 yi (by first|rfl|(rw[HI];omega)|(simp[HI];omega))) ?_;refine BW (v:=.agg [i64 d.from_,i64 d.to,Mz d]) AN AA (Cq KM AA AA (YN uF) tL rfl) ?_;refine Oa (m:=1) (st':=[⟨0,80,3,mix (Bu 82 3) Ai (Int.toNat t) l⟩,⟨0,80,3,[[i64 0,i64 0,.zc]]⟩]) AN HW AA AA ?_;refine BW (v:=i64 t) AN AA (Va AA) ?_;refine L6 (st':=[⟨0,80,3,mix (Bu 82 3) Ai (Int.toNat t) l⟩,Rm d]) AN KM AA AA AA AA AA AA tL rfl ?_;refine AB (hK15 _ ?_);refine AE λK16 hK16=>?_;refine AF (by rfl) ?_;refine BW (v:=FJ q9) AN AA (BP AA) ?_;refine BW (v:=i64 t) AN AA (BP AA) ?_;refine BW (v:=.ptr 1 0 0 2) AN AA (FT PI AA AA tQ rfl) ?_;refine BW (v:=Mz d) AN AA (CG YF AA AA AA AA) ?_;refine Bo (v':=.own 2 0 (List.length vC)) (st':=[⟨0,80,3,mix (Bu 82 3) Ai (Int.toNat t) l⟩,Rm d,⟨0,82,1,List.map CM vC⟩]) AN mS (Ks gq21) rfl AA ⟨(Bq λ_=>AA),pA⟩ AA AA ?_;refine BW (v:=.ptr 0 0 (Int.toNat t) 0) AN AA (PR DK AA AA AA ht0 yi (by first|rfl|(rw[HI];omega)|(simp[HI];omega))) ?_;refine BW (v:=Ul t) AN AA (FT PI AA AA tQ rfl) ?_;refine L6 (st':=[Tr t l d vC,Rm d,⟨0,82,1,List.map CM vC⟩]) AN YF AA AA (YN uF) rfl AA AA (show 2+1<=3 by decide) rfl ?_;refine AB (hK16 _ ?_);refine AE λK17 hK17=>?_;refine AF (by rfl) ?_;refine BW (v:=.ptr 1 0 0 2) AN AA (FT PI AA AA tQ rfl) ?_;refine BW (v:=Mz d) AN AA (CG YF AA AA AA AA) ?_;refine BW (v:=Ns d) AN AA (CU Qa AA) ?_;refine BW (v:=i64 0) AN AA (BP AA) ?_;refine AB (hK17 _ ?_);have M22:∀(q:List D6),o22=q->q.length=vC.length->∀s,Wk 0 s ⟨46,AP [(3,FJ q9),(10,FJ q9),(11,Np q9),(12,i64 t)],[Tr t l d vC,Rm d,⟨0,82,1,List.map (Hw 3) q⟩]⟩->K14 s:=by
      intro q hq hlq s hw;subst o22;refine hK14 _ (AG hw ?_);have hmix:((mix (Bu 82 3) Ai (Int.toNat t) l).set (Int.toNat t) [i64 d.from_,i64 d.to,.own 2 0 (List.length vC)]).set (Int.toNat t) (Bu 82 3 (AL.mk d.from_ d.to q))=mix (Bu 82 3) Ai (Int.toNat t+1) (Sh.put l t (AL.mk d.from_ d.to q)):=by rw[List.set_set];exact cE uF
      refine AG (LW (id:=0) (m:=2) (i:=Int.toNat t) (j:=2) (st':=[⟨0,80,3,mix (Bu 82 3) Ai (Int.toNat t+1) (Sh.put l t (AL.mk d.from_ d.to q))⟩,⟨0,80,3,[[i64 d.from_,i64 d.to,ls CM d.cons]]⟩,⟨1,82,1,[]⟩]) rfl (pP xz) rfl AA (by simp[hlq]) (by decide) (pT _) (RC.Jx λ_=>AA) (by rw[<- hmix];rfl)) ?_;refine AG (XM (L:=[(3,.own 0 0 (List.length q9)),(10,.own 0 0 (List.length q9)),(11,i64 (Sh.len q9)),(12,i64 t)]) (st':=[⟨0,80,3,mix (Bu 82 3) Ai (Int.toNat t+1) (Sh.put l t (AL.mk d.from_ d.to q))⟩]) [0] (by decide) rfl AA (λrow h=>by rw[pU.1 h];exact Pg (Uj (λ_=>AA) (λ_=>AA))) ⟨.rfl,.rfl,.rfl,.rfl,pA⟩) ?_;refine AF (by rfl) ?_;refine BW (v:=i64 (Sh.w (t+1))) AN AA (Td AA AA) ?_;refine BW (v:=i64 (Sh.w (t+1))) AN AA (BP AA) ?_;have hw1:Sh.w (t+1)=t+1:=Go.Abs.wrap_i64 (by omega) (by omega);have ht2:Int.toNat (Sh.w (t+1))=Int.toNat t+1:=by rw[hw1];omega
      exact AB (Exists.intro (Sh.w (t+1),Sh.put l t (AL.mk d.from_ d.to q)) (And.intro ⟨h1,by rw[Sh.GS];exact zM,by rw[hw1];omega,by rw[hw1];omega⟩ ((Ag (L:=[(3,.own 0 0 (List.length q9)),(10,.own 0 0 (List.length q9)),(11,i64 (Sh.len q9)),(12,i64 (Sh.w (t+1)))]) ⟨.rfl,.rfl,.rfl,.rfl,pA⟩).trans (GF (by rw[ht2])))))
    have hq0:vC.length=d.cons.length:=by
      unfold C9 at gq21;obtain⟨x,hx,hs⟩:=Sh.bind_some gq21;unfold Sh.app at hx;split at hx
      · simp only[pD,qT]at hx hs;rw[<- hs,<- hx]
      · cases hx
    have hmaxc:d.cons.length<=9223372036854775807:=by
      unfold C9 at gq21;obtain⟨x,hx,hs⟩:=Sh.bind_some gq21;unfold Sh.app at hx;split at hx
      · rename_i hb;simpa using hb.2
      · cases hx
    refine AK (Am (σ:=Int×(List D6)) (λn v=>Ep d.cons n v.1 v.2=some o22/\v.2.length=vC.length/\0<=v.1/\v.1<=d.cons.length) (λ(i,q)=>⟨46,AP [(3,.own 0 0 (List.length q9)),(4,i64 t),(10,.own 0 0 (List.length q9)),(11,i64 (Sh.len q9)),(12,i64 t),(25,ls CM d.cons),(26,i64 (Sh.len d.cons)),(27,i64 i)],[⟨0,80,3,(mix (Bu 82 3) Ai (Int.toNat t) l).set (Int.toNat t) [i64 d.from_,i64 d.to,.own 2 0 (List.length vC)]⟩,⟨0,80,3,[[i64 d.from_,i64 d.to,ls CM d.cons]]⟩,⟨0,82,1,mix (Hw 3) CM (Int.toNat i) q⟩]⟩) N (0,vC) ⟨h2,AA,tK _,sN _⟩ ((Ag (L:=[(3,.own 0 0 (List.length q9)),(4,i64 t),(10,.own 0 0 (List.length q9)),(11,i64 (Sh.len q9)),(12,i64 t),(25,ls CM d.cons),(26,i64 (Sh.len d.cons)),(27,i64 0)]) ⟨.rfl,.rfl,.rfl,.rfl,.rfl,.rfl,.rfl,.rfl,pA⟩).trans (GF (by rw[show Int.toNat 0=0 from AA,Zd]))) (λ_ hv=>by have hv:=hv.1;rw[Ep]at hv;cases hv) ?_);rintro n2 ⟨i,q⟩ ⟨h2,hlq,hi0,hi1⟩;try dsimp only at h2 hlq hi0 hi1⊢
    rw[Ep]at h2;refine AE λK31 hK31=>?_;refine AF (by rfl) ?_;refine BW (v:=.bool (decide (i<Sh.len d.cons))) AN AA (eR AA AA) ?_;refine AB (hK31 _ ?_);refine AE λK32 hK32=>?_;refine G3 (b:=decide (i<Sh.len d.cons)) rfl (λb33=>?_) (λb33=>?_)
    · replace h2:=Sh.kQ b33 h2;refine AH (hK32 _ ?_);have vh:i<(vC.length:Int):=by rw[hq0];exact qm b33
      obtain⟨c,gc,h2⟩:=Sh.bind_some h2;obtain⟨f,gf,h2⟩:=Sh.bind_some h2;obtain⟨c2,gc2,h2⟩:=Sh.bind_some h2;have hgc:q[Int.toNat i]?=some c2:=by have h:=gc2;unfold Sh.get at h;rw[pJ hi0]at h;exact h
      have hkc:Int.toNat i<(mix (Hw 3) CM (Int.toNat i) q).length:=by rw[HI];exact (pB.1 hgc).1
      refine AE λK34 hK34=>?_;refine AK ?_;refine AE λK35 hK35=>?_;refine AF (by rfl) ?_;refine BW (v:=i64 i) AN AA (BP AA) ?_;refine BW (v:=.C8 (CM c) 0) AN AA (CR Je AA AA gc AA) ?_;refine BW (v:=.agg [ls eI c.fields]) AN AA (IF P3 AA tR rfl) ?_;refine Oa (m:=3) (st':=[Tr t l d vC,Rm d,aM i q,⟨0,82,1,[[.zc]]⟩]) AN R3 AA AA ?_;refine BW (v:=i64 i) AN AA (Va AA) ?_;refine L6 (st':=Rf t l d vC i q c) AN P3 AA AA AA AA AA AA tR rfl ?_;refine AB (hK35 _ ?_);refine AG (Ag (L:=[(3,FJ q9),(4,i64 t),(6,i64 i),(7,Jn),(10,FJ q9),(11,Np q9),(12,i64 t),(25,Mz d),(26,Ns d),(27,i64 i)]) ⟨.rfl,.rfl,.rfl,.rfl,.rfl,.rfl,.rfl,.rfl,.rfl,.rfl,pA⟩) ?_;refine ID (by kernel_rfl) ?_;refine Kv λA hA=>?_;have hmixc:((mix (Hw 3) CM (Int.toNat i) q).set (Int.toNat i) [.own 4 0 (List.length f)]).set (Int.toNat i) (Hw 3 (D6.mk f))=mix (Hw 3) CM (Int.toNat i+1) (Sh.put q i (D6.mk f)):=by rw[List.set_set];exact cE hgc
      have hselr:∀row∈[Tr t l d vC,Rm d,⟨0,82,1,mix (Hw 3) CM (Int.toNat i+1) (Sh.put q i (D6.mk f))⟩],Cm [0,1,2] row=row:=by
        intro row h;rcases pL.1 h with rfl|h
        · exact cQ hpd AA
        rcases pL.1 h with rfl|h
        · rfl
        rw[pU.1 h];exact Pg (Uj (λ_=>AA) (λ_=>AA))
      have A_33:A 3 (bm 12 511) ⟨46,AP [(3,FJ q9),(4,i64 t),(6,i64 i),(7,Jn),(10,FJ q9),(11,Np q9),(12,i64 t),(25,Mz d),(26,Ns d),(27,i64 i),(32,FJ q9),(33,i64 t),(37,i64 i),(34,WX t),(35,Ul t),(36,.own 2 0 (List.length vC)),(38,Jn),(39,ls eI c.fields),(40,.own 4 0 (List.length f))],[Tr t l d vC,Rm d,aM i q,bM c,⟨0,3,1,List.map eI f⟩]⟩:=(hA _ _ _).2 (by
        refine xa [9] ⟨?_,pA⟩;refine Jo.of (i:=9) rfl AA (by rfl) ?_;refine BW (v:=.ptr 2 0 (Int.toNat i) 0) AN AA (PR Je AA AA AA hi0 vh (by first|rfl|(rw[HI];omega)|(simp[HI];omega))) (AB ⟨AA,?_⟩);refine xa [10] ⟨?_,pA⟩;refine Jo.of (i:=10) rfl AA (by rfl) ?_;refine BW (v:=.ptr 2 0 (Int.toNat i) 0) AN AA (FT TY AA AA tU rfl) (AB ⟨AA,?_⟩);refine xa [11] ⟨?_,pA⟩;refine Jo.of (i:=11) rfl AA (by rfl) ?_;refine L6 (st':=[Tr t l d vC,Rm d,⟨0,82,1,(mix (Hw 3) CM (Int.toNat i) q).set (Int.toNat i) [.own 4 0 (List.length f)]⟩,bM c,⟨0,3,1,List.map eI f⟩]) AN LS AA AA (YN hgc) rfl AA AA tR rfl (AB ⟨AA,?_⟩);refine Gr AA (by kernel_rfl) ?_;refine hK34 _ ?_;refine AG (LW (id:=2) (m:=4) (i:=Int.toNat i) (j:=0) (st':=[⟨0,80,3,(mix (Bu 82 3) Ai (Int.toNat t) l).set (Int.toNat t) [i64 d.from_,i64 d.to,.own 2 0 (List.length vC)]⟩,⟨0,80,3,[[i64 d.from_,i64 d.to,ls CM d.cons]]⟩,⟨0,82,1,mix (Hw 3) CM (Int.toNat i+1) (Sh.put q i (D6.mk f))⟩,⟨0,82,1,[[ls eI c.fields]]⟩,⟨1,3,1,[]⟩]) rfl (pP hkc) rfl AA (by simp) (by decide) (pT _) (RC.Jx λ_=>AA) (by rw[<- hmixc];rfl)) ?_;refine AG (XM (L:=[(3,FJ q9),(4,i64 t),(10,FJ q9),(11,Np q9),(12,i64 t),(25,Mz d),(26,Ns d),(27,i64 i)]) (st':=[Tr t l d vC,Rm d,⟨0,82,1,mix (Hw 3) CM (Int.toNat i+1) (Sh.put q i (D6.mk f))⟩]) [0,1,2] (by decide) rfl AA hselr ⟨.rfl,.rfl,.rfl,.rfl,.rfl,.rfl,.rfl,.rfl,pA⟩) ?_;refine AF (by rfl) ?_;refine BW (v:=i64 (Sh.w (i+1))) AN AA (Td AA AA) ?_;refine BW (v:=i64 (Sh.w (i+1))) AN AA (BP AA) ?_;have htc:i<(d.cons.length:Int):=qm b33;have hw1:Sh.w (i+1)=i+1:=Go.Abs.wrap_i64 (by omega) (by omega);have ht2:Int.toNat (Sh.w (i+1))=Int.toNat i+1:=by rw[hw1];omega
        exact AB (Exists.intro (Sh.w (i+1),Sh.put q i (D6.mk f)) (And.intro ⟨h2,by rw[Sh.GS];exact hlq,by rw[hw1];omega,by rw[hw1];omega⟩ ((Ag (L:=[(3,.own 0 0 (List.length q9)),(4,i64 t),(10,.own 0 0 (List.length q9)),(11,i64 (Sh.len q9)),(12,i64 t),(25,ls CM d.cons),(26,i64 (Sh.len d.cons)),(27,i64 (Sh.w (i+1)))]) ⟨.rfl,.rfl,.rfl,.rfl,.rfl,.rfl,.rfl,.rfl,pA⟩).trans (GF (by rw[ht2]))))))
      have A_32:A 4 (bm 12 255) ⟨46,AP [(3,FJ q9),(4,i64 t),(6,i64 i),(7,Jn),(10,FJ q9),(11,Np q9),(12,i64 t),(25,Mz d),(26,Ns d),(27,i64 i),(32,FJ q9),(33,i64 t),(37,i64 i),(34,WX t),(35,Ul t),(36,.own 2 0 (List.length vC)),(38,Jn),(39,ls eI c.fields)],Rf t l d vC i q c⟩:=(hA _ _ _).2 (by
        refine xa [8] ⟨?_,pA⟩
        · refine Jo.of (i:=8) rfl AA (by rfl) ?_;refine Bo (v':=.own 4 0 (List.length f)) (st':=[Tr t l d vC,Rm d,aM i q,bM c,⟨0,3,1,List.map eI f⟩]) AN fS (Ct gf) rfl AA ⟨(Bq λ_=>AA),pA⟩ AA AA (AB ⟨AA,?_⟩);exact xt hA A_33)
      have A_23:A 4 (bm 12 495) ⟨46,AP [(3,FJ q9),(4,i64 t),(6,i64 i),(7,Jn),(10,FJ q9),(11,Np q9),(12,i64 t),(25,Mz d),(26,Ns d),(27,i64 i),(32,FJ q9),(33,i64 t),(37,i64 i),(34,WX t),(35,Ul t),(38,Jn),(39,ls eI c.fields),(40,.own 4 0 (List.length f))],[Tr t l d vC,Rm d,aM i q,bM c,⟨0,3,1,List.map eI f⟩]⟩:=(hA _ _ _).2 (by
        refine xa [4] ⟨?_,pA⟩
        · refine Jo.of (i:=4) rfl AA (by rfl) ?_;refine BW (v:=.own 2 0 (List.length vC)) AN AA (CG YF AA AA (pP xz) rfl) (AB ⟨AA,?_⟩);exact xt hA A_33)
      have A_31:A 5 (bm 12 127) ⟨46,AP [(3,FJ q9),(4,i64 t),(6,i64 i),(7,Jn),(10,FJ q9),(11,Np q9),(12,i64 t),(25,Mz d),(26,Ns d),(27,i64 i),(32,FJ q9),(33,i64 t),(37,i64 i),(34,WX t),(35,Ul t),(36,.own 2 0 (List.length vC)),(38,Jn)],Rf t l d vC i q c⟩:=(hA _ _ _).2 (by
        refine xa [7] ⟨?_,pA⟩
        · refine Jo.of (i:=7) rfl AA (by rfl) ?_;refine BW (v:=ls eI c.fields) AN AA (CG LS AA AA AA AA) (AB ⟨AA,?_⟩);exact xt hA A_32)
      have A_22:A 5 (bm 12 239) ⟨46,AP [(3,FJ q9),(4,i64 t),(6,i64 i),(7,Jn),(10,FJ q9),(11,Np q9),(12,i64 t),(25,Mz d),(26,Ns d),(27,i64 i),(32,FJ q9),(33,i64 t),(37,i64 i),(34,WX t),(35,Ul t),(38,Jn),(39,ls eI c.fields)],Rf t l d vC i q c⟩:=(hA _ _ _).2 (by
        refine xa [4,8] ⟨?_,?_,pA⟩
        · refine Jo.of (i:=4) rfl AA (by rfl) ?_;refine BW (v:=.own 2 0 (List.length vC)) AN AA (CG YF AA AA (pP xz) rfl) (AB ⟨AA,?_⟩);exact xt hA A_32
        · refine Jo.of (i:=8) rfl AA (by rfl) ?_;refine Bo (v':=.own 4 0 (List.length f)) (st':=[Tr t l d vC,Rm d,aM i q,bM c,⟨0,3,1,List.map eI f⟩]) AN fS (Ct gf) rfl AA ⟨(Bq λ_=>AA),pA⟩ AA AA (AB ⟨AA,?_⟩);exact xt hA A_23)
      have A_13:A 5 (bm 12 487) ⟨46,AP [(3,FJ q9),(4,i64 t),(6,i64 i),(7,Jn),(10,FJ q9),(11,Np q9),(12,i64 t),(25,Mz d),(26,Ns d),(27,i64 i),(32,FJ q9),(33,i64 t),(37,i64 i),(34,WX t),(38,Jn),(39,ls eI c.fields),(40,.own 4 0 (List.length f))],[Tr t l d vC,Rm d,aM i q,bM c,⟨0,3,1,List.map eI f⟩]⟩:=(hA _ _ _).2 (by
        refine xa [3] ⟨?_,pA⟩
        · refine Jo.of (i:=3) rfl AA (by rfl) ?_;refine BW (v:=Ul t) AN AA (FT PI AA AA tQ rfl) (AB ⟨AA,?_⟩);exact xt hA A_23)
      have A_30:A 6 (bm 12 63) ⟨46,AP [(3,FJ q9),(4,i64 t),(6,i64 i),(7,Jn),(10,FJ q9),(11,Np q9),(12,i64 t),(25,Mz d),(26,Ns d),(27,i64 i),(32,FJ q9),(33,i64 t),(37,i64 i),(34,WX t),(35,Ul t),(36,.own 2 0 (List.length vC))],Rf t l d vC i q c⟩:=(hA _ _ _).2 (by
        refine xa [6] ⟨?_,pA⟩
        · refine Jo.of (i:=6) rfl AA (by rfl) ?_;refine BW (v:=Jn) AN AA (FT TY AA AA tU rfl) (AB ⟨AA,?_⟩);exact xt hA A_31)
      have A_21:A 6 (bm 12 111) ⟨46,AP [(3,FJ q9),(4,i64 t),(6,i64 i),(7,Jn),(10,FJ q9),(11,Np q9),(12,i64 t),(25,Mz d),(26,Ns d),(27,i64 i),(32,FJ q9),(33,i64 t),(37,i64 i),(34,WX t),(35,Ul t),(38,Jn)],Rf t l d vC i q c⟩:=(hA _ _ _).2 (by
        refine xa [4,7] ⟨?_,?_,pA⟩
        · refine Jo.of (i:=4) rfl AA (by rfl) ?_;refine BW (v:=.own 2 0 (List.length vC)) AN AA (CG YF AA AA (pP xz) rfl) (AB ⟨AA,?_⟩);exact xt hA A_31
        · refine Jo.of (i:=7) rfl AA (by rfl) ?_;refine BW (v:=ls eI c.fields) AN AA (CG LS AA AA AA AA) (AB ⟨AA,?_⟩);exact xt hA A_22)
      have A_12:A 6 (bm 12 231) ⟨46,AP [(3,FJ q9),(4,i64 t),(6,i64 i),(7,Jn),(10,FJ q9),(11,Np q9),(12,i64 t),(25,Mz d),(26,Ns d),(27,i64 i),(32,FJ q9),(33,i64 t),(37,i64 i),(34,WX t),(38,Jn),(39,ls eI c.fields)],Rf t l d vC i q c⟩:=(hA _ _ _).2 (by
        refine xa [3,8] ⟨?_,?_,pA⟩
        · refine Jo.of (i:=3) rfl AA (by rfl) ?_;refine BW (v:=Ul t) AN AA (FT PI AA AA tQ rfl) (AB ⟨AA,?_⟩);exact xt hA A_22
        · refine Jo.of (i:=8) rfl AA (by rfl) ?_;refine Bo (v':=.own 4 0 (List.length f)) (st':=[Tr t l d vC,Rm d,aM i q,bM c,⟨0,3,1,List.map eI f⟩]) AN fS (Ct gf) rfl AA ⟨(Bq λ_=>AA),pA⟩ AA AA (AB ⟨AA,?_⟩);exact xt hA A_13)
      have A_03:A 6 (bm 12 483) ⟨46,AP [(3,FJ q9),(4,i64 t),(6,i64 i),(7,Jn),(10,FJ q9),(11,Np q9),(12,i64 t),(25,Mz d),(26,Ns d),(27,i64 i),(32,FJ q9),(33,i64 t),(37,i64 i),(38,Jn),(39,ls eI c.fields),(40,.own 4 0 (List.length f))],[Tr t l d vC,Rm d,aM i q,bM c,⟨0,3,1,List.map eI f⟩]⟩:=(hA _ _ _).2 (by
        refine xa [2] ⟨?_,pA⟩
        · refine Jo.of (i:=2) rfl AA (by rfl) ?_;refine BW (v:=.ptr 0 0 (Int.toNat t) 0) AN AA (PR DK AA AA AA ht0 yi (by first|rfl|(rw[HI];omega)|(simp[HI];omega))) (AB ⟨AA,?_⟩);exact xt hA A_13)
      have A_20:A 7 (bm 12 47) ⟨46,AP [(3,FJ q9),(4,i64 t),(6,i64 i),(7,Jn),(10,FJ q9),(11,Np q9),(12,i64 t),(25,Mz d),(26,Ns d),(27,i64 i),(32,FJ q9),(33,i64 t),(37,i64 i),(34,WX t),(35,Ul t)],Rf t l d vC i q c⟩:=(hA _ _ _).2 (by
        refine xa [4,6] ⟨?_,?_,pA⟩
        · refine Jo.of (i:=4) rfl AA (by rfl) ?_;refine BW (v:=.own 2 0 (List.length vC)) AN AA (CG YF AA AA (pP xz) rfl) (AB ⟨AA,?_⟩);exact xt hA A_30
        · refine Jo.of (i:=6) rfl AA (by rfl) ?_;refine BW (v:=Jn) AN AA (FT TY AA AA tU rfl) (AB ⟨AA,?_⟩);exact xt hA A_21)
      have A_11:A 7 (bm 12 103) ⟨46,AP [(3,FJ q9),(4,i64 t),(6,i64 i),(7,Jn),(10,FJ q9),(11,Np q9),(12,i64 t),(25,Mz d),(26,Ns d),(27,i64 i),(32,FJ q9),(33,i64 t),(37,i64 i),(34,WX t),(38,Jn)],Rf t l d vC i q c⟩:=(hA _ _ _).2 (by
        refine xa [3,7] ⟨?_,?_,pA⟩
        · refine Jo.of (i:=3) rfl AA (by rfl) ?_;refine BW (v:=Ul t) AN AA (FT PI AA AA tQ rfl) (AB ⟨AA,?_⟩);exact xt hA A_21
        · refine Jo.of (i:=7) rfl AA (by rfl) ?_;refine BW (v:=ls eI c.fields) AN AA (CG LS AA AA AA AA) (AB ⟨AA,?_⟩);exact xt hA A_12)
      have A_02:A 7 (bm 12 227) ⟨46,AP [(3,FJ q9),(4,i64 t),(6,i64 i),(7,Jn),(10,FJ q9),(11,Np q9),(12,i64 t),(25,Mz d),(26,Ns d),(27,i64 i),(32,FJ q9),(33,i64 t),(37,i64 i),(38,Jn),(39,ls eI c.fields)],Rf t l d vC i q c⟩:=(hA _ _ _).2 (by
        refine xa [2,8] ⟨?_,?_,pA⟩
        · refine Jo.of (i:=2) rfl AA (by rfl) ?_;refine BW (v:=.ptr 0 0 (Int.toNat t) 0) AN AA (PR DK AA AA AA ht0 yi (by first|rfl|(rw[HI];omega)|(simp[HI];omega))) (AB ⟨AA,?_⟩);exact xt hA A_12
        · refine Jo.of (i:=8) rfl AA (by rfl) ?_;refine Bo (v':=.own 4 0 (List.length f)) (st':=[Tr t l d vC,Rm d,aM i q,bM c,⟨0,3,1,List.map eI f⟩]) AN fS (Ct gf) rfl AA ⟨(Bq λ_=>AA),pA⟩ AA AA (AB ⟨AA,?_⟩);exact xt hA A_03)
      have A_10:A 8 (bm 12 39) ⟨46,AP [(3,FJ q9),(4,i64 t),(6,i64 i),(7,Jn),(10,FJ q9),(11,Np q9),(12,i64 t),(25,Mz d),(26,Ns d),(27,i64 i),(32,FJ q9),(33,i64 t),(37,i64 i),(34,WX t)],Rf t l d vC i q c⟩:=(hA _ _ _).2 (by
        refine xa [3,6] ⟨?_,?_,pA⟩
        · refine Jo.of (i:=3) rfl AA (by rfl) ?_;refine BW (v:=Ul t) AN AA (FT PI AA AA tQ rfl) (AB ⟨AA,?_⟩);exact xt hA A_20
        · refine Jo.of (i:=6) rfl AA (by rfl) ?_;refine BW (v:=Jn) AN AA (FT TY AA AA tU rfl) (AB ⟨AA,?_⟩);exact xt hA A_11)
      have A_01:A 8 (bm 12 99) ⟨46,AP [(3,FJ q9),(4,i64 t),(6,i64 i),(7,Jn),(10,FJ q9),(11,Np q9),(12,i64 t),(25,Mz d),(26,Ns d),(27,i64 i),(32,FJ q9),(33,i64 t),(37,i64 i),(38,Jn)],Rf t l d vC i q c⟩:=(hA _ _ _).2 (by
        refine xa [2,7] ⟨?_,?_,pA⟩
        · refine Jo.of (i:=2) rfl AA (by rfl) ?_;refine BW (v:=.ptr 0 0 (Int.toNat t) 0) AN AA (PR DK AA AA AA ht0 yi (by first|rfl|(rw[HI];omega)|(simp[HI];omega))) (AB ⟨AA,?_⟩);exact xt hA A_11
        · refine Jo.of (i:=7) rfl AA (by rfl) ?_;refine BW (v:=ls eI c.fields) AN AA (CG LS AA AA AA AA) (AB ⟨AA,?_⟩);exact xt hA A_02)
      have A_00:A 9 (bm 12 35) ⟨46,AP [(3,FJ q9),(4,i64 t),(6,i64 i),(7,Jn),(10,FJ q9),(11,Np q9),(12,i64 t),(25,Mz d),(26,Ns d),(27,i64 i),(32,FJ q9),(33,i64 t),(37,i64 i)],Rf t l d vC i q c⟩:=(hA _ _ _).2 (by
        refine xa [2,6] ⟨?_,?_,pA⟩
        · refine Jo.of (i:=2) rfl AA (by rfl) ?_;refine BW (v:=.ptr 0 0 (Int.toNat t) 0) AN AA (PR DK AA AA AA ht0 yi (by first|rfl|(rw[HI];omega)|(simp[HI];omega))) (AB ⟨AA,?_⟩);exact xt hA A_10
        · refine Jo.of (i:=6) rfl AA (by rfl) ?_;refine BW (v:=Jn) AN AA (FT TY AA AA tU rfl) (AB ⟨AA,?_⟩);exact xt hA A_01)
      have B_2:A 10 (bm 12 3) ⟨46,AP [(3,FJ q9),(4,i64 t),(6,i64 i),(7,Jn),(10,FJ q9),(11,Np q9),(12,i64 t),(25,Mz d),(26,Ns d),(27,i64 i),(32,FJ q9),(33,i64 t)],Rf t l d vC i q c⟩:=(hA _ _ _).2 (by
        refine H8 5 (v:=i64 i) rfl AA (by kernel_rfl) (by kernel_rfl) (by kernel_rfl) rfl (IZ AA) ?_;exact xt hA A_00)
      have B_1:A 11 (bm 12 1) ⟨46,AP [(3,FJ q9),(4,i64 t),(6,i64 i),(7,Jn),(10,FJ q9),(11,Np q9),(12,i64 t),(25,Mz d),(26,Ns d),(27,i64 i),(32,FJ q9)],Rf t l d vC i q c⟩:=(hA _ _ _).2 (by
        refine H8 1 (v:=i64 t) rfl AA (by kernel_rfl) (by kernel_rfl) (by kernel_rfl) rfl (IZ AA) ?_;exact xt hA B_2)
      have B_0:A 12 (bm 12 0) ⟨46,AP [(3,FJ q9),(4,i64 t),(6,i64 i),(7,Jn),(10,FJ q9),(11,Np q9),(12,i64 t),(25,Mz d),(26,Ns d),(27,i64 i)],Rf t l d vC i q c⟩:=(hA _ _ _).2 (by
        refine H8 0 (v:=FJ q9) rfl AA (by kernel_rfl) (by kernel_rfl) (by kernel_rfl) rfl (IZ AA) ?_;exact xt hA B_1)
      exact (hA _ _ _).2 (Bp (by kernel_rfl) ((hA _ _ _).1 B_0))
    · replace h2:=Sh.jJ b33 h2;have hfull:mix (Hw 3) CM (Int.toNat i) q=List.map (Hw 3) q:=Za (by have h:=sn b33;simp only[Sh.len]at h;omega);exact Av (M22 q (Sh.Bf h2).symm hlq _ ((Ag (L:=[(3,.own 0 0 (List.length q9)),(10,.own 0 0 (List.length q9)),(11,i64 (Sh.len q9)),(12,i64 t)]) ⟨.rfl,.rfl,.rfl,.rfl,pA⟩).trans (GF (by rw[hfull]))))
  · replace h1:=Sh.jJ b13 h1;have hfull:mix (Bu 82 3) Ai (Int.toNat t) l=List.map (Bu 82 3) l:=Za (by have h:=sn b13;simp only[Sh.len]at h;omega);exact Av (M9 l (Sh.Bf h1).symm zM _ ((Ag (L:=[(3,.own 0 0 (List.length q9))]) ⟨.rfl,pA⟩).trans (GF (by rw[hfull]))))
end
end Go.Proofs.YtihdgoiebmfapaaGreat.Cl
