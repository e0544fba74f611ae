/- The copy of declarations: a row that owns all that lies under it. -/
import Derived.Test.YtccficmcdkcpnaaGreatCEWalk
import Derived.Test.YtccficmcdkcpnaaGreatGCloneDToCloneE
set_option linter.all false
namespace Go.Proofs.YtccficmcdkcpnaaGreat.Cl
noncomputable section
open Go Go.Abs RC
set_option maxRecDepth 100000
abbrev QR (z0 z1:_)(z2:AR){α3:Type}(z3:List α3)(z4 z5:_)(z6:BN):=([⟨0,104,3,(mix (Av 106 3) Ak (Int.toNat z0) z1).set (Int.toNat z0) [i64 z2.from_,i64 z2.to,.own 2 0 (List.length z3)]⟩,⟨0,104,3,[[i64 z2.from_,i64 z2.to,ls BR z2.cons]]⟩,⟨0,106,1,mix (CT 3) BR (Int.toNat z4) z5⟩,⟨0,106,1,[[ls eI z6.fields]]⟩]:List Row)
abbrev SH (z0 z1:_)(z2:AR){α3:Type}(z3:List α3):=(⟨0,104,3,(mix (Av 106 3) Ak (Int.toNat z0) z1).set (Int.toNat z0) [i64 z2.from_,i64 z2.to,.own 2 0 (List.length z3)]⟩:Row)
abbrev D9 {α0:Type}(z0:List α0):=((.own 0 0 (List.length z0)):AV)
abbrev Qi (z0:AR):=(⟨0,104,3,[[i64 z0.from_,i64 z0.to,ls BR z0.cons]]⟩:Row)
abbrev IC:=((.ptr 3 0 0 0):AV)
abbrev Xa (z0 z1:_):=(⟨0,106,1,mix (CT 3) BR (Int.toNat z0) z1⟩:Row)
abbrev MW (z0:AR):=((i64 (Sh.len z0.cons)):AV)
abbrev Yd (z0:BN):=(⟨0,106,1,[[ls eI z0.fields]]⟩:Row)
abbrev Lp (z0:AR):=((ls BR z0.cons):AV)
abbrev TS (z0:_):=((.ptr 0 0 (Int.toNat z0) 2):AV)
abbrev UO (z0:_):=((.ptr 0 0 (Int.toNat z0) 0):AV)
abbrev MP {α0:Type}(z0:List α0):=((i64 (Sh.len z0)):AV)
set_option maxHeartbeats 4000000
theorem G0:CF Tryz.prog 104=some (true,3):=by kernel_rfl
theorem Ka:CF Tryz.prog 106=some (true,1):=by kernel_rfl
theorem Mv:CF Tryz.prog 102=some (false,1):=by kernel_rfl
theorem KL:CF Tryz.prog 45=some (false,1):=by kernel_rfl
theorem MN:Ic Tryz.prog 104 2=some 2:=by kernel_rfl
theorem P0:Ic Tryz.prog 106 0=some 0:=by kernel_rfl
theorem Fy:Gz Tryz.prog 104=some [.int .i64 0,.int .i64 0,.zc]:=by kernel_rfl
theorem Mw:Gz Tryz.prog 106=some [.zc]:=by kernel_rfl
theorem kF:Dy Tryz.prog 102=true:=by kernel_rfl
theorem jd:Dy Tryz.prog 103=true:=by kernel_rfl
theorem cT:Dy Tryz.prog 56=true:=by kernel_rfl
theorem Ud:True:=mV
theorem Oi {N:Nat}{p0 r:List AR}(h0:HK N p0=some r):BJ Tryz.prog 54 [ls Ak p0] [] (λv st=>v=(D9 r)/\st=[⟨0,104,3,List.map (Av 106 3) r⟩]):=by
  unfold HK at h0;refine BJ.intro Tryz.func54 AA (by show 1<=46;decide) ?_;show AW _ 0 _ (fS _ 0 Tryz.f54 _) ⟨46,_,_⟩;refine AJ (As (L:=[(0,ls Ak p0)]) ⟨.rfl,mV⟩) ?_;refine AD λK1 hK1=>?_;refine AG (by rfl) ?_;refine At (v:=.zc) AN AA (TC AA) ?_;refine AE (hK1 _ ?_);refine AD λK2 hK2=>?_;refine AG (by rfl) ?_;refine At (v:=(ls Ak p0)) AN AA (Lc AA) ?_;obtain⟨q9,gq9,h0⟩:=Sh.bind_some h0;refine A8 (v':=(D9 q9)) (st':=[⟨0,104,3,List.map Ak q9⟩]) AN kF (I0 gq9) rfl AA ⟨(A9 λ_=>AA),mV⟩ AA AA ?_;refine At (v:=(D9 q9)) AN AA (TC AA) ?_;refine AE (hK2 _ ?_);have tR:q9.length<=9223372036854775807:=by
    unfold Cd at gq9;obtain⟨x,hx,hs⟩:=Sh.bind_some gq9;unfold Sh.app at hx;split at hx
    · rename_i hb;simp only[mU]at hx hs;rw[<- hs,<- hx];simpa using hb.2
    · cases hx
  refine AD λK4 hK4=>?_;refine AD λK5 hK5=>?_;refine AG (by rfl) ?_;refine At (v:=(D9 q9)) AN AA (Lc AA) ?_;refine At (v:=(MP q9)) AN AA (E9 Sd AA AA AA) ?_;refine At (v:=(i64 0)) AN AA (Lc AA) ?_;refine AE (hK5 _ ?_);obtain⟨o9,h1,h0⟩:=Sh.bind_some h0;have M9:∀(l:List AR),o9=l->l.length=q9.length->∀s,Wk 0 s ⟨46,AM [(3,D9 q9)],[⟨0,104,3,List.map (Av 106 3) l⟩]⟩->K4 s:=by
    intro l hq hlen s hw;subst o9;refine hK4 _ (AJ hw ?_);refine AD λK10 hK10=>?_;refine AG (by rfl) ?_;refine At (v:=(D9 q9)) AN AA (Lc AA) ?_;refine At (v:=(D9 q9)) AN AA (TC AA) ?_;refine AE (hK10 _ ?_);obtain rfl:=Sh.AF h0;exact BB (Exists.intro _ (And.intro (As (L:=[(2,.own 0 0 (List.length q9))]) ⟨.rfl,mV⟩) (And.intro (by show _=AV.own 0 0 l.length;rw[hlen];rfl) rfl)))
  refine AK (AT (σ:=Int×(List AR)) (λn v=>Dk N (Sh.len q9) n v.1 v.2=some o9/\v.2.length=q9.length/\0<=v.1/\v.1<=q9.length) (λ(t,l)=>⟨46,AM [(3,.own 0 0 (List.length q9)),(10,.own 0 0 (List.length q9)),(11,i64 (Sh.len q9)),(12,i64 t)],[⟨0,104,3,mix (Av 106 3) Ak (Int.toNat t) l⟩]⟩) N (0,q9) ⟨h1,AA,qG _,pe _⟩ ((As (L:=[(3,.own 0 0 (List.length q9)),(10,.own 0 0 (List.length q9)),(11,i64 (Sh.len q9)),(12,i64 0)]) ⟨.rfl,.rfl,.rfl,.rfl,mV⟩).trans (CB (by rw[show Int.toNat 0=0 from AA,Wn]))) (λ_ hv=>by have hv:=hv.1;rw[Dk]at hv;cases hv) ?_);rintro n ⟨t,l⟩ ⟨h1,xE,wb,ht1⟩;try dsimp only at h1 xE wb ht1⊢
  rw[Dk]at h1;refine AD λK11 hK11=>?_;refine AG (by rfl) ?_;refine At (v:=(.bool (decide (t<(Sh.len q9))))) AN AA (an AA AA) ?_;refine AE (hK11 _ ?_);refine AD λK12 hK12=>?_;refine FC (b:=decide (t<(Sh.len q9))) rfl (λb13=>?_) (λb13=>?_)
  · replace h1:=Sh.fD b13 h1;refine AH (hK12 _ ?_);have wU:t<(q9.length:Int):=nh b13;obtain⟨d,gd,h1⟩:=Sh.bind_some h1;obtain⟨sF,gq21,h1⟩:=Sh.bind_some h1;obtain⟨o22,h2,h1⟩:=Sh.bind_some h1;have rb:l[Int.toNat t]?=some d:=by have h:=gd;unfold Sh.get at h;rw[me wb]at h;exact h
    have vK:Int.toNat t<(mix (Av 106 3) Ak (Int.toNat t) l).length:=by rw[GA];exact (mT.1 rb).1
    have hpd:B8 (mix (Av 106 3) Ak (Int.toNat t) l):=TR (λ_=>rfl) (λ_=>rfl);refine AD λK14 hK14=>?_;refine AK ?_;refine AD λK15 hK15=>?_;refine AG (by rfl) ?_;refine At (v:=(i64 t)) AN AA (Lc AA) ?_;refine At (v:=(.ptr 0 0 (Int.toNat t) 0)) AN AA (OO DZ AA AA AA wb wU (by first|rfl|(rw[GA];omega)|(simp[GA];omega))) ?_;refine At (v:=(.agg [i64 d.from_,i64 d.to,Lp d])) AN AA (Cz G0 AA AA (VP rb) qn rfl) ?_;refine Aj (m:=1) (st':=[⟨0,104,3,mix (Av 106 3) Ak (Int.toNat t) l⟩,⟨0,104,3,[[i64 0,i64 0,.zc]]⟩]) AN Fy AA AA ?_;refine At (v:=(i64 t)) AN AA (TC AA) ?_;refine Al (st':=[⟨0,104,3,mix (Av 106 3) Ak (Int.toNat t) l⟩,Qi d]) AN G0 AA AA AA AA AA AA qn rfl ?_;refine AE (hK15 _ ?_);refine AD λK16 hK16=>?_;refine AG (by rfl) ?_;refine At (v:=(D9 q9)) AN AA (Lc AA) ?_;refine At (v:=(i64 t)) AN AA (Lc AA) ?_;refine At (v:=(.ptr 1 0 0 2)) AN AA (Ie MN AA AA qs rfl) ?_;refine At (v:=(Lp d)) AN AA (DH Mv AA AA AA AA) ?_;refine A8 (v':=(.own 2 0 (List.length sF))) (st':=[⟨0,104,3,mix (Av 106 3) Ak (Int.toNat t) l⟩,Qi d,⟨0,106,1,List.map BR sF⟩]) AN jd (JZ gq21) rfl AA ⟨(A9 λ_=>AA),mV⟩ AA AA ?_;refine At (v:=(.ptr 0 0 (Int.toNat t) 0)) AN AA (OO DZ AA AA AA wb wU (by first|rfl|(rw[GA];omega)|(simp[GA];omega))) ?_;refine At (v:=(TS t)) AN AA (Ie MN AA AA qs rfl) ?_;refine Al (st':=[SH t l d sF,Qi d,⟨0,106,1,List.map BR sF⟩]) AN Mv AA AA (VP rb) rfl AA AA (show 2+1<=3 by decide) rfl ?_;refine AE (hK16 _ ?_);refine AD λK17 hK17=>?_;refine AG (by rfl) ?_;refine At (v:=(.ptr 1 0 0 2)) AN AA (Ie MN AA AA qs rfl) ?_;refine At (v:=(Lp d)) AN AA (DH Mv AA AA AA AA) ?_;refine At (v:=(MW d)) AN AA (Bo Mu AA) ?_;refine At (v:=(i64 0)) AN AA (Lc AA) ?_;refine AE (hK17 _ ?_);have M22:∀(q:List BN),o22=q->q.length=sF.length->∀s,Wk 0 s ⟨46,AM [(3,D9 q9),(10,D9 q9),(11,MP q9),(12,i64 t)],[SH t l d sF,Qi d,⟨0,106,1,List.map (CT 3) q⟩]⟩->K14 s:=by
      intro q hq hlq s hw;subst o22;refine hK14 _ (AJ hw ?_);have hmix:((mix (Av 106 3) Ak (Int.toNat t) l).set (Int.toNat t) [i64 d.from_,i64 d.to,.own 2 0 (List.length sF)]).set (Int.toNat t) (Av 106 3 (AR.mk d.from_ d.to q))=mix (Av 106 3) Ak (Int.toNat t+1) (Sh.put l t (AR.mk d.from_ d.to q)):=by rw[qa];exact Z7 rb
      refine AJ (ON (id:=0) (m:=2) (i:=Int.toNat t) (j:=2) (st':=[⟨0,104,3,mix (Av 106 3) Ak (Int.toNat t+1) (Sh.put l t (AR.mk d.from_ d.to q))⟩,⟨0,104,3,[[i64 d.from_,i64 d.to,ls BR d.cons]]⟩,⟨1,106,1,[]⟩]) rfl (mc vK) rfl AA (by simp[hlq]) (by decide) (mi _) (RC.HW λ_=>AA) (by rw[<- hmix];rfl)) ?_;refine AJ (VE (L:=[(3,.own 0 0 (List.length q9)),(10,.own 0 0 (List.length q9)),(11,i64 (Sh.len q9)),(12,i64 t)]) (st':=[⟨0,104,3,mix (Av 106 3) Ak (Int.toNat t+1) (Sh.put l t (AR.mk d.from_ d.to q))⟩]) [0] (by decide) rfl AA (λrow h=>by rw[nQ.1 h];exact OR (TR (λ_=>AA) (λ_=>AA))) ⟨.rfl,.rfl,.rfl,.rfl,mV⟩) ?_;refine AG (by rfl) ?_;refine At (v:=(i64 (Sh.w (t+1)))) AN AA (Xc AA AA) ?_;refine At (v:=(i64 (Sh.w (t+1)))) AN AA (Lc AA) ?_;have xy:Sh.w (t+1)=t+1:=Go.Abs.wrap_i64 (by omega) (by omega);have ht2:Int.toNat (Sh.w (t+1))=Int.toNat t+1:=by rw[xy];omega
      exact AE (Exists.intro (Sh.w (t+1),Sh.put l t (AR.mk d.from_ d.to q)) (And.intro ⟨h1,by rw[Sh.Ap];exact xE,by rw[xy];omega,by rw[xy];omega⟩ ((As (L:=[(3,.own 0 0 (List.length q9)),(10,.own 0 0 (List.length q9)),(11,i64 (Sh.len q9)),(12,i64 (Sh.w (t+1)))]) ⟨.rfl,.rfl,.rfl,.rfl,mV⟩).trans (CB (by rw[ht2])))))
    have hq0:sF.length=d.cons.length:=by
      unfold CA at gq21;obtain⟨x,hx,hs⟩:=Sh.bind_some gq21;unfold Sh.app at hx;split at hx
      · simp only[mU,ny]at hx hs;rw[<- hs,<- hx]
      · cases hx
    have yF:d.cons.length<=9223372036854775807:=by
      unfold CA at gq21;obtain⟨x,hx,hs⟩:=Sh.bind_some gq21;unfold Sh.app at hx;split at hx
      · rename_i hb;simpa using hb.2
      · cases hx
    refine AK (AT (σ:=Int×(List BN)) (λn v=>Dh d.cons n v.1 v.2=some o22/\v.2.length=sF.length/\0<=v.1/\v.1<=d.cons.length) (λ(i,q)=>⟨46,AM [(3,.own 0 0 (List.length q9)),(4,i64 t),(10,.own 0 0 (List.length q9)),(11,i64 (Sh.len q9)),(12,i64 t),(25,ls BR d.cons),(26,i64 (Sh.len d.cons)),(27,i64 i)],[⟨0,104,3,(mix (Av 106 3) Ak (Int.toNat t) l).set (Int.toNat t) [i64 d.from_,i64 d.to,.own 2 0 (List.length sF)]⟩,⟨0,104,3,[[i64 d.from_,i64 d.to,ls BR d.cons]]⟩,⟨0,106,1,mix (CT 3) BR (Int.toNat i) q⟩]⟩) N (0,sF) ⟨h2,AA,qG _,pe _⟩ ((As (L:=[(3,.own 0 0 (List.length q9)),(4,i64 t),(10,.own 0 0 (List.length q9)),(11,i64 (Sh.len q9)),(12,i64 t),(25,ls BR d.cons),(26,i64 (Sh.len d.cons)),(27,i64 0)]) ⟨.rfl,.rfl,.rfl,.rfl,.rfl,.rfl,.rfl,.rfl,mV⟩).trans (CB (by rw[show Int.toNat 0=0 from AA,Wn]))) (λ_ hv=>by have hv:=hv.1;rw[Dh]at hv;cases hv) ?_);rintro n2 ⟨i,q⟩ ⟨h2,hlq,hi0,xQ⟩;try dsimp only at h2 hlq hi0 xQ⊢
    rw[Dh]at h2;refine AD λK31 hK31=>?_;refine AG (by rfl) ?_;refine At (v:=(.bool (decide (i<(Sh.len d.cons))))) AN AA (an AA AA) ?_;refine AE (hK31 _ ?_);refine AD λK32 hK32=>?_;refine FC (b:=decide (i<(Sh.len d.cons))) rfl (λb33=>?_) (λb33=>?_)
    · replace h2:=Sh.fD b33 h2;refine AH (hK32 _ ?_);have tj:i<(sF.length:Int):=by rw[hq0];exact nh b33
      obtain⟨c,gc,h2⟩:=Sh.bind_some h2;obtain⟨f,gf,h2⟩:=Sh.bind_some h2;obtain⟨c2,gc2,h2⟩:=Sh.bind_some h2;have hgc:q[Int.toNat i]?=some c2:=by have h:=gc2;unfold Sh.get at h;rw[me hi0]at h;exact h
      have hkc:Int.toNat i<(mix (CT 3) BR (Int.toNat i) q).length:=by rw[GA];exact (mT.1 hgc).1
      refine AD λK34 hK34=>?_;refine AK ?_;refine AD λK35 hK35=>?_;refine AG (by rfl) ?_;refine At (v:=(i64 i)) AN AA (Lc AA) ?_;refine At (v:=(.Bz (BR c) 0)) AN AA (Bi HC AA AA gc AA) ?_;refine At (v:=(.agg [ls eI c.fields])) AN AA (ZW Ka AA ql rfl) ?_;refine Aj (m:=3) (st':=[SH t l d sF,Qi d,Xa i q,⟨0,106,1,[[.zc]]⟩]) AN Mw AA AA ?_;refine At (v:=(i64 i)) AN AA (TC AA) ?_;refine Al (st':=(QR t l d sF i q c)) AN Ka AA AA AA AA AA AA ql rfl ?_;refine AE (hK35 _ ?_);refine AJ (As (L:=[(3,D9 q9),(4,i64 t),(6,i64 i),(7,IC),(10,D9 q9),(11,MP q9),(12,i64 t),(25,Lp d),(26,MW d),(27,i64 i)]) ⟨.rfl,.rfl,.rfl,.rfl,.rfl,.rfl,.rfl,.rfl,.rfl,.rfl,mV⟩) ?_;refine Kv (by kernel_rfl) ?_;refine P4 λA hA=>?_;have hmixc:((mix (CT 3) BR (Int.toNat i) q).set (Int.toNat i) [.own 4 0 (List.length f)]).set (Int.toNat i) (CT 3 (BN.mk f))=mix (CT 3) BR (Int.toNat i+1) (Sh.put q i (BN.mk f)):=by rw[qa];exact Z7 hgc
      have hselr:∀row∈[SH t l d sF,Qi d,⟨0,106,1,mix (CT 3) BR (Int.toNat i+1) (Sh.put q i (BN.mk f))⟩],Bh [0,1,2] row=row:=by
        intro row h;rcases mr.1 h with rfl|h
        · exact ZA hpd AA
        rcases mr.1 h with rfl|h
        · rfl
        rw[nQ.1 h];exact OR (TR (λ_=>AA) (λ_=>AA))
      have A_33:A 3 (bm 12 511) ⟨46,AM [(3,D9 q9),(4,i64 t),(6,i64 i),(7,IC),(10,D9 q9),(11,MP q9),(12,i64 t),(25,Lp d),(26,MW d),(27,i64 i),(32,D9 q9),(33,i64 t),(37,i64 i),(34,UO t),(35,TS t),(36,.own 2 0 (List.length sF)),(38,IC),(39,ls eI c.fields),(40,.own 4 0 (List.length f))],[SH t l d sF,Qi d,Xa i q,Yd c,⟨0,3,1,List.map eI f⟩]⟩:=(hA _ _ _).2 (by
        refine xa [9] ⟨?_,mV⟩;refine IS.of (i:=9) rfl AA (by rfl) ?_;refine At (v:=(.ptr 2 0 (Int.toNat i) 0)) AN AA (OO HC AA AA AA hi0 tj (by first|rfl|(rw[GA];omega)|(simp[GA];omega))) (AE ⟨AA,?_⟩);refine xa [10] ⟨?_,mV⟩;refine IS.of (i:=10) rfl AA (by rfl) ?_;refine At (v:=(.ptr 2 0 (Int.toNat i) 0)) AN AA (Ie P0 AA AA qv rfl) (AE ⟨AA,?_⟩);refine xa [11] ⟨?_,mV⟩;refine IS.of (i:=11) rfl AA (by rfl) ?_;refine Al (st':=[SH t l d sF,Qi d,⟨0,106,1,(mix (CT 3) BR (Int.toNat i) q).set (Int.toNat i) [.own 4 0 (List.length f)]⟩,Yd c,⟨0,3,1,List.map eI f⟩]) AN KL AA AA (VP hgc) rfl AA AA ql rfl (AE ⟨AA,?_⟩);refine DQ AA (by kernel_rfl) ?_;refine hK34 _ ?_;refine AJ (ON (id:=2) (m:=4) (i:=Int.toNat i) (j:=0) (st':=[⟨0,104,3,(mix (Av 106 3) Ak (Int.toNat t) l).set (Int.toNat t) [i64 d.from_,i64 d.to,.own 2 0 (List.length sF)]⟩,⟨0,104,3,[[i64 d.from_,i64 d.to,ls BR d.cons]]⟩,⟨0,106,1,mix (CT 3) BR (Int.toNat i+1) (Sh.put q i (BN.mk f))⟩,⟨0,106,1,[[ls eI c.fields]]⟩,⟨1,3,1,[]⟩]) rfl (mc hkc) rfl AA (by simp) (by decide) (mi _) (RC.HW λ_=>AA) (by rw[<- hmixc];rfl)) ?_;refine AJ (VE (L:=[(3,D9 q9),(4,i64 t),(10,D9 q9),(11,MP q9),(12,i64 t),(25,Lp d),(26,MW d),(27,i64 i)]) (st':=[SH t l d sF,Qi d,⟨0,106,1,mix (CT 3) BR (Int.toNat i+1) (Sh.put q i (BN.mk f))⟩]) [0,1,2] (by decide) rfl AA hselr ⟨.rfl,.rfl,.rfl,.rfl,.rfl,.rfl,.rfl,.rfl,mV⟩) ?_;refine AG (by rfl) ?_;refine At (v:=(i64 (Sh.w (i+1)))) AN AA (Xc AA AA) ?_;refine At (v:=(i64 (Sh.w (i+1)))) AN AA (Lc AA) ?_;have htc:i<(d.cons.length:Int):=nh b33;have xy:Sh.w (i+1)=i+1:=Go.Abs.wrap_i64 (by omega) (by omega);have ht2:Int.toNat (Sh.w (i+1))=Int.toNat i+1:=by rw[xy];omega
        exact AE (Exists.intro (Sh.w (i+1),Sh.put q i (BN.mk f)) (And.intro ⟨h2,by rw[Sh.Ap];exact hlq,by rw[xy];omega,by rw[xy];omega⟩ ((As (L:=[(3,.own 0 0 (List.length q9)),(4,i64 t),(10,.own 0 0 (List.length q9)),(11,i64 (Sh.len q9)),(12,i64 t),(25,ls BR d.cons),(26,i64 (Sh.len d.cons)),(27,i64 (Sh.w (i+1)))]) ⟨.rfl,.rfl,.rfl,.rfl,.rfl,.rfl,.rfl,.rfl,mV⟩).trans (CB (by rw[ht2]))))))
      have A_32:A 4 (bm 12 255) ⟨46,AM [(3,D9 q9),(4,i64 t),(6,i64 i),(7,IC),(10,D9 q9),(11,MP q9),(12,i64 t),(25,Lp d),(26,MW d),(27,i64 i),(32,D9 q9),(33,i64 t),(37,i64 i),(34,UO t),(35,TS t),(36,.own 2 0 (List.length sF)),(38,IC),(39,ls eI c.fields)],QR t l d sF i q c⟩:=(hA _ _ _).2 (by
        refine xa [8] ⟨?_,mV⟩
        · refine IS.of (i:=8) rfl AA (by rfl) ?_;refine A8 (v':=(.own 4 0 (List.length f))) (st':=[SH t l d sF,Qi d,Xa i q,Yd c,⟨0,3,1,List.map eI f⟩]) AN cT (Ba gf) rfl AA ⟨(A9 λ_=>AA),mV⟩ AA AA (AE ⟨AA,?_⟩);exact xt hA A_33)
      have A_23:A 4 (bm 12 495) ⟨46,AM [(3,D9 q9),(4,i64 t),(6,i64 i),(7,IC),(10,D9 q9),(11,MP q9),(12,i64 t),(25,Lp d),(26,MW d),(27,i64 i),(32,D9 q9),(33,i64 t),(37,i64 i),(34,UO t),(35,TS t),(38,IC),(39,ls eI c.fields),(40,.own 4 0 (List.length f))],[SH t l d sF,Qi d,Xa i q,Yd c,⟨0,3,1,List.map eI f⟩]⟩:=(hA _ _ _).2 (by
        refine xa [4] ⟨?_,mV⟩
        · refine IS.of (i:=4) rfl AA (by rfl) ?_;refine At (v:=(.own 2 0 (List.length sF))) AN AA (DH Mv AA AA (mc vK) rfl) (AE ⟨AA,?_⟩);exact xt hA A_33)
      have A_31:A 5 (bm 12 127) ⟨46,AM [(3,D9 q9),(4,i64 t),(6,i64 i),(7,IC),(10,D9 q9),(11,MP q9),(12,i64 t),(25,Lp d),(26,MW d),(27,i64 i),(32,D9 q9),(33,i64 t),(37,i64 i),(34,UO t),(35,TS t),(36,.own 2 0 (List.length sF)),(38,IC)],QR t l d sF i q c⟩:=(hA _ _ _).2 (by
        refine xa [7] ⟨?_,mV⟩
        · refine IS.of (i:=7) rfl AA (by rfl) ?_;refine At (v:=(ls eI c.fields)) AN AA (DH KL AA AA AA AA) (AE ⟨AA,?_⟩);exact xt hA A_32)
      have A_22:A 5 (bm 12 239) ⟨46,AM [(3,D9 q9),(4,i64 t),(6,i64 i),(7,IC),(10,D9 q9),(11,MP q9),(12,i64 t),(25,Lp d),(26,MW d),(27,i64 i),(32,D9 q9),(33,i64 t),(37,i64 i),(34,UO t),(35,TS t),(38,IC),(39,ls eI c.fields)],QR t l d sF i q c⟩:=(hA _ _ _).2 (by
        refine xa [4,8] ⟨?_,?_,mV⟩
        · refine IS.of (i:=4) rfl AA (by rfl) ?_;refine At (v:=(.own 2 0 (List.length sF))) AN AA (DH Mv AA AA (mc vK) rfl) (AE ⟨AA,?_⟩);exact xt hA A_32
        · refine IS.of (i:=8) rfl AA (by rfl) ?_;refine A8 (v':=(.own 4 0 (List.length f))) (st':=[SH t l d sF,Qi d,Xa i q,Yd c,⟨0,3,1,List.map eI f⟩]) AN cT (Ba gf) rfl AA ⟨(A9 λ_=>AA),mV⟩ AA AA (AE ⟨AA,?_⟩);exact xt hA A_23)
      have A_13:A 5 (bm 12 487) ⟨46,AM [(3,D9 q9),(4,i64 t),(6,i64 i),(7,IC),(10,D9 q9),(11,MP q9),(12,i64 t),(25,Lp d),(26,MW d),(27,i64 i),(32,D9 q9),(33,i64 t),(37,i64 i),(34,UO t),(38,IC),(39,ls eI c.fields),(40,.own 4 0 (List.length f))],[SH t l d sF,Qi d,Xa i q,Yd c,⟨0,3,1,List.map eI f⟩]⟩:=(hA _ _ _).2 (by
        refine xa [3] ⟨?_,mV⟩
        · refine IS.of (i:=3) rfl AA (by rfl) ?_;refine At (v:=(TS t)) AN AA (Ie MN AA AA qs rfl) (AE ⟨AA,?_⟩);exact xt hA A_23)
      have A_30:A 6 (bm 12 63) ⟨46,AM [(3,D9 q9),(4,i64 t),(6,i64 i),(7,IC),(10,D9 q9),(11,MP q9),(12,i64 t),(25,Lp d),(26,MW d),(27,i64 i),(32,D9 q9),(33,i64 t),(37,i64 i),(34,UO t),(35,TS t),(36,.own 2 0 (List.length sF))],QR t l d sF i q c⟩:=(hA _ _ _).2 (by
        refine xa [6] ⟨?_,mV⟩
        · refine IS.of (i:=6) rfl AA (by rfl) ?_;refine At (v:=IC) AN AA (Ie P0 AA AA qv rfl) (AE ⟨AA,?_⟩);exact xt hA A_31)
      have A_21:A 6 (bm 12 111) ⟨46,AM [(3,D9 q9),(4,i64 t),(6,i64 i),(7,IC),(10,D9 q9),(11,MP q9),(12,i64 t),(25,Lp d),(26,MW d),(27,i64 i),(32,D9 q9),(33,i64 t),(37,i64 i),(34,UO t),(35,TS t),(38,IC)],QR t l d sF i q c⟩:=(hA _ _ _).2 (by
        refine xa [4,7] ⟨?_,?_,mV⟩
        · refine IS.of (i:=4) rfl AA (by rfl) ?_;refine At (v:=(.own 2 0 (List.length sF))) AN AA (DH Mv AA AA (mc vK) rfl) (AE ⟨AA,?_⟩);exact xt hA A_31
        · refine IS.of (i:=7) rfl AA (by rfl) ?_;refine At (v:=(ls eI c.fields)) AN AA (DH KL AA AA AA AA) (AE ⟨AA,?_⟩);exact xt hA A_22)
      have A_12:A 6 (bm 12 231) ⟨46,AM [(3,D9 q9),(4,i64 t),(6,i64 i),(7,IC),(10,D9 q9),(11,MP q9),(12,i64 t),(25,Lp d),(26,MW d),(27,i64 i),(32,D9 q9),(33,i64 t),(37,i64 i),(34,UO t),(38,IC),(39,ls eI c.fields)],QR t l d sF i q c⟩:=(hA _ _ _).2 (by
        refine xa [3,8] ⟨?_,?_,mV⟩
        · refine IS.of (i:=3) rfl AA (by rfl) ?_;refine At (v:=(TS t)) AN AA (Ie MN AA AA qs rfl) (AE ⟨AA,?_⟩);exact xt hA A_22
        · refine IS.of (i:=8) rfl AA (by rfl) ?_;refine A8 (v':=(.own 4 0 (List.length f))) (st':=[SH t l d sF,Qi d,Xa i q,Yd c,⟨0,3,1,List.map eI f⟩]) AN cT (Ba gf) rfl AA ⟨(A9 λ_=>AA),mV⟩ AA AA (AE ⟨AA,?_⟩);exact xt hA A_13)
      have A_03:A 6 (bm 12 483) ⟨46,AM [(3,D9 q9),(4,i64 t),(6,i64 i),(7,IC),(10,D9 q9),(11,MP q9),(12,i64 t),(25,Lp d),(26,MW d),(27,i64 i),(32,D9 q9),(33,i64 t),(37,i64 i),(38,IC),(39,ls eI c.fields),(40,.own 4 0 (List.length f))],[SH t l d sF,Qi d,Xa i q,Yd c,⟨0,3,1,List.map eI f⟩]⟩:=(hA _ _ _).2 (by
        refine xa [2] ⟨?_,mV⟩
        · refine IS.of (i:=2) rfl AA (by rfl) ?_;refine At (v:=(.ptr 0 0 (Int.toNat t) 0)) AN AA (OO DZ AA AA AA wb wU (by first|rfl|(rw[GA];omega)|(simp[GA];omega))) (AE ⟨AA,?_⟩);exact xt hA A_13)
      have A_20:A 7 (bm 12 47) ⟨46,AM [(3,D9 q9),(4,i64 t),(6,i64 i),(7,IC),(10,D9 q9),(11,MP q9),(12,i64 t),(25,Lp d),(26,MW d),(27,i64 i),(32,D9 q9),(33,i64 t),(37,i64 i),(34,UO t),(35,TS t)],QR t l d sF i q c⟩:=(hA _ _ _).2 (by
        refine xa [4,6] ⟨?_,?_,mV⟩
        · refine IS.of (i:=4) rfl AA (by rfl) ?_;refine At (v:=(.own 2 0 (List.length sF))) AN AA (DH Mv AA AA (mc vK) rfl) (AE ⟨AA,?_⟩);exact xt hA A_30
        · refine IS.of (i:=6) rfl AA (by rfl) ?_;refine At (v:=IC) AN AA (Ie P0 AA AA qv rfl) (AE ⟨AA,?_⟩);exact xt hA A_21)
      have A_11:A 7 (bm 12 103) ⟨46,AM [(3,D9 q9),(4,i64 t),(6,i64 i),(7,IC),(10,D9 q9),(11,MP q9),(12,i64 t),(25,Lp d),(26,MW d),(27,i64 i),(32,D9 q9),(33,i64 t),(37,i64 i),(34,UO t),(38,IC)],QR t l d sF i q c⟩:=(hA _ _ _).2 (by
        refine xa [3,7] ⟨?_,?_,mV⟩
        · refine IS.of (i:=3) rfl AA (by rfl) ?_;refine At (v:=(TS t)) AN AA (Ie MN AA AA qs rfl) (AE ⟨AA,?_⟩);exact xt hA A_21
        · refine IS.of (i:=7) rfl AA (by rfl) ?_;refine At (v:=(ls eI c.fields)) AN AA (DH KL AA AA AA AA) (AE ⟨AA,?_⟩);exact xt hA A_12)
      have A_02:A 7 (bm 12 227) ⟨46,AM [(3,D9 q9),(4,i64 t),(6,i64 i),(7,IC),(10,D9 q9),(11,MP q9),(12,i64 t),(25,Lp d),(26,MW d),(27,i64 i),(32,D9 q9),(33,i64 t),(37,i64 i),(38,IC),(39,ls eI c.fields)],QR t l d sF i q c⟩:=(hA _ _ _).2 (by
        refine xa [2,8] ⟨?_,?_,mV⟩
        · refine IS.of (i:=2) rfl AA (by rfl) ?_;refine At (v:=(.ptr 0 0 (Int.toNat t) 0)) AN AA (OO DZ AA AA AA wb wU (by first|rfl|(rw[GA];omega)|(simp[GA];omega))) (AE ⟨AA,?_⟩);exact xt hA A_12
        · refine IS.of (i:=8) rfl AA (by rfl) ?_;refine A8 (v':=(.own 4 0 (List.length f))) (st':=[SH t l d sF,Qi d,Xa i q,Yd c,⟨0,3,1,List.map eI f⟩]) AN cT (Ba gf) rfl AA ⟨(A9 λ_=>AA),mV⟩ AA AA (AE ⟨AA,?_⟩);exact xt hA A_03)
      have A_10:A 8 (bm 12 39) ⟨46,AM [(3,D9 q9),(4,i64 t),(6,i64 i),(7,IC),(10,D9 q9),(11,MP q9),(12,i64 t),(25,Lp d),(26,MW d),(27,i64 i),(32,D9 q9),(33,i64 t),(37,i64 i),(34,UO t)],QR t l d sF i q c⟩:=(hA _ _ _).2 (by
        refine xa [3,6] ⟨?_,?_,mV⟩
        · refine IS.of (i:=3) rfl AA (by rfl) ?_;refine At (v:=(TS t)) AN AA (Ie MN AA AA qs rfl) (AE ⟨AA,?_⟩);exact xt hA A_20
        · refine IS.of (i:=6) rfl AA (by rfl) ?_;refine At (v:=IC) AN AA (Ie P0 AA AA qv rfl) (AE ⟨AA,?_⟩);exact xt hA A_11)
      have A_01:A 8 (bm 12 99) ⟨46,AM [(3,D9 q9),(4,i64 t),(6,i64 i),(7,IC),(10,D9 q9),(11,MP q9),(12,i64 t),(25,Lp d),(26,MW d),(27,i64 i),(32,D9 q9),(33,i64 t),(37,i64 i),(38,IC)],QR t l d sF i q c⟩:=(hA _ _ _).2 (by
        refine xa [2,7] ⟨?_,?_,mV⟩
        · refine IS.of (i:=2) rfl AA (by rfl) ?_;refine At (v:=(.ptr 0 0 (Int.toNat t) 0)) AN AA (OO DZ AA AA AA wb wU (by first|rfl|(rw[GA];omega)|(simp[GA];omega))) (AE ⟨AA,?_⟩);exact xt hA A_11
        · refine IS.of (i:=7) rfl AA (by rfl) ?_;refine At (v:=(ls eI c.fields)) AN AA (DH KL AA AA AA AA) (AE ⟨AA,?_⟩);exact xt hA A_02)
      have A_00:A 9 (bm 12 35) ⟨46,AM [(3,D9 q9),(4,i64 t),(6,i64 i),(7,IC),(10,D9 q9),(11,MP q9),(12,i64 t),(25,Lp d),(26,MW d),(27,i64 i),(32,D9 q9),(33,i64 t),(37,i64 i)],QR t l d sF i q c⟩:=(hA _ _ _).2 (by
        refine xa [2,6] ⟨?_,?_,mV⟩
        · refine IS.of (i:=2) rfl AA (by rfl) ?_;refine At (v:=(.ptr 0 0 (Int.toNat t) 0)) AN AA (OO DZ AA AA AA wb wU (by first|rfl|(rw[GA];omega)|(simp[GA];omega))) (AE ⟨AA,?_⟩);exact xt hA A_10
        · refine IS.of (i:=6) rfl AA (by rfl) ?_;refine At (v:=IC) AN AA (Ie P0 AA AA qv rfl) (AE ⟨AA,?_⟩);exact xt hA A_01)
      have B_2:A 10 (bm 12 3) ⟨46,AM [(3,D9 q9),(4,i64 t),(6,i64 i),(7,IC),(10,D9 q9),(11,MP q9),(12,i64 t),(25,Lp d),(26,MW d),(27,i64 i),(32,D9 q9),(33,i64 t)],QR t l d sF i q c⟩:=(hA _ _ _).2 (by
        refine LD 5 (v:=(i64 i)) rfl AA (by kernel_rfl) (by kernel_rfl) (by kernel_rfl) rfl (NQ AA) ?_;exact xt hA A_00)
      have B_1:A 11 (bm 12 1) ⟨46,AM [(3,D9 q9),(4,i64 t),(6,i64 i),(7,IC),(10,D9 q9),(11,MP q9),(12,i64 t),(25,Lp d),(26,MW d),(27,i64 i),(32,D9 q9)],QR t l d sF i q c⟩:=(hA _ _ _).2 (by
        refine LD 1 (v:=(i64 t)) rfl AA (by kernel_rfl) (by kernel_rfl) (by kernel_rfl) rfl (NQ AA) ?_;exact xt hA B_2)
      have B_0:A 12 (bm 12 0) ⟨46,AM [(3,D9 q9),(4,i64 t),(6,i64 i),(7,IC),(10,D9 q9),(11,MP q9),(12,i64 t),(25,Lp d),(26,MW d),(27,i64 i)],QR t l d sF i q c⟩:=(hA _ _ _).2 (by
        refine LD 0 (v:=(D9 q9)) rfl AA (by kernel_rfl) (by kernel_rfl) (by kernel_rfl) rfl (NQ AA) ?_;exact xt hA B_1)
      exact (hA _ _ _).2 (Wl (by kernel_rfl) ((hA _ _ _).1 B_0))
    · replace h2:=Sh.fI b33 h2;have xF:mix (CT 3) BR (Int.toNat i) q=List.map (CT 3) q:=W4 (by have h:=pg b33;simp only[Sh.len]at h;omega);exact Ad (M22 q (Sh.AF h2).symm hlq _ ((As (L:=[(3,.own 0 0 (List.length q9)),(10,.own 0 0 (List.length q9)),(11,i64 (Sh.len q9)),(12,i64 t)]) ⟨.rfl,.rfl,.rfl,.rfl,mV⟩).trans (CB (by rw[xF]))))
  · replace h1:=Sh.fI b13 h1;have xF:mix (Av 106 3) Ak (Int.toNat t) l=List.map (Av 106 3) l:=W4 (by have h:=pg b13;simp only[Sh.len]at h;omega);exact Ad (M9 l (Sh.AF h1).symm xE _ ((As (L:=[(3,.own 0 0 (List.length q9))]) ⟨.rfl,mV⟩).trans (CB (by rw[xF]))))
end
end Go.Proofs.YtccficmcdkcpnaaGreat.Cl
