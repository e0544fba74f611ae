/- The copy of declarations: a row that owns all that lies under it. -/
import Derived.Test.YtihdgoiebmfapaaGreatCEWalk
import Derived.Test.YtihdgoiebmfapaaGreatGCloneDToCloneE
set_option linter.all false
namespace Go.Proofs.YtihdgoiebmfapaaGreat.Cl
noncomputable section
open Go Go.Abs RC
set_option maxRecDepth 100000
abbrev Rc (z0 z1:_)(z2:AK){α3:Type}(z3:List α3)(z4 z5:_)(z6:D7):=([⟨0,80,3,(mix (Bu 82 3) Ah (Int.toNat z0) z1).set (Int.toNat z0) [i64 z2.from_,i64 z2.to,.own 2 0 (List.length z3)]⟩,⟨0,80,3,[[i64 z2.from_,i64 z2.to,ls CL z2.cons]]⟩,⟨0,82,1,mix (H8 3) CL (Int.toNat z4) z5⟩,⟨0,82,1,[[ls eI z6.fields]]⟩]:List Row)
abbrev UI (z0 z1:_)(z2:AK){α3:Type}(z3:List α3):=(⟨0,80,3,(mix (Bu 82 3) Ah (Int.toNat z0) z1).set (Int.toNat z0) [i64 z2.from_,i64 z2.to,.own 2 0 (List.length z3)]⟩:Row)
abbrev FH {α0:Type}(z0:List α0):=((.own 0 0 (List.length z0)):AV)
abbrev Rb (z0:AK):=(⟨0,80,3,[[i64 z0.from_,i64 z0.to,ls CL z0.cons]]⟩:Row)
abbrev Jm:=((.ptr 3 0 0 0):AV)
abbrev bB (z0 z1:_):=(⟨0,82,1,mix (H8 3) CL (Int.toNat z0) z1⟩:Row)
abbrev Nr (z0:AK):=((i64 (Sh.len z0.cons)):AV)
abbrev Z4 (z0:D7):=(⟨0,82,1,[[ls eI z0.fields]]⟩:Row)
abbrev My (z0:AK):=((ls CL z0.cons):AV)
abbrev Uw z0:=((.ptr 0 0 (Int.toNat z0) 2):AV)
abbrev Wg z0:=((.ptr 0 0 (Int.toNat z0) 0):AV)
abbrev NI {α0:Type}(z0:List α0):=((i64 (Sh.len z0)):AV)
set_option maxHeartbeats 4000000
theorem KP:Dc Tryz.prog 80=some (true,3):=by kernel_rfl
theorem Pw:Dc Tryz.prog 82=some (true,1):=by kernel_rfl
theorem Xy:Dc Tryz.prog 78=some (false,1):=by kernel_rfl
theorem Le:Dc Tryz.prog 32=some (false,1):=by kernel_rfl
theorem Po:IH Tryz.prog 80 2=some 2:=by kernel_rfl
theorem UO:IH Tryz.prog 82 0=some 0:=by kernel_rfl
theorem HV:IK Tryz.prog 80=some [.int .i64 0,.int .i64 0,.zc]:=by kernel_rfl
theorem SB:IK Tryz.prog 82=some [.zc]:=by kernel_rfl
theorem mQ:Cq Tryz.prog 124=true:=by kernel_rfl
theorem mn:Cq Tryz.prog 125=true:=by kernel_rfl
theorem fU:Cq Tryz.prog 82=true:=by kernel_rfl
theorem Wm:True:=oz
theorem QC {N:Nat}{p0 r:List AK}(h0:Ij N p0=some r):BJ Tryz.prog 90 [ls Ah p0] [] (λv st=>v=(FH r)/\st=[⟨0,80,3,List.map (Bu 82 3) r⟩]):=by
  unfold Ij at h0;refine BJ.intro Tryz.func90 AA (by show 1<=46;decide) ?_;show AW _ 0 _ (fy _ 0 Tryz.f90 _) ⟨46,_,_⟩;refine AG (Ag (L:=[(0,ls Ah p0)]) ⟨.rfl,oz⟩) ?_;refine AE λK1 hK1=>?_;refine AF (by rfl) ?_;refine BW (v:=.zc) AN AA (VY AA) ?_;refine AB (hK1 _ ?_);refine AE λK2 hK2=>?_;refine AF (by rfl) ?_;refine BW (v:=ls Ah p0) AN AA (BQ AA) ?_;obtain⟨q9,gq9,h0⟩:=Sh.bind_some h0;refine Bo (v':=FH q9) (st':=[⟨0,80,3,List.map Ah q9⟩]) AN mQ (KQ gq9) rfl AA ⟨(Bq λ_=>AA),oz⟩ AA AA ?_;refine BW (v:=FH q9) AN AA (VY AA) ?_;refine AB (hK2 _ ?_);have vp:q9.length<=9223372036854775807:=by
    unfold DY at gq9;obtain⟨x,hx,hs⟩:=Sh.bind_some gq9;unfold Sh.app at hx;split at hx
    · rename_i hb;simp only[pC]at hx hs;rw[<- hs,<- hx];simpa using hb.2
    · cases hx
  refine AE λK4 hK4=>?_;refine AE λK5 hK5=>?_;refine AF (by rfl) ?_;refine BW (v:=FH q9) AN AA (BQ AA) ?_;refine BW (v:=NI q9) AN AA (DE TM AA AA AA) ?_;refine BW (v:=i64 0) AN AA (BQ AA) ?_;refine AB (hK5 _ ?_);obtain⟨o9,h1,h0⟩:=Sh.bind_some h0;have M9:∀(l:List AK),o9=l->l.length=q9.length->∀s,Wk 0 s ⟨46,AP [(3,FH q9)],[⟨0,80,3,List.map (Bu 82 3) l⟩]⟩->K4 s:=by
    intro l hq hlen s hw;subst o9;refine hK4 _ (AG hw ?_);refine AE λK10 hK10=>?_;refine AF (by rfl) ?_;refine BW (v:=FH q9) AN AA (BQ AA) ?_;refine BW (v:=FH q9) AN AA (VY AA) ?_;refine AB (hK10 _ ?_);obtain rfl:=Sh.BU h0;exact Am (Exists.intro _ (And.intro (Ag (L:=[(2,.own 0 0 (List.length q9))]) ⟨.rfl,oz⟩) (And.intro (by show _=AV.own 0 0 l.length;rw[hlen];rfl) rfl)))
  refine AL (An (σ:=Int×(List AK)) (λn v=>En N (Sh.len q9) n v.1 v.2=some o9/\v.2.length=q9.length/\0<=v.1/\v.1<=q9.length) (λ(t,l)=>⟨46,AP [(3,.own 0 0 (List.length q9)),(10,.own 0 0 (List.length q9)),(11,i64 (Sh.len q9)),(12,i64 t)],[⟨0,80,3,mix (Bu 82 3) Ah (Int.toNat t) l⟩]⟩) N (0,q9) ⟨h1,AA,tJ _,sM _⟩ ((Ag (L:=[(3,.own 0 0 (List.length q9)),(10,.own 0 0 (List.length q9)),(11,i64 (Sh.len q9)),(12,i64 0)]) ⟨.rfl,.rfl,.rfl,.rfl,oz⟩).trans (GB (by rw[show Int.toNat 0=0 from AA,Za]))) (λ_ hv=>by have hv:=hv.1;rw[En]at hv;cases hv) ?_);rintro n ⟨t,l⟩ ⟨h1,zL,ht0,ht1⟩;try dsimp only at h1 zL ht0 ht1⊢
  rw[En]at h1;refine AE λK11 hK11=>?_;refine AF (by rfl) ?_;refine BW (v:=.bool (decide (t<Sh.len q9))) AN AA (dx AA AA) ?_;refine AB (hK11 _ ?_);refine AE λK12 hK12=>?_;refine G0 (b:=decide (t<Sh.len q9)) rfl (λb13=>?_) (λb13=>?_)
  · replace h1:=Sh.ij b13 h1;refine AH (hK12 _ ?_);have yi:t<(q9.length:Int):=ql b13;obtain⟨d,gd,h1⟩:=Sh.bind_some h1;obtain⟨vB,gq21,h1⟩:=Sh.bind_some h1;obtain⟨o22,h2,h1⟩:=Sh.bind_some h1;have uD:l[Int.toNat t]?=some d:=by have h:=gd;unfold Sh.get at h;rw[pI ht0]at h;exact h
    have xz:Int.toNat t<(mix (Bu 82 3) Ah (Int.toNat t) l).length:=by rw[HI];exact (pA.1 uD).1
    have hpd:DF (mix (Bu 82 3) Ah (Int.toNat t) l):=Ue (λ_=>rfl) (λ_=>rfl);refine AE λK14 hK14=>?_;refine AL ?_;refine AE λK15 hK15=>?_;refine AF (by rfl) ?_;refine BW (v:=i64 t) AN AA (BQ AA) ?_;refine BW (v:=.ptr 0 0 (Int.toNat t) 0) AN AA (PC DI AA AA AA ht0 yi (by first|rfl|(rw[HI];omega)|(simp[HI];omega))) ?_;refine BW (v:=.agg [i64 d.from_,i64 d.to,My d]) AN AA (Cp KP AA AA (YL uD) tK rfl) ?_;refine KB (m:=1) (st':=[⟨0,80,3,mix (Bu 82 3) Ah (Int.toNat t) l⟩,⟨0,80,3,[[i64 0,i64 0,.zc]]⟩]) AN HV AA AA ?_;refine BW (v:=i64 t) AN AA (VY AA) ?_;refine Ja (st':=[⟨0,80,3,mix (Bu 82 3) Ah (Int.toNat t) l⟩,Rb d]) AN KP AA AA AA AA AA AA tK rfl ?_;refine AB (hK15 _ ?_);refine AE λK16 hK16=>?_;refine AF (by rfl) ?_;refine BW (v:=FH q9) AN AA (BQ AA) ?_;refine BW (v:=i64 t) AN AA (BQ AA) ?_;refine BW (v:=.ptr 1 0 0 2) AN AA (FN Po AA AA tP rfl) ?_;refine BW (v:=My d) AN AA (CF Xy AA AA AA AA) ?_;refine Bo (v':=.own 2 0 (List.length vB)) (st':=[⟨0,80,3,mix (Bu 82 3) Ah (Int.toNat t) l⟩,Rb d,⟨0,82,1,List.map CL vB⟩]) AN mn (Kp gq21) rfl AA ⟨(Bq λ_=>AA),oz⟩ AA AA ?_;refine BW (v:=.ptr 0 0 (Int.toNat t) 0) AN AA (PC DI AA AA AA ht0 yi (by first|rfl|(rw[HI];omega)|(simp[HI];omega))) ?_;refine BW (v:=Uw t) AN AA (FN Po AA AA tP rfl) ?_;refine Ja (st':=[UI t l d vB,Rb d,⟨0,82,1,List.map CL vB⟩]) AN Xy AA AA (YL uD) rfl AA AA (show 2+1<=3 by decide) rfl ?_;refine AB (hK16 _ ?_);refine AE λK17 hK17=>?_;refine AF (by rfl) ?_;refine BW (v:=.ptr 1 0 0 2) AN AA (FN Po AA AA tP rfl) ?_;refine BW (v:=My d) AN AA (CF Xy AA AA AA AA) ?_;refine BW (v:=Nr d) AN AA (CU Q9 AA) ?_;refine BW (v:=i64 0) AN AA (BQ AA) ?_;refine AB (hK17 _ ?_);have M22:∀(q:List D7),o22=q->q.length=vB.length->∀s,Wk 0 s ⟨46,AP [(3,FH q9),(10,FH q9),(11,NI q9),(12,i64 t)],[UI t l d vB,Rb d,⟨0,82,1,List.map (H8 3) q⟩]⟩->K14 s:=by
      intro q hq hlq s hw;subst o22;refine hK14 _ (AG hw ?_);have hmix:((mix (Bu 82 3) Ah (Int.toNat t) l).set (Int.toNat t) [i64 d.from_,i64 d.to,.own 2 0 (List.length vB)]).set (Int.toNat t) (Bu 82 3 (AK.mk d.from_ d.to q))=mix (Bu 82 3) Ah (Int.toNat t+1) (Sh.put l t (AK.mk d.from_ d.to q)):=by rw[List.set_set];exact cr uD
      refine AG (LW (id:=0) (m:=2) (i:=Int.toNat t) (j:=2) (st':=[⟨0,80,3,mix (Bu 82 3) Ah (Int.toNat t+1) (Sh.put l t (AK.mk d.from_ d.to q))⟩,⟨0,80,3,[[i64 d.from_,i64 d.to,ls CL d.cons]]⟩,⟨1,82,1,[]⟩]) rfl (pO xz) rfl AA (by simp[hlq]) (by decide) (pT _) (RC.J3 λ_=>AA) (by rw[<- hmix];rfl)) ?_;refine AG (XK (L:=[(3,.own 0 0 (List.length q9)),(10,.own 0 0 (List.length q9)),(11,i64 (Sh.len q9)),(12,i64 t)]) (st':=[⟨0,80,3,mix (Bu 82 3) Ah (Int.toNat t+1) (Sh.put l t (AK.mk d.from_ d.to q))⟩]) [0] (by decide) rfl AA (λrow h=>by rw[pS.1 h];exact PJ (Ue (λ_=>AA) (λ_=>AA))) ⟨.rfl,.rfl,.rfl,.rfl,oz⟩) ?_;refine AF (by rfl) ?_;refine BW (v:=i64 (Sh.w (t+1))) AN AA (UB AA AA) ?_;refine BW (v:=i64 (Sh.w (t+1))) AN AA (BQ AA) ?_;have hw1:Sh.w (t+1)=t+1:=Go.Abs.wrap_i64 (by omega) (by omega);have ht2:Int.toNat (Sh.w (t+1))=Int.toNat t+1:=by rw[hw1];omega
      exact AB (Exists.intro (Sh.w (t+1),Sh.put l t (AK.mk d.from_ d.to q)) (And.intro ⟨h1,by rw[Sh.GR];exact zL,by rw[hw1];omega,by rw[hw1];omega⟩ ((Ag (L:=[(3,.own 0 0 (List.length q9)),(10,.own 0 0 (List.length q9)),(11,i64 (Sh.len q9)),(12,i64 (Sh.w (t+1)))]) ⟨.rfl,.rfl,.rfl,.rfl,oz⟩).trans (GB (by rw[ht2])))))
    have hq0:vB.length=d.cons.length:=by
      unfold DA at gq21;obtain⟨x,hx,hs⟩:=Sh.bind_some gq21;unfold Sh.app at hx;split at hx
      · simp only[pC,qS]at hx hs;rw[<- hs,<- hx]
      · cases hx
    have hmaxc:d.cons.length<=9223372036854775807:=by
      unfold DA at gq21;obtain⟨x,hx,hs⟩:=Sh.bind_some gq21;unfold Sh.app at hx;split at hx
      · rename_i hb;simpa using hb.2
      · cases hx
    refine AL (An (σ:=Int×(List D7)) (λn v=>Er d.cons n v.1 v.2=some o22/\v.2.length=vB.length/\0<=v.1/\v.1<=d.cons.length) (λ(i,q)=>⟨46,AP [(3,.own 0 0 (List.length q9)),(4,i64 t),(10,.own 0 0 (List.length q9)),(11,i64 (Sh.len q9)),(12,i64 t),(25,ls CL d.cons),(26,i64 (Sh.len d.cons)),(27,i64 i)],[⟨0,80,3,(mix (Bu 82 3) Ah (Int.toNat t) l).set (Int.toNat t) [i64 d.from_,i64 d.to,.own 2 0 (List.length vB)]⟩,⟨0,80,3,[[i64 d.from_,i64 d.to,ls CL d.cons]]⟩,⟨0,82,1,mix (H8 3) CL (Int.toNat i) q⟩]⟩) N (0,vB) ⟨h2,AA,tJ _,sM _⟩ ((Ag (L:=[(3,.own 0 0 (List.length q9)),(4,i64 t),(10,.own 0 0 (List.length q9)),(11,i64 (Sh.len q9)),(12,i64 t),(25,ls CL d.cons),(26,i64 (Sh.len d.cons)),(27,i64 0)]) ⟨.rfl,.rfl,.rfl,.rfl,.rfl,.rfl,.rfl,.rfl,oz⟩).trans (GB (by rw[show Int.toNat 0=0 from AA,Za]))) (λ_ hv=>by have hv:=hv.1;rw[Er]at hv;cases hv) ?_);rintro n2 ⟨i,q⟩ ⟨h2,hlq,hi0,hi1⟩;try dsimp only at h2 hlq hi0 hi1⊢
    rw[Er]at h2;refine AE λK31 hK31=>?_;refine AF (by rfl) ?_;refine BW (v:=.bool (decide (i<Sh.len d.cons))) AN AA (dx AA AA) ?_;refine AB (hK31 _ ?_);refine AE λK32 hK32=>?_;refine G0 (b:=decide (i<Sh.len d.cons)) rfl (λb33=>?_) (λb33=>?_)
    · replace h2:=Sh.ij b33 h2;refine AH (hK32 _ ?_);have vk:i<(vB.length:Int):=by rw[hq0];exact ql b33
      obtain⟨c,gc,h2⟩:=Sh.bind_some h2;obtain⟨f,gf,h2⟩:=Sh.bind_some h2;obtain⟨c2,gc2,h2⟩:=Sh.bind_some h2;have hgc:q[Int.toNat i]?=some c2:=by have h:=gc2;unfold Sh.get at h;rw[pI hi0]at h;exact h
      have hkc:Int.toNat i<(mix (H8 3) CL (Int.toNat i) q).length:=by rw[HI];exact (pA.1 hgc).1
      refine AE λK34 hK34=>?_;refine AL ?_;refine AE λK35 hK35=>?_;refine AF (by rfl) ?_;refine BW (v:=i64 i) AN AA (BQ AA) ?_;refine BW (v:=.C9 (CL c) 0) AN AA (CZ JZ AA AA gc AA) ?_;refine BW (v:=.agg [ls eI c.fields]) AN AA (H0 Pw AA tQ rfl) ?_;refine KB (m:=3) (st':=[UI t l d vB,Rb d,bB i q,⟨0,82,1,[[.zc]]⟩]) AN SB AA AA ?_;refine BW (v:=i64 i) AN AA (VY AA) ?_;refine Ja (st':=Rc t l d vB i q c) AN Pw AA AA AA AA AA AA tQ rfl ?_;refine AB (hK35 _ ?_);refine AG (Ag (L:=[(3,FH q9),(4,i64 t),(6,i64 i),(7,Jm),(10,FH q9),(11,NI q9),(12,i64 t),(25,My d),(26,Nr d),(27,i64 i)]) ⟨.rfl,.rfl,.rfl,.rfl,.rfl,.rfl,.rfl,.rfl,.rfl,.rfl,oz⟩) ?_;refine Hw (by kernel_rfl) ?_;refine LB λA hA=>?_;have hmixc:((mix (H8 3) CL (Int.toNat i) q).set (Int.toNat i) [.own 4 0 (List.length f)]).set (Int.toNat i) (H8 3 (D7.mk f))=mix (H8 3) CL (Int.toNat i+1) (Sh.put q i (D7.mk f)):=by rw[List.set_set];exact cr hgc
      have hselr:∀row∈[UI t l d vB,Rb d,⟨0,82,1,mix (H8 3) CL (Int.toNat i+1) (Sh.put q i (D7.mk f))⟩],Cm [0,1,2] row=row:=by
        intro row h;rcases pK.1 h with rfl|h
        · exact cH hpd AA
        rcases pK.1 h with rfl|h
        · rfl
        rw[pS.1 h];exact PJ (Ue (λ_=>AA) (λ_=>AA))
      have A_33:A 3 (bm 12 511) ⟨46,AP [(3,FH q9),(4,i64 t),(6,i64 i),(7,Jm),(10,FH q9),(11,NI q9),(12,i64 t),(25,My d),(26,Nr d),(27,i64 i),(32,FH q9),(33,i64 t),(37,i64 i),(34,Wg t),(35,Uw t),(36,.own 2 0 (List.length vB)),(38,Jm),(39,ls eI c.fields),(40,.own 4 0 (List.length f))],[UI t l d vB,Rb d,bB i q,Z4 c,⟨0,3,1,List.map eI f⟩]⟩:=(hA _ _ _).2 (by
        refine xa [9] ⟨?_,oz⟩;refine Jp.of (i:=9) rfl AA (by rfl) ?_;refine BW (v:=.ptr 2 0 (Int.toNat i) 0) AN AA (PC JZ AA AA AA hi0 vk (by first|rfl|(rw[HI];omega)|(simp[HI];omega))) (AB ⟨AA,?_⟩);refine xa [10] ⟨?_,oz⟩;refine Jp.of (i:=10) rfl AA (by rfl) ?_;refine BW (v:=.ptr 2 0 (Int.toNat i) 0) AN AA (FN UO AA AA tT rfl) (AB ⟨AA,?_⟩);refine xa [11] ⟨?_,oz⟩;refine Jp.of (i:=11) rfl AA (by rfl) ?_;refine Ja (st':=[UI t l d vB,Rb d,⟨0,82,1,(mix (H8 3) CL (Int.toNat i) q).set (Int.toNat i) [.own 4 0 (List.length f)]⟩,Z4 c,⟨0,3,1,List.map eI f⟩]) AN Le AA AA (YL hgc) rfl AA AA tQ rfl (AB ⟨AA,?_⟩);refine Gi AA (by kernel_rfl) ?_;refine hK34 _ ?_;refine AG (LW (id:=2) (m:=4) (i:=Int.toNat i) (j:=0) (st':=[⟨0,80,3,(mix (Bu 82 3) Ah (Int.toNat t) l).set (Int.toNat t) [i64 d.from_,i64 d.to,.own 2 0 (List.length vB)]⟩,⟨0,80,3,[[i64 d.from_,i64 d.to,ls CL d.cons]]⟩,⟨0,82,1,mix (H8 3) CL (Int.toNat i+1) (Sh.put q i (D7.mk f))⟩,⟨0,82,1,[[ls eI c.fields]]⟩,⟨1,3,1,[]⟩]) rfl (pO hkc) rfl AA (by simp) (by decide) (pT _) (RC.J3 λ_=>AA) (by rw[<- hmixc];rfl)) ?_;refine AG (XK (L:=[(3,FH q9),(4,i64 t),(10,FH q9),(11,NI q9),(12,i64 t),(25,My d),(26,Nr d),(27,i64 i)]) (st':=[UI t l d vB,Rb d,⟨0,82,1,mix (H8 3) CL (Int.toNat i+1) (Sh.put q i (D7.mk f))⟩]) [0,1,2] (by decide) rfl AA hselr ⟨.rfl,.rfl,.rfl,.rfl,.rfl,.rfl,.rfl,.rfl,oz⟩) ?_;refine AF (by rfl) ?_;refine BW (v:=i64 (Sh.w (i+1))) AN AA (UB AA AA) ?_;refine BW (v:=i64 (Sh.w (i+1))) AN AA (BQ AA) ?_;have htc:i<(d.cons.length:Int):=ql b33;have hw1:Sh.w (i+1)=i+1:=Go.Abs.wrap_i64 (by omega) (by omega);have ht2:Int.toNat (Sh.w (i+1))=Int.toNat i+1:=by rw[hw1];omega
        exact AB (Exists.intro (Sh.w (i+1),Sh.put q i (D7.mk f)) (And.intro ⟨h2,by rw[Sh.GR];exact hlq,by rw[hw1];omega,by rw[hw1];omega⟩ ((Ag (L:=[(3,.own 0 0 (List.length q9)),(4,i64 t),(10,.own 0 0 (List.length q9)),(11,i64 (Sh.len q9)),(12,i64 t),(25,ls CL d.cons),(26,i64 (Sh.len d.cons)),(27,i64 (Sh.w (i+1)))]) ⟨.rfl,.rfl,.rfl,.rfl,.rfl,.rfl,.rfl,.rfl,oz⟩).trans (GB (by rw[ht2]))))))
      have A_32:A 4 (bm 12 255) ⟨46,AP [(3,FH q9),(4,i64 t),(6,i64 i),(7,Jm),(10,FH q9),(11,NI q9),(12,i64 t),(25,My d),(26,Nr d),(27,i64 i),(32,FH q9),(33,i64 t),(37,i64 i),(34,Wg t),(35,Uw t),(36,.own 2 0 (List.length vB)),(38,Jm),(39,ls eI c.fields)],Rc t l d vB i q c⟩:=(hA _ _ _).2 (by
        refine xa [8] ⟨?_,oz⟩
        · refine Jp.of (i:=8) rfl AA (by rfl) ?_;refine Bo (v':=.own 4 0 (List.length f)) (st':=[UI t l d vB,Rb d,bB i q,Z4 c,⟨0,3,1,List.map eI f⟩]) AN fU (Cr gf) rfl AA ⟨(Bq λ_=>AA),oz⟩ AA AA (AB ⟨AA,?_⟩);exact xt hA A_33)
      have A_23:A 4 (bm 12 495) ⟨46,AP [(3,FH q9),(4,i64 t),(6,i64 i),(7,Jm),(10,FH q9),(11,NI q9),(12,i64 t),(25,My d),(26,Nr d),(27,i64 i),(32,FH q9),(33,i64 t),(37,i64 i),(34,Wg t),(35,Uw t),(38,Jm),(39,ls eI c.fields),(40,.own 4 0 (List.length f))],[UI t l d vB,Rb d,bB i q,Z4 c,⟨0,3,1,List.map eI f⟩]⟩:=(hA _ _ _).2 (by
        refine xa [4] ⟨?_,oz⟩
        · refine Jp.of (i:=4) rfl AA (by rfl) ?_;refine BW (v:=.own 2 0 (List.length vB)) AN AA (CF Xy AA AA (pO xz) rfl) (AB ⟨AA,?_⟩);exact xt hA A_33)
      have A_31:A 5 (bm 12 127) ⟨46,AP [(3,FH q9),(4,i64 t),(6,i64 i),(7,Jm),(10,FH q9),(11,NI q9),(12,i64 t),(25,My d),(26,Nr d),(27,i64 i),(32,FH q9),(33,i64 t),(37,i64 i),(34,Wg t),(35,Uw t),(36,.own 2 0 (List.length vB)),(38,Jm)],Rc t l d vB i q c⟩:=(hA _ _ _).2 (by
        refine xa [7] ⟨?_,oz⟩
        · refine Jp.of (i:=7) rfl AA (by rfl) ?_;refine BW (v:=ls eI c.fields) AN AA (CF Le AA AA AA AA) (AB ⟨AA,?_⟩);exact xt hA A_32)
      have A_22:A 5 (bm 12 239) ⟨46,AP [(3,FH q9),(4,i64 t),(6,i64 i),(7,Jm),(10,FH q9),(11,NI q9),(12,i64 t),(25,My d),(26,Nr d),(27,i64 i),(32,FH q9),(33,i64 t),(37,i64 i),(34,Wg t),(35,Uw t),(38,Jm),(39,ls eI c.fields)],Rc t l d vB i q c⟩:=(hA _ _ _).2 (by
        refine xa [4,8] ⟨?_,?_,oz⟩
        · refine Jp.of (i:=4) rfl AA (by rfl) ?_;refine BW (v:=.own 2 0 (List.length vB)) AN AA (CF Xy AA AA (pO xz) rfl) (AB ⟨AA,?_⟩);exact xt hA A_32
        · refine Jp.of (i:=8) rfl AA (by rfl) ?_;refine Bo (v':=.own 4 0 (List.length f)) (st':=[UI t l d vB,Rb d,bB i q,Z4 c,⟨0,3,1,List.map eI f⟩]) AN fU (Cr gf) rfl AA ⟨(Bq λ_=>AA),oz⟩ AA AA (AB ⟨AA,?_⟩);exact xt hA A_23)
      have A_13:A 5 (bm 12 487) ⟨46,AP [(3,FH q9),(4,i64 t),(6,i64 i),(7,Jm),(10,FH q9),(11,NI q9),(12,i64 t),(25,My d),(26,Nr d),(27,i64 i),(32,FH q9),(33,i64 t),(37,i64 i),(34,Wg t),(38,Jm),(39,ls eI c.fields),(40,.own 4 0 (List.length f))],[UI t l d vB,Rb d,bB i q,Z4 c,⟨0,3,1,List.map eI f⟩]⟩:=(hA _ _ _).2 (by
        refine xa [3] ⟨?_,oz⟩
        · refine Jp.of (i:=3) rfl AA (by rfl) ?_;refine BW (v:=Uw t) AN AA (FN Po AA AA tP rfl) (AB ⟨AA,?_⟩);exact xt hA A_23)
      have A_30:A 6 (bm 12 63) ⟨46,AP [(3,FH q9),(4,i64 t),(6,i64 i),(7,Jm),(10,FH q9),(11,NI q9),(12,i64 t),(25,My d),(26,Nr d),(27,i64 i),(32,FH q9),(33,i64 t),(37,i64 i),(34,Wg t),(35,Uw t),(36,.own 2 0 (List.length vB))],Rc t l d vB i q c⟩:=(hA _ _ _).2 (by
        refine xa [6] ⟨?_,oz⟩
        · refine Jp.of (i:=6) rfl AA (by rfl) ?_;refine BW (v:=Jm) AN AA (FN UO AA AA tT rfl) (AB ⟨AA,?_⟩);exact xt hA A_31)
      have A_21:A 6 (bm 12 111) ⟨46,AP [(3,FH q9),(4,i64 t),(6,i64 i),(7,Jm),(10,FH q9),(11,NI q9),(12,i64 t),(25,My d),(26,Nr d),(27,i64 i),(32,FH q9),(33,i64 t),(37,i64 i),(34,Wg t),(35,Uw t),(38,Jm)],Rc t l d vB i q c⟩:=(hA _ _ _).2 (by
        refine xa [4,7] ⟨?_,?_,oz⟩
        · refine Jp.of (i:=4) rfl AA (by rfl) ?_;refine BW (v:=.own 2 0 (List.length vB)) AN AA (CF Xy AA AA (pO xz) rfl) (AB ⟨AA,?_⟩);exact xt hA A_31
        · refine Jp.of (i:=7) rfl AA (by rfl) ?_;refine BW (v:=ls eI c.fields) AN AA (CF Le AA AA AA AA) (AB ⟨AA,?_⟩);exact xt hA A_22)
      have A_12:A 6 (bm 12 231) ⟨46,AP [(3,FH q9),(4,i64 t),(6,i64 i),(7,Jm),(10,FH q9),(11,NI q9),(12,i64 t),(25,My d),(26,Nr d),(27,i64 i),(32,FH q9),(33,i64 t),(37,i64 i),(34,Wg t),(38,Jm),(39,ls eI c.fields)],Rc t l d vB i q c⟩:=(hA _ _ _).2 (by
        refine xa [3,8] ⟨?_,?_,oz⟩
        · refine Jp.of (i:=3) rfl AA (by rfl) ?_;refine BW (v:=Uw t) AN AA (FN Po AA AA tP rfl) (AB ⟨AA,?_⟩);exact xt hA A_22
        · refine Jp.of (i:=8) rfl AA (by rfl) ?_;refine Bo (v':=.own 4 0 (List.length f)) (st':=[UI t l d vB,Rb d,bB i q,Z4 c,⟨0,3,1,List.map eI f⟩]) AN fU (Cr gf) rfl AA ⟨(Bq λ_=>AA),oz⟩ AA AA (AB ⟨AA,?_⟩);exact xt hA A_13)
      have A_03:A 6 (bm 12 483) ⟨46,AP [(3,FH q9),(4,i64 t),(6,i64 i),(7,Jm),(10,FH q9),(11,NI q9),(12,i64 t),(25,My d),(26,Nr d),(27,i64 i),(32,FH q9),(33,i64 t),(37,i64 i),(38,Jm),(39,ls eI c.fields),(40,.own 4 0 (List.length f))],[UI t l d vB,Rb d,bB i q,Z4 c,⟨0,3,1,List.map eI f⟩]⟩:=(hA _ _ _).2 (by
        refine xa [2] ⟨?_,oz⟩
        · refine Jp.of (i:=2) rfl AA (by rfl) ?_;refine BW (v:=.ptr 0 0 (Int.toNat t) 0) AN AA (PC DI AA AA AA ht0 yi (by first|rfl|(rw[HI];omega)|(simp[HI];omega))) (AB ⟨AA,?_⟩);exact xt hA A_13)
      have A_20:A 7 (bm 12 47) ⟨46,AP [(3,FH q9),(4,i64 t),(6,i64 i),(7,Jm),(10,FH q9),(11,NI q9),(12,i64 t),(25,My d),(26,Nr d),(27,i64 i),(32,FH q9),(33,i64 t),(37,i64 i),(34,Wg t),(35,Uw t)],Rc t l d vB i q c⟩:=(hA _ _ _).2 (by
        refine xa [4,6] ⟨?_,?_,oz⟩
        · refine Jp.of (i:=4) rfl AA (by rfl) ?_;refine BW (v:=.own 2 0 (List.length vB)) AN AA (CF Xy AA AA (pO xz) rfl) (AB ⟨AA,?_⟩);exact xt hA A_30
        · refine Jp.of (i:=6) rfl AA (by rfl) ?_;refine BW (v:=Jm) AN AA (FN UO AA AA tT rfl) (AB ⟨AA,?_⟩);exact xt hA A_21)
      have A_11:A 7 (bm 12 103) ⟨46,AP [(3,FH q9),(4,i64 t),(6,i64 i),(7,Jm),(10,FH q9),(11,NI q9),(12,i64 t),(25,My d),(26,Nr d),(27,i64 i),(32,FH q9),(33,i64 t),(37,i64 i),(34,Wg t),(38,Jm)],Rc t l d vB i q c⟩:=(hA _ _ _).2 (by
        refine xa [3,7] ⟨?_,?_,oz⟩
        · refine Jp.of (i:=3) rfl AA (by rfl) ?_;refine BW (v:=Uw t) AN AA (FN Po AA AA tP rfl) (AB ⟨AA,?_⟩);exact xt hA A_21
        · refine Jp.of (i:=7) rfl AA (by rfl) ?_;refine BW (v:=ls eI c.fields) AN AA (CF Le AA AA AA AA) (AB ⟨AA,?_⟩);exact xt hA A_12)
      have A_02:A 7 (bm 12 227) ⟨46,AP [(3,FH q9),(4,i64 t),(6,i64 i),(7,Jm),(10,FH q9),(11,NI q9),(12,i64 t),(25,My d),(26,Nr d),(27,i64 i),(32,FH q9),(33,i64 t),(37,i64 i),(38,Jm),(39,ls eI c.fields)],Rc t l d vB i q c⟩:=(hA _ _ _).2 (by
        refine xa [2,8] ⟨?_,?_,oz⟩
        · refine Jp.of (i:=2) rfl AA (by rfl) ?_;refine BW (v:=.ptr 0 0 (Int.toNat t) 0) AN AA (PC DI AA AA AA ht0 yi (by first|rfl|(rw[HI];omega)|(simp[HI];omega))) (AB ⟨AA,?_⟩);exact xt hA A_12
        · refine Jp.of (i:=8) rfl AA (by rfl) ?_;refine Bo (v':=.own 4 0 (List.length f)) (st':=[UI t l d vB,Rb d,bB i q,Z4 c,⟨0,3,1,List.map eI f⟩]) AN fU (Cr gf) rfl AA ⟨(Bq λ_=>AA),oz⟩ AA AA (AB ⟨AA,?_⟩);exact xt hA A_03)
      have A_10:A 8 (bm 12 39) ⟨46,AP [(3,FH q9),(4,i64 t),(6,i64 i),(7,Jm),(10,FH q9),(11,NI q9),(12,i64 t),(25,My d),(26,Nr d),(27,i64 i),(32,FH q9),(33,i64 t),(37,i64 i),(34,Wg t)],Rc t l d vB i q c⟩:=(hA _ _ _).2 (by
        refine xa [3,6] ⟨?_,?_,oz⟩
        · refine Jp.of (i:=3) rfl AA (by rfl) ?_;refine BW (v:=Uw t) AN AA (FN Po AA AA tP rfl) (AB ⟨AA,?_⟩);exact xt hA A_20
        · refine Jp.of (i:=6) rfl AA (by rfl) ?_;refine BW (v:=Jm) AN AA (FN UO AA AA tT rfl) (AB ⟨AA,?_⟩);exact xt hA A_11)
      have A_01:A 8 (bm 12 99) ⟨46,AP [(3,FH q9),(4,i64 t),(6,i64 i),(7,Jm),(10,FH q9),(11,NI q9),(12,i64 t),(25,My d),(26,Nr d),(27,i64 i),(32,FH q9),(33,i64 t),(37,i64 i),(38,Jm)],Rc t l d vB i q c⟩:=(hA _ _ _).2 (by
        refine xa [2,7] ⟨?_,?_,oz⟩
        · refine Jp.of (i:=2) rfl AA (by rfl) ?_;refine BW (v:=.ptr 0 0 (Int.toNat t) 0) AN AA (PC DI AA AA AA ht0 yi (by first|rfl|(rw[HI];omega)|(simp[HI];omega))) (AB ⟨AA,?_⟩);exact xt hA A_11
        · refine Jp.of (i:=7) rfl AA (by rfl) ?_;refine BW (v:=ls eI c.fields) AN AA (CF Le AA AA AA AA) (AB ⟨AA,?_⟩);exact xt hA A_02)
      have A_00:A 9 (bm 12 35) ⟨46,AP [(3,FH q9),(4,i64 t),(6,i64 i),(7,Jm),(10,FH q9),(11,NI q9),(12,i64 t),(25,My d),(26,Nr d),(27,i64 i),(32,FH q9),(33,i64 t),(37,i64 i)],Rc t l d vB i q c⟩:=(hA _ _ _).2 (by
        refine xa [2,6] ⟨?_,?_,oz⟩
        · refine Jp.of (i:=2) rfl AA (by rfl) ?_;refine BW (v:=.ptr 0 0 (Int.toNat t) 0) AN AA (PC DI AA AA AA ht0 yi (by first|rfl|(rw[HI];omega)|(simp[HI];omega))) (AB ⟨AA,?_⟩);exact xt hA A_10
        · refine Jp.of (i:=6) rfl AA (by rfl) ?_;refine BW (v:=Jm) AN AA (FN UO AA AA tT rfl) (AB ⟨AA,?_⟩);exact xt hA A_01)
      have B_2:A 10 (bm 12 3) ⟨46,AP [(3,FH q9),(4,i64 t),(6,i64 i),(7,Jm),(10,FH q9),(11,NI q9),(12,i64 t),(25,My d),(26,Nr d),(27,i64 i),(32,FH q9),(33,i64 t)],Rc t l d vB i q c⟩:=(hA _ _ _).2 (by
        refine H5 5 (v:=i64 i) rfl AA (by kernel_rfl) (by kernel_rfl) (by kernel_rfl) rfl (Ia AA) ?_;exact xt hA A_00)
      have B_1:A 11 (bm 12 1) ⟨46,AP [(3,FH q9),(4,i64 t),(6,i64 i),(7,Jm),(10,FH q9),(11,NI q9),(12,i64 t),(25,My d),(26,Nr d),(27,i64 i),(32,FH q9)],Rc t l d vB i q c⟩:=(hA _ _ _).2 (by
        refine H5 1 (v:=i64 t) rfl AA (by kernel_rfl) (by kernel_rfl) (by kernel_rfl) rfl (Ia AA) ?_;exact xt hA B_2)
      have B_0:A 12 (bm 12 0) ⟨46,AP [(3,FH q9),(4,i64 t),(6,i64 i),(7,Jm),(10,FH q9),(11,NI q9),(12,i64 t),(25,My d),(26,Nr d),(27,i64 i)],Rc t l d vB i q c⟩:=(hA _ _ _).2 (by
        refine H5 0 (v:=FH q9) rfl AA (by kernel_rfl) (by kernel_rfl) (by kernel_rfl) rfl (Ia AA) ?_;exact xt hA B_1)
      exact (hA _ _ _).2 (Bp (by kernel_rfl) ((hA _ _ _).1 B_0))
    · replace h2:=Sh.jk b33 h2;have hfull:mix (H8 3) CL (Int.toNat i) q=List.map (H8 3) q:=Zh (by have h:=sm b33;simp only[Sh.len]at h;omega);exact Au (M22 q (Sh.BU h2).symm hlq _ ((Ag (L:=[(3,.own 0 0 (List.length q9)),(10,.own 0 0 (List.length q9)),(11,i64 (Sh.len q9)),(12,i64 t)]) ⟨.rfl,.rfl,.rfl,.rfl,oz⟩).trans (GB (by rw[hfull]))))
  · replace h1:=Sh.jk b13 h1;have hfull:mix (Bu 82 3) Ah (Int.toNat t) l=List.map (Bu 82 3) l:=Zh (by have h:=sm b13;simp only[Sh.len]at h;omega);exact Au (M9 l (Sh.BU h1).symm zL _ ((Ag (L:=[(3,.own 0 0 (List.length q9))]) ⟨.rfl,oz⟩).trans (GB (by rw[hfull]))))
end
end Go.Proofs.YtihdgoiebmfapaaGreat.Cl
