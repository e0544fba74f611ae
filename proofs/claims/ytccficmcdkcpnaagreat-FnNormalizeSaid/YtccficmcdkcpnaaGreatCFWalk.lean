/- The copy of declarations: a row that owns all that lies under it. -/
import Derived.Test.YtccficmcdkcpnaaGreatCEWalk
import Derived.Test.YtccficmcdkcpnaaGreatGCloneDToCloneE
set_option linter.all false
namespace Go.Proofs.YtccficmcdkcpnaaGreat.Cl
noncomputable section
open Go Go.Abs RC
set_option maxRecDepth 100000
abbrev TE (z0 z1:_)(z2:AI){α3:Type}(z3:List α3)(z4 z5:_)(z6:EK):=([⟨0,104,3,(mix (F9 106 3) Ak (Int.toNat z0) z1).set (Int.toNat z0) [i64 z2.from_,i64 z2.to,.own 2 0 (List.length z3)]⟩,⟨0,104,3,[[i64 z2.from_,i64 z2.to,ls CP z2.cons]]⟩,⟨0,106,1,mix (IW 3) CP (Int.toNat z4) z5⟩,⟨0,106,1,[[ls eI z6.fields]]⟩]:List Row)
abbrev Uo (z0 z1:_)(z2:AI){α3:Type}(z3:List α3):=(⟨0,104,3,(mix (F9 106 3) Ak (Int.toNat z0) z1).set (Int.toNat z0) [i64 z2.from_,i64 z2.to,.own 2 0 (List.length z3)]⟩:Row)
abbrev FA {α0:Type}(z0:List α0):=((.own 0 0 (List.length z0)):AV)
abbrev TH (z0:AI):=(⟨0,104,3,[[i64 z0.from_,i64 z0.to,ls CP z0.cons]]⟩:Row)
abbrev KP:=((.ptr 3 0 0 0):AV)
abbrev bM (z0 z1:_):=(⟨0,106,1,mix (IW 3) CP (Int.toNat z0) z1⟩:Row)
abbrev O9 (z0:AI):=((i64 (Sh.len z0.cons)):AV)
abbrev ar (z0:EK):=(⟨0,106,1,[[ls eI z0.fields]]⟩:Row)
abbrev OB (z0:AI):=((ls CP z0.cons):AV)
abbrev VG (z0:_):=((.ptr 0 0 (Int.toNat z0) 2):AV)
abbrev Wh (z0:_):=((.ptr 0 0 (Int.toNat z0) 0):AV)
abbrev Oi {α0:Type}(z0:List α0):=((i64 (Sh.len z0)):AV)
set_option maxHeartbeats 4000000
theorem Hl:De Tryz.prog 104=some (true,3):=by kernel_rfl
theorem Ns:De Tryz.prog 106=some (true,1):=by kernel_rfl
theorem To:De Tryz.prog 102=some (false,1):=by kernel_rfl
theorem Mi:De Tryz.prog 45=some (false,1):=by kernel_rfl
theorem Oc:HH Tryz.prog 104 2=some 2:=by kernel_rfl
theorem SB:HH Tryz.prog 106 0=some 0:=by kernel_rfl
theorem Ev:HN Tryz.prog 104=some [.int .i64 0,.int .i64 0,.zc]:=by kernel_rfl
theorem Pf:HN Tryz.prog 106=some [.zc]:=by kernel_rfl
theorem oB:Cr Tryz.prog 102=true:=by kernel_rfl
theorem nv:Cr Tryz.prog 103=true:=by kernel_rfl
theorem gp:Cr Tryz.prog 56=true:=by kernel_rfl
theorem W5:True:=pw
theorem RV {N:Nat}{p0 r:List AI}(h0:JE N p0=some r):BS Tryz.prog 54 [ls Ak p0] [] (λv st=>v=(FA r)/\st=[⟨0,104,3,List.map (F9 106 3) r⟩]):=by
  unfold JE at h0;refine BS.intro Tryz.func54 AA (by show 1<=46;decide) ?_;show AW _ 0 _ (gA _ 0 Tryz.f54 _) ⟨46,_,_⟩;refine AF (ET (L:=[(0,ls Ak p0)]) ⟨.rfl,pw⟩) ?_;refine AD λK1 hK1=>?_;refine AE (by rfl) ?_;refine DY (v:=.zc) AT AA (VB AA) ?_;refine AB (hK1 _ ?_);refine AD λK2 hK2=>?_;refine AE (by rfl) ?_;refine DY (v:=(ls Ak p0)) AT AA (BO AA) ?_;obtain⟨q9,gq9,h0⟩:=Sh.bind_some h0;refine HZ (v':=(FA q9)) (st':=[⟨0,104,3,List.map Ak q9⟩]) AT oB (LJ gq9) rfl AA ⟨(Bj λ_=>AA),pw⟩ AA AA ?_;refine DY (v:=(FA q9)) AT AA (VB AA) ?_;refine AB (hK2 _ ?_);have xQ:q9.length<=9223372036854775807:=by
    unfold Dm at gq9;obtain⟨x,hx,hs⟩:=Sh.bind_some gq9;unfold Sh.app at hx;split at hx
    · rename_i hb;simp only[pz]at hx hs;rw[<- hs,<- hx];simpa using hb.2
    · cases hx
  refine AD λK4 hK4=>?_;refine AD λK5 hK5=>?_;refine AE (by rfl) ?_;refine DY (v:=(FA q9)) AT AA (BO AA) ?_;refine DY (v:=(Oi q9)) AT AA (C9 Ui AA AA AA) ?_;refine DY (v:=(i64 0)) AT AA (BO AA) ?_;refine AB (hK5 _ ?_);obtain⟨o9,h1,h0⟩:=Sh.bind_some h0;have M9:∀(l:List AI),o9=l->l.length=q9.length->∀s,Wk 0 s ⟨46,AL [(3,FA q9)],[⟨0,104,3,List.map (F9 106 3) l⟩]⟩->K4 s:=by
    intro l hq hlen s hw;subst o9;refine hK4 _ (AF hw ?_);refine AD λK10 hK10=>?_;refine AE (by rfl) ?_;refine DY (v:=(FA q9)) AT AA (BO AA) ?_;refine DY (v:=(FA q9)) AT AA (VB AA) ?_;refine AB (hK10 _ ?_);obtain rfl:=Sh.Bt h0;exact Ap (Exists.intro _ (And.intro (ET (L:=[(2,.own 0 0 (List.length q9))]) ⟨.rfl,pw⟩) (And.intro (by show _=AV.own 0 0 l.length;rw[hlen];rfl) rfl)))
  refine AJ (Ix (σ:=Int×(List AI)) (λn v=>Es N (Sh.len q9) n v.1 v.2=some o9/\v.2.length=q9.length/\0<=v.1/\v.1<=q9.length) (λ(t,l)=>⟨46,AL [(3,.own 0 0 (List.length q9)),(10,.own 0 0 (List.length q9)),(11,i64 (Sh.len q9)),(12,i64 t)],[⟨0,104,3,mix (F9 106 3) Ak (Int.toNat t) l⟩]⟩) N (0,q9) ⟨h1,AA,Int.le_refl _,tR _⟩ ((ET (L:=[(3,.own 0 0 (List.length q9)),(10,.own 0 0 (List.length q9)),(11,i64 (Sh.len q9)),(12,i64 0)]) ⟨.rfl,.rfl,.rfl,.rfl,pw⟩).trans (I3 (by rw[show Int.toNat 0=0 from AA,Zx]))) (λ_ hv=>by have hv:=hv.1;rw[Es]at hv;cases hv) ?_);rintro n ⟨t,l⟩ ⟨h1,hll,ht0,ht1⟩;try dsimp only at h1 hll ht0 ht1⊢
  rw[Es]at h1;refine AD λK11 hK11=>?_;refine AE (by rfl) ?_;refine DY (v:=(.bool (decide (t<(Sh.len q9))))) AT AA (fR AA AA) ?_;refine AB (hK11 _ ?_);refine AD λK12 hK12=>?_;refine HK (b:=decide (t<(Sh.len q9))) rfl (λb13=>?_) (λb13=>?_)
  · replace h1:=Sh.kx b13 h1;refine AH (hK12 _ ?_);have zP:t<(q9.length:Int):=rV b13;obtain⟨d,gd,h1⟩:=Sh.bind_some h1;obtain⟨vk,gq21,h1⟩:=Sh.bind_some h1;obtain⟨o22,h2,h1⟩:=Sh.bind_some h1;have vJ:l[Int.toNat t]?=some d:=by have h:=gd;unfold Sh.get at h;rw[qF ht0]at h;exact h
    have xu:Int.toNat t<(mix (F9 106 3) Ak (Int.toNat t) l).length:=by rw[Hc];exact (px.1 vJ).1
    have hpd:DO (mix (F9 106 3) Ak (Int.toNat t) l):=Vq (λ_=>rfl) (λ_=>rfl);refine AD λK14 hK14=>?_;refine AJ ?_;refine AD λK15 hK15=>?_;refine AE (by rfl) ?_;refine DY (v:=(i64 t)) AT AA (BO AA) ?_;refine DY (v:=(.ptr 0 0 (Int.toNat t) 0)) AT AA (RF DZ AA AA AA ht0 zP (by first|rfl|(rw[Hc];omega)|(simp[Hc];omega))) ?_;refine DY (v:=(.agg [i64 d.from_,i64 d.to,OB d])) AT AA (DD Hl AA AA (YM vJ) tr rfl) ?_;refine Vu (m:=1) (st':=[⟨0,104,3,mix (F9 106 3) Ak (Int.toNat t) l⟩,⟨0,104,3,[[i64 0,i64 0,.zc]]⟩]) AT Ev AA AA ?_;refine DY (v:=(i64 t)) AT AA (VB AA) ?_;refine Sb (st':=[⟨0,104,3,mix (F9 106 3) Ak (Int.toNat t) l⟩,TH d]) AT Hl AA AA AA AA AA AA tr rfl ?_;refine AB (hK15 _ ?_);refine AD λK16 hK16=>?_;refine AE (by rfl) ?_;refine DY (v:=(FA q9)) AT AA (BO AA) ?_;refine DY (v:=(i64 t)) AT AA (BO AA) ?_;refine DY (v:=(.ptr 1 0 0 2)) AT AA (FR Oc AA AA tz rfl) ?_;refine DY (v:=(OB d)) AT AA (CL To AA AA AA AA) ?_;refine HZ (v':=(.own 2 0 (List.length vk))) (st':=[⟨0,104,3,mix (F9 106 3) Ak (Int.toNat t) l⟩,TH d,⟨0,106,1,List.map CP vk⟩]) AT nv (L0 gq21) rfl AA ⟨(Bj λ_=>AA),pw⟩ AA AA ?_;refine DY (v:=(.ptr 0 0 (Int.toNat t) 0)) AT AA (RF DZ AA AA AA ht0 zP (by first|rfl|(rw[Hc];omega)|(simp[Hc];omega))) ?_;refine DY (v:=(VG t)) AT AA (FR Oc AA AA tz rfl) ?_;refine Sb (st':=[Uo t l d vk,TH d,⟨0,106,1,List.map CP vk⟩]) AT To AA AA (YM vJ) rfl AA AA (show 2+1<=3 by decide) rfl ?_;refine AB (hK16 _ ?_);refine AD λK17 hK17=>?_;refine AE (by rfl) ?_;refine DY (v:=(.ptr 1 0 0 2)) AT AA (FR Oc AA AA tz rfl) ?_;refine DY (v:=(OB d)) AT AA (CL To AA AA AA AA) ?_;refine DY (v:=(O9 d)) AT AA (By Oe AA) ?_;refine DY (v:=(i64 0)) AT AA (BO AA) ?_;refine AB (hK17 _ ?_);have M22:∀(q:List EK),o22=q->q.length=vk.length->∀s,Wk 0 s ⟨46,AL [(3,FA q9),(10,FA q9),(11,Oi q9),(12,i64 t)],[Uo t l d vk,TH d,⟨0,106,1,List.map (IW 3) q⟩]⟩->K14 s:=by
      intro q hq hlq s hw;subst o22;refine hK14 _ (AF hw ?_);have hmix:((mix (F9 106 3) Ak (Int.toNat t) l).set (Int.toNat t) [i64 d.from_,i64 d.to,.own 2 0 (List.length vk)]).set (Int.toNat t) (F9 106 3 (AI.mk d.from_ d.to q))=mix (F9 106 3) Ak (Int.toNat t+1) (Sh.put l t (AI.mk d.from_ d.to q)):=by rw[List.set_set];exact dJ vJ
      refine AF (UG (id:=0) (m:=2) (i:=Int.toNat t) (j:=2) (st':=[⟨0,104,3,mix (F9 106 3) Ak (Int.toNat t+1) (Sh.put l t (AI.mk d.from_ d.to q))⟩,⟨0,104,3,[[i64 d.from_,i64 d.to,ls CP d.cons]]⟩,⟨1,106,1,[]⟩]) rfl (qI xu) rfl AA (by simp[hlq]) (by decide) (qd _) (RC.Q4 λ_=>AA) (by rw[<- hmix];rfl)) ?_;refine AF (YG (L:=[(3,.own 0 0 (List.length q9)),(10,.own 0 0 (List.length q9)),(11,i64 (Sh.len q9)),(12,i64 t)]) (st':=[⟨0,104,3,mix (F9 106 3) Ak (Int.toNat t+1) (Sh.put l t (AI.mk d.from_ d.to q))⟩]) [0] (by decide) rfl AA (λrow h=>by rw[qO.1 h];exact Qf (Vq (λ_=>AA) (λ_=>AA))) ⟨.rfl,.rfl,.rfl,.rfl,pw⟩) ?_;refine AE (by rfl) ?_;refine DY (v:=(i64 (Sh.w (t+1)))) AT AA (UP AA AA) ?_;refine DY (v:=(i64 (Sh.w (t+1)))) AT AA (BO AA) ?_;have hw1:Sh.w (t+1)=t+1:=Go.Abs.wrap_i64 (by omega) (by omega);have ht2:Int.toNat (Sh.w (t+1))=Int.toNat t+1:=by rw[hw1];omega
      exact AB (Exists.intro (Sh.w (t+1),Sh.put l t (AI.mk d.from_ d.to q)) (And.intro ⟨h1,by rw[Sh.H0];exact hll,by rw[hw1];omega,by rw[hw1];omega⟩ ((ET (L:=[(3,.own 0 0 (List.length q9)),(10,.own 0 0 (List.length q9)),(11,i64 (Sh.len q9)),(12,i64 (Sh.w (t+1)))]) ⟨.rfl,.rfl,.rfl,.rfl,pw⟩).trans (I3 (by rw[ht2])))))
    have hq0:vk.length=d.cons.length:=by
      unfold DN at gq21;obtain⟨x,hx,hs⟩:=Sh.bind_some gq21;unfold Sh.app at hx;split at hx
      · simp only[pz,rN]at hx hs;rw[<- hs,<- hx]
      · cases hx
    have hmaxc:d.cons.length<=9223372036854775807:=by
      unfold DN at gq21;obtain⟨x,hx,hs⟩:=Sh.bind_some gq21;unfold Sh.app at hx;split at hx
      · rename_i hb;simpa using hb.2
      · cases hx
    refine AJ (Ix (σ:=Int×(List EK)) (λn v=>Em d.cons n v.1 v.2=some o22/\v.2.length=vk.length/\0<=v.1/\v.1<=d.cons.length) (λ(i,q)=>⟨46,AL [(3,.own 0 0 (List.length q9)),(4,i64 t),(10,.own 0 0 (List.length q9)),(11,i64 (Sh.len q9)),(12,i64 t),(25,ls CP d.cons),(26,i64 (Sh.len d.cons)),(27,i64 i)],[⟨0,104,3,(mix (F9 106 3) Ak (Int.toNat t) l).set (Int.toNat t) [i64 d.from_,i64 d.to,.own 2 0 (List.length vk)]⟩,⟨0,104,3,[[i64 d.from_,i64 d.to,ls CP d.cons]]⟩,⟨0,106,1,mix (IW 3) CP (Int.toNat i) q⟩]⟩) N (0,vk) ⟨h2,AA,Int.le_refl _,tR _⟩ ((ET (L:=[(3,.own 0 0 (List.length q9)),(4,i64 t),(10,.own 0 0 (List.length q9)),(11,i64 (Sh.len q9)),(12,i64 t),(25,ls CP d.cons),(26,i64 (Sh.len d.cons)),(27,i64 0)]) ⟨.rfl,.rfl,.rfl,.rfl,.rfl,.rfl,.rfl,.rfl,pw⟩).trans (I3 (by rw[show Int.toNat 0=0 from AA,Zx]))) (λ_ hv=>by have hv:=hv.1;rw[Em]at hv;cases hv) ?_);rintro n2 ⟨i,q⟩ ⟨h2,hlq,hi0,hi1⟩;try dsimp only at h2 hlq hi0 hi1⊢
    rw[Em]at h2;refine AD λK31 hK31=>?_;refine AE (by rfl) ?_;refine DY (v:=(.bool (decide (i<(Sh.len d.cons))))) AT AA (fR AA AA) ?_;refine AB (hK31 _ ?_);refine AD λK32 hK32=>?_;refine HK (b:=decide (i<(Sh.len d.cons))) rfl (λb33=>?_) (λb33=>?_)
    · replace h2:=Sh.kx b33 h2;refine AH (hK32 _ ?_);have wz:i<(vk.length:Int):=by rw[hq0];exact rV b33
      obtain⟨c,gc,h2⟩:=Sh.bind_some h2;obtain⟨f,gf,h2⟩:=Sh.bind_some h2;obtain⟨c2,gc2,h2⟩:=Sh.bind_some h2;have hgc:q[Int.toNat i]?=some c2:=by have h:=gc2;unfold Sh.get at h;rw[qF hi0]at h;exact h
      have hkc:Int.toNat i<(mix (IW 3) CP (Int.toNat i) q).length:=by rw[Hc];exact (px.1 hgc).1
      refine AD λK34 hK34=>?_;refine AJ ?_;refine AD λK35 hK35=>?_;refine AE (by rfl) ?_;refine DY (v:=(i64 i)) AT AA (BO AA) ?_;refine DY (v:=(.CT (CP c) 0)) AT AA (Sc Hg AA AA gc AA) ?_;refine DY (v:=(.agg [ls eI c.fields])) AT AA (Ir Ns AA uC rfl) ?_;refine Vu (m:=3) (st':=[Uo t l d vk,TH d,bM i q,⟨0,106,1,[[.zc]]⟩]) AT Pf AA AA ?_;refine DY (v:=(i64 i)) AT AA (VB AA) ?_;refine Sb (st':=(TE t l d vk i q c)) AT Ns AA AA AA AA AA AA uC rfl ?_;refine AB (hK35 _ ?_);refine AF (ET (L:=[(3,FA q9),(4,i64 t),(6,i64 i),(7,KP),(10,FA q9),(11,Oi q9),(12,i64 t),(25,OB d),(26,O9 d),(27,i64 i)]) ⟨.rfl,.rfl,.rfl,.rfl,.rfl,.rfl,.rfl,.rfl,.rfl,.rfl,pw⟩) ?_;refine Iw (by kernel_rfl) ?_;refine NB λA hA=>?_;have hmixc:((mix (IW 3) CP (Int.toNat i) q).set (Int.toNat i) [.own 4 0 (List.length f)]).set (Int.toNat i) (IW 3 (EK.mk f))=mix (IW 3) CP (Int.toNat i+1) (Sh.put q i (EK.mk f)):=by rw[List.set_set];exact dJ hgc
      have hselr:∀row∈[Uo t l d vk,TH d,⟨0,106,1,mix (IW 3) CP (Int.toNat i+1) (Sh.put q i (EK.mk f))⟩],Cu [0,1,2] row=row:=by
        intro row h;rcases qH.1 h with rfl|h
        · exact cu hpd AA
        rcases qH.1 h with rfl|h
        · rfl
        rw[qO.1 h];exact Qf (Vq (λ_=>AA) (λ_=>AA))
      have A_33:A 3 (bm 12 511) ⟨46,AL [(3,FA q9),(4,i64 t),(6,i64 i),(7,KP),(10,FA q9),(11,Oi q9),(12,i64 t),(25,OB d),(26,O9 d),(27,i64 i),(32,FA q9),(33,i64 t),(37,i64 i),(34,Wh t),(35,VG t),(36,.own 2 0 (List.length vk)),(38,KP),(39,ls eI c.fields),(40,.own 4 0 (List.length f))],[Uo t l d vk,TH d,bM i q,ar c,⟨0,3,1,List.map eI f⟩]⟩:=(hA _ _ _).2 (by
        refine xa [9] ⟨?_,pw⟩;refine KQ.of (i:=9) rfl AA (by rfl) ?_;refine DY (v:=(.ptr 2 0 (Int.toNat i) 0)) AT AA (RF Hg AA AA AA hi0 wz (by first|rfl|(rw[Hc];omega)|(simp[Hc];omega))) (AB ⟨AA,?_⟩);refine xa [10] ⟨?_,pw⟩;refine KQ.of (i:=10) rfl AA (by rfl) ?_;refine DY (v:=(.ptr 2 0 (Int.toNat i) 0)) AT AA (FR SB AA AA uD rfl) (AB ⟨AA,?_⟩);refine xa [11] ⟨?_,pw⟩;refine KQ.of (i:=11) rfl AA (by rfl) ?_;refine Sb (st':=[Uo t l d vk,TH d,⟨0,106,1,(mix (IW 3) CP (Int.toNat i) q).set (Int.toNat i) [.own 4 0 (List.length f)]⟩,ar c,⟨0,3,1,List.map eI f⟩]) AT Mi AA AA (YM hgc) rfl AA AA uC rfl (AB ⟨AA,?_⟩);refine GP AA (by kernel_rfl) ?_;refine hK34 _ ?_;refine AF (UG (id:=2) (m:=4) (i:=Int.toNat i) (j:=0) (st':=[⟨0,104,3,(mix (F9 106 3) Ak (Int.toNat t) l).set (Int.toNat t) [i64 d.from_,i64 d.to,.own 2 0 (List.length vk)]⟩,⟨0,104,3,[[i64 d.from_,i64 d.to,ls CP d.cons]]⟩,⟨0,106,1,mix (IW 3) CP (Int.toNat i+1) (Sh.put q i (EK.mk f))⟩,⟨0,106,1,[[ls eI c.fields]]⟩,⟨1,3,1,[]⟩]) rfl (qI hkc) rfl AA (by simp) (by decide) (qd _) (RC.Q4 λ_=>AA) (by rw[<- hmixc];rfl)) ?_;refine AF (YG (L:=[(3,FA q9),(4,i64 t),(10,FA q9),(11,Oi q9),(12,i64 t),(25,OB d),(26,O9 d),(27,i64 i)]) (st':=[Uo t l d vk,TH d,⟨0,106,1,mix (IW 3) CP (Int.toNat i+1) (Sh.put q i (EK.mk f))⟩]) [0,1,2] (by decide) rfl AA hselr ⟨.rfl,.rfl,.rfl,.rfl,.rfl,.rfl,.rfl,.rfl,pw⟩) ?_;refine AE (by rfl) ?_;refine DY (v:=(i64 (Sh.w (i+1)))) AT AA (UP AA AA) ?_;refine DY (v:=(i64 (Sh.w (i+1)))) AT AA (BO AA) ?_;have htc:i<(d.cons.length:Int):=rV b33;have hw1:Sh.w (i+1)=i+1:=Go.Abs.wrap_i64 (by omega) (by omega);have ht2:Int.toNat (Sh.w (i+1))=Int.toNat i+1:=by rw[hw1];omega
        exact AB (Exists.intro (Sh.w (i+1),Sh.put q i (EK.mk f)) (And.intro ⟨h2,by rw[Sh.H0];exact hlq,by rw[hw1];omega,by rw[hw1];omega⟩ ((ET (L:=[(3,.own 0 0 (List.length q9)),(4,i64 t),(10,.own 0 0 (List.length q9)),(11,i64 (Sh.len q9)),(12,i64 t),(25,ls CP d.cons),(26,i64 (Sh.len d.cons)),(27,i64 (Sh.w (i+1)))]) ⟨.rfl,.rfl,.rfl,.rfl,.rfl,.rfl,.rfl,.rfl,pw⟩).trans (I3 (by rw[ht2]))))))
      have A_32:A 4 (bm 12 255) ⟨46,AL [(3,FA q9),(4,i64 t),(6,i64 i),(7,KP),(10,FA q9),(11,Oi q9),(12,i64 t),(25,OB d),(26,O9 d),(27,i64 i),(32,FA q9),(33,i64 t),(37,i64 i),(34,Wh t),(35,VG t),(36,.own 2 0 (List.length vk)),(38,KP),(39,ls eI c.fields)],TE t l d vk i q c⟩:=(hA _ _ _).2 (by
        refine xa [8] ⟨?_,pw⟩
        · refine KQ.of (i:=8) rfl AA (by rfl) ?_;refine HZ (v':=(.own 4 0 (List.length f))) (st':=[Uo t l d vk,TH d,bM i q,ar c,⟨0,3,1,List.map eI f⟩]) AT gp (Bc gf) rfl AA ⟨(Bj λ_=>AA),pw⟩ AA AA (AB ⟨AA,?_⟩);exact xt hA A_33)
      have A_23:A 4 (bm 12 495) ⟨46,AL [(3,FA q9),(4,i64 t),(6,i64 i),(7,KP),(10,FA q9),(11,Oi q9),(12,i64 t),(25,OB d),(26,O9 d),(27,i64 i),(32,FA q9),(33,i64 t),(37,i64 i),(34,Wh t),(35,VG t),(38,KP),(39,ls eI c.fields),(40,.own 4 0 (List.length f))],[Uo t l d vk,TH d,bM i q,ar c,⟨0,3,1,List.map eI f⟩]⟩:=(hA _ _ _).2 (by
        refine xa [4] ⟨?_,pw⟩
        · refine KQ.of (i:=4) rfl AA (by rfl) ?_;refine DY (v:=(.own 2 0 (List.length vk))) AT AA (CL To AA AA (qI xu) rfl) (AB ⟨AA,?_⟩);exact xt hA A_33)
      have A_31:A 5 (bm 12 127) ⟨46,AL [(3,FA q9),(4,i64 t),(6,i64 i),(7,KP),(10,FA q9),(11,Oi q9),(12,i64 t),(25,OB d),(26,O9 d),(27,i64 i),(32,FA q9),(33,i64 t),(37,i64 i),(34,Wh t),(35,VG t),(36,.own 2 0 (List.length vk)),(38,KP)],TE t l d vk i q c⟩:=(hA _ _ _).2 (by
        refine xa [7] ⟨?_,pw⟩
        · refine KQ.of (i:=7) rfl AA (by rfl) ?_;refine DY (v:=(ls eI c.fields)) AT AA (CL Mi AA AA AA AA) (AB ⟨AA,?_⟩);exact xt hA A_32)
      have A_22:A 5 (bm 12 239) ⟨46,AL [(3,FA q9),(4,i64 t),(6,i64 i),(7,KP),(10,FA q9),(11,Oi q9),(12,i64 t),(25,OB d),(26,O9 d),(27,i64 i),(32,FA q9),(33,i64 t),(37,i64 i),(34,Wh t),(35,VG t),(38,KP),(39,ls eI c.fields)],TE t l d vk i q c⟩:=(hA _ _ _).2 (by
        refine xa [4,8] ⟨?_,?_,pw⟩
        · refine KQ.of (i:=4) rfl AA (by rfl) ?_;refine DY (v:=(.own 2 0 (List.length vk))) AT AA (CL To AA AA (qI xu) rfl) (AB ⟨AA,?_⟩);exact xt hA A_32
        · refine KQ.of (i:=8) rfl AA (by rfl) ?_;refine HZ (v':=(.own 4 0 (List.length f))) (st':=[Uo t l d vk,TH d,bM i q,ar c,⟨0,3,1,List.map eI f⟩]) AT gp (Bc gf) rfl AA ⟨(Bj λ_=>AA),pw⟩ AA AA (AB ⟨AA,?_⟩);exact xt hA A_23)
      have A_13:A 5 (bm 12 487) ⟨46,AL [(3,FA q9),(4,i64 t),(6,i64 i),(7,KP),(10,FA q9),(11,Oi q9),(12,i64 t),(25,OB d),(26,O9 d),(27,i64 i),(32,FA q9),(33,i64 t),(37,i64 i),(34,Wh t),(38,KP),(39,ls eI c.fields),(40,.own 4 0 (List.length f))],[Uo t l d vk,TH d,bM i q,ar c,⟨0,3,1,List.map eI f⟩]⟩:=(hA _ _ _).2 (by
        refine xa [3] ⟨?_,pw⟩
        · refine KQ.of (i:=3) rfl AA (by rfl) ?_;refine DY (v:=(VG t)) AT AA (FR Oc AA AA tz rfl) (AB ⟨AA,?_⟩);exact xt hA A_23)
      have A_30:A 6 (bm 12 63) ⟨46,AL [(3,FA q9),(4,i64 t),(6,i64 i),(7,KP),(10,FA q9),(11,Oi q9),(12,i64 t),(25,OB d),(26,O9 d),(27,i64 i),(32,FA q9),(33,i64 t),(37,i64 i),(34,Wh t),(35,VG t),(36,.own 2 0 (List.length vk))],TE t l d vk i q c⟩:=(hA _ _ _).2 (by
        refine xa [6] ⟨?_,pw⟩
        · refine KQ.of (i:=6) rfl AA (by rfl) ?_;refine DY (v:=KP) AT AA (FR SB AA AA uD rfl) (AB ⟨AA,?_⟩);exact xt hA A_31)
      have A_21:A 6 (bm 12 111) ⟨46,AL [(3,FA q9),(4,i64 t),(6,i64 i),(7,KP),(10,FA q9),(11,Oi q9),(12,i64 t),(25,OB d),(26,O9 d),(27,i64 i),(32,FA q9),(33,i64 t),(37,i64 i),(34,Wh t),(35,VG t),(38,KP)],TE t l d vk i q c⟩:=(hA _ _ _).2 (by
        refine xa [4,7] ⟨?_,?_,pw⟩
        · refine KQ.of (i:=4) rfl AA (by rfl) ?_;refine DY (v:=(.own 2 0 (List.length vk))) AT AA (CL To AA AA (qI xu) rfl) (AB ⟨AA,?_⟩);exact xt hA A_31
        · refine KQ.of (i:=7) rfl AA (by rfl) ?_;refine DY (v:=(ls eI c.fields)) AT AA (CL Mi AA AA AA AA) (AB ⟨AA,?_⟩);exact xt hA A_22)
      have A_12:A 6 (bm 12 231) ⟨46,AL [(3,FA q9),(4,i64 t),(6,i64 i),(7,KP),(10,FA q9),(11,Oi q9),(12,i64 t),(25,OB d),(26,O9 d),(27,i64 i),(32,FA q9),(33,i64 t),(37,i64 i),(34,Wh t),(38,KP),(39,ls eI c.fields)],TE t l d vk i q c⟩:=(hA _ _ _).2 (by
        refine xa [3,8] ⟨?_,?_,pw⟩
        · refine KQ.of (i:=3) rfl AA (by rfl) ?_;refine DY (v:=(VG t)) AT AA (FR Oc AA AA tz rfl) (AB ⟨AA,?_⟩);exact xt hA A_22
        · refine KQ.of (i:=8) rfl AA (by rfl) ?_;refine HZ (v':=(.own 4 0 (List.length f))) (st':=[Uo t l d vk,TH d,bM i q,ar c,⟨0,3,1,List.map eI f⟩]) AT gp (Bc gf) rfl AA ⟨(Bj λ_=>AA),pw⟩ AA AA (AB ⟨AA,?_⟩);exact xt hA A_13)
      have A_03:A 6 (bm 12 483) ⟨46,AL [(3,FA q9),(4,i64 t),(6,i64 i),(7,KP),(10,FA q9),(11,Oi q9),(12,i64 t),(25,OB d),(26,O9 d),(27,i64 i),(32,FA q9),(33,i64 t),(37,i64 i),(38,KP),(39,ls eI c.fields),(40,.own 4 0 (List.length f))],[Uo t l d vk,TH d,bM i q,ar c,⟨0,3,1,List.map eI f⟩]⟩:=(hA _ _ _).2 (by
        refine xa [2] ⟨?_,pw⟩
        · refine KQ.of (i:=2) rfl AA (by rfl) ?_;refine DY (v:=(.ptr 0 0 (Int.toNat t) 0)) AT AA (RF DZ AA AA AA ht0 zP (by first|rfl|(rw[Hc];omega)|(simp[Hc];omega))) (AB ⟨AA,?_⟩);exact xt hA A_13)
      have A_20:A 7 (bm 12 47) ⟨46,AL [(3,FA q9),(4,i64 t),(6,i64 i),(7,KP),(10,FA q9),(11,Oi q9),(12,i64 t),(25,OB d),(26,O9 d),(27,i64 i),(32,FA q9),(33,i64 t),(37,i64 i),(34,Wh t),(35,VG t)],TE t l d vk i q c⟩:=(hA _ _ _).2 (by
        refine xa [4,6] ⟨?_,?_,pw⟩
        · refine KQ.of (i:=4) rfl AA (by rfl) ?_;refine DY (v:=(.own 2 0 (List.length vk))) AT AA (CL To AA AA (qI xu) rfl) (AB ⟨AA,?_⟩);exact xt hA A_30
        · refine KQ.of (i:=6) rfl AA (by rfl) ?_;refine DY (v:=KP) AT AA (FR SB AA AA uD rfl) (AB ⟨AA,?_⟩);exact xt hA A_21)
      have A_11:A 7 (bm 12 103) ⟨46,AL [(3,FA q9),(4,i64 t),(6,i64 i),(7,KP),(10,FA q9),(11,Oi q9),(12,i64 t),(25,OB d),(26,O9 d),(27,i64 i),(32,FA q9),(33,i64 t),(37,i64 i),(34,Wh t),(38,KP)],TE t l d vk i q c⟩:=(hA _ _ _).2 (by
        refine xa [3,7] ⟨?_,?_,pw⟩
        · refine KQ.of (i:=3) rfl AA (by rfl) ?_;refine DY (v:=(VG t)) AT AA (FR Oc AA AA tz rfl) (AB ⟨AA,?_⟩);exact xt hA A_21
        · refine KQ.of (i:=7) rfl AA (by rfl) ?_;refine DY (v:=(ls eI c.fields)) AT AA (CL Mi AA AA AA AA) (AB ⟨AA,?_⟩);exact xt hA A_12)
      have A_02:A 7 (bm 12 227) ⟨46,AL [(3,FA q9),(4,i64 t),(6,i64 i),(7,KP),(10,FA q9),(11,Oi q9),(12,i64 t),(25,OB d),(26,O9 d),(27,i64 i),(32,FA q9),(33,i64 t),(37,i64 i),(38,KP),(39,ls eI c.fields)],TE t l d vk i q c⟩:=(hA _ _ _).2 (by
        refine xa [2,8] ⟨?_,?_,pw⟩
        · refine KQ.of (i:=2) rfl AA (by rfl) ?_;refine DY (v:=(.ptr 0 0 (Int.toNat t) 0)) AT AA (RF DZ AA AA AA ht0 zP (by first|rfl|(rw[Hc];omega)|(simp[Hc];omega))) (AB ⟨AA,?_⟩);exact xt hA A_12
        · refine KQ.of (i:=8) rfl AA (by rfl) ?_;refine HZ (v':=(.own 4 0 (List.length f))) (st':=[Uo t l d vk,TH d,bM i q,ar c,⟨0,3,1,List.map eI f⟩]) AT gp (Bc gf) rfl AA ⟨(Bj λ_=>AA),pw⟩ AA AA (AB ⟨AA,?_⟩);exact xt hA A_03)
      have A_10:A 8 (bm 12 39) ⟨46,AL [(3,FA q9),(4,i64 t),(6,i64 i),(7,KP),(10,FA q9),(11,Oi q9),(12,i64 t),(25,OB d),(26,O9 d),(27,i64 i),(32,FA q9),(33,i64 t),(37,i64 i),(34,Wh t)],TE t l d vk i q c⟩:=(hA _ _ _).2 (by
        refine xa [3,6] ⟨?_,?_,pw⟩
        · refine KQ.of (i:=3) rfl AA (by rfl) ?_;refine DY (v:=(VG t)) AT AA (FR Oc AA AA tz rfl) (AB ⟨AA,?_⟩);exact xt hA A_20
        · refine KQ.of (i:=6) rfl AA (by rfl) ?_;refine DY (v:=KP) AT AA (FR SB AA AA uD rfl) (AB ⟨AA,?_⟩);exact xt hA A_11)
      have A_01:A 8 (bm 12 99) ⟨46,AL [(3,FA q9),(4,i64 t),(6,i64 i),(7,KP),(10,FA q9),(11,Oi q9),(12,i64 t),(25,OB d),(26,O9 d),(27,i64 i),(32,FA q9),(33,i64 t),(37,i64 i),(38,KP)],TE t l d vk i q c⟩:=(hA _ _ _).2 (by
        refine xa [2,7] ⟨?_,?_,pw⟩
        · refine KQ.of (i:=2) rfl AA (by rfl) ?_;refine DY (v:=(.ptr 0 0 (Int.toNat t) 0)) AT AA (RF DZ AA AA AA ht0 zP (by first|rfl|(rw[Hc];omega)|(simp[Hc];omega))) (AB ⟨AA,?_⟩);exact xt hA A_11
        · refine KQ.of (i:=7) rfl AA (by rfl) ?_;refine DY (v:=(ls eI c.fields)) AT AA (CL Mi AA AA AA AA) (AB ⟨AA,?_⟩);exact xt hA A_02)
      have A_00:A 9 (bm 12 35) ⟨46,AL [(3,FA q9),(4,i64 t),(6,i64 i),(7,KP),(10,FA q9),(11,Oi q9),(12,i64 t),(25,OB d),(26,O9 d),(27,i64 i),(32,FA q9),(33,i64 t),(37,i64 i)],TE t l d vk i q c⟩:=(hA _ _ _).2 (by
        refine xa [2,6] ⟨?_,?_,pw⟩
        · refine KQ.of (i:=2) rfl AA (by rfl) ?_;refine DY (v:=(.ptr 0 0 (Int.toNat t) 0)) AT AA (RF DZ AA AA AA ht0 zP (by first|rfl|(rw[Hc];omega)|(simp[Hc];omega))) (AB ⟨AA,?_⟩);exact xt hA A_10
        · refine KQ.of (i:=6) rfl AA (by rfl) ?_;refine DY (v:=KP) AT AA (FR SB AA AA uD rfl) (AB ⟨AA,?_⟩);exact xt hA A_01)
      have B_2:A 10 (bm 12 3) ⟨46,AL [(3,FA q9),(4,i64 t),(6,i64 i),(7,KP),(10,FA q9),(11,Oi q9),(12,i64 t),(25,OB d),(26,O9 d),(27,i64 i),(32,FA q9),(33,i64 t)],TE t l d vk i q c⟩:=(hA _ _ _).2 (by
        refine MH 5 (v:=(i64 i)) rfl AA (by kernel_rfl) (by kernel_rfl) (by kernel_rfl) rfl (D7 AA) ?_;exact xt hA A_00)
      have B_1:A 11 (bm 12 1) ⟨46,AL [(3,FA q9),(4,i64 t),(6,i64 i),(7,KP),(10,FA q9),(11,Oi q9),(12,i64 t),(25,OB d),(26,O9 d),(27,i64 i),(32,FA q9)],TE t l d vk i q c⟩:=(hA _ _ _).2 (by
        refine MH 1 (v:=(i64 t)) rfl AA (by kernel_rfl) (by kernel_rfl) (by kernel_rfl) rfl (D7 AA) ?_;exact xt hA B_2)
      have B_0:A 12 (bm 12 0) ⟨46,AL [(3,FA q9),(4,i64 t),(6,i64 i),(7,KP),(10,FA q9),(11,Oi q9),(12,i64 t),(25,OB d),(26,O9 d),(27,i64 i)],TE t l d vk i q c⟩:=(hA _ _ _).2 (by
        refine MH 0 (v:=(FA q9)) rfl AA (by kernel_rfl) (by kernel_rfl) (by kernel_rfl) rfl (D7 AA) ?_;exact xt hA B_1)
      exact (hA _ _ _).2 (Ks (by kernel_rfl) ((hA _ _ _).1 B_0))
    · replace h2:=Sh.jx b33 h2;have hfull:mix (IW 3) CP (Int.toNat i) q=List.map (IW 3) q:=Zl (by have h:=tW b33;simp only[Sh.len]at h;omega);exact As (M22 q (Sh.Bt h2).symm hlq _ ((ET (L:=[(3,.own 0 0 (List.length q9)),(10,.own 0 0 (List.length q9)),(11,i64 (Sh.len q9)),(12,i64 t)]) ⟨.rfl,.rfl,.rfl,.rfl,pw⟩).trans (I3 (by rw[hfull]))))
  · replace h1:=Sh.jx b13 h1;have hfull:mix (F9 106 3) Ak (Int.toNat t) l=List.map (F9 106 3) l:=Zl (by have h:=tW b13;simp only[Sh.len]at h;omega);exact As (M9 l (Sh.Bt h1).symm hll _ ((ET (L:=[(3,.own 0 0 (List.length q9))]) ⟨.rfl,pw⟩).trans (I3 (by rw[hfull]))))
end
end Go.Proofs.YtccficmcdkcpnaaGreat.Cl
