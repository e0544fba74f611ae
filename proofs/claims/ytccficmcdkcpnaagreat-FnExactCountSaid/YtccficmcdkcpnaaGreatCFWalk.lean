/- The copy of declarations: a row that owns all that lies under it. -/
import Derived.Test.YtccficmcdkcpnaaGreatCEWalk
import Derived.Test.YtccficmcdkcpnaaGreatGCloneDToCloneE
set_option linter.all false
namespace Go.Proofs.YtccficmcdkcpnaaGreat.Cl
noncomputable section
open Go Go.Abs RC
set_option maxRecDepth 100000
abbrev US (z0 z1:_)(z2:AP){α3:Type}(z3:List α3)(z4 z5:_)(z6:Bw):=([⟨0,104,3,(mix (BO 106 3) Ai (Int.toNat z0) z1).set (Int.toNat z0) [i64 z2.from_,i64 z2.to,.own 2 0 (List.length z3)]⟩,⟨0,104,3,[[i64 z2.from_,i64 z2.to,ls By z2.cons]]⟩,⟨0,106,1,mix (DT 3) By (Int.toNat z4) z5⟩,⟨0,106,1,[[ls eI z6.fields]]⟩]:List Row)
abbrev Wd (z0 z1:_)(z2:AP){α3:Type}(z3:List α3):=(⟨0,104,3,(mix (BO 106 3) Ai (Int.toNat z0) z1).set (Int.toNat z0) [i64 z2.from_,i64 z2.to,.own 2 0 (List.length z3)]⟩:Row)
abbrev FR {α0:Type}(z0:List α0):=((.own 0 0 (List.length z0)):AV)
abbrev UZ (z0:AP):=(⟨0,104,3,[[i64 z0.from_,i64 z0.to,ls By z0.cons]]⟩:Row)
abbrev Kw:=((.ptr 3 0 0 0):AV)
abbrev eR (z0 z1:_):=(⟨0,106,1,mix (DT 3) By (Int.toNat z0) z1⟩:Row)
abbrev Pt (z0:AP):=((i64 (Sh.len z0.cons)):AV)
abbrev dN (z0:Bw):=(⟨0,106,1,[[ls eI z0.fields]]⟩:Row)
abbrev O1 (z0:AP):=((ls By z0.cons):AV)
abbrev Wi (z0:_):=((.ptr 0 0 (Int.toNat z0) 2):AV)
abbrev Yb (z0:_):=((.ptr 0 0 (Int.toNat z0) 0):AV)
abbrev PV {α0:Type}(z0:List α0):=((i64 (Sh.len z0)):AV)
set_option maxHeartbeats 4000000
theorem JU:DJ Tryz.prog 104=some (true,3):=by kernel_rfl
theorem Ny:DJ Tryz.prog 106=some (true,1):=by kernel_rfl
theorem QP:DJ Tryz.prog 102=some (false,1):=by kernel_rfl
theorem Kl:DJ Tryz.prog 45=some (false,1):=by kernel_rfl
theorem Pc:G7 Tryz.prog 104 2=some 2:=by kernel_rfl
theorem Ti:G7 Tryz.prog 106 0=some 0:=by kernel_rfl
theorem Hb:IE Tryz.prog 104=some [.int .i64 0,.int .i64 0,.zc]:=by kernel_rfl
theorem QK:IE Tryz.prog 106=some [.zc]:=by kernel_rfl
theorem rp:DP Tryz.prog 102=true:=by kernel_rfl
theorem sE:DP Tryz.prog 103=true:=by kernel_rfl
theorem kb:DP Tryz.prog 56=true:=by kernel_rfl
theorem Yq:True:=uM
theorem Sj {N:Nat}{p0 r:List AP}(h0:Jm N p0=some r):BW Tryz.prog 54 [ls Ai p0] [] (λv st=>v=(FR r)/\st=[⟨0,104,3,List.map (BO 106 3) r⟩]):=by
  unfold Jm at h0;refine BW.intro Tryz.func54 AA (by show 1<=46;decide) ?_;show AW _ 0 _ (ju _ 0 Tryz.f54 _) ⟨46,_,_⟩;refine AH (FJ (L:=[(0,ls Ai p0)]) ⟨.rfl,uM⟩) ?_;refine AB λK1 hK1=>?_;refine AE (by rfl) ?_;refine DW (v:=.zc) BJ AA (Xg AA) ?_;refine AD (hK1 _ ?_);refine AB λK2 hK2=>?_;refine AE (by rfl) ?_;refine DW (v:=(ls Ai p0)) BJ AA (Oj AA) ?_;obtain⟨q9,gq9,h0⟩:=Sh.bind_some h0;refine Jf (v':=(FR q9)) (st':=[⟨0,104,3,List.map Ai q9⟩]) BJ rp (Lm gq9) rfl AA ⟨(Ar λ_=>AA),uM⟩ AA AA ?_;refine DW (v:=(FR q9)) BJ AA (Xg AA) ?_;refine AD (hK2 _ ?_);have hmax:q9.length<=9223372036854775807:=by
    unfold Dd at gq9;obtain⟨x,hx,hs⟩:=Sh.bind_some gq9;unfold Sh.app at hx;split at hx
    · rename_i hb;simp only[uO]at hx hs;rw[<- hs,<- hx];simpa using hb.2
    · cases hx
  refine AB λK4 hK4=>?_;refine AB λK5 hK5=>?_;refine AE (by rfl) ?_;refine DW (v:=(FR q9)) BJ AA (Oj AA) ?_;refine DW (v:=(PV q9)) BJ AA (Ec WG AA AA AA) ?_;refine DW (v:=(i64 0)) BJ AA (Oj AA) ?_;refine AD (hK5 _ ?_);obtain⟨o9,h1,h0⟩:=Sh.bind_some h0;have M9:∀(l:List AP),o9=l->l.length=q9.length->∀s,Wk 0 s ⟨46,AJ [(3,FR q9)],[⟨0,104,3,List.map (BO 106 3) l⟩]⟩->K4 s:=by
    intro l hq hlen s hw;subst o9;refine hK4 _ (AH hw ?_);refine AB λK10 hK10=>?_;refine AE (by rfl) ?_;refine DW (v:=(FR q9)) BJ AA (Oj AA) ?_;refine DW (v:=(FR q9)) BJ AA (Xg AA) ?_;refine AD (hK10 _ ?_);obtain rfl:=Sh.Av h0;exact BP (Exists.intro _ (And.intro (FJ (L:=[(2,.own 0 0 (List.length q9))]) ⟨.rfl,uM⟩) (And.intro (by show _=AV.own 0 0 l.length;rw[hlen];rfl) rfl)))
  refine AI (LK (σ:=Int×(List AP)) (λn v=>En N (Sh.len q9) n v.1 v.2=some o9/\v.2.length=q9.length/\0<=v.1/\v.1<=q9.length) (λ(t,l)=>⟨46,AJ [(3,.own 0 0 (List.length q9)),(10,.own 0 0 (List.length q9)),(11,i64 (Sh.len q9)),(12,i64 t)],[⟨0,104,3,mix (BO 106 3) Ai (Int.toNat t) l⟩]⟩) N (0,q9) ⟨h1,AA,xg _,xe _⟩ ((FJ (L:=[(3,.own 0 0 (List.length q9)),(10,.own 0 0 (List.length q9)),(11,i64 (Sh.len q9)),(12,i64 0)]) ⟨.rfl,.rfl,.rfl,.rfl,uM⟩).trans (Fj (by rw[show Int.toNat 0=0 from AA,cn]))) (λ_ hv=>by have hv:=hv.1;rw[En]at hv;cases hv) ?_);rintro n ⟨t,l⟩ ⟨h1,hll,ht0,ht1⟩;try dsimp only at h1 hll ht0 ht1⊢
  rw[En]at h1;refine AB λK11 hK11=>?_;refine AE (by rfl) ?_;refine DW (v:=(.bool (decide (t<(Sh.len q9))))) BJ AA (hH AA AA) ?_;refine AD (hK11 _ ?_);refine AB λK12 hK12=>?_;refine GZ (b:=decide (t<(Sh.len q9))) rfl (λb13=>?_) (λb13=>?_)
  · replace h1:=Sh.pI b13 h1;refine AG (hK12 _ ?_);have htl:t<(q9.length:Int):=vm b13;obtain⟨d,gd,h1⟩:=Sh.bind_some h1;obtain⟨q21,gq21,h1⟩:=Sh.bind_some h1;obtain⟨o22,h2,h1⟩:=Sh.bind_some h1;have AAD:l[Int.toNat t]?=some d:=by have h:=gd;unfold Sh.get at h;rw[uX ht0]at h;exact h
    have hkl:Int.toNat t<(mix (BO 106 3) Ai (Int.toNat t) l).length:=by rw[H8];exact (uK.1 AAD).1
    have hpd:DG (mix (BO 106 3) Ai (Int.toNat t) l):=Xj (λ_=>rfl) (λ_=>rfl);refine AB λK14 hK14=>?_;refine AI ?_;refine AB λK15 hK15=>?_;refine AE (by rfl) ?_;refine DW (v:=(i64 t)) BJ AA (Oj AA) ?_;refine DW (v:=(.ptr 0 0 (Int.toNat t) 0)) BJ AA (Rl EZ AA AA AA ht0 htl (by first|rfl|(rw[H8];omega)|(simp[H8];omega))) ?_;refine DW (v:=(.agg [i64 d.from_,i64 d.to,O1 d])) BJ AA (Zl JU AA AA (Zq AAD) (show 0+3<=3 by decide) rfl) ?_;refine W2 (m:=1) (st':=[⟨0,104,3,mix (BO 106 3) Ai (Int.toNat t) l⟩,⟨0,104,3,[[i64 0,i64 0,.zc]]⟩]) BJ Hb AA AA ?_;refine DW (v:=(i64 t)) BJ AA (Xg AA) ?_;refine Rm (st':=[⟨0,104,3,mix (BO 106 3) Ai (Int.toNat t) l⟩,UZ d]) BJ JU AA AA AA AA AA AA (show 0+3<=3 by decide) rfl ?_;refine AD (hK15 _ ?_);refine AB λK16 hK16=>?_;refine AE (by rfl) ?_;refine DW (v:=(FR q9)) BJ AA (Oj AA) ?_;refine DW (v:=(i64 t)) BJ AA (Oj AA) ?_;refine DW (v:=(.ptr 1 0 0 2)) BJ AA (Lh Pc AA AA yy rfl) ?_;refine DW (v:=(O1 d)) BJ AA (De QP AA AA AA AA) ?_;refine Jf (v':=(.own 2 0 (List.length q21))) (st':=[⟨0,104,3,mix (BO 106 3) Ai (Int.toNat t) l⟩,UZ d,⟨0,106,1,List.map By q21⟩]) BJ sE (MU gq21) rfl AA ⟨(Ar λ_=>AA),uM⟩ AA AA ?_;refine DW (v:=(.ptr 0 0 (Int.toNat t) 0)) BJ AA (Rl EZ AA AA AA ht0 htl (by first|rfl|(rw[H8];omega)|(simp[H8];omega))) ?_;refine DW (v:=(Wi t)) BJ AA (Lh Pc AA AA yy rfl) ?_;refine Rm (st':=[Wd t l d q21,UZ d,⟨0,106,1,List.map By q21⟩]) BJ QP AA AA (Zq AAD) rfl AA AA (show 2+1<=3 by decide) rfl ?_;refine AD (hK16 _ ?_);refine AB λK17 hK17=>?_;refine AE (by rfl) ?_;refine DW (v:=(.ptr 1 0 0 2)) BJ AA (Lh Pc AA AA yy rfl) ?_;refine DW (v:=(O1 d)) BJ AA (De QP AA AA AA AA) ?_;refine DW (v:=(Pt d)) BJ AA (Ch Qa AA) ?_;refine DW (v:=(i64 0)) BJ AA (Oj AA) ?_;refine AD (hK17 _ ?_);have M22:∀(q:List Bw),o22=q->q.length=q21.length->∀s,Wk 0 s ⟨46,AJ [(3,FR q9),(10,FR q9),(11,PV q9),(12,i64 t)],[Wd t l d q21,UZ d,⟨0,106,1,List.map (DT 3) q⟩]⟩->K14 s:=by
      intro q hq hlq s hw;subst o22;refine hK14 _ (AH hw ?_);have hmix:((mix (BO 106 3) Ai (Int.toNat t) l).set (Int.toNat t) [i64 d.from_,i64 d.to,.own 2 0 (List.length q21)]).set (Int.toNat t) (BO 106 3 (AP.mk d.from_ d.to q))=mix (BO 106 3) Ai (Int.toNat t+1) (Sh.put l t (AP.mk d.from_ d.to q)):=by rw[List.set_set];exact fy AAD
      refine AH (Rp (id:=0) (m:=2) (i:=Int.toNat t) (j:=2) (st':=[⟨0,104,3,mix (BO 106 3) Ai (Int.toNat t+1) (Sh.put l t (AP.mk d.from_ d.to q))⟩,⟨0,104,3,[[i64 d.from_,i64 d.to,ls By d.cons]]⟩,⟨1,106,1,[]⟩]) rfl (uV hkl) rfl AA (by simp[hlq]) (by decide) (ue _) (RC.J9 λ_=>AA) (by rw[<- hmix];rfl)) ?_;refine AH (aV (L:=[(3,.own 0 0 (List.length q9)),(10,.own 0 0 (List.length q9)),(11,i64 (Sh.len q9)),(12,i64 t)]) (st':=[⟨0,104,3,mix (BO 106 3) Ai (Int.toNat t+1) (Sh.put l t (AP.mk d.from_ d.to q))⟩]) [0] (by decide) rfl AA (λrow h=>by rw[vQ.1 h];exact Rn (Xj (λ_=>AA) (λ_=>AA))) ⟨.rfl,.rfl,.rfl,.rfl,uM⟩) ?_;refine AE (by rfl) ?_;refine DW (v:=(i64 (Sh.w (t+1)))) BJ AA (eT AA AA) ?_;refine DW (v:=(i64 (Sh.w (t+1)))) BJ AA (Oj AA) ?_;have hw1:Sh.w (t+1)=t+1:=Go.Abs.wrap_i64 (by omega) (by omega);have ht2:Int.toNat (Sh.w (t+1))=Int.toNat t+1:=by rw[hw1];omega
      exact AD (Exists.intro (Sh.w (t+1),Sh.put l t (AP.mk d.from_ d.to q)) (And.intro ⟨h1,by rw[Sh.BE];exact hll,by rw[hw1];omega,by rw[hw1];omega⟩ ((FJ (L:=[(3,.own 0 0 (List.length q9)),(10,.own 0 0 (List.length q9)),(11,i64 (Sh.len q9)),(12,i64 (Sh.w (t+1)))]) ⟨.rfl,.rfl,.rfl,.rfl,uM⟩).trans (Fj (by rw[ht2])))))
    have hq0:q21.length=d.cons.length:=by
      unfold DC at gq21;obtain⟨x,hx,hs⟩:=Sh.bind_some gq21;unfold Sh.app at hx;split at hx
      · simp only[uO,vh]at hx hs;rw[<- hs,<- hx]
      · cases hx
    have hmaxc:d.cons.length<=9223372036854775807:=by
      unfold DC at gq21;obtain⟨x,hx,hs⟩:=Sh.bind_some gq21;unfold Sh.app at hx;split at hx
      · rename_i hb;simpa using hb.2
      · cases hx
    refine AI (LK (σ:=Int×(List Bw)) (λn v=>Em d.cons n v.1 v.2=some o22/\v.2.length=q21.length/\0<=v.1/\v.1<=d.cons.length) (λ(i,q)=>⟨46,AJ [(3,.own 0 0 (List.length q9)),(4,i64 t),(10,.own 0 0 (List.length q9)),(11,i64 (Sh.len q9)),(12,i64 t),(25,ls By d.cons),(26,i64 (Sh.len d.cons)),(27,i64 i)],[⟨0,104,3,(mix (BO 106 3) Ai (Int.toNat t) l).set (Int.toNat t) [i64 d.from_,i64 d.to,.own 2 0 (List.length q21)]⟩,⟨0,104,3,[[i64 d.from_,i64 d.to,ls By d.cons]]⟩,⟨0,106,1,mix (DT 3) By (Int.toNat i) q⟩]⟩) N (0,q21) ⟨h2,AA,xg _,xe _⟩ ((FJ (L:=[(3,.own 0 0 (List.length q9)),(4,i64 t),(10,.own 0 0 (List.length q9)),(11,i64 (Sh.len q9)),(12,i64 t),(25,ls By d.cons),(26,i64 (Sh.len d.cons)),(27,i64 0)]) ⟨.rfl,.rfl,.rfl,.rfl,.rfl,.rfl,.rfl,.rfl,uM⟩).trans (Fj (by rw[show Int.toNat 0=0 from AA,cn]))) (λ_ hv=>by have hv:=hv.1;rw[Em]at hv;cases hv) ?_);rintro n2 ⟨i,q⟩ ⟨h2,hlq,hi0,hi1⟩;try dsimp only at h2 hlq hi0 hi1⊢
    rw[Em]at h2;refine AB λK31 hK31=>?_;refine AE (by rfl) ?_;refine DW (v:=(.bool (decide (i<(Sh.len d.cons))))) BJ AA (hH AA AA) ?_;refine AD (hK31 _ ?_);refine AB λK32 hK32=>?_;refine GZ (b:=decide (i<(Sh.len d.cons))) rfl (λb33=>?_) (λb33=>?_)
    · replace h2:=Sh.pI b33 h2;refine AG (hK32 _ ?_);have hil:i<(q21.length:Int):=by rw[hq0];exact vm b33
      obtain⟨c,gc,h2⟩:=Sh.bind_some h2;obtain⟨f,gf,h2⟩:=Sh.bind_some h2;obtain⟨c2,gc2,h2⟩:=Sh.bind_some h2;have hgc:q[Int.toNat i]?=some c2:=by have h:=gc2;unfold Sh.get at h;rw[uX hi0]at h;exact h
      have hkc:Int.toNat i<(mix (DT 3) By (Int.toNat i) q).length:=by rw[H8];exact (uK.1 hgc).1
      refine AB λK34 hK34=>?_;refine AI ?_;refine AB λK35 hK35=>?_;refine AE (by rfl) ?_;refine DW (v:=(i64 i)) BJ AA (Oj AA) ?_;refine DW (v:=(.Bj (By c) 0)) BJ AA (Vb Jl AA AA gc AA) ?_;refine DW (v:=(.agg [ls eI c.fields])) BJ AA (fZ Ny AA zC rfl) ?_;refine W2 (m:=3) (st':=[Wd t l d q21,UZ d,eR i q,⟨0,106,1,[[.zc]]⟩]) BJ QK AA AA ?_;refine DW (v:=(i64 i)) BJ AA (Xg AA) ?_;refine Rm (st':=(US t l d q21 i q c)) BJ Ny AA AA AA AA AA AA zC rfl ?_;refine AD (hK35 _ ?_);refine AH (FJ (L:=[(3,FR q9),(4,i64 t),(6,i64 i),(7,Kw),(10,FR q9),(11,PV q9),(12,i64 t),(25,O1 d),(26,Pt d),(27,i64 i)]) ⟨.rfl,.rfl,.rfl,.rfl,.rfl,.rfl,.rfl,.rfl,.rfl,.rfl,uM⟩) ?_;refine OW (by kernel_rfl) ?_;refine Qn λA hA=>?_;have hmixc:((mix (DT 3) By (Int.toNat i) q).set (Int.toNat i) [.own 4 0 (List.length f)]).set (Int.toNat i) (DT 3 (Bw.mk f))=mix (DT 3) By (Int.toNat i+1) (Sh.put q i (Bw.mk f)):=by rw[List.set_set];exact fy hgc
      have hselr:∀row∈[Wd t l d q21,UZ d,⟨0,106,1,mix (DT 3) By (Int.toNat i+1) (Sh.put q i (Bw.mk f))⟩],CQ [0,1,2] row=row:=by
        intro row h;rcases uz.1 h with rfl|h
        · exact ea hpd AA
        rcases uz.1 h with rfl|h
        · rfl
        rw[vQ.1 h];exact Rn (Xj (λ_=>AA) (λ_=>AA))
      have A_33:A 3 (bm 12 511) ⟨46,AJ [(3,FR q9),(4,i64 t),(6,i64 i),(7,Kw),(10,FR q9),(11,PV q9),(12,i64 t),(25,O1 d),(26,Pt d),(27,i64 i),(32,FR q9),(33,i64 t),(37,i64 i),(34,Yb t),(35,Wi t),(36,.own 2 0 (List.length q21)),(38,Kw),(39,ls eI c.fields),(40,.own 4 0 (List.length f))],[Wd t l d q21,UZ d,eR i q,dN c,⟨0,3,1,List.map eI f⟩]⟩:=(hA _ _ _).2 (by
        refine xa [9] ⟨?_,uM⟩;refine Kz.of (i:=9) rfl AA (by rfl) ?_;refine DW (v:=(.ptr 2 0 (Int.toNat i) 0)) BJ AA (Rl Jl AA AA AA hi0 hil (by first|rfl|(rw[H8];omega)|(simp[H8];omega))) (AD ⟨AA,?_⟩);refine xa [10] ⟨?_,uM⟩;refine Kz.of (i:=10) rfl AA (by rfl) ?_;refine DW (v:=(.ptr 2 0 (Int.toNat i) 0)) BJ AA (Lh Ti AA AA zD rfl) (AD ⟨AA,?_⟩);refine xa [11] ⟨?_,uM⟩;refine Kz.of (i:=11) rfl AA (by rfl) ?_;refine Rm (st':=[Wd t l d q21,UZ d,⟨0,106,1,(mix (DT 3) By (Int.toNat i) q).set (Int.toNat i) [.own 4 0 (List.length f)]⟩,dN c,⟨0,3,1,List.map eI f⟩]) BJ Kl AA AA (Zq hgc) rfl AA AA zC rfl (AD ⟨AA,?_⟩);refine PS AA (by kernel_rfl) ?_;refine hK34 _ ?_;refine AH (Rp (id:=2) (m:=4) (i:=Int.toNat i) (j:=0) (st':=[⟨0,104,3,(mix (BO 106 3) Ai (Int.toNat t) l).set (Int.toNat t) [i64 d.from_,i64 d.to,.own 2 0 (List.length q21)]⟩,⟨0,104,3,[[i64 d.from_,i64 d.to,ls By d.cons]]⟩,⟨0,106,1,mix (DT 3) By (Int.toNat i+1) (Sh.put q i (Bw.mk f))⟩,⟨0,106,1,[[ls eI c.fields]]⟩,⟨1,3,1,[]⟩]) rfl (uV hkc) rfl AA (by simp) (by decide) (ue _) (RC.J9 λ_=>AA) (by rw[<- hmixc];rfl)) ?_;refine AH (aV (L:=[(3,FR q9),(4,i64 t),(10,FR q9),(11,PV q9),(12,i64 t),(25,O1 d),(26,Pt d),(27,i64 i)]) (st':=[Wd t l d q21,UZ d,⟨0,106,1,mix (DT 3) By (Int.toNat i+1) (Sh.put q i (Bw.mk f))⟩]) [0,1,2] (by decide) rfl AA hselr ⟨.rfl,.rfl,.rfl,.rfl,.rfl,.rfl,.rfl,.rfl,uM⟩) ?_;refine AE (by rfl) ?_;refine DW (v:=(i64 (Sh.w (i+1)))) BJ AA (eT AA AA) ?_;refine DW (v:=(i64 (Sh.w (i+1)))) BJ AA (Oj AA) ?_;have htc:i<(d.cons.length:Int):=vm b33;have hw1:Sh.w (i+1)=i+1:=Go.Abs.wrap_i64 (by omega) (by omega);have ht2:Int.toNat (Sh.w (i+1))=Int.toNat i+1:=by rw[hw1];omega
        exact AD (Exists.intro (Sh.w (i+1),Sh.put q i (Bw.mk f)) (And.intro ⟨h2,by rw[Sh.BE];exact hlq,by rw[hw1];omega,by rw[hw1];omega⟩ ((FJ (L:=[(3,.own 0 0 (List.length q9)),(4,i64 t),(10,.own 0 0 (List.length q9)),(11,i64 (Sh.len q9)),(12,i64 t),(25,ls By d.cons),(26,i64 (Sh.len d.cons)),(27,i64 (Sh.w (i+1)))]) ⟨.rfl,.rfl,.rfl,.rfl,.rfl,.rfl,.rfl,.rfl,uM⟩).trans (Fj (by rw[ht2]))))))
      have A_32:A 4 (bm 12 255) ⟨46,AJ [(3,FR q9),(4,i64 t),(6,i64 i),(7,Kw),(10,FR q9),(11,PV q9),(12,i64 t),(25,O1 d),(26,Pt d),(27,i64 i),(32,FR q9),(33,i64 t),(37,i64 i),(34,Yb t),(35,Wi t),(36,.own 2 0 (List.length q21)),(38,Kw),(39,ls eI c.fields)],US t l d q21 i q c⟩:=(hA _ _ _).2 (by
        refine xa [8] ⟨?_,uM⟩
        · refine Kz.of (i:=8) rfl AA (by rfl) ?_;refine Jf (v':=(.own 4 0 (List.length f))) (st':=[Wd t l d q21,UZ d,eR i q,dN c,⟨0,3,1,List.map eI f⟩]) BJ kb (Bg gf) rfl AA ⟨(Ar λ_=>AA),uM⟩ AA AA (AD ⟨AA,?_⟩);exact xt hA A_33)
      have A_23:A 4 (bm 12 495) ⟨46,AJ [(3,FR q9),(4,i64 t),(6,i64 i),(7,Kw),(10,FR q9),(11,PV q9),(12,i64 t),(25,O1 d),(26,Pt d),(27,i64 i),(32,FR q9),(33,i64 t),(37,i64 i),(34,Yb t),(35,Wi t),(38,Kw),(39,ls eI c.fields),(40,.own 4 0 (List.length f))],[Wd t l d q21,UZ d,eR i q,dN c,⟨0,3,1,List.map eI f⟩]⟩:=(hA _ _ _).2 (by
        refine xa [4] ⟨?_,uM⟩
        · refine Kz.of (i:=4) rfl AA (by rfl) ?_;refine DW (v:=(.own 2 0 (List.length q21))) BJ AA (De QP AA AA (uV hkl) rfl) (AD ⟨AA,?_⟩);exact xt hA A_33)
      have A_31:A 5 (bm 12 127) ⟨46,AJ [(3,FR q9),(4,i64 t),(6,i64 i),(7,Kw),(10,FR q9),(11,PV q9),(12,i64 t),(25,O1 d),(26,Pt d),(27,i64 i),(32,FR q9),(33,i64 t),(37,i64 i),(34,Yb t),(35,Wi t),(36,.own 2 0 (List.length q21)),(38,Kw)],US t l d q21 i q c⟩:=(hA _ _ _).2 (by
        refine xa [7] ⟨?_,uM⟩
        · refine Kz.of (i:=7) rfl AA (by rfl) ?_;refine DW (v:=(ls eI c.fields)) BJ AA (De Kl AA AA AA AA) (AD ⟨AA,?_⟩);exact xt hA A_32)
      have A_22:A 5 (bm 12 239) ⟨46,AJ [(3,FR q9),(4,i64 t),(6,i64 i),(7,Kw),(10,FR q9),(11,PV q9),(12,i64 t),(25,O1 d),(26,Pt d),(27,i64 i),(32,FR q9),(33,i64 t),(37,i64 i),(34,Yb t),(35,Wi t),(38,Kw),(39,ls eI c.fields)],US t l d q21 i q c⟩:=(hA _ _ _).2 (by
        refine xa [4,8] ⟨?_,?_,uM⟩
        · refine Kz.of (i:=4) rfl AA (by rfl) ?_;refine DW (v:=(.own 2 0 (List.length q21))) BJ AA (De QP AA AA (uV hkl) rfl) (AD ⟨AA,?_⟩);exact xt hA A_32
        · refine Kz.of (i:=8) rfl AA (by rfl) ?_;refine Jf (v':=(.own 4 0 (List.length f))) (st':=[Wd t l d q21,UZ d,eR i q,dN c,⟨0,3,1,List.map eI f⟩]) BJ kb (Bg gf) rfl AA ⟨(Ar λ_=>AA),uM⟩ AA AA (AD ⟨AA,?_⟩);exact xt hA A_23)
      have A_13:A 5 (bm 12 487) ⟨46,AJ [(3,FR q9),(4,i64 t),(6,i64 i),(7,Kw),(10,FR q9),(11,PV q9),(12,i64 t),(25,O1 d),(26,Pt d),(27,i64 i),(32,FR q9),(33,i64 t),(37,i64 i),(34,Yb t),(38,Kw),(39,ls eI c.fields),(40,.own 4 0 (List.length f))],[Wd t l d q21,UZ d,eR i q,dN c,⟨0,3,1,List.map eI f⟩]⟩:=(hA _ _ _).2 (by
        refine xa [3] ⟨?_,uM⟩
        · refine Kz.of (i:=3) rfl AA (by rfl) ?_;refine DW (v:=(Wi t)) BJ AA (Lh Pc AA AA yy rfl) (AD ⟨AA,?_⟩);exact xt hA A_23)
      have A_30:A 6 (bm 12 63) ⟨46,AJ [(3,FR q9),(4,i64 t),(6,i64 i),(7,Kw),(10,FR q9),(11,PV q9),(12,i64 t),(25,O1 d),(26,Pt d),(27,i64 i),(32,FR q9),(33,i64 t),(37,i64 i),(34,Yb t),(35,Wi t),(36,.own 2 0 (List.length q21))],US t l d q21 i q c⟩:=(hA _ _ _).2 (by
        refine xa [6] ⟨?_,uM⟩
        · refine Kz.of (i:=6) rfl AA (by rfl) ?_;refine DW (v:=Kw) BJ AA (Lh Ti AA AA zD rfl) (AD ⟨AA,?_⟩);exact xt hA A_31)
      have A_21:A 6 (bm 12 111) ⟨46,AJ [(3,FR q9),(4,i64 t),(6,i64 i),(7,Kw),(10,FR q9),(11,PV q9),(12,i64 t),(25,O1 d),(26,Pt d),(27,i64 i),(32,FR q9),(33,i64 t),(37,i64 i),(34,Yb t),(35,Wi t),(38,Kw)],US t l d q21 i q c⟩:=(hA _ _ _).2 (by
        refine xa [4,7] ⟨?_,?_,uM⟩
        · refine Kz.of (i:=4) rfl AA (by rfl) ?_;refine DW (v:=(.own 2 0 (List.length q21))) BJ AA (De QP AA AA (uV hkl) rfl) (AD ⟨AA,?_⟩);exact xt hA A_31
        · refine Kz.of (i:=7) rfl AA (by rfl) ?_;refine DW (v:=(ls eI c.fields)) BJ AA (De Kl AA AA AA AA) (AD ⟨AA,?_⟩);exact xt hA A_22)
      have A_12:A 6 (bm 12 231) ⟨46,AJ [(3,FR q9),(4,i64 t),(6,i64 i),(7,Kw),(10,FR q9),(11,PV q9),(12,i64 t),(25,O1 d),(26,Pt d),(27,i64 i),(32,FR q9),(33,i64 t),(37,i64 i),(34,Yb t),(38,Kw),(39,ls eI c.fields)],US t l d q21 i q c⟩:=(hA _ _ _).2 (by
        refine xa [3,8] ⟨?_,?_,uM⟩
        · refine Kz.of (i:=3) rfl AA (by rfl) ?_;refine DW (v:=(Wi t)) BJ AA (Lh Pc AA AA yy rfl) (AD ⟨AA,?_⟩);exact xt hA A_22
        · refine Kz.of (i:=8) rfl AA (by rfl) ?_;refine Jf (v':=(.own 4 0 (List.length f))) (st':=[Wd t l d q21,UZ d,eR i q,dN c,⟨0,3,1,List.map eI f⟩]) BJ kb (Bg gf) rfl AA ⟨(Ar λ_=>AA),uM⟩ AA AA (AD ⟨AA,?_⟩);exact xt hA A_13)
      have A_03:A 6 (bm 12 483) ⟨46,AJ [(3,FR q9),(4,i64 t),(6,i64 i),(7,Kw),(10,FR q9),(11,PV q9),(12,i64 t),(25,O1 d),(26,Pt d),(27,i64 i),(32,FR q9),(33,i64 t),(37,i64 i),(38,Kw),(39,ls eI c.fields),(40,.own 4 0 (List.length f))],[Wd t l d q21,UZ d,eR i q,dN c,⟨0,3,1,List.map eI f⟩]⟩:=(hA _ _ _).2 (by
        refine xa [2] ⟨?_,uM⟩
        · refine Kz.of (i:=2) rfl AA (by rfl) ?_;refine DW (v:=(.ptr 0 0 (Int.toNat t) 0)) BJ AA (Rl EZ AA AA AA ht0 htl (by first|rfl|(rw[H8];omega)|(simp[H8];omega))) (AD ⟨AA,?_⟩);exact xt hA A_13)
      have A_20:A 7 (bm 12 47) ⟨46,AJ [(3,FR q9),(4,i64 t),(6,i64 i),(7,Kw),(10,FR q9),(11,PV q9),(12,i64 t),(25,O1 d),(26,Pt d),(27,i64 i),(32,FR q9),(33,i64 t),(37,i64 i),(34,Yb t),(35,Wi t)],US t l d q21 i q c⟩:=(hA _ _ _).2 (by
        refine xa [4,6] ⟨?_,?_,uM⟩
        · refine Kz.of (i:=4) rfl AA (by rfl) ?_;refine DW (v:=(.own 2 0 (List.length q21))) BJ AA (De QP AA AA (uV hkl) rfl) (AD ⟨AA,?_⟩);exact xt hA A_30
        · refine Kz.of (i:=6) rfl AA (by rfl) ?_;refine DW (v:=Kw) BJ AA (Lh Ti AA AA zD rfl) (AD ⟨AA,?_⟩);exact xt hA A_21)
      have A_11:A 7 (bm 12 103) ⟨46,AJ [(3,FR q9),(4,i64 t),(6,i64 i),(7,Kw),(10,FR q9),(11,PV q9),(12,i64 t),(25,O1 d),(26,Pt d),(27,i64 i),(32,FR q9),(33,i64 t),(37,i64 i),(34,Yb t),(38,Kw)],US t l d q21 i q c⟩:=(hA _ _ _).2 (by
        refine xa [3,7] ⟨?_,?_,uM⟩
        · refine Kz.of (i:=3) rfl AA (by rfl) ?_;refine DW (v:=(Wi t)) BJ AA (Lh Pc AA AA yy rfl) (AD ⟨AA,?_⟩);exact xt hA A_21
        · refine Kz.of (i:=7) rfl AA (by rfl) ?_;refine DW (v:=(ls eI c.fields)) BJ AA (De Kl AA AA AA AA) (AD ⟨AA,?_⟩);exact xt hA A_12)
      have A_02:A 7 (bm 12 227) ⟨46,AJ [(3,FR q9),(4,i64 t),(6,i64 i),(7,Kw),(10,FR q9),(11,PV q9),(12,i64 t),(25,O1 d),(26,Pt d),(27,i64 i),(32,FR q9),(33,i64 t),(37,i64 i),(38,Kw),(39,ls eI c.fields)],US t l d q21 i q c⟩:=(hA _ _ _).2 (by
        refine xa [2,8] ⟨?_,?_,uM⟩
        · refine Kz.of (i:=2) rfl AA (by rfl) ?_;refine DW (v:=(.ptr 0 0 (Int.toNat t) 0)) BJ AA (Rl EZ AA AA AA ht0 htl (by first|rfl|(rw[H8];omega)|(simp[H8];omega))) (AD ⟨AA,?_⟩);exact xt hA A_12
        · refine Kz.of (i:=8) rfl AA (by rfl) ?_;refine Jf (v':=(.own 4 0 (List.length f))) (st':=[Wd t l d q21,UZ d,eR i q,dN c,⟨0,3,1,List.map eI f⟩]) BJ kb (Bg gf) rfl AA ⟨(Ar λ_=>AA),uM⟩ AA AA (AD ⟨AA,?_⟩);exact xt hA A_03)
      have A_10:A 8 (bm 12 39) ⟨46,AJ [(3,FR q9),(4,i64 t),(6,i64 i),(7,Kw),(10,FR q9),(11,PV q9),(12,i64 t),(25,O1 d),(26,Pt d),(27,i64 i),(32,FR q9),(33,i64 t),(37,i64 i),(34,Yb t)],US t l d q21 i q c⟩:=(hA _ _ _).2 (by
        refine xa [3,6] ⟨?_,?_,uM⟩
        · refine Kz.of (i:=3) rfl AA (by rfl) ?_;refine DW (v:=(Wi t)) BJ AA (Lh Pc AA AA yy rfl) (AD ⟨AA,?_⟩);exact xt hA A_20
        · refine Kz.of (i:=6) rfl AA (by rfl) ?_;refine DW (v:=Kw) BJ AA (Lh Ti AA AA zD rfl) (AD ⟨AA,?_⟩);exact xt hA A_11)
      have A_01:A 8 (bm 12 99) ⟨46,AJ [(3,FR q9),(4,i64 t),(6,i64 i),(7,Kw),(10,FR q9),(11,PV q9),(12,i64 t),(25,O1 d),(26,Pt d),(27,i64 i),(32,FR q9),(33,i64 t),(37,i64 i),(38,Kw)],US t l d q21 i q c⟩:=(hA _ _ _).2 (by
        refine xa [2,7] ⟨?_,?_,uM⟩
        · refine Kz.of (i:=2) rfl AA (by rfl) ?_;refine DW (v:=(.ptr 0 0 (Int.toNat t) 0)) BJ AA (Rl EZ AA AA AA ht0 htl (by first|rfl|(rw[H8];omega)|(simp[H8];omega))) (AD ⟨AA,?_⟩);exact xt hA A_11
        · refine Kz.of (i:=7) rfl AA (by rfl) ?_;refine DW (v:=(ls eI c.fields)) BJ AA (De Kl AA AA AA AA) (AD ⟨AA,?_⟩);exact xt hA A_02)
      have A_00:A 9 (bm 12 35) ⟨46,AJ [(3,FR q9),(4,i64 t),(6,i64 i),(7,Kw),(10,FR q9),(11,PV q9),(12,i64 t),(25,O1 d),(26,Pt d),(27,i64 i),(32,FR q9),(33,i64 t),(37,i64 i)],US t l d q21 i q c⟩:=(hA _ _ _).2 (by
        refine xa [2,6] ⟨?_,?_,uM⟩
        · refine Kz.of (i:=2) rfl AA (by rfl) ?_;refine DW (v:=(.ptr 0 0 (Int.toNat t) 0)) BJ AA (Rl EZ AA AA AA ht0 htl (by first|rfl|(rw[H8];omega)|(simp[H8];omega))) (AD ⟨AA,?_⟩);exact xt hA A_10
        · refine Kz.of (i:=6) rfl AA (by rfl) ?_;refine DW (v:=Kw) BJ AA (Lh Ti AA AA zD rfl) (AD ⟨AA,?_⟩);exact xt hA A_01)
      have B_2:A 10 (bm 12 3) ⟨46,AJ [(3,FR q9),(4,i64 t),(6,i64 i),(7,Kw),(10,FR q9),(11,PV q9),(12,i64 t),(25,O1 d),(26,Pt d),(27,i64 i),(32,FR q9),(33,i64 t)],US t l d q21 i q c⟩:=(hA _ _ _).2 (by
        refine OQ 5 (v:=(i64 i)) rfl AA (by kernel_rfl) (by kernel_rfl) (by kernel_rfl) rfl (BY AA) ?_;exact xt hA A_00)
      have B_1:A 11 (bm 12 1) ⟨46,AJ [(3,FR q9),(4,i64 t),(6,i64 i),(7,Kw),(10,FR q9),(11,PV q9),(12,i64 t),(25,O1 d),(26,Pt d),(27,i64 i),(32,FR q9)],US t l d q21 i q c⟩:=(hA _ _ _).2 (by
        refine OQ 1 (v:=(i64 t)) rfl AA (by kernel_rfl) (by kernel_rfl) (by kernel_rfl) rfl (BY AA) ?_;exact xt hA B_2)
      have B_0:A 12 (bm 12 0) ⟨46,AJ [(3,FR q9),(4,i64 t),(6,i64 i),(7,Kw),(10,FR q9),(11,PV q9),(12,i64 t),(25,O1 d),(26,Pt d),(27,i64 i)],US t l d q21 i q c⟩:=(hA _ _ _).2 (by
        refine OQ 0 (v:=(FR q9)) rfl AA (by kernel_rfl) (by kernel_rfl) (by kernel_rfl) rfl (BY AA) ?_;exact xt hA B_1)
      exact (hA _ _ _).2 (Wv (by kernel_rfl) ((hA _ _ _).1 B_0))
    · replace h2:=Sh.oK b33 h2;have hfull:mix (DT 3) By (Int.toNat i) q=List.map (DT 3) q:=cQ (by have h:=yP b33;simp only[Sh.len]at h;omega);exact Af (M22 q (Sh.Av h2).symm hlq _ ((FJ (L:=[(3,.own 0 0 (List.length q9)),(10,.own 0 0 (List.length q9)),(11,i64 (Sh.len q9)),(12,i64 t)]) ⟨.rfl,.rfl,.rfl,.rfl,uM⟩).trans (Fj (by rw[hfull]))))
  · replace h1:=Sh.oK b13 h1;have hfull:mix (BO 106 3) Ai (Int.toNat t) l=List.map (BO 106 3) l:=cQ (by have h:=yP b13;simp only[Sh.len]at h;omega);exact Af (M9 l (Sh.Av h1).symm hll _ ((FJ (L:=[(3,.own 0 0 (List.length q9))]) ⟨.rfl,uM⟩).trans (Fj (by rw[hfull]))))
end
end Go.Proofs.YtccficmcdkcpnaaGreat.Cl
