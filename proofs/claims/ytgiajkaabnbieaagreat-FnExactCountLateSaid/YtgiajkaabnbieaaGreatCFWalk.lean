/- The copy of declarations: a row that owns all that lies under it. -/
import Derived.Test.YtgiajkaabnbieaaGreatCEWalk
import Derived.Test.YtgiajkaabnbieaaGreatGCloneDToCloneE
set_option linter.all false
namespace Go.Proofs.YtgiajkaabnbieaaGreat.Cl
noncomputable section
open Go Go.Abs RC
set_option maxRecDepth 100000
abbrev RA (z0 z1:_)(z2:Ac){α3:Type}(z3:List α3)(z4 z5:_)(z6:Bh):=([⟨0,83,3,(mix (Az 116 3) Am (Int.toNat z0) z1).set (Int.toNat z0) [i64 z2.from_,i64 z2.to,.own 2 0 (List.length z3)]⟩,⟨0,83,3,[[i64 z2.from_,i64 z2.to,ls Bv z2.cons]]⟩,⟨0,116,1,mix (Cv 3) Bv (Int.toNat z4) z5⟩,⟨0,116,1,[[ls eI z6.fields]]⟩]:List Row)
abbrev SJ (z0 z1:_)(z2:Ac){α3:Type}(z3:List α3):=(⟨0,83,3,(mix (Az 116 3) Am (Int.toNat z0) z1).set (Int.toNat z0) [i64 z2.from_,i64 z2.to,.own 2 0 (List.length z3)]⟩:Row)
abbrev Eh {α0:Type}(z0:List α0):=((.own 0 0 (List.length z0)):AV)
abbrev Q9 (z0:Ac):=(⟨0,83,3,[[i64 z0.from_,i64 z0.to,ls Bv z0.cons]]⟩:Row)
abbrev JQ:=((.ptr 3 0 0 0):AV)
abbrev YE (z0 z1:_):=(⟨0,116,1,mix (Cv 3) Bv (Int.toNat z0) z1⟩:Row)
abbrev Nd (z0:Ac):=((i64 (Sh.len z0.cons)):AV)
abbrev Yb (z0:Bh):=(⟨0,116,1,[[ls eI z0.fields]]⟩:Row)
abbrev Mm (z0:Ac):=((ls Bv z0.cons):AV)
abbrev TT (z0:_):=((.ptr 0 0 (Int.toNat z0) 2):AV)
abbrev Uh (z0:_):=((.ptr 0 0 (Int.toNat z0) 0):AV)
abbrev NF {α0:Type}(z0:List α0):=((i64 (Sh.len z0)):AV)
set_option maxHeartbeats 4000000
theorem I9:DS Tryz.prog 83=some (true,3):=by kernel_rfl
theorem LY:DS Tryz.prog 116=some (true,1):=by kernel_rfl
theorem RO:DS Tryz.prog 81=some (false,1):=by kernel_rfl
theorem Ky:DS Tryz.prog 49=some (false,1):=by kernel_rfl
theorem PO:Hm Tryz.prog 83 2=some 2:=by kernel_rfl
theorem Pt:Hm Tryz.prog 116 0=some 0:=by kernel_rfl
theorem GY:H0 Tryz.prog 83=some [.int .i64 0,.int .i64 0,.zc]:=by kernel_rfl
theorem OB:H0 Tryz.prog 116=some [.zc]:=by kernel_rfl
theorem lY:Er Tryz.prog 91=true:=by kernel_rfl
theorem lM:Er Tryz.prog 92=true:=by kernel_rfl
theorem cP:Er Tryz.prog 47=true:=by kernel_rfl
theorem VB:True:=mD
theorem Pj {N:Nat}{p0 r:List Ac}(h0:IH N p0=some r):AS Tryz.prog 46 [ls Am p0] [] (λv st=>v=(Eh r)/\st=[⟨0,83,3,List.map (Az 116 3) r⟩]):=by
  unfold IH at h0;refine AS.intro Tryz.func46 AA (by show 1<=46;decide) ?_;show AW _ 0 _ (gS _ 0 Tryz.f46 _) ⟨46,_,_⟩;refine AJ (Ao (L:=[(0,ls Am p0)]) ⟨.rfl,mD⟩) ?_;refine AD λK1 hK1=>?_;refine AF (by rfl) ?_;refine Ap (v:=.zc) AR AA (T9 AA) ?_;refine AE (hK1 _ ?_);refine AD λK2 yF=>?_;refine AF (by rfl) ?_;refine Ap (v:=(ls Am p0)) AR AA (MV AA) ?_;obtain⟨q9,gq9,h0⟩:=Sh.bind_some h0;refine BE (v':=(Eh q9)) (st':=[⟨0,83,3,List.map Am q9⟩]) AR lY (Jv gq9) rfl AA ⟨(Ay λ_=>AA),mD⟩ AA AA ?_;refine Ap (v:=(Eh q9)) AR AA (T9 AA) ?_;refine AE (yF _ ?_);have sb:q9.length<=9223372036854775807:=by
    unfold DI at gq9;obtain⟨x,hx,hs⟩:=Sh.bind_some gq9;unfold Sh.app at hx;split at hx
    · rename_i hb;simp only[mE]at hx hs;rw[<- hs,<- hx];simpa using hb.2
    · cases hx
  refine AD λK4 hK4=>?_;refine AD λK5 yG=>?_;refine AF (by rfl) ?_;refine Ap (v:=(Eh q9)) AR AA (MV AA) ?_;refine Ap (v:=(NF q9)) AR AA (D0 TI AA AA AA) ?_;refine Ap (v:=(i64 0)) AR AA (MV AA) ?_;refine AE (yG _ ?_);obtain⟨o9,h1,h0⟩:=Sh.bind_some h0;have M9:∀(l:List Ac),o9=l->l.length=q9.length->∀s,Wk 0 s ⟨46,AN [(3,Eh q9)],[⟨0,83,3,List.map (Az 116 3) l⟩]⟩->K4 s:=by
    intro l hq hlen s hw;subst o9;refine hK4 _ (AJ hw ?_);refine AD λK10 hK10=>?_;refine AF (by rfl) ?_;refine Ap (v:=(Eh q9)) AR AA (MV AA) ?_;refine Ap (v:=(Eh q9)) AR AA (T9 AA) ?_;refine AE (hK10 _ ?_);obtain rfl:=Sh.AB h0;exact BG (Exists.intro _ (And.intro (Ao (L:=[(2,.own 0 0 (List.length q9))]) ⟨.rfl,mD⟩) (And.intro (by show _=AV.own 0 0 l.length;rw[hlen];rfl) rfl)))
  refine AL (Af (σ:=Int×(List Ac)) (λn v=>ER N (Sh.len q9) n v.1 v.2=some o9/\v.2.length=q9.length/\0<=v.1/\v.1<=q9.length) (λ(t,l)=>⟨46,AN [(3,.own 0 0 (List.length q9)),(10,.own 0 0 (List.length q9)),(11,i64 (Sh.len q9)),(12,i64 t)],[⟨0,83,3,mix (Az 116 3) Am (Int.toNat t) l⟩]⟩) N (0,q9) ⟨h1,AA,pU _,pG _⟩ ((Ao (L:=[(3,.own 0 0 (List.length q9)),(10,.own 0 0 (List.length q9)),(11,i64 (Sh.len q9)),(12,i64 0)]) ⟨.rfl,.rfl,.rfl,.rfl,mD⟩).trans (E4 (by rw[show Int.toNat 0=0 from AA,X3]))) (λ_ hv=>by have hv:=hv.1;rw[ER]at hv;cases hv) ?_);rintro n ⟨t,l⟩ ⟨h1,wy,wR,ht1⟩;try dsimp only at h1 wy wR ht1⊢
  rw[ER]at h1;refine AD λK11 hK11=>?_;refine AF (by rfl) ?_;refine Ap (v:=(.bool (decide (t<(Sh.len q9))))) AR AA (bE AA AA) ?_;refine AE (hK11 _ ?_);refine AD λK12 hK12=>?_;refine Fi (b:=decide (t<(Sh.len q9))) rfl (λb13=>?_) (λb13=>?_)
  · replace h1:=Sh.gD b13 h1;refine AG (hK12 _ ?_);have wK:t<(q9.length:Int):=nQ b13;obtain⟨d,gd,h1⟩:=Sh.bind_some h1;obtain⟨rh,gq21,h1⟩:=Sh.bind_some h1;obtain⟨o22,h2,h1⟩:=Sh.bind_some h1;have rD:l[Int.toNat t]?=some d:=by have h:=gd;unfold Sh.get at h;rw[mI wR]at h;exact h
    have uH:Int.toNat t<(mix (Az 116 3) Am (Int.toNat t) l).length:=by rw[Gg];exact (mC.1 rD).1
    have hpd:DF (mix (Az 116 3) Am (Int.toNat t) l):=Ta (λ_=>rfl) (λ_=>rfl);refine AD λK14 hK14=>?_;refine AL ?_;refine AD λK15 hK15=>?_;refine AF (by rfl) ?_;refine Ap (v:=(i64 t)) AR AA (MV AA) ?_;refine Ap (v:=(.ptr 0 0 (Int.toNat t) 0)) AR AA (PA Dl AA AA AA wR wK (by first|rfl|(rw[Gg];omega)|(simp[Gg];omega))) ?_;refine Ap (v:=(.agg [i64 d.from_,i64 d.to,Mm d])) AR AA (Ch I9 AA AA (WQ rD) qJ rfl) ?_;refine Al (m:=1) (st':=[⟨0,83,3,mix (Az 116 3) Am (Int.toNat t) l⟩,⟨0,83,3,[[i64 0,i64 0,.zc]]⟩]) AR GY AA AA ?_;refine Ap (v:=(i64 t)) AR AA (T9 AA) ?_;refine Aq (st':=[⟨0,83,3,mix (Az 116 3) Am (Int.toNat t) l⟩,Q9 d]) AR I9 AA AA AA AA AA AA qJ rfl ?_;refine AE (hK15 _ ?_);refine AD λK16 hK16=>?_;refine AF (by rfl) ?_;refine Ap (v:=(Eh q9)) AR AA (MV AA) ?_;refine Ap (v:=(i64 t)) AR AA (MV AA) ?_;refine Ap (v:=(.ptr 1 0 0 2)) AR AA (Jr PO AA AA qR rfl) ?_;refine Ap (v:=(Mm d)) AR AA (DQ RO AA AA AA AA) ?_;refine BE (v':=(.own 2 0 (List.length rh))) (st':=[⟨0,83,3,mix (Az 116 3) Am (Int.toNat t) l⟩,Q9 d,⟨0,116,1,List.map Bv rh⟩]) AR lM (KL gq21) rfl AA ⟨(Ay λ_=>AA),mD⟩ AA AA ?_;refine Ap (v:=(.ptr 0 0 (Int.toNat t) 0)) AR AA (PA Dl AA AA AA wR wK (by first|rfl|(rw[Gg];omega)|(simp[Gg];omega))) ?_;refine Ap (v:=(TT t)) AR AA (Jr PO AA AA qR rfl) ?_;refine Aq (st':=[SJ t l d rh,Q9 d,⟨0,116,1,List.map Bv rh⟩]) AR RO AA AA (WQ rD) rfl AA AA (show 2+1<=3 by decide) rfl ?_;refine AE (hK16 _ ?_);refine AD λK17 hK17=>?_;refine AF (by rfl) ?_;refine Ap (v:=(.ptr 1 0 0 2)) AR AA (Jr PO AA AA qR rfl) ?_;refine Ap (v:=(Mm d)) AR AA (DQ RO AA AA AA AA) ?_;refine Ap (v:=(Nd d)) AR AA (Br RN AA) ?_;refine Ap (v:=(i64 0)) AR AA (MV AA) ?_;refine AE (hK17 _ ?_);have M22:∀(q:List Bh),o22=q->q.length=rh.length->∀s,Wk 0 s ⟨46,AN [(3,Eh q9),(10,Eh q9),(11,NF q9),(12,i64 t)],[SJ t l d rh,Q9 d,⟨0,116,1,List.map (Cv 3) q⟩]⟩->K14 s:=by
      intro q hq hlq s hw;subst o22;refine hK14 _ (AJ hw ?_);have hmix:((mix (Az 116 3) Am (Int.toNat t) l).set (Int.toNat t) [i64 d.from_,i64 d.to,.own 2 0 (List.length rh)]).set (Int.toNat t) (Az 116 3 (Ac.mk d.from_ d.to q))=mix (Az 116 3) Am (Int.toNat t+1) (Sh.put l t (Ac.mk d.from_ d.to q)):=by rw[List.set_set];exact ZW rD
      refine AJ (PM (id:=0) (m:=2) (i:=Int.toNat t) (j:=2) (st':=[⟨0,83,3,mix (Az 116 3) Am (Int.toNat t+1) (Sh.put l t (Ac.mk d.from_ d.to q))⟩,⟨0,83,3,[[i64 d.from_,i64 d.to,ls Bv d.cons]]⟩,⟨1,116,1,[]⟩]) rfl (mN uH) rfl AA (by simp[hlq]) (by decide) (mV _) (RC.Ic λ_=>AA) (by rw[<- hmix];rfl)) ?_;refine AJ (VM (L:=[(3,.own 0 0 (List.length q9)),(10,.own 0 0 (List.length q9)),(11,i64 (Sh.len q9)),(12,i64 t)]) (st':=[⟨0,83,3,mix (Az 116 3) Am (Int.toNat t+1) (Sh.put l t (Ac.mk d.from_ d.to q))⟩]) [0] (by decide) rfl AA (λrow h=>by rw[mv.1 h];exact O2 (Ta (λ_=>AA) (λ_=>AA))) ⟨.rfl,.rfl,.rfl,.rfl,mD⟩) ?_;refine AF (by rfl) ?_;refine Ap (v:=(i64 (Sh.w (t+1)))) AR AA (YC AA AA) ?_;refine Ap (v:=(i64 (Sh.w (t+1)))) AR AA (MV AA) ?_;have yH:Sh.w (t+1)=t+1:=Go.Abs.wrap_i64 (by omega) (by omega);have ht2:Int.toNat (Sh.w (t+1))=Int.toNat t+1:=by rw[yH];omega
      exact AE (Exists.intro (Sh.w (t+1),Sh.put l t (Ac.mk d.from_ d.to q)) (And.intro ⟨h1,by rw[Sh.Au];exact wy,by rw[yH];omega,by rw[yH];omega⟩ ((Ao (L:=[(3,.own 0 0 (List.length q9)),(10,.own 0 0 (List.length q9)),(11,i64 (Sh.len q9)),(12,i64 (Sh.w (t+1)))]) ⟨.rfl,.rfl,.rfl,.rfl,mD⟩).trans (E4 (by rw[ht2])))))
    have hq0:rh.length=d.cons.length:=by
      unfold Ci at gq21;obtain⟨x,hx,hs⟩:=Sh.bind_some gq21;unfold Sh.app at hx;split at hx
      · simp only[mE,nV]at hx hs;rw[<- hs,<- hx]
      · cases hx
    have yU:d.cons.length<=9223372036854775807:=by
      unfold Ci at gq21;obtain⟨x,hx,hs⟩:=Sh.bind_some gq21;unfold Sh.app at hx;split at hx
      · rename_i hb;simpa using hb.2
      · cases hx
    refine AL (Af (σ:=Int×(List Bh)) (λn v=>EN d.cons n v.1 v.2=some o22/\v.2.length=rh.length/\0<=v.1/\v.1<=d.cons.length) (λ(i,q)=>⟨46,AN [(3,.own 0 0 (List.length q9)),(4,i64 t),(10,.own 0 0 (List.length q9)),(11,i64 (Sh.len q9)),(12,i64 t),(25,ls Bv d.cons),(26,i64 (Sh.len d.cons)),(27,i64 i)],[⟨0,83,3,(mix (Az 116 3) Am (Int.toNat t) l).set (Int.toNat t) [i64 d.from_,i64 d.to,.own 2 0 (List.length rh)]⟩,⟨0,83,3,[[i64 d.from_,i64 d.to,ls Bv d.cons]]⟩,⟨0,116,1,mix (Cv 3) Bv (Int.toNat i) q⟩]⟩) N (0,rh) ⟨h2,AA,pU _,pG _⟩ ((Ao (L:=[(3,.own 0 0 (List.length q9)),(4,i64 t),(10,.own 0 0 (List.length q9)),(11,i64 (Sh.len q9)),(12,i64 t),(25,ls Bv d.cons),(26,i64 (Sh.len d.cons)),(27,i64 0)]) ⟨.rfl,.rfl,.rfl,.rfl,.rfl,.rfl,.rfl,.rfl,mD⟩).trans (E4 (by rw[show Int.toNat 0=0 from AA,X3]))) (λ_ hv=>by have hv:=hv.1;rw[EN]at hv;cases hv) ?_);rintro n2 ⟨i,q⟩ ⟨h2,hlq,hi0,xM⟩;try dsimp only at h2 hlq hi0 xM⊢
    rw[EN]at h2;refine AD λK31 hK31=>?_;refine AF (by rfl) ?_;refine Ap (v:=(.bool (decide (i<(Sh.len d.cons))))) AR AA (bE AA AA) ?_;refine AE (hK31 _ ?_);refine AD λK32 hK32=>?_;refine Fi (b:=decide (i<(Sh.len d.cons))) rfl (λzB=>?_) (λzB=>?_)
    · replace h2:=Sh.gD zB h2;refine AG (hK32 _ ?_);have tM:i<(rh.length:Int):=by rw[hq0];exact nQ zB
      obtain⟨c,gc,h2⟩:=Sh.bind_some h2;obtain⟨f,gf,h2⟩:=Sh.bind_some h2;obtain⟨c2,gc2,h2⟩:=Sh.bind_some h2;have hgc:q[Int.toNat i]?=some c2:=by have h:=gc2;unfold Sh.get at h;rw[mI hi0]at h;exact h
      have hkc:Int.toNat i<(mix (Cv 3) Bv (Int.toNat i) q).length:=by rw[Gg];exact (mC.1 hgc).1
      refine AD λK34 hK34=>?_;refine AL ?_;refine AD λK35 hK35=>?_;refine AF (by rfl) ?_;refine Ap (v:=(i64 i)) AR AA (MV AA) ?_;refine Ap (v:=(.Bt (Bv c) 0)) AR AA (Bc KV AA AA gc AA) ?_;refine Ap (v:=(.agg [ls eI c.fields])) AR AA (ZU LY AA qK rfl) ?_;refine Al (m:=3) (st':=[SJ t l d rh,Q9 d,YE i q,⟨0,116,1,[[.zc]]⟩]) AR OB AA AA ?_;refine Ap (v:=(i64 i)) AR AA (T9 AA) ?_;refine Aq (st':=(RA t l d rh i q c)) AR LY AA AA AA AA AA AA qK rfl ?_;refine AE (hK35 _ ?_);refine AJ (Ao (L:=[(3,Eh q9),(4,i64 t),(6,i64 i),(7,JQ),(10,Eh q9),(11,NF q9),(12,i64 t),(25,Mm d),(26,Nd d),(27,i64 i)]) ⟨.rfl,.rfl,.rfl,.rfl,.rfl,.rfl,.rfl,.rfl,.rfl,.rfl,mD⟩) ?_;refine IT (by kernel_rfl) ?_;refine LV λA hA=>?_;have hmixc:((mix (Cv 3) Bv (Int.toNat i) q).set (Int.toNat i) [.own 4 0 (List.length f)]).set (Int.toNat i) (Cv 3 (Bh.mk f))=mix (Cv 3) Bv (Int.toNat i+1) (Sh.put q i (Bh.mk f)):=by rw[List.set_set];exact ZW hgc
      have hselr:∀row∈[SJ t l d rh,Q9 d,⟨0,116,1,mix (Cv 3) Bv (Int.toNat i+1) (Sh.put q i (Bh.mk f))⟩],CR [0,1,2] row=row:=by
        intro row h;rcases mc.1 h with rfl|h
        · exact Zj hpd AA
        rcases mc.1 h with rfl|h
        · rfl
        rw[mv.1 h];exact O2 (Ta (λ_=>AA) (λ_=>AA))
      have A_33:A 3 (bm 12 511) ⟨46,AN [(3,Eh q9),(4,i64 t),(6,i64 i),(7,JQ),(10,Eh q9),(11,NF q9),(12,i64 t),(25,Mm d),(26,Nd d),(27,i64 i),(32,Eh q9),(33,i64 t),(37,i64 i),(34,Uh t),(35,TT t),(36,.own 2 0 (List.length rh)),(38,JQ),(39,ls eI c.fields),(40,.own 4 0 (List.length f))],[SJ t l d rh,Q9 d,YE i q,Yb c,⟨0,3,1,List.map eI f⟩]⟩:=(hA _ _ _).2 (by
        refine xa [9] ⟨?_,mD⟩;refine JZ.of (i:=9) rfl AA (by rfl) ?_;refine Ap (v:=(.ptr 2 0 (Int.toNat i) 0)) AR AA (PA KV AA AA AA hi0 tM (by first|rfl|(rw[Gg];omega)|(simp[Gg];omega))) (AE ⟨AA,?_⟩);refine xa [10] ⟨?_,mD⟩;refine JZ.of (i:=10) rfl AA (by rfl) ?_;refine Ap (v:=(.ptr 2 0 (Int.toNat i) 0)) AR AA (Jr Pt AA AA qT rfl) (AE ⟨AA,?_⟩);refine xa [11] ⟨?_,mD⟩;refine JZ.of (i:=11) rfl AA (by rfl) ?_;refine Aq (st':=[SJ t l d rh,Q9 d,⟨0,116,1,(mix (Cv 3) Bv (Int.toNat i) q).set (Int.toNat i) [.own 4 0 (List.length f)]⟩,Yb c,⟨0,3,1,List.map eI f⟩]) AR Ky AA AA (WQ hgc) rfl AA AA qK rfl (AE ⟨AA,?_⟩);refine GD AA (by kernel_rfl) ?_;refine hK34 _ ?_;refine AJ (PM (id:=2) (m:=4) (i:=Int.toNat i) (j:=0) (st':=[⟨0,83,3,(mix (Az 116 3) Am (Int.toNat t) l).set (Int.toNat t) [i64 d.from_,i64 d.to,.own 2 0 (List.length rh)]⟩,⟨0,83,3,[[i64 d.from_,i64 d.to,ls Bv d.cons]]⟩,⟨0,116,1,mix (Cv 3) Bv (Int.toNat i+1) (Sh.put q i (Bh.mk f))⟩,⟨0,116,1,[[ls eI c.fields]]⟩,⟨1,3,1,[]⟩]) rfl (mN hkc) rfl AA (by simp) (by decide) (mV _) (RC.Ic λ_=>AA) (by rw[<- hmixc];rfl)) ?_;refine AJ (VM (L:=[(3,Eh q9),(4,i64 t),(10,Eh q9),(11,NF q9),(12,i64 t),(25,Mm d),(26,Nd d),(27,i64 i)]) (st':=[SJ t l d rh,Q9 d,⟨0,116,1,mix (Cv 3) Bv (Int.toNat i+1) (Sh.put q i (Bh.mk f))⟩]) [0,1,2] (by decide) rfl AA hselr ⟨.rfl,.rfl,.rfl,.rfl,.rfl,.rfl,.rfl,.rfl,mD⟩) ?_;refine AF (by rfl) ?_;refine Ap (v:=(i64 (Sh.w (i+1)))) AR AA (YC AA AA) ?_;refine Ap (v:=(i64 (Sh.w (i+1)))) AR AA (MV AA) ?_;have htc:i<(d.cons.length:Int):=nQ zB;have yH:Sh.w (i+1)=i+1:=Go.Abs.wrap_i64 (by omega) (by omega);have ht2:Int.toNat (Sh.w (i+1))=Int.toNat i+1:=by rw[yH];omega
        exact AE (Exists.intro (Sh.w (i+1),Sh.put q i (Bh.mk f)) (And.intro ⟨h2,by rw[Sh.Au];exact hlq,by rw[yH];omega,by rw[yH];omega⟩ ((Ao (L:=[(3,.own 0 0 (List.length q9)),(4,i64 t),(10,.own 0 0 (List.length q9)),(11,i64 (Sh.len q9)),(12,i64 t),(25,ls Bv d.cons),(26,i64 (Sh.len d.cons)),(27,i64 (Sh.w (i+1)))]) ⟨.rfl,.rfl,.rfl,.rfl,.rfl,.rfl,.rfl,.rfl,mD⟩).trans (E4 (by rw[ht2]))))))
      have A_32:A 4 (bm 12 255) ⟨46,AN [(3,Eh q9),(4,i64 t),(6,i64 i),(7,JQ),(10,Eh q9),(11,NF q9),(12,i64 t),(25,Mm d),(26,Nd d),(27,i64 i),(32,Eh q9),(33,i64 t),(37,i64 i),(34,Uh t),(35,TT t),(36,.own 2 0 (List.length rh)),(38,JQ),(39,ls eI c.fields)],RA t l d rh i q c⟩:=(hA _ _ _).2 (by
        refine xa [8] ⟨?_,mD⟩
        · refine JZ.of (i:=8) rfl AA (by rfl) ?_;refine BE (v':=(.own 4 0 (List.length f))) (st':=[SJ t l d rh,Q9 d,YE i q,Yb c,⟨0,3,1,List.map eI f⟩]) AR cP (Bn gf) rfl AA ⟨(Ay λ_=>AA),mD⟩ AA AA (AE ⟨AA,?_⟩);exact xt hA A_33)
      have A_23:A 4 (bm 12 495) ⟨46,AN [(3,Eh q9),(4,i64 t),(6,i64 i),(7,JQ),(10,Eh q9),(11,NF q9),(12,i64 t),(25,Mm d),(26,Nd d),(27,i64 i),(32,Eh q9),(33,i64 t),(37,i64 i),(34,Uh t),(35,TT t),(38,JQ),(39,ls eI c.fields),(40,.own 4 0 (List.length f))],[SJ t l d rh,Q9 d,YE i q,Yb c,⟨0,3,1,List.map eI f⟩]⟩:=(hA _ _ _).2 (by
        refine xa [4] ⟨?_,mD⟩
        · refine JZ.of (i:=4) rfl AA (by rfl) ?_;refine Ap (v:=(.own 2 0 (List.length rh))) AR AA (DQ RO AA AA (mN uH) rfl) (AE ⟨AA,?_⟩);exact xt hA A_33)
      have A_31:A 5 (bm 12 127) ⟨46,AN [(3,Eh q9),(4,i64 t),(6,i64 i),(7,JQ),(10,Eh q9),(11,NF q9),(12,i64 t),(25,Mm d),(26,Nd d),(27,i64 i),(32,Eh q9),(33,i64 t),(37,i64 i),(34,Uh t),(35,TT t),(36,.own 2 0 (List.length rh)),(38,JQ)],RA t l d rh i q c⟩:=(hA _ _ _).2 (by
        refine xa [7] ⟨?_,mD⟩
        · refine JZ.of (i:=7) rfl AA (by rfl) ?_;refine Ap (v:=(ls eI c.fields)) AR AA (DQ Ky AA AA AA AA) (AE ⟨AA,?_⟩);exact xt hA A_32)
      have A_22:A 5 (bm 12 239) ⟨46,AN [(3,Eh q9),(4,i64 t),(6,i64 i),(7,JQ),(10,Eh q9),(11,NF q9),(12,i64 t),(25,Mm d),(26,Nd d),(27,i64 i),(32,Eh q9),(33,i64 t),(37,i64 i),(34,Uh t),(35,TT t),(38,JQ),(39,ls eI c.fields)],RA t l d rh i q c⟩:=(hA _ _ _).2 (by
        refine xa [4,8] ⟨?_,?_,mD⟩
        · refine JZ.of (i:=4) rfl AA (by rfl) ?_;refine Ap (v:=(.own 2 0 (List.length rh))) AR AA (DQ RO AA AA (mN uH) rfl) (AE ⟨AA,?_⟩);exact xt hA A_32
        · refine JZ.of (i:=8) rfl AA (by rfl) ?_;refine BE (v':=(.own 4 0 (List.length f))) (st':=[SJ t l d rh,Q9 d,YE i q,Yb c,⟨0,3,1,List.map eI f⟩]) AR cP (Bn gf) rfl AA ⟨(Ay λ_=>AA),mD⟩ AA AA (AE ⟨AA,?_⟩);exact xt hA A_23)
      have A_13:A 5 (bm 12 487) ⟨46,AN [(3,Eh q9),(4,i64 t),(6,i64 i),(7,JQ),(10,Eh q9),(11,NF q9),(12,i64 t),(25,Mm d),(26,Nd d),(27,i64 i),(32,Eh q9),(33,i64 t),(37,i64 i),(34,Uh t),(38,JQ),(39,ls eI c.fields),(40,.own 4 0 (List.length f))],[SJ t l d rh,Q9 d,YE i q,Yb c,⟨0,3,1,List.map eI f⟩]⟩:=(hA _ _ _).2 (by
        refine xa [3] ⟨?_,mD⟩
        · refine JZ.of (i:=3) rfl AA (by rfl) ?_;refine Ap (v:=(TT t)) AR AA (Jr PO AA AA qR rfl) (AE ⟨AA,?_⟩);exact xt hA A_23)
      have A_30:A 6 (bm 12 63) ⟨46,AN [(3,Eh q9),(4,i64 t),(6,i64 i),(7,JQ),(10,Eh q9),(11,NF q9),(12,i64 t),(25,Mm d),(26,Nd d),(27,i64 i),(32,Eh q9),(33,i64 t),(37,i64 i),(34,Uh t),(35,TT t),(36,.own 2 0 (List.length rh))],RA t l d rh i q c⟩:=(hA _ _ _).2 (by
        refine xa [6] ⟨?_,mD⟩
        · refine JZ.of (i:=6) rfl AA (by rfl) ?_;refine Ap (v:=JQ) AR AA (Jr Pt AA AA qT rfl) (AE ⟨AA,?_⟩);exact xt hA A_31)
      have A_21:A 6 (bm 12 111) ⟨46,AN [(3,Eh q9),(4,i64 t),(6,i64 i),(7,JQ),(10,Eh q9),(11,NF q9),(12,i64 t),(25,Mm d),(26,Nd d),(27,i64 i),(32,Eh q9),(33,i64 t),(37,i64 i),(34,Uh t),(35,TT t),(38,JQ)],RA t l d rh i q c⟩:=(hA _ _ _).2 (by
        refine xa [4,7] ⟨?_,?_,mD⟩
        · refine JZ.of (i:=4) rfl AA (by rfl) ?_;refine Ap (v:=(.own 2 0 (List.length rh))) AR AA (DQ RO AA AA (mN uH) rfl) (AE ⟨AA,?_⟩);exact xt hA A_31
        · refine JZ.of (i:=7) rfl AA (by rfl) ?_;refine Ap (v:=(ls eI c.fields)) AR AA (DQ Ky AA AA AA AA) (AE ⟨AA,?_⟩);exact xt hA A_22)
      have A_12:A 6 (bm 12 231) ⟨46,AN [(3,Eh q9),(4,i64 t),(6,i64 i),(7,JQ),(10,Eh q9),(11,NF q9),(12,i64 t),(25,Mm d),(26,Nd d),(27,i64 i),(32,Eh q9),(33,i64 t),(37,i64 i),(34,Uh t),(38,JQ),(39,ls eI c.fields)],RA t l d rh i q c⟩:=(hA _ _ _).2 (by
        refine xa [3,8] ⟨?_,?_,mD⟩
        · refine JZ.of (i:=3) rfl AA (by rfl) ?_;refine Ap (v:=(TT t)) AR AA (Jr PO AA AA qR rfl) (AE ⟨AA,?_⟩);exact xt hA A_22
        · refine JZ.of (i:=8) rfl AA (by rfl) ?_;refine BE (v':=(.own 4 0 (List.length f))) (st':=[SJ t l d rh,Q9 d,YE i q,Yb c,⟨0,3,1,List.map eI f⟩]) AR cP (Bn gf) rfl AA ⟨(Ay λ_=>AA),mD⟩ AA AA (AE ⟨AA,?_⟩);exact xt hA A_13)
      have A_03:A 6 (bm 12 483) ⟨46,AN [(3,Eh q9),(4,i64 t),(6,i64 i),(7,JQ),(10,Eh q9),(11,NF q9),(12,i64 t),(25,Mm d),(26,Nd d),(27,i64 i),(32,Eh q9),(33,i64 t),(37,i64 i),(38,JQ),(39,ls eI c.fields),(40,.own 4 0 (List.length f))],[SJ t l d rh,Q9 d,YE i q,Yb c,⟨0,3,1,List.map eI f⟩]⟩:=(hA _ _ _).2 (by
        refine xa [2] ⟨?_,mD⟩
        · refine JZ.of (i:=2) rfl AA (by rfl) ?_;refine Ap (v:=(.ptr 0 0 (Int.toNat t) 0)) AR AA (PA Dl AA AA AA wR wK (by first|rfl|(rw[Gg];omega)|(simp[Gg];omega))) (AE ⟨AA,?_⟩);exact xt hA A_13)
      have A_20:A 7 (bm 12 47) ⟨46,AN [(3,Eh q9),(4,i64 t),(6,i64 i),(7,JQ),(10,Eh q9),(11,NF q9),(12,i64 t),(25,Mm d),(26,Nd d),(27,i64 i),(32,Eh q9),(33,i64 t),(37,i64 i),(34,Uh t),(35,TT t)],RA t l d rh i q c⟩:=(hA _ _ _).2 (by
        refine xa [4,6] ⟨?_,?_,mD⟩
        · refine JZ.of (i:=4) rfl AA (by rfl) ?_;refine Ap (v:=(.own 2 0 (List.length rh))) AR AA (DQ RO AA AA (mN uH) rfl) (AE ⟨AA,?_⟩);exact xt hA A_30
        · refine JZ.of (i:=6) rfl AA (by rfl) ?_;refine Ap (v:=JQ) AR AA (Jr Pt AA AA qT rfl) (AE ⟨AA,?_⟩);exact xt hA A_21)
      have A_11:A 7 (bm 12 103) ⟨46,AN [(3,Eh q9),(4,i64 t),(6,i64 i),(7,JQ),(10,Eh q9),(11,NF q9),(12,i64 t),(25,Mm d),(26,Nd d),(27,i64 i),(32,Eh q9),(33,i64 t),(37,i64 i),(34,Uh t),(38,JQ)],RA t l d rh i q c⟩:=(hA _ _ _).2 (by
        refine xa [3,7] ⟨?_,?_,mD⟩
        · refine JZ.of (i:=3) rfl AA (by rfl) ?_;refine Ap (v:=(TT t)) AR AA (Jr PO AA AA qR rfl) (AE ⟨AA,?_⟩);exact xt hA A_21
        · refine JZ.of (i:=7) rfl AA (by rfl) ?_;refine Ap (v:=(ls eI c.fields)) AR AA (DQ Ky AA AA AA AA) (AE ⟨AA,?_⟩);exact xt hA A_12)
      have A_02:A 7 (bm 12 227) ⟨46,AN [(3,Eh q9),(4,i64 t),(6,i64 i),(7,JQ),(10,Eh q9),(11,NF q9),(12,i64 t),(25,Mm d),(26,Nd d),(27,i64 i),(32,Eh q9),(33,i64 t),(37,i64 i),(38,JQ),(39,ls eI c.fields)],RA t l d rh i q c⟩:=(hA _ _ _).2 (by
        refine xa [2,8] ⟨?_,?_,mD⟩
        · refine JZ.of (i:=2) rfl AA (by rfl) ?_;refine Ap (v:=(.ptr 0 0 (Int.toNat t) 0)) AR AA (PA Dl AA AA AA wR wK (by first|rfl|(rw[Gg];omega)|(simp[Gg];omega))) (AE ⟨AA,?_⟩);exact xt hA A_12
        · refine JZ.of (i:=8) rfl AA (by rfl) ?_;refine BE (v':=(.own 4 0 (List.length f))) (st':=[SJ t l d rh,Q9 d,YE i q,Yb c,⟨0,3,1,List.map eI f⟩]) AR cP (Bn gf) rfl AA ⟨(Ay λ_=>AA),mD⟩ AA AA (AE ⟨AA,?_⟩);exact xt hA A_03)
      have A_10:A 8 (bm 12 39) ⟨46,AN [(3,Eh q9),(4,i64 t),(6,i64 i),(7,JQ),(10,Eh q9),(11,NF q9),(12,i64 t),(25,Mm d),(26,Nd d),(27,i64 i),(32,Eh q9),(33,i64 t),(37,i64 i),(34,Uh t)],RA t l d rh i q c⟩:=(hA _ _ _).2 (by
        refine xa [3,6] ⟨?_,?_,mD⟩
        · refine JZ.of (i:=3) rfl AA (by rfl) ?_;refine Ap (v:=(TT t)) AR AA (Jr PO AA AA qR rfl) (AE ⟨AA,?_⟩);exact xt hA A_20
        · refine JZ.of (i:=6) rfl AA (by rfl) ?_;refine Ap (v:=JQ) AR AA (Jr Pt AA AA qT rfl) (AE ⟨AA,?_⟩);exact xt hA A_11)
      have A_01:A 8 (bm 12 99) ⟨46,AN [(3,Eh q9),(4,i64 t),(6,i64 i),(7,JQ),(10,Eh q9),(11,NF q9),(12,i64 t),(25,Mm d),(26,Nd d),(27,i64 i),(32,Eh q9),(33,i64 t),(37,i64 i),(38,JQ)],RA t l d rh i q c⟩:=(hA _ _ _).2 (by
        refine xa [2,7] ⟨?_,?_,mD⟩
        · refine JZ.of (i:=2) rfl AA (by rfl) ?_;refine Ap (v:=(.ptr 0 0 (Int.toNat t) 0)) AR AA (PA Dl AA AA AA wR wK (by first|rfl|(rw[Gg];omega)|(simp[Gg];omega))) (AE ⟨AA,?_⟩);exact xt hA A_11
        · refine JZ.of (i:=7) rfl AA (by rfl) ?_;refine Ap (v:=(ls eI c.fields)) AR AA (DQ Ky AA AA AA AA) (AE ⟨AA,?_⟩);exact xt hA A_02)
      have A_00:A 9 (bm 12 35) ⟨46,AN [(3,Eh q9),(4,i64 t),(6,i64 i),(7,JQ),(10,Eh q9),(11,NF q9),(12,i64 t),(25,Mm d),(26,Nd d),(27,i64 i),(32,Eh q9),(33,i64 t),(37,i64 i)],RA t l d rh i q c⟩:=(hA _ _ _).2 (by
        refine xa [2,6] ⟨?_,?_,mD⟩
        · refine JZ.of (i:=2) rfl AA (by rfl) ?_;refine Ap (v:=(.ptr 0 0 (Int.toNat t) 0)) AR AA (PA Dl AA AA AA wR wK (by first|rfl|(rw[Gg];omega)|(simp[Gg];omega))) (AE ⟨AA,?_⟩);exact xt hA A_10
        · refine JZ.of (i:=6) rfl AA (by rfl) ?_;refine Ap (v:=JQ) AR AA (Jr Pt AA AA qT rfl) (AE ⟨AA,?_⟩);exact xt hA A_01)
      have B_2:A 10 (bm 12 3) ⟨46,AN [(3,Eh q9),(4,i64 t),(6,i64 i),(7,JQ),(10,Eh q9),(11,NF q9),(12,i64 t),(25,Mm d),(26,Nd d),(27,i64 i),(32,Eh q9),(33,i64 t)],RA t l d rh i q c⟩:=(hA _ _ _).2 (by
        refine JW 5 (v:=(i64 i)) rfl AA (by kernel_rfl) (by kernel_rfl) (by kernel_rfl) rfl (EK AA) ?_;exact xt hA A_00)
      have B_1:A 11 (bm 12 1) ⟨46,AN [(3,Eh q9),(4,i64 t),(6,i64 i),(7,JQ),(10,Eh q9),(11,NF q9),(12,i64 t),(25,Mm d),(26,Nd d),(27,i64 i),(32,Eh q9)],RA t l d rh i q c⟩:=(hA _ _ _).2 (by
        refine JW 1 (v:=(i64 t)) rfl AA (by kernel_rfl) (by kernel_rfl) (by kernel_rfl) rfl (EK AA) ?_;exact xt hA B_2)
      have B_0:A 12 (bm 12 0) ⟨46,AN [(3,Eh q9),(4,i64 t),(6,i64 i),(7,JQ),(10,Eh q9),(11,NF q9),(12,i64 t),(25,Mm d),(26,Nd d),(27,i64 i)],RA t l d rh i q c⟩:=(hA _ _ _).2 (by
        refine JW 0 (v:=(Eh q9)) rfl AA (by kernel_rfl) (by kernel_rfl) (by kernel_rfl) rfl (EK AA) ?_;exact xt hA B_1)
      exact (hA _ _ _).2 (T5 (by kernel_rfl) ((hA _ _ _).1 B_0))
    · replace h2:=Sh.fG zB h2;have wz:mix (Cv 3) Bv (Int.toNat i) q=List.map (Cv 3) q:=Xn (by have h:=pc zB;simp only[Sh.len]at h;omega);exact Ah (M22 q (Sh.AB h2).symm hlq _ ((Ao (L:=[(3,.own 0 0 (List.length q9)),(10,.own 0 0 (List.length q9)),(11,i64 (Sh.len q9)),(12,i64 t)]) ⟨.rfl,.rfl,.rfl,.rfl,mD⟩).trans (E4 (by rw[wz]))))
  · replace h1:=Sh.fG b13 h1;have wz:mix (Az 116 3) Am (Int.toNat t) l=List.map (Az 116 3) l:=Xn (by have h:=pc b13;simp only[Sh.len]at h;omega);exact Ah (M9 l (Sh.AB h1).symm wy _ ((Ao (L:=[(3,.own 0 0 (List.length q9))]) ⟨.rfl,mD⟩).trans (E4 (by rw[wz]))))
end
end Go.Proofs.YtgiajkaabnbieaaGreat.Cl
