import Derived.Test.YtfkncfjpobjbjaaMEG
set_option linter.all false
namespace RC
theorem MM {W:List Int}:∀(n a:Nat) {A:List Nat},a<=W.length->par W n a=some A->(A.map λb=>2+Cm W b).sum<=W.length-a
 | 0,_,_,_,h=>by simp[par]at h
 | n+1,a,A,ha,h=>by
  rw[par]at h;split at h
  ·split at h
   ·cases h
   ·rename_i hb;obtain⟨B,hB,rfl⟩:=Rr.1 h;have G:=Js (by simpa using hb);have hf:=G.fit;have:=MM n _ (by omega) hB;simp only[R9,Tp];omega
  ·cases h;simp
theorem Pz {W:List Int}{A:List Nat}(hA:A.length<=1048576){a:Nat}{w v:Int}(hw:Bl w)(h:gW W A a w=some v):Bl v:=by
 unfold gW at h;split at h
 ·rename_i v' ZT;split at h
  ·cases h
  ·cases h;unfold F7 at ZT;split at ZT
   ·obtain⟨i,h1,rfl⟩:=A1.1 ZT;have:=MU h1;exact⟨by omega,by omega⟩
   ·cases ZT;exact hw
 ·cases h
theorem JX {W:List Int}{A:List Nat}(hA:A.length<=1048576){a:Nat}:∀{l q:List Int},(∀x∈l,Bl x)->Cq W A a l=some q->∀x∈q,Bl x
 | [],q,_,h=>by cases h;simp
 | w::r,q,hl,h=>by
  rw[Cq]at h;obtain⟨v,hv,h⟩:=R3.1 h;obtain⟨q',h1,rfl⟩:=A1.1 h;intro x hx;rcases SA.1 hx with rfl|hx
  ·exact Pz hA (hl w (by simp)) hv
  ·exact JX hA (λx hx=>hl x (by simp[hx])) h1 x hx
theorem Jb {W:List Int}{A:List Nat}(hA:A.length<=1048576)(hI :∀x∈W,Bl x):∀{r:List Nat} {C:List Cell},(∀a∈r,EO W a)->B4 W A r=some C->(∀c∈C,FY c)/\C.length+Dk C<=(r.map λb=>2+Cm W b).sum
 | [],C,_,h=>by cases h;simp[Dk]
 | a::r,C,hg,h=>by
  rw[B4]at h;obtain⟨c,hc,h⟩:=R3.1 h;obtain⟨C',h1,rfl⟩:=A1.1 h;obtain⟨g1,g2⟩:=Jb hA hI (λb hb=>hg b (by simp[hb])) h1;obtain⟨fs,hf,rfl⟩:=A1.1 hc;have G:=hg a (by simp);have h2:=G.h2;have aD:=G.c1;have Vz:∀x∈CH W a,Bl x:=λx hx=>hI x (Sa (SV hx));have hlen:=HM hf;rw[G.GR]at hlen;have hz:=E1 aD;have i1:=hI _ (Rk (E7 (W:=W) (i:=a) (by omega)));have i2:=hI _ (Rk (E7 (W:=W) (i:=a+1) (by omega)));have Ut:FY (if wd W a=0 then (⟨0,0,[]⟩:Cell) else ⟨wd W a,Int.tdiv (wd W (a+1)) 4,fs⟩):=by
   split
   ·exact⟨⟨by decide,by decide⟩,⟨by decide,by decide⟩,by simp,by simp⟩
   ·refine⟨i1,?_,JX hA Vz hf,by show fs.length<=_;omega⟩;have h3:=i2.1;have h4:=i2.2;show Bl (Int.tdiv (wd W (a+1)) 4);rw[S5 aD];exact⟨by omega,by omega⟩
  refine⟨λx hx=>?_,?_⟩
  ·rcases SA.1 hx with rfl|hx
   ·exact Ut
   ·exact g1 x hx
  ·have:(if wd W a=0 then (⟨0,0,[]⟩:Cell) else ⟨wd W a,Int.tdiv (wd W (a+1)) 4,fs⟩).fields.length<=Cm W a:=by
    split
    ·simp
    ·show fs.length<=_;omega
   simp only[Si,Dk,R9,Tp]at g2⊢;omega
theorem Nl {W:List Int}(hW:W.length<=1048576)(hI :∀x∈W,Bl x){A:List Nat}(ha:Ip W=some A){C:List Cell}(h:B4 W A A=some C):Hp (J7 C):=by
 have H:=H6 hW ha;have YU:=H.len;obtain⟨h1,h2⟩:=Jb (by omega) hI H.C4 h;have h3:=MM _ 0 (R5 _) ha;have h4:=J8 C (Hf C C.length);refine⟨?_,λc hc=>h1 c (SV hc)⟩;unfold Bq J7;rw[TJ];have:=Iz C C.length;omega
structure Ou (m:Al) (A:List Nat) (C:List Cell):Prop where
 Ip:Ip m.words=some A
 zero:A.all (fz m.words)=true
 four:m.free.length=4
 free:P4 m A
 fix:Ep A (Lw m.words A) (A.map (raw m.words))=some C
 heap:VH (J7 C)
section
variable {m : Al} {N : Nat}
theorem Pq {A:List Nat}{W:List Int}:∀i,i<A.length->∃c,(([]:List Cell)++A.map (raw W))[i]?=some c/\c.count=Lw W A i:=λi hi=>by
 obtain⟨a,ha,_⟩:=BN hi;refine⟨raw W a,by rw[Sx,Ro,ha];rfl,?_⟩;unfold Lw raw;rw[ha];split<;>rfl
theorem O8 (hW:m.words.length<=1048576)(hI :∀x∈m.words,Bl x)(YV :∀x∈m.free,Bl x)(hN:2000000<=N):
  ∃o b,Cb N m=some (o,b)/\(b=true↔∃A C,Ou m A C)/\(b=true->∃A C,Ou m A C/\o=⟨C,EH A⟩):=by
 have h1:=Lx hW hI hN N 0 [] (by omega) (by omega) (by simp) (by simp);rw[UI,IK N 2000000 0 (by omega) (by omega)]at h1;simp only[S7,Sx,show EH []=[] from rfl]at h1;unfold Cb;cases ha:Ip m.words with
 | none=>
  rw[show par m.words 2000000 0=none from ha]at h1;obtain⟨o,h1⟩:=h1;rw[h1];exact⟨o,false,rfl,⟨by simp,λ⟨A,C,V⟩=>by have:=V.Ip;rw[ha]at this;cases this⟩,by simp⟩
 | some A=>
  rw[show par m.words 2000000 0=some A from ha]at h1;have H:=H6 hW ha;have YU:=H.len;have Va:∀{A' C'},Ou m A' C'->A'=A:=λV=>by have:=V.Ip;rw[ha]at this;cases this;rfl
  by_cases hz:A.all (fz m.words)=true
  ·simp only[hz,Sm]at h1;rw[h1];simp only[Sh.cont,Rl];obtain⟨b,hb,hb2⟩:=J9 H hI YV hN;rw[hb,Rl];cases b with
   | false=>
    exact⟨_,false,rfl,⟨by simp,λ⟨A',C,V⟩=>by obtain rfl:=Va V;exact absurd (hb2.2 ⟨V.four,V.free⟩) (by simp)⟩,by simp⟩
   | true=>
    obtain⟨ZR,hP⟩:=hb2.1 rfl;rw[Rx (by simp)];have jL:∀b∈A,b<=1048576:=λb hb=>by have:=(H.C4 b hb).h2;omega
    have h2:=Me (ct:=Lw m.words A) (by omega) jL (C:=A.map (raw m.words)) (by simp) (λc hc=>by
     obtain⟨a,ha,rfl⟩:=R7.1 hc;have G:=H.C4 a ha;have Vz:∀x∈CH m.words a,Bl x:=λx hx=>hI x (Sa (SV hx));have:=G.GR;have:=E1 G.c1;unfold raw;split
     ·exact⟨by show (CH m.words a).length<=_;omega,Vz⟩
     ·simp) hN N [] (A.map (raw m.words)) (by simp) (λ_ h=>h) Pq (by simp;omega)
    simp only[Sx,Sw]at h2;rw[UI]at h2;cases hq:Ep A (Lw m.words A) (A.map (raw m.words)) with
    | none=>
     rw[hq]at h2;obtain⟨o,h2⟩:=h2;rw[h2];exact⟨o,false,rfl,⟨by simp,λ⟨A',C,V⟩=>by obtain rfl:=Va V;have:=V.fix;rw[hq]at this;cases this⟩,by simp⟩
    | some C=>
     rw[hq]at h2;simp only at h2;rw[h2];simp only[Rl];have hs:=Fp H.C4 hz hq;have fB:=Nl hW hI ha hs;have fC:C.length<=1048576:=by have:=(E5 hs).1;omega
     obtain⟨b',_,_,_,_,hv,hv2,_⟩:=IZ fB hN;rw[OR fC hN,Rl,hv,Rl];refine⟨_,b',rfl,⟨λh=>⟨A,C,ha,hz,ZR,hP,hq,hv2.1 h⟩,λ⟨A',C',V⟩=>?_⟩,λh=>⟨A,C,⟨ha,hz,ZR,hP,hq,hv2.1 h⟩,rfl⟩⟩;obtain rfl:=Va V;have:=V.fix;rw[hq]at this;cases this;exact hv2.2 V.heap
  ·simp only at h1;rw[Rx hz]at h1;obtain⟨o,h1⟩:=h1;rw[h1];exact⟨o,false,rfl,⟨by simp,λ⟨A',C,V⟩=>by obtain rfl:=Va V;exact absurd V.zero hz⟩,by simp⟩
theorem Ib (hW:m.words.length<=1048576){A:List Nat}(H:F8 m.words A)(hI :∀x∈m.words,Bl x)(YV :∀x∈m.free,Bl x)(hf:m.free.length=4)(hN:2000000<=N):∀(n k:Nat),k<=4->4-k<n->
  ∃b:Bool,BS N m (A.map Int.ofNat,true) n (k:Int)=some (if b=true then Sum.inr () else Sum.inl false)/\(b=true↔∀k' h,k<=k'->m.free[k']?=some h->p4 m.words A k' h=true)
 | 0,_,_,h=>by omega
 | n+1,k,hk,hn=>by
  rw[BS];by_cases h:k<4
  ·obtain⟨f,hfk,hfm⟩:=BN (l:=m.free) (i:=k) (by omega);rw[Ry (show decide ((k:Int)<=3)=true by simp;omega),As hfk,Rl,NU H k hN,Rl,MH H hI k (YV f hfm) hN,Rl];cases hp:p4 m.words A k f with
   | false=>
    refine⟨false,by simp,by simp,λq=>?_⟩;rw[q k f (Rz _) hfk]at hp;cases hp
   | true=>
    rw[Rx (by simp),Ao (n:=(k:Int)+1) (by omega) (by omega),show (k:Int)+1=((k+1:Nat):Int) by omega];obtain⟨b,g1,g2⟩:=Ib hW H hI YV hf hN n (k+1) (by omega) (by omega);refine⟨b,g1,g2.trans ⟨λq k' h' X8 e=>?_,λq k' h' X8 e=>q k' h' (by omega) e⟩⟩;by_cases e1:k'=k
    ·subst e1;rw[hfk]at e;cases e;exact hp
    ·exact q k' h' (by omega) e
  ·rw[Rx (show ¬ decide ((k:Int)<=3)=true by simp;omega)];exact⟨true,rfl,⟨λ_ k' h' X8 e=>by have:=(Rm.1 e).1;omega,λ_=>rfl⟩⟩
theorem Oj (hW:m.words.length<=1048576)(hI :∀x∈m.words,Bl x)(YV :∀x∈m.free,Bl x)(hN:2000000<=N):
  ∃b,CP N m=some b/\(b=true↔∃A C,Ou m A C):=by
 unfold CP;rw[Iq hW hN,Rl];cases ha:Ip m.words with
 | none=>
  refine⟨false,by simp,by simp,λ⟨A,C,V⟩=>?_⟩;have:=V.Ip;rw[ha]at this;cases this
 | some A=>
  have H:=H6 hW ha;have YU:=H.len;have Va:∀{A' C'},Ou m A' C'->A'=A:=λV=>by have:=V.Ip;rw[ha]at this;cases this;rfl
  simp only[S0,R1,SX,Rl];by_cases hf:m.free.length=4
  ·rw[Rx (show ¬ (!decide ((Sh.len m.free)=4))=true by rw[AT,hf];simp),Mc H hI hN,Rl];cases hs:B4 m.words A A with
   | none=>
    refine⟨false,by simp,by simp,λ⟨A',C,V⟩=>?_⟩;obtain rfl:=Va V;have:=Fp H.C4 V.zero V.fix;rw[hs]at this;cases this
   | some C=>
    have fB:=Nl hW hI ha hs;have fC:C.length<=1048576:=by have:=(E5 hs).1;omega
    obtain⟨b1,_,hv,_,_,_,hv2,_⟩:=IZ fB hN;simp only[S0,R1,SX];rw[N0 fC hN,Rl,hv,Rl,Rl];cases b1 with
    | false=>
     refine⟨false,by simp,by simp,λ⟨A',C',V⟩=>?_⟩;obtain rfl:=Va V;have:=Fp H.C4 V.zero V.fix;rw[hs]at this;cases this;exact absurd (hv2.2 V.heap) (by simp)
    | true=>
     have gR:=hv2.1 rfl;rw[Rx (by simp)];obtain⟨b,g1,g2⟩:=Ib hW H hI YV hf hN N 0 (by omega) (by omega);rw[UI]at g1;rw[g1];refine⟨b,by cases b<;>simp[Sh.cont],g2.trans ⟨λq=>?_,λ⟨A',C',V⟩=>?_⟩⟩
     ·have hz:A.all (fz m.words)=true:=by
       cases hz:A.all (fz m.words) with
       | true=>rfl
       | false=>rw[Kq H.C4 hz]at hs;cases hs
      obtain⟨e1,e2⟩:=E5 hs;have bd:∀(i:Nat) (c:Cell),C[i]?=some c->c.count=Lw m.words A i:=λi c hc=>by
       have hi:=(Rm.1 hc).1;obtain⟨a,ha1,_⟩:=BN (l:=A) (i:=i) (by omega);obtain⟨c',h1,h2,_⟩:=e2 i a ha1;rw[hc]at h1;cases h1;unfold Lw;rw[ha1];exact h2
      refine⟨A,C,ha,hz,hf,λk h hk=>q k h (R5 _) hk,?_,gR⟩;refine JO (ok:=λv=>CW (J7 C) v=true) (λi hi=>?_) (λw hw T9=>?_) H.C4 hs λc hc jM v hv=>?_
      ·simp only[CW,Tx]at hi;rcases hi with hi|hi
       ·obtain⟨j,c,h1,_,_,h2,h3⟩:=Ck hi;have:j=i:=by omega
        subst this;have:=bd j c (PG h2);omega
       ·simp[EX]at hi;omega
      ·simp only[CW,Tx]at hw;rcases hw with hw|hw
       ·obtain⟨j,c,h1,_⟩:=Ck hw;omega
       ·exact hw
      ·obtain⟨i,hi⟩:=Ss hc;have h1:=OB hi jM;have h2:=gR.cells c (Rk h1);have Wu:0<=c.count:=by
        rw[bd i c hi];have hl:=(Rm.1 hi).1;obtain⟨a,ha1,hm⟩:=BN (l:=A) (i:=i) (by omega);unfold Lw;rw[ha1];exact (H.C4 a hm).c0
       unfold El at h2;simp only[SL]at h2;have h3:=h2.2;rw[Rx (by omega)]at h3;simp only[SL,Ru]at h3;exact h3.1 v hv
     ·obtain rfl:=Va V;exact λk h _ hk=>V.free k h hk
  ·rw[Ry (show (!decide ((Sh.len m.free)=4))=true by rw[AT];simp only[TU,TT];omega)];exact⟨false,rfl,by simp,λ⟨A',C,V⟩=>absurd V.four hf⟩
end
theorem LM {m:Al}(H:HJ m):DF m 1048576=some (if m.words.length+m.free.length<=1048576 then 1048576-(m.words.length:Int)-m.free.length else -1):=by
 unfold DF;rw[JH (by omega) (Int.le_refl _) H.words.2,Rl];by_cases h1:(1048576:Int)-m.words.length<0
 ·rw[Ry h1,Ry (by simp),Rx (by omega)]
 ·rw[Rx h1,Rx (by simp;omega),JH (by omega) (by omega) H.free.2,Rl];by_cases h2:(1048576:Int)-m.words.length-m.free.length<0
  ·rw[Ry h2,Ry (by simp),Rx (by omega)]
  ·rw[Rx h2,Rx (by simp;omega),Ry (by omega)]
theorem LD {m:Al}(h1:m.words.length<=1048576)(h2:m.free.length<=1048576){N:Nat}(hN:2000000<=N):CG N m=some m:=by
 unfold CG;rw[JU h1 hN,Rl,JU h2 hN,Rl]
theorem Lp {m:Al}(h1:m.words.length<=1048576)(h2:m.free.length<=1048576){N:Nat}(hN:2000000<=N):DE N m m=some true:=by
 unfold DE;rw[Jd h1 hN,Rl,Rx (by simp),Jd h2 hN,Rl,Rx (by simp)]
theorem Ex {m:Al}(H:HJ m):B1 2000000 m=some true:=by
 unfold B1;rw[LM H,Rl];by_cases hs:m.words.length+m.free.length<=1048576
 ·have hN:=Rz 2000000;have hW:m.words.length<=1048576:=by omega
  have hF:m.free.length<=1048576:=by omega
  obtain⟨o,b,h1,h2,_⟩:=O8 hW H.words.1 H.free.1 hN;obtain⟨b',h3,h4⟩:=Oj hW H.words.1 H.free.1 hN;obtain rfl:=L1 h2 h4;rw[Ry hs,Rx (by simp;omega),LD hW hF hN,Rl];unfold C7 C3;rw[h3];simp only[Rl];rw[h1];simp only[Rl];rw[Rx (by simp),Lp hW hF hN];simp
 ·simp[hs]
end RC
