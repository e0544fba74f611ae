import Derived.Test.YtfkncfjpobjbjaaMEG
set_option linter.all false
namespace RC
theorem MO {W:List Int}:∀(n a:Nat) {A:List Nat},a<=W.length->par W n a=some A->(A.map λb=>2+Cq W b).sum<=W.length-a
 | 0,_,_,_,h=>by simp[par]at h
 | n+1,a,A,ha,h=>by
  rw[par]at h;split at h
  ·split at h
   ·cases h
   ·rename_i hb;obtain⟨B,hB,rfl⟩:=Rv.1 h;have G:=Jf (by simpa using hb);have hf:=G.fit;have:=MO n _ (by omega) hB;simp only[SD,Tt];omega
  ·cases h;simp
theorem Pz {W:List Int}{A:List Nat}(hA:A.length<=1048576){a:Nat}{w v:Int}(hw:Bh w)(h:gW W A a w=some v):Bh v:=by
 unfold gW at h;split at h
 ·rename_i v' ZW;split at h
  ·cases h
  ·cases h;unfold GA at ZW;split at ZW
   ·obtain⟨i,h1,rfl⟩:=A3.1 ZW;have:=L3 h1;exact⟨by omega,by omega⟩
   ·cases ZW;exact hw
 ·cases h
theorem Ja {W:List Int}{A:List Nat}(hA:A.length<=1048576){a:Nat}:∀{l q:List Int},(∀x∈l,Bh x)->Cu W A a l=some q->∀x∈q,Bh x
 | [],q,_,h=>by cases h;simp
 | w::r,q,hl,h=>by
  rw[Cu]at h;obtain⟨v,hv,h⟩:=R7.1 h;obtain⟨q',h1,rfl⟩:=A3.1 h;intro x hx;rcases SE.1 hx with rfl|hx
  ·exact Pz hA (hl w (by simp)) hv
  ·exact Ja hA (λx hx=>hl x (by simp[hx])) h1 x hx
theorem Jg {W:List Int}{A:List Nat}(hA:A.length<=1048576)(hI :∀x∈W,Bh x):∀{r:List Nat} {C:List Cell},(∀a∈r,EZ W a)->B5 W A r=some C->(∀c∈C,Fl c)/\C.length+Dn C<=(r.map λb=>2+Cq W b).sum
 | [],C,_,h=>by cases h;simp[Dn]
 | a::r,C,hg,h=>by
  rw[B5]at h;obtain⟨c,hc,h⟩:=R7.1 h;obtain⟨C',h1,rfl⟩:=A3.1 h;obtain⟨g1,g2⟩:=Jg hA hI (λb hb=>hg b (by simp[hb])) h1;obtain⟨fs,hf,rfl⟩:=A3.1 hc;have G:=hg a (by simp);have h2:=G.h2;have aL:=G.c1;have V3:∀x∈CJ W a,Bh x:=λx hx=>hI x (Se (SZ hx));have hlen:=HS hf;rw[G.GS]at hlen;have hz:=FA aL;have i1:=hI _ (Ro (E2 (W:=W) (i:=a) (by omega)));have i2:=hI _ (Ro (E2 (W:=W) (i:=a+1) (by omega)));have Uy:Fl (if wd W a=0 then (⟨0,0,[]⟩:Cell) else ⟨wd W a,Int.tdiv (wd W (a+1)) 4,fs⟩):=by
   split
   ·exact⟨⟨by decide,by decide⟩,⟨by decide,by decide⟩,by simp,by simp⟩
   ·refine⟨i1,?_,Ja hA V3 hf,by show fs.length<=_;omega⟩;have h3:=i2.1;have h4:=i2.2;show Bh (Int.tdiv (wd W (a+1)) 4);rw[S9 aL];exact⟨by omega,by omega⟩
  refine⟨λx hx=>?_,?_⟩
  ·rcases SE.1 hx with rfl|hx
   ·exact Uy
   ·exact g1 x hx
  ·have:(if wd W a=0 then (⟨0,0,[]⟩:Cell) else ⟨wd W a,Int.tdiv (wd W (a+1)) 4,fs⟩).fields.length<=Cq W a:=by
    split
    ·simp
    ·show fs.length<=_;omega
   simp only[Sm,Dn,SD,Tt]at g2⊢;omega
theorem Nm {W:List Int}(hW:W.length<=1048576)(hI :∀x∈W,Bh x){A:List Nat}(ha:Hg W=some A){C:List Cell}(h:B5 W A A=some C):Hp (KH C):=by
 have H:=Gu hW ha;have X3:=H.len;obtain⟨h1,h2⟩:=Jg (by omega) hI H.Cf h;have h3:=MO _ 0 (SA _) ha;have h4:=J6 C (Hx C C.length);refine⟨?_,λc hc=>h1 c (SZ hc)⟩;unfold Br KH;rw[TN];have:=I0 C C.length;omega
structure PW (m:Aj) (A:List Nat) (C:List Cell):Prop where
 Hg:Hg m.words=some A
 zero:A.all (fz m.words)=true
 four:m.free.length=4
 free:P4 m A
 fix:Ey A (Ix m.words A) (A.map (raw m.words))=some C
 heap:VH (KH C)
section
variable {m : Aj} {N : Nat}
theorem Pd {A:List Nat}{W:List Int}:∀i,i<A.length->∃c,(([]:List Cell)++A.map (raw W))[i]?=some c/\c.count=Ix W A i:=λi hi=>by
 obtain⟨a,ha,_⟩:=BL hi;refine⟨raw W a,by rw[S4,Rs,ha];rfl,?_⟩;unfold Ix raw;rw[ha];split<;>rfl
theorem PH (hW:m.words.length<=1048576)(hI :∀x∈m.words,Bh x)(XY :∀x∈m.free,Bh x)(hN:2000000<=N):
  ∃o b,Cj N m=some (o,b)/\(b=true↔∃A C,PW m A C)/\(b=true->∃A C,PW m A C/\o=⟨C,EG A⟩):=by
 have h1:=MB hW hI hN N 0 [] (by omega) (by omega) (by simp) (by simp);rw[UI,IT N 2000000 0 (by omega) (by omega)]at h1;simp only[TB,S4,show EG []=[] from rfl]at h1;unfold Cj;cases ha:Hg m.words with
 | none=>
  rw[show par m.words 2000000 0=none from ha]at h1;obtain⟨o,h1⟩:=h1;rw[h1];exact⟨o,false,rfl,⟨by simp,λ⟨A,C,V⟩=>by have:=V.Hg;rw[ha]at this;cases this⟩,by simp⟩
 | some A=>
  rw[show par m.words 2000000 0=some A from ha]at h1;have H:=Gu hW ha;have X3:=H.len;have Vh:∀{A' C'},PW m A' C'->A'=A:=λV=>by have:=V.Hg;rw[ha]at this;cases this;rfl
  by_cases hz:A.all (fz m.words)=true
  ·simp only[hz,Sr]at h1;rw[h1];simp only[Sh.cont,Rp];obtain⟨b,hb,hb2⟩:=KL H hI XY hN;rw[hb,Rp];cases b with
   | false=>
    exact⟨_,false,rfl,⟨by simp,λ⟨A',C,V⟩=>by obtain rfl:=Vh V;exact absurd (hb2.2 ⟨V.four,V.free⟩) (by simp)⟩,by simp⟩
   | true=>
    obtain⟨ZU,hP⟩:=hb2.1 rfl;rw[R0 (by simp)];have fE:∀b∈A,b<=1048576:=λb hb=>by have:=(H.Cf b hb).h2;omega
    have h2:=MT (ct:=Ix m.words A) (by omega) fE (C:=A.map (raw m.words)) (by simp) (λc hc=>by
     obtain⟨a,ha,rfl⟩:=R9.1 hc;have G:=H.Cf a ha;have V3:∀x∈CJ m.words a,Bh x:=λx hx=>hI x (Se (SZ hx));have:=G.GS;have:=FA G.c1;unfold raw;split
     ·exact⟨by show (CJ m.words a).length<=_;omega,V3⟩
     ·simp) hN N [] (A.map (raw m.words)) (by simp) (λ_ h=>h) Pd (by simp;omega)
    simp only[S4,S3]at h2;rw[UI]at h2;cases hq:Ey A (Ix m.words A) (A.map (raw m.words)) with
    | none=>
     rw[hq]at h2;obtain⟨o,h2⟩:=h2;rw[h2];exact⟨o,false,rfl,⟨by simp,λ⟨A',C,V⟩=>by obtain rfl:=Vh V;have:=V.fix;rw[hq]at this;cases this⟩,by simp⟩
    | some C=>
     rw[hq]at h2;simp only at h2;rw[h2];simp only[Rp];have hs:=Ep H.Cf hz hq;have fF:=Nm hW hI ha hs;have fG:C.length<=1048576:=by have:=(ES hs).1;omega
     obtain⟨b',_,_,_,_,hv,hv2,_⟩:=Ic fF hN;rw[N6 fG hN,Rp,hv,Rp];refine⟨_,b',rfl,⟨λh=>⟨A,C,ha,hz,ZU,hP,hq,hv2.1 h⟩,λ⟨A',C',V⟩=>?_⟩,λh=>⟨A,C,⟨ha,hz,ZU,hP,hq,hv2.1 h⟩,rfl⟩⟩;obtain rfl:=Vh V;have:=V.fix;rw[hq]at this;cases this;exact hv2.2 V.heap
  ·simp only at h1;rw[R0 hz]at h1;obtain⟨o,h1⟩:=h1;rw[h1];exact⟨o,false,rfl,⟨by simp,λ⟨A',C,V⟩=>by obtain rfl:=Vh V;exact absurd V.zero hz⟩,by simp⟩
theorem Io (hW:m.words.length<=1048576){A:List Nat}(H:GC m.words A)(hI :∀x∈m.words,Bh x)(XY :∀x∈m.free,Bh x)(hf:m.free.length=4)(hN:2000000<=N):∀(n k:Nat),k<=4->4-k<n->
  ∃b:Bool,BS N m (A.map Int.ofNat,true) n (k:Int)=some (if b=true then Sum.inr () else Sum.inl false)/\(b=true↔∀k' h,k<=k'->m.free[k']?=some h->p4 m.words A k' h=true)
 | 0,_,_,h=>by omega
 | n+1,k,hk,hn=>by
  rw[BS];by_cases h:k<4
  ·obtain⟨f,hfk,hfm⟩:=BL (l:=m.free) (i:=k) (by omega);rw[R1 (show decide ((k:Int)<=3)=true by simp;omega),As hfk,Rp,Na H k hN,Rp,Md H hI k (XY f hfm) hN,Rp];cases hp:p4 m.words A k f with
   | false=>
    refine⟨false,by simp,by simp,λq=>?_⟩;rw[q k f (R3 _) hfk]at hp;cases hp
   | true=>
    rw[R0 (by simp),Ao (n:=(k:Int)+1) (by omega) (by omega),show (k:Int)+1=((k+1:Nat):Int) by omega];obtain⟨b,g1,g2⟩:=Io hW H hI XY hf hN n (k+1) (by omega) (by omega);refine⟨b,g1,g2.trans ⟨λq k' h' YF e=>?_,λq k' h' YF e=>q k' h' (by omega) e⟩⟩;by_cases e1:k'=k
    ·subst e1;rw[hfk]at e;cases e;exact hp
    ·exact q k' h' (by omega) e
  ·rw[R0 (show ¬ decide ((k:Int)<=3)=true by simp;omega)];exact⟨true,rfl,⟨λ_ k' h' YF e=>by have:=(Rq.1 e).1;omega,λ_=>rfl⟩⟩
theorem O5 (hW:m.words.length<=1048576)(hI :∀x∈m.words,Bh x)(XY :∀x∈m.free,Bh x)(hN:2000000<=N):
  ∃b,CQ N m=some b/\(b=true↔∃A C,PW m A C):=by
 unfold CQ;rw[GB hW hN,Rp];cases ha:Hg m.words with
 | none=>
  refine⟨false,by simp,by simp,λ⟨A,C,V⟩=>?_⟩;have:=V.Hg;rw[ha]at this;cases this
 | some A=>
  have H:=Gu hW ha;have X3:=H.len;have Vh:∀{A' C'},PW m A' C'->A'=A:=λV=>by have:=V.Hg;rw[ha]at this;cases this;rfl
  simp only[Sw,R4,Sa,Rp];by_cases hf:m.free.length=4
  ·rw[R0 (show ¬ (!decide ((Sh.len m.free)=4))=true by rw[AT,hf];simp),MA H hI hN,Rp];cases hs:B5 m.words A A with
   | none=>
    refine⟨false,by simp,by simp,λ⟨A',C,V⟩=>?_⟩;obtain rfl:=Vh V;have:=Ep H.Cf V.zero V.fix;rw[hs]at this;cases this
   | some C=>
    have fF:=Nm hW hI ha hs;have fG:C.length<=1048576:=by have:=(ES hs).1;omega
    obtain⟨b1,_,hv,_,_,_,hv2,_⟩:=Ic fF hN;simp only[Sw,R4,Sa];rw[OG fG hN,Rp,hv,Rp,Rp];cases b1 with
    | false=>
     refine⟨false,by simp,by simp,λ⟨A',C',V⟩=>?_⟩;obtain rfl:=Vh V;have:=Ep H.Cf V.zero V.fix;rw[hs]at this;cases this;exact absurd (hv2.2 V.heap) (by simp)
    | true=>
     have gb:=hv2.1 rfl;rw[R0 (by simp)];obtain⟨b,g1,g2⟩:=Io hW H hI XY hf hN N 0 (by omega) (by omega);rw[UI]at g1;rw[g1];refine⟨b,by cases b<;>simp[Sh.cont],g2.trans ⟨λq=>?_,λ⟨A',C',V⟩=>?_⟩⟩
     ·have hz:A.all (fz m.words)=true:=by
       cases hz:A.all (fz m.words) with
       | true=>rfl
       | false=>rw[KW H.Cf hz]at hs;cases hs
      obtain⟨e1,e2⟩:=ES hs;have aM:∀(i:Nat) (c:Cell),C[i]?=some c->c.count=Ix m.words A i:=λi c hc=>by
       have hi:=(Rq.1 hc).1;obtain⟨a,ha1,_⟩:=BL (l:=A) (i:=i) (by omega);obtain⟨c',h1,h2,_⟩:=e2 i a ha1;rw[hc]at h1;cases h1;unfold Ix;rw[ha1];exact h2
      refine⟨A,C,ha,hz,hf,λk h hk=>q k h (SA _) hk,?_,gb⟩;refine Jv (ok:=λv=>CW (KH C) v=true) (λi hi=>?_) (λw hw UM=>?_) H.Cf hs λc hc jU v hv=>?_
      ·simp only[CW,T1]at hi;rcases hi with hi|hi
       ·obtain⟨j,c,h1,_,_,h2,h3⟩:=Cp hi;have:j=i:=by omega
        subst this;have:=aM j c (PZ h2);omega
       ·simp[Eb]at hi;omega
      ·simp only[CW,T1]at hw;rcases hw with hw|hw
       ·obtain⟨j,c,h1,_⟩:=Cp hw;omega
       ·exact hw
      ·obtain⟨i,hi⟩:=Sz hc;have h1:=OC hi jU;have h2:=gb.cells c (Ro h1);have W4:0<=c.count:=by
        rw[aM i c hi];have hl:=(Rq.1 hi).1;obtain⟨a,ha1,hm⟩:=BL (l:=A) (i:=i) (by omega);unfold Ix;rw[ha1];exact (H.Cf a hm).c0
       unfold Es at h2;simp only[SP]at h2;have h3:=h2.2;rw[R0 (by omega)]at h3;simp only[SP,Ry]at h3;exact h3.1 v hv
     ·obtain rfl:=Vh V;exact λk h _ hk=>V.free k h hk
  ·rw[R1 (show (!decide ((Sh.len m.free)=4))=true by rw[AT];simp only[TY,TX];omega)];exact⟨false,rfl,by simp,λ⟨A',C,V⟩=>absurd V.four hf⟩
end
theorem Lq {m:Aj}(H:HW m):DH m 1048576=some (if m.words.length+m.free.length<=1048576 then 1048576-(m.words.length:Int)-m.free.length else -1):=by
 unfold DH;rw[I9 (by omega) (Int.le_refl _) H.words.2,Rp];by_cases h1:(1048576:Int)-m.words.length<0
 ·rw[R1 h1,R1 (by simp),R0 (by omega)]
 ·rw[R0 h1,R0 (by simp;omega),I9 (by omega) (by omega) H.free.2,Rp];by_cases h2:(1048576:Int)-m.words.length-m.free.length<0
  ·rw[R1 h2,R1 (by simp),R0 (by omega)]
  ·rw[R0 h2,R0 (by simp;omega),R1 (by omega)]
theorem Lg {m:Aj}(h1:m.words.length<=1048576)(h2:m.free.length<=1048576){N:Nat}(hN:2000000<=N):CF N m=some m:=by
 unfold CF;rw[JD h1 hN,Rp,JD h2 hN,Rp]
theorem LF {m:Aj}(h1:m.words.length<=1048576)(h2:m.free.length<=1048576){N:Nat}(hN:2000000<=N):DF N m m=some true:=by
 unfold DF;rw[Jy h1 hN,Rp,R0 (by simp),Jy h2 hN,Rp,R0 (by simp)]
end RC
