import Derived.Test.YtccficmcdkcpnaaGreatGXNLToXRE
set_option linter.all false
namespace RC
open Go
theorem Xp:∀(m:Int) (l:List Int),Y4 (hf m l)
 | _,[]=>List.Pairwise.nil
 | m,t::r=>by
  unfold hf;split
  ·exact Xp (m+1) r
  ·exact List.Pairwise.cons (λx hx=>by have:=(YR _ _ _ hx).1;omega) (Xp (m+1) r)
section
variable {n : AL} {L : List (List Int)} {m N : Nat}
theorem cM (K:RK n m):PL m (Pt n):=by
 refine⟨by rw[VN,K.len],λl hl=>?_⟩;obtain⟨i,hi⟩:=oH hl;have:=(mT.1 hi).1;rw[VN]at this;obtain⟨r,hr,uZ⟩:=Ax this;rw[Yr hr,mU]at hi;subst hi;split
 ·exact⟨by simp,List.Pairwise.nil⟩
 ·exact⟨om (Ul _ _) (K.Qb r uZ).2.1,Xp _ _⟩
theorem aV (K:RK n m)(hN:2000000<=N):∃Z,ID N n=some (wl n Z)/\PL m Z/\Inv n (Pt n) Z/\JQ n Z:=by
 have P:=cM K;have hle:=K.le;have hs:=P.sz;obtain⟨Z,z1,z2⟩:=Vm K hN (C:=Pt n) N 0 (Pt n) (by omega) (by omega) P (Tr n _) (.inr (by omega));refine⟨Z,?_,z2⟩;unfold ID;rw[Va K hN,mR,SM K P hN];simp only[mR];rw[show (wl n (Pt n)).decls=n.decls from rfl,show (0:Int)=((0:Nat):Int) from rfl,z1];rfl
theorem Z1 (K:RK n m)(hp :∀r∈n.AB,Ku r.body=true)(hN:2000000<=N):El N n=some n:=by
 have hl:=K.len;have hle:=K.le;unfold El;rw[U7 K.dl K.kv hN,mR,Kg (l:=n.AB) (Bn N n) id (λq acc=>by rw[Bn,CG]) (λq j r acc hr ha=>?_) (by omega)]
 ·simp only[mR,nt]
 ·have hj:=(mT.1 hr).1;have hm:=mS hr;obtain⟨_,b1,b2⟩:=K.Qb r hm;rw[Bn,Cf,An hr,mR,gp (by omega),gp (by omega)];unfold KB;rw[Qd (K.bs r hm) (hp r hm) hN];simp only[mR];rw[DD acc _ 88 (by simp;omega) (by simp;omega)];simp only[mR];rw[wN];rfl
theorem ic (K:RK n m)(P:PL m L)(hN:2000000<=N):EH L n N 0 n.AB=some (wl n L).AB:=by
 have hl:=K.len;have hle:=K.le;have h:L.length=n.AB.length:=P.1.trans hl.symm;have key:∀{M i:Nat},i<=n.AB.length->n.AB.length-i<M->EH L n M (i:Int) ((wl n L).AB.take i++n.AB.drop i)=some (wl n L).AB:=by
  intro M i hi hM;refine A4 n.AB.length (λM i=>EH L n M (i:Int) ((wl n L).AB.take i++n.AB.drop i)=some (wl n L).AB) ?_ ?_ hi hM
  ·intro q;rw[EH,CG,nf,oE,<- Ip h,nT]
  ·intro q i hi ih;obtain⟨r,hr,uZ⟩:=Ax hi;obtain⟨l,tY,hlm⟩:=Ax (l:=L) (i:=i) (by omega);have hw:=Mk hr tY;have hA:((wl n L).AB.take i).length=i:=by rw[nw,Ip h];omega
   have g:=Ek ((wl n L).AB.take i) (n.AB.drop (i+1)) r;have p:=GX ((wl n L).AB.take i) (n.AB.drop (i+1)) r ⟨r.params,l,r.result,r.body⟩;rw[hA]at g p;rw[CO hw,np]at ih;rw[EH,Cf,An tY,mR,drop_cons hr,g,mR,p,wN];exact ih
 have k0:=key (mi _) (by omega:n.AB.length-0<N);rw[rD,oO,ny,nP]at k0;exact k0
theorem YP (S:Ir n)(hN:2000000<=N):∃g:AL×Bool,OU g.1<=1048576/\KE N n=some g/\Io N n=some g:=by
 obtain⟨v,b,h0,hp,h1,h2⟩:=WK S hN;have h1:Gw N n=some b:=by
  unfold Mz at h1;revert h1;cases Gw N n<;>simp
 unfold KE Io;rw[h1,h2];cases b with
 | false=>exact⟨(AL.mk [] [],false),by simp[OU],rfl,rfl⟩
 | true=>
  obtain⟨rfl,vn⟩:=hp rfl;obtain⟨⟨T,V⟩,_⟩:=az S hN h0;have hz:=S.size;have K:RK n n.AB.length:=⟨rfl,V.sig.Pb,λr hr=>by
   obtain⟨v1,v2,v3,v4,v5⟩:=V.Qb r hr;exact⟨mB V.mC V.E1 V.sig hN 601 (ml _) r.params r.body (by omega) v2 (vn r hr) v3,v4,v5⟩,λr hr=>(S.rz hr).2.2,by unfold OU at hz;omega,λd hd=>by have:=Ga dz hd;unfold OU at hz;omega⟩
  have hle:=K.le;obtain⟨Z,z1,z2,z3,z4⟩:=aV K hN;have P:=cM K;have hs:=P.sz;obtain⟨Y,y1,y2,y3,y4⟩:=rounds K hN (C:=Pt n) N true (Pt n) P (Tr n _) (by simp) (by omega) (λ_=>by omega);obtain rfl:=fX z3 z4 y3 y4;refine⟨(wl n Z,true),?_,?_,?_⟩
  ·have hD:=V.sig.Pj;have d1:(n.decls.map dz).sum<=12*n.decls.length:=LF λd hd=>by
    unfold dz;have c1:=V.sig.VM d hd;have c2:(d.cons.map cz).sum<=3*d.cons.length:=LF λc hc=>(V.sig.NV d hd c hc).1;omega
   have hwl:(wl n Z).AB.length=n.AB.length:=Ip y2.1;have d2:((wl n Z).AB.map Kk).sum<=4806*(wl n Z).AB.length:=LF λr hr=>by
    obtain⟨f,hf⟩:=oH hr;obtain⟨r0,l,e1,e2,rfl⟩:=bx y2.1 hf;have e3:=mS e1;obtain⟨k1,k2,_⟩:=K.Qb r0 e3;have k3:=(y2.2 l (mS e2)).1;have k4:=Zo 601 r0.body k1.wf;have k5:=(V.Qb r0 e3).1;unfold Kk;dsimp only;omega
   unfold OU;show n.decls.length+(n.decls.map dz).sum+((wl n Z).AB.length+((wl n Z).AB.map Kk).sum)<=1048576;omega
  ·simp only[mR,nb,mW,my];rw[z1];rfl
  ·simp only[mR,nb,mW,my];rw[Ae,MT _ _ _ (by omega) (by omega),mR,hH K hN,mR,ig K hN,mR,y1,mR,Z1 K vn hN,mR,ic K y2 hN];rfl
end
theorem Px {n:AL}(H:OD n):G1 2000000 n=some true:=by
 have hN:(2000000:Nat)<=2000000:=ml _;unfold G1;rw[YO H (by omega) (by omega) hN,mR];by_cases h:(1048576:Int)-(OU n:Int)<0
 ·rw[FA h];rfl
 ·rw[Gk h];have hz:OU n<=1048576:=by omega
  have S:Ir n:=⟨H,hz⟩
  obtain⟨g,gz,w1,w2⟩:=YP S hN;obtain⟨k,d,r,m1,_⟩:=XU hz hN;obtain⟨k2,d2,r2,m2,m3⟩:=XU gz hN;rw[mj (by simpa using h),YV hz hN];simp only[mR];rw[w1];simp only[mR];rw[w2];simp only[mR];rw[R5 gz hN,R5 hz hN,m1,m2];have hk:¬ (k:Int)<0:=by omega
  have hh:¬ (k2:Int)<0:=by omega
  simp only[hk,hh,nH,nB,nb,mW,my,mR,bne_self_eq_false,m3]
end RC
