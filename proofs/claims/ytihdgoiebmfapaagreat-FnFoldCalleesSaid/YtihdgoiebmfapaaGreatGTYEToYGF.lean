import Derived.Test.YtihdgoiebmfapaaGreatGPlainAToTYD
set_option linter.all false
namespace RC
open Go
section
variable {p : AP} {N : Nat} {T : List Int -> AE -> Int}
theorem Zl (hT:TX p N T){e:AE}{v:List Int}(V:VX p e v)(h:e.op=0)(ht:T v e≠-1):-999<=e.num/\e.num<=999:=by
 have q:=hT.bs V;unfold Bo at q;simp only[h,Int.reduceEq,lr,lx,lY,mL,mC]at q;by_cases hk:Sh.len e.kids=0
 ·simp only[hk,lr,mL]at q;rw[EX]at q;by_cases h1:-999<=e.num
  ·by_cases h2:e.num<=999
   ·exact⟨h1,h2⟩
   ·simp[h1,h2,Sh.cont]at q;exact absurd q.symm ht
  ·simp[h1,Sh.cont]at q;exact absurd q.symm ht
 ·simp[hk,Sh.cont]at q;exact absurd q.symm ht
end
theorem ZC (x:Int):JU x=some (XP x):=by
 unfold JU XP;congr 1;split<;>split<;>(try split)<;>(try split)<;>omega
theorem XA {o a b:Int}(ho:o=1∨o=2∨o=3∨o=4)(ha:-999<=a/\a<=999)(hb:-999<=b/\b<=999):Ms o a b=some (Vj o a b):=by
 have hm:-998001<=a*b/\a*b<=998001:=by
  have h1:(a*b).natAbs<=998001:=by
   rw[Int.natAbs_mul];exact nx (pO (by omega:a.natAbs<=999) (by omega:b.natAbs<=999)) (by decide)
  omega
 unfold Ms Vj;rcases ho with rfl|rfl|rfl|rfl
 ·simp only[lr,mL];rw[BJ (by omega) (by omega),ZC];rfl
 ·simp only[Int.reduceEq,lr,lx,lY,mC,mL];rw[BJ (by omega) (by omega),ZC];rfl
 ·simp only[Int.reduceEq,lr,lx,lY,mC,mL];rw[BJ (by omega) (by omega),ZC];rfl
 ·simp only[Int.reduceEq,lr,lx,lY,mC,mL,lS];by_cases h:a<b<;>simp[h]
theorem Xj {o a b:Int}(ho:o=1∨o=2∨o=3∨o=4)(ha:-999<=a/\a<=999)(hb:-999<=b/\b<=999):MZ o a b=some (Vj o a b):=by
 have hm:-998001<=a*b/\a*b<=998001:=by
  have h1:(a*b).natAbs<=998001:=by
   rw[Int.natAbs_mul];exact nx (pO (by omega:a.natAbs<=999) (by omega:b.natAbs<=999)) (by decide)
  omega
 have a1:¬ a < -999:=by omega
 have a2:¬ 999<a:=by omega
 have b1:¬ b < -999:=by omega
 have b2:¬ 999<b:=by omega
 have cl:∀n:Int,(if 999<(if (-999) > n then (-999) else n) then 999 else (if (-999) > n then (-999) else n))=XP n:=λn=>by
  unfold XP;split<;>split<;>(try split)<;>(try split)<;>omega
 unfold MZ Vj;simp only[a1,a2,b1,b2,lx,lY,mC,lS];rcases ho with rfl|rfl|rfl|rfl
 ·simp only[lr,mL,lS];rw[BJ (by omega) (by omega),cl]
 ·simp only[Int.reduceEq,lr,lx,lY,mC,mL,lS];rw[BJ (by omega) (by omega),cl]
 ·simp only[Int.reduceEq,lr,lx,lY,mC,mL,lS];rw[BJ (by omega) (by omega),cl]
 ·simp only[Int.reduceEq,lr,lx,lY,mC,mL];by_cases h:a<b
  ·simp[h]
  ·simp[h]
theorem Tf {N:Nat}(hN:2000000<=N){a b:Int}:∀(n:Nat) (e:AE),en e<=n->en e<=1000->An (sh a b e)->Gy N n e a b=some (sh a b e):=by
 intro n
 induction n with
 | zero=>intro e h;have:=F8 e;omega
 | succ n ih=>
  intro e hn hs hI;have hlen:=Hi e.kids;have he:=Fp e;have hIn:=hI.num;rw[O6]at hIn;have hIk:=hI.kids;rw[Lm]at hIk;rw[Gy];unfold LQ Kg;have key:∀(M i:Nat),i<=e.kids.length->e.kids.length-i<M->Em e.kids a b (Gy N n) M i ((e.kids.map (sh a b)).take i)=some (e.kids.map (sh a b)):=by
   intro M i hi hM;refine Bh e.kids.length (λM i=>Em e.kids a b (Gy N n) M i ((e.kids.map (sh a b)).take i)=some (e.kids.map (sh a b))) ?_ ?_ hi hM
   ·intro m;rw[Em,la (by simp[AM]),mX (by simp)]
   ·intro m i hi tv;obtain⟨c,hc,sL⟩:=Bz hi;have h1:=H7 sL;rw[Em,ld (by simp[AM];omega),BG hc];simp only[lS];rw[ih c (by omega) (by omega) (hIk _ (nC sL))];simp only[lS];rw[EC _ _ 40 (by simp;omega) (by simp;omega),BJ (by omega) (by omega),show ((i:Int)+1)=((i+1:Nat):Int) by omega];simp only[lS];have hm:(e.kids.map (sh a b))[i]?=some (sh a b c):=by rw[lW,hc];rfl
    rw[<- D8 hm];exact tv
  have:=key N 0 (mB _) (by omega);rw[nE,qU]at this;rw[this,Tq];by_cases h:e.op=12
  ·by_cases h2:a<=e.num
   ·have hc:(if e.op=12/\a<=e.num then e.num+b else e.num)=e.num+b:=ld ⟨h,h2⟩;rw[hc]at hIn⊢;simp only[h,h2,lr,mL,lS];rw[BJ (by unfold G3 at hIn;omega) (by unfold G3 at hIn;omega)]
   ·have hc:(if e.op=12/\a<=e.num then e.num+b else e.num)=e.num:=la λq=>h2 q.2;rw[hc];simp[h,h2]
  ·have hc:(if e.op=12/\a<=e.num then e.num+b else e.num)=e.num:=la λq=>h q.1;rw[hc];simp[h]
theorem V4 {N:Nat}(hN:2000000<=N){a b:Int}{e:AE}(hs:en e<=1000)(hI:An (sh a b e)):NV N e a b=some (sh a b e):=by
 unfold NV;exact Tf hN N e (by omega) hs hI
theorem RY {N:Nat}(hN:2000000<=N){a b:Int}:∀(n:Nat) (e:AE),en e<=n->en e<=1000->An (sh a b e)->D4 N n e a b=some (sh a b e):=by
 intro n
 induction n with
 | zero=>intro e h;have:=F8 e;omega
 | succ n ih=>
  intro e hn hs hI;have hlen:=Hi e.kids;have he:=Fp e;have hIn:=hI.num;rw[O6]at hIn;have hIk:=hI.kids;rw[Lm]at hIk;rw[D4];unfold Io;have key:∀(M i:Nat),i<=e.kids.length->e.kids.length-i<M->Co e a b (D4 N n) M i ((e.kids.map (sh a b)).take i)=some (e.kids.map (sh a b)):=by
   intro M i hi hM;refine Bh e.kids.length (λM i=>Co e a b (D4 N n) M i ((e.kids.map (sh a b)).take i)=some (e.kids.map (sh a b))) ?_ ?_ hi hM
   ·intro m;rw[Co,la (by simp[AM]),mX (by simp)]
   ·intro m i hi tv;obtain⟨c,hc,sL⟩:=Bz hi;have h1:=H7 sL;rw[Co,ld (by simp[AM];omega),BG hc];simp only[lS];rw[ih c (by omega) (by omega) (hIk _ (nC sL))];simp only[lS];rw[EC _ _ 40 (by simp;omega) (by simp;omega),BJ (by omega) (by omega),show ((i:Int)+1)=((i+1:Nat):Int) by omega];simp only[lS];have hm:(e.kids.map (sh a b))[i]?=some (sh a b c):=by rw[lW,hc];rfl
    rw[<- D8 hm];exact tv
  have:=key N 0 (mB _) (by omega);rw[nE,qU]at this;rw[this,Tq];by_cases h:e.op=12
  ·by_cases h2:a<=e.num
   ·have hc:(if e.op=12/\a<=e.num then e.num+b else e.num)=e.num+b:=ld ⟨h,h2⟩;rw[hc]at hIn⊢;simp only[h,h2,lr,mL,lS];rw[BJ (by unfold G3 at hIn;omega) (by unfold G3 at hIn;omega)]
   ·have hc:(if e.op=12/\a<=e.num then e.num+b else e.num)=e.num:=la λq=>h2 q.2;rw[hc];simp[h,h2]
  ·have hc:(if e.op=12/\a<=e.num then e.num+b else e.num)=e.num:=la λq=>h q.1;rw[hc];simp[h]
theorem Tk {N:Nat}(hN:2000000<=N){a b:Int}{e:AE}(hs:en e<=1000)(hI:An (sh a b e)):Gz N e a b=some (sh a b e):=by
 unfold Gz;exact RY hN N e (by omega) hs hI
theorem ct {n:Nat}:∀(xs ys:List AE) (k:Nat) (b:AE),lt n k (xs++ys) b=lt n k xs (lt n (k+xs.length) ys b)
 | [],ys,k,b=>by simp[lt]
 | x::xs,ys,k,b=>by
  simp only[pY,lt,ct xs,mN];rw[show k+1+xs.length=k+(xs.length+1) by omega]
theorem ZL {n:Nat}{l:List AE}{i:Nat}{x:AE}(h:l[i]?=some x)(b:AE):lt n 0 (l.take i) (.mk 13 0 [sh n i x,b])=lt n 0 (l.take (i+1)) b:=by
 have rv:=(lV.1 h).1;rw[D8 h,ct,nq,oW (by omega),ml];rfl
theorem MY {N:Nat}(hN:2000000<=N){n:Nat}{l:List AE}(hl :∀(i:Nat) x,l[i]?=some x->en x<=1000/\An (sh n i x)):∀(i:Nat) (b:AE),i<=l.length->F6 N l (n:Int) i b=some (lt n 0 (l.take i) b)
 | 0,b,_=>by rw[F6,nE];rfl
 | i+1,b,hi=>by
  obtain⟨x,hx,_⟩:=Bz (l:=l) (i:=i) (by omega);obtain⟨h1,h2⟩:=hl i x hx;rw[F6,BG hx];simp only[lS];rw[Tk hN h1 h2];simp only[lS];rw[MY hN hl i _ (by omega),ZL hx]
theorem Uw {N:Nat}(hN:2000000<=N){n:Nat}{l:List AE}{b:AE}(yv:l.length<=1000)(hl :∀(i:Nat) x,l[i]?=some x->en x<=1000/\An (sh n i x)):Kc N b.kids l b.op b.num (n:Int)=some (lt n 0 l b):=by
 unfold Kc;rw[ld (by omega),<- HS,MY hN hl l.length b (ll _),nL]
theorem Nx {N:Nat}(hN:2000000<=N){n:Nat}{l:List AE}(yv:l.length<=1000)(hl :∀(i:Nat) x,l[i]?=some x->en x<=1000/\An (sh n i x)):∀(i:Nat) (b:AE) (M:Nat),i<=l.length->i<M->Gx N l (n:Int) M ((i:Int)-1) b.op b.num b.kids=some ((lt n 0 (l.take i) b).op,(lt n 0 (l.take i) b).num,(lt n 0 (l.take i) b).kids)
 | 0,b,M,_,hM=>by
  obtain⟨M,rfl⟩ :∃m,M=m+1:=⟨M-1,by omega⟩
  rw[Gx,la (by simp),nE];rfl
 | i+1,b,M,hi,hM=>by
  obtain⟨M,rfl⟩ :∃m,M=m+1:=⟨M-1,by omega⟩
  obtain⟨x,hx,_⟩:=Bz (l:=l) (i:=i) (by omega);obtain⟨h1,h2⟩:=hl i x hx;have e:((i+1:Nat):Int)-1=(i:Int):=by omega
  rw[Gx,e,ld (by simp),BG hx];simp only[lS];rw[V4 hN h1 h2];simp only[lS];rw[<- HS,BJ (by omega) (by omega)];have:=Nx hN yv hl i (.mk 13 0 [sh n i x,b]) M (by omega) (by omega);rw[ZL hx]at this;exact this
theorem W8 {N:Nat}(hN:2000000<=N){n:Nat}{l:List AE}{b:AE}(yv:l.length<=1000)(hl :∀(i:Nat) x,l[i]?=some x->en x<=1000/\An (sh n i x)):MR N l b (n:Int)=some (lt n 0 l b):=by
 unfold MR;rw[AM,BJ (by omega) (by omega),Nx hN yv hl l.length b N (ll _) (by omega),nL];simp only[lS];rw[<- HS]
theorem dh {l:List Int}{x:Int}(hl:l.length<=1000){N:Nat}(hN:2000000<=N){i:Nat}(hi:l[i]?=some x)(hn :∀j,l[j]?=some x->i=j):GB N l x=some (i:Int):=by
 have rv:=(lV.1 hi).1;have key:∀(d j M:Nat),j+d=i->d<M->DF l x M (j:Int)=some (.inl (i:Int)):=by
  intro d
  induction d with
  | zero=>
   intro j M hj hM;obtain⟨M,rfl⟩ :∃m,M=m+1:=⟨M-1,by omega⟩
   have:j=i:=by omega
   subst this;rw[DF,ld (by simp[AM];omega),BG hi];simp only[lS];rw[ld (by simp)]
  | succ d ih=>
   intro j M hj hM;obtain⟨M,rfl⟩ :∃m,M=m+1:=⟨M-1,by omega⟩
   obtain⟨y,hy,_⟩:=Bz (l:=l) (i:=j) (by omega);have rE:¬ x=y:=λq=>by
    have:=hn j (by rw[hy,q]);omega
   rw[DF,ld (by simp[AM];omega),BG hy];simp only[lS];rw[la (by simpa using rE),BJ (by omega) (by omega),show ((j:Int)+1)=((j+1:Nat):Int) by omega];exact ih (j+1) M (by omega) (by omega)
 have:=key i 0 N (by omega) (by omega);unfold GB;rw[qU]at this;rw[this];rfl
end RC
namespace RC
open Go
section
variable {p : AP} {N : Nat} {T : List Int -> AE -> Int}
theorem bd (S:EP p.decls p.funcs)(hN:2000000<=N)(hT:TX p N T){v:List Int}{nu:Int}{a:AE}{r:List AE}(V:VX p (.mk 8 nu (a::r)) v)(ht:T v (.mk 8 nu (a::r))≠-1)(h6:a.op=6):
  ∃(c t:Nat) (b:AE),a.num=(c:Int)/\nu=(t:Int)/\1<=t/\t<=p.decls.length/\(Bu p.decls nu)[ci p.decls nu a.num]?=some a.num/\nc (p.decls.take (t-1))+ci p.decls nu a.num=c/\r[ci p.decls nu a.num]?=some b/\ci p.decls nu a.num<=3/\(∀x∈a.kids,An x/\T v x≠-1)/\a.kids.length<=3:=by
 obtain⟨a0,r0,q1,q2,q3,q4,q5⟩:=KI (hT.H V) V.N3 S hN rfl (hT.bi V) ht;have q1:a::r=a0::r0:=q1;obtain⟨rfl,rfl⟩:a=a0/\r=r0:=by simpa using q1
 have q3:r.length=(Bu p.decls nu).length:=q3;have q4:T v a=nu:=q4;have tx:nu≠-1:=λq=>q2 (by show Bu p.decls nu=[];rw[q];simp[Bu]);have Va:VX p a v:=V.jE (by simp[AE.kids]);obtain⟨c,t,x,c1,c2,c3,c4,c5,c6⟩:=WI S hN hT Va h6 (by rw[q4];exact tx);obtain⟨d1,d2⟩:=UB c2;obtain⟨g1,g2,d,g3,g4⟩:=LL c2;rw[<- c3,q4,<- c1]at d1;rw[<- c3,q4,<- c1]at d2;have rv:=(lV.1 d1).1;have hb:r[ci p.decls nu a.num]?=some r[ci p.decls nu a.num]:=lZ (by omega);have vK:=KD S.Q6 nu;have F:=Nb S (lT d1) hN;refine⟨c,t,_,c1,by rw[<- q4,c3],by omega,by omega,d1,d2,hb,by omega,λy hy=>⟨Va.CZ.kids y hy,λhq=>?_⟩,?_⟩
 ·have hy2:T v y∈a.kids.map (T v):=nC hy;rw[c4,<- c5,<- c1]at hy2;have:=Jk (F.2.2.2 _ hy2);rw[hq]at this;omega
 ·have h:=mc List.length c4;rw[ly]at h;have:=(S.Lc d g3 x g4).1;omega
theorem fk (S:EP p.decls p.funcs)(hN:2000000<=N)(hT:TX p N T){v:List Int}(hv :∀x∈v,DL p.decls x=true){l:List AE}(hl:v.length+3*CM l<=800)(hl3:l.length<=30)(hk :∀x∈l,An x/\T v x≠-1):∀(i:Nat) x,l[i]?=some x->en x<=1000/\An (sh v.length i x):=by
 intro i x hx;have hm:=lT hx;have rv:=(lV.1 hx).1;have he:=H7 hm;obtain⟨h1,h2⟩:=hk x hm;have Vx:VX p x (v++[]):=⟨by simp;omega,by simpa using hv,h1⟩
 have:=(eX S hN hT v (List.replicate i 0) (λy hy=>by rw[(pN.1 hy).2];exact iS) (en x) x [] (ll _) Vx (by simp;omega) (by simpa using h2)).2;rw[om]at this;exact⟨by omega,this⟩
theorem Yb (S:EP p.decls p.funcs)(hN:2000000<=N)(hT:TX p N T){v:List Int}{e:AE}(V:VX p e v)(hl:v.length+3*CM e.kids<=800)(ht:T v e≠-1):
  IH N p e v.length=some (Ho p.decls v.length e.op e.num e.kids)/\Jl N e.kids p.decls e.op e.num v.length=some (Ho p.decls v.length e.op e.num e.kids):=by
 have hlen:=Hi e.kids;have hD:=S.NM;have hnc:=S.nc;have eta:AE.mk e.op e.num e.kids=e:=(HS e).symm;unfold IH Jl;by_cases ha:e.op=1∨e.op=2∨e.op=3∨e.op=4
 ·obtain⟨_,a,b,hk⟩:=Wn hN hT V ha ht;have uM:(if decide (e.op=1)=true then some true else if decide (e.op=2)=true then some true else if decide (e.op=3)=true then some true else some (decide (e.op=4)))=some true:=by
   rcases ha with h|h|h|h<;>simp[h]
  have g0:Sh.get e.kids 0=some a:=by rw[hk];rfl
  have g1:Sh.get e.kids 1=some b:=by rw[hk];rfl
  have hfd:Ho p.decls v.length e.op e.num e.kids=if a.op=0/\b.op=0 then .mk 0 (Vj e.op a.num b.num) [] else e:=by
   unfold Ho;rw[ld ha,eta,hk]
  rw[hfd,uM,g0,g1];simp only[lS,mL];by_cases h1:a.op=0
  ·by_cases h2:b.op=0
   ·obtain⟨m0,n1,n2,n3,n4⟩:=Pc S hN hT V ht (i:=0) (k:=a) (by rw[hk];rfl);obtain⟨m1,n5,n6,n7,n8⟩:=Pc S hN hT V ht (i:=1) (k:=b) (by rw[hk];rfl);have ra:=Zl hT (V.JF (by rw[hk];simp) n2 n3) h1 n4;have rb:=Zl hT (V.JF (by rw[hk];simp) n6 n7) h2 n8;simp only[h1,h2,lr,mL,lS,and_self];rw[XA ha ra rb,Xj ha ra rb];exact⟨rfl,rfl⟩
   ·simp[h1,h2,Sh.cont,eta]
  ·simp[h1,Sh.cont,eta]
 have n1:¬ e.op=1:=λq=>ha (.inl q);have n2:¬ e.op=2:=λq=>ha (.inr (.inl q));have n3:¬ e.op=3:=λq=>ha (.inr (.inr (.inl q)));have n4:¬ e.op=4:=λq=>ha (.inr (.inr (.inr q)));by_cases h7:e.op=7
 ·obtain⟨a,b,c,hk,q2,q3,q4,q5⟩:=VJ (hT.H V) V.N3 hN h7 (hT.bi V) ht;have g0:Sh.get e.kids 0=some a:=by rw[hk];rfl
  have g1:Sh.get e.kids 1=some b:=by rw[hk];rfl
  have g2:Sh.get e.kids 2=some c:=by rw[hk];rfl
  have hfd:Ho p.decls v.length e.op e.num e.kids=if a.op=0 then (if a.num=0 then c else b) else e:=by
   unfold Ho;rw[la ha,ld h7,eta,hk]
  rw[hfd];simp only[n1,n2,n3,n4,h7,Int.reduceEq,lr,lx,lY,mL,mC,lS];rw[g0,g1,g2];simp only[lS];by_cases h1:a.op=0
  ·by_cases h2:a.num=0
   ·simp[h1,h2,Sh.cont]
   ·simp[h1,h2,Sh.cont]
  ·rw[h7]at eta;simp[h1,Sh.cont,eta]
 by_cases h8:e.op=8
 ·obtain⟨a,r,hk,q2,q3,q4,q5⟩:=KI (hT.H V) V.N3 S hN h8 (hT.bi V) ht;have g0:Sh.get e.kids 0=some a:=by rw[hk];rfl
  have eta8:AE.mk 8 e.num e.kids=e:=by rw[<- h8];exact eta
  have V8:VX p (.mk 8 e.num (a::r)) v:=by rw[<- hk,eta8];exact V
  have ht8:T v (.mk 8 e.num (a::r))≠-1:=by rw[<- hk,eta8];exact ht
  have hfd:Ho p.decls v.length e.op e.num e.kids=if a.op=6 then (match r[ci p.decls e.num a.num]? with|some b=>lt v.length 0 a.kids b|none=>e) else e:=by
   unfold Ho;rw[la ha,la h7,ld h8,eta,hk];rfl
  rw[hfd];simp only[n1,n2,n3,n4,h7,h8,Int.reduceEq,lr,lx,lY,mL,mC,lS];rw[g0];simp only[lS];by_cases h6:a.op=6
  ·obtain⟨c,t,b,c1,c2,c3,c4,c5,c6,c7,c8,c9,vF⟩:=bd S hN hT V8 ht8 h6;have hnt:=G5 p.decls (t-1);rw[hk]at hl hlen;simp only[CM,mN]at hl hlen;have hae:=Fp a;have tk:=fk S hN hT V.H6 (l:=a.kids) (by omega) (by omega) c9;rw[c7];simp only[h6,lr,mL];have vK:=KD S.Q6 e.num;have hg:Sh.get e.kids ((1+ci p.decls e.num a.num:Nat):Int)=some b:=by
    rw[OT,hk,show 1+ci p.decls e.num a.num=ci p.decls e.num a.num+1 by omega];exact c7
   constructor
   ·rw[BJ (n:=e.num-1) (by omega) (by omega),show e.num-1=((t-1:Nat):Int) by omega,Hj (by omega) (by omega) (by omega) hN];simp only[lS];rw[BJ (n:=1+a.num) (by omega) (by omega),BJ (by omega) (by omega),show 1+a.num-(nc (List.take (t-1) p.decls):Int)=((1+ci p.decls e.num a.num:Nat):Int) by omega,hg];simp only[lS];rw[W8 hN (by omega) tk];rfl
   ·rw[HN (by omega) (by omega) hN];simp only[lS];rw[dh (by omega) hN c5 (λj hj=>Ya c5 hj)];simp only[lS];rw[BJ (n:=1+(ci p.decls e.num a.num:Int)) (by omega) (by omega),show 1+(ci p.decls e.num a.num:Int)=((1+ci p.decls e.num a.num:Nat):Int) by omega,hg];simp only[lS];have hap:Sh.apart 0 ((1+ci p.decls e.num a.num:Nat):Int)=some ():=by unfold Sh.apart;rw[la (by omega)]
    rw[hap];simp only[lS];rw[Uw hN (by omega) tk];rfl
  ·simp[h6,Sh.cont,eta8]
 ·have hfd:Ho p.decls v.length e.op e.num e.kids=e:=by
   unfold Ho;rw[la ha,la h7,la h8,eta]
  rw[hfd];simp[n1,n2,n3,n4,h7,h8,Sh.cont,eta]
theorem Xv (S:EP p.decls p.funcs)(hN:2000000<=N)(hT:TX p N T){e:AE}{v:List Int}(V:VX p e v)(ht:T v e≠-1){i:Nat}(hi:i<e.kids.length):
  J2 N p e i v.length=some ((v.length+Ht p.decls e.op e.num i:Nat):Int)/\
  ((if (decide (e.op=13))=true then some (decide ((i:Int)=1)) else some false).bind λt23=>if t23=true then some (Sh.w ((v.length:Int)+1)) else (if (decide (e.op=8))=true then some (decide (0<(i:Int))) else some false).bind λt27=>if t27=true then (Ha N p.decls e.num).bind λvE=>(Sh.get vE (Sh.w ((i:Int)-1))).bind λc31=>(EO N p.decls c31).bind λvD=>some (Sh.w ((v.length:Int)+(Sh.len vD))) else some (v.length:Int))=some ((v.length+Ht p.decls e.op e.num i:Nat):Int):=by
 have hlv:=V.len;have hD:=S.NM;have hnc:=S.nc;have tm:=Hi e.kids;have wg:=Fp e;unfold J2;by_cases h13:e.op=13
 ·obtain⟨a,b,q1,_⟩:=Wp (hT.H V) V.N3 h13 (hT.bi V) ht;rw[q1]at hi
  match i,hi with
  | 0,_=>simp[h13,Ht]
  | 1,_=>
   have hw:Sh.w ((v.length:Int)+1)=((v.length+1:Nat):Int):=by rw[BJ (by omega) (by omega)];rfl
   simp[h13,Ht,hw]
 by_cases h8:e.op=8
 ·obtain⟨a,r,q1,q2,q3,q4,q5⟩:=KI (hT.H V) V.N3 S hN h8 (hT.bi V) ht;rw[q1]at hi
  match i,hi with
  | 0,_=>simp[h8,Ht]
  | i+1,hi=>
   simp only[mN]at hi;have vK:=KD S.Q6 e.num;have hc:(Bu p.decls e.num)[i]?=some (Bu p.decls e.num)[i]:=lZ (by omega);have F:=Nb S (lT hc) hN;have f3:=F.2.2.1;have hx:Ht p.decls e.op e.num (i+1)=(Fg p.decls (Bu p.decls e.num)[i]).length:=by simp[Ht,h8,hc]
   have e1:Sh.w (((i+1:Nat):Int)-1)=(i:Int):=by rw[BJ (by omega) (by omega)];omega
   have e2:Sh.w ((v.length:Int)+((Fg p.decls (Bu p.decls e.num)[i]).length:Int))=((v.length+Ht p.decls e.op e.num (i+1):Nat):Int):=by rw[BJ (by omega) (by omega),hx];omega
   have n0:¬ ((i+1:Nat):Int)=0:=by omega
   have n1:(0:Int)<((i+1:Nat):Int):=by omega
   rw[e1,Lq (by omega) (by omega) hN,HN (by omega) (by omega) hN];simp only[h8,n0,n1,Int.reduceEq,lr,lx,lY,mL,mC,lS];rw[BG hc];simp only[lS];rw[F.1,F.2.1];simp only[lS,AM];rw[e2,h8];exact⟨rfl,rfl⟩
 ·have hx:Ht p.decls e.op e.num i=0:=by simp[Ht,h13,h8]
  rw[hx];simp[h13,h8]
theorem iL (S:EP p.decls p.funcs)(hN:2000000<=N)(hT:TX p N T):∀(c:Nat) (e:AE) (v:List Int),en e<=c->v.length+6*en e<=700->(∀x∈v,DL p.decls x=true)->An e->T v e≠-1->
  Gr N c p e v.length=some (fd p.decls v.length e)/\∀F,DR N c e.kids p.decls F p.decls e.op e.num v.length=some (fd p.decls v.length e):=by
 intro c
 induction c with
 | zero=>intro e _ h;have:=F8 e;omega
 | succ c ih=>
  intro e v hc hlv hv hI ht;have VF0:VF p e v:=⟨by omega,hv,hI⟩
  obtain⟨⟨f1,f2,f3⟩,f4,f5,f6⟩:=bF S hN hT (en e) e v (ll _) VF0 ht;have hlen:=Hi e.kids;have he:=Fp e;have uI:(KU p.decls v.length e.op e.num 0 e.kids).length=e.kids.length:=SC _ _;generalize hL:KU p.decls v.length e.op e.num 0 e.kids=L at *;have hLi:∀(i:Nat) k,e.kids[i]?=some k->L[i]?=some (fd p.decls (v.length+Ht p.decls e.op e.num i) k):=λi k hk=>by
   rw[<- hL,Mt,hk,ml];rfl
  have K:∀(i:Nat) k,e.kids[i]?=some k->Gr N c p k ((v.length+Ht p.decls e.op e.num i:Nat):Int)=some (fd p.decls (v.length+Ht p.decls e.op e.num i) k)/\∀F,DR N c k.kids p.decls F p.decls k.op k.num ((v.length+Ht p.decls e.op e.num i:Nat):Int)=some (fd p.decls (v.length+Ht p.decls e.op e.num i) k):=λi k hk=>by
   obtain⟨m,m1,m2,m3,m4⟩:=Pc S hN hT VF0.x ht hk;have vf:=Cs (lT hk);have:=ih k (v++m) (by omega) (by rw[mD];omega) (VF0.x.JF (lT hk) m2 m3).H6 (hI.kids k (lT hk)) m4;rw[mD,m1]at this;exact this
  have nd:IH N p (.mk e.op e.num L) v.length=some (Ho p.decls v.length e.op e.num L)/\Jl N L p.decls e.op e.num v.length=some (Ho p.decls v.length e.op e.num L):=Yb S hN hT f5 (by show _+3*CM L<=800;omega) (by rw[f4];exact ht);have eta:Ho p.decls v.length e.op e.num L=fd p.decls v.length e:=by rw[Vo,hL]
  rw[eta]at nd;constructor
  ·rw[Gr];unfold L8;have key:∀(M i:Nat),i<=e.kids.length->e.kids.length-i<M->Fa N p e v.length (Gr N c) M i (L.take i)=some L:=by
    intro M i hi hM;refine Bh e.kids.length (λM i=>Fa N p e v.length (Gr N c) M i (L.take i)=some L) ?_ ?_ hi hM
    ·intro m;rw[Fa,la (by simp[AM]),mX (by omega)]
    ·intro m i hi tv;obtain⟨k,hk,sy⟩:=Bz hi;rw[Fa,ld (by simp[AM];omega),BG hk];simp only[lS];rw[(Xv S hN hT VF0.x ht hi).1];simp only[lS];rw[(K i k hk).1];simp only[lS];rw[EC _ _ 40 (by simp;omega) (by simp;omega),BJ (by omega) (by omega),show ((i:Int)+1)=((i+1:Nat):Int) by omega];simp only[lS];rw[<- D8 (hLi i k hk)];exact tv
   have:=key N 0 (mB _) (by omega);rw[nE,qU]at this;rw[this];simp only[lS];rw[nd.1];rfl
  ·intro F;rw[DR];unfold HH;have key:∀(M i:Nat),i<=e.kids.length->e.kids.length-i<M->Cp N e.kids p.decls F p.decls e.op e.num v.length (DR N c) M i (L.take i++e.kids.drop i)=some L:=by
    intro M i hi hM;refine Bh e.kids.length (λM i=>Cp N e.kids p.decls F p.decls e.op e.num v.length (DR N c) M i (L.take i++e.kids.drop i)=some L) ?_ ?_ hi hM
    ·intro m;rw[Cp,la (by simp[AM]),ov,mn,mX (by omega)]
    ·intro m i hi tv;obtain⟨k,hk,sy⟩:=Bz hi;have hl:(L.take i).length=i:=by simp;omega
     have qi:Sh.get (L.take i++e.kids.drop i) (i:Int)=some k:=by
      rw[OT,ln (by omega),hl,nW,mU,nw,hk]
     have hput:Sh.put (L.take i++e.kids.drop i) (i:Int) (fd p.decls (v.length+Ht p.decls e.op e.num i) k)=L.take (i+1)++e.kids.drop (i+1):=by
      rw[OA,ot _ _ (by omega),hl,nW,drop_cons hk,oZ,D8 (hLi i k hk),my];rfl
     rw[Cp,ld (by simp[AM];omega),(Xv S hN hT VF0.x ht hi).2];simp only[lS];rw[qi];simp only[lS];rw[(K i k hk).2 F];simp only[lS];rw[hput,BJ (by omega) (by omega),show ((i:Int)+1)=((i+1:Nat):Int) by omega];exact tv
   have:=key N 0 (mB _) (by omega);rw[nE,nJ,nQ,qU]at this;rw[this];simp only[lS];unfold MF;rw[nd.2];rfl
end
end RC
namespace RC
open Go
def wB (p:AP)(g:Ac->AE):AP×Bool:=if (p.funcs.all λf=>decide (en (g f)<=30))=true then (.mk p.decls (p.funcs.map λf=>.mk f.params f.result (g f)),true) else (.mk [] [],false)
theorem Ue {N:Nat}(hN:2000000<=N){p:AP}{g:Ac->AE}(hd:p.decls.length<=1048576)(hz :∀d∈p.decls,dz d<=1048576)(hf:p.funcs.length<=1048576)(hb :∀f∈p.funcs,f.params.length<=1048576/\en (g f)<=1000):IE N p (p.funcs.map g)=some (wB p g):=by
 unfold IE;rw[W9 hd hz hN];simp only[lS];have key:∀(M i:Nat),i<=p.funcs.length->p.funcs.length-i<M->Dz N p (p.funcs.map g) M i ((p.funcs.map λf=>Ac.mk f.params f.result (g f)).take i)=some (if ((p.funcs.drop i).all λf=>decide (en (g f)<=30))=true then Sum.inr (p.funcs.map λf=>Ac.mk f.params f.result (g f)) else Sum.inl (.mk [] [],false)):=by
  intro M i hi hM;refine Bh p.funcs.length (λM i=>Dz N p (p.funcs.map g) M i ((p.funcs.map λf=>Ac.mk f.params f.result (g f)).take i)=some (if ((p.funcs.drop i).all λf=>decide (en (g f)<=30))=true then Sum.inr (p.funcs.map λf=>Ac.mk f.params f.result (g f)) else Sum.inl (.mk [] [],false))) ?_ ?_ hi hM
  ·intro m;rw[Dz,la (by simp[AM]),mX (by simp),ov];rfl
  ·intro m i hi ih;obtain⟨f,uD,hfm⟩:=Bz hi;obtain⟨hbp,hs⟩:=hb f hfm;have hze:=Fp (g f);have zF:(p.funcs.map g)[i]?=some (g f):=by rw[lW,uD];rfl
   have hm:(p.funcs.map λf=>Ac.mk f.params f.result (g f))[i]?=some (Ac.mk f.params f.result (g f)):=by rw[lW,uD];rfl
   rw[Dz,ld (by simp[AM];omega),BG zF,drop_cons uD,ns];simp only[lS];rw[GG (by omega) hN];simp only[lS];by_cases wL:en (g f)<=30
   ·rw[ld wL,la (by simp),BG uD];simp only[lS,wL,lr,oz];have hci:FN f.params=some f.params:=by
     unfold FN;rw[EC _ _ _ (by simp;omega) (by simp;omega)];rfl
    rw[hci,XW hN (by have:=Fp (g f);omega)];simp only[lS];rw[EC _ _ 72 (by simp;omega) (by simp;omega),BJ (by omega) (by omega),show ((i:Int)+1)=((i+1:Nat):Int) by omega];simp only[lS];rw[<- D8 hm];exact ih
   ·rw[la wL];simp[wL]
 have:=key N 0 (mB _) (by omega);rw[nE,qU,nQ]at this;rw[this];unfold wB;by_cases h:(p.funcs.all λf=>decide (en (g f)<=30))=true
 ·rw[ld h,ld h];rfl
 ·rw[la h,la h];rfl
theorem fW {p:AP}{g:Ac->AE}(hp:TU p<=1048576)(h4:p.funcs.length<=4)(hz:TU p<=500000∨∀f∈p.funcs,f.params.length<=3)(hdz:p.decls.length+(p.decls.map dz).sum<=500000):TU (wB p g).1<=1048576:=by
 unfold wB;split
 ·rename_i h;rw[lh]at h;unfold TU at hp hz⊢;simp only[ly,nU];have:(p.funcs.map (YU∘λf=>Ac.mk f.params f.result (g f))).sum<=30*p.funcs.length+1*(p.funcs.map YU).sum:=SJ λf hf=>by
   have:=h f hf;simp only[lq]at this;have h2:=Fp (g f);show f.params.length+CM (g f).kids<=_;unfold YU;omega
  rcases hz with hz|hz
  ·omega
  ·have h5:(p.funcs.map (YU∘λf=>Ac.mk f.params f.result (g f))).sum<=33*p.funcs.length+0*(p.funcs.map YU).sum:=SJ λf hf=>by
    have:=h f hf;simp only[lq]at this;have h2:=Fp (g f);have h3:=hz f hf;show f.params.length+CM (g f).kids<=_;omega
   omega
 ·simp[TU]
section
variable {p : AP} {N : Nat}
theorem Rx (S:D9 p)(hN:2000000<=N)(hv:Be N p=some true):EP p.decls p.funcs/\∃T,TX p N T/\∀f∈p.funcs,en f.body<=30/\f.params.length<=3/\(∀x∈f.params,DL p.decls x=true)/\An f.body/\DL p.decls f.result=true/\T f.params f.body=f.result:=by
 obtain⟨SO,T0,hT0,h⟩:=gQ S hN hv;obtain⟨T,hT⟩:=N1 SO hN 340;refine⟨SO,T,hT,λf hf=>?_⟩;obtain⟨he,V,ty,hb⟩:=h f hf;have hp:=(SO.OS f hf).1;refine⟨he,hp,V.H6,V.CZ,ty,?_⟩;have a:=(hT0 f.params f.body V.CZ (by omega) (by omega) V.H6 340 340 (by omega) (by omega)).1;have b:=(hT f.params f.body V.CZ (by omega) (by omega) V.H6 340 340 (ll _) (ll _)).1;rw[a]at b;rw[<- hb];exact (nT b).symm
def FU (p:AP)(f:Ac):AE:=fd p.decls f.params.length f.body
theorem VU (S:D9 p)(hN:2000000<=N)(hd:p.decls.length<=1048576)(hz :∀d∈p.decls,dz d<=1048576):
  ∃b,Be N p=some b/\Cw N p=some b/\KE N p=some (if b=true then wB p (FU p) else (.mk [] [],false))/\JX N p=some (if b=true then wB p (FU p) else (.mk [] [],false)):=by
 obtain⟨b,e1,e2,_⟩:=G9 S hN;refine⟨b,e1,e2,?_⟩;unfold KE JX;rw[e1,e2];simp only[lS];cases b with
 | false=>exact⟨rfl,rfl⟩
 | true=>
  obtain⟨SO,T,hT,hfs⟩:=Rx S hN e1;have uI:=S.KK;have hF:∀f∈p.funcs,Rp N p f.body f.params.length=some (FU p f)/\(∀F,Jp N f.body.kids p.decls F p.decls f.body.op f.body.num f.params.length=some (FU p f))/\en (FU p f)<=60:=λf hf=>by
   obtain⟨h1,h2,h3,h4,h5,h6⟩:=hfs f hf;have rE:T f.params f.body≠-1:=by rw[h6];have:=(Jk h5).1;omega
   have q:=iL SO hN hT N f.body f.params (by omega) (by omega) h3 h4 rE;have sz:=(bF SO hN hT (en f.body) f.body f.params (ll _) ⟨by omega,h3,h4⟩ rE).1.2.2;exact⟨q.1,q.2,by unfold FU;omega⟩
  have hfz:=λf hf=>(hfs f hf);constructor
  ·simp only[nA,lY,mC,mL];have key:∀(M i:Nat),i<=p.funcs.length->p.funcs.length-i<M->GS N p M i ((p.funcs.map (FU p)).take i)=some (p.funcs.map (FU p)):=by
    intro M i hi hM;refine Bh p.funcs.length (λM i=>GS N p M i ((p.funcs.map (FU p)).take i)=some (p.funcs.map (FU p))) ?_ ?_ hi hM
    ·intro m;rw[GS,la (by simp[AM]),mX (by simp)]
    ·intro m i hi ih;obtain⟨f,uD,hfm⟩:=Bz hi;have hm:(p.funcs.map (FU p))[i]?=some (FU p f):=by rw[lW,uD];rfl
     rw[GS,ld (by simp[AM];omega),BG uD];simp only[lS];rw[AM,(hF f hfm).1];simp only[lS];rw[EC _ _ 40 (by simp;omega) (by simp;omega),BJ (by omega) (by omega),show ((i:Int)+1)=((i+1:Nat):Int) by omega];simp only[lS];rw[<- D8 hm];exact ih
   have:=key N 0 (mB _) (by omega);rw[nE,qU]at this;rw[this];simp only[lS];rw[Ue hN hd hz uI (λf hf=>⟨(S.fz hf).1,by have:=(hF f hf).2.2;omega⟩)];rfl
  ·simp only[nA,lY,mC,mL];unfold I4;rw[TN hN hd hz uI (λf hf=>⟨(S.fz hf).1,by have:=(hfs f hf).1;omega,(hfs f hf).2.2.2.1⟩)];simp only[lS];have key:∀(M i:Nat),i<=p.funcs.length->p.funcs.length-i<M->Di N p.decls p.funcs p p M i ((p.funcs.map λf=>Ac.mk f.params f.result (FU p f)).take i++p.funcs.drop i)=some (if ((p.funcs.drop i).all λf=>decide (en (FU p f)<=30))=true then Sum.inr (p.funcs.map λf=>Ac.mk f.params f.result (FU p f)) else Sum.inl (.mk [] [],false)):=by
    intro M i hi hM;refine Bh p.funcs.length (λM i=>Di N p.decls p.funcs p p M i ((p.funcs.map λf=>Ac.mk f.params f.result (FU p f)).take i++p.funcs.drop i)=some (if ((p.funcs.drop i).all λf=>decide (en (FU p f)<=30))=true then Sum.inr (p.funcs.map λf=>Ac.mk f.params f.result (FU p f)) else Sum.inl (.mk [] [],false))) ?_ ?_ hi hM
    ·intro m;rw[Di,la (by simp[AM]),ov,mn,mX (by simp)];rfl
    ·intro m i hi ih;obtain⟨f,uD,hfm⟩:=Bz hi;obtain⟨q1,q2,q3⟩:=hF f hfm;have hl:((p.funcs.map λf=>Ac.mk f.params f.result (FU p f)).take i).length=i:=by simp;omega
     have hm:(p.funcs.map λf=>Ac.mk f.params f.result (FU p f))[i]?=some (Ac.mk f.params f.result (FU p f)):=by rw[lW,uD];rfl
     have qi:Sh.get ((p.funcs.map λf=>Ac.mk f.params f.result (FU p f)).take i++p.funcs.drop i) (i:Int)=some f:=by
      rw[OT,ln (by omega),hl,nW,mU,nw,uD]
     have hput:Sh.put ((p.funcs.map λf=>Ac.mk f.params f.result (FU p f)).take i++p.funcs.drop i) (i:Int) (Ac.mk f.params f.result (FU p f))=(p.funcs.map λf=>Ac.mk f.params f.result (FU p f)).take (i+1)++p.funcs.drop (i+1):=by
      rw[OA,ot _ _ (by omega),hl,nW,drop_cons uD,oZ,D8 hm,my];rfl
     have hget2:Sh.get ((p.funcs.map λf=>Ac.mk f.params f.result (FU p f)).take (i+1)++p.funcs.drop (i+1)) (i:Int)=some (Ac.mk f.params f.result (FU p f)):=by
      rw[OT,lj (by simp;omega),mJ,ld (by omega),hm]
     have hze:=Fp (FU p f);rw[Di,ld (by simp[AM];omega),qi,drop_cons uD,ns];simp only[lS];rw[AM,q2];simp only[lS];rw[<- drop_cons uD,hput,hget2];simp only[lS];rw[N8 (by omega) hN];simp only[lS];by_cases wL:en (FU p f)<=30
     ·rw[ld wL,la (by simp),BJ (by omega) (by omega),show ((i:Int)+1)=((i+1:Nat):Int) by omega];simp only[wL,lr,oz];exact ih
     ·rw[la wL];simp[wL]
   have:=key N 0 (mB _) (by omega);rw[nE,nJ,nQ,qU]at this;rw[this];unfold wB;by_cases h:(p.funcs.all λf=>decide (en (FU p f)<=30))=true
   ·rw[ld h,ld h];rfl
   ·rw[la h,la h];rfl
end
theorem Y4 {p:AP}(S:D9 p){N:Nat}(hN:2000000<=N)(hv:Be N p=some true):p.funcs.length<=4/\(∀f∈p.funcs,f.params.length<=3)/\p.decls.length+(p.decls.map dz).sum<=500000:=by
 obtain⟨SO,_⟩:=Rx S hN hv;refine⟨SO.KK,λf hf=>(SO.OS f hf).1,?_⟩;have hD:=SO.NM;have:(p.decls.map dz).sum<=100*p.decls.length+0*(p.decls.map dz).sum:=SJ λd hd=>by
  have h1:=SO.Q6 d hd;have h2:(d.cons.map cz).sum<=30*d.cons.length+0*(d.cons.map cz).sum:=SJ λc hc=>by
   have:=(SO.Lc d hd c hc).1;unfold cz;omega
  unfold dz;omega
 omega
end RC
namespace RC
end RC
namespace RC
open Go
def lF (fi:Int)(body:AE)(n:Nat)(o nu:Int)(l:List AE):AE:=if o=9/\nu=fi then lt n 0 l (sh 0 n body) else .mk o nu l
mutual
def inl (D:List AN)(fi:Int)(body:AE)(n:Nat):AE->AE
 | .mk o nu k=>lF fi body n o nu (ix D fi body n o nu 0 k)
def ix (D:List AN)(fi:Int)(body:AE)(n:Nat)(o nu:Int):Nat->List AE->List AE
 | _,[]=>[]
 | i,e::l=>inl D fi body (n+Ht D o nu i) e::ix D fi body n o nu (i+1) l
end
section
variable {p : AP} {N : Nat} {T : List Int -> AE -> Int}
end
end RC
namespace RC
open Go
section
variable {p : AP} {N : Nat}
def inf (p:AP)(fi:Int)(fb f:Ac):AE:=inl p.decls fi fb.body f.params.length f.body
end
end RC
namespace RC
open Go
def FJ (p:AP)(g:Ac->AE):AP:=.mk p.decls (p.funcs.map λf=>.mk f.params f.result (g f))
theorem bY {p:AP}{g:Ac->AE}(h :∀f∈p.funcs,en (g f)<=30):wB p g=(FJ p g,true):=by
 unfold wB;rw[ld (lh.2 λf hf=>by simpa using h f hf)];rfl
theorem dN {p:AP}{g:Ac->AE}:Er (FJ p g)=Er p:=by
 unfold Er FJ;simp[AP.funcs,AP.decls,nU]
theorem EP.FJ {p:AP}{g:Ac->AE}(S:EP p.decls p.funcs):EP (FJ p g).decls (FJ p g).funcs:=
 ⟨S.NM,S.Q6,S.Lc,S.fg,by show (p.funcs.map _).length<=4;rw[ly];exact S.KK,λf hf=>by
  obtain⟨f0,h0,rfl⟩:=mA.1 (show f∈p.funcs.map _ from hf);exact S.OS f0 h0⟩
theorem D9.FJ {p:AP}{g:Ac->AE}(S:D9 p)(h4:p.funcs.length<=4)(h3 :∀f∈p.funcs,f.params.length<=3)(hd:p.decls.length+(p.decls.map dz).sum<=500000)(hg :∀f∈p.funcs,en (g f)<=30/\An (g f)):D9 (FJ p g):=by
 refine⟨⟨S.CZ.decls,λf hf=>?_,?_⟩,?_⟩
 ·obtain⟨f0,h0,rfl⟩:=mA.1 (show f∈p.funcs.map _ from hf);have:=S.fin h0;exact⟨this.params,this.result,(hg f0 h0).2⟩
 ·show (p.funcs.map _).length<=_;rw[ly];omega
 ·have:=fW (g:=g) S.size h4 (.inr h3) hd;rwa [bY λf hf=>(hg f hf).1]at this
theorem ZY {p:AP}(S:D9 p){N:Nat}(hN:2000000<=N)(SO:EP p.decls p.funcs){T:List Int->AE->Int}(hT:TX p N T)(wg :∀f∈p.funcs,en f.body<=30):Be N p=some (Lt p&&p.funcs.all (Gs p T)):=by
 have hl:=S.KK;have L1:=E0 (l:=p.funcs) (Bp N p) (λ_ f=>Gs p T f) (λn=>by rw[Bp,la (by simp[AM])]) (λn i f hi=>by
  have rv:=(lV.1 hi).1;have hf:=lT hi;obtain⟨q1,q2,q3⟩:=SO.OS f hf;have he:=wg f hf;have ty:Jc N p f.params f.body=some (T f.params f.body):=(hT f.params f.body (S.fin hf).body (by omega) (by omega) q2 N N (by omega) (by omega)).1;rw[Bp,ld (by simp[AM];omega),BG hi];simp only[lS];rw[GG (S.fz hf).2 hN,BJ (by omega) (by omega),show ((i:Int)+1)=((i+1:Nat):Int) by omega];simp only[lS];unfold Gs;rw[ld he,la (by simp),ty];by_cases hr:T f.params f.body=f.result<;>simp[he,hr]) (by omega:p.funcs.length<N)
 rw[Ft]at L1;unfold Be;rw[Mj S hN];simp only[lS];cases uW:Lt p with
 | false=>simp
 | true=>
  simp only[nA,lY,mC,oz];rw[L1,E6];cases p.funcs.all (Gs p T)<;>rfl
theorem Zf {p:AP}(S:D9 p){N:Nat}(hN:2000000<=N)(hv:Be N p=some true):Lt p=true:=by
 unfold Be at hv;rw[Mj S hN]at hv;simp only[lS]at hv;cases uW:Lt p with
 | false=>rw[uW]at hv;simp at hv
 | true=>rfl
theorem bg {p:AP}(S:D9 p){N:Nat}(hN:2000000<=N)(hv:Be N p=some true){T:List Int->AE->Int}(hT:TX p N T){g:Ac->AE}(hg :∀f∈p.funcs,en (g f)<=30/\An (g f)/\T f.params (g f)=f.result):
  Be N (FJ p g)=some true/\Cw N (FJ p g)=some true/\D9 (FJ p g)/\TX (FJ p g) N T:=by
 obtain⟨SO,_⟩:=Rx S hN hv;obtain⟨s1,s2,s3⟩:=Y4 S hN hv;have S':D9 (FJ p g):=S.FJ s1 s2 s3 λf hf=>⟨(hg f hf).1,(hg f hf).2.1⟩;have SO':=SO.FJ (g:=g);obtain⟨T',hT'⟩:=N1 SO' hN 340;have eqT:∀(v:List Int) (e:AE),An e->en e<340->v.length+3*en e<=1000->(∀x∈v,DL p.decls x=true)->T' v e=T v e:=λv e a b c d=>by
  have h1:=(hT' v e a b c d 340 340 (ll _) (ll _)).2.1;have h2:=(hT v e a b c d 340 340 (ll _) (ll _)).2.1;rw[dN,h2]at h1;exact (nT h1).symm
 have hTm:TX (FJ p g) N T:=λv e a b c d n1 n2 h1 h2=>by
  have:=hT' v e a b c d n1 n2 h1 h2;rwa [eqT v e a b c d]at this
 have uW:Lt (FJ p g)=true:=by
  rw[<- Zf S hN hv];unfold Lt FJ;simp[AP.funcs,AP.decls,nU];rfl
 have hb:=ZY S' hN SO' hTm (λf hf=>by
  obtain⟨f0,h0,rfl⟩:=mA.1 (show f∈p.funcs.map _ from hf);exact (hg f0 h0).1)
 have rp:(FJ p g).funcs.all (Gs (FJ p g) T)=true:=lh.2 λf hf=>by
  obtain⟨f0,h0,rfl⟩:=mA.1 (show f∈p.funcs.map _ from hf);obtain⟨g1,g2,g3⟩:=hg f0 h0;unfold Gs;simp only[mE,lq];exact⟨g1,g3⟩
 rw[uW,rp]at hb;obtain⟨b,e1,e2,_⟩:=G9 S' hN;rw[hb]at e1;cases e1;exact⟨hb,e2,S',hTm⟩
theorem ek {p:AP}(S:D9 p){N:Nat}(hN:2000000<=N)(hv:Be N p=some true)(hs :∀f∈p.funcs,en (FU p f)<=30):Be N (FJ p (FU p))=some true/\Cw N (FJ p (FU p))=some true/\D9 (FJ p (FU p)):=by
 obtain⟨SO,T,hT,hfs⟩:=Rx S hN hv;obtain⟨a,b,c,_⟩:=bg S hN hv hT (g:=FU p) λf hf=>by
  obtain⟨h1,h2,h3,h4,h5,h6⟩:=hfs f hf;have rE:T f.params f.body≠-1:=by rw[h6];have:=(Jk h5).1;omega
  have q:=(bF SO hN hT (en f.body) f.body f.params (ll _) ⟨by omega,h3,h4⟩ rE).1;exact⟨hs f hf,q.2.1,by unfold FU;rw[q.1,h6]⟩
 exact⟨a,b,c⟩
end RC
namespace RC
open Go
def du (D:List AN)(o nu:Int)(l:List AE):Prop:=∀n,Ho D n o nu l=.mk o nu l
mutual
def NR (D:List AN):AE->Prop|.mk o nu k=>du D o nu k/\dJ D k
def dJ (D:List AN):List AE->Prop|[]=>True|e::l=>NR D e/\dJ D l
end
theorem ZH {D:List AN}:∀{l:List AE},dJ D l->∀e∈l,NR D e
 | [],_,e,h=>by cases h
 | a::l,h,e,he=>by
  unfold dJ at h;rcases lk.1 he with rfl|he
  ·exact h.1
  ·exact ZH h.2 e he
theorem cP {D:List AN}:∀{l:List AE},(∀e∈l,NR D e)->dJ D l
 | [],_=>trivial
 | a::l,h=>by unfold dJ;exact⟨h a (by simp),cP λe he=>h e (by simp[he])⟩
theorem YP {D:List AN}{o nu:Int}{l:List AE}(h1:du D o nu l)(h2 :∀k∈l,NR D k):NR D (.mk o nu l):=by unfold NR;exact⟨h1,cP h2⟩
theorem NR.one {D:List AN}{e:AE}(h:NR D e):du D e.op e.num e.kids:=by cases e;unfold NR at h;exact h.1
theorem NR.JF {D:List AN}{e k:AE}(h:NR D e)(hk:k∈e.kids):NR D k:=by cases e;unfold NR at h;exact ZH h.2 k hk
theorem jS {D:List AN}:∀(c:Nat) (e:AE) (n:Nat),en e<=c->NR D e->fd D n e=e:=by
 intro c
 induction c with
 | zero=>intro e _ h;have:=F8 e;omega
 | succ c ih=>
  intro e n hc h;have:KU D n e.op e.num 0 e.kids=e.kids:=by
   apply nO;intro i;rw[Mt];cases hk:e.kids[i]? with
   | none=>rfl
   | some k=>
    have hm:=lT hk;show some (fd D _ k)=some k;rw[ih k _ (by have:=Cs hm;omega) (h.JF hm)]
  rw[Vo,this,h.one n,<- HS]
theorem VT (D:List AN)(n:Nat)(o nu:Int)(l:List AE):du D o nu l∨
  (∃a b r,l=a::b::r/\(o=1∨o=2∨o=3∨o=4)/\Ho D n o nu l=.mk 0 (Vj o a.num b.num) [])∨
  (∃k,k∈l/\Ho D n o nu l=k)∨
  (∃(a:AE) (r:List AE) (b:AE) (i:Nat),l=a::r/\o=8/\a.op=6/\r[i]?=some b/\Ho D n o nu l=lt n 0 a.kids b):=by
 by_cases ha:o=1∨o=2∨o=3∨o=4
 ·match l with
  | []=>exact .inl λn=>by unfold Ho;rw[ld ha]
  | [a]=>exact .inl λn=>by unfold Ho;rw[ld ha]
  | a::b::r=>
   by_cases h:a.op=0/\b.op=0
   ·refine .inr (.inl ⟨a,b,r,rfl,ha,?_⟩);unfold Ho;rw[ld ha];exact ld h
   ·refine .inl λn=>?_;unfold Ho;rw[ld ha];exact la h
 by_cases h7:o=7
 ·match l with
  | []=>exact .inl λn=>by unfold Ho;rw[la ha,ld h7]
  | [a]=>exact .inl λn=>by unfold Ho;rw[la ha,ld h7]
  | [a,b]=>exact .inl λn=>by unfold Ho;rw[la ha,ld h7]
  | a::b::c::r=>
   by_cases h:a.op=0
   ·by_cases h0:a.num=0
    ·refine .inr (.inr (.inl ⟨c,by simp,?_⟩));unfold Ho;rw[la ha,ld h7];show (if a.op=0 then (if a.num=0 then c else b) else _)=c;rw[ld h,ld h0]
    ·refine .inr (.inr (.inl ⟨b,by simp,?_⟩));unfold Ho;rw[la ha,ld h7];show (if a.op=0 then (if a.num=0 then c else b) else _)=b;rw[ld h,la h0]
   ·refine .inl λn=>?_;unfold Ho;rw[la ha,ld h7];exact la h
 by_cases h8:o=8
 ·match l with
  | []=>exact .inl λn=>by unfold Ho;rw[la ha,la h7,ld h8]
  | a::r=>
   by_cases h:a.op=6
   ·cases hb:r[ci D nu a.num]? with
    | none=>
     refine .inl λn=>?_;unfold Ho;rw[la ha,la h7,ld h8];show (if a.op=6 then (match r[ci D nu a.num]? with|some b=>lt n 0 a.kids b|none=>AE.mk o nu (a::r)) else AE.mk o nu (a::r))=_;rw[ld h,hb]
    | some b=>
     refine .inr (.inr (.inr ⟨a,r,b,_,rfl,h8,h,hb,?_⟩));unfold Ho;rw[la ha,la h7,ld h8];show (if a.op=6 then (match r[ci D nu a.num]? with|some b=>lt n 0 a.kids b|none=>AE.mk o nu (a::r)) else AE.mk o nu (a::r))=_;rw[ld h,hb]
   ·refine .inl λn=>?_;unfold Ho;rw[la ha,la h7,ld h8];exact la h
 exact .inl λn=>by unfold Ho;rw[la ha,la h7,la h8]
theorem iF {D:List AN}{o nu nu' a k:Int}{l:List AE}(h:du D o nu l)(hnu:o≠12->nu'=nu):du D o nu' (l.map (sh a k)):=by
 by_cases sk:o=12
 ·intro n;unfold Ho;rw[la (by omega),la (by omega),la (by omega)]
 rw[hnu sk];have num0:∀x:AE,x.op=6->(sh a k x).num=x.num:=λx hx=>by rw[O6,la (by omega)]
 intro n;have h:=h n;unfold Ho at h⊢;by_cases ha:o=1∨o=2∨o=3∨o=4
 ·rw[ld ha]at h⊢
  match l,h with
  | [],_=>rfl
  | [_],_=>rfl
  | x::y::r,h=>
   simp only[mF]at h⊢;by_cases hx:x.op=0/\y.op=0
   ·rw[ld hx]at h;have:=mc AE.op h;simp only[AE.op]at this;omega
   ·rw[la (by rw[Ov,Ov];exact hx)]
 rw[la ha]at h⊢;by_cases h7:o=7
 ·rw[ld h7]at h⊢
  match l,h with
  | [],_=>rfl
  | [_],_=>rfl
  | [_,_],_=>rfl
  | x::y::z::r,h=>
   simp only[mF]at h⊢;by_cases hx:x.op=0
   ·exfalso;rw[ld hx]at h;have:=mc en h;have e1:=F8 x;have e2:=F8 y;have e3:=F8 z;simp only[en,CM]at this;split at this<;>omega
   ·rw[la (by rw[Ov];exact hx)]
 rw[la h7]at h⊢;by_cases h8:o=8
 ·rw[ld h8]at h⊢
  match l,h with
  | [],_=>rfl
  | x::r,h=>
   simp only[mF]at h⊢;by_cases hx:x.op=6
   ·rw[ld hx]at h;rw[ld (by rw[Ov];exact hx),num0 x hx,lW];cases hb:r[ci D nu x.num]? with
    | none=>rfl
    | some b=>
     exfalso;rw[hb]at h;have hm:=H7 (lT hb);have h:lt n 0 x.kids b=.mk o nu (x::r):=h;cases hk:x.kids with
     | nil=>
      rw[hk]at h;have:=mc en h;simp only[lt,en,CM]at this;omega
     | cons y ys=>
      rw[hk]at h;have:=mc AE.op h;simp only[lt,AE.op]at this;omega
   ·rw[la (by rw[Ov];exact hx)]
 ·rw[la h8]
theorem jl {D:List AN}{a k:Int}:∀(c:Nat) (e:AE),en e<=c->NR D e->NR D (sh a k e):=by
 intro c
 induction c with
 | zero=>intro e h;have:=F8 e;omega
 | succ c ih=>
  intro e hc h;rw[Tq];refine YP (iF h.one λsk=>la λq=>sk q.1) λx hx=>?_;obtain⟨y,hy,rfl⟩:=mA.1 hx;exact ih y (by have:=Cs hy;omega) (h.JF hy)
theorem fC {D:List AN}{n:Nat}:∀(xs:List AE) (c:Nat) (b:AE),(∀x∈xs,NR D x)->NR D b->NR D (lt n c xs b)
 | [],_,b,_,hb=>hb
 | x::r,c,b,hx,hb=>by
  refine YP (λn=>by unfold Ho;rw[la (by omega),la (by omega),la (by omega)]) λy hy=>?_;simp only[lk,mK,mr]at hy;rcases hy with rfl|rfl
  ·exact jl (en x) x (ll _) (hx x (by simp))
  ·exact fC r (c+1) b (λz hz=>hx z (by simp[hz])) hb
theorem jf {D:List AN}:∀(c:Nat) (e:AE) (n:Nat),en e<=c->NR D (fd D n e):=by
 intro c
 induction c with
 | zero=>intro e _ h;have:=F8 e;omega
 | succ c ih=>
  intro e n hc;have K:∀k∈KU D n e.op e.num 0 e.kids,NR D k:=λk hk=>by
   obtain⟨i,hi⟩:=lv.1 hk;rw[Mt,lg]at hi;obtain⟨k0,zD,rfl⟩:=hi;exact ih k0 _ (by have:=Cs (lT zD);omega)
  rw[Vo];rcases VT D n e.op e.num (KU D n e.op e.num 0 e.kids) with h|⟨a,b,r,h1,h2,h3⟩|⟨k,h1,h2⟩|⟨a,r,b,i,h1,h2,h3,h4,h5⟩
  ·rw[h n];exact YP h K
  ·rw[h3];exact YP (λn=>by unfold Ho;rw[la (by omega),la (by omega),la (by omega)]) (by simp)
  ·rw[h2];exact K k h1
  ·rw[h5];have ha:=K a (by rw[h1];simp);exact fC a.kids 0 b (λx hx=>ha.JF hx) (K b (by rw[h1];simp[lT h4]))
theorem jT {D:List AN}{e:AE}{n m:Nat}:fd D m (fd D n e)=fd D n e:=jS _ _ m (ll _) (jf _ e n (ll _))
theorem ft {a k:Int}:∀(c:Nat) (e:AE),en e<=c->KL (sh a k e)=KL e:=by
 intro c
 induction c with
 | zero=>intro e h;have:=F8 e;omega
 | succ c ih=>
  intro e hc;have hl:∀l:List AE,(∀k∈l,en k<=c)->HA (l.map (sh a k))=HA l:=by
   intro l
   induction l with
   | nil=>intro _;rfl
   | cons x l ihl=>
    intro h;simp only[mF,HA];rw[ih x (h x (by simp)),ihl λy hy=>h y (by simp[hy])]
  rw[JK,JK e,Lm,hl e.kids λy hy=>by have:=Cs hy;omega];congr 1;unfold OR;rw[Ov,O6];split
  ·rw[la (by omega)]
  ·rfl
theorem UX {x:Int}{k:AE}:∀{l:List AE},k∈l->x∈KL k->x∈HA l
 | [],h,_=>by cases h
 | a::r,h,hx=>by
  simp only[HA,lz];rcases lk.1 h with rfl|h
  ·exact .inl hx
  ·exact .inr (UX h hx)
theorem aN {n:Nat}{x:Int}:∀(xs:List AE) (c:Nat) (b:AE),x∈KL (lt n c xs b)->x∈HA xs∨x∈KL b
 | [],_,b,h=>.inr h
 | y::r,c,b,h=>by
  rw[JK]at h;simp only[lt,AE.kids,HA,lz]at h;rcases h with h|h|h|h
  ·have:x∈OR (.mk 13 0 [sh n c y,lt n (c+1) r b]):=h;unfold OR at this;rw[la (by show ¬ ((13:Int)=9∨(13:Int)=10);omega)]at this;cases this
  ·rw[ft (en y) y (ll _)]at h;exact .inl (by simp only[HA,lz];exact .inl h)
  ·rcases aN r (c+1) b h with h|h
   ·exact .inl (by simp only[HA,lz];exact .inr h)
   ·exact .inr h
  ·cases h
theorem fu {D:List AN}{x:Int}:∀(c:Nat) (e:AE) (n:Nat),en e<=c->x∈KL (fd D n e)->x∈KL e:=by
 intro c
 induction c with
 | zero=>intro e _ h;have:=F8 e;omega
 | succ c ih=>
  intro e n hc h;have K:∀k∈KU D n e.op e.num 0 e.kids,x∈KL k->x∈HA e.kids:=λk hk hx=>by
   obtain⟨i,hi⟩:=lv.1 hk;rw[Mt,lg]at hi;obtain⟨k0,zD,rfl⟩:=hi;have hm:=lT zD;exact UX hm (ih k0 _ (by have:=Cs hm;omega) hx)
  rw[JK e,lz];rw[Vo]at h;rcases VT D n e.op e.num (KU D n e.op e.num 0 e.kids) with h1|⟨a,b,r,h1,h2,h3⟩|⟨k,h1,h2⟩|⟨a,r,b,i,h1,h2,h3,h4,h5⟩
  ·rw[h1 n,JK,lz]at h;rcases h with h|h
   ·exact .inl h
   ·obtain⟨k,hk,hx⟩:=TQ h;exact .inr (K k hk hx)
  ·rw[h3,JK,lz]at h;rcases h with h|h
   ·have h:x∈OR (.mk 0 (Vj e.op a.num b.num) []):=h;unfold OR at h;rw[la (by show ¬ ((0:Int)=9∨(0:Int)=10);omega)]at h;cases h
   ·cases h
  ·rw[h2]at h;exact .inr (K k h1 h)
  ·rw[h5]at h;rcases aN a.kids 0 b h with h|h
   ·refine .inr (K a (by rw[h1];simp) ?_);rw[JK,lz];exact .inr h
   ·exact .inr (K b (by rw[h1];simp[lT h4]) h)
end RC
namespace RC
open Go
section
variable {p : AP} {N : Nat} {T : List Int -> AE -> Int} {e : AE} {v : List Int}
end
end RC
namespace RC
open Go
structure Bk (b:List Int):Prop where
 u8 :∀x∈b,U8 x
 len:b.length<=2000
def At (p K:Int):Prop:=0<=p/\p<=K
theorem Wt {code:List Int}(h8 :∀x∈code,U8 x)(hl:code.length<=1048576):Ag (Ip code) λq=>Bk q.1/\q.2=0:=by
 unfold Ip;refine Ag.bind (R:=λb=>Bk b) (BD (λh=>?_) λh=>?_) λb hb=>Ag.some ⟨hb,rfl⟩
 ·rw[AM]at h;have e:Sh.sl code 0 2000=some (code.take 2000):=by
   unfold Sh.sl;rw[ld ⟨by decide,by decide,by omega⟩];rfl
  exact AU e (Ag.some ⟨λx hx=>h8 x (mq hx),by simp;omega⟩)
 ·rw[AM]at h;exact Ag.some ⟨h8,by omega⟩
theorem QM {a n:Int}(ha:0<=a)(hn:1<=n):0<=a.tmod n/\a.tmod n<n/\a.tmod n<=a:=by
 rw[Int.tmod_eq_emod_of_nonneg ha];refine⟨Int.emod_nonneg _ (by omega),Int.emod_lt_of_pos _ (by omega),?_⟩;have:=Int.mul_ediv_add_emod a n;have h2:0<=n*(a / n):=Int.mul_nonneg (by omega) (Int.ediv_nonneg ha (by omega));omega
theorem X2 {a n:Int}(ha:0<=a)(hn:1<=n):0<=a.tdiv n/\a.tdiv n<=a:=by
 rw[Int.tdiv_eq_ediv_of_nonneg ha];exact⟨Int.ediv_nonneg ha (by omega),Int.ediv_le_self _ ha⟩
theorem VK {a n:Int}(hn:n≠0):Sh.rem a n=some (a.tmod n):=by unfold Sh.rem;rw[la hn]
theorem dF {a n:Int}(hn:n≠0):Sh.quo a n=some (Sh.w (a.tdiv n)):=by unfold Sh.quo;rw[la hn]
structure Pk (n p:Int) (q:Int×Int):Prop where
 pos:q.2=p+1
 nn:0<=q.1
 lt:1<=n->q.1<n
 zero:n<1->q.1=0
theorem Cb {b:List Int}(B:Bk b){p n:Int}(hp:At p 1000000):Ag (BB b p n) (Pk n p):=by
 obtain⟨p0,p1⟩:=hp;have hlen:=B.len;have ew:Sh.w (p+1)=p+1:=BJ (by omega) (by omega);have ew2:Sh.w (p+1-1)=p:=by rw[BJ (by omega) (by omega)];omega
 unfold BB;rw[ew,ew2,AM];refine Ag.bind (R:=λt=>t=true↔n<1∨b.length=0) (BD (λh=>Ag.some (by simp[h])) λh=>Ag.some (by simp[h])) λt ht=>?_;refine Cn (λh=>?_) λh=>?_
 ·refine Ag.some ⟨rfl,by show (0:Int)<=0;decide,λh1=>?_,λ_=>rfl⟩;show (0:Int)<n;omega
 ·have hn:¬ (n<1∨b.length=0):=λh1=>by rw[ht.2 h1]at h;cases h
  have hn1:1<=n:=by omega
  have zO:1<=b.length:=by omega
  refine BD (λh1=>?_) λh1=>?_
  ·refine Ag.get p0 h1 λc _ hc=>?_;obtain⟨c0,c1⟩:=B.u8 c hc;rw[bH (by omega) (by omega)];obtain⟨m0,m1,_⟩:=QM c0 hn1;exact AU (VK (by omega)) (Ag.some ⟨rfl,m0,λ_=>m1,λh=>absurd h (by omega)⟩)
  ·have k1:(1:Int)<=b.length:=by omega
   obtain⟨a0,a1,_⟩:=QM p0 k1;have e7:Sh.w (p*7)=p*7:=BJ (by omega) (by omega);have e73:Sh.w (p*7+3)=p*7+3:=BJ (by omega) (by omega);obtain⟨d0,d1,_⟩:=QM (a:=p*7+3) (by omega) k1;obtain⟨f0,f1⟩:=X2 p0 k1;rw[e7,e73];refine AU (VK (by omega)) ?_;refine Ag.get a0 a1 λc _ hc=>?_;obtain⟨c0,c1⟩:=B.u8 c hc;refine AU (VK (by omega)) ?_;refine Ag.get d0 d1 λc' _ tn=>?_;obtain⟨c0',c1'⟩:=B.u8 c' tn;refine AU (dF (by omega)) ?_;rw[bH (n:=c) (by omega) (by omega),bH (n:=c') (by omega) (by omega),BJ (n:=p.tdiv b.length) (by omega) (by omega),BJ (n:=c*131) (by omega) (by omega),BJ (n:=c'*1117) (by omega) (by omega),
    BJ (n:=c*131+c'*1117) (by omega) (by omega),BJ (n:=p*29) (by omega) (by omega),BJ (n:=c*131+c'*1117+p*29) (by omega) (by omega),BJ (n:=p.tdiv b.length*53) (by omega) (by omega),
    BJ (n:=c*131+c'*1117+p*29+p.tdiv b.length*53) (by omega) (by omega)]
   obtain⟨x,hx⟩ :∃x,x=c*131+c'*1117+p*29+p.tdiv b.length*53:=⟨_,rfl⟩
   rw[<- hx];have x0:0<=x:=by omega
   have x1:x<=1000000000000:=by omega
   obtain⟨y0,y1⟩:=X2 x0 (by decide:(1:Int)<=64);rw[BJ (n:=x.tdiv 64) (by omega) (by omega)];obtain⟨z0,z1⟩:=iG x0 (by omega) y0 (by omega);obtain⟨m0,m1,_⟩:=QM z0 hn1;exact AU (VK (by omega)) (Ag.some ⟨rfl,m0,λ_=>m1,λh=>absurd h (by omega)⟩)
structure On (l:List Int) (p:Int) (q:Int×Int):Prop where
 pos:q.2=p+1
 mem:q.1∈l
theorem Gk {b:List Int}(B:Bk b){p:Int}{l:List Int}(hp:At p 1000000)(hl:1<=l.length)(wR:l.length<=1000):Ag (CC b p l) (On l p):=by
 unfold CC;rw[AM];refine Ag.bind (Cb B hp) λq ⟨h1,h2,h3,_⟩=>?_;exact Ag.get h2 (h3 (by omega)) λx _ hx=>Ag.some ⟨h1,hx⟩
end RC
namespace RC
open Go
structure CX (D:List AN) (F:List Ac):Prop where
 dl:D.length<=4
 ju:nc D<=7
 cons :∀d∈D,d.cons.length<=3
 Lc :∀d∈D,∀c∈d.cons,c.fields.length<=3/\∀x∈c.fields,x=0∨x=1∨x=3
 c1:Bu D 1=[0,1]
 c3:Bu D 3=[2,3]
 f0 :∃t,Gl D 0 0=some (t,⟨[]⟩)
 f1 :∃t,Gl D 0 1=some (t,⟨[0,1]⟩)
 f2 :∃t,Gl D 0 2=some (t,⟨[]⟩)
 f3 :∃t,Gl D 0 3=some (t,⟨[3,0,3]⟩)
 arr:IY 1 1 D 0=-1
 fl:F.length<=4
 gP:1<=F.length
 par :∀f∈F,f.params.length<=3
 cl :∀f∈F,(∀x∈f.params,x=0∨x=1∨x=3)∨(f.params=[2,1]/\f.result=1)
section
variable {D : List AN} {F : List Ac}
theorem aU (D:List AN)(i:Nat):nc (D.take i)<=nc D:=by have:=G5 D i;omega
theorem CX.bT (C:CX D F):D.length<=1048576:=by have:=C.dl;omega
theorem CX.jP (C:CX D F):nc D<=1048576:=by have:=C.ju;omega
theorem CX.U2 (C:CX D F){t:Int}{N:Nat}(hN:2000000<=N):GN N D t=some (Bu D t):=Lq C.bT C.jP hN
theorem QW {D:List AN}{t:Int}:∀x∈Bu D t,∃c:Nat,x=(c:Int)/\c<nc D:=by
 intro x hx;unfold Bu at hx;split at hx
 ·rename_i h;obtain⟨i,hi,rfl⟩:=mA.1 hx;rw[na]at hi;cases hd:D[(t-1).toNat]? with
  | none=>rw[hd]at hi;simp at hi
  | some d=>
   rw[hd]at hi;simp only[ny]at hi;have h1:=LS hd;have h2:=aU D ((t-1).toNat+1);exact⟨nc (D.take (t-1).toNat)+i,by omega,by omega⟩
 ·cases hx
theorem CX.U3 (C:CX D F)(t:Int):(Bu D t).length<=3:=by
 unfold Bu;split
 ·rw[ly,pR];cases hd:D[(t-1).toNat]? with
  | none=>simp
  | some d=>simpa using C.cons d (lT hd)
 ·simp
theorem CX.fields (C:CX D F){c:Nat}(hc:c<nc D){N:Nat}(hN:2000000<=N):∃fl:List Int,Bw N D (c:Int)=some fl/\fl.length<=3/\∀x∈fl,x=0∨x=1∨x=3:=by
 obtain⟨t,x,h1,h2⟩:=HC C.bT C.jP hc hN;obtain⟨_,_,d,hd,hx⟩:=LL h1;obtain⟨h3,h4⟩:=C.Lc d hd x hx;exact⟨x.fields,h2,h3,h4⟩
theorem ZP:∀(D:List AN) (k c:Nat) {r:Nat×De},Gl D k c=some r->c<nc D
 | [],k,c,r,h=>by simp[Gl]at h
 | d::D,k,c,r,h=>by
  unfold Gl at h;have e:nc (d::D)=d.cons.length+nc D:=by simp[nc]
  cases hx:d.cons[c]? with
  | some y=>have:=(lV.1 hx).1;omega
  | none=>
   rw[hx]at h;have:=ZP D _ _ h;omega
theorem CX.VH (C:CX D F){c t:Nat}{x:De}(h:Gl D 0 c=some (t,x)){N:Nat}(hN:2000000<=N):Bw N D (c:Int)=some x.fields:=by
 obtain⟨t',x',h1,h2⟩:=HC C.bT C.jP (ZP D 0 c h) hN;rw[h]at h1;cases h1;exact h2
theorem iN {l:List Int}{x:Int}(hl:l.length<=1048576){N i:Nat}(hi:i<=l.length)(hN:l.length-i<N):GM l x N i=some (if x∈l.drop i then Sum.inl true else Sum.inr ()):=by
 refine Bh l.length (λN i=>GM l x N i=some (if x∈l.drop i then Sum.inl true else Sum.inr ())) ?_ ?_ hi hN
 ·intro n;rw[GM,la (by simp[AM])];simp
 ·intro n i hi ih;obtain⟨y,hy,_⟩:=Bz hi;rw[GM,ld (by simp[AM];omega),BG hy,drop_cons hy];simp only[lS,lk];rw[BJ (by omega) (by omega),show ((i:Int)+1)=((i+1:Nat):Int) by omega];by_cases h:y=x
  ·simp[h]
  ·have h':¬ x=y:=λe=>h e.symm;rw[la (by simpa using h),ih];simp[h']
theorem hZ {l:List Int}{x:Int}(hl:l.length<=1048576){N:Nat}(hN:2000000<=N):KG N l x=some (decide (x∈l)):=by
 unfold KG;have:=iN (x:=x) hl (mB _) (by omega:l.length-0<N);rw[qU,nQ]at this;rw[this];by_cases h:x∈l<;>simp[h,Sh.cont]
def bx (D:List AN)(F:List Ac)(t x:Int):Prop:=∃(f:Nat) (g:Ac) (y:Int),x=(f:Int)/\F[f]?=some g/\g.params[g.params.length-1]?=some y/\0<g.params.length/\IY y g.result D 0=t
theorem Nr (C:CX D F){t:Int}{M:Nat}(hM:2000000<=M):Ag (Hx M ⟨D,F⟩ t) λl=>l.length<=4/\∀x∈l,bx D F t x:=by
 have hf:=C.fl;have key:∀{N i:Nat},i<=F.length->F.length-i<N->∀acc:List Int,acc.length<=i->(∀x∈acc,bx D F t x)->Ag (Ei M ⟨D,F⟩ t N i acc) λl=>l.length<=F.length/\∀x∈l,bx D F t x:=by
  intro N i hi hN;refine Bh F.length (λN i=>∀acc:List Int,acc.length<=i->(∀x∈acc,bx D F t x)->Ag (Ei M ⟨D,F⟩ t N i acc) λl=>l.length<=F.length/\∀x∈l,bx D F t x) ?_ ?_ hi hN
  ·intro n acc h1 h2;rw[Ei,la (by simp[AM])];exact Ag.some ⟨h1,h2⟩
  ·intro n i hi ih acc h1 h2;obtain⟨g,hg,vN⟩:=Bz hi;have hp:=C.par g vN;rw[Ei,ld (by simp[AM];omega)];refine Ag.bind (R:=λl=>l.length<=i+1/\∀x∈l,bx D F t x) ?_ λl hl=>?_
   ·refine AU (BG hg) ?_;refine Ag.bind (R:=λb=>b=true->bx D F t i) ?_ λb hb=>?_
    ·refine BD (λh=>?_) λ_=>Ag.some (λh=>by cases h);rw[AM]at h;have rQ:0<g.params.length:=by omega
     obtain⟨y,hy,_⟩:=Bz (l:=g.params) (i:=g.params.length-1) (by omega);rw[AM,BJ (by omega) (by omega),show ((g.params.length:Int)-1)=((g.params.length-1:Nat):Int) by omega];refine AU (BG hy) (AU (OJ C.bT hM) (Ag.some λh=>?_));exact⟨i,g,y,rfl,hg,hy,rQ,by simpa using h⟩
    ·refine Cn (λh=>?_) λ_=>Ag.some ⟨by omega,h2⟩;refine Ag.app (by simp;omega) (by simp;omega) (Ag.some ⟨by simp;omega,λx hx=>?_⟩);rcases lz.1 hx with h3|h3
     ·exact h2 x h3
     ·rw[lu]at h3;rw[h3];exact hb h
   ·rw[BJ (by omega) (by omega),show ((i:Int)+1)=((i+1:Nat):Int) by omega];exact ih l hl.1 hl.2
 unfold Hx;have:=key (mB _) (by omega:F.length-0<M) [] (by simp) (by simp);rw[qU]at this;exact Ag.bind this λl hl=>Ag.some ⟨by omega,hl.2⟩
theorem MA (C:CX D F){vars:List Int}(hv:vars.length<=1000){t:Int}{M:Nat}(hM:2000000<=M):Ag (G1 M ⟨D,F⟩ vars t) λ_=>True:=by
 unfold G1;refine Ag.bind (R:=λ_=>True) ?_ λb _=>Ag.some lU;refine AU (Ji C.bT) ?_;refine Cn (λ_=>Ag.some lU) λ_=>?_;refine Ag.bind (Nr C hM) λl _=>?_;refine BD (λ_=>Ag.some lU) λ_=>?_;exact AU (hZ (by omega) hM) (Ag.some lU)
theorem Uh {vars:List Int}(hv:vars.length<=1000){t:Int}{M:Nat}(hM:2000000<=M):Ag (H3 M vars t) λl=>l.length<=1000/\∀x∈l,0<=x/\x<=1000:=by
 have key:∀{N i:Nat},i<=vars.length->vars.length-i<N->∀acc:List Int,acc.length<=i->(∀x∈acc,0<=x/\x<=1000)->Ag (Du vars t N i acc) λl=>l.length<=vars.length/\∀x∈l,0<=x/\x<=1000:=by
  intro N i hi hN;refine Bh vars.length (λN i=>∀acc:List Int,acc.length<=i->(∀x∈acc,0<=x/\x<=1000)->Ag (Du vars t N i acc) λl=>l.length<=vars.length/\∀x∈l,0<=x/\x<=1000) ?_ ?_ hi hN
  ·intro n acc h1 h2;rw[Du,la (by simp[AM])];exact Ag.some ⟨h1,h2⟩
  ·intro n i hi ih acc h1 h2;obtain⟨y,hy,_⟩:=Bz hi;rw[Du,ld (by simp[AM];omega)];refine Ag.bind (R:=λl=>l.length<=i+1/\∀x∈l,0<=x/\x<=1000) ?_ λl hl=>?_
   ·refine AU (BG hy) ?_;refine BD (λ_=>?_) λ_=>Ag.some ⟨by omega,h2⟩;refine Ag.app (by simp;omega) (by simp;omega) (Ag.some ⟨by simp;omega,λx hx=>?_⟩);rcases lz.1 hx with h3|h3
    ·exact h2 x h3
    ·rw[lu]at h3;omega
   ·rw[BJ (by omega) (by omega),show ((i:Int)+1)=((i+1:Nat):Int) by omega];exact ih l hl.1 hl.2
 unfold H3;have:=key (mB _) (by omega:vars.length-0<M) [] (by simp) (by simp);rw[qU]at this;exact Ag.bind this λl hl=>Ag.some ⟨by omega,hl.2⟩
structure GE (k P:Nat) (p:Int) (q:AE×Int):Prop where
 size:en q.1<=k
 CZ:An q.1
 lo:p<=q.2
 hi:q.2<=p+P
theorem GE.up {k k' P P':Nat}{p:Int}{q:AE×Int}(h:GE k P p q)(hk:k<=k')(hP:P<=P'):GE k' P' p q:=⟨by have:=h.size;omega,h.CZ,h.lo,by have:=h.hi;omega⟩
theorem Dm {n:Int}(h1:-1000000<=n)(h2:n<=1000000):G3 n:=⟨by omega,by omega⟩
theorem Jq {o n:Int}{k:List AE}(ho:G3 o)(hn:G3 n)(hk :∀e∈k,An e)(hl:k.length<=1000):An ⟨o,n,k⟩:=.mk ho hn (by show k.length<=_;omega) hk
theorem Gu (o n:Int)(k:List AE):en ⟨o,n,k⟩=1+CM k:=Fp _
theorem Ix:∀(a b:List AE),CM (a++b)=CM a+CM b
 | [],b=>by simp[CM]
 | x::a,b=>by have:=Ix a b;simp only[pY,CM];omega
theorem Hf (e:AE):CM [e]=en e:=by simp[CM]
theorem O2 {b:List Int}(Bb:Bk b){p:Int}(h0:0<=p)(h1:p<=900000):Ag (Iu b p) λq=>(-1000<=q.1/\q.1<=1000)/\q.2=p+4:=by
 unfold Iu;refine Ag.bind (Cb Bb ⟨by omega,by omega⟩) λa ha=>?_;have a1:=ha.pos;have a2:=ha.nn;have a3:=ha.lt (by omega);refine Ag.bind (Cb Bb ⟨by omega,by omega⟩) λc hc=>?_;have c1:=hc.pos;have c2:=hc.nn;have c3:=hc.lt (by omega);refine Ag.bind (Cb Bb ⟨by omega,by omega⟩) λd hd=>?_;have d1:=hd.pos;have d2:=hd.nn;have d3:=hd.lt (by omega);refine Ag.bind (Gk Bb ⟨by omega,by omega⟩ (by simp) (by simp)) λe he=>Ag.some ⟨?_,by have:=he.pos;show e.2=_;omega⟩;have:=he.mem;simp only[lk,mK,mr]at this;show -1000<=e.1/\e.1<=1000;omega
def cU (b:List Int)(D:List AN)(F:List Ac)(rec:List Int->Int->List Ac->List AN->Int->Option (AE×Int))(t:Int)(k P:Nat):Prop:=
 ∀p:Int,0<=p->p<=800000->Ag (rec b p F D t) (GE k P p)
theorem Xm {b:List Int}{rec:List Int->Int->List Ac->List AN->Int->Option (AE×Int)}{l:List Int}(hl:l.length<=3){k P:Nat}(hP:P<=1000)(rz :∀t∈l,cU b D F rec t k P){N i:Nat}(hi:i<=l.length)(hN:l.length-i<N):
  ∀(p:Int) (acc:List AE),0<=p->p<=700000+(i*P:Nat)->acc.length=i->(∀e∈acc,An e)->CM acc<=i*k->
   Ag (C9 b F D l rec N i p acc) λq=>p<=q.1/\q.1<=p+((l.length-i)*P:Nat)/\q.2.length=l.length/\(∀e∈q.2,An e)/\CM q.2<=l.length*k:=by
 refine Bh l.length (λN i=>∀(p:Int) (acc:List AE),0<=p->p<=700000+(i*P:Nat)->acc.length=i->(∀e∈acc,An e)->CM acc<=i*k->
   Ag (C9 b F D l rec N i p acc) λq=>p<=q.1/\q.1<=p+((l.length-i)*P:Nat)/\q.2.length=l.length/\(∀e∈q.2,An e)/\CM q.2<=l.length*k) ?_ ?_ hi hN
 ·intro n p acc h0 h1 h2 h3 h4;rw[C9,la (by simp[AM])];exact Ag.some ⟨by show p<=p;omega,by show p<=_;omega,h2,h3,h4⟩
 ·intro n i hi ih p acc h0 h1 h2 h3 h4;obtain⟨t,ht,yy⟩:=Bz hi;have hiP:i*P<=3000:=by
   have:i*P<=3*1000:=pO (by omega) hP;omega
  have e1:(l.length-i)*P=P+(l.length-(i+1))*P:=by
   rw[show l.length-i=(l.length-(i+1))+1 by omega,mM];omega
  have e2:(i+1)*P=i*P+P:=by rw[mM];omega
  have e3:(i+1)*k=i*k+k:=by rw[mM];omega
  rw[C9,ld (by simp[AM];omega)];refine AU (BG ht) ?_;refine Ag.bind (rz t yy p h0 (by omega)) λq hq=>?_;have q1:=hq.lo;have q2:=hq.hi;have q3:=hq.size;refine Ag.app (by simp;omega) (by simp;omega) ?_;rw[BJ (by omega) (by omega),show ((i:Int)+1)=((i+1:Nat):Int) by omega];refine (ih q.2 (acc++[q.1]) (by omega) (by omega) (by simp;omega) (λe he=>?_) (by rw[Ix,Hf];omega)).mono λr hr=>⟨by have:=hr.1;omega,by have:=hr.2.1;omega,hr.2.2⟩;rcases lz.1 he with h5|h5
  ·exact h3 e h5
  ·rw[lu]at h5;rw[h5];exact hq.CZ
theorem XJ {b:List Int}{rec:List Int->Int->List Ac->List AN->Int->Option (AE×Int)}{g:Ac}{m:Nat}(hm:g.params.length=m+1)(hl:m<=2){k P:Nat}(hP:P<=1000)(rz :∀t∈g.params,cU b D F rec t k P){N i:Nat}(hi:i<=m)(hN:m-i<N):
  ∀(p:Int) (acc:List AE),0<=p->p<=700000+(i*P:Nat)->acc.length=i->(∀e∈acc,An e)->CM acc<=i*k->
   Ag (D0 g b F D rec N i p acc) λq=>p<=q.1/\q.1<=p+((m-i)*P:Nat)/\q.2.length=m/\(∀e∈q.2,An e)/\CM q.2<=(m)*k:=by
 refine Bh m (λN i=>∀(p:Int) (acc:List AE),0<=p->p<=700000+(i*P:Nat)->acc.length=i->(∀e∈acc,An e)->CM acc<=i*k->
   Ag (D0 g b F D rec N i p acc) λq=>p<=q.1/\q.1<=p+((m-i)*P:Nat)/\q.2.length=m/\(∀e∈q.2,An e)/\CM q.2<=(m)*k) ?_ ?_ hi hN
 ·intro n p acc h0 h1 h2 h3 h4;rw[D0,BJ (by omega) (by omega),la (by rw[lq,AM];omega)];exact Ag.some ⟨by show p<=p;omega,by show p<=_;omega,h2,h3,h4⟩
 ·intro n i hi ih p acc h0 h1 h2 h3 h4;obtain⟨t,ht,yy⟩:=Bz (l:=g.params) (i:=i) (by omega);have hiP:i*P<=3000:=by
   have:i*P<=3*1000:=pO (by omega) hP;omega
  have e1:(m-i)*P=P+(m-(i+1))*P:=by
   rw[show m-i=(m-(i+1))+1 by omega,mM];omega
  have e2:(i+1)*P=i*P+P:=by rw[mM];omega
  have e3:(i+1)*k=i*k+k:=by rw[mM];omega
  rw[D0,BJ (by omega) (by omega),ld (by rw[lq,AM];omega)];refine AU (BG ht) ?_;refine Ag.bind (rz t yy p h0 (by omega)) λq hq=>?_;have q1:=hq.lo;have q2:=hq.hi;have q3:=hq.size;refine Ag.app (by simp;omega) (by simp;omega) ?_;rw[show ((i:Int)+1)=((i+1:Nat):Int) by omega];refine (ih q.2 (acc++[q.1]) (by omega) (by omega) (by simp;omega) (λe he=>?_) (by rw[Ix,Hf];omega)).mono λr hr=>⟨by have:=hr.1;omega,by have:=hr.2.1;omega,hr.2.2⟩;rcases lz.1 he with h5|h5
  ·exact h3 e h5
  ·rw[lu]at h5;rw[h5];exact hq.CZ
theorem Fv {o n:Int}(ho:-1000000<=o/\o<=1000000)(hn:-1000000<=n/\n<=1000000):An ⟨o,n,[]⟩:=Jq (Dm ho.1 ho.2) (Dm hn.1 hn.2) (by simp) (by simp)
theorem iI (C:CX D F){b:List Int}(Bb:Bk b){M:Nat}(hM:2000000<=M){t:Int}(ht:t=0∨t=1∨t=3)(n:Nat):cU b D F (Df M (n+1)) t 1 6:=by
 intro p h0 h1;rw[Df];unfold IJ;refine AU (C.U2 hM) ?_;have data:∀(c:Nat) (fs:List Int),Bu D t=[(c:Int),((c+1:Nat):Int)]->c<=10->Bw M D (c:Int)=some []->Bw M D ((c+1:Nat):Int)=some fs->t∈fs->fs.length<=3->
   Ag ((Sh.get (Bu D t) 0).bind λc8=>
  (
   Option.bind (
    if (decide (1<(Sh.len (Bu D t))))=true then
     (BB b p 4).bind λwb=>
     some (decide (wb.1=0),wb.2)
    else
     some (false,p)
   ) λ(t41,f42)=>
   if t41=true then
    (Sh.get (Bu D t) 1).bind λc45=>
    some (c45,f42)
   else
    some (c8,f42)
  ).bind λ(vF,f11)=>
  (
   Option.bind (Bw M D vF) λxh=>
   (KG M xh t).bind λtu=>
   if tu=true then
    some c8
   else
    some vF
  ).bind λsq=>
  (Bw M D sq).bind λtH=>
  (C9 b F D tH (Df M n) M 0 f11 []).bind λ(f24,l25)=>
  (Bj 6 sq l25).bind λsv=>
  some (sv,f24)) (GE 1 6 p):=by
  intro c fs vK hc yR uD re uI;rw[vK];refine AU (show Sh.get [(c:Int),((c+1:Nat):Int)] 0=some (c:Int) from rfl) ?_;refine Ag.bind (R:=λq=>(q.1=(c:Int)∨q.1=((c+1:Nat):Int))/\q.2=p+1) ?_ ?_
  ·rw[ld (by simp[AM])];refine Ag.bind (R:=λq:Bool×Int=>q.2=p+1) (Ag.bind (Cb Bb ⟨by omega,by omega⟩) λq hq=>Ag.some hq.pos) ?_;rintro⟨t41,f42⟩ hf;dsimp only at hf⊢;refine Cn (λ_=>?_) λ_=>Ag.some ⟨.inl rfl,hf⟩;exact AU (show Sh.get [(c:Int),((c+1:Nat):Int)] 1=some ((c+1:Nat):Int) from rfl) (Ag.some ⟨.inr rfl,hf⟩)
  ·rintro⟨vF,f11⟩ ⟨hc10,hf⟩;dsimp only at hc10 hf⊢;refine Ag.bind (R:=λsq=>sq=(c:Int)) ?_ ?_
   ·rcases hc10 with rfl|rfl
    ·refine AU yR (AU (hZ (by simp) hM) ?_);exact Cn (λ_=>Ag.some rfl) λ_=>Ag.some rfl
    ·refine AU uD (AU (hZ (by omega) hM) ?_);rw[ld (by simpa using re)];exact Ag.some rfl
   ·rintro sq rfl;refine AU yR ?_;obtain⟨M',rfl⟩ :∃m,M=m+1:=⟨M-1,by omega⟩
    rw[C9,la (by simp[AM])];refine AU rfl (AU rfl (Ag.some ⟨?_,Fv ⟨by omega,by omega⟩ ⟨by omega,by omega⟩,?_,?_⟩))
    ·rw[Gu];simp[CM]
    ·show p<=f11;omega
    ·show f11<=_;omega
 rcases ht with rfl|rfl|rfl
 ·have e:Bu D 0=[]:=by unfold Bu;rw[la (by omega)]
  rw[e,la (by simp[AM])];refine Ag.bind (Nr C hM) λl _=>?_;refine AU (show _=some false from la (by simp)) ?_;simp only[lY,mC];refine Ag.bind (O2 Bb h0 (by omega)) λq hq=>AU rfl (Ag.some ⟨?_,Fv ⟨by omega,by omega⟩ ⟨by omega,by omega⟩,?_,?_⟩)
  ·rw[Gu];simp[CM]
  ·show p<=q.2;omega
  ·show q.2<=_;omega
 ·obtain⟨t0,k0⟩:=C.f0;obtain⟨t1,k1⟩:=C.f1;rw[ld (by rw[C.c1];simp[AM])];exact data 0 [0,1] C.c1 (by omega) (C.VH k0 hM) (C.VH k1 hM) (by simp) (by simp)
 ·obtain⟨t0,k0⟩:=C.f2;obtain⟨t1,k1⟩:=C.f3;rw[ld (by rw[C.c3];simp[AM])];exact data 2 [3,0,3] C.c3 (by omega) (C.VH k0 hM) (C.VH k1 hM) (by simp) (by simp)
end
end RC
namespace RC
open Go
section
variable {D : List AN} {F : List Ac}
theorem Xi (C:CX D F){b:List Int}(Bb:Bk b){M:Nat}(hM:2000000<=M)(t:Int)(n:Nat){p:Int}(h0:0<=p)(h1:p<=600000):Ag (Df M (n+2) b p F D t) (GE 4 20 p):=by
 have rz:∀t,(t=0∨t=1∨t=3)->cU b D F (Df M (n+1)) t 1 6:=λt ht=>iI C Bb hM ht n;rw[Df];unfold IJ;refine AU (C.U2 hM) ?_;have hc3:=C.U3 t;refine BD (λrQ=>?_) λ_=>?_
 ·rw[AM]at rQ;refine Ag.get (by omega) (by omega) λc8 _ hc8=>?_;refine Ag.bind (R:=λq=>q.1∈Bu D t/\p<=q.2/\q.2<=p+1) ?_ ?_
  ·refine Ag.bind (R:=λq:Bool×Int=>(q.1=true->1<(Bu D t).length)/\p<=q.2/\q.2<=p+1) ?_ ?_
   ·refine BD (λh2=>?_) λ_=>Ag.some ⟨(λh=>by cases h),by show p<=p;omega,by show p<=_;omega⟩;rw[AM]at h2;exact Ag.bind (Cb Bb ⟨by omega,by omega⟩) λq hq=>Ag.some ⟨λ_=>by omega,by have:=hq.pos;show p<=q.2;omega,by have:=hq.pos;show q.2<=_;omega⟩
   ·rintro⟨t41,f42⟩ ⟨g1,g2,g3⟩;dsimp only at g1 g2 g3⊢;refine Cn (λh=>?_) λ_=>Ag.some ⟨hc8,g2,g3⟩;refine Ag.get (by omega) (by have:=g1 h;omega) λc45 _ hc45=>Ag.some ⟨hc45,g2,g3⟩
  ·rintro⟨vF,f11⟩ ⟨hc10,g2,g3⟩;dsimp only at hc10 g2 g3⊢;refine Ag.bind (R:=λsq=>sq∈Bu D t) ?_ ?_
   ·obtain⟨c,rfl,hc⟩:=QW _ hc10;obtain⟨fl,e1,e2,_⟩:=C.fields hc hM;refine AU e1 (AU (hZ (by omega) hM) ?_);exact Cn (λ_=>Ag.some hc8) λ_=>Ag.some hc10
   ·intro sq hc14;obtain⟨c,rfl,hc⟩:=QW _ hc14;obtain⟨fl,e1,e2,e3⟩:=C.fields hc hM;have hn:=C.ju;refine AU e1 ?_;have:=Xm (D:=D) (F:=F) (b:=b) (rec:=Df M (n+1)) e2 (k:=1) (P:=6) (by omega) (λt ht=>rz t (e3 t ht)) (N:=M) (mB _) (by omega) f11 [] (by omega) (by omega) rfl (by simp) (by simp[CM]);refine Ag.bind this ?_;rintro⟨f24,l25⟩ ⟨a1,a2,a3,a4,a5⟩;dsimp only at a1 a2 a3 a4 a5⊢;refine AU rfl (Ag.some ⟨by rw[Gu];omega,Jq (Dm (by omega) (by omega)) (Dm (by omega) (by omega)) a4 (by omega),by show p<=f24;omega,by show f24<=_;omega⟩)
 ·refine Ag.bind (Nr C hM) λl hl=>?_;have hF:=C.fl;refine Ag.bind (R:=λt52=>t52=true->0<t/\0<l.length) ?_ λt52 ht52=>?_
  ·refine BD (λh=>Ag.some λh2=>⟨h,by rw[lq,AM]at h2;omega⟩) λ_=>Ag.some λh=>by cases h
  ·refine Cn (λh=>?_) λ_=>?_
   ·obtain⟨wN,xY⟩:=ht52 h;rw[AM];refine Ag.bind (Cb Bb ⟨by omega,by omega⟩) λq hq=>?_;have q1:=hq.pos;have q2:=hq.nn;have q3:=hq.lt (by omega);refine Ag.get q2 q3 λwH _ hc57=>?_;obtain⟨f,g,y,rfl,hg,hy,hgp,ha⟩:=hl.2 wH hc57;have vN:=lT hg;have uI:=(lV.1 hg).1;have hp3:=C.par g vN;refine AU (BG hg) ?_;have htys:∀x∈g.params,x=0∨x=1∨x=3:=by
     rcases C.cl g vN with h2|⟨h2,h3⟩
     ·exact h2
     ·exfalso;rw[h2]at hy;have:y=1:=by simpa using hy.symm
      rw[this,h3,C.arr]at ha;omega
    obtain⟨m,hm⟩ :∃m,g.params.length=m+1:=⟨g.params.length-1,by omega⟩
    have:=XJ (D:=D) (F:=F) (b:=b) (rec:=Df M (n+1)) hm (by omega) (k:=1) (P:=6) (by omega) (λt ht=>rz t (htys t ht)) (N:=M) (mB _) (by omega) q.2 [] (by omega) (by omega) rfl (by simp) (by simp[CM]);refine Ag.bind this ?_;rintro⟨f66,l67⟩ ⟨a1,a2,a3,a4,a5⟩;dsimp only at a1 a2 a3 a4 a5⊢;refine AU rfl (Ag.some ⟨by rw[Gu];omega,Jq (Dm (by omega) (by omega)) (Dm (by omega) (by omega)) a4 (by omega),by show p<=f66;omega,by show f66<=_;omega⟩)
   ·refine Ag.bind (O2 Bb h0 (by omega)) λq hq=>AU rfl (Ag.some ⟨?_,Fv ⟨by omega,by omega⟩ ⟨by omega,by omega⟩,?_,?_⟩)
    ·rw[Gu];simp[CM]
    ·show p<=q.2;omega
    ·show q.2<=_;omega
theorem ML (C:CX D F){b:List Int}(Bb:Bk b){M:Nat}(hM:2000000<=M){vars:List Int}(hv:vars.length<=1000)(t:Int){p:Int}(h0:0<=p)(h1:p<=500000):Ag (Hn M b p F D vars t) (GE 4 22 p):=by
 unfold Hn;refine Ag.bind (Uh hv hM) λl hl=>?_;refine Ag.bind (R:=λq:Bool×Int=>(q.1=true->0<l.length)/\p<=q.2/\q.2<=p+1) ?_ ?_
 ·refine BD (λh=>?_) λ_=>Ag.some ⟨(λh=>by cases h),by show p<=p;omega,by show p<=_;omega⟩;rw[AM]at h;refine Ag.bind (Cb Bb ⟨by omega,by omega⟩) λq hq=>?_;have q1:=hq.pos;refine BD (λ_=>Ag.some ⟨λ_=>by omega,by show p<=q.2;omega,by show q.2<=_;omega⟩) λ_=>?_;exact Ag.bind (MA C (by simp) hM) λ_ _=>Ag.some ⟨λ_=>by omega,by show p<=q.2;omega,by show q.2<=_;omega⟩
 ·rintro⟨t6,f7⟩ ⟨g1,g2,g3⟩;dsimp only at g1 g2 g3⊢;refine Cn (λh=>?_) λ_=>?_
  ·have xY:=g1 h;rw[AM];refine Ag.bind (Cb Bb ⟨by omega,by omega⟩) λq hq=>?_;have q1:=hq.pos;have q2:=hq.nn;have q3:=hq.lt (by omega);refine Ag.get q2 q3 λc _ hc=>?_;have:=hl.2 c hc;refine AU rfl (Ag.some ⟨by rw[Gu];simp[CM],Fv ⟨by omega,by omega⟩ ⟨by omega,by omega⟩,by show p<=q.2;omega,by show q.2<=_;omega⟩)
  ·unfold Mf;obtain⟨m,rfl⟩ :∃m,M=m+2:=⟨M-2,by omega⟩
   refine Ag.bind (Xi C Bb hM t m (p:=f7) (by omega) (by omega)) λq hq=>Ag.some ⟨hq.size,hq.CZ,by have:=hq.lo;show p<=q.2;omega,by have:=hq.hi;show q.2<=_;omega⟩
theorem YK (C:CX D F){b:List Int}(Bb:Bk b){M:Nat}(hM:2000000<=M){vars:List Int}(hv:vars.length<=1000){p:Int}(h0:0<=p)(h1:p<=500000):Ag (Jv M b p F D vars) λq=>q.2=p+1:=by
 unfold Jv;refine Ag.bind (Gk Bb ⟨by omega,by omega⟩ (by simp) (by simp)) λq hq=>?_;refine Ag.bind (R:=λ_=>True) ?_ λt6 _=>Cn (λ_=>Ag.some hq.pos) λ_=>Ag.some hq.pos;refine BD (λ_=>Ag.some lU) λ_=>?_;exact Ag.bind (MA C hv hM) λ_ _=>Ag.some lU
theorem XG (C:CX D F){t:Int}{M:Nat}(hM:2000000<=M):Ag (JM M ⟨D,F⟩ t) λl=>l.length<=4/\∀x∈l,0<=x/\x<(F.length:Int):=by
 have hf:=C.fl;have uD:=C.gP;have L2:∀(g:Ac),g.params.length<=3->∀{N i:Nat},i<=g.params.length->g.params.length-i<N->∀ok:Bool,Ag (Ed M g ⟨D,F⟩ N ok i) λ_=>True:=by
  intro g hg N i hi hN;refine Bh g.params.length (λN i=>∀ok:Bool,Ag (Ed M g ⟨D,F⟩ N ok i) λ_=>True) ?_ ?_ hi hN
  ·intro n ok;rw[Ed,la (by simp[AM])];exact Ag.some lU
  ·intro n i hi ih ok;obtain⟨y,hy,_⟩:=Bz hi;rw[Ed,ld (by rw[lq,AM];omega),BJ (by omega) (by omega),show ((i:Int)+1)=((i+1:Nat):Int) by omega];refine Ag.bind (R:=λ_=>True) ?_ λok _=>ih ok;refine Cn (λ_=>?_) λ_=>Ag.some lU;refine AU (BG hy) (Ag.bind (MA C (by simp) hM) λ_ _=>Ag.some lU)
 have key:∀{N i:Nat},i<=F.length->F.length-i<N->∀acc:List Int,acc.length<=i->(∀x∈acc,0<=x/\x<(F.length:Int))->Ag (Ej M ⟨D,F⟩ t N i acc) λl=>l.length<=F.length/\∀x∈l,0<=x/\x<(F.length:Int):=by
  intro N i hi hN;refine Bh F.length (λN i=>∀acc:List Int,acc.length<=i->(∀x∈acc,0<=x/\x<(F.length:Int))->Ag (Ej M ⟨D,F⟩ t N i acc) λl=>l.length<=F.length/\∀x∈l,0<=x/\x<(F.length:Int)) ?_ ?_ hi hN
  ·intro n acc h1 h2;rw[Ej,la (by simp[AM])];exact Ag.some ⟨h1,h2⟩
  ·intro n i hi ih acc h1 h2;obtain⟨g,hg,vN⟩:=Bz hi;have hp:=C.par g vN;rw[Ej,ld (by rw[lq,AM];show (i:Int)<(F.length:Int);omega),BJ (by omega) (by omega),show ((i:Int)+1)=((i+1:Nat):Int) by omega];refine Ag.bind (R:=λl=>l.length<=i+1/\∀x∈l,0<=x/\x<(F.length:Int)) ?_ λl hl=>ih l hl.1 hl.2;refine AU (BG hg) ?_;have:=L2 g hp (N:=M) (mB _) (by omega) (decide (g.result=t));refine Ag.bind this λok _=>?_;refine Cn (λ_=>?_) λ_=>Ag.some ⟨by omega,h2⟩;refine Ag.app (by simp;omega) (by simp;omega) (Ag.some ⟨by simp;omega,λx hx=>?_⟩);rcases lz.1 hx with h3|h3
   ·exact h2 x h3
   ·rw[lu]at h3;omega
 unfold JM;have:=key (i:=1) uD (by omega:F.length-1<M) [] (by simp) (by simp);rw[show ((1:Nat):Int)=1 from rfl]at this;exact Ag.bind this λl hl=>Ag.some ⟨by omega,hl.2⟩
def Ga (d:Nat):Nat:=if d=0 then 4 else 9*d-5
def Ea (d:Nat):Nat:=if d=0 then 35 else 80*d-45
theorem MO {r d n:Nat}(h1:1<=r)(h3:r<=3)(hn:3<=n)(hd:d*r<=n-1):5+r*Ga d<=Ga n/\40+r*Ea d<=Ea n:=by
 have vT:¬ n=0:=by omega
 unfold Ga Ea;rw[la vT,la vT];obtain rfl|rfl|rfl:r=1∨r=2∨r=3:=by omega
 all_goals
  by_cases h:d=0
  ·rw[ld h,ld h];omega
  ·rw[la h,la h];omega
theorem Sq (d:Nat):4<=Ga d:=by unfold Ga;split<;>omega
theorem SE (d:Nat):35<=Ea d:=by unfold Ea;split<;>omega
theorem gr {d:Nat}(h:d<=20):Ea d<=1600:=by unfold Ea;split<;>omega
abbrev X6:=List Int->Int->List Ac->List AN->List Int->Int->Int->Option (AE×Int)
def RG (b:List Int)(D:List AN)(F:List Ac)(rec:X6)(n:Nat):Prop:=
 ∀(d:Nat) (vars:List Int) (t p:Int),d<n->d<=20->vars.length+3*d<=400->0<=p->p+(Ea d:Int)<=400000->Ag (rec b p F D vars t (d:Int)) (GE (Ga d) (Ea d) p)
structure GL (m k P:Nat) (p:Int) (q:List AE×Int):Prop where
 len:q.1.length=m
 size:CM q.1<=k
 CZ :∀e∈q.1,An e
 lo:p<=q.2
 hi:q.2<=p+P
theorem eP (a b:Nat):Int.tdiv (a:Int) (b:Int)=((a / b:Nat):Int):=rfl
theorem Z6 {a b:Nat}(hb:b≠0)(ha:a<=1000000):Sh.quo (a:Int) (b:Int)=some ((a / b:Nat):Int):=by
 have h:=oV a b;rw[dF (by omega),eP];generalize a / b=c at h⊢;rw[BJ (by omega) (by omega)]
theorem UE {b:List Int}{rec:X6}{n:Nat}(R:RG b D F rec n){vars types:List Int}(ht:types.length<=3){bud:Nat}(hb:bud<=20){d:Nat}(hd:types.length≠0->bud / types.length=d)(xb:d<n)(hd20:d<=20)(hv:vars.length+3*d<=400){M:Nat}(hM:2000000<=M){p:Int}(h0:0<=p)(h1:p+(types.length*Ea d:Nat)<=400000):
  Ag (Fy M rec b p F D vars types (bud:Int)) (GL types.length (types.length*Ga d) (types.length*Ea d) p):=by
 have key:∀{N i:Nat},i<=types.length->types.length-i<N->∀(q:Int) (acc:List AE),p<=q->q<=p+(i*Ea d:Nat)->acc.length=i->(∀e∈acc,An e)->CM acc<=i*Ga d->
   Ag (FZ b F D vars types (bud:Int) rec N i q acc) λr=>p<=r.1/\r.1<=p+(types.length*Ea d:Nat)/\r.2.length=types.length/\(∀e∈r.2,An e)/\CM r.2<=types.length*Ga d:=by
  intro N i hi hN;refine Bh types.length (λN i=>∀(q:Int) (acc:List AE),p<=q->q<=p+(i*Ea d:Nat)->acc.length=i->(∀e∈acc,An e)->CM acc<=i*Ga d->
   Ag (FZ b F D vars types (bud:Int) rec N i q acc) λr=>p<=r.1/\r.1<=p+(types.length*Ea d:Nat)/\r.2.length=types.length/\(∀e∈r.2,An e)/\CM r.2<=types.length*Ga d) ?_ ?_ hi hN
  ·intro n q acc g1 g2 g3 g4 g5;rw[FZ,la (by simp[AM])];exact Ag.some ⟨g1,g2,g3,g4,g5⟩
  ·intro n i hi ih q acc g1 g2 g3 g4 g5;obtain⟨t,wx,_⟩:=Bz hi;have e2:(i+1)*Ea d=i*Ea d+Ea d:=by rw[mM];omega
   have e3:(i+1)*Ga d=i*Ga d+Ga d:=by rw[mM];omega
   have e4:(i+1)*Ea d<=types.length*Ea d:=mP _ hi;rw[FZ,ld (by rw[lq,AM];omega),BJ (n:=(i:Int)+1) (by omega) (by omega),show ((i:Int)+1)=((i+1:Nat):Int) by omega];refine AU (BG wx) ?_;rw[AM];refine AU (Z6 (by omega) (by omega)) ?_;rw[hd (by omega)];refine Ag.bind (R d vars t q xb hd20 hv (by omega) (by omega)) λr hr=>?_;have r1:=hr.lo;have r2:=hr.hi;have r3:=hr.size;refine Ag.app (by simp;omega) (by simp;omega) ?_;refine ih r.2 (acc++[r.1]) (by omega) (by omega) (by simp;omega) (λe he=>?_) (by rw[Ix,Hf];omega);rcases lz.1 he with h5|h5
   ·exact g4 e h5
   ·rw[lu]at h5;rw[h5];exact hr.CZ
 unfold Fy;have:=key (mB _) (by omega:types.length-0<M) p [] (by omega) (by omega) rfl (by simp) (by simp[CM]);rw[qU]at this;refine Ag.bind this ?_;rintro⟨f,l⟩ ⟨a1,a2,a3,a4,a5⟩;exact Ag.some ⟨a3,a5,a4,a1,a2⟩
theorem YF {r d n P:Nat}{p q0 o m:Int}{l:List AE}{q:Int}(ho:-1000000<=o/\o<=1000000)(hm:-1000000<=m/\m<=1000000)(h3:r<=3)(hn:3<=n)(hd:d*r<=n-1)(hq:p<=q0/\q0<=p+P)(hP:P<=40)(g:GL r (r*Ga d) (r*Ea d) q0 (l,q)):GE (Ga n) (Ea n) p (⟨o,m,l⟩,q):=by
 have s1:=g.size;have s2:=g.lo;have s3:=g.hi;have s4:=g.len;dsimp only at s1 s2 s3 s4;have hn1:=Sq n;have wT:=SE n;refine⟨?_,Jq (Dm ho.1 ho.2) (Dm hm.1 hm.2) g.CZ (by omega),by show p<=q;omega,?_⟩
 ·rw[Gu];rcases nr r with rfl|hr
  ·omega
  ·have:=(MO (d:=d) hr h3 hn hd).1;omega
 ·show q<=_;rcases nr r with rfl|hr
  ·have:40<=Ea n:=by unfold Ea;rw[la (by omega)];omega
   omega
  ·have:=(MO (d:=d) hr h3 hn hd).2;omega
end
end RC
namespace RC
open Go
section
variable {D : List AN} {F : List Ac}
theorem TP (C:CX D F){b:List Int}{rec:X6}{n:Nat}(R:RG b D F rec n){vars:List Int}(wh:3<=n)(hn:n<=20)(hv:vars.length+3*n<=400){t d0:Int}{r d:Nat}(hr:(Bu D d0).length=r)(hd:r≠0->(n-2) / r=d)(xb:d+1<=n){M:Nat}(hM:2000000<=M){p:Int}(h0:0<=p)(h1:p+(r*Ea d:Nat)<=400000){k0:Nat}{e0:AE}(zD:en e0<=k0)(xD:An e0):
  Ag (EA M b F D vars t (n:Int) (Bu D d0) rec M 0 p [e0]) λq=>p<=q.1/\q.1<=p+(r*Ea d:Nat)/\q.2.length=r+1/\(∀e∈q.2,An e)/\CM q.2<=k0+r*Ga d:=by
 have hr3:=C.U3 d0;have key:∀{N i:Nat},i<=(Bu D d0).length->(Bu D d0).length-i<N->∀(q:Int) (acc:List AE),p<=q->q<=p+(i*Ea d:Nat)->acc.length=i+1->(∀e∈acc,An e)->CM acc<=k0+i*Ga d->
   Ag (EA M b F D vars t (n:Int) (Bu D d0) rec N i q acc) λq=>p<=q.1/\q.1<=p+(r*Ea d:Nat)/\q.2.length=r+1/\(∀e∈q.2,An e)/\CM q.2<=k0+r*Ga d:=by
  intro N i hi hN;refine Bh (Bu D d0).length (λN i=>∀(q:Int) (acc:List AE),p<=q->q<=p+(i*Ea d:Nat)->acc.length=i+1->(∀e∈acc,An e)->CM acc<=k0+i*Ga d->
   Ag (EA M b F D vars t (n:Int) (Bu D d0) rec N i q acc) λq=>p<=q.1/\q.1<=p+(r*Ea d:Nat)/\q.2.length=r+1/\(∀e∈q.2,An e)/\CM q.2<=k0+r*Ga d) ?_ ?_ hi hN
  ·intro m q acc g1 g2 g3 g4 g5;rw[EA,la (by simp[AM])];subst hr;exact Ag.some ⟨g1,g2,g3,g4,g5⟩
  ·intro m i hi ih q acc g1 g2 g3 g4 g5;obtain⟨c,hc,sL⟩:=Bz hi;obtain⟨cn,rfl,hcn⟩:=QW _ sL;obtain⟨fl,e1,e2',_⟩:=C.fields hcn hM;have e2:(i+1)*Ea d=i*Ea d+Ea d:=by rw[mM];omega
   have e3:(i+1)*Ga d=i*Ga d+Ga d:=by rw[mM];omega
   have e4:(i+1)*Ea d<=r*Ea d:=mP _ (by omega);rw[EA,ld (by rw[lq,AM];omega),BJ (n:=(i:Int)+1) (by omega) (by omega),show ((i:Int)+1)=((i+1:Nat):Int) by omega];refine AU (BG hc) (AU e1 (AU (JT (by omega) (by omega)) ?_));rw[AM,BJ (n:=(n:Int)-2) (by omega) (by omega),show ((n:Int)-2)=((n-2:Nat):Int) by omega];refine AU (Z6 (by omega) (by omega)) ?_;rw[hr,hd (by omega)];refine Ag.bind (R d (vars++fl) t q (by omega) (by omega) (by rw[mD];omega) (by omega) (by omega)) λs hs=>?_;have r1:=hs.lo;have r2:=hs.hi;have r3:=hs.size;refine Ag.app (by simp;omega) (by simp;omega) ?_;refine ih s.2 (acc++[s.1]) (by omega) (by omega) (by simp;omega) (λe he=>?_) (by rw[Ix,Hf];omega);rcases lz.1 he with h5|h5
   ·exact g4 e h5
   ·rw[lu]at h5;rw[h5];exact hs.CZ
 have:=key (mB _) (by omega:(Bu D d0).length-0<M) p [e0] (by omega) (by omega) rfl (λe he=>by rw[lu]at he;rw[he];exact xD) (by rw[Hf];omega);rw[qU]at this;exact this
theorem Ok (a r:Nat):a / r*r<=a:=Nat.div_mul_le_self a r
theorem W0 (C:CX D F){b:List Int}(Bb:Bk b){rec:X6}{n:Nat}(R:RG b D F rec n){vars:List Int}(wh:3<=n)(hn:n<=20)(hv:vars.length+3*n<=400){t:Int}{M:Nat}(hM:2000000<=M){p0 p:Int}(h0:0<=p0)(hp:p0<=p/\p<=p0+1)(h1:p0+(Ea n:Int)<=400000):
  Ag (JO M rec b p F D vars t (n:Int)) (GE (Ga n) (Ea n) p0):=by
 have xf:=SE n;unfold JO;refine Ag.bind (Gk Bb ⟨by omega,by omega⟩ (by simp) (by simp)) λq hq=>?_;have q1:=hq.pos;have q2:=hq.mem;simp only[lk,mK,mr]at q2;refine Ag.bind (R:=λd=>0<=d/\d<=4) ?_ λd0 hd0=>?_
 ·refine Ag.bind (R:=λ_=>True) ?_ λt32 _=>Cn (λ_=>Ag.some (by decide)) λ_=>Ag.some (by omega);refine BD (λ_=>Ag.some lU) λ_=>?_;exact AU (Ji C.bT) (Ag.some lU)
 refine AU (C.U2 hM) ?_;refine Ag.bind (ML C Bb hM (by omega) d0 (p:=q.2) (by omega) (by omega)) λlf rf=>?_;have l1:=rf.lo;have l2:=rf.hi;have l3:=rf.size;obtain⟨r,hr⟩ :∃r,(Bu D d0).length=r:=⟨_,rfl⟩
 have hr3:=C.U3 d0;obtain⟨d,hd⟩ :∃d,d=(n-2) / r:=⟨_,rfl⟩
 have hdr:d*r<=n-2:=by rw[hd];exact Ok _ _
 have xb:d<=n-2:=by rw[hd];exact oV _ _
 have hn1:=Sq n;have fit:5+r*Ga d<=Ga n/\35+r*Ea d<=Ea n:=by
  rcases nr r with h|h
  ·rw[h];constructor
   ·have:5<=Ga n:=by unfold Ga;rw[la (by omega)];omega
    omega
   ·omega
  ·have:=MO (d:=d) h (by omega) wh (by omega);omega
 have:=TP (t:=t) C R wh hn hv (r:=r) (d:=d) hr (λ_=>hd.symm) (by omega) hM (p:=lf.2) (by omega) (by omega) (k0:=4) l3 rf.CZ;refine Ag.bind this ?_;rintro⟨f16,l17⟩ ⟨a1,a2,a3,a4,a5⟩;dsimp only at a1 a2 a3 a4 a5⊢;exact AU rfl (Ag.some ⟨by rw[Gu];omega,Jq (Dm (by omega) (by omega)) (Dm (by omega) (by omega)) a4 (by omega),by show p0<=f16;omega,by show f16<=_;omega⟩)
theorem XD (C:CX D F){b:List Int}(Bb:Bk b){rec:X6}{n:Nat}(R:RG b D F rec n){vars:List Int}(wh:3<=n)(hn:n<=20)(hv:vars.length+3*n<=400){t:Int}{M:Nat}(hM:2000000<=M){p0 p:Int}(h0:0<=p0)(hp:p0<=p/\p<=p0+1)(h1:p0+(Ea n:Int)<=400000):
  Ag (JJ M rec b p F D vars t (n:Int)) (GE (Ga n) (Ea n) p0):=by
 have xf:=SE n;have hn1:=Sq n;have hdl:=C.dl;have fit1:5+Ga (n-2)<=Ga n/\40+Ea (n-2)<=Ea n:=by
  have:=MO (r:=1) (d:=n-2) (n:=n) (by omega) (by omega) wh (by omega);omega
 unfold JJ;refine Ag.cont (R:=GE (Ga n) (Ea n) p0) (S:=λf=>p0<=f/\f<=p0+2) ?_ (λr hr=>hr) λf3 hf3=>?_
 ·refine Ag.bind (Cb Bb ⟨by omega,by omega⟩) λsO hq=>?_;have q1:=hq.pos;refine BD (λ_=>?_) λ_=>Ag.some (by show p0<=sO.2/\sO.2<=_;omega);have L1:∀{N i:Nat},i<=5->5-i<N->1<=i->Ag (Eo M b F D vars t (n:Int) sO rec N i) λv=>match v with|.inl r=>GE (Ga n) (Ea n) p0 r|.inr _=>True:=by
   intro N i hi hN;refine Bh 5 (λN i=>1<=i->Ag (Eo M b F D vars t (n:Int) sO rec N i) λv=>match v with|.inl r=>GE (Ga n) (Ea n) p0 r|.inr _=>True) ?_ ?_ hi hN
   ·intro m _;rw[Eo,la (by rw[lq,AM];omega)];exact Ag.some lU
   ·intro m i hi ih h1i;rw[Eo];refine BD (λhle=>?_) λ_=>Ag.some lU;rw[AM]at hle;obtain⟨dd,hdd,_⟩:=Bz (l:=D) (i:=i-1) (by omega);rw[BJ (n:=(i:Int)-1) (by omega) (by omega),show ((i:Int)-1)=((i-1:Nat):Int) by omega,BJ (n:=(i:Int)+1) (by omega) (by omega),show ((i:Int)+1)=((i+1:Nat):Int) by omega,BJ (n:=(n:Int)-2) (by omega) (by omega),show ((n:Int)-2)=((n-2:Nat):Int) by omega];refine Ag.bind (R:=λ_=>True) ?_ λt45 _=>Cn (λ_=>?_) λ_=>ih (by omega)
    ·refine AU (Ji C.bT) (Cn (λ_=>?_) λ_=>Ag.some lU);refine AU (BG hdd) (BD (λ_=>?_) λ_=>Ag.some lU);exact Ag.bind (MA C (by omega) hM) λ_ _=>Ag.some lU
    ·refine Ag.bind (ML C Bb hM (by omega) i (p:=sO.2) (by omega) (by omega)) λlf rf=>?_;have l1:=rf.lo;have l2:=rf.hi;have l3:=rf.size;refine AU (BG hdd) ?_;refine Ag.bind (R (n-2) vars dd.from_ lf.2 (by omega) (by omega) (by omega) (by omega) (by omega)) λs hs=>?_;have r1:=hs.lo;have r2:=hs.hi;have r3:=hs.size;refine AU rfl (Ag.some (show GE (Ga n) (Ea n) p0 _ from ⟨?_,Jq (Dm (by omega) (by omega)) (Dm (by omega) (by omega)) (λe he=>?_) (by simp),by show p0<=s.2;omega,by show s.2<=_;omega⟩))
     ·rw[Gu];simp only[CM];omega
     ·simp only[lk,mK,mr]at he;rcases he with rfl|rfl
      ·exact rf.CZ
      ·exact hs.CZ
  have l1:=L1 (N:=M) (i:=1) (by omega) (by omega) (by omega);rw[show ((1:Nat):Int)=1 from rfl]at l1;refine Ag.cont (R:=GE (Ga n) (Ea n) p0) (S:=λ_=>True) ?_ (λr hr=>hr) λ_ _=>Ag.some (by show p0<=sO.2/\sO.2<=_;omega);exact l1.mono λv hv=>by cases v<;>exact hv
 ·refine AU (C.U2 hM) ?_;have hc3:=C.U3 t;have ga:∀(types:List Int) (q:Int) (o m:Int),types.length<=3->p0<=q->q<=p0+10->-1000000<=o/\o<=1000000->-1000000<=m/\m<=1000000->
    Ag ((Fy M rec b q F D vars types (Sh.w ((n:Int)-1))).bind λrr=>(Bj o m rr.1).bind λsc=>some (sc,rr.2)) (GE (Ga n) (Ea n) p0):=by
   intro types q o m ht g1 g2 ho hm;rw[BJ (n:=(n:Int)-1) (by omega) (by omega),show ((n:Int)-1)=((n-1:Nat):Int) by omega];obtain⟨d,hd⟩ :∃d,d=(n-1) / types.length:=⟨_,rfl⟩
   have hdr:d*types.length<=n-1:=by rw[hd];exact Ok _ _
   have xb:d<=n-1:=by rw[hd];exact oV _ _
   have sD:0<types.length->40+types.length*Ea d<=Ea n:=λh=>(MO (d:=d) h ht wh hdr).2;have hle:(types.length*Ea d:Nat)<=Ea n:=by
    rcases nr types.length with h|h
    ·rw[h];omega
    ·have:=sD h;omega
   have hle2:q+(types.length*Ea d:Nat)<=400000:=by
    rcases nr types.length with h|h
    ·rw[h];omega
    ·have:=sD h;omega
   refine Ag.bind (UE R ht (bud:=n-1) (by omega) (d:=d) (λ_=>hd.symm) (by omega) (by omega) (by omega) hM (p:=q) (by omega) hle2) ?_;rintro⟨l,q'⟩ g;exact AU rfl (Ag.some (YF (P:=10) ho hm ht wh hdr ⟨g1,g2⟩ (by omega) g))
  refine BD (λrQ=>?_) λ_=>?_
  ·rw[AM]at rQ⊢;refine Ag.bind (Cb Bb ⟨by omega,by omega⟩) λq hq=>?_;have q1:=hq.pos;have q2:=hq.nn;have q3:=hq.lt (by omega);refine Ag.get q2 q3 λta _ hc12=>?_;obtain⟨c,rfl,hc⟩:=QW _ hc12;obtain⟨fl,e1,e2,_⟩:=C.fields hc hM;have hnc:=C.ju;exact AU e1 (ga fl q.2 6 c e2 (by omega) (by omega) (by omega) (by omega))
  ·refine BD (λ_=>?_) λ_=>?_
   ·refine Ag.bind (ML C Bb hM (by omega) t (p:=f3) (by omega) (by omega)) λlf rf=>Ag.some ⟨by have:=rf.size;show en lf.1<=_;omega,rf.CZ,by have:=rf.lo;show p0<=lf.2;omega,by have:=rf.hi;show lf.2<=_;omega⟩
   ·refine Ag.bind (Cb Bb ⟨by omega,by omega⟩) λq hq=>?_;have q1:=hq.pos;refine BD (λ_=>ga [0] q.2 5 0 (by simp) (by omega) (by omega) (by omega) (by omega)) λ_=>?_;refine Ag.bind (Gk Bb ⟨by omega,by omega⟩ (by simp) (by simp)) λvE hq30=>?_;have o1:=hq30.pos;have o2:=hq30.mem;simp only[lk,mK,mr]at o2;exact ga [0,0] vE.2 vE.1 0 (by simp) (by omega) (by omega) (by omega) (by omega)
theorem bf (C:CX D F){b:List Int}(Bb:Bk b){rec:X6}{n:Nat}(R:RG b D F rec n){vars:List Int}(hn:n<=20)(hv:vars.length+3*n<=400){t:Int}{M:Nat}(hM:2000000<=M){p:Int}(h0:0<=p)(h1:p+(Ea n:Int)<=400000):
  Ag (Lh M rec b p F D vars t (n:Int)) (GE (Ga n) (Ea n) p):=by
 have xf:=SE n;have hn1:=Sq n;unfold Lh;refine BD (λ_=>?_) λhn3'=>?_
 ·refine Ag.bind (ML C Bb hM (by omega) t (p:=p) (by omega) (by omega)) λlf rf=>Ag.some ⟨by have:=rf.size;show en lf.1<=_;omega,rf.CZ,rf.lo,by have:=rf.hi;show lf.2<=_;omega⟩
 have wh:3<=n:=by omega
 refine Ag.cont (R:=GE (Ga n) (Ea n) p) (S:=λf=>p<=f/\f<=p+1) ?_ (λr hr=>hr) λf8 hf8=>?_
 ·refine Ag.bind (Cb Bb ⟨by omega,by omega⟩) λq hq=>?_;have q1:=hq.pos;refine BD (λ_=>?_) λ_=>?_
  ·refine Ag.bind (ML C Bb hM (by omega) t (p:=q.2) (by omega) (by omega)) λlf rf=>Ag.some (show GE (Ga n) (Ea n) p _ from ⟨by have:=rf.size;show en lf.1<=_;omega,rf.CZ,by have:=rf.lo;show p<=lf.2;omega,by have:=rf.hi;show lf.2<=_;omega⟩)
  refine Ag.bind (R:=λ_=>True) ?_ λt19 _=>Cn (λ_=>?_) λ_=>?_
  ·exact BD (λ_=>Ag.some lU) λ_=>Ag.some lU
  ·have ed:Int.tdiv (n:Int) 2=((n / 2:Nat):Int):=rfl;have fit:2*Ga (n / 2)+1<=Ga n/\2*Ea (n / 2)+2<=Ea n:=by
    have hd0:¬ n / 2=0:=by omega
    have vT:¬ n=0:=by omega
    unfold Ga Ea;rw[la hd0,la vT,la hd0,la vT];omega
   rw[ed];have hd:=oV n 2;have hd2:n / 2+1<=n:=by omega
   generalize n / 2=d at hd hd2 fit⊢;rw[BJ (n:=(d:Int)) (by omega) (by omega)];refine Ag.bind (YK C Bb hM (by omega) (p:=q.2) (by omega) (by omega)) λsY hq23=>?_;refine Ag.bind (R d vars sY.1 sY.2 (by omega) (by omega) (by omega) (by omega) (by omega)) λs hs=>?_;have r1:=hs.lo;have r2:=hs.hi;have r3:=hs.size;refine AU (JT (by omega) (by simp)) ?_;refine Ag.bind (R d (vars++[sY.1]) t s.2 (by omega) (by omega) (by simp;omega) (by omega) (by omega)) λu hu=>?_;have u1:=hu.lo;have u2:=hu.hi;have u3:=hu.size;refine AU rfl (Ag.some (show GE (Ga n) (Ea n) p _ from ⟨?_,Jq (Dm (by omega) (by omega)) (Dm (by omega) (by omega)) (λe he=>?_) (by simp),by show p<=u.2;omega,by show u.2<=_;omega⟩))
   ·rw[Gu];simp only[CM];omega
   ·simp only[lk,mK,mr]at he;rcases he with rfl|rfl
    ·exact hs.CZ
    ·exact hu.CZ
  have ga:∀(types:List Int) (q:Int) (o m:Int),types.length<=3->p<=q->q<=p+10->-1000000<=o/\o<=1000000->-1000000<=m/\m<=1000000->
    Ag ((Fy M rec b q F D vars types (Sh.w ((n:Int)-1))).bind λrr=>(Bj o m rr.1).bind λsc=>some (Sum.inl (sc,rr.2))) λv:(AE×Int) ⊕ Int=>match v with|.inl r=>GE (Ga n) (Ea n) p r|.inr f=>p<=f/\f<=p+1:=by
   intro types q o m ht g1 g2 ho hm;rw[BJ (n:=(n:Int)-1) (by omega) (by omega),show ((n:Int)-1)=((n-1:Nat):Int) by omega];obtain⟨d,hd⟩ :∃d,d=(n-1) / types.length:=⟨_,rfl⟩
   have hdr:d*types.length<=n-1:=by rw[hd];exact Ok _ _
   have xb:d<=n-1:=by rw[hd];exact oV _ _
   have sD:0<types.length->40+types.length*Ea d<=Ea n:=λh=>(MO (d:=d) h ht wh hdr).2;have hle2:q+(types.length*Ea d:Nat)<=400000:=by
    rcases nr types.length with h|h
    ·rw[h];omega
    ·have:=sD h;omega
   refine Ag.bind (UE R ht (bud:=n-1) (by omega) (d:=d) (λ_=>hd.symm) (by omega) (by omega) (by omega) hM (p:=q) (by omega) hle2) ?_;rintro⟨l,q'⟩ g;exact AU rfl (Ag.some (YF (P:=10) ho hm ht wh hdr ⟨g1,g2⟩ (by omega) g))
  refine BD (λ_=>(ga [0,t,t] q.2 7 0 (by simp) (by omega) (by omega) (by omega) (by omega)).mono λv hv=>by cases v<;>exact hv) λ_=>?_;refine Ag.bind (R:=λ_=>True) ?_ λt35 _=>Cn (λ_=>?_) λ_=>?_
  ·exact BD (λ_=>Ag.some lU) λ_=>BD (λ_=>Ag.some lU) λ_=>Ag.some lU
  ·exact Ag.bind (W0 C Bb R wh hn hv hM h0 (p:=q.2) (by omega) h1) λr hr=>Ag.some (show GE (Ga n) (Ea n) p _ from hr)
  refine Ag.bind (R:=λ_=>True) ?_ λt41 _=>Cn (λ_=>?_) λ_=>Ag.some (by show p<=q.2/\q.2<=_;omega)
  ·exact BD (λ_=>Ag.some lU) λ_=>Ag.some lU
  refine Ag.bind (XG C hM) λl hl=>?_;refine BD (λrQ=>?_) λ_=>Ag.some (by show p<=q.2/\q.2<=_;omega);rw[AM]at rQ⊢;refine Ag.bind (Cb Bb ⟨by omega,by omega⟩) λue hq49=>?_;have a1:=hq49.pos;have a2:=hq49.nn;have a3:=hq49.lt (by omega);refine Ag.get a2 a3 λvW _ hc50=>?_;obtain⟨b0,b1⟩:=hl.2 vW hc50;refine Ag.get b0 b1 λg _ hg=>?_;have hF:=C.fl;exact (ga g.params ue.2 9 vW (C.par g hg) (by omega) (by omega) (by omega) (by omega)).mono λv hv=>by cases v<;>exact hv
 ·exact Ag.bind (XD C Bb R wh hn hv hM h0 hf8 h1) λr hr=>Ag.some hr
theorem Wf (C:CX D F){b:List Int}(Bb:Bk b){M:Nat}(hM:2000000<=M):∀n:Nat,RG b D F (JC M n) n
 | 0=>λd _ _ _ hd=>absurd hd (by omega)
 | n+1=>λd vars t p hd h20 hv h0 h1=>by
  rw[JC];have R:RG b D F (JC M n) d:=λd' vars' t' p' hd'=>Wf C Bb hM n d' vars' t' p' (by omega);exact bf C Bb R h20 hv hM h0 h1
theorem JZ (C:CX D F){b:List Int}(Bb:Bk b){M:Nat}(hM:2000000<=M){d:Nat}(hd:d<=20){vars:List Int}(hv:vars.length<=100)(t:Int){p:Int}(h0:0<=p)(h1:p<=300000):Ag (G4 M b p F D vars t (d:Int)) (GE (Ga d) (Ea d) p):=by
 have:=gr hd;exact Wf C Bb hM M d vars t p (by omega) hd (by omega) h0 (by omega)
end
end RC
namespace RC
open Go
section
variable {D : List AN} {F : List Ac}
structure GQ (k P:Nat) (p:Int) (q:Int×Int×Int×List AE):Prop where
 size:en ⟨q.2.1,q.2.2.1,q.2.2.2⟩<=k
 CZ:An ⟨q.2.1,q.2.2.1,q.2.2.2⟩
 lo:p<=q.1
 hi:q.1<=p+P
theorem GE.parts {k P:Nat}{p:Int}{q:AE×Int}(h:GE k P p q):GQ k P p (q.2,q.1.op,q.1.num,q.1.kids):=by
 obtain⟨e,f⟩:=q;cases e;exact⟨h.size,h.CZ,h.lo,h.hi⟩
theorem Vl (o n:Int)(a b:AE):en ⟨o,n,[a,b]⟩=1+en a+en b:=by rw[Gu];simp only[CM];omega
theorem eV (o n:Int)(a b c:AE):en ⟨o,n,[a,b,c]⟩=1+en a+en b+en c:=by rw[Gu];simp only[CM];omega
theorem Kz (o n:Int):en ⟨o,n,[]⟩=1:=by rw[Gu];simp[CM]
theorem VZ {o n:Int}{a b:AE}(ho:-1000000<=o/\o<=1000000)(hn:-1000000<=n/\n<=1000000)(ha:An a)(hb:An b):An ⟨o,n,[a,b]⟩:=
 Jq (Dm ho.1 ho.2) (Dm hn.1 hn.2) (λe he=>by simp only[lk,mK,mr]at he;rcases he with rfl|rfl<;>assumption) (by simp)
theorem eG {o n:Int}{a b c:AE}(ho:-1000000<=o/\o<=1000000)(hn:-1000000<=n/\n<=1000000)(ha:An a)(hb:An b)(hc:An c):An ⟨o,n,[a,b,c]⟩:=
 Jq (Dm ho.1 ho.2) (Dm hn.1 hn.2) (λe he=>by simp only[lk,mK,mr]at he;rcases he with rfl|rfl|rfl<;>assumption) (by simp)
theorem kX {o n:Int}{a:AE}(ho:-1000000<=o/\o<=1000000)(hn:-1000000<=n/\n<=1000000)(ha:An a):An ⟨o,n,[a]⟩:=
 Jq (Dm ho.1 ho.2) (Dm hn.1 hn.2) (λe he=>by rw[lu]at he;rw[he];exact ha) (by simp)
theorem ZG {b:List Int}(Bb:Bk b){M:Nat}(hM:2000000<=M)(t:Int){p:Int}(h0:0<=p)(h1:p<=500000):Ag (Jy M b p t) (GE 20 20 p):=by
 unfold Jy;have li:∀n:Int,0<=n->n<=100->An ⟨0,n,[]⟩:=λn a c=>Fv ⟨by omega,by omega⟩ ⟨by omega,by omega⟩;refine AU rfl ?_;refine BD (λ_=>?_) λ_=>?_
 ·refine AU rfl ?_;refine Ag.bind (Cb Bb ⟨by omega,by omega⟩) λq hq=>?_;have q1:=hq.pos;have q2:=hq.nn;have q3:=hq.lt (by omega);refine AU rfl (AU rfl ?_);refine Ag.bind (Cb Bb ⟨by omega,by omega⟩) λs hs=>?_;have s1:=hs.pos;have s2:=hs.nn;have s3:=hs.lt (by omega);have l6:An ⟨6,2,[]⟩:=Fv ⟨by omega,by omega⟩ ⟨by omega,by omega⟩;refine AU rfl (AU rfl (Ag.some ⟨?_,?_,by show p<=s.2;omega,by show s.2<=_;omega⟩))
  ·rw[eV,eV,Kz,Kz,Kz];omega
  ·exact eG ⟨by omega,by omega⟩ ⟨by omega,by omega⟩ (eG ⟨by omega,by omega⟩ ⟨by omega,by omega⟩ l6 (li _ q2 (by omega)) l6) (li _ s2 (by omega)) l6
 ·refine Ag.bind (Cb Bb ⟨by omega,by omega⟩) λq hq=>?_;have q1:=hq.pos;have q2:=hq.nn;have q3:=hq.lt (by omega);have key:∀(n:Nat) (N:Nat) (f o m:Int) (k:List AE),n<N->n<=3->p<=f->f+4*n<=p+13->An ⟨o,m,k⟩->en ⟨o,m,k⟩+2*n<=7->Ag (Fi b N n f o m k) (GQ 20 20 p):=by
   intro n
   induction n with
   | zero=>
    intro N f o m k hN _ g1 g2 g3 g4;obtain⟨N,rfl⟩ :∃m,N=m+1:=⟨N-1,by omega⟩
    rw[Fi,la (by simp)];exact Ag.some ⟨by show en ⟨o,m,k⟩<=20;omega,g3,g1,by show f<=_;omega⟩
   | succ n ih=>
    intro N f o m k hN hn g1 g2 g3 g4;obtain⟨N,rfl⟩ :∃m,N=m+1:=⟨N-1,by omega⟩
    rw[Fi,ld (by rw[lq];omega)];refine Ag.bind (O2 Bb (by omega) (by omega)) λs hs=>?_;refine AU rfl (AU rfl ?_);rw[BJ (by omega) (by omega),show (((n+1:Nat):Int)-1)=(n:Int) by omega];refine ih N s.2 6 1 _ (by omega) (by omega) (by omega) (by omega) (VZ ⟨by omega,by omega⟩ ⟨by omega,by omega⟩ (Fv ⟨by omega,by omega⟩ ⟨by omega,by omega⟩) g3) ?_;show en ⟨6,1,[⟨0,s.1,[]⟩,⟨o,m,k⟩]⟩+2*n<=7;rw[Vl,Kz];omega
  obtain⟨n,hn⟩:=mS q2;have h3:=key (n+1) M q.2 6 0 [] (by omega) (by omega) (by omega) (by omega) (Fv ⟨by omega,by omega⟩ ⟨by omega,by omega⟩) (by rw[Kz];omega);rw[BJ (by omega) (by omega),hn,show (1+(n:Int))=((n+1:Nat):Int) by omega];refine Ag.bind h3 ?_;rintro⟨f,o,m,k⟩ g;exact Ag.some ⟨g.size,g.CZ,g.lo,g.hi⟩
theorem aE:Ga 4=31:=rfl
theorem av:Ea 4=275:=rfl
theorem kz:Ga 3=22:=rfl
theorem lB:Ea 3=195:=rfl
theorem iy:Ga 16=139:=rfl
theorem kZ:Ea 16=1235:=rfl
theorem XY (C:CX D F){b:List Int}(Bb:Bk b){M:Nat}(hM:2000000<=M){p:Int}(h0:0<=p)(h1:p<=200000):Ag (JQ M b p F D) (GE 1000 3000 p):=by
 unfold JQ;refine Ag.bind (Gk Bb ⟨by omega,by omega⟩ (by simp) (by simp)) λq hq=>?_;have q1:=hq.pos;refine Ag.bind (JZ C Bb hM (d:=16) (by omega) (vars:=[q.1]) (by simp) 0 (p:=q.2) (by omega) (by omega)) λg hg=>?_;have g1:=hg.size;have g2:=hg.lo;have g3:=hg.hi;rw[iy]at g1;rw[kZ]at g3;refine Ag.bind (R:=GQ 141 2000 p) ?_ ?_
 ·refine Ag.bind (Cb Bb ⟨by omega,by omega⟩) λs hs=>?_;have s1:=hs.pos;refine BD (λ_=>AU rfl (Ag.some ?_)) λ_=>Ag.some ?_
  ·refine⟨?_,(kX ⟨by omega,by omega⟩ ⟨by omega,by omega⟩ hg.CZ:An ⟨5,0,[g.1]⟩),by show p<=s.2;omega,by show s.2<=_;omega⟩;show en ⟨5,0,[g.1]⟩<=_;rw[Gu,Hf];omega
  ·have:=hg.parts;exact⟨by have:=this.size;rw[iy]at this;dsimp only at this⊢;omega,this.CZ,by show p<=s.2;omega,by show s.2<=_;omega⟩
 ·rintro⟨f,o,m,k⟩ g;have a1:=g.size;have a2:=g.lo;have a3:=g.hi;have a4:=g.CZ;dsimp only at a1 a2 a3 a4⊢;refine Ag.bind (ZG Bb hM q.1 (p:=f) (by omega) (by omega)) λl hl=>?_;have l1:=hl.size;have l2:=hl.lo;have l3:=hl.hi;refine AU rfl (Ag.some ⟨by rw[Vl];omega,VZ ⟨by omega,by omega⟩ ⟨by omega,by omega⟩ hl.CZ a4,by show p<=l.2;omega,by show l.2<=_;omega⟩)
theorem Xf (C:CX D F){b:List Int}(Bb:Bk b){M:Nat}(hM:2000000<=M){f:Nat}(hf:f<F.length){a:Nat}(ha:a<=3){p:Int}(h0:0<=p)(h1:p<=200000):Ag (JE M b p F D f a) (GE 1000 3000 p):=by
 have uI:=C.fl;obtain⟨g,hg,vN⟩:=Bz hf;have hp3:=C.par g vN;unfold JE;refine AU (BG hg) (AU (JT (by omega) (by simp)) ?_);have key:∀{N i:Nat},i<=g.params.length->g.params.length-i<N->∀(q:Int) (acc:List AE),p<=q->q<=p+i->acc.length=i->(∀e∈acc,An e)->CM acc<=3*i->
   Ag (Eh g b a N i q acc) λr=>p<=r.1/\r.1<=p+3/\r.2.length<=3/\(∀e∈r.2,An e)/\CM r.2<=9:=by
  intro N i hi hN;refine Bh g.params.length (λN i=>∀(q:Int) (acc:List AE),p<=q->q<=p+i->acc.length=i->(∀e∈acc,An e)->CM acc<=3*i->
   Ag (Eh g b a N i q acc) λr=>p<=r.1/\r.1<=p+3/\r.2.length<=3/\(∀e∈r.2,An e)/\CM r.2<=9) ?_ ?_ hi hN
  ·intro n q acc g1 g2 g3 g4 g5;rw[Eh,la (by simp[AM])];exact Ag.some ⟨g1,by show q<=_;omega,by show acc.length<=3;omega,g4,by show CM acc<=9;omega⟩
  ·intro n i hi ih q acc g1 g2 g3 g4 g5;obtain⟨t,ht,_⟩:=Bz hi;rw[Eh,ld (by rw[lq,AM];omega),BJ (n:=(i:Int)+1) (by omega) (by omega),show ((i:Int)+1)=((i+1:Nat):Int) by omega,AM];have ap:∀{e:AE} {s:Int},An e->en e<=3->p<=s->s<=p+(i+1:Nat)->Ag ((Sh.app acc [e] 40).bind λzh=>some (s,zh)) λr:Int×List AE=>p<=r.1/\r.1<=p+(i+1:Nat)/\r.2.length=i+1/\(∀e∈r.2,An e)/\CM r.2<=3*(i+1):=λhe h3 hs1 hs2=>
    Ag.app (by simp;omega) (by simp;omega) (Ag.some ⟨hs1,hs2,by simp;omega,λx hx=>by
     rcases lz.1 hx with h5|h5
     ·exact g4 x h5
     ·rw[lu]at h5;rw[h5];exact he,by show CM (acc++_)<=_;rw[Ix,Hf];omega⟩)
   have vi:∀{n:Int},0<=n->n<=100->An ⟨12,n,[]⟩:=λa c=>Fv ⟨by omega,by omega⟩ ⟨by omega,by omega⟩;refine Ag.bind (R:=λr:Int×List AE=>p<=r.1/\r.1<=p+(i+1:Nat)/\r.2.length=i+1/\(∀e∈r.2,An e)/\CM r.2<=3*(i+1)) ?_ λr hr=>ih r.1 r.2 hr.1 hr.2.1 hr.2.2.1 hr.2.2.2.1 hr.2.2.2.2;refine BD (λ_=>?_) λ_=>?_
   ·rw[BJ (n:=(g.params.length:Int)+1) (by omega) (by omega)];exact AU rfl (ap (vi (by omega) (by omega)) (by rw[Kz];omega) g1 (by omega))
   ·refine Ag.bind (R:=λr:Bool×Int=>p<=r.2/\r.2<=p+(i+1:Nat)) ?_ ?_
    ·refine AU (BG ht) (BD (λ_=>?_) λ_=>Ag.some (by show p<=q/\q<=_;omega));exact Ag.bind (Cb Bb ⟨by omega,by omega⟩) λs hs=>Ag.some (by have:=hs.pos;show p<=s.2/\s.2<=_;omega)
    ·rintro⟨t70,f71⟩ ⟨a1,a2⟩;dsimp only at a1 a2⊢;refine Cn (λ_=>?_) λ_=>?_
     ·exact AU rfl (AU rfl (AU rfl (ap (VZ ⟨by omega,by omega⟩ ⟨by omega,by omega⟩ (vi (by omega) (by omega)) (vi (by omega) (by omega))) (by rw[Vl,Kz,Kz];omega) a1 a2)))
     ·exact AU rfl (ap (vi (by omega) (by omega)) (by rw[Kz];omega) a1 a2)
 have k:=key (mB _) (by omega:g.params.length-0<M) p [] (by omega) (by omega) rfl (by simp) (by simp[CM]);rw[qU]at k;refine Ag.bind k ?_;rintro⟨f13,ru⟩ ⟨a1,a2,a3,a4,a5⟩;dsimp only at a1 a2 a3 a4 a5⊢;have again:An ⟨9,f,ru⟩:=Jq (Dm (by omega) (by omega)) (Dm (by omega) (by omega)) a4 (by omega);have ea:en ⟨9,(f:Int),ru⟩<=10:=by rw[Gu];omega
 refine AU rfl ?_;have hvl:(g.params++[(0:Int),1]).length<=100:=by simp;omega
 refine Ag.bind (R:=GQ 200 1000 p) ?_ ?_
 ·refine Ag.bind (R:=λr:Bool×Int=>p<=r.2/\r.2<=p+4) ?_ ?_
  ·refine BD (λ_=>?_) λ_=>Ag.some (by show p<=f13/\f13<=_;omega);exact Ag.bind (Cb Bb ⟨by omega,by omega⟩) λs hs=>Ag.some (by have:=hs.pos;show p<=s.2/\s.2<=_;omega)
  ·rintro⟨t30,f31⟩ ⟨b1,b2⟩;dsimp only at b1 b2⊢;refine Cn (λ_=>?_) λ_=>?_
   ·refine Ag.bind (JZ C Bb hM (d:=4) (by omega) hvl 0 (p:=f31) (by omega) (by omega)) λuC hq=>?_;have c1:=hq.size;have c2:=hq.lo;have c3:=hq.hi;rw[aE]at c1;rw[av]at c3;refine Ag.bind (R:=λr:Int×Int×List AE=>en ⟨r.1,r.2.1,r.2.2⟩<=31/\An ⟨r.1,r.2.1,r.2.2⟩) ?_ ?_
    ·refine Ag.bind (R:=λ_=>True) ?_ λt43 _=>Cn (λ_=>?_) λ_=>Ag.some ?_
     ·refine BD (λh=>?_) λ_=>Ag.some lU;rw[AM]at h;exact Ag.get (by omega) (by omega) λ_ _ _=>Ag.some lU
     ·rw[AM];refine AU rfl (AU rfl (AU rfl (Ag.some ⟨?_,?_⟩)))
      ·show en ⟨11,0,[⟨12,0,[]⟩,⟨12,(g.params.length:Int),[]⟩]⟩<=31;rw[Vl,Kz,Kz];omega
      ·exact (VZ ⟨by omega,by omega⟩ ⟨by omega,by omega⟩ (Fv ⟨by omega,by omega⟩ ⟨by omega,by omega⟩) (Fv ⟨by omega,by omega⟩ ⟨by omega,by omega⟩):An ⟨11,0,[⟨12,0,[]⟩,⟨12,(g.params.length:Int),[]⟩]⟩)
     ·have:=hq.parts;exact⟨by have:=this.size;dsimp only at this⊢;rw[aE]at this;exact this,this.CZ⟩
    ·rintro⟨f37,f38,f39⟩ ⟨d1,d2⟩;dsimp only at d1 d2⊢;refine AU rfl (Ag.some ⟨?_,(VZ ⟨by omega,by omega⟩ ⟨by omega,by omega⟩ d2 again:An ⟨6,1,[⟨f37,f38,f39⟩,⟨9,(f:Int),ru⟩]⟩),by show p<=uC.2;omega,by show uC.2<=_;omega⟩);show en ⟨6,1,[⟨f37,f38,f39⟩,⟨9,(f:Int),ru⟩]⟩<=200;rw[Vl];omega
   ·refine BD (λ_=>?_) λ_=>Ag.some ⟨by show en ⟨9,(f:Int),ru⟩<=200;omega,again,by show p<=f31;omega,by show f31<=_;omega⟩;refine Ag.bind (Gk Bb ⟨by omega,by omega⟩ (by simp) (by simp)) λwD hq53=>?_;have o1:=hq53.pos;have o2:=hq53.mem;simp only[lk,mK,mr]at o2;refine Ag.bind (JZ C Bb hM (d:=4) (by omega) hvl 0 (p:=wD.2) (by omega) (by omega)) λxH hq=>?_;have c1:=hq.size;have c2:=hq.lo;have c3:=hq.hi;rw[aE]at c1;rw[av]at c3;refine AU rfl (Ag.some ⟨?_,(VZ ⟨by omega,by omega⟩ ⟨by omega,by omega⟩ hq.CZ again:An ⟨wD.1,0,[xH.1,⟨9,(f:Int),ru⟩]⟩),by show p<=xH.2;omega,by show xH.2<=_;omega⟩);show en ⟨wD.1,0,[xH.1,⟨9,(f:Int),ru⟩]⟩<=200;rw[Vl];omega
 ·rintro⟨f20,o,m,k⟩ g20;have b1:=g20.size;have b2:=g20.lo;have b3:=g20.hi;have b4:=g20.CZ;dsimp only at b1 b2 b3 b4⊢;refine AU rfl ?_;refine Ag.bind (JZ C Bb hM (d:=4) (by omega) (vars:=g.params) (by omega) g.result (p:=f20) (by omega) (by omega)) λq hq=>?_;have c1:=hq.size;have c2:=hq.lo;have c3:=hq.hi;rw[aE]at c1;rw[av]at c3;refine AU rfl (Ag.some ⟨by rw[eV,Kz];omega,eG ⟨by omega,by omega⟩ ⟨by omega,by omega⟩ (Fv ⟨by omega,by omega⟩ ⟨by omega,by omega⟩) hq.CZ b4,by show p<=q.2;omega,by show q.2<=_;omega⟩)
end
end RC
namespace RC
open Go
section
variable {D : List AN} {F : List Ac}
theorem XR (C:CX D F){b:List Int}(Bb:Bk b){M:Nat}(hM:2000000<=M){f:Nat}(hf:f<F.length){g:Ac}(hg:F[f]?=some g)(hg1:0<g.params.length){p:Int}(h0:0<=p)(h1:p<=200000):Ag (JG M b p F D f) (GE 1000 3000 p):=by
 have uI:=C.fl;have vN:=lT hg;have hp3:=C.par g vN;unfold JG;have vi:∀{n:Int},0<=n->n<=100->An ⟨12,n,[]⟩:=λa c=>Fv ⟨by omega,by omega⟩ ⟨by omega,by omega⟩;refine AU (BG hg) ?_;rw[AM,BJ (n:=(g.params.length:Int)+2) (by omega) (by omega)];refine AU rfl (AU rfl ?_);have key:∀{N i:Nat},i<=g.params.length->g.params.length-i<N->∀(x y:List AE),x.length=i->y.length=i->(∀e∈x,An e)->(∀e∈y,An e)->CM x<=i->CM y<=i->
   Ag (Ef g N i x y) λr=>r.1.length<=3/\r.2.length<=3/\(∀e∈r.1,An e)/\(∀e∈r.2,An e)/\CM r.1<=3/\CM r.2<=3:=by
  intro N i hi hN;refine Bh g.params.length (λN i=>∀(x y:List AE),x.length=i->y.length=i->(∀e∈x,An e)->(∀e∈y,An e)->CM x<=i->CM y<=i->
   Ag (Ef g N i x y) λr=>r.1.length<=3/\r.2.length<=3/\(∀e∈r.1,An e)/\(∀e∈r.2,An e)/\CM r.1<=3/\CM r.2<=3) ?_ ?_ hi hN
  ·intro n x y g1 g2 g3 g4 g5 g6;rw[Ef,la (by simp[AM])];exact Ag.some ⟨by show x.length<=3;omega,by show y.length<=3;omega,g3,g4,by show CM x<=3;omega,by show CM y<=3;omega⟩
  ·intro n i hi ih x y g1 g2 g3 g4 g5 g6;rw[Ef,ld (by rw[lq,AM];omega),BJ (n:=(i:Int)+1) (by omega) (by omega),show ((i:Int)+1)=((i+1:Nat):Int) by omega];have hm:∀(l:List AE),(∀e∈l,An e)->∀e∈l++[AE.mk 12 (i:Int) []],An e:=λl hl e he=>by
    rcases lz.1 he with h5|h5
    ·exact hl e h5
    ·rw[lu]at h5;rw[h5];exact vi (by omega) (by omega)
   refine AU rfl (Ag.app (by simp;omega) (by simp;omega) (AU rfl (Ag.app (by simp;omega) (by simp;omega) ?_)));exact ih _ _ (by simp;omega) (by simp;omega) (hm x g3) (hm y g4) (by rw[Ix,Hf,Kz];omega) (by rw[Ix,Hf,Kz];omega)
 have k:=key (i:=1) (by omega) (by omega:g.params.length-1<M) [⟨12,(g.params.length:Int),[]⟩] [⟨12,(g.params.length:Int)+2,[]⟩] rfl rfl
  (λe he=>by rw[lu]at he;rw[he];exact vi (by omega) (by omega)) (λe he=>by rw[lu]at he;rw[he];exact vi (by omega) (by omega)) (by rw[Hf,Kz];omega) (by rw[Hf,Kz];omega)
 rw[show ((1:Nat):Int)=1 from rfl]at k;refine Ag.bind k ?_;rintro⟨ru,xI⟩ ⟨a1,a2,a3,a4,a5,a6⟩;dsimp only at a1 a2 a3 a4 a5 a6⊢;have i18:An ⟨9,f,ru⟩:=Jq (Dm (by omega) (by omega)) (Dm (by omega) (by omega)) a3 (by omega);have i20:An ⟨9,f,xI⟩:=Jq (Dm (by omega) (by omega)) (Dm (by omega) (by omega)) a4 (by omega);have e18:en ⟨9,(f:Int),ru⟩<=4:=by rw[Gu];omega
 have e20:en ⟨9,(f:Int),xI⟩<=4:=by rw[Gu];omega
 have hvl:(g.params++[(3:Int),0,3]).length<=100:=by simp;omega
 refine AU rfl (AU rfl (AU (JT (by omega) (by simp)) ?_));refine Ag.bind (JZ C Bb hM (d:=4) (by omega) hvl 0 (p:=p) (by omega) (by omega)) λsY hq=>?_;have c1:=hq.size;have c2:=hq.lo;have c3:=hq.hi;rw[aE]at c1;rw[av]at c3;refine AU rfl (AU rfl ?_);refine Ag.bind (R:=GQ 200 1000 p) ?_ ?_
 ·refine BD (λ_=>?_) λ_=>Ag.some ⟨?_,(VZ ⟨by omega,by omega⟩ ⟨by omega,by omega⟩ i18 (VZ ⟨by omega,by omega⟩ ⟨by omega,by omega⟩ hq.CZ i20):An ⟨1,0,[⟨9,(f:Int),ru⟩,⟨1,0,[sY.1,⟨9,(f:Int),xI⟩]⟩]⟩),by show p<=sY.2;omega,by show sY.2<=_;omega⟩
  ·refine AU (JT (by omega) (by simp)) ?_;refine Ag.bind (JZ C Bb hM (d:=4) (by omega) hvl 0 (p:=sY.2) (by omega) (by omega)) λvC hq2=>?_;have d1:=hq2.size;have d2:=hq2.lo;have d3:=hq2.hi;rw[aE]at d1;rw[av]at d3;refine AU rfl (AU rfl (Ag.some ⟨?_,(eG ⟨by omega,by omega⟩ ⟨by omega,by omega⟩ i18 hq2.CZ (vi (by omega) (by omega)):An ⟨6,3,[⟨9,(f:Int),ru⟩,vC.1,⟨12,(g.params.length:Int)+2,[]⟩]⟩),by show p<=vC.2;omega,by show vC.2<=_;omega⟩));show en ⟨6,3,[⟨9,(f:Int),ru⟩,vC.1,⟨12,(g.params.length:Int)+2,[]⟩]⟩<=200;rw[eV,Kz];omega
  ·show en ⟨1,0,[⟨9,(f:Int),ru⟩,⟨1,0,[sY.1,⟨9,(f:Int),xI⟩]⟩]⟩<=200;rw[Vl,Vl];omega
 ·rintro⟨f20,o,m,k⟩ g20;have b1:=g20.size;have b2:=g20.lo;have b3:=g20.hi;have b4:=g20.CZ;dsimp only at b1 b2 b3 b4⊢;refine AU rfl ?_;refine Ag.bind (JZ C Bb hM (d:=4) (by omega) (vars:=g.params) (by omega) g.result (p:=f20) (by omega) (by omega)) λq hq=>?_;have c1:=hq.size;have c2:=hq.lo;have c3:=hq.hi;rw[aE]at c1;rw[av]at c3;refine AU rfl (Ag.some ⟨by rw[eV,Kz];omega,eG ⟨by omega,by omega⟩ ⟨by omega,by omega⟩ (vi (by omega) (by omega)) hq.CZ b4,by show p<=q.2;omega,by show q.2<=_;omega⟩)
theorem XX (C:CX D F){b:List Int}(Bb:Bk b){M:Nat}(hM:2000000<=M){f:Nat}(hf:f<F.length){g:Ac}(hg:F[f]?=some g)(hg1:0<g.params.length){p:Int}(h0:0<=p)(h1:p<=200000):Ag (JW M b p F D f) (GE 1000 3000 p):=by
 have uI:=C.fl;have vN:=lT hg;have hp3:=C.par g vN;unfold JW;have vi:∀{n:Int},0<=n->n<=100->An ⟨12,n,[]⟩:=λa c=>Fv ⟨by omega,by omega⟩ ⟨by omega,by omega⟩;have li:∀{n:Int},0<=n->n<=100->An ⟨0,n,[]⟩:=λa c=>Fv ⟨by omega,by omega⟩ ⟨by omega,by omega⟩;refine AU (BG hg) (AU rfl (AU rfl (AU rfl ?_)));have key:∀{N i:Nat},i<=g.params.length->g.params.length-i<N->∀(q:Int) (acc:List AE),p<=q->q<=p+30*i->acc.length=i->(∀e∈acc,An e)->CM acc<=4*i->
   Ag (Ep M g b F D N i q acc) λr=>p<=r.1/\r.1<=p+90/\r.2.length<=3/\(∀e∈r.2,An e)/\CM r.2<=12:=by
  intro N i hi hN;refine Bh g.params.length (λN i=>∀(q:Int) (acc:List AE),p<=q->q<=p+30*i->acc.length=i->(∀e∈acc,An e)->CM acc<=4*i->
   Ag (Ep M g b F D N i q acc) λr=>p<=r.1/\r.1<=p+90/\r.2.length<=3/\(∀e∈r.2,An e)/\CM r.2<=12) ?_ ?_ hi hN
  ·intro n q acc g1 g2 g3 g4 g5;rw[Ep,la (by simp[AM])];exact Ag.some ⟨g1,by show q<=_;omega,by show acc.length<=3;omega,g4,by show CM acc<=12;omega⟩
  ·intro n i hi ih q acc g1 g2 g3 g4 g5;obtain⟨t,ht,_⟩:=Bz hi;rw[Ep,ld (by rw[lq,AM];omega),BJ (n:=(i:Int)+1) (by omega) (by omega),show ((i:Int)+1)=((i+1:Nat):Int) by omega];refine AU (BG ht) ?_;refine Ag.bind (ML C Bb hM (by omega) t (p:=q) (by omega) (by omega)) λs hs=>?_;have s1:=hs.size;have s2:=hs.lo;have s3:=hs.hi;refine Ag.app (by simp;omega) (by simp;omega) ?_;refine ih s.2 (acc++[s.1]) (by omega) (by omega) (by simp;omega) (λe he=>?_) (by rw[Ix,Hf];omega);rcases lz.1 he with h5|h5
   ·exact g4 e h5
   ·rw[lu]at h5;rw[h5];exact hs.CZ
 have k:=key (i:=1) (by omega) (by omega:g.params.length-1<M) p [⟨2,0,[⟨12,0,[]⟩,⟨0,1,[]⟩]⟩] (by omega) (by omega) rfl (λe he=>by rw[lu]at he;rw[he];exact VZ ⟨by omega,by omega⟩ ⟨by omega,by omega⟩ (vi (by omega) (by omega)) (li (by omega) (by omega))) (by rw[Hf,Vl,Kz,Kz];omega);rw[show ((1:Nat):Int)=1 from rfl]at k;refine Ag.bind k ?_;rintro⟨f13,ru⟩ ⟨a1,a2,a3,a4,a5⟩;dsimp only at a1 a2 a3 a4 a5⊢;have again:An ⟨9,f,ru⟩:=Jq (Dm (by omega) (by omega)) (Dm (by omega) (by omega)) a4 (by omega);have ea:en ⟨9,(f:Int),ru⟩<=13:=by rw[Gu];omega
 refine AU rfl ?_;refine Ag.bind (R:=GQ 200 1000 p) ?_ ?_
 ·refine BD (λ_=>?_) λ_=>Ag.some ⟨by show en ⟨9,(f:Int),ru⟩<=200;omega,again,by show p<=f13;omega,by show f13<=_;omega⟩;refine Ag.bind (JZ C Bb hM (d:=3) (by omega) (vars:=g.params) (by omega) 0 (p:=f13) (by omega) (by omega)) λuf hq=>?_;have c1:=hq.size;have c2:=hq.lo;have c3:=hq.hi;rw[kz]at c1;rw[lB]at c3;refine AU rfl (Ag.some ⟨?_,(VZ ⟨by omega,by omega⟩ ⟨by omega,by omega⟩ hq.CZ again:An ⟨6,1,[uf.1,⟨9,(f:Int),ru⟩]⟩),by show p<=uf.2;omega,by show uf.2<=_;omega⟩);show en ⟨6,1,[uf.1,⟨9,(f:Int),ru⟩]⟩<=200;rw[Vl];omega
 ·rintro⟨f20,o,m,k⟩ g20;have b1:=g20.size;have b2:=g20.lo;have b3:=g20.hi;have b4:=g20.CZ;dsimp only at b1 b2 b3 b4⊢;refine AU rfl (AU rfl (AU rfl ?_));refine Ag.bind (JZ C Bb hM (d:=4) (by omega) (vars:=g.params) (by omega) g.result (p:=f20) (by omega) (by omega)) λq hq=>?_;have c1:=hq.size;have c2:=hq.lo;have c3:=hq.hi;rw[aE]at c1;rw[av]at c3;refine AU rfl (Ag.some ⟨by rw[eV,Vl,Kz,Kz];omega,eG ⟨by omega,by omega⟩ ⟨by omega,by omega⟩ (VZ ⟨by omega,by omega⟩ ⟨by omega,by omega⟩ (li (by omega) (by omega)) (vi (by omega) (by omega))) b4 hq.CZ,by show p<=q.2;omega,by show q.2<=_;omega⟩)
theorem Sj (C:CX D F){b:List Int}(Bb:Bk b){M:Nat}(hM:2000000<=M){vars:List Int}(hv:vars.length<=100)(t:Int){B:Nat}(hB:B<=18){p:Int}(h0:0<=p)(h1:p<=200000):Ag (Iv M b p F D vars t (B:Int)) (GE 200 3000 p):=by
 have szle:∀d,d<=18->Ga d<=157:=λd h=>by unfold Ga;split<;>omega
 have pkle:∀d,d<=18->Ea d<=1395:=λd h=>by unfold Ea;split<;>omega
 have key:∀(B N:Nat) (f o m:Int) (k:List AE),B<N->B<=18->p<=f->f+80*B<=p+2900->An ⟨o,m,k⟩->en ⟨o,m,k⟩<=200->Ag (GF M b F D vars t N B f o m k) (GQ 200 3000 p):=by
  intro B
  induction B using Nat.strongRecOn with
  | _ B ih=>
   intro N f o m k hN hB g1 g2 g3 g4;obtain⟨N,rfl⟩ :∃m,N=m+1:=⟨N-1,by omega⟩
   rw[GF];refine Ag.bind (R:=λc=>c=true->2<B) ?_ λc hc=>Cn (λh=>?_) λ_=>Ag.some ⟨g4,g3,g1,by show f<=_;omega⟩
   ·refine AU (GG (by have:=Gu o m k;show CM k<=_;omega) hM) (BD (λ_=>Ag.some λh=>by rw[lq]at h;omega) λ_=>Ag.some λh=>by cases h)
   ·have hB2:=hc h;have ed:Int.tdiv (B:Int) 2=((B / 2:Nat):Int):=rfl;have hd:2*(B / 2)<=B:=by omega
    have hd1:1<=B / 2:=by omega
    have hd3:B / 2<B:=by omega
    rw[ed];generalize B / 2=d at hd hd1 hd3⊢;have xf:Ea d<=80*d:=by unfold Ea;rw[la (by omega)];omega
    rw[BJ (n:=(d:Int)) (by omega) (by omega)];refine Ag.bind (JZ C Bb hM (d:=d) (by omega) hv t (p:=f) (by omega) (by omega)) λq hq=>?_;have q1:=hq.lo;have q2:=hq.hi;have q3:=hq.size;have q4:=szle d (by omega);have q5:=hq.parts;exact ih d hd3 N q.2 q.1.op q.1.num q.1.kids (by omega) (by omega) (by omega) (by omega) q5.CZ (by have:=q5.size;dsimp only at this;omega)
 unfold Iv;refine Ag.bind (JZ C Bb hM (d:=B) (by omega) hv t (p:=p) (by omega) (by omega)) λq hq=>?_;have q1:=hq.lo;have q2:=hq.hi;have q3:=hq.size;have q4:=szle B hB;have q6:=pkle B hB;have q5:=hq.parts;refine Ag.bind (key B M q.2 q.1.op q.1.num q.1.kids (by omega) hB (by omega) (by omega) q5.CZ (by have:=q5.size;dsimp only at this;omega)) ?_;rintro⟨f,o,m,k⟩ g;exact Ag.some ⟨g.size,g.CZ,g.lo,g.hi⟩
theorem ZA {l:List Int}(hl:l.length<=3){x:Int}{M:Nat}(hM:2000000<=M):Ag (Jz M l x) λr=>r=-1∨(0<=r/\r<(l.length:Int)):=by
 have key:∀{N i:Nat},i<=l.length->l.length-i<N->Ag (E3 l x N i) λv=>match v with|.inl r=>0<=r/\r<(l.length:Int)|.inr _=>True:=by
  intro N i hi hN;refine Bh l.length (λN i=>Ag (E3 l x N i) λv=>match v with|.inl r=>0<=r/\r<(l.length:Int)|.inr _=>True) ?_ ?_ hi hN
  ·intro n;rw[E3,la (by simp[AM])];exact Ag.some lU
  ·intro n i hi ih;obtain⟨y,hy,_⟩:=Bz hi;rw[E3,ld (by rw[lq,AM];omega),BJ (n:=(i:Int)+1) (by omega) (by omega),show ((i:Int)+1)=((i+1:Nat):Int) by omega];refine AU (BG hy) (BD (λ_=>Ag.some (show 0<=(i:Int)/\(i:Int)<_ by omega)) λ_=>ih)
 unfold Jz;have k:=key (mB _) (by omega:l.length-0<M);rw[qU]at k;refine Ag.cont (R:=λr=>0<=r/\r<(l.length:Int)) (S:=λ_=>True) (k.mono λv hv=>by cases v<;>exact hv) (λr hr=>.inr hr) λ_ _=>Ag.some (.inl rfl)
theorem Zz (C:CX D F){b:List Int}(Bb:Bk b){M:Nat}(hM:2000000<=M){f:Nat}(hf:f<F.length){p:Int}(h0:0<=p)(h1:p<=150000):Ag (Ki M b p F D f) (GE 1000 7000 p):=by
 have uI:=C.fl;obtain⟨g,hg,vN⟩:=Bz hf;have hp3:=C.par g vN;unfold Ki;refine AU (BG hg) ?_;refine Ag.bind (ZA hp3 hM) λa ha=>?_;refine AU rfl ?_;refine Ag.bind (Cb Bb ⟨by omega,by omega⟩) λrl hq=>?_;have q1:=hq.pos;have fin:∀{x:Option (AE×Int)},Ag x (GE 1000 3000 rl.2)->Ag (Option.bind x λsv=>some (sv.2,sv.1.op,sv.1.num,sv.1.kids)) (GQ 1000 3500 p):=λhx=>
  Ag.bind hx λr hr=>Ag.some (by
   have:=hr.parts;exact⟨this.size,this.CZ,by have:=this.lo;dsimp only at this⊢;omega,by have:=this.hi;dsimp only at this⊢;omega⟩)
 refine Ag.bind (R:=GQ 1000 3500 p) ?_ ?_
 ·refine Ag.bind (R:=λ_=>True) (BD (λ_=>Ag.some lU) λ_=>Ag.some lU) λt25 _=>Cn (λ_=>fin (XY C Bb hM (by omega) (by omega))) λ_=>?_;refine Ag.bind (R:=λt=>t=true->0<=a) ?_ λt30 ht30=>Cn (λh=>?_) λ_=>?_
  ·refine BD (λ_=>BD (λh=>?_) λ_=>Ag.some λh=>by cases h) λ_=>Ag.some λh=>by cases h
   exact BD (λ_=>Ag.some λ_=>h) λ_=>Ag.some λ_=>h
  ·have ha0:=ht30 h;obtain⟨an,rfl⟩:=mS ha0;exact fin (Xf C Bb hM hf (by omega) (by omega) (by omega))
  have pos:∀(z:Int),Ag (if decide (rl.1<3)=true then
      if (decide (0<(Sh.len g.params)))=true then
       (Sh.get g.params 0).bind λc52=>
       if (decide (c52=z))=true then
        if (decide (g.result=0))=true then
         some true
        else
         some (decide (g.result=(if z=3 then 3 else 1)))
       else
        some false
      else
       some false
     else
      some false) λt=>t=true->0<g.params.length:=by
   intro z;refine BD (λ_=>BD (λh=>?_) λ_=>Ag.some λh=>by cases h) λ_=>Ag.some λh=>by cases h
   rw[AM]at h;refine Ag.get (by omega) (by omega) λc _ _=>?_;refine BD (λ_=>BD (λ_=>Ag.some λ_=>by omega) λ_=>Ag.some λ_=>by omega) λ_=>Ag.some λh=>by cases h
  refine Ag.bind (pos 3) λt35 ht35=>Cn (λh=>fin (XR C Bb hM hf hg (ht35 h) (by omega) (by omega))) λ_=>?_;refine Ag.bind (pos 0) λt40 ht40=>Cn (λh=>fin (XX C Bb hM hf hg (ht40 h) (by omega) (by omega))) λ_=>?_;have:=Sj C Bb hM (vars:=g.params) (by omega) g.result (B:=18) (by omega) (p:=rl.2) (by omega) (by omega);exact fin (this.mono λr hr=>hr.up (by omega) (by omega))
 ·rintro⟨f12,o,m,k⟩ g12;have b1:=g12.size;have b2:=g12.lo;have b3:=g12.hi;have b4:=g12.CZ;dsimp only at b1 b2 b3 b4⊢;refine AU (GG (by have:=Gu o m k;show CM k<=_;omega) hM) (BD (λ_=>?_) λ_=>Ag.some ⟨b1,b4,b2,by show f12<=_;omega⟩);have:=Sj C Bb hM (vars:=g.params) (by omega) g.result (B:=12) (by omega) (p:=f12) (by omega) (by omega);refine Ag.bind this λr hr=>Ag.some ⟨by have:=hr.size;show en r.1<=_;omega,hr.CZ,by have:=hr.lo;show p<=r.2;omega,by have:=hr.hi;show r.2<=_;omega⟩
end
end RC
namespace RC
open Go
theorem jU (n:Int):G3 (Sh.w n):=by
 unfold Sh.w G3;rw[IntKind.wrap_i64];omega
def cn (l:List Int):De:=⟨l⟩
def gD:List AN:=[⟨0,0,[⟨[]⟩,⟨[0,1]⟩]⟩,⟨0,0,[]⟩,⟨0,0,[⟨[]⟩,⟨[3,0,3]⟩]⟩]
def gL:List AN:=[⟨0,0,[⟨[1,3]⟩]⟩,⟨1,0,[]⟩,⟨0,0,[⟨[1,1,0]⟩,⟨[0]⟩,⟨[3]⟩]⟩,⟨0,1,[]⟩]
def GD (D:List AN):Prop:=D=gD∨∃d∈gL,D=gD++[d]
theorem P6 {b:List Int}(Bb:Bk b){p:Int}(h0:0<=p)(h1:p<=500000):Ag (HP b p) λq=>GD q.1/\q.2=p+1:=by
 unfold HP;refine AU rfl (AU rfl (AU rfl (AU rfl (AU rfl (AU rfl (AU rfl (AU rfl ?_)))))));refine Ag.bind (Cb Bb ⟨by omega,by omega⟩) λq hq=>?_;have q1:=hq.pos;have q2:=hq.nn;have q3:=hq.lt (by omega);refine Ag.bind (R:=GD) ?_ λl hl=>Ag.some ⟨hl,q1⟩;refine BD (λ_=>?_) λ_=>Ag.some (.inl rfl);refine Ag.get q2 (by simp;omega) λc _ hc=>?_;refine Ag.app (by simp) (by simp) (Ag.some (.inr ⟨c,?_,rfl⟩));exact hc
structure kU (F:List Ac):Prop where
 fl:F.length<=4
 gP:1<=F.length
 par :∀f∈F,f.params.length<=3
 cl :∀f∈F,(∀x∈f.params,x=0∨x=1∨x=3)∨(f.params=[2,1]/\f.result=1)
theorem CX.of {D:List AN}{F:List Ac}(hD:GD D)(S:kU F):CX D F:=by
 have all:∀{D:List AN},D.length<=4->nc D<=7->(∀d∈D,d.cons.length<=3)->(∀d∈D,∀c∈d.cons,c.fields.length<=3/\∀x∈c.fields,x=0∨x=1∨x=3)->Bu D 1=[0,1]->Bu D 3=[2,3]->
   Gl D 0 0=some (1,⟨[]⟩)->Gl D 0 1=some (1,⟨[0,1]⟩)->Gl D 0 2=some (3,⟨[]⟩)->Gl D 0 3=some (3,⟨[3,0,3]⟩)->IY 1 1 D 0=-1->CX D F:=λa b c d e f g h i j k=>
  ⟨a,b,c,d,e,f,⟨_,g⟩,⟨_,h⟩,⟨_,i⟩,⟨_,j⟩,k,S.fl,S.gP,S.par,S.cl⟩
 rcases hD with rfl|⟨d,hd,rfl⟩
 ·exact all (by decide) (by decide) (by decide) (by decide) (by decide) (by decide) rfl rfl rfl rfl (by decide)
 ·simp only[gL,lk,mK,mr]at hd;rcases hd with rfl|rfl|rfl|rfl;all_goals exact all (by decide) (by decide) (by decide) (by decide) (by decide) (by decide) rfl rfl rfl rfl (by decide)
structure jd (f:Ac):Prop where
 CZ:WA f
 par:f.params.length<=4
 size:en f.body<=1001
theorem Wz {l:List Int}(hl:l.length<=4)(h :∀x∈l,-1000000<=x/\x<=1000000):IU G3 l:=⟨λx hx=>Dm (h x hx).1 (h x hx).2,by omega⟩
structure Zp (F:List Ac):Prop where
 sg:kU F
 ok :∀f∈F,jd f
 sz :∀f∈F,en f.body<=1000
theorem LY {α:Type}{l:List α}{i:Int}{x y:α}(h:y∈Sh.put l i x):y∈l∨y=x:=mg h
theorem Zp.put {F:List Ac}(P:Zp F){i:Int}{g:Ac}(hg:g∈F){e:AE}(he:An e)(hs:en e<=1000):Zp (Sh.put F i ⟨g.params,g.result,e⟩):=by
 have hl:(Sh.put F i ⟨g.params,g.result,e⟩).length=F.length:=by unfold Sh.put;simp
 have G:=P.ok g hg;refine⟨⟨by rw[hl];exact P.sg.fl,by rw[hl];exact P.sg.gP,λf hf=>?_,λf hf=>?_⟩,λf hf=>?_,λf hf=>?_⟩
 ·rcases LY hf with h|rfl
  ·exact P.sg.par f h
  ·exact P.sg.par g hg
 ·rcases LY hf with h|rfl
  ·exact P.sg.cl f h
  ·exact P.sg.cl g hg
 ·rcases LY hf with h|rfl
  ·exact P.ok f h
  ·exact⟨⟨G.CZ.params,G.CZ.result,he⟩,G.par,by show en e<=_;omega⟩
 ·rcases LY hf with h|rfl
  ·exact P.sz f h
  ·exact hs
theorem TK {b:List Int}(Bb:Bk b){M:Nat}(hM:2000000<=M){p:Int}(h0:0<=p)(h1:p<=1000):Ag (HW M b p) λq=>GD q.1.decls/\Zp q.1.funcs/\0<=q.2/\q.2<=100000:=by
 unfold HW;refine Ag.bind (P6 Bb h0 (by omega)) λq3 ⟨hD,hq3⟩=>?_;iterate 17 refine AU rfl ?_
 have sigs:∀(l:List Ac),(∀f∈l,f.body=⟨0,0,[]⟩/\f.params.length<=3/\(∀x∈f.params,0<=x/\x<=3)/\(0<=f.result/\f.result<=3)/\((∀x∈f.params,x=0∨x=1∨x=3)∨(f.params=[2,1]/\f.result=1)))->l.length<=4->1<=l.length->Zp l:=λl h h4 h5=>
  ⟨⟨h4,h5,λf hf=>(h f hf).2.1,λf hf=>(h f hf).2.2.2.2⟩,λf hf=>by
   obtain⟨b1,b2,b3,b4,_⟩:=h f hf;exact⟨⟨Wz (by omega) λx hx=>by have:=b3 x hx;omega,Dm (by omega) (by omega),by rw[b1];exact Fv ⟨by omega,by omega⟩ ⟨by omega,by omega⟩⟩,by omega,by rw[b1,Kz];omega⟩,λf hf=>by rw[(h f hf).1,Kz];omega⟩
 have pg:∀{l:List Ac} {f:Int×Int->Ac->Option (AP×Int)} {s:Int} {Q:AP×Int->Prop},1<=l.length->0<=s->s<=900000->(∀(q:Int×Int) c,q.2=s+1->c∈l->Ag (f q c) Q)->Ag ((BB b s (Sh.len l)).bind λuP=>(Sh.get l uP.1).bind λzb=>f uP zb) Q:=λhl hs0 hs1 k=>by
  rw[AM];refine Ag.bind (Cb Bb ⟨hs0,by omega⟩) λq hq=>?_;exact Ag.get hq.nn (hq.lt (by omega)) λc _ hc=>k q c hq.pos hc
 refine pg (by simp) (by omega) (by omega) λuP zb hq25 hc26=>?_;refine pg (by simp) (by omega) (by omega) λth yK hq27 hc28=>?_;refine pg (by simp) (by omega) (by omega) λvB yp hq29 hc30=>?_;refine Ag.bind (Gk Bb ⟨by omega,by omega⟩ (by simp) (by simp)) λvD hq32=>?_;have o1:=hq32.pos;have o2:=hq32.mem;simp only[lk,mK,mr]at o2;obtain⟨n,hn⟩:=mS (by omega:0<=vD.1);rw[hn];refine AU (gY (by simp;omega)) ?_;generalize hl:([Ac.mk [] 0 (AE.mk 0 0 []),zb,yK,yp].take n)=yJ;have hlen:yJ.length=n:=by rw[<- hl];simp;omega
 have rp:∀f∈yJ,f.body=⟨0,0,[]⟩/\f.params.length<=3/\(∀x∈f.params,0<=x/\x<=3)/\(0<=f.result/\f.result<=3)/\((∀x∈f.params,x=0∨x=1∨x=3)∨(f.params=[2,1]/\f.result=1)):=by
  intro f hf;rw[<- hl]at hf;have:=mq hf;simp only[lk,mK,mr]at this hc26 hc28 hc30;rcases this with rfl|rfl|rfl|rfl
  ·simp
  ·rcases hc26 with rfl|rfl|rfl|rfl|rfl|rfl<;>simp
  ·rcases hc28 with rfl|rfl|rfl|rfl|rfl|rfl<;>simp
  ·rcases hc30 with rfl|rfl|rfl|rfl<;>simp
 have P0:=sigs yJ rp (by omega) (by omega);have key:∀(k N:Nat) (z p':Int) (l:List Ac),z=(k:Int)-1->k<N->k<=4->k<=l.length->Zp l->0<=p'->p'+7000*k<=50000->Ag (EB M b q3 N z p' l) λr=>Zp r.2/\0<=r.1/\r.1<=60000:=by
  intro k
  induction k with
  | zero=>
   intro N z p' l hz hN _ _ hP g0 g1;obtain⟨N,rfl⟩ :∃m,N=m+1:=⟨N-1,by omega⟩
   rw[EB,la (by rw[lq];omega)];exact Ag.some ⟨hP,g0,by show p'<=_;omega⟩
  | succ k ih=>
   intro N z p' l hz hN h4 tm hP g0 g1;obtain⟨N,rfl⟩ :∃m,N=m+1:=⟨N-1,by omega⟩
   have hzk:z=(k:Int):=by omega
   subst hzk;rw[EB,ld (by rw[lq];omega)];have C:=CX.of hD hP.sg;refine Ag.bind (Zz C Bb hM (f:=k) (by omega) (p:=p') g0 (by omega)) λr hr=>?_;have r1:=hr.lo;have r2:=hr.hi;obtain⟨g,hg,vN⟩:=Bz (l:=l) (i:=k) (by omega);refine AU (BG hg) ?_;refine ih N (Sh.w ((k:Int)-1)) r.2 _ (BJ (by omega) (by omega)) (by omega) (by omega) (by unfold Sh.put;simp;omega) (hP.put vN hr.CZ hr.size) (by omega) (by omega)
 have k:=key n M (Sh.w ((n:Int)-1)) vD.2 yJ (BJ (by omega) (by omega)) (by omega) (by omega) (by omega) P0 (by omega) (by omega);refine Ag.bind k ?_;rintro⟨f40,yr⟩ ⟨a1,a2,a3⟩;exact Ag.some ⟨hD,a1,a2,by show f40<=_;dsimp only at a3;omega⟩
theorem Q5 {M:Nat}(hM:2000000<=M):∀(n:Nat) (l:List AE),CM l<n->CM l<=100000->DJ M n l=some l:=by
 intro n
 induction n with
 | zero=>intro l h;omega
 | succ n ih=>
  intro l hn hs;rw[DJ];unfold Hc;have hl:=Hi l;have key:∀{N i:Nat},i<=l.length->l.length-i<N->CV l (DJ M n) N i (l.take i)=some l:=by
   intro N i hi hN;refine Bh l.length (λN i=>CV l (DJ M n) N i (l.take i)=some l) ?_ ?_ hi hN
   ·intro m;rw[CV,la (by simp[AM]),nL]
   ·intro m i hi tv;obtain⟨e,he,hem⟩:=Bz hi;have h1:=H7 hem;have h2:=Fp e;rw[CV,ld (by rw[lq,AM];omega),BG he];unfold JL;simp only[lS];rw[ih e.kids (by omega) (by omega)];simp only[lS];rw[EC _ _ 40 (by simp;omega) (by simp;omega),BJ (by omega) (by omega),show ((i:Int)+1)=((i+1:Nat):Int) by omega];simp only[lS];have:(⟨e.op,e.num,e.kids⟩:AE)=e:=by cases e;rfl
    rw[this,<- D8 he];exact tv
  have:=key (mB _) (by omega:l.length-0<M);rw[nE,qU]at this;rw[this];rfl
theorem aC:∀(l:List AE) (i:Nat) (e x:AE),l[i]?=some e->CM (l.set i x)+en e=CM l+en x
 | [],i,e,x,h=>by simp at h
 | a::l,0,e,x,h=>by
  simp only[mI,lX]at h;subst h;simp only[oZ,CM];omega
 | a::l,i+1,e,x,h=>by
  have:=aC l i e x (by simpa using h);simp only[List.set_cons_succ,CM];omega
theorem gw {b:List Int}(Bb:Bk b){M:Nat}(hM:2000000<=M):∀(n:Nat) (e:AE) (p:Int),en e<n->en e<=1001->An e->0<=p->p+5*en e<=300000->Ag (Ja M n b p e) λq=>en q.1<=en e+1/\An q.1/\p<=q.2/\q.2<=p+5*en e:=by
 intro n
 induction n with
 | zero=>intro e p h;have:=F8 e;omega
 | succ n ih=>
  intro e p hn hs re h0 h1;have hee:=Fp e;have tm:=Hi e.kids;rw[Ja];unfold MG;refine Ag.bind (R:=λq:Bool×Int=>(q.1=true->0<e.kids.length)/\p<=q.2/\q.2<=p+1) ?_ ?_
  ·refine BD (λh=>?_) λ_=>Ag.some ⟨(λh=>by cases h),by show p<=p;omega,by show p<=_;omega⟩;rw[AM]at h;exact Ag.bind (Cb Bb ⟨by omega,by omega⟩) λq hq=>Ag.some ⟨λ_=>by omega,by have:=hq.pos;show p<=q.2;omega,by have:=hq.pos;show q.2<=_;omega⟩
  ·rintro⟨t4,f5⟩ ⟨g1,g2,g3⟩;dsimp only at g1 g2 g3⊢;refine Cn (λh=>?_) λ_=>?_
   ·have hk:=g1 h;refine AU (Q5 hM M e.kids (by omega) (by omega)) ?_;rw[AM];refine Ag.bind (Cb Bb ⟨by omega,by omega⟩) λq hq=>?_;have q1:=hq.pos;have q2:=hq.nn;have q3:=hq.lt (by omega);refine Ag.get q2 q3 λc hc sL=>?_;have vK:=H7 sL;refine Ag.bind (ih c q.2 (by omega) (by omega) (re.kids c sL) (by omega) (by omega)) λr ⟨r1,r2,r3,r4⟩=>?_;have tl:=aC e.kids q.1.toNat c r.1 hc;refine AU rfl (Ag.some ⟨?_,?_,by show p<=r.2;omega,by show r.2<=_;omega⟩)
    ·show en ⟨e.op,e.num,Sh.put e.kids q.1 r.1⟩<=_;unfold Sh.put;rw[Gu];omega
    ·show An ⟨e.op,e.num,Sh.put e.kids q.1 r.1⟩;refine Jq re.op re.num (λx hx=>?_) (by unfold Sh.put;simp;omega);rcases LY hx with h3|rfl
     ·exact re.kids x h3
     ·exact r2
   ·refine Ag.bind (Cb Bb ⟨by omega,by omega⟩) λsT hq19=>?_;have a1:=hq19.pos;have a2:=hq19.nn;have a3:=hq19.lt (by omega);have hp:=F8 e;have same:∀{o m:Int},G3 o->G3 m->An ⟨o,m,e.kids⟩:=λho hm=>Jq ho hm re.kids (by omega);refine BD (λ_=>?_) λ_=>?_
    ·refine Ag.bind (Cb Bb ⟨by omega,by omega⟩) λq hq=>?_;have c1:=hq.pos;have c2:=hq.nn;have c3:=hq.lt (by omega);refine AU rfl (Ag.some ⟨?_,same (Dm (by omega) (by omega)) re.num,by show p<=q.2;omega,by show q.2<=_;omega⟩);show en ⟨q.1,e.num,e.kids⟩<=_;rw[Gu];omega
    refine BD (λ_=>?_) λ_=>?_
    ·refine Ag.bind (Gk Bb ⟨by omega,by omega⟩ (by simp) (by simp)) λq hq=>?_;have c1:=hq.pos;refine AU rfl (Ag.some ⟨?_,same re.op (jU _),by show p<=q.2;omega,by show q.2<=_;omega⟩);show en ⟨e.op,Sh.w (e.num+q.1),e.kids⟩<=_;rw[Gu];omega
    refine BD (λ_=>?_) λ_=>?_
    ·refine AU (Q5 hM M e.kids (by omega) (by omega)) (AU rfl ?_);refine Ag.app (by simp;omega) (by simp;omega) (AU rfl (Ag.some ⟨?_,?_,by show p<=sT.2;omega,by show sT.2<=_;omega⟩))
     ·show en ⟨e.op,e.num,e.kids++[⟨0,1,[]⟩]⟩<=_;rw[Gu,Ix,Hf,Kz];omega
     ·show An ⟨e.op,e.num,e.kids++[⟨0,1,[]⟩]⟩;refine .mk re.op re.num (by show (e.kids++_).length<=_;simp;omega) λx hx=>?_;rcases lz.1 (show x∈e.kids++[⟨0,1,[]⟩] from hx) with h3|h3
      ·exact re.kids x h3
      ·rw[lu]at h3;rw[h3];exact Fv ⟨by omega,by omega⟩ ⟨by omega,by omega⟩
    refine BD (λ_=>?_) λ_=>?_
    ·refine Ag.bind (Gk Bb ⟨by omega,by omega⟩ (by simp) (by simp)) λq hq=>?_;have c1:=hq.pos;have c2:=hq.mem;simp only[lk,mK,mr]at c2;refine AU rfl (Ag.some ⟨?_,Fv ⟨by omega,by omega⟩ ⟨by omega,by omega⟩,by show p<=q.2;omega,by show q.2<=_;omega⟩);show en ⟨12,q.1,[]⟩<=_;rw[Kz];omega
    ·refine Ag.bind (Gk Bb ⟨by omega,by omega⟩ (by simp) (by simp)) λq hq=>?_;have c1:=hq.pos;have c2:=hq.mem;simp only[lk,mK,mr]at c2;refine AU rfl (Ag.some ⟨?_,Fv ⟨by omega,by omega⟩ ⟨by omega,by omega⟩,by show p<=q.2;omega,by show q.2<=_;omega⟩);show en ⟨0,q.1,[]⟩<=_;rw[Kz];omega
structure Xg (D:List AN):Prop where
 len:D.length<=6
 CZ :∀d∈D,Mp d
 size :∀d∈D,dz d<=20
theorem iP {f t:Int}{cs:List De}(hf:-1000000<=f/\f<=1000000)(ht:-1000000<=t/\t<=1000000)(hl:cs.length<=4)(h :∀c∈cs,c.fields.length<=4/\∀x∈c.fields,-1000000<=x/\x<=1000000):Mp ⟨f,t,cs⟩:=
 ⟨Dm hf.1 hf.2,Dm ht.1 ht.2,λc hc=>⟨Wz (h c hc).1 (h c hc).2⟩,by show cs.length<=_;omega⟩
theorem jn {f t:Int}{cs:List De}(hl:cs.length<=4)(h :∀c∈cs,c.fields.length<=4):dz ⟨f,t,cs⟩<=20:=by
 have :∀l:List De,(∀c∈l,c.fields.length<=4)->(l.map cz).sum<=4*l.length:=λl=>by
  induction l with
  | nil=>simp
  | cons c l ih=>
   intro h;have h1:=h c (by simp);have h2:=ih λc hc=>h c (by simp[hc]);simp only[mF,oJ,mN];have:cz c=c.fields.length:=rfl;omega
 have h2:=this cs h;show cs.length+(cs.map cz).sum<=20;omega
theorem Vp {f t:Int}{cs:List De}(hf:-1000000<=f/\f<=1000000)(ht:-1000000<=t/\t<=1000000)(hl:cs.length<=4)(h :∀c∈cs,c.fields.length<=4/\∀x∈c.fields,-1000000<=x/\x<=1000000):Mp ⟨f,t,cs⟩/\dz ⟨f,t,cs⟩<=20:=
 ⟨iP hf ht hl h,jn hl λc hc=>(h c hc).1⟩
theorem UP {D:List AN}(h:GD D):Xg D/\3<=D.length/\D.length<=4:=by
 have rp:∀d∈gD++gL,Mp d/\dz d<=20:=by
  intro d hd;simp only[gD,gL,pY,nJ,lk,mK,mr]at hd;rcases hd with rfl|rfl|rfl|rfl|rfl|rfl|rfl<;>exact Vp (by decide) (by decide) (by decide) (by decide)
 rcases h with rfl|⟨d,hd,rfl⟩
 ·exact⟨⟨by decide,λd hd=>(rp d (mf _ hd)).1,λd hd=>(rp d (mf _ hd)).2⟩,by decide,by decide⟩
 ·have hm:∀x∈gD++[d],x∈gD++gL:=λx hx=>by
   rcases lz.1 hx with h|h
   ·exact mf _ h
   ·rw[lu]at h;rw[h];exact nm _ hd
  exact⟨⟨by simp[gD],λx hx=>(rp x (hm x hx)).1,λx hx=>(rp x (hm x hx)).2⟩,by simp[gD],by simp[gD]⟩
theorem Xg.put {D:List AN}(h:Xg D){i:Int}{d:AN}(hd:Mp d/\dz d<=20):Xg (Sh.put D i d):=
 ⟨by unfold Sh.put;simp;exact h.len,λx hx=>(LY hx).elim (λh3=>h.CZ x h3) (λe=>by rw[e];exact hd.1),λx hx=>(LY hx).elim (λh3=>h.size x h3) (λe=>by rw[e];exact hd.2)⟩
theorem Xg.app {D E:List AN}(h:Xg D)(hl:D.length+E.length<=6)(hE :∀d∈E,Mp d/\dz d<=20):Xg (D++E):=
 ⟨by simp;omega,λx hx=>(lz.1 hx).elim (λh3=>h.CZ x h3) (λh3=>(hE x h3).1),λx hx=>(lz.1 hx).elim (λh3=>h.size x h3) (λh3=>(hE x h3).2)⟩
theorem lH {α:Type}{l:List α}{i:Nat}(h:i<=l.length):Sh.sl l (i:Int) (Sh.len l)=some (l.drop i):=by
 unfold Sh.sl;rw[AM,ld (by omega)];simp
theorem XL {b:List Int}(Bb:Bk b){p:Int}(h0:0<=p)(h1:p<=300000):Ag (JH b p) λq=>Xg q.1/\p<=q.2/\q.2<=p+10:=by
 unfold JH;refine Ag.bind (P6 Bb h0 (by omega)) λq3 ⟨hD,hq3⟩=>?_;obtain⟨O,l3,l4⟩:=UP hD;rw[AM];refine Ag.bind (Cb Bb ⟨by omega,by omega⟩) λq5 hq5=>?_;have a1:=hq5.pos;have a2:=hq5.nn;have a3:=hq5.lt (by omega);refine Ag.bind (R:=λr:Int×List AN=>Xg r.2/\p<=r.1/\r.1<=p+10) ?_ λr hr=>Ag.some ⟨hr.1,hr.2⟩;refine Ag.bind (Cb Bb ⟨by omega,by omega⟩) λsI hq12=>?_;have b1:=hq12.pos;refine BD (λ_=>?_) λ_=>?_
 ·refine Ag.bind (Gk Bb ⟨by omega,by omega⟩ (by simp) (by simp)) λx hx=>?_;have x1:=hx.pos;have x2:=hx.mem;refine Ag.bind (Gk Bb ⟨by omega,by omega⟩ (by simp) (by simp)) λy hy=>?_;have y1:=hy.pos;have y2:=hy.mem;simp only[lk,mK,mr]at x2 y2;exact Ag.get a2 a3 λc _ _=>Ag.some ⟨O.put (Vp (by omega) (by omega) (by decide) (by simp)),by show p<=y.2;omega,by show y.2<=_;omega⟩
 refine BD (λ_=>?_) λ_=>?_
 ·refine Ag.bind (Gk Bb ⟨by omega,by omega⟩ (by simp) (by simp)) λx hx=>?_;have x1:=hx.pos;have x2:=hx.mem;simp only[lk,mK,mr]at x2;refine AU rfl (AU rfl (AU rfl ?_));refine Ag.get a2 a3 λc _ _=>Ag.some ⟨O.put (Vp (by omega) (by omega) (by simp) ?_),by show p<=x.2;omega,by show x.2<=_;omega⟩;intro c hc;simp only[lk,mK,mr]at hc;rcases hc with rfl|rfl|rfl
  ·exact⟨by simp,λz hz=>by rw[lu]at hz;omega⟩
  ·exact⟨by simp,by simp⟩
  ·exact⟨by simp,by simp⟩
 refine BD (λ_=>?_) λ_=>?_
 ·refine AU rfl ?_;rw[BJ (n:=q5.1+1) (by omega) (by omega)];refine Ag.get a2 a3 λc _ _=>Ag.some ⟨O.put (Vp (by omega) (by omega) (by simp) ?_),by show p<=sI.2;omega,by show sI.2<=_;omega⟩;intro c hc;rw[lu]at hc;rw[hc];exact⟨by simp,λz hz=>by rw[lu]at hz;omega⟩
 refine BD (λ_=>?_) λ_=>?_
 ·refine Ag.bind (Gk Bb ⟨by omega,by omega⟩ (by simp) (by simp)) λx hx=>?_;have x1:=hx.pos;have x2:=hx.mem;simp only[lk,mK,mr]at x2;refine Ag.app (by simp;omega) (by simp;omega) (Ag.some ⟨O.app (by simp;omega) λd hd=>?_,by show p<=x.2;omega,by show x.2<=_;omega⟩);rw[lu]at hd;rw[hd];exact Vp (by omega) (by omega) (by simp) (by simp)
 refine BD (λ_=>?_) λ_=>?_
 ·refine Ag.bind (Cb Bb ⟨by omega,by omega⟩) λx hx=>?_;have x1:=hx.pos;have x2:=hx.nn;have x3:=hx.lt (by omega);refine AU rfl (AU rfl (AU rfl (AU rfl ?_)));refine Ag.bind (Cb Bb ⟨by omega,by omega⟩) λy hy=>?_;have y1:=hy.pos;have y2:=hy.nn;have y3:=hy.lt (by omega);obtain⟨k,hk⟩:=mS y2;rw[hk];refine AU (lH (by simp;omega)) ?_;refine Ag.get a2 a3 λc _ _=>Ag.some ⟨O.put (Vp (by omega) (by omega) (by simp) ?_),by show p<=y.2;omega,by show y.2<=_;omega⟩;intro c hc;have:=nR hc;simp only[lk,mK,mr]at this;rcases this with rfl|rfl|rfl|rfl<;>exact⟨by simp,by simp⟩
 refine BD (λ_=>?_) λ_=>?_
 ·refine Ag.app (by simp;omega) (by simp;omega) (Ag.some ⟨O.app (by simp;omega) λd hd=>?_,by show p<=sI.2;omega,by show sI.2<=_;omega⟩);simp only[lk,mK,mr]at hd;rcases hd with rfl|rfl<;>exact Vp (by omega) (by omega) (by simp) (by simp)
 ·exact Ag.some ⟨O,by show p<=sI.2;omega,by show sI.2<=_;omega⟩
structure PD (p:AP):Prop where
 decls:Xg p.decls
 KK:p.funcs.length<=5
 jW :∀f∈p.funcs,jd f
theorem P7 {α:Type}{f:α->Nat}{a:Nat}:∀(l:List α),(∀x∈l,f x<=a)->(l.map f).sum<=a*l.length
 | [],_=>by simp
 | x::l,h=>by
  have h1:=h x (by simp);have h2:=P7 l λy hy=>h y (by simp[hy]);simp only[mF,oJ,mN];rw[Nat.mul_add];omega
theorem PD.small {p:AP}(P:PD p):D9 p:=by
 refine⟨⟨⟨P.decls.CZ,by have:=P.decls.len;omega⟩,λf hf=>(P.jW f hf).CZ,by have:=P.KK;omega⟩,?_⟩;have h1:=P7 p.decls P.decls.size;have h2:=P7 (f:=YU) (a:=1010) p.funcs λf hf=>by
  have:=(P.jW f hf).par;have:=(P.jW f hf).size;have h3:=Fp f.body;show f.params.length+CM f.body.kids<=_;omega
 have h3:=P.decls.len;have h4:=P.KK;unfold TU;omega
theorem R4 {b:List Int}(Bb:Bk b){M:Nat}(hM:2000000<=M){D:List AN}{F:List Ac}(hD:GD D)(P:Zp F){p:Int}(h0:0<=p)(h1:p<=100000):Ag (G7 M b p F D) λq=>PD q.1/\0<=q.2/\q.2<=200000:=by
 obtain⟨O,l3,l4⟩:=UP hD;have hF:=P.sg.fl;have xz:=P.sg.gP;unfold G7;rw[AM];refine Ag.bind (Cb Bb ⟨by omega,by omega⟩) λq3 hq3=>?_;have a1:=hq3.pos;have a2:=hq3.nn;have a3:=hq3.lt (by omega);refine Ag.get a2 a3 λc5 _ hc5=>?_;have G:=P.ok c5 hc5;have P0:PD ⟨D,F⟩:=⟨O,by show F.length<=5;omega,P.ok⟩
 have putF:∀{g:Ac},jd g->PD ⟨D,Sh.put F q3.1 g⟩:=λhg=>⟨O,by show (Sh.put F _ _).length<=5;unfold Sh.put;simp;omega,λf hf=>(LY hf).elim (λh=>P.ok f h) (λe=>by rw[e];exact hg)⟩;refine Ag.bind (R:=λr:Int×List Ac×List AN=>PD ⟨r.2.2,r.2.1⟩/\0<=r.1/\r.1<=200000) ?_ λr hr=>Ag.some ⟨hr.1,hr.2⟩;refine Ag.bind (Cb Bb ⟨by omega,by omega⟩) λrX hq13=>?_;have b1:=hq13.pos;refine BD (λ_=>?_) λ_=>?_
 ·unfold RP;have hs:=P.sz c5 hc5;exact Ag.bind (gw Bb hM M c5.body rX.2 (by omega) (by omega) G.CZ.body (by omega) (by omega)) λr ⟨r1,r2,r3,r4⟩=>Ag.some ⟨putF ⟨⟨G.CZ.params,G.CZ.result,r2⟩,G.par,by show en r.1<=_;omega⟩,by show 0<=r.2;omega,by show r.2<=_;omega⟩
 refine BD (λ_=>?_) λ_=>?_
 ·refine Ag.bind (Gk Bb ⟨by omega,by omega⟩ (by simp) (by simp)) λx hx=>?_;have x1:=hx.pos;have x2:=hx.mem;simp only[lk,mK,mr]at x2;have hp:=P.sg.par c5 hc5;refine AU (JT (by omega) (by simp)) (Ag.some ⟨putF ⟨⟨⟨λy hy=>?_,by show (c5.params++[x.1]).length<=_;simp;omega⟩,G.CZ.result,G.CZ.body⟩,by show (c5.params++[x.1]).length<=4;simp;omega,G.size⟩,by show 0<=x.2;omega,by show x.2<=_;omega⟩);rcases lz.1 (show y∈c5.params++[x.1] from hy) with h|h
  ·exact G.CZ.params.1 y h
  ·rw[lu]at h;rw[h];exact Dm (by omega) (by omega)
 refine BD (λ_=>?_) λ_=>?_
 ·refine Ag.bind (Gk Bb ⟨by omega,by omega⟩ (by simp) (by simp)) λx hx=>?_;have x1:=hx.pos;have x2:=hx.mem;simp only[lk,mK,mr]at x2;exact Ag.some ⟨putF ⟨⟨G.CZ.params,(Dm (by omega) (by omega):G3 x.1),G.CZ.body⟩,G.par,G.size⟩,by show 0<=x.2;omega,by show x.2<=_;omega⟩
 refine BD (λ_=>?_) λ_=>?_
 ·refine Ag.bind (XL Bb (p:=rX.2) (by omega) (by omega)) λr ⟨r1,r2,r3⟩=>Ag.some ⟨⟨r1,by show F.length<=5;omega,P.ok⟩,by show 0<=r.2;omega,by show r.2<=_;omega⟩
 refine BD (λ_=>?_) λ_=>Ag.some ⟨P0,by show 0<=rX.2;omega,by show rX.2<=_;omega⟩;refine Ag.app (by simp;omega) (by simp;omega) (Ag.some ⟨⟨O,by show (F++[c5]).length<=5;simp;omega,λf hf=>?_⟩,by show 0<=rX.2;omega,by show rX.2<=_;omega⟩);rcases lz.1 (show f∈F++[c5] from hf) with h|h
 ·exact P.ok f h
 ·rw[lu]at h;rw[h];exact G
theorem Un {b:List Int}(Bb:Bk b){M:Nat}(hM:2000000<=M){p:Int}(h0:0<=p)(h1:p<=1000):Ag (H5 M b p) λq=>PD q.1/\0<=q.2/\q.2<=200000:=by
 unfold H5;refine Ag.bind (TK Bb hM h0 h1) λq ⟨q1,q2,q3,q4⟩=>?_;refine Ag.bind (R4 Bb hM q1 q2 q3 q4) λr hr=>Ag.some hr
end RC
