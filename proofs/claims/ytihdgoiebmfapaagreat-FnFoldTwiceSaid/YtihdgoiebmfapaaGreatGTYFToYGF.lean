import Derived.Test.YtihdgoiebmfapaaGreatGPlainAToTYE
set_option linter.all false
namespace RC
open Go
section
variable {p : AP} {N : Nat} {T : List Int -> AE -> Int}
theorem ZX (S:Ek p.decls p.funcs)(hN:2000000<=N)(hT:TX p N T){v:List Int}{nu:Int}{a:AE}{r:List AE}(V:VX p (.mk 8 nu (a::r)) v)(ht:T v (.mk 8 nu (a::r))≠-1)(h6:a.op=6):
  ∃(c t:Nat) (b:AE),a.num=(c:Int)/\nu=(t:Int)/\1<=t/\t<=p.decls.length/\(Bs p.decls nu)[ci p.decls nu a.num]?=some a.num/\nc (p.decls.take (t-1))+ci p.decls nu a.num=c/\r[ci p.decls nu a.num]?=some b/\ci p.decls nu a.num<=3/\(∀x∈a.kids,An x/\T v x≠-1)/\a.kids.length<=3:=by
 obtain⟨a0,r0,q1,q2,q3,q4,q5⟩:=J2 (hT.H V) V.Nh S hN rfl (hT.bi V) ht;have q1:a::r=a0::r0:=q1;obtain⟨rfl,rfl⟩:a=a0/\r=r0:=by simpa using q1
 have q3:r.length=(Bs p.decls nu).length:=q3;have q4:T v a=nu:=q4;have ry:nu≠-1:=λq=>q2 (by show Bs p.decls nu=[];rw[q];simp[Bs]);have Va:VX p a v:=V.gG (by simp[AE.kids]);obtain⟨c,t,x,c1,c2,c3,c4,c5,c6⟩:=Vb S hN hT Va h6 (by rw[q4];exact ry);obtain⟨d1,d2⟩:=To c2;obtain⟨g1,g2,d,g3,g4⟩:=Ki c2;rw[<- c3,q4,<- c1]at d1;rw[<- c3,q4,<- c1]at d2;have qG:=(jg.1 d1).1;have hb:r[ci p.decls nu a.num]?=some r[ci p.decls nu a.num]:=jl (by omega);have tB:=J0 S.QU nu;have F:=Mq S (je d1) hN;refine⟨c,t,_,c1,by rw[<- q4,c3],by omega,by omega,d1,d2,hb,by omega,λy hy=>⟨Va.CZ.kids y hy,λhq=>?_⟩,?_⟩
 ·have hy2:T v y∈a.kids.map (T v):=lD hy;rw[c4,<- c5,<- c1]at hy2;have:=Ju (F.2.2.2 _ hy2);rw[hq]at this;omega
 ·have h:=kf List.length c4;rw[kB]at h;have:=(S.LD d g3 x g4).1;omega
theorem du (S:Ek p.decls p.funcs)(hN:2000000<=N)(hT:TX p N T){v:List Int}(hv :∀x∈v,DJ p.decls x=true){l:List AE}(hl:v.length+3*CK l<=800)(hl3:l.length<=30)(hk :∀x∈l,An x/\T v x≠-1):∀(i:Nat) x,l[i]?=some x->en x<=1000/\An (sh v.length i x):=by
 intro i x hx;have hm:=je hx;have qG:=(jg.1 hx).1;have he:=Ho hm;obtain⟨h1,h2⟩:=hk x hm;have Vx:VX p x (v++[]):=⟨by simp;omega,by simpa using hv,h1⟩
 have:=(eW S hN hT v (List.replicate i 0) (λy hy=>by rw[(nM.1 hy).2];exact fK) (en x) x [] (jv _) Vx (by simp;omega) (by simpa using h2)).2;rw[mu]at this;exact⟨by omega,this⟩
theorem X3 (S:Ek p.decls p.funcs)(hN:2000000<=N)(hT:TX p N T){v:List Int}{e:AE}(V:VX p e v)(hl:v.length+3*CK e.kids<=800)(ht:T v e≠-1):
  Hh N p e v.length=some (HX p.decls v.length e.op e.num e.kids)/\JP N e.kids p.decls e.op e.num v.length=some (HX p.decls v.length e.op e.num e.kids):=by
 have hlen:=H2 e.kids;have hD:=S.NC;have hnc:=S.nc;have eta:AE.mk e.op e.num e.kids=e:=(HG e).symm;unfold Hh JP;by_cases ha:e.op=1∨e.op=2∨e.op=3∨e.op=4
 ·obtain⟨_,a,b,hk⟩:=VL hN hT V ha ht;have sL:(if decide (e.op=1)=true then some true else if decide (e.op=2)=true then some true else if decide (e.op=3)=true then some true else some (decide (e.op=4)))=some true:=by
   rcases ha with h|h|h|h<;>simp[h]
  have g0:Sh.get e.kids 0=some a:=by rw[hk];rfl
  have g1:Sh.get e.kids 1=some b:=by rw[hk];rfl
  have xm:HX p.decls v.length e.op e.num e.kids=if a.op=0/\b.op=0 then .mk 0 (Wp e.op a.num b.num) [] else e:=by
   unfold HX;rw[jm ha,eta,hk]
  rw[xm,sL,g0,g1];simp only[jd,kO];by_cases h1:a.op=0
  ·by_cases h2:b.op=0
   ·obtain⟨m0,n1,n2,n3,n4⟩:=PM S hN hT V ht (i:=0) (k:=a) (by rw[hk];rfl);obtain⟨m1,n5,n6,n7,n8⟩:=PM S hN hT V ht (i:=1) (k:=b) (by rw[hk];rfl);have ra:=Y2 hT (V.JL (by rw[hk];simp) n2 n3) h1 n4;have rb:=Y2 hT (V.JL (by rw[hk];simp) n6 n7) h2 n8;simp only[h1,h2,jx,kO,jd,and_self];rw[WB ha ra rb,V5 ha ra rb];exact⟨rfl,rfl⟩
   ·simp[h1,h2,Sh.cont,eta]
  ·simp[h1,Sh.cont,eta]
 have n1:¬ e.op=1:=λq=>ha (.inl q);have n2:¬ e.op=2:=λq=>ha (.inr (.inl q));have n3:¬ e.op=3:=λq=>ha (.inr (.inr (.inl q)));have n4:¬ e.op=4:=λq=>ha (.inr (.inr (.inr q)));by_cases h7:e.op=7
 ·obtain⟨a,b,c,hk,q2,q3,q4,q5⟩:=UQ (hT.H V) V.Nh hN h7 (hT.bi V) ht;have g0:Sh.get e.kids 0=some a:=by rw[hk];rfl
  have g1:Sh.get e.kids 1=some b:=by rw[hk];rfl
  have g2:Sh.get e.kids 2=some c:=by rw[hk];rfl
  have xm:HX p.decls v.length e.op e.num e.kids=if a.op=0 then (if a.num=0 then c else b) else e:=by
   unfold HX;rw[jn ha,jm h7,eta,hk]
  rw[xm];simp only[n1,n2,n3,n4,h7,Int.reduceEq,jx,kA,jk,kO,kH,jd];rw[g0,g1,g2];simp only[jd];by_cases h1:a.op=0
  ·by_cases h2:a.num=0
   ·simp[h1,h2,Sh.cont]
   ·simp[h1,h2,Sh.cont]
  ·rw[h7]at eta;simp[h1,Sh.cont,eta]
 by_cases h8:e.op=8
 ·obtain⟨a,r,hk,q2,q3,q4,q5⟩:=J2 (hT.H V) V.Nh S hN h8 (hT.bi V) ht;have g0:Sh.get e.kids 0=some a:=by rw[hk];rfl
  have xn:AE.mk 8 e.num e.kids=e:=by rw[<- h8];exact eta
  have V8:VX p (.mk 8 e.num (a::r)) v:=by rw[<- hk,xn];exact V
  have ht8:T v (.mk 8 e.num (a::r))≠-1:=by rw[<- hk,xn];exact ht
  have xm:HX p.decls v.length e.op e.num e.kids=if a.op=6 then (match r[ci p.decls e.num a.num]? with|some b=>lt v.length 0 a.kids b|none=>e) else e:=by
   unfold HX;rw[jn ha,jn h7,jm h8,eta,hk];rfl
  rw[xm];simp only[n1,n2,n3,n4,h7,h8,Int.reduceEq,jx,kA,jk,kO,kH,jd];rw[g0];simp only[jd];by_cases h6:a.op=6
  ·obtain⟨c,t,b,c1,c2,c3,c4,c5,c6,c7,c8,c9,sv⟩:=ZX S hN hT V8 ht8 h6;have hnt:=Gt p.decls (t-1);rw[hk]at hl hlen;simp only[CK,kQ]at hl hlen;have hae:=Fw a;have rl:=du S hN hT V.H6 (l:=a.kids) (by omega) (by omega) c9;rw[c7];simp only[h6,jx,kO];have tB:=J0 S.QU e.num;have hg:Sh.get e.kids ((1+ci p.decls e.num a.num:Nat):Int)=some b:=by
    rw[Nv,hk,show 1+ci p.decls e.num a.num=ci p.decls e.num a.num+1 by omega];exact c7
   constructor
   ·rw[BK (n:=e.num-1) (by omega) (by omega),show e.num-1=((t-1:Nat):Int) by omega,HJ (by omega) (by omega) (by omega) hN];simp only[jd];rw[BK (n:=1+a.num) (by omega) (by omega),BK (by omega) (by omega),show 1+a.num-(nc (List.take (t-1) p.decls):Int)=((1+ci p.decls e.num a.num:Nat):Int) by omega,hg];simp only[jd];rw[Wf hN (by omega) rl];rfl
   ·rw[HC (by omega) (by omega) hN];simp only[jd];rw[cD (by omega) hN c5 (λj hj=>Xt c5 hj)];simp only[jd];rw[BK (n:=1+(ci p.decls e.num a.num:Int)) (by omega) (by omega),show 1+(ci p.decls e.num a.num:Int)=((1+ci p.decls e.num a.num:Nat):Int) by omega,hg];simp only[jd];have yv:Sh.apart 0 ((1+ci p.decls e.num a.num:Nat):Int)=some ():=by unfold Sh.apart;rw[jn (by omega)]
    rw[yv];simp only[jd];rw[Tv hN (by omega) rl];rfl
  ·simp[h6,Sh.cont,xn]
 ·have xm:HX p.decls v.length e.op e.num e.kids=e:=by
   unfold HX;rw[jn ha,jn h7,jn h8,eta]
  rw[xm];simp[n1,n2,n3,n4,h7,h8,Sh.cont,eta]
theorem Ww (S:Ek p.decls p.funcs)(hN:2000000<=N)(hT:TX p N T){e:AE}{v:List Int}(V:VX p e v)(ht:T v e≠-1){i:Nat}(hi:i<e.kids.length):
  Jm N p e i v.length=some ((v.length+He p.decls e.op e.num i:Nat):Int)/\
  ((if (decide (e.op=13))=true then some (decide ((i:Int)=1)) else some false).bind λt23=>if t23=true then some (Sh.w ((v.length:Int)+1)) else (if (decide (e.op=8))=true then some (decide (0<(i:Int))) else some false).bind λt27=>if t27=true then (HP N p.decls e.num).bind λtz=>(Sh.get tz (Sh.w ((i:Int)-1))).bind λzi=>(EJ N p.decls zi).bind λsq=>some (Sh.w ((v.length:Int)+(Sh.len sq))) else some (v.length:Int))=some ((v.length+He p.decls e.op e.num i:Nat):Int):=by
 have hlv:=V.len;have hD:=S.NC;have hnc:=S.nc;have rn:=H2 e.kids;have wv:=Fw e;unfold Jm;by_cases h13:e.op=13
 ·obtain⟨a,b,q1,_⟩:=U7 (hT.H V) V.Nh h13 (hT.bi V) ht;rw[q1]at hi
  match i,hi with
  | 0,_=>simp[h13,He]
  | 1,_=>
   have hw:Sh.w ((v.length:Int)+1)=((v.length+1:Nat):Int):=by rw[BK (by omega) (by omega)];rfl
   simp[h13,He,hw]
 by_cases h8:e.op=8
 ·obtain⟨a,r,q1,q2,q3,q4,q5⟩:=J2 (hT.H V) V.Nh S hN h8 (hT.bi V) ht;rw[q1]at hi
  match i,hi with
  | 0,_=>simp[h8,He]
  | i+1,hi=>
   simp only[kQ]at hi;have tB:=J0 S.QU e.num;have hc:(Bs p.decls e.num)[i]?=some (Bs p.decls e.num)[i]:=jl (by omega);have F:=Mq S (je hc) hN;have f3:=F.2.2.1;have hx:He p.decls e.op e.num (i+1)=(Fc p.decls (Bs p.decls e.num)[i]).length:=by simp[He,h8,hc]
   have e1:Sh.w (((i+1:Nat):Int)-1)=(i:Int):=by rw[BK (by omega) (by omega)];omega
   have e2:Sh.w ((v.length:Int)+((Fc p.decls (Bs p.decls e.num)[i]).length:Int))=((v.length+He p.decls e.op e.num (i+1):Nat):Int):=by rw[BK (by omega) (by omega),hx];omega
   have n0:¬ ((i+1:Nat):Int)=0:=by omega
   have n1:(0:Int)<((i+1:Nat):Int):=by omega
   rw[e1,LX (by omega) (by omega) hN,HC (by omega) (by omega) hN];simp only[h8,n0,n1,Int.reduceEq,jx,kA,jk,kO,kH,jd];rw[BH hc];simp only[jd];rw[F.1,F.2.1];simp only[jd,AN];rw[e2,h8];exact⟨rfl,rfl⟩
 ·have hx:He p.decls e.op e.num i=0:=by simp[He,h13,h8]
  rw[hx];simp[h13,h8]
theorem fk (S:Ek p.decls p.funcs)(hN:2000000<=N)(hT:TX p N T):∀(c:Nat) (e:AE) (v:List Int),en e<=c->v.length+6*en e<=700->(∀x∈v,DJ p.decls x=true)->An e->T v e≠-1->
  Gi N c p e v.length=some (fd p.decls v.length e)/\∀F,DN N c e.kids p.decls F p.decls e.op e.num v.length=some (fd p.decls v.length e):=by
 intro c
 induction c with
 | zero=>intro e _ h;have:=G6 e;omega
 | succ c ih=>
  intro e v hc hlv hv hI ht;have VF0:VF p e v:=⟨by omega,hv,hI⟩
  obtain⟨⟨f1,f2,f3⟩,f4,f5,f6⟩:=Zj S hN hT (en e) e v (jv _) VF0 ht;have hlen:=H2 e.kids;have he:=Fw e;have sH:(Ka p.decls v.length e.op e.num 0 e.kids).length=e.kids.length:=SM _ _;generalize hL:Ka p.decls v.length e.op e.num 0 e.kids=L at *;have hLi:∀(i:Nat) k,e.kids[i]?=some k->L[i]?=some (fd p.decls (v.length+He p.decls e.op e.num i) k):=λi k hk=>by
   rw[<- hL,NZ,hk,kt];rfl
  have K:∀(i:Nat) k,e.kids[i]?=some k->Gi N c p k ((v.length+He p.decls e.op e.num i:Nat):Int)=some (fd p.decls (v.length+He p.decls e.op e.num i) k)/\∀F,DN N c k.kids p.decls F p.decls k.op k.num ((v.length+He p.decls e.op e.num i:Nat):Int)=some (fd p.decls (v.length+He p.decls e.op e.num i) k):=λi k hk=>by
   obtain⟨m,m1,m2,m3,m4⟩:=PM S hN hT VF0.x ht hk;have tj:=DE (je hk);have:=ih k (v++m) (by omega) (by rw[kD];omega) (VF0.x.JL (je hk) m2 m3).H6 (hI.kids k (je hk)) m4;rw[kD,m1]at this;exact this
  have nd:Hh N p (.mk e.op e.num L) v.length=some (HX p.decls v.length e.op e.num L)/\JP N L p.decls e.op e.num v.length=some (HX p.decls v.length e.op e.num L):=X3 S hN hT f5 (by show _+3*CK L<=800;omega) (by rw[f4];exact ht);have eta:HX p.decls v.length e.op e.num L=fd p.decls v.length e:=by rw[X5,hL]
  rw[eta]at nd;constructor
  ·rw[Gi];unfold Lt;have key:∀(M i:Nat),i<=e.kids.length->e.kids.length-i<M->FU N p e v.length (Gi N c) M i (L.take i)=some L:=by
    intro M i hi hM;refine Bo e.kids.length (λM i=>FU N p e v.length (Gi N c) M i (L.take i)=some L) ?_ ?_ hi hM
    ·intro m;rw[FU,jn (by simp[AN]),kY (by omega)]
    ·intro m i hi sU;obtain⟨k,hk,rB⟩:=CF hi;rw[FU,jm (by simp[AN];omega),BH hk];simp only[jd];rw[(Ww S hN hT VF0.x ht hi).1];simp only[jd];rw[(K i k hk).1];simp only[jd];rw[EM _ _ 40 (by simp;omega) (by simp;omega),BK (by omega) (by omega),show ((i:Int)+1)=((i+1:Nat):Int) by omega];simp only[jd];rw[<- D4 (hLi i k hk)];exact sU
   have:=key N 0 (kE _) (by omega);rw[lF,oQ]at this;rw[this];simp only[jd];rw[nd.1];rfl
  ·intro F;rw[DN];unfold G7;have key:∀(M i:Nat),i<=e.kids.length->e.kids.length-i<M->Cp N e.kids p.decls F p.decls e.op e.num v.length (DN N c) M i (L.take i++e.kids.drop i)=some L:=by
    intro M i hi hM;refine Bo e.kids.length (λM i=>Cp N e.kids p.decls F p.decls e.op e.num v.length (DN N c) M i (L.take i++e.kids.drop i)=some L) ?_ ?_ hi hM
    ·intro m;rw[Cp,jn (by simp[AN]),nY,ky,kY (by omega)]
    ·intro m i hi sU;obtain⟨k,hk,rB⟩:=CF hi;have hl:(L.take i).length=i:=by simp;omega
     have oe:Sh.get (L.take i++e.kids.drop i) (i:Int)=some k:=by
      rw[Nv,jt (by omega),hl,lW,kW,mA,hk]
     have xp:Sh.put (L.take i++e.kids.drop i) (i:Int) (fd p.decls (v.length+He p.decls e.op e.num i) k)=L.take (i+1)++e.kids.drop (i+1):=by
      rw[PH,mw _ _ (by omega),hl,lW,drop_cons hk,mf,D4 (hLi i k hk),lG];rfl
     rw[Cp,jm (by simp[AN];omega),(Ww S hN hT VF0.x ht hi).2];simp only[jd];rw[oe];simp only[jd];rw[(K i k hk).2 F];simp only[jd];rw[xp,BK (by omega) (by omega),show ((i:Int)+1)=((i+1:Nat):Int) by omega];exact sU
   have:=key N 0 (kE _) (by omega);rw[lF,lR,lj,oQ]at this;rw[this];simp only[jd];unfold Lx;rw[nd.2];rfl
end
end RC
namespace RC
open Go
def wB (p:AP)(g:Ac->AE):AP×Bool:=if (p.funcs.all λf=>decide (en (g f)<=30))=true then (.mk p.decls (p.funcs.map λf=>.mk f.params f.result (g f)),true) else (.mk [] [],false)
theorem Tx {N:Nat}(hN:2000000<=N){p:AP}{g:Ac->AE}(hd:p.decls.length<=1048576)(hz :∀d∈p.decls,dz d<=1048576)(hf:p.funcs.length<=1048576)(hb :∀f∈p.funcs,f.params.length<=1048576/\en (g f)<=1000):Hu N p (p.funcs.map g)=some (wB p g):=by
 unfold Hu;rw[Wa hd hz hN];simp only[jd];have key:∀(M i:Nat),i<=p.funcs.length->p.funcs.length-i<M->Dy N p (p.funcs.map g) M i ((p.funcs.map λf=>Ac.mk f.params f.result (g f)).take i)=some (if ((p.funcs.drop i).all λf=>decide (en (g f)<=30))=true then Sum.inr (p.funcs.map λf=>Ac.mk f.params f.result (g f)) else Sum.inl (.mk [] [],false)):=by
  intro M i hi hM;refine Bo p.funcs.length (λM i=>Dy N p (p.funcs.map g) M i ((p.funcs.map λf=>Ac.mk f.params f.result (g f)).take i)=some (if ((p.funcs.drop i).all λf=>decide (en (g f)<=30))=true then Sum.inr (p.funcs.map λf=>Ac.mk f.params f.result (g f)) else Sum.inl (.mk [] [],false))) ?_ ?_ hi hM
  ·intro m;rw[Dy,jn (by simp[AN]),kY (by simp),nY];rfl
  ·intro m i hi ih;obtain⟨f,sD,hfm⟩:=CF hi;obtain⟨hbp,hs⟩:=hb f hfm;have hze:=Fw (g f);have wy:(p.funcs.map g)[i]?=some (g f):=by rw[ji,sD];rfl
   have hm:(p.funcs.map λf=>Ac.mk f.params f.result (g f))[i]?=some (Ac.mk f.params f.result (g f)):=by rw[ji,sD];rfl
   rw[Dy,jm (by simp[AN];omega),BH wy,drop_cons sD,lx];simp only[jd];rw[Gv (by omega) hN];simp only[jd];by_cases uJ:en (g f)<=30
   ·rw[jm uJ,jn (by simp),BH sD];simp only[jd,uJ,jx,mz];have hci:FJ f.params=some f.params:=by
     unfold FJ;rw[EM _ _ _ (by simp;omega) (by simp;omega)];rfl
    rw[hci,Wn hN (by have:=Fw (g f);omega)];simp only[jd];rw[EM _ _ 72 (by simp;omega) (by simp;omega),BK (by omega) (by omega),show ((i:Int)+1)=((i+1:Nat):Int) by omega];simp only[jd];rw[<- D4 hm];exact ih
   ·rw[jn uJ];simp[uJ]
 have:=key N 0 (kE _) (by omega);rw[lF,oQ,lj]at this;rw[this];unfold wB;by_cases h:(p.funcs.all λf=>decide (en (g f)<=30))=true
 ·rw[jm h,jm h];rfl
 ·rw[jn h,jn h];rfl
theorem dQ {p:AP}{g:Ac->AE}(hp:SW p<=1048576)(h4:p.funcs.length<=4)(hz:SW p<=500000∨∀f∈p.funcs,f.params.length<=3)(hdz:p.decls.length+(p.decls.map dz).sum<=500000):SW (wB p g).1<=1048576:=by
 unfold wB;split
 ·rename_i h;rw[jq]at h;unfold SW at hp hz⊢;simp only[kB,lU];have:(p.funcs.map (Xq∘λf=>Ac.mk f.params f.result (g f))).sum<=30*p.funcs.length+1*(p.funcs.map Xq).sum:=R6 λf hf=>by
   have:=h f hf;simp only[jw]at this;have h2:=Fw (g f);show f.params.length+CK (g f).kids<=_;unfold Xq;omega
  rcases hz with hz|hz
  ·omega
  ·have h5:(p.funcs.map (Xq∘λf=>Ac.mk f.params f.result (g f))).sum<=33*p.funcs.length+0*(p.funcs.map Xq).sum:=R6 λf hf=>by
    have:=h f hf;simp only[jw]at this;have h2:=Fw (g f);have h3:=hz f hf;show f.params.length+CK (g f).kids<=_;omega
   omega
 ·simp[SW]
section
variable {p : AP} {N : Nat}
theorem RT (S:EB p)(hN:2000000<=N)(hv:Bm N p=some true):Ek p.decls p.funcs/\∃T,TX p N T/\∀f∈p.funcs,en f.body<=30/\f.params.length<=3/\(∀x∈f.params,DJ p.decls x=true)/\An f.body/\DJ p.decls f.result=true/\T f.params f.body=f.result:=by
 obtain⟨SO,T0,hT0,h⟩:=dZ S hN hv;obtain⟨T,hT⟩:=Py SO hN 340;refine⟨SO,T,hT,λf hf=>?_⟩;obtain⟨he,V,ty,hb⟩:=h f hf;have hp:=(SO.O6 f hf).1;refine⟨he,hp,V.H6,V.CZ,ty,?_⟩;have a:=(hT0 f.params f.body V.CZ (by omega) (by omega) V.H6 340 340 (by omega) (by omega)).1;have b:=(hT f.params f.body V.CZ (by omega) (by omega) V.H6 340 340 (jv _) (jv _)).1;rw[a]at b;rw[<- hb];exact (lT b).symm
def F5 (p:AP)(f:Ac):AE:=fd p.decls f.params.length f.body
theorem Ur (S:EB p)(hN:2000000<=N)(hd:p.decls.length<=1048576)(hz :∀d∈p.decls,dz d<=1048576):
  ∃b,Bm N p=some b/\EE N p=some b/\J3 N p=some (if b=true then wB p (F5 p) else (.mk [] [],false))/\II N p=some (if b=true then wB p (F5 p) else (.mk [] [],false)):=by
 obtain⟨b,e1,e2,_⟩:=Jv S hN;refine⟨b,e1,e2,?_⟩;unfold J3 II;rw[e1,e2];simp only[jd];cases b with
 | false=>exact⟨rfl,rfl⟩
 | true=>
  obtain⟨SO,T,hT,hfs⟩:=RT S hN e1;have sH:=S.LN;have hF:∀f∈p.funcs,RK N p f.body f.params.length=some (F5 p f)/\(∀F,Jb N f.body.kids p.decls F p.decls f.body.op f.body.num f.params.length=some (F5 p f))/\en (F5 p f)<=60:=λf hf=>by
   obtain⟨h1,h2,h3,h4,h5,h6⟩:=hfs f hf;have pN:T f.params f.body≠-1:=by rw[h6];have:=(Ju h5).1;omega
   have q:=fk SO hN hT N f.body f.params (by omega) (by omega) h3 h4 pN;have sz:=(Zj SO hN hT (en f.body) f.body f.params (jv _) ⟨by omega,h3,h4⟩ pN).1.2.2;exact⟨q.1,q.2,by unfold F5;omega⟩
  have hfz:=λf hf=>(hfs f hf);constructor
  ·simp only[lL,jk,kH,kO];have key:∀(M i:Nat),i<=p.funcs.length->p.funcs.length-i<M->GF N p M i ((p.funcs.map (F5 p)).take i)=some (p.funcs.map (F5 p)):=by
    intro M i hi hM;refine Bo p.funcs.length (λM i=>GF N p M i ((p.funcs.map (F5 p)).take i)=some (p.funcs.map (F5 p))) ?_ ?_ hi hM
    ·intro m;rw[GF,jn (by simp[AN]),kY (by simp)]
    ·intro m i hi ih;obtain⟨f,sD,hfm⟩:=CF hi;have hm:(p.funcs.map (F5 p))[i]?=some (F5 p f):=by rw[ji,sD];rfl
     rw[GF,jm (by simp[AN];omega),BH sD];simp only[jd];rw[AN,(hF f hfm).1];simp only[jd];rw[EM _ _ 40 (by simp;omega) (by simp;omega),BK (by omega) (by omega),show ((i:Int)+1)=((i+1:Nat):Int) by omega];simp only[jd];rw[<- D4 hm];exact ih
   have:=key N 0 (kE _) (by omega);rw[lF,oQ]at this;rw[this];simp only[jd];rw[Tx hN hd hz sH (λf hf=>⟨(S.fz hf).1,by have:=(hF f hf).2.2;omega⟩)];rfl
  ·simp only[lL,jk,kH,kO];unfold It;rw[SZ hN hd hz sH (λf hf=>⟨(S.fz hf).1,by have:=(hfs f hf).1;omega,(hfs f hf).2.2.2.1⟩)];simp only[jd];have key:∀(M i:Nat),i<=p.funcs.length->p.funcs.length-i<M->Dh N p.decls p.funcs p p M i ((p.funcs.map λf=>Ac.mk f.params f.result (F5 p f)).take i++p.funcs.drop i)=some (if ((p.funcs.drop i).all λf=>decide (en (F5 p f)<=30))=true then Sum.inr (p.funcs.map λf=>Ac.mk f.params f.result (F5 p f)) else Sum.inl (.mk [] [],false)):=by
    intro M i hi hM;refine Bo p.funcs.length (λM i=>Dh N p.decls p.funcs p p M i ((p.funcs.map λf=>Ac.mk f.params f.result (F5 p f)).take i++p.funcs.drop i)=some (if ((p.funcs.drop i).all λf=>decide (en (F5 p f)<=30))=true then Sum.inr (p.funcs.map λf=>Ac.mk f.params f.result (F5 p f)) else Sum.inl (.mk [] [],false))) ?_ ?_ hi hM
    ·intro m;rw[Dh,jn (by simp[AN]),nY,ky,kY (by simp)];rfl
    ·intro m i hi ih;obtain⟨f,sD,hfm⟩:=CF hi;obtain⟨q1,q2,q3⟩:=hF f hfm;have hl:((p.funcs.map λf=>Ac.mk f.params f.result (F5 p f)).take i).length=i:=by simp;omega
     have hm:(p.funcs.map λf=>Ac.mk f.params f.result (F5 p f))[i]?=some (Ac.mk f.params f.result (F5 p f)):=by rw[ji,sD];rfl
     have oe:Sh.get ((p.funcs.map λf=>Ac.mk f.params f.result (F5 p f)).take i++p.funcs.drop i) (i:Int)=some f:=by
      rw[Nv,jt (by omega),hl,lW,kW,mA,sD]
     have xp:Sh.put ((p.funcs.map λf=>Ac.mk f.params f.result (F5 p f)).take i++p.funcs.drop i) (i:Int) (Ac.mk f.params f.result (F5 p f))=(p.funcs.map λf=>Ac.mk f.params f.result (F5 p f)).take (i+1)++p.funcs.drop (i+1):=by
      rw[PH,mw _ _ (by omega),hl,lW,drop_cons sD,mf,D4 hm,lG];rfl
     have hget2:Sh.get ((p.funcs.map λf=>Ac.mk f.params f.result (F5 p f)).take (i+1)++p.funcs.drop (i+1)) (i:Int)=some (Ac.mk f.params f.result (F5 p f)):=by
      rw[Nv,jr (by simp;omega),kL,jm (by omega),hm]
     have hze:=Fw (F5 p f);rw[Dh,jm (by simp[AN];omega),oe,drop_cons sD,lx];simp only[jd];rw[AN,q2];simp only[jd];rw[<- drop_cons sD,xp,hget2];simp only[jd];rw[Na (by omega) hN];simp only[jd];by_cases uJ:en (F5 p f)<=30
     ·rw[jm uJ,jn (by simp),BK (by omega) (by omega),show ((i:Int)+1)=((i+1:Nat):Int) by omega];simp only[uJ,jx,mz];exact ih
     ·rw[jn uJ];simp[uJ]
   have:=key N 0 (kE _) (by omega);rw[lF,lR,lj,oQ]at this;rw[this];unfold wB;by_cases h:(p.funcs.all λf=>decide (en (F5 p f)<=30))=true
   ·rw[jm h,jm h];rfl
   ·rw[jn h,jn h];rfl
end
theorem XR {p:AP}(S:EB p){N:Nat}(hN:2000000<=N)(hv:Bm N p=some true):p.funcs.length<=4/\(∀f∈p.funcs,f.params.length<=3)/\p.decls.length+(p.decls.map dz).sum<=500000:=by
 obtain⟨SO,_⟩:=RT S hN hv;refine⟨SO.LN,λf hf=>(SO.O6 f hf).1,?_⟩;have hD:=SO.NC;have:(p.decls.map dz).sum<=100*p.decls.length+0*(p.decls.map dz).sum:=R6 λd hd=>by
  have h1:=SO.QU d hd;have h2:(d.cons.map cz).sum<=30*d.cons.length+0*(d.cons.map cz).sum:=R6 λc hc=>by
   have:=(SO.LD d hd c hc).1;unfold cz;omega
  unfold dz;omega
 omega
end RC
namespace RC
end RC
namespace RC
open Go
def jM (fi:Int)(body:AE)(n:Nat)(o nu:Int)(l:List AE):AE:=if o=9/\nu=fi then lt n 0 l (sh 0 n body) else .mk o nu l
mutual
def inl (D:List AM)(fi:Int)(body:AE)(n:Nat):AE->AE
 | .mk o nu k=>jM fi body n o nu (gB D fi body n o nu 0 k)
def gB (D:List AM)(fi:Int)(body:AE)(n:Nat)(o nu:Int):Nat->List AE->List AE
 | _,[]=>[]
 | i,e::l=>inl D fi body (n+He D o nu i) e::gB D fi body n o nu (i+1) l
end
section
variable {p : AP} {N : Nat} {T : List Int -> AE -> Int}
end
end RC
namespace RC
open Go
section
variable {p : AP} {N : Nat}
def inf (p:AP)(fi:Int)(fb f:Ac):AE:=inl p.decls fi fb.body f.params.length f.body
end
end RC
namespace RC
open Go
def GA (p:AP)(g:Ac->AE):AP:=.mk p.decls (p.funcs.map λf=>.mk f.params f.result (g f))
theorem Zq {p:AP}{g:Ac->AE}(h :∀f∈p.funcs,en (g f)<=30):wB p g=(GA p g,true):=by
 unfold wB;rw[jm (jq.2 λf hf=>by simpa using h f hf)];rfl
theorem bu {p:AP}{g:Ac->AE}:Ev (GA p g)=Ev p:=by
 unfold Ev GA;simp[AP.funcs,AP.decls,lU]
theorem Ek.GA {p:AP}{g:Ac->AE}(S:Ek p.decls p.funcs):Ek (GA p g).decls (GA p g).funcs:=
 ⟨S.NC,S.QU,S.LD,S.dc,by show (p.funcs.map _).length<=4;rw[kB];exact S.LN,λf hf=>by
  obtain⟨f0,h0,rfl⟩:=kC.1 (show f∈p.funcs.map _ from hf);exact S.O6 f0 h0⟩
theorem EB.GA {p:AP}{g:Ac->AE}(S:EB p)(h4:p.funcs.length<=4)(h3 :∀f∈p.funcs,f.params.length<=3)(hd:p.decls.length+(p.decls.map dz).sum<=500000)(hg :∀f∈p.funcs,en (g f)<=30/\An (g f)):EB (GA p g):=by
 refine⟨⟨S.CZ.decls,λf hf=>?_,?_⟩,?_⟩
 ·obtain⟨f0,h0,rfl⟩:=kC.1 (show f∈p.funcs.map _ from hf);have:=S.fin h0;exact⟨this.params,this.result,(hg f0 h0).2⟩
 ·show (p.funcs.map _).length<=_;rw[kB];omega
 ·have:=dQ (g:=g) S.size h4 (.inr h3) hd;rwa [Zq λf hf=>(hg f hf).1]at this
theorem Yd {p:AP}(S:EB p){N:Nat}(hN:2000000<=N)(SO:Ek p.decls p.funcs){T:List Int->AE->Int}(hT:TX p N T)(wv :∀f∈p.funcs,en f.body<=30):Bm N p=some (MP p&&p.funcs.all (IF p T)):=by
 have hl:=S.LN;have L1:=FC (l:=p.funcs) (CI N p) (λ_ f=>IF p T f) (λn=>by rw[CI,jn (by simp[AN])]) (λn i f hi=>by
  have qG:=(jg.1 hi).1;have hf:=je hi;obtain⟨q1,q2,q3⟩:=SO.O6 f hf;have he:=wv f hf;have ty:KQ N p f.params f.body=some (T f.params f.body):=(hT f.params f.body (S.fin hf).body (by omega) (by omega) q2 N N (by omega) (by omega)).1;rw[CI,jm (by simp[AN];omega),BH hi];simp only[jd];rw[Gv (S.fz hf).2 hN,BK (by omega) (by omega),show ((i:Int)+1)=((i+1:Nat):Int) by omega];simp only[jd];unfold IF;rw[jm he,jn (by simp),ty];by_cases hr:T f.params f.body=f.result<;>simp[he,hr]) (by omega:p.funcs.length<N)
 rw[F7]at L1;unfold Bm;rw[OG S hN];simp only[jd];cases tM:MP p with
 | false=>simp
 | true=>
  simp only[lL,jk,kH,mz];rw[L1,FD];cases p.funcs.all (IF p T)<;>rfl
theorem Yk {p:AP}(S:EB p){N:Nat}(hN:2000000<=N)(hv:Bm N p=some true):MP p=true:=by
 unfold Bm at hv;rw[OG S hN]at hv;simp only[jd]at hv;cases tM:MP p with
 | false=>rw[tM]at hv;simp at hv
 | true=>rfl
theorem Zg {p:AP}(S:EB p){N:Nat}(hN:2000000<=N)(hv:Bm N p=some true){T:List Int->AE->Int}(hT:TX p N T){g:Ac->AE}(hg :∀f∈p.funcs,en (g f)<=30/\An (g f)/\T f.params (g f)=f.result):
  Bm N (GA p g)=some true/\EE N (GA p g)=some true/\EB (GA p g)/\TX (GA p g) N T:=by
 obtain⟨SO,_⟩:=RT S hN hv;obtain⟨s1,s2,s3⟩:=XR S hN hv;have S':EB (GA p g):=S.GA s1 s2 s3 λf hf=>⟨(hg f hf).1,(hg f hf).2.1⟩;have SO':=SO.GA (g:=g);obtain⟨T',hT'⟩:=Py SO' hN 340;have eqT:∀(v:List Int) (e:AE),An e->en e<340->v.length+3*en e<=1000->(∀x∈v,DJ p.decls x=true)->T' v e=T v e:=λv e a b c d=>by
  have h1:=(hT' v e a b c d 340 340 (jv _) (jv _)).2.1;have h2:=(hT v e a b c d 340 340 (jv _) (jv _)).2.1;rw[bu,h2]at h1;exact (lT h1).symm
 have hTm:TX (GA p g) N T:=λv e a b c d n1 n2 h1 h2=>by
  have:=hT' v e a b c d n1 n2 h1 h2;rwa [eqT v e a b c d]at this
 have tM:MP (GA p g)=true:=by
  rw[<- Yk S hN hv];unfold MP GA;simp[AP.funcs,AP.decls,lU];rfl
 have hb:=Yd S' hN SO' hTm (λf hf=>by
  obtain⟨f0,h0,rfl⟩:=kC.1 (show f∈p.funcs.map _ from hf);exact (hg f0 h0).1)
 have qB:(GA p g).funcs.all (IF (GA p g) T)=true:=jq.2 λf hf=>by
  obtain⟨f0,h0,rfl⟩:=kC.1 (show f∈p.funcs.map _ from hf);obtain⟨g1,g2,g3⟩:=hg f0 h0;unfold IF;simp only[kF,jw];exact⟨g1,g3⟩
 rw[tM,qB]at hb;obtain⟨b,e1,e2,_⟩:=Jv S' hN;rw[hb]at e1;cases e1;exact⟨hb,e2,S',hTm⟩
theorem dJ {p:AP}(S:EB p){N:Nat}(hN:2000000<=N)(hv:Bm N p=some true)(hs :∀f∈p.funcs,en (F5 p f)<=30):Bm N (GA p (F5 p))=some true/\EE N (GA p (F5 p))=some true/\EB (GA p (F5 p)):=by
 obtain⟨SO,T,hT,hfs⟩:=RT S hN hv;obtain⟨a,b,c,_⟩:=Zg S hN hv hT (g:=F5 p) λf hf=>by
  obtain⟨h1,h2,h3,h4,h5,h6⟩:=hfs f hf;have pN:T f.params f.body≠-1:=by rw[h6];have:=(Ju h5).1;omega
  have q:=(Zj SO hN hT (en f.body) f.body f.params (jv _) ⟨by omega,h3,h4⟩ pN).1;exact⟨hs f hf,q.2.1,by unfold F5;rw[q.1,h6]⟩
 exact⟨a,b,c⟩
end RC
namespace RC
open Go
def cA (D:List AM)(o nu:Int)(l:List AE):Prop:=∀n,HX D n o nu l=.mk o nu l
mutual
def NR (D:List AM):AE->Prop|.mk o nu k=>cA D o nu k/\cP D k
def cP (D:List AM):List AE->Prop|[]=>True|e::l=>NR D e/\cP D l
end
theorem Yw {D:List AM}:∀{l:List AE},cP D l->∀e∈l,NR D e
 | [],_,e,h=>by cases h
 | a::l,h,e,he=>by
  unfold cP at h;rcases js.1 he with rfl|he
  ·exact h.1
  ·exact Yw h.2 e he
theorem az {D:List AM}:∀{l:List AE},(∀e∈l,NR D e)->cP D l
 | [],_=>trivial
 | a::l,h=>by unfold cP;exact⟨h a (by simp),az λe he=>h e (by simp[he])⟩
theorem Xi {D:List AM}{o nu:Int}{l:List AE}(h1:cA D o nu l)(h2 :∀k∈l,NR D k):NR D (.mk o nu l):=by unfold NR;exact⟨h1,az h2⟩
theorem NR.one {D:List AM}{e:AE}(h:NR D e):cA D e.op e.num e.kids:=by cases e;unfold NR at h;exact h.1
theorem NR.JL {D:List AM}{e k:AE}(h:NR D e)(hk:k∈e.kids):NR D k:=by cases e;unfold NR at h;exact Yw h.2 k hk
theorem gn {D:List AM}:∀(c:Nat) (e:AE) (n:Nat),en e<=c->NR D e->fd D n e=e:=by
 intro c
 induction c with
 | zero=>intro e _ h;have:=G6 e;omega
 | succ c ih=>
  intro e n hc h;have:Ka D n e.op e.num 0 e.kids=e.kids:=by
   apply lk;intro i;rw[NZ];cases hk:e.kids[i]? with
   | none=>rfl
   | some k=>
    have hm:=je hk;show some (fd D _ k)=some k;rw[ih k _ (by have:=DE hm;omega) (h.JL hm)]
  rw[X5,this,h.one n,<- HG]
theorem aR (D:List AM)(n:Nat)(o nu:Int)(l:List AE):cA D o nu l∨
  (∃a b r,l=a::b::r/\(o=1∨o=2∨o=3∨o=4)/\HX D n o nu l=.mk 0 (Wp o a.num b.num) [])∨
  (∃k,k∈l/\HX D n o nu l=k)∨
  (∃(a:AE) (r:List AE) (b:AE) (i:Nat),l=a::r/\o=8/\a.op=6/\r[i]?=some b/\HX D n o nu l=lt n 0 a.kids b):=by
 by_cases ha:o=1∨o=2∨o=3∨o=4
 ·match l with
  | []=>exact .inl λn=>by unfold HX;rw[jm ha]
  | [a]=>exact .inl λn=>by unfold HX;rw[jm ha]
  | a::b::r=>
   by_cases h:a.op=0/\b.op=0
   ·refine .inr (.inl ⟨a,b,r,rfl,ha,?_⟩);unfold HX;rw[jm ha];exact jm h
   ·refine .inl λn=>?_;unfold HX;rw[jm ha];exact jn h
 by_cases h7:o=7
 ·match l with
  | []=>exact .inl λn=>by unfold HX;rw[jn ha,jm h7]
  | [a]=>exact .inl λn=>by unfold HX;rw[jn ha,jm h7]
  | [a,b]=>exact .inl λn=>by unfold HX;rw[jn ha,jm h7]
  | a::b::c::r=>
   by_cases h:a.op=0
   ·by_cases h0:a.num=0
    ·refine .inr (.inr (.inl ⟨c,by simp,?_⟩));unfold HX;rw[jn ha,jm h7];show (if a.op=0 then (if a.num=0 then c else b) else _)=c;rw[jm h,jm h0]
    ·refine .inr (.inr (.inl ⟨b,by simp,?_⟩));unfold HX;rw[jn ha,jm h7];show (if a.op=0 then (if a.num=0 then c else b) else _)=b;rw[jm h,jn h0]
   ·refine .inl λn=>?_;unfold HX;rw[jn ha,jm h7];exact jn h
 by_cases h8:o=8
 ·match l with
  | []=>exact .inl λn=>by unfold HX;rw[jn ha,jn h7,jm h8]
  | a::r=>
   by_cases h:a.op=6
   ·cases hb:r[ci D nu a.num]? with
    | none=>
     refine .inl λn=>?_;unfold HX;rw[jn ha,jn h7,jm h8];show (if a.op=6 then (match r[ci D nu a.num]? with|some b=>lt n 0 a.kids b|none=>AE.mk o nu (a::r)) else AE.mk o nu (a::r))=_;rw[jm h,hb]
    | some b=>
     refine .inr (.inr (.inr ⟨a,r,b,_,rfl,h8,h,hb,?_⟩));unfold HX;rw[jn ha,jn h7,jm h8];show (if a.op=6 then (match r[ci D nu a.num]? with|some b=>lt n 0 a.kids b|none=>AE.mk o nu (a::r)) else AE.mk o nu (a::r))=_;rw[jm h,hb]
   ·refine .inl λn=>?_;unfold HX;rw[jn ha,jn h7,jm h8];exact jn h
 exact .inl λn=>by unfold HX;rw[jn ha,jn h7,jn h8]
theorem fq {D:List AM}{o nu nu' a k:Int}{l:List AE}(h:cA D o nu l)(hnu:o≠12->nu'=nu):cA D o nu' (l.map (sh a k)):=by
 by_cases qs:o=12
 ·intro n;unfold HX;rw[jn (by omega),jn (by omega),jn (by omega)]
 rw[hnu qs];have num0:∀x:AE,x.op=6->(sh a k x).num=x.num:=λx hx=>by rw[Pz,jn (by omega)]
 intro n;have h:=h n;unfold HX at h⊢;by_cases ha:o=1∨o=2∨o=3∨o=4
 ·rw[jm ha]at h⊢
  match l,h with
  | [],_=>rfl
  | [_],_=>rfl
  | x::y::r,h=>
   simp only[kI]at h⊢;by_cases hx:x.op=0/\y.op=0
   ·rw[jm hx]at h;have:=kf AE.op h;simp only[AE.op]at this;omega
   ·rw[jn (by rw[O7,O7];exact hx)]
 rw[jn ha]at h⊢;by_cases h7:o=7
 ·rw[jm h7]at h⊢
  match l,h with
  | [],_=>rfl
  | [_],_=>rfl
  | [_,_],_=>rfl
  | x::y::z::r,h=>
   simp only[kI]at h⊢;by_cases hx:x.op=0
   ·exfalso;rw[jm hx]at h;have:=kf en h;have e1:=G6 x;have e2:=G6 y;have e3:=G6 z;simp only[en,CK]at this;split at this<;>omega
   ·rw[jn (by rw[O7];exact hx)]
 rw[jn h7]at h⊢;by_cases h8:o=8
 ·rw[jm h8]at h⊢
  match l,h with
  | [],_=>rfl
  | x::r,h=>
   simp only[kI]at h⊢;by_cases hx:x.op=6
   ·rw[jm hx]at h;rw[jm (by rw[O7];exact hx),num0 x hx,ji];cases hb:r[ci D nu x.num]? with
    | none=>rfl
    | some b=>
     exfalso;rw[hb]at h;have hm:=Ho (je hb);have h:lt n 0 x.kids b=.mk o nu (x::r):=h;cases hk:x.kids with
     | nil=>
      rw[hk]at h;have:=kf en h;simp only[lt,en,CK]at this;omega
     | cons y ys=>
      rw[hk]at h;have:=kf AE.op h;simp only[lt,AE.op]at this;omega
   ·rw[jn (by rw[O7];exact hx)]
 ·rw[jn h8]
theorem gz {D:List AM}{a k:Int}:∀(c:Nat) (e:AE),en e<=c->NR D e->NR D (sh a k e):=by
 intro c
 induction c with
 | zero=>intro e h;have:=G6 e;omega
 | succ c ih=>
  intro e hc h;rw[S6];refine Xi (fq h.one λqs=>jn λq=>qs q.1) λx hx=>?_;obtain⟨y,hy,rfl⟩:=kC.1 hx;exact ih y (by have:=DE hy;omega) (h.JL hy)
theorem dM {D:List AM}{n:Nat}:∀(xs:List AE) (c:Nat) (b:AE),(∀x∈xs,NR D x)->NR D b->NR D (lt n c xs b)
 | [],_,b,_,hb=>hb
 | x::r,c,b,hx,hb=>by
  refine Xi (λn=>by unfold HX;rw[jn (by omega),jn (by omega),jn (by omega)]) λy hy=>?_;simp only[js,kN,kx]at hy;rcases hy with rfl|rfl
  ·exact gz (en x) x (jv _) (hx x (by simp))
  ·exact dM r (c+1) b (λz hz=>hx z (by simp[hz])) hb
theorem iA {D:List AM}:∀(c:Nat) (e:AE) (n:Nat),en e<=c->NR D (fd D n e):=by
 intro c
 induction c with
 | zero=>intro e _ h;have:=G6 e;omega
 | succ c ih=>
  intro e n hc;have K:∀k∈Ka D n e.op e.num 0 e.kids,NR D k:=λk hk=>by
   obtain⟨i,hi⟩:=jz.1 hk;rw[NZ,jo]at hi;obtain⟨k0,yS,rfl⟩:=hi;exact ih k0 _ (by have:=DE (je yS);omega)
  rw[X5];rcases aR D n e.op e.num (Ka D n e.op e.num 0 e.kids) with h|⟨a,b,r,h1,h2,h3⟩|⟨k,h1,h2⟩|⟨a,r,b,i,h1,h2,h3,h4,h5⟩
  ·rw[h n];exact Xi h K
  ·rw[h3];exact Xi (λn=>by unfold HX;rw[jn (by omega),jn (by omega),jn (by omega)]) (by simp)
  ·rw[h2];exact K k h1
  ·rw[h5];have ha:=K a (by rw[h1];simp);exact dM a.kids 0 b (λx hx=>ha.JL hx) (K b (by rw[h1];simp[je h4]))
theorem iK {D:List AM}{e:AE}{n m:Nat}:fd D m (fd D n e)=fd D n e:=gn _ _ m (jv _) (iA _ e n (jv _))
end RC
namespace RC
open Go
section
variable {p : AP} {N : Nat} {T : List Int -> AE -> Int} {e : AE} {v : List Int}
end
end RC
namespace RC
open Go
structure Bk (b:List Int):Prop where
 u8 :∀x∈b,U8 x
 len:b.length<=2000
def At (p K:Int):Prop:=0<=p/\p<=K
theorem Vj {code:List Int}(h8 :∀x∈code,U8 x)(hl:code.length<=1048576):Af (IU code) λq=>Bk q.1/\q.2=0:=by
 unfold IU;refine Af.bind (R:=λb=>Bk b) (BB (λh=>?_) λh=>?_) λb hb=>Af.some ⟨hb,rfl⟩
 ·rw[AN]at h;have e:Sh.sl code 0 2000=some (code.take 2000):=by
   unfold Sh.sl;rw[jm ⟨by decide,by decide,by omega⟩];rfl
  exact AS e (Af.some ⟨λx hx=>h8 x (kv hx),by simp;omega⟩)
 ·rw[AN]at h;exact Af.some ⟨h8,by omega⟩
theorem Pt {a n:Int}(ha:0<=a)(hn:1<=n):0<=a.tmod n/\a.tmod n<n/\a.tmod n<=a:=by
 rw[Int.tmod_eq_emod_of_nonneg ha];refine⟨Int.emod_nonneg _ (by omega),Int.emod_lt_of_pos _ (by omega),?_⟩;have:=Int.mul_ediv_add_emod a n;have h2:0<=n*(a / n):=Int.mul_nonneg (by omega) (Int.ediv_nonneg ha (by omega));omega
theorem XF {a n:Int}(ha:0<=a)(hn:1<=n):0<=a.tdiv n/\a.tdiv n<=a:=by
 rw[Int.tdiv_eq_ediv_of_nonneg ha];exact⟨Int.ediv_nonneg ha (by omega),Int.ediv_le_self _ ha⟩
theorem UK {a n:Int}(hn:n≠0):Sh.rem a n=some (a.tmod n):=by unfold Sh.rem;rw[jn hn]
theorem bB {a n:Int}(hn:n≠0):Sh.quo a n=some (Sh.w (a.tdiv n)):=by unfold Sh.quo;rw[jn hn]
structure Pk (n p:Int) (q:Int×Int):Prop where
 pos:q.2=p+1
 nn:0<=q.1
 lt:1<=n->q.1<n
 zero:n<1->q.1=0
theorem Cb {b:List Int}(B:Bk b){p n:Int}(hp:At p 1000000):Af (Az b p n) (Pk n p):=by
 obtain⟨p0,p1⟩:=hp;have hlen:=B.len;have ew:Sh.w (p+1)=p+1:=BK (by omega) (by omega);have ew2:Sh.w (p+1-1)=p:=by rw[BK (by omega) (by omega)];omega
 unfold Az;rw[ew,ew2,AN];refine Af.bind (R:=λt=>t=true↔n<1∨b.length=0) (BB (λh=>Af.some (by simp[h])) λh=>Af.some (by simp[h])) λt ht=>?_;refine Cn (λh=>?_) λh=>?_
 ·refine Af.some ⟨rfl,by show (0:Int)<=0;decide,λh1=>?_,λ_=>rfl⟩;show (0:Int)<n;omega
 ·have hn:¬ (n<1∨b.length=0):=λh1=>by rw[ht.2 h1]at h;cases h
  have yU:1<=n:=by omega
  have xH:1<=b.length:=by omega
  refine BB (λh1=>?_) λh1=>?_
  ·refine Af.get p0 h1 λc _ hc=>?_;obtain⟨c0,c1⟩:=B.u8 c hc;rw[Zs (by omega) (by omega)];obtain⟨m0,m1,_⟩:=Pt c0 yU;exact AS (UK (by omega)) (Af.some ⟨rfl,m0,λ_=>m1,λh=>absurd h (by omega)⟩)
  ·have k1:(1:Int)<=b.length:=by omega
   obtain⟨a0,a1,_⟩:=Pt p0 k1;have e7:Sh.w (p*7)=p*7:=BK (by omega) (by omega);have e73:Sh.w (p*7+3)=p*7+3:=BK (by omega) (by omega);obtain⟨d0,d1,_⟩:=Pt (a:=p*7+3) (by omega) k1;obtain⟨f0,f1⟩:=XF p0 k1;rw[e7,e73];refine AS (UK (by omega)) ?_;refine Af.get a0 a1 λc _ hc=>?_;obtain⟨c0,c1⟩:=B.u8 c hc;refine AS (UK (by omega)) ?_;refine Af.get d0 d1 λc' _ rp=>?_;obtain⟨c0',c1'⟩:=B.u8 c' rp;refine AS (bB (by omega)) ?_;rw[Zs (n:=c) (by omega) (by omega),Zs (n:=c') (by omega) (by omega),BK (n:=p.tdiv b.length) (by omega) (by omega),BK (n:=c*131) (by omega) (by omega),BK (n:=c'*1117) (by omega) (by omega),
    BK (n:=c*131+c'*1117) (by omega) (by omega),BK (n:=p*29) (by omega) (by omega),BK (n:=c*131+c'*1117+p*29) (by omega) (by omega),BK (n:=p.tdiv b.length*53) (by omega) (by omega),
    BK (n:=c*131+c'*1117+p*29+p.tdiv b.length*53) (by omega) (by omega)]
   obtain⟨x,hx⟩ :∃x,x=c*131+c'*1117+p*29+p.tdiv b.length*53:=⟨_,rfl⟩
   rw[<- hx];have x0:0<=x:=by omega
   have x1:x<=1000000000000:=by omega
   obtain⟨y0,y1⟩:=XF x0 (by decide:(1:Int)<=64);rw[BK (n:=x.tdiv 64) (by omega) (by omega)];obtain⟨z0,z1⟩:=fh x0 (by omega) y0 (by omega);obtain⟨m0,m1,_⟩:=Pt z0 yU;exact AS (UK (by omega)) (Af.some ⟨rfl,m0,λ_=>m1,λh=>absurd h (by omega)⟩)
structure On (l:List Int) (p:Int) (q:Int×Int):Prop where
 pos:q.2=p+1
 mem:q.1∈l
theorem Gc {b:List Int}(B:Bk b){p:Int}{l:List Int}(hp:At p 1000000)(hl:1<=l.length)(uP:l.length<=1000):Af (CA b p l) (On l p):=by
 unfold CA;rw[AN];refine Af.bind (Cb B hp) λq ⟨h1,h2,h3,_⟩=>?_;exact Af.get h2 (h3 (by omega)) λx _ hx=>Af.some ⟨h1,hx⟩
end RC
namespace RC
open Go
structure CX (D:List AM) (F:List Ac):Prop where
 dl:D.length<=4
 gZ:nc D<=7
 cons :∀d∈D,d.cons.length<=3
 LD :∀d∈D,∀c∈d.cons,c.fields.length<=3/\∀x∈c.fields,x=0∨x=1∨x=3
 c1:Bs D 1=[0,1]
 c3:Bs D 3=[2,3]
 f0 :∃t,Gf D 0 0=some (t,⟨[]⟩)
 f1 :∃t,Gf D 0 1=some (t,⟨[0,1]⟩)
 f2 :∃t,Gf D 0 2=some (t,⟨[]⟩)
 f3 :∃t,Gf D 0 3=some (t,⟨[3,0,3]⟩)
 arr:IL 1 1 D 0=-1
 fl:F.length<=4
 eN:1<=F.length
 par :∀f∈F,f.params.length<=3
 cl :∀f∈F,(∀x∈f.params,x=0∨x=1∨x=3)∨(f.params=[2,1]/\f.result=1)
section
variable {D : List AM} {F : List Ac}
theorem ZU (D:List AM)(i:Nat):nc (D.take i)<=nc D:=by have:=Gt D i;omega
theorem CX.Zt (C:CX D F):D.length<=1048576:=by have:=C.dl;omega
theorem CX.hH (C:CX D F):nc D<=1048576:=by have:=C.gZ;omega
theorem CX.UO (C:CX D F){t:Int}{N:Nat}(hN:2000000<=N):GG N D t=some (Bs D t):=LX C.Zt C.hH hN
theorem Pv {D:List AM}{t:Int}:∀x∈Bs D t,∃c:Nat,x=(c:Int)/\c<nc D:=by
 intro x hx;unfold Bs at hx;split at hx
 ·rename_i h;obtain⟨i,hi,rfl⟩:=kC.1 hx;rw[lp]at hi;cases hd:D[(t-1).toNat]? with
  | none=>rw[hd]at hi;simp at hi
  | some d=>
   rw[hd]at hi;simp only[mC]at hi;have h1:=LB hd;have h2:=ZU D ((t-1).toNat+1);exact⟨nc (D.take (t-1).toNat)+i,by omega,by omega⟩
 ·cases hx
theorem CX.UU (C:CX D F)(t:Int):(Bs D t).length<=3:=by
 unfold Bs;split
 ·rw[kB,nQ];cases hd:D[(t-1).toNat]? with
  | none=>simp
  | some d=>simpa using C.cons d (je hd)
 ·simp
theorem CX.fields (C:CX D F){c:Nat}(hc:c<nc D){N:Nat}(hN:2000000<=N):∃fl:List Int,Bu N D (c:Int)=some fl/\fl.length<=3/\∀x∈fl,x=0∨x=1∨x=3:=by
 obtain⟨t,x,h1,h2⟩:=G3 C.Zt C.hH hc hN;obtain⟨_,_,d,hd,hx⟩:=Ki h1;obtain⟨h3,h4⟩:=C.LD d hd x hx;exact⟨x.fields,h2,h3,h4⟩
theorem YM:∀(D:List AM) (k c:Nat) {r:Nat×Db},Gf D k c=some r->c<nc D
 | [],k,c,r,h=>by simp[Gf]at h
 | d::D,k,c,r,h=>by
  unfold Gf at h;have e:nc (d::D)=d.cons.length+nc D:=by simp[nc]
  cases hx:d.cons[c]? with
  | some y=>have:=(jg.1 hx).1;omega
  | none=>
   rw[hx]at h;have:=YM D _ _ h;omega
theorem CX.UR (C:CX D F){c t:Nat}{x:Db}(h:Gf D 0 c=some (t,x)){N:Nat}(hN:2000000<=N):Bu N D (c:Int)=some x.fields:=by
 obtain⟨t',x',h1,h2⟩:=G3 C.Zt C.hH (YM D 0 c h) hN;rw[h]at h1;cases h1;exact h2
theorem fg {l:List Int}{x:Int}(hl:l.length<=1048576){N i:Nat}(hi:i<=l.length)(hN:l.length-i<N):GC l x N i=some (if x∈l.drop i then Sum.inl true else Sum.inr ()):=by
 refine Bo l.length (λN i=>GC l x N i=some (if x∈l.drop i then Sum.inl true else Sum.inr ())) ?_ ?_ hi hN
 ·intro n;rw[GC,jn (by simp[AN])];simp
 ·intro n i hi ih;obtain⟨y,hy,_⟩:=CF hi;rw[GC,jm (by simp[AN];omega),BH hy,drop_cons hy];simp only[jd,js];rw[BK (by omega) (by omega),show ((i:Int)+1)=((i+1:Nat):Int) by omega];by_cases h:y=x
  ·simp[h]
  ·have h':¬ x=y:=λe=>h e.symm;rw[jn (by simpa using h),ih];simp[h']
theorem fF {l:List Int}{x:Int}(hl:l.length<=1048576){N:Nat}(hN:2000000<=N):J1 N l x=some (decide (x∈l)):=by
 unfold J1;have:=fg (x:=x) hl (kE _) (by omega:l.length-0<N);rw[oQ,lj]at this;rw[this];by_cases h:x∈l<;>simp[h,Sh.cont]
def Zw (D:List AM)(F:List Ac)(t x:Int):Prop:=∃(f:Nat) (g:Ac) (y:Int),x=(f:Int)/\F[f]?=some g/\g.params[g.params.length-1]?=some y/\0<g.params.length/\IL y g.result D 0=t
theorem NJ (C:CX D F){t:Int}{M:Nat}(hM:2000000<=M):Af (Hs M ⟨D,F⟩ t) λl=>l.length<=4/\∀x∈l,Zw D F t x:=by
 have hf:=C.fl;have key:∀{N i:Nat},i<=F.length->F.length-i<N->∀acc:List Int,acc.length<=i->(∀x∈acc,Zw D F t x)->Af (Eb M ⟨D,F⟩ t N i acc) λl=>l.length<=F.length/\∀x∈l,Zw D F t x:=by
  intro N i hi hN;refine Bo F.length (λN i=>∀acc:List Int,acc.length<=i->(∀x∈acc,Zw D F t x)->Af (Eb M ⟨D,F⟩ t N i acc) λl=>l.length<=F.length/\∀x∈l,Zw D F t x) ?_ ?_ hi hN
  ·intro n acc h1 h2;rw[Eb,jn (by simp[AN])];exact Af.some ⟨h1,h2⟩
  ·intro n i hi ih acc h1 h2;obtain⟨g,hg,tE⟩:=CF hi;have hp:=C.par g tE;rw[Eb,jm (by simp[AN];omega)];refine Af.bind (R:=λl=>l.length<=i+1/\∀x∈l,Zw D F t x) ?_ λl hl=>?_
   ·refine AS (BH hg) ?_;refine Af.bind (R:=λb=>b=true->Zw D F t i) ?_ λb hb=>?_
    ·refine BB (λh=>?_) λ_=>Af.some (λh=>by cases h);rw[AN]at h;have pZ:0<g.params.length:=by omega
     obtain⟨y,hy,_⟩:=CF (l:=g.params) (i:=g.params.length-1) (by omega);rw[AN,BK (by omega) (by omega),show ((g.params.length:Int)-1)=((g.params.length-1:Nat):Int) by omega];refine AS (BH hy) (AS (Ny C.Zt hM) (Af.some λh=>?_));exact⟨i,g,y,rfl,hg,hy,pZ,by simpa using h⟩
    ·refine Cn (λh=>?_) λ_=>Af.some ⟨by omega,h2⟩;refine Af.app (by simp;omega) (by simp;omega) (Af.some ⟨by simp;omega,λx hx=>?_⟩);rcases kJ.1 hx with h3|h3
     ·exact h2 x h3
     ·rw[jy]at h3;rw[h3];exact hb h
   ·rw[BK (by omega) (by omega),show ((i:Int)+1)=((i+1:Nat):Int) by omega];exact ih l hl.1 hl.2
 unfold Hs;have:=key (kE _) (by omega:F.length-0<M) [] (by simp) (by simp);rw[oQ]at this;exact Af.bind this λl hl=>Af.some ⟨by omega,hl.2⟩
theorem Lk (C:CX D F){vars:List Int}(hv:vars.length<=1000){t:Int}{M:Nat}(hM:2000000<=M):Af (Gs M ⟨D,F⟩ vars t) λ_=>True:=by
 unfold Gs;refine Af.bind (R:=λ_=>True) ?_ λb _=>Af.some jf;refine AS (JQ C.Zt) ?_;refine Cn (λ_=>Af.some jf) λ_=>?_;refine Af.bind (NJ C hM) λl _=>?_;refine BB (λ_=>Af.some jf) λ_=>?_;exact AS (fF (by omega) hM) (Af.some jf)
theorem UC {vars:List Int}(hv:vars.length<=1000){t:Int}{M:Nat}(hM:2000000<=M):Af (H3 M vars t) λl=>l.length<=1000/\∀x∈l,0<=x/\x<=1000:=by
 have key:∀{N i:Nat},i<=vars.length->vars.length-i<N->∀acc:List Int,acc.length<=i->(∀x∈acc,0<=x/\x<=1000)->Af (Dv vars t N i acc) λl=>l.length<=vars.length/\∀x∈l,0<=x/\x<=1000:=by
  intro N i hi hN;refine Bo vars.length (λN i=>∀acc:List Int,acc.length<=i->(∀x∈acc,0<=x/\x<=1000)->Af (Dv vars t N i acc) λl=>l.length<=vars.length/\∀x∈l,0<=x/\x<=1000) ?_ ?_ hi hN
  ·intro n acc h1 h2;rw[Dv,jn (by simp[AN])];exact Af.some ⟨h1,h2⟩
  ·intro n i hi ih acc h1 h2;obtain⟨y,hy,_⟩:=CF hi;rw[Dv,jm (by simp[AN];omega)];refine Af.bind (R:=λl=>l.length<=i+1/\∀x∈l,0<=x/\x<=1000) ?_ λl hl=>?_
   ·refine AS (BH hy) ?_;refine BB (λ_=>?_) λ_=>Af.some ⟨by omega,h2⟩;refine Af.app (by simp;omega) (by simp;omega) (Af.some ⟨by simp;omega,λx hx=>?_⟩);rcases kJ.1 hx with h3|h3
    ·exact h2 x h3
    ·rw[jy]at h3;omega
   ·rw[BK (by omega) (by omega),show ((i:Int)+1)=((i+1:Nat):Int) by omega];exact ih l hl.1 hl.2
 unfold H3;have:=key (kE _) (by omega:vars.length-0<M) [] (by simp) (by simp);rw[oQ]at this;exact Af.bind this λl hl=>Af.some ⟨by omega,hl.2⟩
structure GE (k P:Nat) (p:Int) (q:AE×Int):Prop where
 size:en q.1<=k
 CZ:An q.1
 lo:p<=q.2
 hi:q.2<=p+P
theorem GE.up {k k' P P':Nat}{p:Int}{q:AE×Int}(h:GE k P p q)(hk:k<=k')(hP:P<=P'):GE k' P' p q:=⟨by have:=h.size;omega,h.CZ,h.lo,by have:=h.hi;omega⟩
theorem Dg {n:Int}(h1:-1000000<=n)(h2:n<=1000000):Gw n:=⟨by omega,by omega⟩
theorem Jf {o n:Int}{k:List AE}(ho:Gw o)(hn:Gw n)(hk :∀e∈k,An e)(hl:k.length<=1000):An ⟨o,n,k⟩:=.mk ho hn (by show k.length<=_;omega) hk
theorem Gj (o n:Int)(k:List AE):en ⟨o,n,k⟩=1+CK k:=Fw _
theorem Ih:∀(a b:List AE),CK (a++b)=CK a+CK b
 | [],b=>by simp[CK]
 | x::a,b=>by have:=Ih a b;simp only[nX,CK];omega
theorem HT (e:AE):CK [e]=en e:=by simp[CK]
theorem N3 {b:List Int}(Bb:Bk b){p:Int}(h0:0<=p)(h1:p<=900000):Af (Ig b p) λq=>(-1000<=q.1/\q.1<=1000)/\q.2=p+4:=by
 unfold Ig;refine Af.bind (Cb Bb ⟨by omega,by omega⟩) λa ha=>?_;have a1:=ha.pos;have a2:=ha.nn;have a3:=ha.lt (by omega);refine Af.bind (Cb Bb ⟨by omega,by omega⟩) λc hc=>?_;have c1:=hc.pos;have c2:=hc.nn;have c3:=hc.lt (by omega);refine Af.bind (Cb Bb ⟨by omega,by omega⟩) λd hd=>?_;have d1:=hd.pos;have d2:=hd.nn;have d3:=hd.lt (by omega);refine Af.bind (Gc Bb ⟨by omega,by omega⟩ (by simp) (by simp)) λe he=>Af.some ⟨?_,by have:=he.pos;show e.2=_;omega⟩;have:=he.mem;simp only[js,kN,kx]at this;show -1000<=e.1/\e.1<=1000;omega
def bN (b:List Int)(D:List AM)(F:List Ac)(rec:List Int->Int->List Ac->List AM->Int->Option (AE×Int))(t:Int)(k P:Nat):Prop:=
 ∀p:Int,0<=p->p<=800000->Af (rec b p F D t) (GE k P p)
theorem WV {b:List Int}{rec:List Int->Int->List Ac->List AM->Int->Option (AE×Int)}{l:List Int}(hl:l.length<=3){k P:Nat}(hP:P<=1000)(qH :∀t∈l,bN b D F rec t k P){N i:Nat}(hi:i<=l.length)(hN:l.length-i<N):
  ∀(p:Int) (acc:List AE),0<=p->p<=700000+(i*P:Nat)->acc.length=i->(∀e∈acc,An e)->CK acc<=i*k->
   Af (Cy b F D l rec N i p acc) λq=>p<=q.1/\q.1<=p+((l.length-i)*P:Nat)/\q.2.length=l.length/\(∀e∈q.2,An e)/\CK q.2<=l.length*k:=by
 refine Bo l.length (λN i=>∀(p:Int) (acc:List AE),0<=p->p<=700000+(i*P:Nat)->acc.length=i->(∀e∈acc,An e)->CK acc<=i*k->
   Af (Cy b F D l rec N i p acc) λq=>p<=q.1/\q.1<=p+((l.length-i)*P:Nat)/\q.2.length=l.length/\(∀e∈q.2,An e)/\CK q.2<=l.length*k) ?_ ?_ hi hN
 ·intro n p acc h0 h1 h2 h3 h4;rw[Cy,jn (by simp[AN])];exact Af.some ⟨by show p<=p;omega,by show p<=_;omega,h2,h3,h4⟩
 ·intro n i hi ih p acc h0 h1 h2 h3 h4;obtain⟨t,ht,wm⟩:=CF hi;have hiP:i*P<=3000:=by
   have:i*P<=3*1000:=nN (by omega) hP;omega
  have e1:(l.length-i)*P=P+(l.length-(i+1))*P:=by
   rw[show l.length-i=(l.length-(i+1))+1 by omega,kP];omega
  have e2:(i+1)*P=i*P+P:=by rw[kP];omega
  have e3:(i+1)*k=i*k+k:=by rw[kP];omega
  rw[Cy,jm (by simp[AN];omega)];refine AS (BH ht) ?_;refine Af.bind (qH t wm p h0 (by omega)) λq hq=>?_;have q1:=hq.lo;have q2:=hq.hi;have q3:=hq.size;refine Af.app (by simp;omega) (by simp;omega) ?_;rw[BK (by omega) (by omega),show ((i:Int)+1)=((i+1:Nat):Int) by omega];refine (ih q.2 (acc++[q.1]) (by omega) (by omega) (by simp;omega) (λe he=>?_) (by rw[Ih,HT];omega)).mono λr hr=>⟨by have:=hr.1;omega,by have:=hr.2.1;omega,hr.2.2⟩;rcases kJ.1 he with h5|h5
  ·exact h3 e h5
  ·rw[jy]at h5;rw[h5];exact hq.CZ
theorem WS {b:List Int}{rec:List Int->Int->List Ac->List AM->Int->Option (AE×Int)}{g:Ac}{m:Nat}(hm:g.params.length=m+1)(hl:m<=2){k P:Nat}(hP:P<=1000)(qH :∀t∈g.params,bN b D F rec t k P){N i:Nat}(hi:i<=m)(hN:m-i<N):
  ∀(p:Int) (acc:List AE),0<=p->p<=700000+(i*P:Nat)->acc.length=i->(∀e∈acc,An e)->CK acc<=i*k->
   Af (Dr g b F D rec N i p acc) λq=>p<=q.1/\q.1<=p+((m-i)*P:Nat)/\q.2.length=m/\(∀e∈q.2,An e)/\CK q.2<=(m)*k:=by
 refine Bo m (λN i=>∀(p:Int) (acc:List AE),0<=p->p<=700000+(i*P:Nat)->acc.length=i->(∀e∈acc,An e)->CK acc<=i*k->
   Af (Dr g b F D rec N i p acc) λq=>p<=q.1/\q.1<=p+((m-i)*P:Nat)/\q.2.length=m/\(∀e∈q.2,An e)/\CK q.2<=(m)*k) ?_ ?_ hi hN
 ·intro n p acc h0 h1 h2 h3 h4;rw[Dr,BK (by omega) (by omega),jn (by rw[jw,AN];omega)];exact Af.some ⟨by show p<=p;omega,by show p<=_;omega,h2,h3,h4⟩
 ·intro n i hi ih p acc h0 h1 h2 h3 h4;obtain⟨t,ht,wm⟩:=CF (l:=g.params) (i:=i) (by omega);have hiP:i*P<=3000:=by
   have:i*P<=3*1000:=nN (by omega) hP;omega
  have e1:(m-i)*P=P+(m-(i+1))*P:=by
   rw[show m-i=(m-(i+1))+1 by omega,kP];omega
  have e2:(i+1)*P=i*P+P:=by rw[kP];omega
  have e3:(i+1)*k=i*k+k:=by rw[kP];omega
  rw[Dr,BK (by omega) (by omega),jm (by rw[jw,AN];omega)];refine AS (BH ht) ?_;refine Af.bind (qH t wm p h0 (by omega)) λq hq=>?_;have q1:=hq.lo;have q2:=hq.hi;have q3:=hq.size;refine Af.app (by simp;omega) (by simp;omega) ?_;rw[show ((i:Int)+1)=((i+1:Nat):Int) by omega];refine (ih q.2 (acc++[q.1]) (by omega) (by omega) (by simp;omega) (λe he=>?_) (by rw[Ih,HT];omega)).mono λr hr=>⟨by have:=hr.1;omega,by have:=hr.2.1;omega,hr.2.2⟩;rcases kJ.1 he with h5|h5
  ·exact h3 e h5
  ·rw[jy]at h5;rw[h5];exact hq.CZ
theorem Fs {o n:Int}(ho:-1000000<=o/\o<=1000000)(hn:-1000000<=n/\n<=1000000):An ⟨o,n,[]⟩:=Jf (Dg ho.1 ho.2) (Dg hn.1 hn.2) (by simp) (by simp)
theorem et (C:CX D F){b:List Int}(Bb:Bk b){M:Nat}(hM:2000000<=M){t:Int}(ht:t=0∨t=1∨t=3)(n:Nat):bN b D F (Dd M (n+1)) t 1 6:=by
 intro p h0 h1;rw[Dd];unfold Hq;refine AS (C.UO hM) ?_;have data:∀(c:Nat) (fs:List Int),Bs D t=[(c:Int),((c+1:Nat):Int)]->c<=10->Bu M D (c:Int)=some []->Bu M D ((c+1:Nat):Int)=some fs->t∈fs->fs.length<=3->
   Af ((Sh.get (Bs D t) 0).bind λc8=>
  (
   Option.bind (
    if (decide (1<(Sh.len (Bs D t))))=true then
     (Az b p 4).bind λuY=>
     some (decide (uY.1=0),uY.2)
    else
     some (false,p)
   ) λ(t41,f42)=>
   if t41=true then
    (Sh.get (Bs D t) 1).bind λc45=>
    some (c45,f42)
   else
    some (c8,f42)
  ).bind λ(sv,f11)=>
  (
   Option.bind (Bu M D sv) λwe=>
   (J1 M we t).bind λsP=>
   if sP=true then
    some c8
   else
    some sv
  ).bind λqw=>
  (Bu M D qw).bind λrH=>
  (Cy b F D rH (Dd M n) M 0 f11 []).bind λ(f24,yH)=>
  (Be 6 qw yH).bind λqm=>
  some (qm,f24)) (GE 1 6 p):=by
  intro c fs tB hc wL sD pt sH;rw[tB];refine AS (show Sh.get [(c:Int),((c+1:Nat):Int)] 0=some (c:Int) from rfl) ?_;refine Af.bind (R:=λq=>(q.1=(c:Int)∨q.1=((c+1:Nat):Int))/\q.2=p+1) ?_ ?_
  ·rw[jm (by simp[AN])];refine Af.bind (R:=λq:Bool×Int=>q.2=p+1) (Af.bind (Cb Bb ⟨by omega,by omega⟩) λq hq=>Af.some hq.pos) ?_;rintro⟨t41,f42⟩ hf;dsimp only at hf⊢;refine Cn (λ_=>?_) λ_=>Af.some ⟨.inl rfl,hf⟩;exact AS (show Sh.get [(c:Int),((c+1:Nat):Int)] 1=some ((c+1:Nat):Int) from rfl) (Af.some ⟨.inr rfl,hf⟩)
  ·rintro⟨sv,f11⟩ ⟨hc10,hf⟩;dsimp only at hc10 hf⊢;refine Af.bind (R:=λqw=>qw=(c:Int)) ?_ ?_
   ·rcases hc10 with rfl|rfl
    ·refine AS wL (AS (fF (by simp) hM) ?_);exact Cn (λ_=>Af.some rfl) λ_=>Af.some rfl
    ·refine AS sD (AS (fF (by omega) hM) ?_);rw[jm (by simpa using pt)];exact Af.some rfl
   ·rintro qw rfl;refine AS wL ?_;obtain⟨M',rfl⟩ :∃m,M=m+1:=⟨M-1,by omega⟩
    rw[Cy,jn (by simp[AN])];refine AS rfl (AS rfl (Af.some ⟨?_,Fs ⟨by omega,by omega⟩ ⟨by omega,by omega⟩,?_,?_⟩))
    ·rw[Gj];simp[CK]
    ·show p<=f11;omega
    ·show f11<=_;omega
 rcases ht with rfl|rfl|rfl
 ·have e:Bs D 0=[]:=by unfold Bs;rw[jn (by omega)]
  rw[e,jn (by simp[AN])];refine Af.bind (NJ C hM) λl _=>?_;refine AS (show _=some false from jn (by simp)) ?_;simp only[jk,kH];refine Af.bind (N3 Bb h0 (by omega)) λq hq=>AS rfl (Af.some ⟨?_,Fs ⟨by omega,by omega⟩ ⟨by omega,by omega⟩,?_,?_⟩)
  ·rw[Gj];simp[CK]
  ·show p<=q.2;omega
  ·show q.2<=_;omega
 ·obtain⟨t0,k0⟩:=C.f0;obtain⟨t1,k1⟩:=C.f1;rw[jm (by rw[C.c1];simp[AN])];exact data 0 [0,1] C.c1 (by omega) (C.UR k0 hM) (C.UR k1 hM) (by simp) (by simp)
 ·obtain⟨t0,k0⟩:=C.f2;obtain⟨t1,k1⟩:=C.f3;rw[jm (by rw[C.c3];simp[AN])];exact data 2 [3,0,3] C.c3 (by omega) (C.UR k0 hM) (C.UR k1 hM) (by simp) (by simp)
end
end RC
namespace RC
open Go
section
variable {D : List AM} {F : List Ac}
theorem WL (C:CX D F){b:List Int}(Bb:Bk b){M:Nat}(hM:2000000<=M)(t:Int)(n:Nat){p:Int}(h0:0<=p)(h1:p<=600000):Af (Dd M (n+2) b p F D t) (GE 4 20 p):=by
 have qH:∀t,(t=0∨t=1∨t=3)->bN b D F (Dd M (n+1)) t 1 6:=λt ht=>et C Bb hM ht n;rw[Dd];unfold Hq;refine AS (C.UO hM) ?_;have hc3:=C.UU t;refine BB (λpZ=>?_) λ_=>?_
 ·rw[AN]at pZ;refine Af.get (by omega) (by omega) λc8 _ hc8=>?_;refine Af.bind (R:=λq=>q.1∈Bs D t/\p<=q.2/\q.2<=p+1) ?_ ?_
  ·refine Af.bind (R:=λq:Bool×Int=>(q.1=true->1<(Bs D t).length)/\p<=q.2/\q.2<=p+1) ?_ ?_
   ·refine BB (λh2=>?_) λ_=>Af.some ⟨(λh=>by cases h),by show p<=p;omega,by show p<=_;omega⟩;rw[AN]at h2;exact Af.bind (Cb Bb ⟨by omega,by omega⟩) λq hq=>Af.some ⟨λ_=>by omega,by have:=hq.pos;show p<=q.2;omega,by have:=hq.pos;show q.2<=_;omega⟩
   ·rintro⟨t41,f42⟩ ⟨g1,g2,g3⟩;dsimp only at g1 g2 g3⊢;refine Cn (λh=>?_) λ_=>Af.some ⟨hc8,g2,g3⟩;refine Af.get (by omega) (by have:=g1 h;omega) λc45 _ hc45=>Af.some ⟨hc45,g2,g3⟩
  ·rintro⟨sv,f11⟩ ⟨hc10,g2,g3⟩;dsimp only at hc10 g2 g3⊢;refine Af.bind (R:=λqw=>qw∈Bs D t) ?_ ?_
   ·obtain⟨c,rfl,hc⟩:=Pv _ hc10;obtain⟨fl,e1,e2,_⟩:=C.fields hc hM;refine AS e1 (AS (fF (by omega) hM) ?_);exact Cn (λ_=>Af.some hc8) λ_=>Af.some hc10
   ·intro qw hc14;obtain⟨c,rfl,hc⟩:=Pv _ hc14;obtain⟨fl,e1,e2,e3⟩:=C.fields hc hM;have hn:=C.gZ;refine AS e1 ?_;have:=WV (D:=D) (F:=F) (b:=b) (rec:=Dd M (n+1)) e2 (k:=1) (P:=6) (by omega) (λt ht=>qH t (e3 t ht)) (N:=M) (kE _) (by omega) f11 [] (by omega) (by omega) rfl (by simp) (by simp[CK]);refine Af.bind this ?_;rintro⟨f24,yH⟩ ⟨a1,a2,a3,a4,a5⟩;dsimp only at a1 a2 a3 a4 a5⊢;refine AS rfl (Af.some ⟨by rw[Gj];omega,Jf (Dg (by omega) (by omega)) (Dg (by omega) (by omega)) a4 (by omega),by show p<=f24;omega,by show f24<=_;omega⟩)
 ·refine Af.bind (NJ C hM) λl hl=>?_;have hF:=C.fl;refine Af.bind (R:=λt52=>t52=true->0<t/\0<l.length) ?_ λt52 ht52=>?_
  ·refine BB (λh=>Af.some λh2=>⟨h,by rw[jw,AN]at h2;omega⟩) λ_=>Af.some λh=>by cases h
  ·refine Cn (λh=>?_) λ_=>?_
   ·obtain⟨uL,vb⟩:=ht52 h;rw[AN];refine Af.bind (Cb Bb ⟨by omega,by omega⟩) λq hq=>?_;have q1:=hq.pos;have q2:=hq.nn;have q3:=hq.lt (by omega);refine Af.get q2 q3 λuF _ hc57=>?_;obtain⟨f,g,y,rfl,hg,hy,hgp,ha⟩:=hl.2 uF hc57;have tE:=je hg;have sH:=(jg.1 hg).1;have hp3:=C.par g tE;refine AS (BH hg) ?_;have htys:∀x∈g.params,x=0∨x=1∨x=3:=by
     rcases C.cl g tE with h2|⟨h2,h3⟩
     ·exact h2
     ·exfalso;rw[h2]at hy;have:y=1:=by simpa using hy.symm
      rw[this,h3,C.arr]at ha;omega
    obtain⟨m,hm⟩ :∃m,g.params.length=m+1:=⟨g.params.length-1,by omega⟩
    have:=WS (D:=D) (F:=F) (b:=b) (rec:=Dd M (n+1)) hm (by omega) (k:=1) (P:=6) (by omega) (λt ht=>qH t (htys t ht)) (N:=M) (kE _) (by omega) q.2 [] (by omega) (by omega) rfl (by simp) (by simp[CK]);refine Af.bind this ?_;rintro⟨f66,l67⟩ ⟨a1,a2,a3,a4,a5⟩;dsimp only at a1 a2 a3 a4 a5⊢;refine AS rfl (Af.some ⟨by rw[Gj];omega,Jf (Dg (by omega) (by omega)) (Dg (by omega) (by omega)) a4 (by omega),by show p<=f66;omega,by show f66<=_;omega⟩)
   ·refine Af.bind (N3 Bb h0 (by omega)) λq hq=>AS rfl (Af.some ⟨?_,Fs ⟨by omega,by omega⟩ ⟨by omega,by omega⟩,?_,?_⟩)
    ·rw[Gj];simp[CK]
    ·show p<=q.2;omega
    ·show q.2<=_;omega
theorem Ly (C:CX D F){b:List Int}(Bb:Bk b){M:Nat}(hM:2000000<=M){vars:List Int}(hv:vars.length<=1000)(t:Int){p:Int}(h0:0<=p)(h1:p<=500000):Af (HY M b p F D vars t) (GE 4 22 p):=by
 unfold HY;refine Af.bind (UC hv hM) λl hl=>?_;refine Af.bind (R:=λq:Bool×Int=>(q.1=true->0<l.length)/\p<=q.2/\q.2<=p+1) ?_ ?_
 ·refine BB (λh=>?_) λ_=>Af.some ⟨(λh=>by cases h),by show p<=p;omega,by show p<=_;omega⟩;rw[AN]at h;refine Af.bind (Cb Bb ⟨by omega,by omega⟩) λq hq=>?_;have q1:=hq.pos;refine BB (λ_=>Af.some ⟨λ_=>by omega,by show p<=q.2;omega,by show q.2<=_;omega⟩) λ_=>?_;exact Af.bind (Lk C (by simp) hM) λ_ _=>Af.some ⟨λ_=>by omega,by show p<=q.2;omega,by show q.2<=_;omega⟩
 ·rintro⟨t6,f7⟩ ⟨g1,g2,g3⟩;dsimp only at g1 g2 g3⊢;refine Cn (λh=>?_) λ_=>?_
  ·have vb:=g1 h;rw[AN];refine Af.bind (Cb Bb ⟨by omega,by omega⟩) λq hq=>?_;have q1:=hq.pos;have q2:=hq.nn;have q3:=hq.lt (by omega);refine Af.get q2 q3 λc _ hc=>?_;have:=hl.2 c hc;refine AS rfl (Af.some ⟨by rw[Gj];simp[CK],Fs ⟨by omega,by omega⟩ ⟨by omega,by omega⟩,by show p<=q.2;omega,by show q.2<=_;omega⟩)
  ·unfold MM;obtain⟨m,rfl⟩ :∃m,M=m+2:=⟨M-2,by omega⟩
   refine Af.bind (WL C Bb hM t m (p:=f7) (by omega) (by omega)) λq hq=>Af.some ⟨hq.size,hq.CZ,by have:=hq.lo;show p<=q.2;omega,by have:=hq.hi;show q.2<=_;omega⟩
theorem Xm (C:CX D F){b:List Int}(Bb:Bk b){M:Nat}(hM:2000000<=M){vars:List Int}(hv:vars.length<=1000){p:Int}(h0:0<=p)(h1:p<=500000):Af (Jk M b p F D vars) λq=>q.2=p+1:=by
 unfold Jk;refine Af.bind (Gc Bb ⟨by omega,by omega⟩ (by simp) (by simp)) λq hq=>?_;refine Af.bind (R:=λ_=>True) ?_ λt6 _=>Cn (λ_=>Af.some hq.pos) λ_=>Af.some hq.pos;refine BB (λ_=>Af.some jf) λ_=>?_;exact Af.bind (Lk C hv hM) λ_ _=>Af.some jf
theorem WU (C:CX D F){t:Int}{M:Nat}(hM:2000000<=M):Af (I7 M ⟨D,F⟩ t) λl=>l.length<=4/\∀x∈l,0<=x/\x<(F.length:Int):=by
 have hf:=C.fl;have sD:=C.eN;have L2:∀(g:Ac),g.params.length<=3->∀{N i:Nat},i<=g.params.length->g.params.length-i<N->∀ok:Bool,Af (EY M g ⟨D,F⟩ N ok i) λ_=>True:=by
  intro g hg N i hi hN;refine Bo g.params.length (λN i=>∀ok:Bool,Af (EY M g ⟨D,F⟩ N ok i) λ_=>True) ?_ ?_ hi hN
  ·intro n ok;rw[EY,jn (by simp[AN])];exact Af.some jf
  ·intro n i hi ih ok;obtain⟨y,hy,_⟩:=CF hi;rw[EY,jm (by rw[jw,AN];omega),BK (by omega) (by omega),show ((i:Int)+1)=((i+1:Nat):Int) by omega];refine Af.bind (R:=λ_=>True) ?_ λok _=>ih ok;refine Cn (λ_=>?_) λ_=>Af.some jf;refine AS (BH hy) (Af.bind (Lk C (by simp) hM) λ_ _=>Af.some jf)
 have key:∀{N i:Nat},i<=F.length->F.length-i<N->∀acc:List Int,acc.length<=i->(∀x∈acc,0<=x/\x<(F.length:Int))->Af (EZ M ⟨D,F⟩ t N i acc) λl=>l.length<=F.length/\∀x∈l,0<=x/\x<(F.length:Int):=by
  intro N i hi hN;refine Bo F.length (λN i=>∀acc:List Int,acc.length<=i->(∀x∈acc,0<=x/\x<(F.length:Int))->Af (EZ M ⟨D,F⟩ t N i acc) λl=>l.length<=F.length/\∀x∈l,0<=x/\x<(F.length:Int)) ?_ ?_ hi hN
  ·intro n acc h1 h2;rw[EZ,jn (by simp[AN])];exact Af.some ⟨h1,h2⟩
  ·intro n i hi ih acc h1 h2;obtain⟨g,hg,tE⟩:=CF hi;have hp:=C.par g tE;rw[EZ,jm (by rw[jw,AN];show (i:Int)<(F.length:Int);omega),BK (by omega) (by omega),show ((i:Int)+1)=((i+1:Nat):Int) by omega];refine Af.bind (R:=λl=>l.length<=i+1/\∀x∈l,0<=x/\x<(F.length:Int)) ?_ λl hl=>ih l hl.1 hl.2;refine AS (BH hg) ?_;have:=L2 g hp (N:=M) (kE _) (by omega) (decide (g.result=t));refine Af.bind this λok _=>?_;refine Cn (λ_=>?_) λ_=>Af.some ⟨by omega,h2⟩;refine Af.app (by simp;omega) (by simp;omega) (Af.some ⟨by simp;omega,λx hx=>?_⟩);rcases kJ.1 hx with h3|h3
   ·exact h2 x h3
   ·rw[jy]at h3;omega
 unfold I7;have:=key (i:=1) sD (by omega:F.length-1<M) [] (by simp) (by simp);rw[show ((1:Nat):Int)=1 from rfl]at this;exact Af.bind this λl hl=>Af.some ⟨by omega,hl.2⟩
def GP (d:Nat):Nat:=if d=0 then 4 else 9*d-5
def EV (d:Nat):Nat:=if d=0 then 35 else 80*d-45
theorem L0 {r d n:Nat}(h1:1<=r)(h3:r<=3)(hn:3<=n)(hd:d*r<=n-1):5+r*GP d<=GP n/\40+r*EV d<=EV n:=by
 have tK:¬ n=0:=by omega
 unfold GP EV;rw[jn tK,jn tK];obtain rfl|rfl|rfl:r=1∨r=2∨r=3:=by omega
 all_goals
  by_cases h:d=0
  ·rw[jm h,jm h];omega
  ·rw[jn h,jn h];omega
theorem RQ (d:Nat):4<=GP d:=by unfold GP;split<;>omega
theorem SI (d:Nat):35<=EV d:=by unfold EV;split<;>omega
theorem fC {d:Nat}(h:d<=20):EV d<=1600:=by unfold EV;split<;>omega
abbrev W9:=List Int->Int->List Ac->List AM->List Int->Int->Int->Option (AE×Int)
def RG (b:List Int)(D:List AM)(F:List Ac)(rec:W9)(n:Nat):Prop:=
 ∀(d:Nat) (vars:List Int) (t p:Int),d<n->d<=20->vars.length+3*d<=400->0<=p->p+(EV d:Int)<=400000->Af (rec b p F D vars t (d:Int)) (GE (GP d) (EV d) p)
structure GL (m k P:Nat) (p:Int) (q:List AE×Int):Prop where
 len:q.1.length=m
 size:CK q.1<=k
 CZ :∀e∈q.1,An e
 lo:p<=q.2
 hi:q.2<=p+P
theorem br (a b:Nat):Int.tdiv (a:Int) (b:Int)=((a / b:Nat):Int):=rfl
theorem YK {a b:Nat}(hb:b≠0)(ha:a<=1000000):Sh.quo (a:Int) (b:Int)=some ((a / b:Nat):Int):=by
 have h:=mZ a b;rw[bB (by omega),br];generalize a / b=c at h⊢;rw[BK (by omega) (by omega)]
theorem Tj {b:List Int}{rec:W9}{n:Nat}(R:RG b D F rec n){vars types:List Int}(ht:types.length<=3){bud:Nat}(hb:bud<=20){d:Nat}(hd:types.length≠0->bud / types.length=d)(vd:d<n)(hd20:d<=20)(hv:vars.length+3*d<=400){M:Nat}(hM:2000000<=M){p:Int}(h0:0<=p)(h1:p+(types.length*EV d:Nat)<=400000):
  Af (Fk M rec b p F D vars types (bud:Int)) (GL types.length (types.length*GP d) (types.length*EV d) p):=by
 have key:∀{N i:Nat},i<=types.length->types.length-i<N->∀(q:Int) (acc:List AE),p<=q->q<=p+(i*EV d:Nat)->acc.length=i->(∀e∈acc,An e)->CK acc<=i*GP d->
   Af (FN b F D vars types (bud:Int) rec N i q acc) λr=>p<=r.1/\r.1<=p+(types.length*EV d:Nat)/\r.2.length=types.length/\(∀e∈r.2,An e)/\CK r.2<=types.length*GP d:=by
  intro N i hi hN;refine Bo types.length (λN i=>∀(q:Int) (acc:List AE),p<=q->q<=p+(i*EV d:Nat)->acc.length=i->(∀e∈acc,An e)->CK acc<=i*GP d->
   Af (FN b F D vars types (bud:Int) rec N i q acc) λr=>p<=r.1/\r.1<=p+(types.length*EV d:Nat)/\r.2.length=types.length/\(∀e∈r.2,An e)/\CK r.2<=types.length*GP d) ?_ ?_ hi hN
  ·intro n q acc g1 g2 g3 g4 g5;rw[FN,jn (by simp[AN])];exact Af.some ⟨g1,g2,g3,g4,g5⟩
  ·intro n i hi ih q acc g1 g2 g3 g4 g5;obtain⟨t,uz,_⟩:=CF hi;have e2:(i+1)*EV d=i*EV d+EV d:=by rw[kP];omega
   have e3:(i+1)*GP d=i*GP d+GP d:=by rw[kP];omega
   have e4:(i+1)*EV d<=types.length*EV d:=kS _ hi;rw[FN,jm (by rw[jw,AN];omega),BK (n:=(i:Int)+1) (by omega) (by omega),show ((i:Int)+1)=((i+1:Nat):Int) by omega];refine AS (BH uz) ?_;rw[AN];refine AS (YK (by omega) (by omega)) ?_;rw[hd (by omega)];refine Af.bind (R d vars t q vd hd20 hv (by omega) (by omega)) λr hr=>?_;have r1:=hr.lo;have r2:=hr.hi;have r3:=hr.size;refine Af.app (by simp;omega) (by simp;omega) ?_;refine ih r.2 (acc++[r.1]) (by omega) (by omega) (by simp;omega) (λe he=>?_) (by rw[Ih,HT];omega);rcases kJ.1 he with h5|h5
   ·exact g4 e h5
   ·rw[jy]at h5;rw[h5];exact hr.CZ
 unfold Fk;have:=key (kE _) (by omega:types.length-0<M) p [] (by omega) (by omega) rfl (by simp) (by simp[CK]);rw[oQ]at this;refine Af.bind this ?_;rintro⟨f,l⟩ ⟨a1,a2,a3,a4,a5⟩;exact Af.some ⟨a3,a5,a4,a1,a2⟩
theorem W5 {r d n P:Nat}{p q0 o m:Int}{l:List AE}{q:Int}(ho:-1000000<=o/\o<=1000000)(hm:-1000000<=m/\m<=1000000)(h3:r<=3)(hn:3<=n)(hd:d*r<=n-1)(hq:p<=q0/\q0<=p+P)(hP:P<=40)(g:GL r (r*GP d) (r*EV d) q0 (l,q)):GE (GP n) (EV n) p (⟨o,m,l⟩,q):=by
 have s1:=g.size;have s2:=g.lo;have s3:=g.hi;have s4:=g.len;dsimp only at s1 s2 s3 s4;have yU:=RQ n;have uR:=SI n;refine⟨?_,Jf (Dg ho.1 ho.2) (Dg hm.1 hm.2) g.CZ (by omega),by show p<=q;omega,?_⟩
 ·rw[Gj];rcases lv r with rfl|hr
  ·omega
  ·have:=(L0 (d:=d) hr h3 hn hd).1;omega
 ·show q<=_;rcases lv r with rfl|hr
  ·have:40<=EV n:=by unfold EV;rw[jn (by omega)];omega
   omega
  ·have:=(L0 (d:=d) hr h3 hn hd).2;omega
end
end RC
namespace RC
open Go
section
variable {D : List AM} {F : List Ac}
theorem TL (C:CX D F){b:List Int}{rec:W9}{n:Nat}(R:RG b D F rec n){vars:List Int}(uf:3<=n)(hn:n<=20)(hv:vars.length+3*n<=400){t d0:Int}{r d:Nat}(hr:(Bs D d0).length=r)(hd:r≠0->(n-2) / r=d)(vd:d+1<=n){M:Nat}(hM:2000000<=M){p:Int}(h0:0<=p)(h1:p+(r*EV d:Nat)<=400000){k0:Nat}{e0:AE}(yS:en e0<=k0)(vF:An e0):
  Af (D5 M b F D vars t (n:Int) (Bs D d0) rec M 0 p [e0]) λq=>p<=q.1/\q.1<=p+(r*EV d:Nat)/\q.2.length=r+1/\(∀e∈q.2,An e)/\CK q.2<=k0+r*GP d:=by
 have hr3:=C.UU d0;have key:∀{N i:Nat},i<=(Bs D d0).length->(Bs D d0).length-i<N->∀(q:Int) (acc:List AE),p<=q->q<=p+(i*EV d:Nat)->acc.length=i+1->(∀e∈acc,An e)->CK acc<=k0+i*GP d->
   Af (D5 M b F D vars t (n:Int) (Bs D d0) rec N i q acc) λq=>p<=q.1/\q.1<=p+(r*EV d:Nat)/\q.2.length=r+1/\(∀e∈q.2,An e)/\CK q.2<=k0+r*GP d:=by
  intro N i hi hN;refine Bo (Bs D d0).length (λN i=>∀(q:Int) (acc:List AE),p<=q->q<=p+(i*EV d:Nat)->acc.length=i+1->(∀e∈acc,An e)->CK acc<=k0+i*GP d->
   Af (D5 M b F D vars t (n:Int) (Bs D d0) rec N i q acc) λq=>p<=q.1/\q.1<=p+(r*EV d:Nat)/\q.2.length=r+1/\(∀e∈q.2,An e)/\CK q.2<=k0+r*GP d) ?_ ?_ hi hN
  ·intro m q acc g1 g2 g3 g4 g5;rw[D5,jn (by simp[AN])];subst hr;exact Af.some ⟨g1,g2,g3,g4,g5⟩
  ·intro m i hi ih q acc g1 g2 g3 g4 g5;obtain⟨c,hc,qW⟩:=CF hi;obtain⟨cn,rfl,hcn⟩:=Pv _ qW;obtain⟨fl,e1,e2',_⟩:=C.fields hcn hM;have e2:(i+1)*EV d=i*EV d+EV d:=by rw[kP];omega
   have e3:(i+1)*GP d=i*GP d+GP d:=by rw[kP];omega
   have e4:(i+1)*EV d<=r*EV d:=kS _ (by omega);rw[D5,jm (by rw[jw,AN];omega),BK (n:=(i:Int)+1) (by omega) (by omega),show ((i:Int)+1)=((i+1:Nat):Int) by omega];refine AS (BH hc) (AS e1 (AS (I6 (by omega) (by omega)) ?_));rw[AN,BK (n:=(n:Int)-2) (by omega) (by omega),show ((n:Int)-2)=((n-2:Nat):Int) by omega];refine AS (YK (by omega) (by omega)) ?_;rw[hr,hd (by omega)];refine Af.bind (R d (vars++fl) t q (by omega) (by omega) (by rw[kD];omega) (by omega) (by omega)) λs hs=>?_;have r1:=hs.lo;have r2:=hs.hi;have r3:=hs.size;refine Af.app (by simp;omega) (by simp;omega) ?_;refine ih s.2 (acc++[s.1]) (by omega) (by omega) (by simp;omega) (λe he=>?_) (by rw[Ih,HT];omega);rcases kJ.1 he with h5|h5
   ·exact g4 e h5
   ·rw[jy]at h5;rw[h5];exact hs.CZ
 have:=key (kE _) (by omega:(Bs D d0).length-0<M) p [e0] (by omega) (by omega) rfl (λe he=>by rw[jy]at he;rw[he];exact vF) (by rw[HT];omega);rw[oQ]at this;exact this
theorem OM (a r:Nat):a / r*r<=a:=Nat.div_mul_le_self a r
theorem Wm (C:CX D F){b:List Int}(Bb:Bk b){rec:W9}{n:Nat}(R:RG b D F rec n){vars:List Int}(uf:3<=n)(hn:n<=20)(hv:vars.length+3*n<=400){t:Int}{M:Nat}(hM:2000000<=M){p0 p:Int}(h0:0<=p0)(hp:p0<=p/\p<=p0+1)(h1:p0+(EV n:Int)<=400000):
  Af (JF M rec b p F D vars t (n:Int)) (GE (GP n) (EV n) p0):=by
 have vg:=SI n;unfold JF;refine Af.bind (Gc Bb ⟨by omega,by omega⟩ (by simp) (by simp)) λq hq=>?_;have q1:=hq.pos;have q2:=hq.mem;simp only[js,kN,kx]at q2;refine Af.bind (R:=λd=>0<=d/\d<=4) ?_ λd0 hd0=>?_
 ·refine Af.bind (R:=λ_=>True) ?_ λt32 _=>Cn (λ_=>Af.some (by decide)) λ_=>Af.some (by omega);refine BB (λ_=>Af.some jf) λ_=>?_;exact AS (JQ C.Zt) (Af.some jf)
 refine AS (C.UO hM) ?_;refine Af.bind (Ly C Bb hM (by omega) d0 (p:=q.2) (by omega) (by omega)) λlf pn=>?_;have l1:=pn.lo;have l2:=pn.hi;have l3:=pn.size;obtain⟨r,hr⟩ :∃r,(Bs D d0).length=r:=⟨_,rfl⟩
 have hr3:=C.UU d0;obtain⟨d,hd⟩ :∃d,d=(n-2) / r:=⟨_,rfl⟩
 have yV:d*r<=n-2:=by rw[hd];exact OM _ _
 have vd:d<=n-2:=by rw[hd];exact mZ _ _
 have yU:=RQ n;have fit:5+r*GP d<=GP n/\35+r*EV d<=EV n:=by
  rcases lv r with h|h
  ·rw[h];constructor
   ·have:5<=GP n:=by unfold GP;rw[jn (by omega)];omega
    omega
   ·omega
  ·have:=L0 (d:=d) h (by omega) uf (by omega);omega
 have:=TL (t:=t) C R uf hn hv (r:=r) (d:=d) hr (λ_=>hd.symm) (by omega) hM (p:=lf.2) (by omega) (by omega) (k0:=4) l3 pn.CZ;refine Af.bind this ?_;rintro⟨f16,yI⟩ ⟨a1,a2,a3,a4,a5⟩;dsimp only at a1 a2 a3 a4 a5⊢;exact AS rfl (Af.some ⟨by rw[Gj];omega,Jf (Dg (by omega) (by omega)) (Dg (by omega) (by omega)) a4 (by omega),by show p0<=f16;omega,by show f16<=_;omega⟩)
theorem V7 (C:CX D F){b:List Int}(Bb:Bk b){rec:W9}{n:Nat}(R:RG b D F rec n){vars:List Int}(uf:3<=n)(hn:n<=20)(hv:vars.length+3*n<=400){t:Int}{M:Nat}(hM:2000000<=M){p0 p:Int}(h0:0<=p0)(hp:p0<=p/\p<=p0+1)(h1:p0+(EV n:Int)<=400000):
  Af (JJ M rec b p F D vars t (n:Int)) (GE (GP n) (EV n) p0):=by
 have vg:=SI n;have yU:=RQ n;have yD:=C.dl;have fit1:5+GP (n-2)<=GP n/\40+EV (n-2)<=EV n:=by
  have:=L0 (r:=1) (d:=n-2) (n:=n) (by omega) (by omega) uf (by omega);omega
 unfold JJ;refine Af.cont (R:=GE (GP n) (EV n) p0) (S:=λf=>p0<=f/\f<=p0+2) ?_ (λr hr=>hr) λf3 hf3=>?_
 ·refine Af.bind (Cb Bb ⟨by omega,by omega⟩) λqZ hq=>?_;have q1:=hq.pos;refine BB (λ_=>?_) λ_=>Af.some (by show p0<=qZ.2/\qZ.2<=_;omega);have L1:∀{N i:Nat},i<=5->5-i<N->1<=i->Af (Ej M b F D vars t (n:Int) qZ rec N i) λv=>match v with|.inl r=>GE (GP n) (EV n) p0 r|.inr _=>True:=by
   intro N i hi hN;refine Bo 5 (λN i=>1<=i->Af (Ej M b F D vars t (n:Int) qZ rec N i) λv=>match v with|.inl r=>GE (GP n) (EV n) p0 r|.inr _=>True) ?_ ?_ hi hN
   ·intro m _;rw[Ej,jn (by rw[jw,AN];omega)];exact Af.some jf
   ·intro m i hi ih h1i;rw[Ej];refine BB (λhle=>?_) λ_=>Af.some jf;rw[AN]at hle;obtain⟨dd,hdd,_⟩:=CF (l:=D) (i:=i-1) (by omega);rw[BK (n:=(i:Int)-1) (by omega) (by omega),show ((i:Int)-1)=((i-1:Nat):Int) by omega,BK (n:=(i:Int)+1) (by omega) (by omega),show ((i:Int)+1)=((i+1:Nat):Int) by omega,BK (n:=(n:Int)-2) (by omega) (by omega),show ((n:Int)-2)=((n-2:Nat):Int) by omega];refine Af.bind (R:=λ_=>True) ?_ λt45 _=>Cn (λ_=>?_) λ_=>ih (by omega)
    ·refine AS (JQ C.Zt) (Cn (λ_=>?_) λ_=>Af.some jf);refine AS (BH hdd) (BB (λ_=>?_) λ_=>Af.some jf);exact Af.bind (Lk C (by omega) hM) λ_ _=>Af.some jf
    ·refine Af.bind (Ly C Bb hM (by omega) i (p:=qZ.2) (by omega) (by omega)) λlf pn=>?_;have l1:=pn.lo;have l2:=pn.hi;have l3:=pn.size;refine AS (BH hdd) ?_;refine Af.bind (R (n-2) vars dd.from_ lf.2 (by omega) (by omega) (by omega) (by omega) (by omega)) λs hs=>?_;have r1:=hs.lo;have r2:=hs.hi;have r3:=hs.size;refine AS rfl (Af.some (show GE (GP n) (EV n) p0 _ from ⟨?_,Jf (Dg (by omega) (by omega)) (Dg (by omega) (by omega)) (λe he=>?_) (by simp),by show p0<=s.2;omega,by show s.2<=_;omega⟩))
     ·rw[Gj];simp only[CK];omega
     ·simp only[js,kN,kx]at he;rcases he with rfl|rfl
      ·exact pn.CZ
      ·exact hs.CZ
  have l1:=L1 (N:=M) (i:=1) (by omega) (by omega) (by omega);rw[show ((1:Nat):Int)=1 from rfl]at l1;refine Af.cont (R:=GE (GP n) (EV n) p0) (S:=λ_=>True) ?_ (λr hr=>hr) λ_ _=>Af.some (by show p0<=qZ.2/\qZ.2<=_;omega);exact l1.mono λv hv=>by cases v<;>exact hv
 ·refine AS (C.UO hM) ?_;have hc3:=C.UU t;have ga:∀(types:List Int) (q:Int) (o m:Int),types.length<=3->p0<=q->q<=p0+10->-1000000<=o/\o<=1000000->-1000000<=m/\m<=1000000->
    Af ((Fk M rec b q F D vars types (Sh.w ((n:Int)-1))).bind λqD=>(Be o m qD.1).bind λqv=>some (qv,qD.2)) (GE (GP n) (EV n) p0):=by
   intro types q o m ht g1 g2 ho hm;rw[BK (n:=(n:Int)-1) (by omega) (by omega),show ((n:Int)-1)=((n-1:Nat):Int) by omega];obtain⟨d,hd⟩ :∃d,d=(n-1) / types.length:=⟨_,rfl⟩
   have yV:d*types.length<=n-1:=by rw[hd];exact OM _ _
   have vd:d<=n-1:=by rw[hd];exact mZ _ _
   have qN:0<types.length->40+types.length*EV d<=EV n:=λh=>(L0 (d:=d) h ht uf yV).2;have hle:(types.length*EV d:Nat)<=EV n:=by
    rcases lv types.length with h|h
    ·rw[h];omega
    ·have:=qN h;omega
   have xu:q+(types.length*EV d:Nat)<=400000:=by
    rcases lv types.length with h|h
    ·rw[h];omega
    ·have:=qN h;omega
   refine Af.bind (Tj R ht (bud:=n-1) (by omega) (d:=d) (λ_=>hd.symm) (by omega) (by omega) (by omega) hM (p:=q) (by omega) xu) ?_;rintro⟨l,q'⟩ g;exact AS rfl (Af.some (W5 (P:=10) ho hm ht uf yV ⟨g1,g2⟩ (by omega) g))
  refine BB (λpZ=>?_) λ_=>?_
  ·rw[AN]at pZ⊢;refine Af.bind (Cb Bb ⟨by omega,by omega⟩) λq hq=>?_;have q1:=hq.pos;have q2:=hq.nn;have q3:=hq.lt (by omega);refine Af.get q2 q3 λsN _ hc12=>?_;obtain⟨c,rfl,hc⟩:=Pv _ hc12;obtain⟨fl,e1,e2,_⟩:=C.fields hc hM;have hnc:=C.gZ;exact AS e1 (ga fl q.2 6 c e2 (by omega) (by omega) (by omega) (by omega))
  ·refine BB (λ_=>?_) λ_=>?_
   ·refine Af.bind (Ly C Bb hM (by omega) t (p:=f3) (by omega) (by omega)) λlf pn=>Af.some ⟨by have:=pn.size;show en lf.1<=_;omega,pn.CZ,by have:=pn.lo;show p0<=lf.2;omega,by have:=pn.hi;show lf.2<=_;omega⟩
   ·refine Af.bind (Cb Bb ⟨by omega,by omega⟩) λq hq=>?_;have q1:=hq.pos;refine BB (λ_=>ga [0] q.2 5 0 (by simp) (by omega) (by omega) (by omega) (by omega)) λ_=>?_;refine Af.bind (Gc Bb ⟨by omega,by omega⟩ (by simp) (by simp)) λtz hq30=>?_;have o1:=hq30.pos;have o2:=hq30.mem;simp only[js,kN,kx]at o2;exact ga [0,0] tz.2 tz.1 0 (by simp) (by omega) (by omega) (by omega) (by omega)
theorem Zy (C:CX D F){b:List Int}(Bb:Bk b){rec:W9}{n:Nat}(R:RG b D F rec n){vars:List Int}(hn:n<=20)(hv:vars.length+3*n<=400){t:Int}{M:Nat}(hM:2000000<=M){p:Int}(h0:0<=p)(h1:p+(EV n:Int)<=400000):
  Af (LM M rec b p F D vars t (n:Int)) (GE (GP n) (EV n) p):=by
 have vg:=SI n;have yU:=RQ n;unfold LM;refine BB (λ_=>?_) λhn3'=>?_
 ·refine Af.bind (Ly C Bb hM (by omega) t (p:=p) (by omega) (by omega)) λlf pn=>Af.some ⟨by have:=pn.size;show en lf.1<=_;omega,pn.CZ,pn.lo,by have:=pn.hi;show lf.2<=_;omega⟩
 have uf:3<=n:=by omega
 refine Af.cont (R:=GE (GP n) (EV n) p) (S:=λf=>p<=f/\f<=p+1) ?_ (λr hr=>hr) λf8 hf8=>?_
 ·refine Af.bind (Cb Bb ⟨by omega,by omega⟩) λq hq=>?_;have q1:=hq.pos;refine BB (λ_=>?_) λ_=>?_
  ·refine Af.bind (Ly C Bb hM (by omega) t (p:=q.2) (by omega) (by omega)) λlf pn=>Af.some (show GE (GP n) (EV n) p _ from ⟨by have:=pn.size;show en lf.1<=_;omega,pn.CZ,by have:=pn.lo;show p<=lf.2;omega,by have:=pn.hi;show lf.2<=_;omega⟩)
  refine Af.bind (R:=λ_=>True) ?_ λt19 _=>Cn (λ_=>?_) λ_=>?_
  ·exact BB (λ_=>Af.some jf) λ_=>Af.some jf
  ·have ed:Int.tdiv (n:Int) 2=((n / 2:Nat):Int):=rfl;have fit:2*GP (n / 2)+1<=GP n/\2*EV (n / 2)+2<=EV n:=by
    have hd0:¬ n / 2=0:=by omega
    have tK:¬ n=0:=by omega
    unfold GP EV;rw[jn hd0,jn tK,jn hd0,jn tK];omega
   rw[ed];have hd:=mZ n 2;have hd2:n / 2+1<=n:=by omega
   generalize n / 2=d at hd hd2 fit⊢;rw[BK (n:=(d:Int)) (by omega) (by omega)];refine Af.bind (Xm C Bb hM (by omega) (p:=q.2) (by omega) (by omega)) λqU hq23=>?_;refine Af.bind (R d vars qU.1 qU.2 (by omega) (by omega) (by omega) (by omega) (by omega)) λs hs=>?_;have r1:=hs.lo;have r2:=hs.hi;have r3:=hs.size;refine AS (I6 (by omega) (by simp)) ?_;refine Af.bind (R d (vars++[qU.1]) t s.2 (by omega) (by omega) (by simp;omega) (by omega) (by omega)) λu hu=>?_;have u1:=hu.lo;have u2:=hu.hi;have u3:=hu.size;refine AS rfl (Af.some (show GE (GP n) (EV n) p _ from ⟨?_,Jf (Dg (by omega) (by omega)) (Dg (by omega) (by omega)) (λe he=>?_) (by simp),by show p<=u.2;omega,by show u.2<=_;omega⟩))
   ·rw[Gj];simp only[CK];omega
   ·simp only[js,kN,kx]at he;rcases he with rfl|rfl
    ·exact hs.CZ
    ·exact hu.CZ
  have ga:∀(types:List Int) (q:Int) (o m:Int),types.length<=3->p<=q->q<=p+10->-1000000<=o/\o<=1000000->-1000000<=m/\m<=1000000->
    Af ((Fk M rec b q F D vars types (Sh.w ((n:Int)-1))).bind λqD=>(Be o m qD.1).bind λqv=>some (Sum.inl (qv,qD.2))) λv:(AE×Int) ⊕ Int=>match v with|.inl r=>GE (GP n) (EV n) p r|.inr f=>p<=f/\f<=p+1:=by
   intro types q o m ht g1 g2 ho hm;rw[BK (n:=(n:Int)-1) (by omega) (by omega),show ((n:Int)-1)=((n-1:Nat):Int) by omega];obtain⟨d,hd⟩ :∃d,d=(n-1) / types.length:=⟨_,rfl⟩
   have yV:d*types.length<=n-1:=by rw[hd];exact OM _ _
   have vd:d<=n-1:=by rw[hd];exact mZ _ _
   have qN:0<types.length->40+types.length*EV d<=EV n:=λh=>(L0 (d:=d) h ht uf yV).2;have xu:q+(types.length*EV d:Nat)<=400000:=by
    rcases lv types.length with h|h
    ·rw[h];omega
    ·have:=qN h;omega
   refine Af.bind (Tj R ht (bud:=n-1) (by omega) (d:=d) (λ_=>hd.symm) (by omega) (by omega) (by omega) hM (p:=q) (by omega) xu) ?_;rintro⟨l,q'⟩ g;exact AS rfl (Af.some (W5 (P:=10) ho hm ht uf yV ⟨g1,g2⟩ (by omega) g))
  refine BB (λ_=>(ga [0,t,t] q.2 7 0 (by simp) (by omega) (by omega) (by omega) (by omega)).mono λv hv=>by cases v<;>exact hv) λ_=>?_;refine Af.bind (R:=λ_=>True) ?_ λt35 _=>Cn (λ_=>?_) λ_=>?_
  ·exact BB (λ_=>Af.some jf) λ_=>BB (λ_=>Af.some jf) λ_=>Af.some jf
  ·exact Af.bind (Wm C Bb R uf hn hv hM h0 (p:=q.2) (by omega) h1) λr hr=>Af.some (show GE (GP n) (EV n) p _ from hr)
  refine Af.bind (R:=λ_=>True) ?_ λt41 _=>Cn (λ_=>?_) λ_=>Af.some (by show p<=q.2/\q.2<=_;omega)
  ·exact BB (λ_=>Af.some jf) λ_=>Af.some jf
  refine Af.bind (WU C hM) λl hl=>?_;refine BB (λpZ=>?_) λ_=>Af.some (by show p<=q.2/\q.2<=_;omega);rw[AN]at pZ⊢;refine Af.bind (Cb Bb ⟨by omega,by omega⟩) λsb xx=>?_;have a1:=xx.pos;have a2:=xx.nn;have a3:=xx.lt (by omega);refine Af.get a2 a3 λtP _ hc50=>?_;obtain⟨b0,b1⟩:=hl.2 tP hc50;refine Af.get b0 b1 λg _ hg=>?_;have hF:=C.fl;exact (ga g.params sb.2 9 tP (C.par g hg) (by omega) (by omega) (by omega) (by omega)).mono λv hv=>by cases v<;>exact hv
 ·exact Af.bind (V7 C Bb R uf hn hv hM h0 hf8 h1) λr hr=>Af.some hr
theorem VG (C:CX D F){b:List Int}(Bb:Bk b){M:Nat}(hM:2000000<=M):∀n:Nat,RG b D F (JM M n) n
 | 0=>λd _ _ _ hd=>absurd hd (by omega)
 | n+1=>λd vars t p hd h20 hv h0 h1=>by
  rw[JM];have R:RG b D F (JM M n) d:=λd' vars' t' p' hd'=>VG C Bb hM n d' vars' t' p' (by omega);exact Zy C Bb R h20 hv hM h0 h1
theorem JK (C:CX D F){b:List Int}(Bb:Bk b){M:Nat}(hM:2000000<=M){d:Nat}(hd:d<=20){vars:List Int}(hv:vars.length<=100)(t:Int){p:Int}(h0:0<=p)(h1:p<=300000):Af (Gu M b p F D vars t (d:Int)) (GE (GP d) (EV d) p):=by
 have:=fC hd;exact VG C Bb hM M d vars t p (by omega) hd (by omega) h0 (by omega)
end
end RC
namespace RC
open Go
section
variable {D : List AM} {F : List Ac}
structure GQ (k P:Nat) (p:Int) (q:Int×Int×Int×List AE):Prop where
 size:en ⟨q.2.1,q.2.2.1,q.2.2.2⟩<=k
 CZ:An ⟨q.2.1,q.2.2.1,q.2.2.2⟩
 lo:p<=q.1
 hi:q.1<=p+P
theorem GE.parts {k P:Nat}{p:Int}{q:AE×Int}(h:GE k P p q):GQ k P p (q.2,q.1.op,q.1.num,q.1.kids):=by
 obtain⟨e,f⟩:=q;cases e;exact⟨h.size,h.CZ,h.lo,h.hi⟩
theorem Uh (o n:Int)(a b:AE):en ⟨o,n,[a,b]⟩=1+en a+en b:=by rw[Gj];simp only[CK];omega
theorem ca (o n:Int)(a b c:AE):en ⟨o,n,[a,b,c]⟩=1+en a+en b+en c:=by rw[Gj];simp only[CK];omega
theorem Ke (o n:Int):en ⟨o,n,[]⟩=1:=by rw[Gj];simp[CK]
theorem Vp {o n:Int}{a b:AE}(ho:-1000000<=o/\o<=1000000)(hn:-1000000<=n/\n<=1000000)(ha:An a)(hb:An b):An ⟨o,n,[a,b]⟩:=
 Jf (Dg ho.1 ho.2) (Dg hn.1 hn.2) (λe he=>by simp only[js,kN,kx]at he;rcases he with rfl|rfl<;>assumption) (by simp)
theorem bg {o n:Int}{a b c:AE}(ho:-1000000<=o/\o<=1000000)(hn:-1000000<=n/\n<=1000000)(ha:An a)(hb:An b)(hc:An c):An ⟨o,n,[a,b,c]⟩:=
 Jf (Dg ho.1 ho.2) (Dg hn.1 hn.2) (λe he=>by simp only[js,kN,kx]at he;rcases he with rfl|rfl|rfl<;>assumption) (by simp)
theorem iZ {o n:Int}{a:AE}(ho:-1000000<=o/\o<=1000000)(hn:-1000000<=n/\n<=1000000)(ha:An a):An ⟨o,n,[a]⟩:=
 Jf (Dg ho.1 ho.2) (Dg hn.1 hn.2) (λe he=>by rw[jy]at he;rw[he];exact ha) (by simp)
theorem Xh {b:List Int}(Bb:Bk b){M:Nat}(hM:2000000<=M)(t:Int){p:Int}(h0:0<=p)(h1:p<=500000):Af (Jj M b p t) (GE 20 20 p):=by
 unfold Jj;have li:∀n:Int,0<=n->n<=100->An ⟨0,n,[]⟩:=λn a c=>Fs ⟨by omega,by omega⟩ ⟨by omega,by omega⟩;refine AS rfl ?_;refine BB (λ_=>?_) λ_=>?_
 ·refine AS rfl ?_;refine Af.bind (Cb Bb ⟨by omega,by omega⟩) λq hq=>?_;have q1:=hq.pos;have q2:=hq.nn;have q3:=hq.lt (by omega);refine AS rfl (AS rfl ?_);refine Af.bind (Cb Bb ⟨by omega,by omega⟩) λs hs=>?_;have s1:=hs.pos;have s2:=hs.nn;have s3:=hs.lt (by omega);have l6:An ⟨6,2,[]⟩:=Fs ⟨by omega,by omega⟩ ⟨by omega,by omega⟩;refine AS rfl (AS rfl (Af.some ⟨?_,?_,by show p<=s.2;omega,by show s.2<=_;omega⟩))
  ·rw[ca,ca,Ke,Ke,Ke];omega
  ·exact bg ⟨by omega,by omega⟩ ⟨by omega,by omega⟩ (bg ⟨by omega,by omega⟩ ⟨by omega,by omega⟩ l6 (li _ q2 (by omega)) l6) (li _ s2 (by omega)) l6
 ·refine Af.bind (Cb Bb ⟨by omega,by omega⟩) λq hq=>?_;have q1:=hq.pos;have q2:=hq.nn;have q3:=hq.lt (by omega);have key:∀(n:Nat) (N:Nat) (f o m:Int) (k:List AE),n<N->n<=3->p<=f->f+4*n<=p+13->An ⟨o,m,k⟩->en ⟨o,m,k⟩+2*n<=7->Af (Fa b N n f o m k) (GQ 20 20 p):=by
   intro n
   induction n with
   | zero=>
    intro N f o m k hN _ g1 g2 g3 g4;obtain⟨N,rfl⟩ :∃m,N=m+1:=⟨N-1,by omega⟩
    rw[Fa,jn (by simp)];exact Af.some ⟨by show en ⟨o,m,k⟩<=20;omega,g3,g1,by show f<=_;omega⟩
   | succ n ih=>
    intro N f o m k hN hn g1 g2 g3 g4;obtain⟨N,rfl⟩ :∃m,N=m+1:=⟨N-1,by omega⟩
    rw[Fa,jm (by rw[jw];omega)];refine Af.bind (N3 Bb (by omega) (by omega)) λs hs=>?_;refine AS rfl (AS rfl ?_);rw[BK (by omega) (by omega),show (((n+1:Nat):Int)-1)=(n:Int) by omega];refine ih N s.2 6 1 _ (by omega) (by omega) (by omega) (by omega) (Vp ⟨by omega,by omega⟩ ⟨by omega,by omega⟩ (Fs ⟨by omega,by omega⟩ ⟨by omega,by omega⟩) g3) ?_;show en ⟨6,1,[⟨0,s.1,[]⟩,⟨o,m,k⟩]⟩+2*n<=7;rw[Uh,Ke];omega
  obtain⟨n,hn⟩:=kZ q2;have h3:=key (n+1) M q.2 6 0 [] (by omega) (by omega) (by omega) (by omega) (Fs ⟨by omega,by omega⟩ ⟨by omega,by omega⟩) (by rw[Ke];omega);rw[BK (by omega) (by omega),hn,show (1+(n:Int))=((n+1:Nat):Int) by omega];refine Af.bind h3 ?_;rintro⟨f,o,m,k⟩ g;exact Af.some ⟨g.size,g.CZ,g.lo,g.hi⟩
theorem Ya:GP 4=31:=rfl
theorem aJ:EV 4=275:=rfl
theorem jQ:GP 3=22:=rfl
theorem jK:EV 3=195:=rfl
theorem gH:GP 16=139:=rfl
theorem jH:EV 16=1235:=rfl
theorem WJ (C:CX D F){b:List Int}(Bb:Bk b){M:Nat}(hM:2000000<=M){p:Int}(h0:0<=p)(h1:p<=200000):Af (I8 M b p F D) (GE 1000 3000 p):=by
 unfold I8;refine Af.bind (Gc Bb ⟨by omega,by omega⟩ (by simp) (by simp)) λq hq=>?_;have q1:=hq.pos;refine Af.bind (JK C Bb hM (d:=16) (by omega) (vars:=[q.1]) (by simp) 0 (p:=q.2) (by omega) (by omega)) λg hg=>?_;have g1:=hg.size;have g2:=hg.lo;have g3:=hg.hi;rw[gH]at g1;rw[jH]at g3;refine Af.bind (R:=GQ 141 2000 p) ?_ ?_
 ·refine Af.bind (Cb Bb ⟨by omega,by omega⟩) λs hs=>?_;have s1:=hs.pos;refine BB (λ_=>AS rfl (Af.some ?_)) λ_=>Af.some ?_
  ·refine⟨?_,(iZ ⟨by omega,by omega⟩ ⟨by omega,by omega⟩ hg.CZ:An ⟨5,0,[g.1]⟩),by show p<=s.2;omega,by show s.2<=_;omega⟩;show en ⟨5,0,[g.1]⟩<=_;rw[Gj,HT];omega
  ·have:=hg.parts;exact⟨by have:=this.size;rw[gH]at this;dsimp only at this⊢;omega,this.CZ,by show p<=s.2;omega,by show s.2<=_;omega⟩
 ·rintro⟨f,o,m,k⟩ g;have a1:=g.size;have a2:=g.lo;have a3:=g.hi;have a4:=g.CZ;dsimp only at a1 a2 a3 a4⊢;refine Af.bind (Xh Bb hM q.1 (p:=f) (by omega) (by omega)) λl hl=>?_;have l1:=hl.size;have l2:=hl.lo;have l3:=hl.hi;refine AS rfl (Af.some ⟨by rw[Uh];omega,Vp ⟨by omega,by omega⟩ ⟨by omega,by omega⟩ hl.CZ a4,by show p<=l.2;omega,by show l.2<=_;omega⟩)
theorem WQ (C:CX D F){b:List Int}(Bb:Bk b){M:Nat}(hM:2000000<=M){f:Nat}(hf:f<F.length){a:Nat}(ha:a<=3){p:Int}(h0:0<=p)(h1:p<=200000):Af (JC M b p F D f a) (GE 1000 3000 p):=by
 have sH:=C.fl;obtain⟨g,hg,tE⟩:=CF hf;have hp3:=C.par g tE;unfold JC;refine AS (BH hg) (AS (I6 (by omega) (by simp)) ?_);have key:∀{N i:Nat},i<=g.params.length->g.params.length-i<N->∀(q:Int) (acc:List AE),p<=q->q<=p+i->acc.length=i->(∀e∈acc,An e)->CK acc<=3*i->
   Af (Ee g b a N i q acc) λr=>p<=r.1/\r.1<=p+3/\r.2.length<=3/\(∀e∈r.2,An e)/\CK r.2<=9:=by
  intro N i hi hN;refine Bo g.params.length (λN i=>∀(q:Int) (acc:List AE),p<=q->q<=p+i->acc.length=i->(∀e∈acc,An e)->CK acc<=3*i->
   Af (Ee g b a N i q acc) λr=>p<=r.1/\r.1<=p+3/\r.2.length<=3/\(∀e∈r.2,An e)/\CK r.2<=9) ?_ ?_ hi hN
  ·intro n q acc g1 g2 g3 g4 g5;rw[Ee,jn (by simp[AN])];exact Af.some ⟨g1,by show q<=_;omega,by show acc.length<=3;omega,g4,by show CK acc<=9;omega⟩
  ·intro n i hi ih q acc g1 g2 g3 g4 g5;obtain⟨t,ht,_⟩:=CF hi;rw[Ee,jm (by rw[jw,AN];omega),BK (n:=(i:Int)+1) (by omega) (by omega),show ((i:Int)+1)=((i+1:Nat):Int) by omega,AN];have ap:∀{e:AE} {s:Int},An e->en e<=3->p<=s->s<=p+(i+1:Nat)->Af ((Sh.app acc [e] 40).bind λxX=>some (s,xX)) λr:Int×List AE=>p<=r.1/\r.1<=p+(i+1:Nat)/\r.2.length=i+1/\(∀e∈r.2,An e)/\CK r.2<=3*(i+1):=λhe h3 hs1 hs2=>
    Af.app (by simp;omega) (by simp;omega) (Af.some ⟨hs1,hs2,by simp;omega,λx hx=>by
     rcases kJ.1 hx with h5|h5
     ·exact g4 x h5
     ·rw[jy]at h5;rw[h5];exact he,by show CK (acc++_)<=_;rw[Ih,HT];omega⟩)
   have vi:∀{n:Int},0<=n->n<=100->An ⟨12,n,[]⟩:=λa c=>Fs ⟨by omega,by omega⟩ ⟨by omega,by omega⟩;refine Af.bind (R:=λr:Int×List AE=>p<=r.1/\r.1<=p+(i+1:Nat)/\r.2.length=i+1/\(∀e∈r.2,An e)/\CK r.2<=3*(i+1)) ?_ λr hr=>ih r.1 r.2 hr.1 hr.2.1 hr.2.2.1 hr.2.2.2.1 hr.2.2.2.2;refine BB (λ_=>?_) λ_=>?_
   ·rw[BK (n:=(g.params.length:Int)+1) (by omega) (by omega)];exact AS rfl (ap (vi (by omega) (by omega)) (by rw[Ke];omega) g1 (by omega))
   ·refine Af.bind (R:=λr:Bool×Int=>p<=r.2/\r.2<=p+(i+1:Nat)) ?_ ?_
    ·refine AS (BH ht) (BB (λ_=>?_) λ_=>Af.some (by show p<=q/\q<=_;omega));exact Af.bind (Cb Bb ⟨by omega,by omega⟩) λs hs=>Af.some (by have:=hs.pos;show p<=s.2/\s.2<=_;omega)
    ·rintro⟨t70,f71⟩ ⟨a1,a2⟩;dsimp only at a1 a2⊢;refine Cn (λ_=>?_) λ_=>?_
     ·exact AS rfl (AS rfl (AS rfl (ap (Vp ⟨by omega,by omega⟩ ⟨by omega,by omega⟩ (vi (by omega) (by omega)) (vi (by omega) (by omega))) (by rw[Uh,Ke,Ke];omega) a1 a2)))
     ·exact AS rfl (ap (vi (by omega) (by omega)) (by rw[Ke];omega) a1 a2)
 have k:=key (kE _) (by omega:g.params.length-0<M) p [] (by omega) (by omega) rfl (by simp) (by simp[CK]);rw[oQ]at k;refine Af.bind k ?_;rintro⟨f13,qI⟩ ⟨a1,a2,a3,a4,a5⟩;dsimp only at a1 a2 a3 a4 a5⊢;have again:An ⟨9,f,qI⟩:=Jf (Dg (by omega) (by omega)) (Dg (by omega) (by omega)) a4 (by omega);have ea:en ⟨9,(f:Int),qI⟩<=10:=by rw[Gj];omega
 refine AS rfl ?_;have xj:(g.params++[(0:Int),1]).length<=100:=by simp;omega
 refine Af.bind (R:=GQ 200 1000 p) ?_ ?_
 ·refine Af.bind (R:=λr:Bool×Int=>p<=r.2/\r.2<=p+4) ?_ ?_
  ·refine BB (λ_=>?_) λ_=>Af.some (by show p<=f13/\f13<=_;omega);exact Af.bind (Cb Bb ⟨by omega,by omega⟩) λs hs=>Af.some (by have:=hs.pos;show p<=s.2/\s.2<=_;omega)
  ·rintro⟨t30,f31⟩ ⟨b1,b2⟩;dsimp only at b1 b2⊢;refine Cn (λ_=>?_) λ_=>?_
   ·refine Af.bind (JK C Bb hM (d:=4) (by omega) xj 0 (p:=f31) (by omega) (by omega)) λsC hq=>?_;have c1:=hq.size;have c2:=hq.lo;have c3:=hq.hi;rw[Ya]at c1;rw[aJ]at c3;refine Af.bind (R:=λr:Int×Int×List AE=>en ⟨r.1,r.2.1,r.2.2⟩<=31/\An ⟨r.1,r.2.1,r.2.2⟩) ?_ ?_
    ·refine Af.bind (R:=λ_=>True) ?_ λt43 _=>Cn (λ_=>?_) λ_=>Af.some ?_
     ·refine BB (λh=>?_) λ_=>Af.some jf;rw[AN]at h;exact Af.get (by omega) (by omega) λ_ _ _=>Af.some jf
     ·rw[AN];refine AS rfl (AS rfl (AS rfl (Af.some ⟨?_,?_⟩)))
      ·show en ⟨11,0,[⟨12,0,[]⟩,⟨12,(g.params.length:Int),[]⟩]⟩<=31;rw[Uh,Ke,Ke];omega
      ·exact (Vp ⟨by omega,by omega⟩ ⟨by omega,by omega⟩ (Fs ⟨by omega,by omega⟩ ⟨by omega,by omega⟩) (Fs ⟨by omega,by omega⟩ ⟨by omega,by omega⟩):An ⟨11,0,[⟨12,0,[]⟩,⟨12,(g.params.length:Int),[]⟩]⟩)
     ·have:=hq.parts;exact⟨by have:=this.size;dsimp only at this⊢;rw[Ya]at this;exact this,this.CZ⟩
    ·rintro⟨f37,f38,f39⟩ ⟨d1,d2⟩;dsimp only at d1 d2⊢;refine AS rfl (Af.some ⟨?_,(Vp ⟨by omega,by omega⟩ ⟨by omega,by omega⟩ d2 again:An ⟨6,1,[⟨f37,f38,f39⟩,⟨9,(f:Int),qI⟩]⟩),by show p<=sC.2;omega,by show sC.2<=_;omega⟩);show en ⟨6,1,[⟨f37,f38,f39⟩,⟨9,(f:Int),qI⟩]⟩<=200;rw[Uh];omega
   ·refine BB (λ_=>?_) λ_=>Af.some ⟨by show en ⟨9,(f:Int),qI⟩<=200;omega,again,by show p<=f31;omega,by show f31<=_;omega⟩;refine Af.bind (Gc Bb ⟨by omega,by omega⟩ (by simp) (by simp)) λuB hq53=>?_;have o1:=hq53.pos;have o2:=hq53.mem;simp only[js,kN,kx]at o2;refine Af.bind (JK C Bb hM (d:=4) (by omega) xj 0 (p:=uB.2) (by omega) (by omega)) λvJ hq=>?_;have c1:=hq.size;have c2:=hq.lo;have c3:=hq.hi;rw[Ya]at c1;rw[aJ]at c3;refine AS rfl (Af.some ⟨?_,(Vp ⟨by omega,by omega⟩ ⟨by omega,by omega⟩ hq.CZ again:An ⟨uB.1,0,[vJ.1,⟨9,(f:Int),qI⟩]⟩),by show p<=vJ.2;omega,by show vJ.2<=_;omega⟩);show en ⟨uB.1,0,[vJ.1,⟨9,(f:Int),qI⟩]⟩<=200;rw[Uh];omega
 ·rintro⟨f20,o,m,k⟩ g20;have b1:=g20.size;have b2:=g20.lo;have b3:=g20.hi;have b4:=g20.CZ;dsimp only at b1 b2 b3 b4⊢;refine AS rfl ?_;refine Af.bind (JK C Bb hM (d:=4) (by omega) (vars:=g.params) (by omega) g.result (p:=f20) (by omega) (by omega)) λq hq=>?_;have c1:=hq.size;have c2:=hq.lo;have c3:=hq.hi;rw[Ya]at c1;rw[aJ]at c3;refine AS rfl (Af.some ⟨by rw[ca,Ke];omega,bg ⟨by omega,by omega⟩ ⟨by omega,by omega⟩ (Fs ⟨by omega,by omega⟩ ⟨by omega,by omega⟩) hq.CZ b4,by show p<=q.2;omega,by show q.2<=_;omega⟩)
end
end RC
namespace RC
open Go
section
variable {D : List AM} {F : List Ac}
theorem Wj (C:CX D F){b:List Int}(Bb:Bk b){M:Nat}(hM:2000000<=M){f:Nat}(hf:f<F.length){g:Ac}(hg:F[f]?=some g)(hg1:0<g.params.length){p:Int}(h0:0<=p)(h1:p<=200000):Af (JA M b p F D f) (GE 1000 3000 p):=by
 have sH:=C.fl;have tE:=je hg;have hp3:=C.par g tE;unfold JA;have vi:∀{n:Int},0<=n->n<=100->An ⟨12,n,[]⟩:=λa c=>Fs ⟨by omega,by omega⟩ ⟨by omega,by omega⟩;refine AS (BH hg) ?_;rw[AN,BK (n:=(g.params.length:Int)+2) (by omega) (by omega)];refine AS rfl (AS rfl ?_);have key:∀{N i:Nat},i<=g.params.length->g.params.length-i<N->∀(x y:List AE),x.length=i->y.length=i->(∀e∈x,An e)->(∀e∈y,An e)->CK x<=i->CK y<=i->
   Af (Ef g N i x y) λr=>r.1.length<=3/\r.2.length<=3/\(∀e∈r.1,An e)/\(∀e∈r.2,An e)/\CK r.1<=3/\CK r.2<=3:=by
  intro N i hi hN;refine Bo g.params.length (λN i=>∀(x y:List AE),x.length=i->y.length=i->(∀e∈x,An e)->(∀e∈y,An e)->CK x<=i->CK y<=i->
   Af (Ef g N i x y) λr=>r.1.length<=3/\r.2.length<=3/\(∀e∈r.1,An e)/\(∀e∈r.2,An e)/\CK r.1<=3/\CK r.2<=3) ?_ ?_ hi hN
  ·intro n x y g1 g2 g3 g4 g5 g6;rw[Ef,jn (by simp[AN])];exact Af.some ⟨by show x.length<=3;omega,by show y.length<=3;omega,g3,g4,by show CK x<=3;omega,by show CK y<=3;omega⟩
  ·intro n i hi ih x y g1 g2 g3 g4 g5 g6;rw[Ef,jm (by rw[jw,AN];omega),BK (n:=(i:Int)+1) (by omega) (by omega),show ((i:Int)+1)=((i+1:Nat):Int) by omega];have hm:∀(l:List AE),(∀e∈l,An e)->∀e∈l++[AE.mk 12 (i:Int) []],An e:=λl hl e he=>by
    rcases kJ.1 he with h5|h5
    ·exact hl e h5
    ·rw[jy]at h5;rw[h5];exact vi (by omega) (by omega)
   refine AS rfl (Af.app (by simp;omega) (by simp;omega) (AS rfl (Af.app (by simp;omega) (by simp;omega) ?_)));exact ih _ _ (by simp;omega) (by simp;omega) (hm x g3) (hm y g4) (by rw[Ih,HT,Ke];omega) (by rw[Ih,HT,Ke];omega)
 have k:=key (i:=1) (by omega) (by omega:g.params.length-1<M) [⟨12,(g.params.length:Int),[]⟩] [⟨12,(g.params.length:Int)+2,[]⟩] rfl rfl
  (λe he=>by rw[jy]at he;rw[he];exact vi (by omega) (by omega)) (λe he=>by rw[jy]at he;rw[he];exact vi (by omega) (by omega)) (by rw[HT,Ke];omega) (by rw[HT,Ke];omega)
 rw[show ((1:Nat):Int)=1 from rfl]at k;refine Af.bind k ?_;rintro⟨qI,vK⟩ ⟨a1,a2,a3,a4,a5,a6⟩;dsimp only at a1 a2 a3 a4 a5 a6⊢;have i18:An ⟨9,f,qI⟩:=Jf (Dg (by omega) (by omega)) (Dg (by omega) (by omega)) a3 (by omega);have i20:An ⟨9,f,vK⟩:=Jf (Dg (by omega) (by omega)) (Dg (by omega) (by omega)) a4 (by omega);have e18:en ⟨9,(f:Int),qI⟩<=4:=by rw[Gj];omega
 have e20:en ⟨9,(f:Int),vK⟩<=4:=by rw[Gj];omega
 have xj:(g.params++[(3:Int),0,3]).length<=100:=by simp;omega
 refine AS rfl (AS rfl (AS (I6 (by omega) (by simp)) ?_));refine Af.bind (JK C Bb hM (d:=4) (by omega) xj 0 (p:=p) (by omega) (by omega)) λqU hq=>?_;have c1:=hq.size;have c2:=hq.lo;have c3:=hq.hi;rw[Ya]at c1;rw[aJ]at c3;refine AS rfl (AS rfl ?_);refine Af.bind (R:=GQ 200 1000 p) ?_ ?_
 ·refine BB (λ_=>?_) λ_=>Af.some ⟨?_,(Vp ⟨by omega,by omega⟩ ⟨by omega,by omega⟩ i18 (Vp ⟨by omega,by omega⟩ ⟨by omega,by omega⟩ hq.CZ i20):An ⟨1,0,[⟨9,(f:Int),qI⟩,⟨1,0,[qU.1,⟨9,(f:Int),vK⟩]⟩]⟩),by show p<=qU.2;omega,by show qU.2<=_;omega⟩
  ·refine AS (I6 (by omega) (by simp)) ?_;refine Af.bind (JK C Bb hM (d:=4) (by omega) xj 0 (p:=qU.2) (by omega) (by omega)) λtO hq2=>?_;have d1:=hq2.size;have d2:=hq2.lo;have d3:=hq2.hi;rw[Ya]at d1;rw[aJ]at d3;refine AS rfl (AS rfl (Af.some ⟨?_,(bg ⟨by omega,by omega⟩ ⟨by omega,by omega⟩ i18 hq2.CZ (vi (by omega) (by omega)):An ⟨6,3,[⟨9,(f:Int),qI⟩,tO.1,⟨12,(g.params.length:Int)+2,[]⟩]⟩),by show p<=tO.2;omega,by show tO.2<=_;omega⟩));show en ⟨6,3,[⟨9,(f:Int),qI⟩,tO.1,⟨12,(g.params.length:Int)+2,[]⟩]⟩<=200;rw[ca,Ke];omega
  ·show en ⟨1,0,[⟨9,(f:Int),qI⟩,⟨1,0,[qU.1,⟨9,(f:Int),vK⟩]⟩]⟩<=200;rw[Uh,Uh];omega
 ·rintro⟨f20,o,m,k⟩ g20;have b1:=g20.size;have b2:=g20.lo;have b3:=g20.hi;have b4:=g20.CZ;dsimp only at b1 b2 b3 b4⊢;refine AS rfl ?_;refine Af.bind (JK C Bb hM (d:=4) (by omega) (vars:=g.params) (by omega) g.result (p:=f20) (by omega) (by omega)) λq hq=>?_;have c1:=hq.size;have c2:=hq.lo;have c3:=hq.hi;rw[Ya]at c1;rw[aJ]at c3;refine AS rfl (Af.some ⟨by rw[ca,Ke];omega,bg ⟨by omega,by omega⟩ ⟨by omega,by omega⟩ (vi (by omega) (by omega)) hq.CZ b4,by show p<=q.2;omega,by show q.2<=_;omega⟩)
theorem Wb (C:CX D F){b:List Int}(Bb:Bk b){M:Nat}(hM:2000000<=M){f:Nat}(hf:f<F.length){g:Ac}(hg:F[f]?=some g)(hg1:0<g.params.length){p:Int}(h0:0<=p)(h1:p<=200000):Af (JI M b p F D f) (GE 1000 3000 p):=by
 have sH:=C.fl;have tE:=je hg;have hp3:=C.par g tE;unfold JI;have vi:∀{n:Int},0<=n->n<=100->An ⟨12,n,[]⟩:=λa c=>Fs ⟨by omega,by omega⟩ ⟨by omega,by omega⟩;have li:∀{n:Int},0<=n->n<=100->An ⟨0,n,[]⟩:=λa c=>Fs ⟨by omega,by omega⟩ ⟨by omega,by omega⟩;refine AS (BH hg) (AS rfl (AS rfl (AS rfl ?_)));have key:∀{N i:Nat},i<=g.params.length->g.params.length-i<N->∀(q:Int) (acc:List AE),p<=q->q<=p+30*i->acc.length=i->(∀e∈acc,An e)->CK acc<=4*i->
   Af (Eh M g b F D N i q acc) λr=>p<=r.1/\r.1<=p+90/\r.2.length<=3/\(∀e∈r.2,An e)/\CK r.2<=12:=by
  intro N i hi hN;refine Bo g.params.length (λN i=>∀(q:Int) (acc:List AE),p<=q->q<=p+30*i->acc.length=i->(∀e∈acc,An e)->CK acc<=4*i->
   Af (Eh M g b F D N i q acc) λr=>p<=r.1/\r.1<=p+90/\r.2.length<=3/\(∀e∈r.2,An e)/\CK r.2<=12) ?_ ?_ hi hN
  ·intro n q acc g1 g2 g3 g4 g5;rw[Eh,jn (by simp[AN])];exact Af.some ⟨g1,by show q<=_;omega,by show acc.length<=3;omega,g4,by show CK acc<=12;omega⟩
  ·intro n i hi ih q acc g1 g2 g3 g4 g5;obtain⟨t,ht,_⟩:=CF hi;rw[Eh,jm (by rw[jw,AN];omega),BK (n:=(i:Int)+1) (by omega) (by omega),show ((i:Int)+1)=((i+1:Nat):Int) by omega];refine AS (BH ht) ?_;refine Af.bind (Ly C Bb hM (by omega) t (p:=q) (by omega) (by omega)) λs hs=>?_;have s1:=hs.size;have s2:=hs.lo;have s3:=hs.hi;refine Af.app (by simp;omega) (by simp;omega) ?_;refine ih s.2 (acc++[s.1]) (by omega) (by omega) (by simp;omega) (λe he=>?_) (by rw[Ih,HT];omega);rcases kJ.1 he with h5|h5
   ·exact g4 e h5
   ·rw[jy]at h5;rw[h5];exact hs.CZ
 have k:=key (i:=1) (by omega) (by omega:g.params.length-1<M) p [⟨2,0,[⟨12,0,[]⟩,⟨0,1,[]⟩]⟩] (by omega) (by omega) rfl (λe he=>by rw[jy]at he;rw[he];exact Vp ⟨by omega,by omega⟩ ⟨by omega,by omega⟩ (vi (by omega) (by omega)) (li (by omega) (by omega))) (by rw[HT,Uh,Ke,Ke];omega);rw[show ((1:Nat):Int)=1 from rfl]at k;refine Af.bind k ?_;rintro⟨f13,qI⟩ ⟨a1,a2,a3,a4,a5⟩;dsimp only at a1 a2 a3 a4 a5⊢;have again:An ⟨9,f,qI⟩:=Jf (Dg (by omega) (by omega)) (Dg (by omega) (by omega)) a4 (by omega);have ea:en ⟨9,(f:Int),qI⟩<=13:=by rw[Gj];omega
 refine AS rfl ?_;refine Af.bind (R:=GQ 200 1000 p) ?_ ?_
 ·refine BB (λ_=>?_) λ_=>Af.some ⟨by show en ⟨9,(f:Int),qI⟩<=200;omega,again,by show p<=f13;omega,by show f13<=_;omega⟩;refine Af.bind (JK C Bb hM (d:=3) (by omega) (vars:=g.params) (by omega) 0 (p:=f13) (by omega) (by omega)) λsc hq=>?_;have c1:=hq.size;have c2:=hq.lo;have c3:=hq.hi;rw[jQ]at c1;rw[jK]at c3;refine AS rfl (Af.some ⟨?_,(Vp ⟨by omega,by omega⟩ ⟨by omega,by omega⟩ hq.CZ again:An ⟨6,1,[sc.1,⟨9,(f:Int),qI⟩]⟩),by show p<=sc.2;omega,by show sc.2<=_;omega⟩);show en ⟨6,1,[sc.1,⟨9,(f:Int),qI⟩]⟩<=200;rw[Uh];omega
 ·rintro⟨f20,o,m,k⟩ g20;have b1:=g20.size;have b2:=g20.lo;have b3:=g20.hi;have b4:=g20.CZ;dsimp only at b1 b2 b3 b4⊢;refine AS rfl (AS rfl (AS rfl ?_));refine Af.bind (JK C Bb hM (d:=4) (by omega) (vars:=g.params) (by omega) g.result (p:=f20) (by omega) (by omega)) λq hq=>?_;have c1:=hq.size;have c2:=hq.lo;have c3:=hq.hi;rw[Ya]at c1;rw[aJ]at c3;refine AS rfl (Af.some ⟨by rw[ca,Uh,Ke,Ke];omega,bg ⟨by omega,by omega⟩ ⟨by omega,by omega⟩ (Vp ⟨by omega,by omega⟩ ⟨by omega,by omega⟩ (li (by omega) (by omega)) (vi (by omega) (by omega))) b4 hq.CZ,by show p<=q.2;omega,by show q.2<=_;omega⟩)
theorem RP (C:CX D F){b:List Int}(Bb:Bk b){M:Nat}(hM:2000000<=M){vars:List Int}(hv:vars.length<=100)(t:Int){B:Nat}(hB:B<=18){p:Int}(h0:0<=p)(h1:p<=200000):Af (Ie M b p F D vars t (B:Int)) (GE 200 3000 p):=by
 have szle:∀d,d<=18->GP d<=157:=λd h=>by unfold GP;split<;>omega
 have pkle:∀d,d<=18->EV d<=1395:=λd h=>by unfold EV;split<;>omega
 have key:∀(B N:Nat) (f o m:Int) (k:List AE),B<N->B<=18->p<=f->f+80*B<=p+2900->An ⟨o,m,k⟩->en ⟨o,m,k⟩<=200->Af (F9 M b F D vars t N B f o m k) (GQ 200 3000 p):=by
  intro B
  induction B using Nat.strongRecOn with
  | _ B ih=>
   intro N f o m k hN hB g1 g2 g3 g4;obtain⟨N,rfl⟩ :∃m,N=m+1:=⟨N-1,by omega⟩
   rw[F9];refine Af.bind (R:=λc=>c=true->2<B) ?_ λc hc=>Cn (λh=>?_) λ_=>Af.some ⟨g4,g3,g1,by show f<=_;omega⟩
   ·refine AS (Gv (by have:=Gj o m k;show CK k<=_;omega) hM) (BB (λ_=>Af.some λh=>by rw[jw]at h;omega) λ_=>Af.some λh=>by cases h)
   ·have hB2:=hc h;have ed:Int.tdiv (B:Int) 2=((B / 2:Nat):Int):=rfl;have hd:2*(B / 2)<=B:=by omega
    have hd1:1<=B / 2:=by omega
    have hd3:B / 2<B:=by omega
    rw[ed];generalize B / 2=d at hd hd1 hd3⊢;have vg:EV d<=80*d:=by unfold EV;rw[jn (by omega)];omega
    rw[BK (n:=(d:Int)) (by omega) (by omega)];refine Af.bind (JK C Bb hM (d:=d) (by omega) hv t (p:=f) (by omega) (by omega)) λq hq=>?_;have q1:=hq.lo;have q2:=hq.hi;have q3:=hq.size;have q4:=szle d (by omega);have q5:=hq.parts;exact ih d hd3 N q.2 q.1.op q.1.num q.1.kids (by omega) (by omega) (by omega) (by omega) q5.CZ (by have:=q5.size;dsimp only at this;omega)
 unfold Ie;refine Af.bind (JK C Bb hM (d:=B) (by omega) hv t (p:=p) (by omega) (by omega)) λq hq=>?_;have q1:=hq.lo;have q2:=hq.hi;have q3:=hq.size;have q4:=szle B hB;have q6:=pkle B hB;have q5:=hq.parts;refine Af.bind (key B M q.2 q.1.op q.1.num q.1.kids (by omega) hB (by omega) (by omega) q5.CZ (by have:=q5.size;dsimp only at this;omega)) ?_;rintro⟨f,o,m,k⟩ g;exact Af.some ⟨g.size,g.CZ,g.lo,g.hi⟩
theorem YE {l:List Int}(hl:l.length<=3){x:Int}{M:Nat}(hM:2000000<=M):Af (Jn M l x) λr=>r=-1∨(0<=r/\r<(l.length:Int)):=by
 have key:∀{N i:Nat},i<=l.length->l.length-i<N->Af (Ey l x N i) λv=>match v with|.inl r=>0<=r/\r<(l.length:Int)|.inr _=>True:=by
  intro N i hi hN;refine Bo l.length (λN i=>Af (Ey l x N i) λv=>match v with|.inl r=>0<=r/\r<(l.length:Int)|.inr _=>True) ?_ ?_ hi hN
  ·intro n;rw[Ey,jn (by simp[AN])];exact Af.some jf
  ·intro n i hi ih;obtain⟨y,hy,_⟩:=CF hi;rw[Ey,jm (by rw[jw,AN];omega),BK (n:=(i:Int)+1) (by omega) (by omega),show ((i:Int)+1)=((i+1:Nat):Int) by omega];refine AS (BH hy) (BB (λ_=>Af.some (show 0<=(i:Int)/\(i:Int)<_ by omega)) λ_=>ih)
 unfold Jn;have k:=key (kE _) (by omega:l.length-0<M);rw[oQ]at k;refine Af.cont (R:=λr=>0<=r/\r<(l.length:Int)) (S:=λ_=>True) (k.mono λv hv=>by cases v<;>exact hv) (λr hr=>.inr hr) λ_ _=>Af.some (.inl rfl)
theorem ZQ (C:CX D F){b:List Int}(Bb:Bk b){M:Nat}(hM:2000000<=M){f:Nat}(hf:f<F.length){p:Int}(h0:0<=p)(h1:p<=150000):Af (KG M b p F D f) (GE 1000 7000 p):=by
 have sH:=C.fl;obtain⟨g,hg,tE⟩:=CF hf;have hp3:=C.par g tE;unfold KG;refine AS (BH hg) ?_;refine Af.bind (YE hp3 hM) λa ha=>?_;refine AS rfl ?_;refine Af.bind (Cb Bb ⟨by omega,by omega⟩) λqA hq=>?_;have q1:=hq.pos;have fin:∀{x:Option (AE×Int)},Af x (GE 1000 3000 qA.2)->Af (Option.bind x λqm=>some (qm.2,qm.1.op,qm.1.num,qm.1.kids)) (GQ 1000 3500 p):=λhx=>
  Af.bind hx λr hr=>Af.some (by
   have:=hr.parts;exact⟨this.size,this.CZ,by have:=this.lo;dsimp only at this⊢;omega,by have:=this.hi;dsimp only at this⊢;omega⟩)
 refine Af.bind (R:=GQ 1000 3500 p) ?_ ?_
 ·refine Af.bind (R:=λ_=>True) (BB (λ_=>Af.some jf) λ_=>Af.some jf) λt25 _=>Cn (λ_=>fin (WJ C Bb hM (by omega) (by omega))) λ_=>?_;refine Af.bind (R:=λt=>t=true->0<=a) ?_ λt30 ht30=>Cn (λh=>?_) λ_=>?_
  ·refine BB (λ_=>BB (λh=>?_) λ_=>Af.some λh=>by cases h) λ_=>Af.some λh=>by cases h
   exact BB (λ_=>Af.some λ_=>h) λ_=>Af.some λ_=>h
  ·have ha0:=ht30 h;obtain⟨an,rfl⟩:=kZ ha0;exact fin (WQ C Bb hM hf (by omega) (by omega) (by omega))
  have pos:∀(z:Int),Af (if decide (qA.1<3)=true then
      if (decide (0<(Sh.len g.params)))=true then
       (Sh.get g.params 0).bind λze=>
       if (decide (ze=z))=true then
        if (decide (g.result=0))=true then
         some true
        else
         some (decide (g.result=(if z=3 then 3 else 1)))
       else
        some false
      else
       some false
     else
      some false) λt=>t=true->0<g.params.length:=by
   intro z;refine BB (λ_=>BB (λh=>?_) λ_=>Af.some λh=>by cases h) λ_=>Af.some λh=>by cases h
   rw[AN]at h;refine Af.get (by omega) (by omega) λc _ _=>?_;refine BB (λ_=>BB (λ_=>Af.some λ_=>by omega) λ_=>Af.some λ_=>by omega) λ_=>Af.some λh=>by cases h
  refine Af.bind (pos 3) λt35 ht35=>Cn (λh=>fin (Wj C Bb hM hf hg (ht35 h) (by omega) (by omega))) λ_=>?_;refine Af.bind (pos 0) λt40 ht40=>Cn (λh=>fin (Wb C Bb hM hf hg (ht40 h) (by omega) (by omega))) λ_=>?_;have:=RP C Bb hM (vars:=g.params) (by omega) g.result (B:=18) (by omega) (p:=qA.2) (by omega) (by omega);exact fin (this.mono λr hr=>hr.up (by omega) (by omega))
 ·rintro⟨f12,o,m,k⟩ g12;have b1:=g12.size;have b2:=g12.lo;have b3:=g12.hi;have b4:=g12.CZ;dsimp only at b1 b2 b3 b4⊢;refine AS (Gv (by have:=Gj o m k;show CK k<=_;omega) hM) (BB (λ_=>?_) λ_=>Af.some ⟨b1,b4,b2,by show f12<=_;omega⟩);have:=RP C Bb hM (vars:=g.params) (by omega) g.result (B:=12) (by omega) (p:=f12) (by omega) (by omega);refine Af.bind this λr hr=>Af.some ⟨by have:=hr.size;show en r.1<=_;omega,hr.CZ,by have:=hr.lo;show p<=r.2;omega,by have:=hr.hi;show r.2<=_;omega⟩
end
end RC
namespace RC
open Go
theorem gl (n:Int):Gw (Sh.w n):=by
 unfold Sh.w Gw;rw[IntKind.wrap_i64];omega
def cn (l:List Int):Db:=⟨l⟩
def gD:List AM:=[⟨0,0,[⟨[]⟩,⟨[0,1]⟩]⟩,⟨0,0,[]⟩,⟨0,0,[⟨[]⟩,⟨[3,0,3]⟩]⟩]
def gL:List AM:=[⟨0,0,[⟨[1,3]⟩]⟩,⟨1,0,[]⟩,⟨0,0,[⟨[1,1,0]⟩,⟨[0]⟩,⟨[3]⟩]⟩,⟨0,1,[]⟩]
def GD (D:List AM):Prop:=D=gD∨∃d∈gL,D=gD++[d]
theorem O3 {b:List Int}(Bb:Bk b){p:Int}(h0:0<=p)(h1:p<=500000):Af (HE b p) λq=>GD q.1/\q.2=p+1:=by
 unfold HE;refine AS rfl (AS rfl (AS rfl (AS rfl (AS rfl (AS rfl (AS rfl (AS rfl ?_)))))));refine Af.bind (Cb Bb ⟨by omega,by omega⟩) λq hq=>?_;have q1:=hq.pos;have q2:=hq.nn;have q3:=hq.lt (by omega);refine Af.bind (R:=GD) ?_ λl hl=>Af.some ⟨hl,q1⟩;refine BB (λ_=>?_) λ_=>Af.some (.inl rfl);refine Af.get q2 (by simp;omega) λc _ hc=>?_;refine Af.app (by simp) (by simp) (Af.some (.inr ⟨c,?_,rfl⟩));exact hc
structure iT (F:List Ac):Prop where
 fl:F.length<=4
 eN:1<=F.length
 par :∀f∈F,f.params.length<=3
 cl :∀f∈F,(∀x∈f.params,x=0∨x=1∨x=3)∨(f.params=[2,1]/\f.result=1)
theorem CX.of {D:List AM}{F:List Ac}(hD:GD D)(S:iT F):CX D F:=by
 have all:∀{D:List AM},D.length<=4->nc D<=7->(∀d∈D,d.cons.length<=3)->(∀d∈D,∀c∈d.cons,c.fields.length<=3/\∀x∈c.fields,x=0∨x=1∨x=3)->Bs D 1=[0,1]->Bs D 3=[2,3]->
   Gf D 0 0=some (1,⟨[]⟩)->Gf D 0 1=some (1,⟨[0,1]⟩)->Gf D 0 2=some (3,⟨[]⟩)->Gf D 0 3=some (3,⟨[3,0,3]⟩)->IL 1 1 D 0=-1->CX D F:=λa b c d e f g h i j k=>
  ⟨a,b,c,d,e,f,⟨_,g⟩,⟨_,h⟩,⟨_,i⟩,⟨_,j⟩,k,S.fl,S.eN,S.par,S.cl⟩
 rcases hD with rfl|⟨d,hd,rfl⟩
 ·exact all (by decide) (by decide) (by decide) (by decide) (by decide) (by decide) rfl rfl rfl rfl (by decide)
 ·simp only[gL,js,kN,kx]at hd;rcases hd with rfl|rfl|rfl|rfl;all_goals exact all (by decide) (by decide) (by decide) (by decide) (by decide) (by decide) rfl rfl rfl rfl (by decide)
structure iH (f:Ac):Prop where
 CZ:Vf f
 par:f.params.length<=4
 size:en f.body<=1001
theorem V2 {l:List Int}(hl:l.length<=4)(h :∀x∈l,-1000000<=x/\x<=1000000):IE Gw l:=⟨λx hx=>Dg (h x hx).1 (h x hx).2,by omega⟩
structure Yf (F:List Ac):Prop where
 sg:iT F
 ok :∀f∈F,iH f
 sz :∀f∈F,en f.body<=1000
theorem LP {α:Type}{l:List α}{i:Int}{x y:α}(h:y∈Sh.put l i x):y∈l∨y=x:=kp h
theorem Yf.put {F:List Ac}(P:Yf F){i:Int}{g:Ac}(hg:g∈F){e:AE}(he:An e)(hs:en e<=1000):Yf (Sh.put F i ⟨g.params,g.result,e⟩):=by
 have hl:(Sh.put F i ⟨g.params,g.result,e⟩).length=F.length:=by unfold Sh.put;simp
 have G:=P.ok g hg;refine⟨⟨by rw[hl];exact P.sg.fl,by rw[hl];exact P.sg.eN,λf hf=>?_,λf hf=>?_⟩,λf hf=>?_,λf hf=>?_⟩
 ·rcases LP hf with h|rfl
  ·exact P.sg.par f h
  ·exact P.sg.par g hg
 ·rcases LP hf with h|rfl
  ·exact P.sg.cl f h
  ·exact P.sg.cl g hg
 ·rcases LP hf with h|rfl
  ·exact P.ok f h
  ·exact⟨⟨G.CZ.params,G.CZ.result,he⟩,G.par,by show en e<=_;omega⟩
 ·rcases LP hf with h|rfl
  ·exact P.sz f h
  ·exact hs
theorem Sq {b:List Int}(Bb:Bk b){M:Nat}(hM:2000000<=M){p:Int}(h0:0<=p)(h1:p<=1000):Af (HI M b p) λq=>GD q.1.decls/\Yf q.1.funcs/\0<=q.2/\q.2<=100000:=by
 unfold HI;refine Af.bind (O3 Bb h0 (by omega)) λq3 ⟨hD,hq3⟩=>?_;iterate 17 refine AS rfl ?_
 have sigs:∀(l:List Ac),(∀f∈l,f.body=⟨0,0,[]⟩/\f.params.length<=3/\(∀x∈f.params,0<=x/\x<=3)/\(0<=f.result/\f.result<=3)/\((∀x∈f.params,x=0∨x=1∨x=3)∨(f.params=[2,1]/\f.result=1)))->l.length<=4->1<=l.length->Yf l:=λl h h4 h5=>
  ⟨⟨h4,h5,λf hf=>(h f hf).2.1,λf hf=>(h f hf).2.2.2.2⟩,λf hf=>by
   obtain⟨b1,b2,b3,b4,_⟩:=h f hf;exact⟨⟨V2 (by omega) λx hx=>by have:=b3 x hx;omega,Dg (by omega) (by omega),by rw[b1];exact Fs ⟨by omega,by omega⟩ ⟨by omega,by omega⟩⟩,by omega,by rw[b1,Ke];omega⟩,λf hf=>by rw[(h f hf).1,Ke];omega⟩
 have pg:∀{l:List Ac} {f:Int×Int->Ac->Option (AP×Int)} {s:Int} {Q:AP×Int->Prop},1<=l.length->0<=s->s<=900000->(∀(q:Int×Int) c,q.2=s+1->c∈l->Af (f q c) Q)->Af ((Az b s (Sh.len l)).bind λsQ=>(Sh.get l sQ.1).bind λxV=>f sQ xV) Q:=λhl yA hs1 k=>by
  rw[AN];refine Af.bind (Cb Bb ⟨yA,by omega⟩) λq hq=>?_;exact Af.get hq.nn (hq.lt (by omega)) λc _ hc=>k q c hq.pos hc
 refine pg (by simp) (by omega) (by omega) λsQ xV hq25 hc26=>?_;refine pg (by simp) (by omega) (by omega) λri wE hq27 hc28=>?_;refine pg (by simp) (by omega) (by omega) λsO wc hq29 hc30=>?_;refine Af.bind (Gc Bb ⟨by omega,by omega⟩ (by simp) (by simp)) λsq hq32=>?_;have o1:=hq32.pos;have o2:=hq32.mem;simp only[js,kN,kx]at o2;obtain⟨n,hn⟩:=kZ (by omega:0<=sq.1);rw[hn];refine AS (dA (by simp;omega)) ?_;generalize hl:([Ac.mk [] 0 (AE.mk 0 0 []),xV,wE,wc].take n)=yO;have hlen:yO.length=n:=by rw[<- hl];simp;omega
 have qB:∀f∈yO,f.body=⟨0,0,[]⟩/\f.params.length<=3/\(∀x∈f.params,0<=x/\x<=3)/\(0<=f.result/\f.result<=3)/\((∀x∈f.params,x=0∨x=1∨x=3)∨(f.params=[2,1]/\f.result=1)):=by
  intro f hf;rw[<- hl]at hf;have:=kv hf;simp only[js,kN,kx]at this hc26 hc28 hc30;rcases this with rfl|rfl|rfl|rfl
  ·simp
  ·rcases hc26 with rfl|rfl|rfl|rfl|rfl|rfl<;>simp
  ·rcases hc28 with rfl|rfl|rfl|rfl|rfl|rfl<;>simp
  ·rcases hc30 with rfl|rfl|rfl|rfl<;>simp
 have P0:=sigs yO qB (by omega) (by omega);have key:∀(k N:Nat) (z p':Int) (l:List Ac),z=(k:Int)-1->k<N->k<=4->k<=l.length->Yf l->0<=p'->p'+7000*k<=50000->Af (D9 M b q3 N z p' l) λr=>Yf r.2/\0<=r.1/\r.1<=60000:=by
  intro k
  induction k with
  | zero=>
   intro N z p' l hz hN _ _ hP g0 g1;obtain⟨N,rfl⟩ :∃m,N=m+1:=⟨N-1,by omega⟩
   rw[D9,jn (by rw[jw];omega)];exact Af.some ⟨hP,g0,by show p'<=_;omega⟩
  | succ k ih=>
   intro N z p' l hz hN h4 rn hP g0 g1;obtain⟨N,rfl⟩ :∃m,N=m+1:=⟨N-1,by omega⟩
   have hzk:z=(k:Int):=by omega
   subst hzk;rw[D9,jm (by rw[jw];omega)];have C:=CX.of hD hP.sg;refine Af.bind (ZQ C Bb hM (f:=k) (by omega) (p:=p') g0 (by omega)) λr hr=>?_;have r1:=hr.lo;have r2:=hr.hi;obtain⟨g,hg,tE⟩:=CF (l:=l) (i:=k) (by omega);refine AS (BH hg) ?_;refine ih N (Sh.w ((k:Int)-1)) r.2 _ (BK (by omega) (by omega)) (by omega) (by omega) (by unfold Sh.put;simp;omega) (hP.put tE hr.CZ hr.size) (by omega) (by omega)
 have k:=key n M (Sh.w ((n:Int)-1)) sq.2 yO (BK (by omega) (by omega)) (by omega) (by omega) (by omega) P0 (by omega) (by omega);refine Af.bind k ?_;rintro⟨f40,yN⟩ ⟨a1,a2,a3⟩;exact Af.some ⟨hD,a1,a2,by show f40<=_;dsimp only at a3;omega⟩
theorem QX {M:Nat}(hM:2000000<=M):∀(n:Nat) (l:List AE),CK l<n->CK l<=100000->DG M n l=some l:=by
 intro n
 induction n with
 | zero=>intro l h;omega
 | succ n ih=>
  intro l hn hs;rw[DG];unfold HU;have hl:=H2 l;have key:∀{N i:Nat},i<=l.length->l.length-i<N->CT l (DG M n) N i (l.take i)=some l:=by
   intro N i hi hN;refine Bo l.length (λN i=>CT l (DG M n) N i (l.take i)=some l) ?_ ?_ hi hN
   ·intro m;rw[CT,jn (by simp[AN]),lM]
   ·intro m i hi sU;obtain⟨e,he,hem⟩:=CF hi;have h1:=Ho hem;have h2:=Fw e;rw[CT,jm (by rw[jw,AN];omega),BH he];unfold JH;simp only[jd];rw[ih e.kids (by omega) (by omega)];simp only[jd];rw[EM _ _ 40 (by simp;omega) (by simp;omega),BK (by omega) (by omega),show ((i:Int)+1)=((i+1:Nat):Int) by omega];simp only[jd];have:(⟨e.op,e.num,e.kids⟩:AE)=e:=by cases e;rfl
    rw[this,<- D4 he];exact sU
  have:=key (kE _) (by omega:l.length-0<M);rw[lF,oQ]at this;rw[this];rfl
theorem Yo:∀(l:List AE) (i:Nat) (e x:AE),l[i]?=some e->CK (l.set i x)+en e=CK l+en x
 | [],i,e,x,h=>by simp at h
 | a::l,0,e,x,h=>by
  simp only[kK,jh]at h;subst h;simp only[mf,CK];omega
 | a::l,i+1,e,x,h=>by
  have:=Yo l i e x (by simpa using h);simp only[List.set_cons_succ,CK];omega
theorem fN {b:List Int}(Bb:Bk b){M:Nat}(hM:2000000<=M):∀(n:Nat) (e:AE) (p:Int),en e<n->en e<=1001->An e->0<=p->p+5*en e<=300000->Af (JV M n b p e) λq=>en q.1<=en e+1/\An q.1/\p<=q.2/\q.2<=p+5*en e:=by
 intro n
 induction n with
 | zero=>intro e p h;have:=G6 e;omega
 | succ n ih=>
  intro e p hn hs pt h0 h1;have hee:=Fw e;have rn:=H2 e.kids;rw[JV];unfold Lu;refine Af.bind (R:=λq:Bool×Int=>(q.1=true->0<e.kids.length)/\p<=q.2/\q.2<=p+1) ?_ ?_
  ·refine BB (λh=>?_) λ_=>Af.some ⟨(λh=>by cases h),by show p<=p;omega,by show p<=_;omega⟩;rw[AN]at h;exact Af.bind (Cb Bb ⟨by omega,by omega⟩) λq hq=>Af.some ⟨λ_=>by omega,by have:=hq.pos;show p<=q.2;omega,by have:=hq.pos;show q.2<=_;omega⟩
  ·rintro⟨t4,f5⟩ ⟨g1,g2,g3⟩;dsimp only at g1 g2 g3⊢;refine Cn (λh=>?_) λ_=>?_
   ·have hk:=g1 h;refine AS (QX hM M e.kids (by omega) (by omega)) ?_;rw[AN];refine Af.bind (Cb Bb ⟨by omega,by omega⟩) λq hq=>?_;have q1:=hq.pos;have q2:=hq.nn;have q3:=hq.lt (by omega);refine Af.get q2 q3 λc hc qW=>?_;have tB:=Ho qW;refine Af.bind (ih c q.2 (by omega) (by omega) (pt.kids c qW) (by omega) (by omega)) λr ⟨r1,r2,r3,r4⟩=>?_;have rm:=Yo e.kids q.1.toNat c r.1 hc;refine AS rfl (Af.some ⟨?_,?_,by show p<=r.2;omega,by show r.2<=_;omega⟩)
    ·show en ⟨e.op,e.num,Sh.put e.kids q.1 r.1⟩<=_;unfold Sh.put;rw[Gj];omega
    ·show An ⟨e.op,e.num,Sh.put e.kids q.1 r.1⟩;refine Jf pt.op pt.num (λx hx=>?_) (by unfold Sh.put;simp;omega);rcases LP hx with h3|rfl
     ·exact pt.kids x h3
     ·exact r2
   ·refine Af.bind (Cb Bb ⟨by omega,by omega⟩) λqe xy=>?_;have a1:=xy.pos;have a2:=xy.nn;have a3:=xy.lt (by omega);have hp:=G6 e;have same:∀{o m:Int},Gw o->Gw m->An ⟨o,m,e.kids⟩:=λho hm=>Jf ho hm pt.kids (by omega);refine BB (λ_=>?_) λ_=>?_
    ·refine Af.bind (Cb Bb ⟨by omega,by omega⟩) λq hq=>?_;have c1:=hq.pos;have c2:=hq.nn;have c3:=hq.lt (by omega);refine AS rfl (Af.some ⟨?_,same (Dg (by omega) (by omega)) pt.num,by show p<=q.2;omega,by show q.2<=_;omega⟩);show en ⟨q.1,e.num,e.kids⟩<=_;rw[Gj];omega
    refine BB (λ_=>?_) λ_=>?_
    ·refine Af.bind (Gc Bb ⟨by omega,by omega⟩ (by simp) (by simp)) λq hq=>?_;have c1:=hq.pos;refine AS rfl (Af.some ⟨?_,same pt.op (gl _),by show p<=q.2;omega,by show q.2<=_;omega⟩);show en ⟨e.op,Sh.w (e.num+q.1),e.kids⟩<=_;rw[Gj];omega
    refine BB (λ_=>?_) λ_=>?_
    ·refine AS (QX hM M e.kids (by omega) (by omega)) (AS rfl ?_);refine Af.app (by simp;omega) (by simp;omega) (AS rfl (Af.some ⟨?_,?_,by show p<=qe.2;omega,by show qe.2<=_;omega⟩))
     ·show en ⟨e.op,e.num,e.kids++[⟨0,1,[]⟩]⟩<=_;rw[Gj,Ih,HT,Ke];omega
     ·show An ⟨e.op,e.num,e.kids++[⟨0,1,[]⟩]⟩;refine .mk pt.op pt.num (by show (e.kids++_).length<=_;simp;omega) λx hx=>?_;rcases kJ.1 (show x∈e.kids++[⟨0,1,[]⟩] from hx) with h3|h3
      ·exact pt.kids x h3
      ·rw[jy]at h3;rw[h3];exact Fs ⟨by omega,by omega⟩ ⟨by omega,by omega⟩
    refine BB (λ_=>?_) λ_=>?_
    ·refine Af.bind (Gc Bb ⟨by omega,by omega⟩ (by simp) (by simp)) λq hq=>?_;have c1:=hq.pos;have c2:=hq.mem;simp only[js,kN,kx]at c2;refine AS rfl (Af.some ⟨?_,Fs ⟨by omega,by omega⟩ ⟨by omega,by omega⟩,by show p<=q.2;omega,by show q.2<=_;omega⟩);show en ⟨12,q.1,[]⟩<=_;rw[Ke];omega
    ·refine Af.bind (Gc Bb ⟨by omega,by omega⟩ (by simp) (by simp)) λq hq=>?_;have c1:=hq.pos;have c2:=hq.mem;simp only[js,kN,kx]at c2;refine AS rfl (Af.some ⟨?_,Fs ⟨by omega,by omega⟩ ⟨by omega,by omega⟩,by show p<=q.2;omega,by show q.2<=_;omega⟩);show en ⟨0,q.1,[]⟩<=_;rw[Ke];omega
structure V9 (D:List AM):Prop where
 len:D.length<=6
 CZ :∀d∈D,MY d
 size :∀d∈D,dz d<=20
theorem fA {f t:Int}{cs:List Db}(hf:-1000000<=f/\f<=1000000)(ht:-1000000<=t/\t<=1000000)(hl:cs.length<=4)(h :∀c∈cs,c.fields.length<=4/\∀x∈c.fields,-1000000<=x/\x<=1000000):MY ⟨f,t,cs⟩:=
 ⟨Dg hf.1 hf.2,Dg ht.1 ht.2,λc hc=>⟨V2 (h c hc).1 (h c hc).2⟩,by show cs.length<=_;omega⟩
theorem iG {f t:Int}{cs:List Db}(hl:cs.length<=4)(h :∀c∈cs,c.fields.length<=4):dz ⟨f,t,cs⟩<=20:=by
 have :∀l:List Db,(∀c∈l,c.fields.length<=4)->(l.map cz).sum<=4*l.length:=λl=>by
  induction l with
  | nil=>simp
  | cons c l ih=>
   intro h;have h1:=h c (by simp);have h2:=ih λc hc=>h c (by simp[hc]);simp only[kI,mM,kQ];have:cz c=c.fields.length:=rfl;omega
 have h2:=this cs h;show cs.length+(cs.map cz).sum<=20;omega
theorem Vq {f t:Int}{cs:List Db}(hf:-1000000<=f/\f<=1000000)(ht:-1000000<=t/\t<=1000000)(hl:cs.length<=4)(h :∀c∈cs,c.fields.length<=4/\∀x∈c.fields,-1000000<=x/\x<=1000000):MY ⟨f,t,cs⟩/\dz ⟨f,t,cs⟩<=20:=
 ⟨fA hf ht hl h,iG hl λc hc=>(h c hc).1⟩
theorem TY {D:List AM}(h:GD D):V9 D/\3<=D.length/\D.length<=4:=by
 have qB:∀d∈gD++gL,MY d/\dz d<=20:=by
  intro d hd;simp only[gD,gL,nX,lR,js,kN,kx]at hd;rcases hd with rfl|rfl|rfl|rfl|rfl|rfl|rfl<;>exact Vq (by decide) (by decide) (by decide) (by decide)
 rcases h with rfl|⟨d,hd,rfl⟩
 ·exact⟨⟨by decide,λd hd=>(qB d (ko _ hd)).1,λd hd=>(qB d (ko _ hd)).2⟩,by decide,by decide⟩
 ·have hm:∀x∈gD++[d],x∈gD++gL:=λx hx=>by
   rcases kJ.1 hx with h|h
   ·exact ko _ h
   ·rw[jy]at h;rw[h];exact mD _ hd
  exact⟨⟨by simp[gD],λx hx=>(qB x (hm x hx)).1,λx hx=>(qB x (hm x hx)).2⟩,by simp[gD],by simp[gD]⟩
theorem V9.put {D:List AM}(h:V9 D){i:Int}{d:AM}(hd:MY d/\dz d<=20):V9 (Sh.put D i d):=
 ⟨by unfold Sh.put;simp;exact h.len,λx hx=>(LP hx).elim (λh3=>h.CZ x h3) (λe=>by rw[e];exact hd.1),λx hx=>(LP hx).elim (λh3=>h.size x h3) (λe=>by rw[e];exact hd.2)⟩
theorem V9.app {D E:List AM}(h:V9 D)(hl:D.length+E.length<=6)(hE :∀d∈E,MY d/\dz d<=20):V9 (D++E):=
 ⟨by simp;omega,λx hx=>(kJ.1 hx).elim (λh3=>h.CZ x h3) (λh3=>(hE x h3).1),λx hx=>(kJ.1 hx).elim (λh3=>h.size x h3) (λh3=>(hE x h3).2)⟩
theorem jZ {α:Type}{l:List α}{i:Nat}(h:i<=l.length):Sh.sl l (i:Int) (Sh.len l)=some (l.drop i):=by
 unfold Sh.sl;rw[AN,jm (by omega)];simp
theorem V6 {b:List Int}(Bb:Bk b){p:Int}(h0:0<=p)(h1:p<=300000):Af (I3 b p) λq=>V9 q.1/\p<=q.2/\q.2<=p+10:=by
 unfold I3;refine Af.bind (O3 Bb h0 (by omega)) λq3 ⟨hD,hq3⟩=>?_;obtain⟨O,l3,l4⟩:=TY hD;rw[AN];refine Af.bind (Cb Bb ⟨by omega,by omega⟩) λq5 hq5=>?_;have a1:=hq5.pos;have a2:=hq5.nn;have a3:=hq5.lt (by omega);refine Af.bind (R:=λr:Int×List AM=>V9 r.2/\p<=r.1/\r.1<=p+10) ?_ λr hr=>Af.some ⟨hr.1,hr.2⟩;refine Af.bind (Cb Bb ⟨by omega,by omega⟩) λqS hq12=>?_;have b1:=hq12.pos;refine BB (λ_=>?_) λ_=>?_
 ·refine Af.bind (Gc Bb ⟨by omega,by omega⟩ (by simp) (by simp)) λx hx=>?_;have x1:=hx.pos;have x2:=hx.mem;refine Af.bind (Gc Bb ⟨by omega,by omega⟩ (by simp) (by simp)) λy hy=>?_;have y1:=hy.pos;have y2:=hy.mem;simp only[js,kN,kx]at x2 y2;exact Af.get a2 a3 λc _ _=>Af.some ⟨O.put (Vq (by omega) (by omega) (by decide) (by simp)),by show p<=y.2;omega,by show y.2<=_;omega⟩
 refine BB (λ_=>?_) λ_=>?_
 ·refine Af.bind (Gc Bb ⟨by omega,by omega⟩ (by simp) (by simp)) λx hx=>?_;have x1:=hx.pos;have x2:=hx.mem;simp only[js,kN,kx]at x2;refine AS rfl (AS rfl (AS rfl ?_));refine Af.get a2 a3 λc _ _=>Af.some ⟨O.put (Vq (by omega) (by omega) (by simp) ?_),by show p<=x.2;omega,by show x.2<=_;omega⟩;intro c hc;simp only[js,kN,kx]at hc;rcases hc with rfl|rfl|rfl
  ·exact⟨by simp,λz hz=>by rw[jy]at hz;omega⟩
  ·exact⟨by simp,by simp⟩
  ·exact⟨by simp,by simp⟩
 refine BB (λ_=>?_) λ_=>?_
 ·refine AS rfl ?_;rw[BK (n:=q5.1+1) (by omega) (by omega)];refine Af.get a2 a3 λc _ _=>Af.some ⟨O.put (Vq (by omega) (by omega) (by simp) ?_),by show p<=qS.2;omega,by show qS.2<=_;omega⟩;intro c hc;rw[jy]at hc;rw[hc];exact⟨by simp,λz hz=>by rw[jy]at hz;omega⟩
 refine BB (λ_=>?_) λ_=>?_
 ·refine Af.bind (Gc Bb ⟨by omega,by omega⟩ (by simp) (by simp)) λx hx=>?_;have x1:=hx.pos;have x2:=hx.mem;simp only[js,kN,kx]at x2;refine Af.app (by simp;omega) (by simp;omega) (Af.some ⟨O.app (by simp;omega) λd hd=>?_,by show p<=x.2;omega,by show x.2<=_;omega⟩);rw[jy]at hd;rw[hd];exact Vq (by omega) (by omega) (by simp) (by simp)
 refine BB (λ_=>?_) λ_=>?_
 ·refine Af.bind (Cb Bb ⟨by omega,by omega⟩) λx hx=>?_;have x1:=hx.pos;have x2:=hx.nn;have x3:=hx.lt (by omega);refine AS rfl (AS rfl (AS rfl (AS rfl ?_)));refine Af.bind (Cb Bb ⟨by omega,by omega⟩) λy hy=>?_;have y1:=hy.pos;have y2:=hy.nn;have y3:=hy.lt (by omega);obtain⟨k,hk⟩:=kZ y2;rw[hk];refine AS (jZ (by simp;omega)) ?_;refine Af.get a2 a3 λc _ _=>Af.some ⟨O.put (Vq (by omega) (by omega) (by simp) ?_),by show p<=y.2;omega,by show y.2<=_;omega⟩;intro c hc;have:=lQ hc;simp only[js,kN,kx]at this;rcases this with rfl|rfl|rfl|rfl<;>exact⟨by simp,by simp⟩
 refine BB (λ_=>?_) λ_=>?_
 ·refine Af.app (by simp;omega) (by simp;omega) (Af.some ⟨O.app (by simp;omega) λd hd=>?_,by show p<=qS.2;omega,by show qS.2<=_;omega⟩);simp only[js,kN,kx]at hd;rcases hd with rfl|rfl<;>exact Vq (by omega) (by omega) (by simp) (by simp)
 ·exact Af.some ⟨O,by show p<=qS.2;omega,by show qS.2<=_;omega⟩
structure PD (p:AP):Prop where
 decls:V9 p.decls
 LN:p.funcs.length<=5
 gP :∀f∈p.funcs,iH f
theorem PK {α:Type}{f:α->Nat}{a:Nat}:∀(l:List α),(∀x∈l,f x<=a)->(l.map f).sum<=a*l.length
 | [],_=>by simp
 | x::l,h=>by
  have h1:=h x (by simp);have h2:=PK l λy hy=>h y (by simp[hy]);simp only[kI,mM,kQ];rw[Nat.mul_add];omega
theorem PD.small {p:AP}(P:PD p):EB p:=by
 refine⟨⟨⟨P.decls.CZ,by have:=P.decls.len;omega⟩,λf hf=>(P.gP f hf).CZ,by have:=P.LN;omega⟩,?_⟩;have h1:=PK p.decls P.decls.size;have h2:=PK (f:=Xq) (a:=1010) p.funcs λf hf=>by
  have:=(P.gP f hf).par;have:=(P.gP f hf).size;have h3:=Fw f.body;show f.params.length+CK f.body.kids<=_;omega
 have h3:=P.decls.len;have h4:=P.LN;unfold SW;omega
theorem SA {b:List Int}(Bb:Bk b){M:Nat}(hM:2000000<=M){D:List AM}{F:List Ac}(hD:GD D)(P:Yf F){p:Int}(h0:0<=p)(h1:p<=100000):Af (G2 M b p F D) λq=>PD q.1/\0<=q.2/\q.2<=200000:=by
 obtain⟨O,l3,l4⟩:=TY hD;have hF:=P.sg.fl;have vv:=P.sg.eN;unfold G2;rw[AN];refine Af.bind (Cb Bb ⟨by omega,by omega⟩) λq3 hq3=>?_;have a1:=hq3.pos;have a2:=hq3.nn;have a3:=hq3.lt (by omega);refine Af.get a2 a3 λc5 _ hc5=>?_;have G:=P.ok c5 hc5;have P0:PD ⟨D,F⟩:=⟨O,by show F.length<=5;omega,P.ok⟩
 have xz:∀{g:Ac},iH g->PD ⟨D,Sh.put F q3.1 g⟩:=λhg=>⟨O,by show (Sh.put F _ _).length<=5;unfold Sh.put;simp;omega,λf hf=>(LP hf).elim (λh=>P.ok f h) (λe=>by rw[e];exact hg)⟩;refine Af.bind (R:=λr:Int×List Ac×List AM=>PD ⟨r.2.2,r.2.1⟩/\0<=r.1/\r.1<=200000) ?_ λr hr=>Af.some ⟨hr.1,hr.2⟩;refine Af.bind (Cb Bb ⟨by omega,by omega⟩) λpo hq13=>?_;have b1:=hq13.pos;refine BB (λ_=>?_) λ_=>?_
 ·unfold Q9;have hs:=P.sz c5 hc5;exact Af.bind (fN Bb hM M c5.body po.2 (by omega) (by omega) G.CZ.body (by omega) (by omega)) λr ⟨r1,r2,r3,r4⟩=>Af.some ⟨xz ⟨⟨G.CZ.params,G.CZ.result,r2⟩,G.par,by show en r.1<=_;omega⟩,by show 0<=r.2;omega,by show r.2<=_;omega⟩
 refine BB (λ_=>?_) λ_=>?_
 ·refine Af.bind (Gc Bb ⟨by omega,by omega⟩ (by simp) (by simp)) λx hx=>?_;have x1:=hx.pos;have x2:=hx.mem;simp only[js,kN,kx]at x2;have hp:=P.sg.par c5 hc5;refine AS (I6 (by omega) (by simp)) (Af.some ⟨xz ⟨⟨⟨λy hy=>?_,by show (c5.params++[x.1]).length<=_;simp;omega⟩,G.CZ.result,G.CZ.body⟩,by show (c5.params++[x.1]).length<=4;simp;omega,G.size⟩,by show 0<=x.2;omega,by show x.2<=_;omega⟩);rcases kJ.1 (show y∈c5.params++[x.1] from hy) with h|h
  ·exact G.CZ.params.1 y h
  ·rw[jy]at h;rw[h];exact Dg (by omega) (by omega)
 refine BB (λ_=>?_) λ_=>?_
 ·refine Af.bind (Gc Bb ⟨by omega,by omega⟩ (by simp) (by simp)) λx hx=>?_;have x1:=hx.pos;have x2:=hx.mem;simp only[js,kN,kx]at x2;exact Af.some ⟨xz ⟨⟨G.CZ.params,(Dg (by omega) (by omega):Gw x.1),G.CZ.body⟩,G.par,G.size⟩,by show 0<=x.2;omega,by show x.2<=_;omega⟩
 refine BB (λ_=>?_) λ_=>?_
 ·refine Af.bind (V6 Bb (p:=po.2) (by omega) (by omega)) λr ⟨r1,r2,r3⟩=>Af.some ⟨⟨r1,by show F.length<=5;omega,P.ok⟩,by show 0<=r.2;omega,by show r.2<=_;omega⟩
 refine BB (λ_=>?_) λ_=>Af.some ⟨P0,by show 0<=po.2;omega,by show po.2<=_;omega⟩;refine Af.app (by simp;omega) (by simp;omega) (Af.some ⟨⟨O,by show (F++[c5]).length<=5;simp;omega,λf hf=>?_⟩,by show 0<=po.2;omega,by show po.2<=_;omega⟩);rcases kJ.1 (show f∈F++[c5] from hf) with h|h
 ·exact P.ok f h
 ·rw[jy]at h;rw[h];exact G
theorem UB {b:List Int}(Bb:Bk b){M:Nat}(hM:2000000<=M){p:Int}(h0:0<=p)(h1:p<=1000):Af (Ht M b p) λq=>PD q.1/\0<=q.2/\q.2<=200000:=by
 unfold Ht;refine Af.bind (Sq Bb hM h0 h1) λq ⟨q1,q2,q3,q4⟩=>?_;refine Af.bind (SA Bb hM q1 q2 q3 q4) λr hr=>Af.some hr
end RC
