import Derived.Test.YtihdgoiebmfapaaGreatGPlainAToTYE
import Derived.Test.YtihdgoiebmfapaaGreatSufF
import Derived.Test.YtihdgoiebmfapaaGreatGHADefsToFTDefs
namespace RC
open Go
section
variable {p : AP} {N : Nat} {T : List Int -> AE -> Int}
theorem Zf (S:Ek p.decls p.funcs)(hN:2000000<=N)(hT:TX p N T){v:List Int}{nu:Int}{a:AE}{r:List AE}(V:VX p (.mk 8 nu (a::r)) v)(ht:T v (.mk 8 nu (a::r))≠-1)(h6:a.op=6):
  ∃(c t:Nat) (b:AE),a.num=(c:Int)/\nu=(t:Int)/\1<=t/\t<=p.decls.length/\(Bs p.decls nu)[ci p.decls nu a.num]?=some a.num/\nc (p.decls.take (t-1))+ci p.decls nu a.num=c/\r[ci p.decls nu a.num]?=some b/\ci p.decls nu a.num<=3/\(∀x∈a.kids,An x/\T v x≠-1)/\a.kids.length<=3:=by
 obtain⟨a0,r0,q1,q2,q3,q4,q5⟩:=Jy (hT.H V) V.Ng S hN rfl (hT.bi V) ht;have q1:a::r=a0::r0:=q1;obtain⟨rfl,rfl⟩:a=a0/\r=r0:=by simpa using q1
 have q3:r.length=(Bs p.decls nu).length:=q3;have q4:T v a=nu:=q4;have hnum:nu≠-1:=λq=>q2 (by show Bs p.decls nu=[];rw[q];simp[Bs]);have Va:VX p a v:=V.gB (by simp[AE.kids]);obtain⟨c,t,x,c1,c2,c3,c4,c5,c6⟩:=Ur S hN hT Va h6 (by rw[q4];exact hnum);obtain⟨d1,d2⟩:=TQ c2;obtain⟨g1,g2,d,g3,g4⟩:=Kn c2;rw[<- c3,q4,<- c1]at d1;rw[<- c3,q4,<- c1]at d2;have hil:=(jg.1 d1).1;have hb:r[ci p.decls nu a.num]?=some r[ci p.decls nu a.num]:=jl (by omega);have hcl:=J0 S.Qa nu;have F:=Mz S (je d1) hN;refine⟨c,t,_,c1,by rw[<- q4,c3],by omega,by omega,d1,d2,hb,by omega,λy hy=>⟨Va.CZ.kids y hy,λhq=>?_⟩,?_⟩
 ·have hy2:T v y∈a.kids.map (T v):=lD hy;rw[c4,<- c5,<- c1]at hy2;have:=Ju (F.2.2.2 _ hy2);rw[hq]at this;omega
 ·have h:=kf List.length c4;rw[kB]at h;have:=(S.LQ d g3 x g4).1;omega
theorem eK (S:Ek p.decls p.funcs)(hN:2000000<=N)(hT:TX p N T){v:List Int}(hv :∀x∈v,DJ p.decls x=true){l:List AE}(hl:v.length+3*CK l<=800)(hl3:l.length<=30)(hk :∀x∈l,An x/\T v x≠-1):∀(i:Nat) x,l[i]?=some x->en x<=1000/\An (sh v.length i x):=by
 intro i x hx;have hm:=je hx;have hil:=(jg.1 hx).1;have he:=Hy hm;obtain⟨h1,h2⟩:=hk x hm;have Vx:VX p x (v++[]):=⟨by simp;omega,by simpa using hv,h1⟩
 have:=(dw S hN hT v (List.replicate i 0) (λy hy=>by rw[(nM.1 hy).2];exact fr) (en x) x [] (jv _) Vx (by simp;omega) (by simpa using h2)).2;rw[mu]at this;exact⟨by omega,this⟩
theorem Xq (S:Ek p.decls p.funcs)(hN:2000000<=N)(hT:TX p N T){v:List Int}{e:AE}(V:VX p e v)(hl:v.length+3*CK e.kids<=800)(ht:T v e≠-1):
  Hz N p e v.length=some (Hc p.decls v.length e.op e.num e.kids)/\JO N e.kids p.decls e.op e.num v.length=some (Hc p.decls v.length e.op e.num e.kids):=by
 have hlen:=Hk e.kids;have hD:=S.Ms;have hnc:=S.nc;have eta:AE.mk e.op e.num e.kids=e:=(HR e).symm;unfold Hz JO;by_cases ha:e.op=1∨e.op=2∨e.op=3∨e.op=4
 ·obtain⟨_,a,b,hk⟩:=Uj hN hT V ha ht;have hor:(if decide (e.op=1)=true then some true else if decide (e.op=2)=true then some true else if decide (e.op=3)=true then some true else some (decide (e.op=4)))=some true:=by
   rcases ha with h|h|h|h<;>simp[h]
  have g0:Sh.get e.kids 0=some a:=by rw[hk];rfl
  have g1:Sh.get e.kids 1=some b:=by rw[hk];rfl
  have hfd:Hc p.decls v.length e.op e.num e.kids=if a.op=0/\b.op=0 then .mk 0 (V5 e.op a.num b.num) [] else e:=by
   unfold Hc;rw[jm ha,eta,hk]
  rw[hfd,hor,g0,g1];simp only[jd,kO];by_cases h1:a.op=0
  ·by_cases h2:b.op=0
   ·obtain⟨m0,n1,n2,n3,n4⟩:=PX S hN hT V ht (i:=0) (k:=a) (by rw[hk];rfl);obtain⟨m1,n5,n6,n7,n8⟩:=PX S hN hT V ht (i:=1) (k:=b) (by rw[hk];rfl);have ra:=Yx hT (V.I1 (by rw[hk];simp) n2 n3) h1 n4;have rb:=Yx hT (V.I1 (by rw[hk];simp) n6 n7) h2 n8;simp only[h1,h2,jx,kO,jd,and_self];rw[WJ ha ra rb,WE ha ra rb];exact⟨rfl,rfl⟩
   ·simp[h1,h2,Sh.cont,eta]
  ·simp[h1,Sh.cont,eta]
 have n1:¬ e.op=1:=λq=>ha (.inl q);have n2:¬ e.op=2:=λq=>ha (.inr (.inl q));have n3:¬ e.op=3:=λq=>ha (.inr (.inr (.inl q)));have n4:¬ e.op=4:=λq=>ha (.inr (.inr (.inr q)));by_cases h7:e.op=7
 ·obtain⟨a,b,c,hk,q2,q3,q4,q5⟩:=Ua (hT.H V) V.Ng hN h7 (hT.bi V) ht;have g0:Sh.get e.kids 0=some a:=by rw[hk];rfl
  have g1:Sh.get e.kids 1=some b:=by rw[hk];rfl
  have g2:Sh.get e.kids 2=some c:=by rw[hk];rfl
  have hfd:Hc p.decls v.length e.op e.num e.kids=if a.op=0 then (if a.num=0 then c else b) else e:=by
   unfold Hc;rw[jn ha,jm h7,eta,hk]
  rw[hfd];simp only[n1,n2,n3,n4,h7,Int.reduceEq,jx,kA,jk,kO,kH,jd];rw[g0,g1,g2];simp only[jd];by_cases h1:a.op=0
  ·by_cases h2:a.num=0
   ·simp[h1,h2,Sh.cont]
   ·simp[h1,h2,Sh.cont]
  ·rw[h7]at eta;simp[h1,Sh.cont,eta]
 by_cases h8:e.op=8
 ·obtain⟨a,r,hk,q2,q3,q4,q5⟩:=Jy (hT.H V) V.Ng S hN h8 (hT.bi V) ht;have g0:Sh.get e.kids 0=some a:=by rw[hk];rfl
  have eta8:AE.mk 8 e.num e.kids=e:=by rw[<- h8];exact eta
  have V8:VX p (.mk 8 e.num (a::r)) v:=by rw[<- hk,eta8];exact V
  have ht8:T v (.mk 8 e.num (a::r))≠-1:=by rw[<- hk,eta8];exact ht
  have hfd:Hc p.decls v.length e.op e.num e.kids=if a.op=6 then (match r[ci p.decls e.num a.num]? with|some b=>lt v.length 0 a.kids b|none=>e) else e:=by
   unfold Hc;rw[jn ha,jn h7,jm h8,eta,hk];rfl
  rw[hfd];simp only[n1,n2,n3,n4,h7,h8,Int.reduceEq,jx,kA,jk,kO,kH,jd];rw[g0];simp only[jd];by_cases h6:a.op=6
  ·obtain⟨c,t,b,c1,c2,c3,c4,c5,c6,c7,c8,c9,c10⟩:=Zf S hN hT V8 ht8 h6;have hnt:=Gw p.decls (t-1);rw[hk]at hl hlen;simp only[CK,kQ]at hl hlen;have hae:=Fw a;have hsh:=eK S hN hT V.H7 (l:=a.kids) (by omega) (by omega) c9;rw[c7];simp only[h6,jx,kO];have hcl:=J0 S.Qa e.num;have hg:Sh.get e.kids ((1+ci p.decls e.num a.num:Nat):Int)=some b:=by
    rw[Nz,hk,show 1+ci p.decls e.num a.num=ci p.decls e.num a.num+1 by omega];exact c7
   constructor
   ·rw[BK (n:=e.num-1) (by omega) (by omega),show e.num-1=((t-1:Nat):Int) by omega,HW (by omega) (by omega) (by omega) hN];simp only[jd];rw[BK (n:=1+a.num) (by omega) (by omega),BK (by omega) (by omega),show 1+a.num-(nc (List.take (t-1) p.decls):Int)=((1+ci p.decls e.num a.num:Nat):Int) by omega,hg];simp only[jd];rw[WH hN (by omega) hsh];rfl
   ·rw[HD (by omega) (by omega) hN];simp only[jd];rw[cd (by omega) hN c5 (λj hj=>XV c5 hj)];simp only[jd];rw[BK (n:=1+(ci p.decls e.num a.num:Int)) (by omega) (by omega),show 1+(ci p.decls e.num a.num:Int)=((1+ci p.decls e.num a.num:Nat):Int) by omega,hg];simp only[jd];have hap:Sh.apart 0 ((1+ci p.decls e.num a.num:Nat):Int)=some ():=by unfold Sh.apart;rw[jn (by omega)]
    rw[hap];simp only[jd];rw[T6 hN (by omega) hsh];rfl
  ·simp[h6,Sh.cont,eta8]
 ·have hfd:Hc p.decls v.length e.op e.num e.kids=e:=by
   unfold Hc;rw[jn ha,jn h7,jn h8,eta]
  rw[hfd];simp[n1,n2,n3,n4,h7,h8,Sh.cont,eta]
theorem XF (S:Ek p.decls p.funcs)(hN:2000000<=N)(hT:TX p N T){e:AE}{v:List Int}(V:VX p e v)(ht:T v e≠-1){i:Nat}(hi:i<e.kids.length):
  Jk N p e i v.length=some ((v.length+He p.decls e.op e.num i:Nat):Int)/\
  ((if (decide (e.op=13))=true then some (decide ((i:Int)=1)) else some false).bind λt23=>if t23=true then some (Sh.w ((v.length:Int)+1)) else (if (decide (e.op=8))=true then some (decide (0<(i:Int))) else some false).bind λt27=>if t27=true then (HS N p.decls e.num).bind λq30=>(Sh.get q30 (Sh.w ((i:Int)-1))).bind λc31=>(EJ N p.decls c31).bind λq32=>some (Sh.w ((v.length:Int)+(Sh.len q32))) else some (v.length:Int))=some ((v.length+He p.decls e.op e.num i:Nat):Int):=by
 have hlv:=V.len;have hD:=S.Ms;have hnc:=S.nc;have hkl:=Hk e.kids;have hen:=Fw e;unfold Jk;by_cases h13:e.op=13
 ·obtain⟨a,b,q1,_⟩:=Uh (hT.H V) V.Ng h13 (hT.bi V) ht;rw[q1]at hi
  match i,hi with
  | 0,_=>simp[h13,He]
  | 1,_=>
   have hw:Sh.w ((v.length:Int)+1)=((v.length+1:Nat):Int):=by rw[BK (by omega) (by omega)];rfl
   simp[h13,He,hw]
 by_cases h8:e.op=8
 ·obtain⟨a,r,q1,q2,q3,q4,q5⟩:=Jy (hT.H V) V.Ng S hN h8 (hT.bi V) ht;rw[q1]at hi
  match i,hi with
  | 0,_=>simp[h8,He]
  | i+1,hi=>
   simp only[kQ]at hi;have hcl:=J0 S.Qa e.num;have hc:(Bs p.decls e.num)[i]?=some (Bs p.decls e.num)[i]:=jl (by omega);have F:=Mz S (je hc) hN;have f3:=F.2.2.1;have hx:He p.decls e.op e.num (i+1)=(FZ p.decls (Bs p.decls e.num)[i]).length:=by simp[He,h8,hc]
   have e1:Sh.w (((i+1:Nat):Int)-1)=(i:Int):=by rw[BK (by omega) (by omega)];omega
   have e2:Sh.w ((v.length:Int)+((FZ p.decls (Bs p.decls e.num)[i]).length:Int))=((v.length+He p.decls e.op e.num (i+1):Nat):Int):=by rw[BK (by omega) (by omega),hx];omega
   have n0:¬ ((i+1:Nat):Int)=0:=by omega
   have n1:(0:Int)<((i+1:Nat):Int):=by omega
   rw[e1,Ld (by omega) (by omega) hN,HD (by omega) (by omega) hN];simp only[h8,n0,n1,Int.reduceEq,jx,kA,jk,kO,kH,jd];rw[BH hc];simp only[jd];rw[F.1,F.2.1];simp only[jd,AN];rw[e2,h8];exact⟨rfl,rfl⟩
 ·have hx:He p.decls e.op e.num i=0:=by simp[He,h13,h8]
  rw[hx];simp[h13,h8]
theorem fD (S:Ek p.decls p.funcs)(hN:2000000<=N)(hT:TX p N T):∀(c:Nat) (e:AE) (v:List Int),en e<=c->v.length+6*en e<=700->(∀x∈v,DJ p.decls x=true)->An e->T v e≠-1->
  Gh N c p e v.length=some (fd p.decls v.length e)/\∀F,DO N c e.kids p.decls F p.decls e.op e.num v.length=some (fd p.decls v.length e):=by
 intro c
 induction c with
 | zero=>intro e _ h;have:=G6 e;omega
 | succ c ih=>
  intro e v hc hlv hv hI ht;have VF0:VF p e v:=⟨by omega,hv,hI⟩
  obtain⟨⟨f1,f2,f3⟩,f4,f5,f6⟩:=aI S hN hT (en e) e v (jv _) VF0 ht;have hlen:=Hk e.kids;have he:=Fw e;have hfl:(KZ p.decls v.length e.op e.num 0 e.kids).length=e.kids.length:=Rb _ _;generalize hL:KZ p.decls v.length e.op e.num 0 e.kids=L at *;have hLi:∀(i:Nat) k,e.kids[i]?=some k->L[i]?=some (fd p.decls (v.length+He p.decls e.op e.num i) k):=λi k hk=>by
   rw[<- hL,Nd,hk,kt];rfl
  have K:∀(i:Nat) k,e.kids[i]?=some k->Gh N c p k ((v.length+He p.decls e.op e.num i:Nat):Int)=some (fd p.decls (v.length+He p.decls e.op e.num i) k)/\∀F,DO N c k.kids p.decls F p.decls k.op k.num ((v.length+He p.decls e.op e.num i:Nat):Int)=some (fd p.decls (v.length+He p.decls e.op e.num i) k):=λi k hk=>by
   obtain⟨m,m1,m2,m3,m4⟩:=PX S hN hT VF0.x ht hk;have hke:=DG (je hk);have:=ih k (v++m) (by omega) (by rw[kD];omega) (VF0.x.I1 (je hk) m2 m3).H7 (hI.kids k (je hk)) m4;rw[kD,m1]at this;exact this
  have nd:Hz N p (.mk e.op e.num L) v.length=some (Hc p.decls v.length e.op e.num L)/\JO N L p.decls e.op e.num v.length=some (Hc p.decls v.length e.op e.num L):=Xq S hN hT f5 (by show _+3*CK L<=800;omega) (by rw[f4];exact ht);have eta:Hc p.decls v.length e.op e.num L=fd p.decls v.length e:=by rw[Xn,hL]
  rw[eta]at nd;constructor
  ·rw[Gh];unfold Ln;have key:∀(M i:Nat),i<=e.kids.length->e.kids.length-i<M->FV N p e v.length (Gh N c) M i (L.take i)=some L:=by
    intro M i hi hM;refine Bo e.kids.length (λM i=>FV N p e v.length (Gh N c) M i (L.take i)=some L) ?_ ?_ hi hM
    ·intro m;rw[FV,jn (by simp[AN]),kY (by omega)]
    ·intro m i hi ih2;obtain⟨k,hk,hkm⟩:=CF hi;rw[FV,jm (by simp[AN];omega),BH hk];simp only[jd];rw[(XF S hN hT VF0.x ht hi).1];simp only[jd];rw[(K i k hk).1];simp only[jd];rw[EM _ _ 40 (by simp;omega) (by simp;omega),BK (by omega) (by omega),show ((i:Int)+1)=((i+1:Nat):Int) by omega];simp only[jd];rw[<- D3 (hLi i k hk)];exact ih2
   have:=key N 0 (kE _) (by omega);rw[lF,show ((0:Nat):Int)=0 from rfl]at this;rw[this];simp only[jd];rw[nd.1];rfl
  ·intro F;rw[DO];unfold G7;have key:∀(M i:Nat),i<=e.kids.length->e.kids.length-i<M->Co N e.kids p.decls F p.decls e.op e.num v.length (DO N c) M i (L.take i++e.kids.drop i)=some L:=by
    intro M i hi hM;refine Bo e.kids.length (λM i=>Co N e.kids p.decls F p.decls e.op e.num v.length (DO N c) M i (L.take i++e.kids.drop i)=some L) ?_ ?_ hi hM
    ·intro m;rw[Co,jn (by simp[AN]),nY,ky,kY (by omega)]
    ·intro m i hi ih2;obtain⟨k,hk,hkm⟩:=CF hi;have hl:(L.take i).length=i:=by simp;omega
     have hget:Sh.get (L.take i++e.kids.drop i) (i:Int)=some k:=by
      rw[Nz,jt (by omega),hl,lW,kW,mA,hk]
     have hput:Sh.put (L.take i++e.kids.drop i) (i:Int) (fd p.decls (v.length+He p.decls e.op e.num i) k)=L.take (i+1)++e.kids.drop (i+1):=by
      rw[Pb,mw _ _ (by omega),hl,lW,drop_cons hk,mf,D3 (hLi i k hk),lG];rfl
     rw[Co,jm (by simp[AN];omega),(XF S hN hT VF0.x ht hi).2];simp only[jd];rw[hget];simp only[jd];rw[(K i k hk).2 F];simp only[jd];rw[hput,BK (by omega) (by omega),show ((i:Int)+1)=((i+1:Nat):Int) by omega];exact ih2
   have:=key N 0 (kE _) (by omega);rw[lF,lR,lj,show ((0:Nat):Int)=0 from rfl]at this;rw[this];simp only[jd];unfold Lr;rw[nd.2];rfl
end
end RC
namespace RC
open Go
def wB (p:AP)(g:Ac->AE):AP×Bool:=if (p.funcs.all λf=>decide (en (g f)<=30))=true then (.mk p.decls (p.funcs.map λf=>.mk f.params f.result (g f)),true) else (.mk [] [],false)
theorem UB {N:Nat}(hN:2000000<=N){p:AP}{g:Ac->AE}(hd:p.decls.length<=1048576)(hz :∀d∈p.decls,dz d<=1048576)(hf:p.funcs.length<=1048576)(hb :∀f∈p.funcs,f.params.length<=1048576/\en (g f)<=1000):Hn N p (p.funcs.map g)=some (wB p g):=by
 unfold Hn;rw[WB hd hz hN];simp only[jd];have key:∀(M i:Nat),i<=p.funcs.length->p.funcs.length-i<M->Dy N p (p.funcs.map g) M i ((p.funcs.map λf=>Ac.mk f.params f.result (g f)).take i)=some (if ((p.funcs.drop i).all λf=>decide (en (g f)<=30))=true then Sum.inr (p.funcs.map λf=>Ac.mk f.params f.result (g f)) else Sum.inl (.mk [] [],false)):=by
  intro M i hi hM;refine Bo p.funcs.length (λM i=>Dy N p (p.funcs.map g) M i ((p.funcs.map λf=>Ac.mk f.params f.result (g f)).take i)=some (if ((p.funcs.drop i).all λf=>decide (en (g f)<=30))=true then Sum.inr (p.funcs.map λf=>Ac.mk f.params f.result (g f)) else Sum.inl (.mk [] [],false))) ?_ ?_ hi hM
  ·intro m;rw[Dy,jn (by simp[AN]),kY (by simp),nY];rfl
  ·intro m i hi ih;obtain⟨f,hf1,hfm⟩:=CF hi;obtain⟨hbp,hs⟩:=hb f hfm;have hze:=Fw (g f);have hm0:(p.funcs.map g)[i]?=some (g f):=by rw[ji,hf1];rfl
   have hm:(p.funcs.map λf=>Ac.mk f.params f.result (g f))[i]?=some (Ac.mk f.params f.result (g f)):=by rw[ji,hf1];rfl
   rw[Dy,jm (by simp[AN];omega),BH hm0,drop_cons hf1,lx];simp only[jd];rw[Gv (by omega) hN];simp only[jd];by_cases h30:en (g f)<=30
   ·rw[jm h30,jn (by simp),BH hf1];simp only[jd,h30,jx,mz];have hci:FJ f.params=some f.params:=by
     unfold FJ;rw[EM _ _ _ (by simp;omega) (by simp;omega)];rfl
    rw[hci,Wo hN (by have:=Fw (g f);omega)];simp only[jd];rw[EM _ _ 72 (by simp;omega) (by simp;omega),BK (by omega) (by omega),show ((i:Int)+1)=((i+1:Nat):Int) by omega];simp only[jd];rw[<- D3 hm];exact ih
   ·rw[jn h30];simp[h30]
 have:=key N 0 (kE _) (by omega);rw[lF,show ((0:Nat):Int)=0 from rfl,lj]at this;rw[this];unfold wB;by_cases h:(p.funcs.all λf=>decide (en (g f)<=30))=true
 ·rw[jm h,jm h];rfl
 ·rw[jn h,jn h];rfl
theorem cy {p:AP}{g:Ac->AE}(hp:Sz p<=1048576)(h4:p.funcs.length<=4)(hz:Sz p<=500000∨∀f∈p.funcs,f.params.length<=3)(hdz:p.decls.length+(p.decls.map dz).sum<=500000):Sz (wB p g).1<=1048576:=by
 unfold wB;split
 ·rename_i h;rw[jq]at h;unfold Sz at hp hz⊢;simp only[kB,lU];have:(p.funcs.map (YB∘λf=>Ac.mk f.params f.result (g f))).sum<=30*p.funcs.length+1*(p.funcs.map YB).sum:=SC λf hf=>by
   have:=h f hf;simp only[jw]at this;have h2:=Fw (g f);show f.params.length+CK (g f).kids<=_;unfold YB;omega
  rcases hz with hz|hz
  ·omega
  ·have h5:(p.funcs.map (YB∘λf=>Ac.mk f.params f.result (g f))).sum<=33*p.funcs.length+0*(p.funcs.map YB).sum:=SC λf hf=>by
    have:=h f hf;simp only[jw]at this;have h2:=Fw (g f);have h3:=hz f hf;show f.params.length+CK (g f).kids<=_;omega
   omega
 ·simp[Sz]
section
variable {p : AP} {N : Nat}
theorem SD (S:EE p)(hN:2000000<=N)(hv:Bm N p=some true):Ek p.decls p.funcs/\∃T,TX p N T/\∀f∈p.funcs,en f.body<=30/\f.params.length<=3/\(∀x∈f.params,DJ p.decls x=true)/\An f.body/\DJ p.decls f.result=true/\T f.params f.body=f.result:=by
 obtain⟨SO,T0,hT0,h⟩:=eM S hN hv;obtain⟨T,hT⟩:=Pv SO hN 340;refine⟨SO,T,hT,λf hf=>?_⟩;obtain⟨he,V,ty,hb⟩:=h f hf;have hp:=(SO.Ov f hf).1;refine⟨he,hp,V.H7,V.CZ,ty,?_⟩;have a:=(hT0 f.params f.body V.CZ (by omega) (by omega) V.H7 340 340 (by omega) (by omega)).1;have b:=(hT f.params f.body V.CZ (by omega) (by omega) V.H7 340 340 (jv _) (jv _)).1;rw[a]at b;rw[<- hb];exact (lT b).symm
def F5 (p:AP)(f:Ac):AE:=fd p.decls f.params.length f.body
theorem Uf (S:EE p)(hN:2000000<=N)(hd:p.decls.length<=1048576)(hz :∀d∈p.decls,dz d<=1048576):
  ∃b,Bm N p=some b/\EH N p=some b/\Jw N p=some (if b=true then wB p (F5 p) else (.mk [] [],false))/\IE N p=some (if b=true then wB p (F5 p) else (.mk [] [],false)):=by
 obtain⟨b,e1,e2,_⟩:=J1 S hN;refine⟨b,e1,e2,?_⟩;unfold Jw IE;rw[e1,e2];simp only[jd];cases b with
 | false=>exact⟨rfl,rfl⟩
 | true=>
  obtain⟨SO,T,hT,hfs⟩:=SD S hN e1;have hfl:=S.Kz;have hF:∀f∈p.funcs,RE N p f.body f.params.length=some (F5 p f)/\(∀F,Jf N f.body.kids p.decls F p.decls f.body.op f.body.num f.params.length=some (F5 p f))/\en (F5 p f)<=60:=λf hf=>by
   obtain⟨h1,h2,h3,h4,h5,h6⟩:=hfs f hf;have hne:T f.params f.body≠-1:=by rw[h6];have:=(Ju h5).1;omega
   have q:=fD SO hN hT N f.body f.params (by omega) (by omega) h3 h4 hne;have sz:=(aI SO hN hT (en f.body) f.body f.params (jv _) ⟨by omega,h3,h4⟩ hne).1.2.2;exact⟨q.1,q.2,by unfold F5;omega⟩
  have hfz:=λf hf=>(hfs f hf);constructor
  ·simp only[lL,jk,kH,kO];have key:∀(M i:Nat),i<=p.funcs.length->p.funcs.length-i<M->GC N p M i ((p.funcs.map (F5 p)).take i)=some (p.funcs.map (F5 p)):=by
    intro M i hi hM;refine Bo p.funcs.length (λM i=>GC N p M i ((p.funcs.map (F5 p)).take i)=some (p.funcs.map (F5 p))) ?_ ?_ hi hM
    ·intro m;rw[GC,jn (by simp[AN]),kY (by simp)]
    ·intro m i hi ih;obtain⟨f,hf1,hfm⟩:=CF hi;have hm:(p.funcs.map (F5 p))[i]?=some (F5 p f):=by rw[ji,hf1];rfl
     rw[GC,jm (by simp[AN];omega),BH hf1];simp only[jd];rw[AN,(hF f hfm).1];simp only[jd];rw[EM _ _ 40 (by simp;omega) (by simp;omega),BK (by omega) (by omega),show ((i:Int)+1)=((i+1:Nat):Int) by omega];simp only[jd];rw[<- D3 hm];exact ih
   have:=key N 0 (kE _) (by omega);rw[lF,show ((0:Nat):Int)=0 from rfl]at this;rw[this];simp only[jd];rw[UB hN hd hz hfl (λf hf=>⟨(S.fz hf).1,by have:=(hF f hf).2.2;omega⟩)];rfl
  ·simp only[lL,jk,kH,kO];unfold Is;rw[S9 hN hd hz hfl (λf hf=>⟨(S.fz hf).1,by have:=(hfs f hf).1;omega,(hfs f hf).2.2.2.1⟩)];simp only[jd];have key:∀(M i:Nat),i<=p.funcs.length->p.funcs.length-i<M->Dj N p.decls p.funcs p p M i ((p.funcs.map λf=>Ac.mk f.params f.result (F5 p f)).take i++p.funcs.drop i)=some (if ((p.funcs.drop i).all λf=>decide (en (F5 p f)<=30))=true then Sum.inr (p.funcs.map λf=>Ac.mk f.params f.result (F5 p f)) else Sum.inl (.mk [] [],false)):=by
    intro M i hi hM;refine Bo p.funcs.length (λM i=>Dj N p.decls p.funcs p p M i ((p.funcs.map λf=>Ac.mk f.params f.result (F5 p f)).take i++p.funcs.drop i)=some (if ((p.funcs.drop i).all λf=>decide (en (F5 p f)<=30))=true then Sum.inr (p.funcs.map λf=>Ac.mk f.params f.result (F5 p f)) else Sum.inl (.mk [] [],false))) ?_ ?_ hi hM
    ·intro m;rw[Dj,jn (by simp[AN]),nY,ky,kY (by simp)];rfl
    ·intro m i hi ih;obtain⟨f,hf1,hfm⟩:=CF hi;obtain⟨q1,q2,q3⟩:=hF f hfm;have hl:((p.funcs.map λf=>Ac.mk f.params f.result (F5 p f)).take i).length=i:=by simp;omega
     have hm:(p.funcs.map λf=>Ac.mk f.params f.result (F5 p f))[i]?=some (Ac.mk f.params f.result (F5 p f)):=by rw[ji,hf1];rfl
     have hget:Sh.get ((p.funcs.map λf=>Ac.mk f.params f.result (F5 p f)).take i++p.funcs.drop i) (i:Int)=some f:=by
      rw[Nz,jt (by omega),hl,lW,kW,mA,hf1]
     have hput:Sh.put ((p.funcs.map λf=>Ac.mk f.params f.result (F5 p f)).take i++p.funcs.drop i) (i:Int) (Ac.mk f.params f.result (F5 p f))=(p.funcs.map λf=>Ac.mk f.params f.result (F5 p f)).take (i+1)++p.funcs.drop (i+1):=by
      rw[Pb,mw _ _ (by omega),hl,lW,drop_cons hf1,mf,D3 hm,lG];rfl
     have hget2:Sh.get ((p.funcs.map λf=>Ac.mk f.params f.result (F5 p f)).take (i+1)++p.funcs.drop (i+1)) (i:Int)=some (Ac.mk f.params f.result (F5 p f)):=by
      rw[Nz,jr (by simp;omega),kL,jm (by omega),hm]
     have hze:=Fw (F5 p f);rw[Dj,jm (by simp[AN];omega),hget,drop_cons hf1,lx];simp only[jd];rw[AN,q2];simp only[jd];rw[<- drop_cons hf1,hput,hget2];simp only[jd];rw[Nj (by omega) hN];simp only[jd];by_cases h30:en (F5 p f)<=30
     ·rw[jm h30,jn (by simp),BK (by omega) (by omega),show ((i:Int)+1)=((i+1:Nat):Int) by omega];simp only[h30,jx,mz];exact ih
     ·rw[jn h30];simp[h30]
   have:=key N 0 (kE _) (by omega);rw[lF,lR,lj,show ((0:Nat):Int)=0 from rfl]at this;rw[this];unfold wB;by_cases h:(p.funcs.all λf=>decide (en (F5 p f)<=30))=true
   ·rw[jm h,jm h];rfl
   ·rw[jn h,jn h];rfl
end
theorem X4 {p:AP}(S:EE p){N:Nat}(hN:2000000<=N)(hv:Bm N p=some true):p.funcs.length<=4/\(∀f∈p.funcs,f.params.length<=3)/\p.decls.length+(p.decls.map dz).sum<=500000:=by
 obtain⟨SO,_⟩:=SD S hN hv;refine⟨SO.Kz,λf hf=>(SO.Ov f hf).1,?_⟩;have hD:=SO.Ms;have:(p.decls.map dz).sum<=100*p.decls.length+0*(p.decls.map dz).sum:=SC λd hd=>by
  have h1:=SO.Qa d hd;have h2:(d.cons.map cz).sum<=30*d.cons.length+0*(d.cons.map cz).sum:=SC λc hc=>by
   have:=(SO.LQ d hd c hc).1;unfold cz;omega
  unfold dz;omega
 omega
end RC
namespace RC
end RC
namespace RC
open Go
def jX (fi:Int)(body:AE)(n:Nat)(o nu:Int)(l:List AE):AE:=if o=9/\nu=fi then lt n 0 l (sh 0 n body) else .mk o nu l
mutual
def inl (D:List AM)(fi:Int)(body:AE)(n:Nat):AE->AE
 | .mk o nu k=>jX fi body n o nu (gI D fi body n o nu 0 k)
def gI (D:List AM)(fi:Int)(body:AE)(n:Nat)(o nu:Int):Nat->List AE->List AE
 | _,[]=>[]
 | i,e::l=>inl D fi body (n+He D o nu i) e::gI D fi body n o nu (i+1) l
end
section
variable {p : AP} {N : Nat} {T : List Int -> AE -> Int}
end
end RC
namespace RC
open Go
section
variable {p : AP} {N : Nat}
def inf (p:AP)(fi:Int)(fb f:Ac):AE:=inl p.decls fi fb.body f.params.length f.body
end
end RC
namespace RC
open Go
def GA (p:AP)(g:Ac->AE):AP:=.mk p.decls (p.funcs.map λf=>.mk f.params f.result (g f))
theorem aT {p:AP}{g:Ac->AE}(h :∀f∈p.funcs,en (g f)<=30):wB p g=(GA p g,true):=by
 unfold wB;rw[jm (jq.2 λf hf=>by simpa using h f hf)];rfl
theorem bf {p:AP}{g:Ac->AE}:Ev (GA p g)=Ev p:=by
 unfold Ev GA;simp[AP.funcs,AP.decls,lU]
theorem Ek.GA {p:AP}{g:Ac->AE}(S:Ek p.decls p.funcs):Ek (GA p g).decls (GA p g).funcs:=
 ⟨S.Ms,S.Qa,S.LQ,S.cw,by show (p.funcs.map _).length<=4;rw[kB];exact S.Kz,λf hf=>by
  obtain⟨f0,h0,rfl⟩:=kC.1 (show f∈p.funcs.map _ from hf);exact S.Ov f0 h0⟩
theorem EE.GA {p:AP}{g:Ac->AE}(S:EE p)(h4:p.funcs.length<=4)(h3 :∀f∈p.funcs,f.params.length<=3)(hd:p.decls.length+(p.decls.map dz).sum<=500000)(hg :∀f∈p.funcs,en (g f)<=30/\An (g f)):EE (GA p g):=by
 refine⟨⟨S.CZ.decls,λf hf=>?_,?_⟩,?_⟩
 ·obtain⟨f0,h0,rfl⟩:=kC.1 (show f∈p.funcs.map _ from hf);have:=S.fin h0;exact⟨this.params,this.result,(hg f0 h0).2⟩
 ·show (p.funcs.map _).length<=_;rw[kB];omega
 ·have:=cy (g:=g) S.size h4 (.inr h3) hd;rwa [aT λf hf=>(hg f hf).1]at this
theorem Y8 {p:AP}(S:EE p){N:Nat}(hN:2000000<=N)(SO:Ek p.decls p.funcs){T:List Int->AE->Int}(hT:TX p N T)(hen :∀f∈p.funcs,en f.body<=30):Bm N p=some (MP p&&p.funcs.all (IJ p T)):=by
 have hl:=S.Kz;have L1:=FE (l:=p.funcs) (CI N p) (λ_ f=>IJ p T f) (λn=>by rw[CI,jn (by simp[AN])]) (λn i f hi=>by
  have hil:=(jg.1 hi).1;have hf:=je hi;obtain⟨q1,q2,q3⟩:=SO.Ov f hf;have he:=hen f hf;have ty:KC N p f.params f.body=some (T f.params f.body):=(hT f.params f.body (S.fin hf).body (by omega) (by omega) q2 N N (by omega) (by omega)).1;rw[CI,jm (by simp[AN];omega),BH hi];simp only[jd];rw[Gv (S.fz hf).2 hN,BK (by omega) (by omega),show ((i:Int)+1)=((i+1:Nat):Int) by omega];simp only[jd];unfold IJ;rw[jm he,jn (by simp),ty];by_cases hr:T f.params f.body=f.result<;>simp[he,hr]) (by omega:p.funcs.length<N)
 rw[F6]at L1;unfold Bm;rw[OX S hN];simp only[jd];cases hsg:MP p with
 | false=>simp
 | true=>
  simp only[lL,jk,kH,mz];rw[L1,FC];cases p.funcs.all (IJ p T)<;>rfl
theorem Yi {p:AP}(S:EE p){N:Nat}(hN:2000000<=N)(hv:Bm N p=some true):MP p=true:=by
 unfold Bm at hv;rw[OX S hN]at hv;simp only[jd]at hv;cases hsg:MP p with
 | false=>rw[hsg]at hv;simp at hv
 | true=>rfl
theorem aL {p:AP}(S:EE p){N:Nat}(hN:2000000<=N)(hv:Bm N p=some true){T:List Int->AE->Int}(hT:TX p N T){g:Ac->AE}(hg :∀f∈p.funcs,en (g f)<=30/\An (g f)/\T f.params (g f)=f.result):
  Bm N (GA p g)=some true/\EH N (GA p g)=some true/\EE (GA p g)/\TX (GA p g) N T:=by
 obtain⟨SO,_⟩:=SD S hN hv;obtain⟨s1,s2,s3⟩:=X4 S hN hv;have S':EE (GA p g):=S.GA s1 s2 s3 λf hf=>⟨(hg f hf).1,(hg f hf).2.1⟩;have SO':=SO.GA (g:=g);obtain⟨T',hT'⟩:=Pv SO' hN 340;have eqT:∀(v:List Int) (e:AE),An e->en e<340->v.length+3*en e<=1000->(∀x∈v,DJ p.decls x=true)->T' v e=T v e:=λv e a b c d=>by
  have h1:=(hT' v e a b c d 340 340 (jv _) (jv _)).2.1;have h2:=(hT v e a b c d 340 340 (jv _) (jv _)).2.1;rw[bf,h2]at h1;exact (lT h1).symm
 have hTm:TX (GA p g) N T:=λv e a b c d n1 n2 h1 h2=>by
  have:=hT' v e a b c d n1 n2 h1 h2;rwa [eqT v e a b c d]at this
 have hsg:MP (GA p g)=true:=by
  rw[<- Yi S hN hv];unfold MP GA;simp[AP.funcs,AP.decls,lU];rfl
 have hb:=Y8 S' hN SO' hTm (λf hf=>by
  obtain⟨f0,h0,rfl⟩:=kC.1 (show f∈p.funcs.map _ from hf);exact (hg f0 h0).1)
 have hall:(GA p g).funcs.all (IJ (GA p g) T)=true:=jq.2 λf hf=>by
  obtain⟨f0,h0,rfl⟩:=kC.1 (show f∈p.funcs.map _ from hf);obtain⟨g1,g2,g3⟩:=hg f0 h0;unfold IJ;simp only[kF,jw];exact⟨g1,g3⟩
 rw[hsg,hall]at hb;obtain⟨b,e1,e2,_⟩:=J1 S' hN;rw[hb]at e1;cases e1;exact⟨hb,e2,S',hTm⟩
theorem dm {p:AP}(S:EE p){N:Nat}(hN:2000000<=N)(hv:Bm N p=some true)(hs :∀f∈p.funcs,en (F5 p f)<=30):Bm N (GA p (F5 p))=some true/\EH N (GA p (F5 p))=some true/\EE (GA p (F5 p)):=by
 obtain⟨SO,T,hT,hfs⟩:=SD S hN hv;obtain⟨a,b,c,_⟩:=aL S hN hv hT (g:=F5 p) λf hf=>by
  obtain⟨h1,h2,h3,h4,h5,h6⟩:=hfs f hf;have hne:T f.params f.body≠-1:=by rw[h6];have:=(Ju h5).1;omega
  have q:=(aI SO hN hT (en f.body) f.body f.params (jv _) ⟨by omega,h3,h4⟩ hne).1;exact⟨hs f hf,q.2.1,by unfold F5;rw[q.1,h6]⟩
 exact⟨a,b,c⟩
end RC
namespace RC
open Go
def bt (D:List AM)(o nu:Int)(l:List AE):Prop:=∀n,Hc D n o nu l=.mk o nu l
mutual
def NR (D:List AM):AE->Prop|.mk o nu k=>bt D o nu k/\cZ D k
def cZ (D:List AM):List AE->Prop|[]=>True|e::l=>NR D e/\cZ D l
end
theorem Yh {D:List AM}:∀{l:List AE},cZ D l->∀e∈l,NR D e
 | [],_,e,h=>by cases h
 | a::l,h,e,he=>by
  unfold cZ at h;rcases js.1 he with rfl|he
  ·exact h.1
  ·exact Yh h.2 e he
theorem bJ {D:List AM}:∀{l:List AE},(∀e∈l,NR D e)->cZ D l
 | [],_=>trivial
 | a::l,h=>by unfold cZ;exact⟨h a (by simp),bJ λe he=>h e (by simp[he])⟩
theorem XQ {D:List AM}{o nu:Int}{l:List AE}(h1:bt D o nu l)(h2 :∀k∈l,NR D k):NR D (.mk o nu l):=by unfold NR;exact⟨h1,bJ h2⟩
theorem NR.one {D:List AM}{e:AE}(h:NR D e):bt D e.op e.num e.kids:=by cases e;unfold NR at h;exact h.1
theorem NR.I1 {D:List AM}{e k:AE}(h:NR D e)(hk:k∈e.kids):NR D k:=by cases e;unfold NR at h;exact Yh h.2 k hk
theorem gX {D:List AM}:∀(c:Nat) (e:AE) (n:Nat),en e<=c->NR D e->fd D n e=e:=by
 intro c
 induction c with
 | zero=>intro e _ h;have:=G6 e;omega
 | succ c ih=>
  intro e n hc h;have:KZ D n e.op e.num 0 e.kids=e.kids:=by
   apply lk;intro i;rw[Nd];cases hk:e.kids[i]? with
   | none=>rfl
   | some k=>
    have hm:=je hk;show some (fd D _ k)=some k;rw[ih k _ (by have:=DG hm;omega) (h.I1 hm)]
  rw[Xn,this,h.one n,<- HR]
theorem aS (D:List AM)(n:Nat)(o nu:Int)(l:List AE):bt D o nu l∨
  (∃a b r,l=a::b::r/\(o=1∨o=2∨o=3∨o=4)/\Hc D n o nu l=.mk 0 (V5 o a.num b.num) [])∨
  (∃k,k∈l/\Hc D n o nu l=k)∨
  (∃(a:AE) (r:List AE) (b:AE) (i:Nat),l=a::r/\o=8/\a.op=6/\r[i]?=some b/\Hc D n o nu l=lt n 0 a.kids b):=by
 by_cases ha:o=1∨o=2∨o=3∨o=4
 ·match l with
  | []=>exact .inl λn=>by unfold Hc;rw[jm ha]
  | [a]=>exact .inl λn=>by unfold Hc;rw[jm ha]
  | a::b::r=>
   by_cases h:a.op=0/\b.op=0
   ·refine .inr (.inl ⟨a,b,r,rfl,ha,?_⟩);unfold Hc;rw[jm ha];exact jm h
   ·refine .inl λn=>?_;unfold Hc;rw[jm ha];exact jn h
 by_cases h7:o=7
 ·match l with
  | []=>exact .inl λn=>by unfold Hc;rw[jn ha,jm h7]
  | [a]=>exact .inl λn=>by unfold Hc;rw[jn ha,jm h7]
  | [a,b]=>exact .inl λn=>by unfold Hc;rw[jn ha,jm h7]
  | a::b::c::r=>
   by_cases h:a.op=0
   ·by_cases h0:a.num=0
    ·refine .inr (.inr (.inl ⟨c,by simp,?_⟩));unfold Hc;rw[jn ha,jm h7];show (if a.op=0 then (if a.num=0 then c else b) else _)=c;rw[jm h,jm h0]
    ·refine .inr (.inr (.inl ⟨b,by simp,?_⟩));unfold Hc;rw[jn ha,jm h7];show (if a.op=0 then (if a.num=0 then c else b) else _)=b;rw[jm h,jn h0]
   ·refine .inl λn=>?_;unfold Hc;rw[jn ha,jm h7];exact jn h
 by_cases h8:o=8
 ·match l with
  | []=>exact .inl λn=>by unfold Hc;rw[jn ha,jn h7,jm h8]
  | a::r=>
   by_cases h:a.op=6
   ·cases hb:r[ci D nu a.num]? with
    | none=>
     refine .inl λn=>?_;unfold Hc;rw[jn ha,jn h7,jm h8];show (if a.op=6 then (match r[ci D nu a.num]? with|some b=>lt n 0 a.kids b|none=>AE.mk o nu (a::r)) else AE.mk o nu (a::r))=_;rw[jm h,hb]
    | some b=>
     refine .inr (.inr (.inr ⟨a,r,b,_,rfl,h8,h,hb,?_⟩));unfold Hc;rw[jn ha,jn h7,jm h8];show (if a.op=6 then (match r[ci D nu a.num]? with|some b=>lt n 0 a.kids b|none=>AE.mk o nu (a::r)) else AE.mk o nu (a::r))=_;rw[jm h,hb]
   ·refine .inl λn=>?_;unfold Hc;rw[jn ha,jn h7,jm h8];exact jn h
 exact .inl λn=>by unfold Hc;rw[jn ha,jn h7,jn h8]
theorem fO {D:List AM}{o nu nu' a k:Int}{l:List AE}(h:bt D o nu l)(hnu:o≠12->nu'=nu):bt D o nu' (l.map (sh a k)):=by
 by_cases h12:o=12
 ·intro n;unfold Hc;rw[jn (by omega),jn (by omega),jn (by omega)]
 rw[hnu h12];have num0:∀x:AE,x.op=6->(sh a k x).num=x.num:=λx hx=>by rw[Pz,jn (by omega)]
 intro n;have h:=h n;unfold Hc at h⊢;by_cases ha:o=1∨o=2∨o=3∨o=4
 ·rw[jm ha]at h⊢
  match l,h with
  | [],_=>rfl
  | [_],_=>rfl
  | x::y::r,h=>
   simp only[kI]at h⊢;by_cases hx:x.op=0/\y.op=0
   ·rw[jm hx]at h;have:=kf AE.op h;simp only[AE.op]at this;omega
   ·rw[jn (by rw[PL,PL];exact hx)]
 rw[jn ha]at h⊢;by_cases h7:o=7
 ·rw[jm h7]at h⊢
  match l,h with
  | [],_=>rfl
  | [_],_=>rfl
  | [_,_],_=>rfl
  | x::y::z::r,h=>
   simp only[kI]at h⊢;by_cases hx:x.op=0
   ·exfalso;rw[jm hx]at h;have:=kf en h;have e1:=G6 x;have e2:=G6 y;have e3:=G6 z;simp only[en,CK]at this;split at this<;>omega
   ·rw[jn (by rw[PL];exact hx)]
 rw[jn h7]at h⊢;by_cases h8:o=8
 ·rw[jm h8]at h⊢
  match l,h with
  | [],_=>rfl
  | x::r,h=>
   simp only[kI]at h⊢;by_cases hx:x.op=6
   ·rw[jm hx]at h;rw[jm (by rw[PL];exact hx),num0 x hx,ji];cases hb:r[ci D nu x.num]? with
    | none=>rfl
    | some b=>
     exfalso;rw[hb]at h;have hm:=Hy (je hb);have h:lt n 0 x.kids b=.mk o nu (x::r):=h;cases hk:x.kids with
     | nil=>
      rw[hk]at h;have:=kf en h;simp only[lt,en,CK]at this;omega
     | cons y ys=>
      rw[hk]at h;have:=kf AE.op h;simp only[lt,AE.op]at this;omega
   ·rw[jn (by rw[PL];exact hx)]
 ·rw[jn h8]
theorem gS {D:List AM}{a k:Int}:∀(c:Nat) (e:AE),en e<=c->NR D e->NR D (sh a k e):=by
 intro c
 induction c with
 | zero=>intro e h;have:=G6 e;omega
 | succ c ih=>
  intro e hc h;rw[Sf];refine XQ (fO h.one λh12=>jn λq=>h12 q.1) λx hx=>?_;obtain⟨y,hy,rfl⟩:=kC.1 hx;exact ih y (by have:=DG hy;omega) (h.I1 hy)
theorem eZ {D:List AM}{n:Nat}:∀(xs:List AE) (c:Nat) (b:AE),(∀x∈xs,NR D x)->NR D b->NR D (lt n c xs b)
 | [],_,b,_,hb=>hb
 | x::r,c,b,hx,hb=>by
  refine XQ (λn=>by unfold Hc;rw[jn (by omega),jn (by omega),jn (by omega)]) λy hy=>?_;simp only[js,kN,kx]at hy;rcases hy with rfl|rfl
  ·exact gS (en x) x (jv _) (hx x (by simp))
  ·exact eZ r (c+1) b (λz hz=>hx z (by simp[hz])) hb
theorem gO {D:List AM}:∀(c:Nat) (e:AE) (n:Nat),en e<=c->NR D (fd D n e):=by
 intro c
 induction c with
 | zero=>intro e _ h;have:=G6 e;omega
 | succ c ih=>
  intro e n hc;have K:∀k∈KZ D n e.op e.num 0 e.kids,NR D k:=λk hk=>by
   obtain⟨i,hi⟩:=jz.1 hk;rw[Nd,jo]at hi;obtain⟨k0,hk0,rfl⟩:=hi;exact ih k0 _ (by have:=DG (je hk0);omega)
  rw[Xn];rcases aS D n e.op e.num (KZ D n e.op e.num 0 e.kids) with h|⟨a,b,r,h1,h2,h3⟩|⟨k,h1,h2⟩|⟨a,r,b,i,h1,h2,h3,h4,h5⟩
  ·rw[h n];exact XQ h K
  ·rw[h3];exact XQ (λn=>by unfold Hc;rw[jn (by omega),jn (by omega),jn (by omega)]) (by simp)
  ·rw[h2];exact K k h1
  ·rw[h5];have ha:=K a (by rw[h1];simp);exact eZ a.kids 0 b (λx hx=>ha.I1 hx) (K b (by rw[h1];simp[je h4]))
theorem iH {D:List AM}{e:AE}{n m:Nat}:fd D m (fd D n e)=fd D n e:=gX _ _ m (jv _) (gO _ e n (jv _))
end RC
namespace RC
open Go
section
variable {p : AP} {N : Nat} {T : List Int -> AE -> Int} {e : AE} {v : List Int}
end
end RC
namespace RC
open Go
structure Bk (b:List Int):Prop where
 u8 :∀x∈b,U8 x
 len:b.length<=2000
def At (p K:Int):Prop:=0<=p/\p<=K
theorem Uz {code:List Int}(h8 :∀x∈code,U8 x)(hl:code.length<=1048576):Ag (IN code) λq=>Bk q.1/\q.2=0:=by
 unfold IN;refine Ag.bind (R:=λb=>Bk b) (BB (λh=>?_) λh=>?_) λb hb=>Ag.some ⟨hb,rfl⟩
 ·rw[AN]at h;have e:Sh.sl code 0 2000=some (code.take 2000):=by
   unfold Sh.sl;rw[jm ⟨by decide,by decide,by omega⟩];rfl
  exact AS e (Ag.some ⟨λx hx=>h8 x (kv hx),by simp;omega⟩)
 ·rw[AN]at h;exact Ag.some ⟨h8,by omega⟩
theorem Pr {a n:Int}(ha:0<=a)(hn:1<=n):0<=a.tmod n/\a.tmod n<n/\a.tmod n<=a:=by
 rw[Int.tmod_eq_emod_of_nonneg ha];refine⟨Int.emod_nonneg _ (by omega),Int.emod_lt_of_pos _ (by omega),?_⟩;have:=Int.mul_ediv_add_emod a n;have h2:0<=n*(a / n):=Int.mul_nonneg (by omega) (Int.ediv_nonneg ha (by omega));omega
theorem W8 {a n:Int}(ha:0<=a)(hn:1<=n):0<=a.tdiv n/\a.tdiv n<=a:=by
 rw[Int.tdiv_eq_ediv_of_nonneg ha];exact⟨Int.ediv_nonneg ha (by omega),Int.ediv_le_self _ ha⟩
theorem UO {a n:Int}(hn:n≠0):Sh.rem a n=some (a.tmod n):=by unfold Sh.rem;rw[jn hn]
theorem bR {a n:Int}(hn:n≠0):Sh.quo a n=some (Sh.w (a.tdiv n)):=by unfold Sh.quo;rw[jn hn]
structure Pk (n p:Int) (q:Int×Int):Prop where
 pos:q.2=p+1
 nn:0<=q.1
 lt:1<=n->q.1<n
 zero:n<1->q.1=0
theorem Cc {b:List Int}(B:Bk b){p n:Int}(hp:At p 1000000):Ag (Az b p n) (Pk n p):=by
 obtain⟨p0,p1⟩:=hp;have hlen:=B.len;have ew:Sh.w (p+1)=p+1:=BK (by omega) (by omega);have ew2:Sh.w (p+1-1)=p:=by rw[BK (by omega) (by omega)];omega
 unfold Az;rw[ew,ew2,AN];refine Ag.bind (R:=λt=>t=true↔n<1∨b.length=0) (BB (λh=>Ag.some (by simp[h])) λh=>Ag.some (by simp[h])) λt ht=>?_;refine Cm (λh=>?_) λh=>?_
 ·refine Ag.some ⟨rfl,by show (0:Int)<=0;decide,λh1=>?_,λ_=>rfl⟩;show (0:Int)<n;omega
 ·have hn:¬ (n<1∨b.length=0):=λh1=>by rw[ht.2 h1]at h;cases h
  have hn1:1<=n:=by omega
  have hb1:1<=b.length:=by omega
  refine BB (λh1=>?_) λh1=>?_
  ·refine Ag.get p0 h1 λc _ hc=>?_;obtain⟨c0,c1⟩:=B.u8 c hc;rw[ZW (by omega) (by omega)];obtain⟨m0,m1,_⟩:=Pr c0 hn1;exact AS (UO (by omega)) (Ag.some ⟨rfl,m0,λ_=>m1,λh=>absurd h (by omega)⟩)
  ·have k1:(1:Int)<=b.length:=by omega
   obtain⟨a0,a1,_⟩:=Pr p0 k1;have e7:Sh.w (p*7)=p*7:=BK (by omega) (by omega);have e73:Sh.w (p*7+3)=p*7+3:=BK (by omega) (by omega);obtain⟨d0,d1,_⟩:=Pr (a:=p*7+3) (by omega) k1;obtain⟨f0,f1⟩:=W8 p0 k1;rw[e7,e73];refine AS (UO (by omega)) ?_;refine Ag.get a0 a1 λc _ hc=>?_;obtain⟨c0,c1⟩:=B.u8 c hc;refine AS (UO (by omega)) ?_;refine Ag.get d0 d1 λc' _ hc'=>?_;obtain⟨c0',c1'⟩:=B.u8 c' hc';refine AS (bR (by omega)) ?_;rw[ZW (n:=c) (by omega) (by omega),ZW (n:=c') (by omega) (by omega),BK (n:=p.tdiv b.length) (by omega) (by omega),BK (n:=c*131) (by omega) (by omega),BK (n:=c'*1117) (by omega) (by omega),
    BK (n:=c*131+c'*1117) (by omega) (by omega),BK (n:=p*29) (by omega) (by omega),BK (n:=c*131+c'*1117+p*29) (by omega) (by omega),BK (n:=p.tdiv b.length*53) (by omega) (by omega),
    BK (n:=c*131+c'*1117+p*29+p.tdiv b.length*53) (by omega) (by omega)]
   obtain⟨x,hx⟩ :∃x,x=c*131+c'*1117+p*29+p.tdiv b.length*53:=⟨_,rfl⟩
   rw[<- hx];have x0:0<=x:=by omega
   have x1:x<=1000000000000:=by omega
   obtain⟨y0,y1⟩:=W8 x0 (by decide:(1:Int)<=64);rw[BK (n:=x.tdiv 64) (by omega) (by omega)];obtain⟨z0,z1⟩:=fh x0 (by omega) y0 (by omega);obtain⟨m0,m1,_⟩:=Pr z0 hn1;exact AS (UO (by omega)) (Ag.some ⟨rfl,m0,λ_=>m1,λh=>absurd h (by omega)⟩)
structure On (l:List Int) (p:Int) (q:Int×Int):Prop where
 pos:q.2=p+1
 mem:q.1∈l
theorem GY {b:List Int}(B:Bk b){p:Int}{l:List Int}(hp:At p 1000000)(hl:1<=l.length)(hl2:l.length<=1000):Ag (CA b p l) (On l p):=by
 unfold CA;rw[AN];refine Ag.bind (Cc B hp) λq ⟨h1,h2,h3,_⟩=>?_;exact Ag.get h2 (h3 (by omega)) λx _ hx=>Ag.some ⟨h1,hx⟩
end RC
namespace RC
open Go
structure CX (D:List AM) (F:List Ac):Prop where
 dl:D.length<=4
 gr:nc D<=7
 cons :∀d∈D,d.cons.length<=3
 LQ :∀d∈D,∀c∈d.cons,c.fields.length<=3/\∀x∈c.fields,x=0∨x=1∨x=3
 c1:Bs D 1=[0,1]
 c3:Bs D 3=[2,3]
 f0 :∃t,Gb D 0 0=some (t,⟨[]⟩)
 f1 :∃t,Gb D 0 1=some (t,⟨[0,1]⟩)
 f2 :∃t,Gb D 0 2=some (t,⟨[]⟩)
 f3 :∃t,Gb D 0 3=some (t,⟨[3,0,3]⟩)
 arr:IS 1 1 D 0=-1
 fl:F.length<=4
 dZ:1<=F.length
 par :∀f∈F,f.params.length<=3
 cl :∀f∈F,(∀x∈f.params,x=0∨x=1∨x=3)∨(f.params=[2,1]/\f.result=1)
section
variable {D : List AM} {F : List Ac}
theorem Yo (D:List AM)(i:Nat):nc (D.take i)<=nc D:=by have:=Gw D i;omega
theorem CX.aB (C:CX D F):D.length<=1048576:=by have:=C.dl;omega
theorem CX.gP (C:CX D F):nc D<=1048576:=by have:=C.gr;omega
theorem CX.UK (C:CX D F){t:Int}{N:Nat}(hN:2000000<=N):GI N D t=some (Bs D t):=Ld C.aB C.gP hN
theorem P1 {D:List AM}{t:Int}:∀x∈Bs D t,∃c:Nat,x=(c:Int)/\c<nc D:=by
 intro x hx;unfold Bs at hx;split at hx
 ·rename_i h;obtain⟨i,hi,rfl⟩:=kC.1 hx;rw[lp]at hi;cases hd:D[(t-1).toNat]? with
  | none=>rw[hd]at hi;simp at hi
  | some d=>
   rw[hd]at hi;simp only[mC]at hi;have h1:=LI hd;have h2:=Yo D ((t-1).toNat+1);exact⟨nc (D.take (t-1).toNat)+i,by omega,by omega⟩
 ·cases hx
theorem CX.UZ (C:CX D F)(t:Int):(Bs D t).length<=3:=by
 unfold Bs;split
 ·rw[kB,nQ];cases hd:D[(t-1).toNat]? with
  | none=>simp
  | some d=>simpa using C.cons d (je hd)
 ·simp
theorem CX.fields (C:CX D F){c:Nat}(hc:c<nc D){N:Nat}(hN:2000000<=N):∃fl:List Int,Bv N D (c:Int)=some fl/\fl.length<=3/\∀x∈fl,x=0∨x=1∨x=3:=by
 obtain⟨t,x,h1,h2⟩:=G3 C.aB C.gP hc hN;obtain⟨_,_,d,hd,hx⟩:=Kn h1;obtain⟨h3,h4⟩:=C.LQ d hd x hx;exact⟨x.fields,h2,h3,h4⟩
theorem YQ:∀(D:List AM) (k c:Nat) {r:Nat×Db},Gb D k c=some r->c<nc D
 | [],k,c,r,h=>by simp[Gb]at h
 | d::D,k,c,r,h=>by
  unfold Gb at h;have e:nc (d::D)=d.cons.length+nc D:=by simp[nc]
  cases hx:d.cons[c]? with
  | some y=>have:=(jg.1 hx).1;omega
  | none=>
   rw[hx]at h;have:=YQ D _ _ h;omega
theorem CX.UX (C:CX D F){c t:Nat}{x:Db}(h:Gb D 0 c=some (t,x)){N:Nat}(hN:2000000<=N):Bv N D (c:Int)=some x.fields:=by
 obtain⟨t',x',h1,h2⟩:=G3 C.aB C.gP (YQ D 0 c h) hN;rw[h]at h1;cases h1;exact h2
theorem fW {l:List Int}{x:Int}(hl:l.length<=1048576){N i:Nat}(hi:i<=l.length)(hN:l.length-i<N):GJ l x N i=some (if x∈l.drop i then Sum.inl true else Sum.inr ()):=by
 refine Bo l.length (λN i=>GJ l x N i=some (if x∈l.drop i then Sum.inl true else Sum.inr ())) ?_ ?_ hi hN
 ·intro n;rw[GJ,jn (by simp[AN])];simp
 ·intro n i hi ih;obtain⟨y,hy,_⟩:=CF hi;rw[GJ,jm (by simp[AN];omega),BH hy,drop_cons hy];simp only[jd,js];rw[BK (by omega) (by omega),show ((i:Int)+1)=((i+1:Nat):Int) by omega];by_cases h:y=x
  ·simp[h]
  ·have h':¬ x=y:=λe=>h e.symm;rw[jn (by simpa using h),ih];simp[h']
theorem fS {l:List Int}{x:Int}(hl:l.length<=1048576){N:Nat}(hN:2000000<=N):Jz N l x=some (decide (x∈l)):=by
 unfold Jz;have:=fW (x:=x) hl (kE _) (by omega:l.length-0<N);rw[show ((0:Nat):Int)=0 from rfl,lj]at this;rw[this];by_cases h:x∈l<;>simp[h,Sh.cont]
def ZX (D:List AM)(F:List Ac)(t x:Int):Prop:=∃(f:Nat) (g:Ac) (y:Int),x=(f:Int)/\F[f]?=some g/\g.params[g.params.length-1]?=some y/\0<g.params.length/\IS y g.result D 0=t
theorem NG (C:CX D F){t:Int}{M:Nat}(hM:2000000<=M):Ag (Hr M ⟨D,F⟩ t) λl=>l.length<=4/\∀x∈l,ZX D F t x:=by
 have hf:=C.fl;have key:∀{N i:Nat},i<=F.length->F.length-i<N->∀acc:List Int,acc.length<=i->(∀x∈acc,ZX D F t x)->Ag (EZ M ⟨D,F⟩ t N i acc) λl=>l.length<=F.length/\∀x∈l,ZX D F t x:=by
  intro N i hi hN;refine Bo F.length (λN i=>∀acc:List Int,acc.length<=i->(∀x∈acc,ZX D F t x)->Ag (EZ M ⟨D,F⟩ t N i acc) λl=>l.length<=F.length/\∀x∈l,ZX D F t x) ?_ ?_ hi hN
  ·intro n acc h1 h2;rw[EZ,jn (by simp[AN])];exact Ag.some ⟨h1,h2⟩
  ·intro n i hi ih acc h1 h2;obtain⟨g,hg,hgm⟩:=CF hi;have hp:=C.par g hgm;rw[EZ,jm (by simp[AN];omega)];refine Ag.bind (R:=λl=>l.length<=i+1/\∀x∈l,ZX D F t x) ?_ λl hl=>?_
   ·refine AS (BH hg) ?_;refine Ag.bind (R:=λb=>b=true->ZX D F t i) ?_ λb hb=>?_
    ·refine BB (λh=>?_) λ_=>Ag.some (λh=>by cases h);rw[AN]at h;have hpos:0<g.params.length:=by omega
     obtain⟨y,hy,_⟩:=CF (l:=g.params) (i:=g.params.length-1) (by omega);rw[AN,BK (by omega) (by omega),show ((g.params.length:Int)-1)=((g.params.length-1:Nat):Int) by omega];refine AS (BH hy) (AS (Nm C.aB hM) (Ag.some λh=>?_));exact⟨i,g,y,rfl,hg,hy,hpos,by simpa using h⟩
    ·refine Cm (λh=>?_) λ_=>Ag.some ⟨by omega,h2⟩;refine Ag.app (by simp;omega) (by simp;omega) (Ag.some ⟨by simp;omega,λx hx=>?_⟩);rcases kJ.1 hx with h3|h3
     ·exact h2 x h3
     ·rw[jy]at h3;rw[h3];exact hb h
   ·rw[BK (by omega) (by omega),show ((i:Int)+1)=((i+1:Nat):Int) by omega];exact ih l hl.1 hl.2
 unfold Hr;have:=key (kE _) (by omega:F.length-0<M) [] (by simp) (by simp);rw[show ((0:Nat):Int)=0 from rfl]at this;exact Ag.bind this λl hl=>Ag.some ⟨by omega,hl.2⟩
theorem Ls (C:CX D F){vars:List Int}(hv:vars.length<=1000){t:Int}{M:Nat}(hM:2000000<=M):Ag (Gr M ⟨D,F⟩ vars t) λ_=>True:=by
 unfold Gr;refine Ag.bind (R:=λ_=>True) ?_ λb _=>Ag.some jf;refine AS (JN C.aB) ?_;refine Cm (λ_=>Ag.some jf) λ_=>?_;refine Ag.bind (NG C hM) λl _=>?_;refine BB (λ_=>Ag.some jf) λ_=>?_;exact AS (fS (by omega) hM) (Ag.some jf)
theorem UE {vars:List Int}(hv:vars.length<=1000){t:Int}{M:Nat}(hM:2000000<=M):Ag (Ht M vars t) λl=>l.length<=1000/\∀x∈l,0<=x/\x<=1000:=by
 have key:∀{N i:Nat},i<=vars.length->vars.length-i<N->∀acc:List Int,acc.length<=i->(∀x∈acc,0<=x/\x<=1000)->Ag (Dt vars t N i acc) λl=>l.length<=vars.length/\∀x∈l,0<=x/\x<=1000:=by
  intro N i hi hN;refine Bo vars.length (λN i=>∀acc:List Int,acc.length<=i->(∀x∈acc,0<=x/\x<=1000)->Ag (Dt vars t N i acc) λl=>l.length<=vars.length/\∀x∈l,0<=x/\x<=1000) ?_ ?_ hi hN
  ·intro n acc h1 h2;rw[Dt,jn (by simp[AN])];exact Ag.some ⟨h1,h2⟩
  ·intro n i hi ih acc h1 h2;obtain⟨y,hy,_⟩:=CF hi;rw[Dt,jm (by simp[AN];omega)];refine Ag.bind (R:=λl=>l.length<=i+1/\∀x∈l,0<=x/\x<=1000) ?_ λl hl=>?_
   ·refine AS (BH hy) ?_;refine BB (λ_=>?_) λ_=>Ag.some ⟨by omega,h2⟩;refine Ag.app (by simp;omega) (by simp;omega) (Ag.some ⟨by simp;omega,λx hx=>?_⟩);rcases kJ.1 hx with h3|h3
    ·exact h2 x h3
    ·rw[jy]at h3;omega
   ·rw[BK (by omega) (by omega),show ((i:Int)+1)=((i+1:Nat):Int) by omega];exact ih l hl.1 hl.2
 unfold Ht;have:=key (kE _) (by omega:vars.length-0<M) [] (by simp) (by simp);rw[show ((0:Nat):Int)=0 from rfl]at this;exact Ag.bind this λl hl=>Ag.some ⟨by omega,hl.2⟩
structure GE (k P:Nat) (p:Int) (q:AE×Int):Prop where
 size:en q.1<=k
 CZ:An q.1
 lo:p<=q.2
 hi:q.2<=p+P
theorem GE.up {k k' P P':Nat}{p:Int}{q:AE×Int}(h:GE k P p q)(hk:k<=k')(hP:P<=P'):GE k' P' p q:=⟨by have:=h.size;omega,h.CZ,h.lo,by have:=h.hi;omega⟩
theorem Di {n:Int}(h1:-1000000<=n)(h2:n<=1000000):Gu n:=⟨by omega,by omega⟩
theorem Ja {o n:Int}{k:List AE}(ho:Gu o)(hn:Gu n)(hk :∀e∈k,An e)(hl:k.length<=1000):An ⟨o,n,k⟩:=.mk ho hn (by show k.length<=_;omega) hk
theorem Gi (o n:Int)(k:List AE):en ⟨o,n,k⟩=1+CK k:=Fw _
theorem Ik:∀(a b:List AE),CK (a++b)=CK a+CK b
 | [],b=>by simp[CK]
 | x::a,b=>by have:=Ik a b;simp only[nX,CK];omega
theorem HQ (e:AE):CK [e]=en e:=by simp[CK]
theorem OK {b:List Int}(Bb:Bk b){p:Int}(h0:0<=p)(h1:p<=900000):Ag (Ij b p) λq=>(-1000<=q.1/\q.1<=1000)/\q.2=p+4:=by
 unfold Ij;refine Ag.bind (Cc Bb ⟨by omega,by omega⟩) λa ha=>?_;have a1:=ha.pos;have a2:=ha.nn;have a3:=ha.lt (by omega);refine Ag.bind (Cc Bb ⟨by omega,by omega⟩) λc hc=>?_;have c1:=hc.pos;have c2:=hc.nn;have c3:=hc.lt (by omega);refine Ag.bind (Cc Bb ⟨by omega,by omega⟩) λd hd=>?_;have d1:=hd.pos;have d2:=hd.nn;have d3:=hd.lt (by omega);refine Ag.bind (GY Bb ⟨by omega,by omega⟩ (by simp) (by simp)) λe he=>Ag.some ⟨?_,by have:=he.pos;show e.2=_;omega⟩;have:=he.mem;simp only[js,kN,kx]at this;show -1000<=e.1/\e.1<=1000;omega
def ay (b:List Int)(D:List AM)(F:List Ac)(rec:List Int->Int->List Ac->List AM->Int->Option (AE×Int))(t:Int)(k P:Nat):Prop:=
 ∀p:Int,0<=p->p<=800000->Ag (rec b p F D t) (GE k P p)
theorem WT {b:List Int}{rec:List Int->Int->List Ac->List AM->Int->Option (AE×Int)}{l:List Int}(hl:l.length<=3){k P:Nat}(hP:P<=1000)(hrec :∀t∈l,ay b D F rec t k P){N i:Nat}(hi:i<=l.length)(hN:l.length-i<N):
  ∀(p:Int) (acc:List AE),0<=p->p<=700000+(i*P:Nat)->acc.length=i->(∀e∈acc,An e)->CK acc<=i*k->
   Ag (Cy b F D l rec N i p acc) λq=>p<=q.1/\q.1<=p+((l.length-i)*P:Nat)/\q.2.length=l.length/\(∀e∈q.2,An e)/\CK q.2<=l.length*k:=by
 refine Bo l.length (λN i=>∀(p:Int) (acc:List AE),0<=p->p<=700000+(i*P:Nat)->acc.length=i->(∀e∈acc,An e)->CK acc<=i*k->
   Ag (Cy b F D l rec N i p acc) λq=>p<=q.1/\q.1<=p+((l.length-i)*P:Nat)/\q.2.length=l.length/\(∀e∈q.2,An e)/\CK q.2<=l.length*k) ?_ ?_ hi hN
 ·intro n p acc h0 h1 h2 h3 h4;rw[Cy,jn (by simp[AN])];exact Ag.some ⟨by show p<=p;omega,by show p<=_;omega,h2,h3,h4⟩
 ·intro n i hi ih p acc h0 h1 h2 h3 h4;obtain⟨t,ht,htm⟩:=CF hi;have hiP:i*P<=3000:=by
   have:i*P<=3*1000:=nN (by omega) hP;omega
  have e1:(l.length-i)*P=P+(l.length-(i+1))*P:=by
   rw[show l.length-i=(l.length-(i+1))+1 by omega,kP];omega
  have e2:(i+1)*P=i*P+P:=by rw[kP];omega
  have e3:(i+1)*k=i*k+k:=by rw[kP];omega
  rw[Cy,jm (by simp[AN];omega)];refine AS (BH ht) ?_;refine Ag.bind (hrec t htm p h0 (by omega)) λq hq=>?_;have q1:=hq.lo;have q2:=hq.hi;have q3:=hq.size;refine Ag.app (by simp;omega) (by simp;omega) ?_;rw[BK (by omega) (by omega),show ((i:Int)+1)=((i+1:Nat):Int) by omega];refine (ih q.2 (acc++[q.1]) (by omega) (by omega) (by simp;omega) (λe he=>?_) (by rw[Ik,HQ];omega)).mono λr hr=>⟨by have:=hr.1;omega,by have:=hr.2.1;omega,hr.2.2⟩;rcases kJ.1 he with h5|h5
  ·exact h3 e h5
  ·rw[jy]at h5;rw[h5];exact hq.CZ
theorem Wm {b:List Int}{rec:List Int->Int->List Ac->List AM->Int->Option (AE×Int)}{g:Ac}{m:Nat}(hm:g.params.length=m+1)(hl:m<=2){k P:Nat}(hP:P<=1000)(hrec :∀t∈g.params,ay b D F rec t k P){N i:Nat}(hi:i<=m)(hN:m-i<N):
  ∀(p:Int) (acc:List AE),0<=p->p<=700000+(i*P:Nat)->acc.length=i->(∀e∈acc,An e)->CK acc<=i*k->
   Ag (Dq g b F D rec N i p acc) λq=>p<=q.1/\q.1<=p+((m-i)*P:Nat)/\q.2.length=m/\(∀e∈q.2,An e)/\CK q.2<=(m)*k:=by
 refine Bo m (λN i=>∀(p:Int) (acc:List AE),0<=p->p<=700000+(i*P:Nat)->acc.length=i->(∀e∈acc,An e)->CK acc<=i*k->
   Ag (Dq g b F D rec N i p acc) λq=>p<=q.1/\q.1<=p+((m-i)*P:Nat)/\q.2.length=m/\(∀e∈q.2,An e)/\CK q.2<=(m)*k) ?_ ?_ hi hN
 ·intro n p acc h0 h1 h2 h3 h4;rw[Dq,BK (by omega) (by omega),jn (by rw[jw,AN];omega)];exact Ag.some ⟨by show p<=p;omega,by show p<=_;omega,h2,h3,h4⟩
 ·intro n i hi ih p acc h0 h1 h2 h3 h4;obtain⟨t,ht,htm⟩:=CF (l:=g.params) (i:=i) (by omega);have hiP:i*P<=3000:=by
   have:i*P<=3*1000:=nN (by omega) hP;omega
  have e1:(m-i)*P=P+(m-(i+1))*P:=by
   rw[show m-i=(m-(i+1))+1 by omega,kP];omega
  have e2:(i+1)*P=i*P+P:=by rw[kP];omega
  have e3:(i+1)*k=i*k+k:=by rw[kP];omega
  rw[Dq,BK (by omega) (by omega),jm (by rw[jw,AN];omega)];refine AS (BH ht) ?_;refine Ag.bind (hrec t htm p h0 (by omega)) λq hq=>?_;have q1:=hq.lo;have q2:=hq.hi;have q3:=hq.size;refine Ag.app (by simp;omega) (by simp;omega) ?_;rw[show ((i:Int)+1)=((i+1:Nat):Int) by omega];refine (ih q.2 (acc++[q.1]) (by omega) (by omega) (by simp;omega) (λe he=>?_) (by rw[Ik,HQ];omega)).mono λr hr=>⟨by have:=hr.1;omega,by have:=hr.2.1;omega,hr.2.2⟩;rcases kJ.1 he with h5|h5
  ·exact h3 e h5
  ·rw[jy]at h5;rw[h5];exact hq.CZ
theorem Fm {o n:Int}(ho:-1000000<=o/\o<=1000000)(hn:-1000000<=n/\n<=1000000):An ⟨o,n,[]⟩:=Ja (Di ho.1 ho.2) (Di hn.1 hn.2) (by simp) (by simp)
theorem et (C:CX D F){b:List Int}(Bb:Bk b){M:Nat}(hM:2000000<=M){t:Int}(ht:t=0∨t=1∨t=3)(n:Nat):ay b D F (De M (n+1)) t 1 6:=by
 intro p h0 h1;rw[De];unfold Hh;refine AS (C.UK hM) ?_;have data:∀(c:Nat) (fs:List Int),Bs D t=[(c:Int),((c+1:Nat):Int)]->c<=10->Bv M D (c:Int)=some []->Bv M D ((c+1:Nat):Int)=some fs->t∈fs->fs.length<=3->
   Ag ((Sh.get (Bs D t) 0).bind λc8=>
  (
   Option.bind (
    if (decide (1<(Sh.len (Bs D t))))=true then
     (Az b p 4).bind λq47=>
     some (decide (q47.1=0),q47.2)
    else
     some (false,p)
   ) λ(t41,f42)=>
   if t41=true then
    (Sh.get (Bs D t) 1).bind λc45=>
    some (c45,f42)
   else
    some (c8,f42)
  ).bind λ(c10,f11)=>
  (
   Option.bind (Bv M D c10) λq37=>
   (Jz M q37 t).bind λq38=>
   if q38=true then
    some c8
   else
    some c10
  ).bind λc14=>
  (Bv M D c14).bind λq18=>
  (Cy b F D q18 (De M n) M 0 f11 []).bind λ(f24,l25)=>
  (Be 6 c14 l25).bind λq28=>
  some (q28,f24)) (GE 1 6 p):=by
  intro c fs hcl hc hf0 hf1 hin hfl;rw[hcl];refine AS (show Sh.get [(c:Int),((c+1:Nat):Int)] 0=some (c:Int) from rfl) ?_;refine Ag.bind (R:=λq=>(q.1=(c:Int)∨q.1=((c+1:Nat):Int))/\q.2=p+1) ?_ ?_
  ·rw[jm (by simp[AN])];refine Ag.bind (R:=λq:Bool×Int=>q.2=p+1) (Ag.bind (Cc Bb ⟨by omega,by omega⟩) λq hq=>Ag.some hq.pos) ?_;rintro⟨t41,f42⟩ hf;dsimp only at hf⊢;refine Cm (λ_=>?_) λ_=>Ag.some ⟨.inl rfl,hf⟩;exact AS (show Sh.get [(c:Int),((c+1:Nat):Int)] 1=some ((c+1:Nat):Int) from rfl) (Ag.some ⟨.inr rfl,hf⟩)
  ·rintro⟨c10,f11⟩ ⟨hc10,hf⟩;dsimp only at hc10 hf⊢;refine Ag.bind (R:=λc14=>c14=(c:Int)) ?_ ?_
   ·rcases hc10 with rfl|rfl
    ·refine AS hf0 (AS (fS (by simp) hM) ?_);exact Cm (λ_=>Ag.some rfl) λ_=>Ag.some rfl
    ·refine AS hf1 (AS (fS (by omega) hM) ?_);rw[jm (by simpa using hin)];exact Ag.some rfl
   ·rintro c14 rfl;refine AS hf0 ?_;obtain⟨M',rfl⟩ :∃m,M=m+1:=⟨M-1,by omega⟩
    rw[Cy,jn (by simp[AN])];refine AS rfl (AS rfl (Ag.some ⟨?_,Fm ⟨by omega,by omega⟩ ⟨by omega,by omega⟩,?_,?_⟩))
    ·rw[Gi];simp[CK]
    ·show p<=f11;omega
    ·show f11<=_;omega
 rcases ht with rfl|rfl|rfl
 ·have e:Bs D 0=[]:=by unfold Bs;rw[jn (by omega)]
  rw[e,jn (by simp[AN])];refine Ag.bind (NG C hM) λl _=>?_;refine AS (show _=some false from jn (by simp)) ?_;simp only[jk,kH];refine Ag.bind (OK Bb h0 (by omega)) λq hq=>AS rfl (Ag.some ⟨?_,Fm ⟨by omega,by omega⟩ ⟨by omega,by omega⟩,?_,?_⟩)
  ·rw[Gi];simp[CK]
  ·show p<=q.2;omega
  ·show q.2<=_;omega
 ·obtain⟨t0,k0⟩:=C.f0;obtain⟨t1,k1⟩:=C.f1;rw[jm (by rw[C.c1];simp[AN])];exact data 0 [0,1] C.c1 (by omega) (C.UX k0 hM) (C.UX k1 hM) (by simp) (by simp)
 ·obtain⟨t0,k0⟩:=C.f2;obtain⟨t1,k1⟩:=C.f3;rw[jm (by rw[C.c3];simp[AN])];exact data 2 [3,0,3] C.c3 (by omega) (C.UX k0 hM) (C.UX k1 hM) (by simp) (by simp)
end
end RC
namespace RC
open Go
section
variable {D : List AM} {F : List Ac}
theorem WK (C:CX D F){b:List Int}(Bb:Bk b){M:Nat}(hM:2000000<=M)(t:Int)(n:Nat){p:Int}(h0:0<=p)(h1:p<=600000):Ag (De M (n+2) b p F D t) (GE 4 20 p):=by
 have hrec:∀t,(t=0∨t=1∨t=3)->ay b D F (De M (n+1)) t 1 6:=λt ht=>et C Bb hM ht n;rw[De];unfold Hh;refine AS (C.UK hM) ?_;have hc3:=C.UZ t;refine BB (λhpos=>?_) λ_=>?_
 ·rw[AN]at hpos;refine Ag.get (by omega) (by omega) λc8 _ hc8=>?_;refine Ag.bind (R:=λq=>q.1∈Bs D t/\p<=q.2/\q.2<=p+1) ?_ ?_
  ·refine Ag.bind (R:=λq:Bool×Int=>(q.1=true->1<(Bs D t).length)/\p<=q.2/\q.2<=p+1) ?_ ?_
   ·refine BB (λh2=>?_) λ_=>Ag.some ⟨(λh=>by cases h),by show p<=p;omega,by show p<=_;omega⟩;rw[AN]at h2;exact Ag.bind (Cc Bb ⟨by omega,by omega⟩) λq hq=>Ag.some ⟨λ_=>by omega,by have:=hq.pos;show p<=q.2;omega,by have:=hq.pos;show q.2<=_;omega⟩
   ·rintro⟨t41,f42⟩ ⟨g1,g2,g3⟩;dsimp only at g1 g2 g3⊢;refine Cm (λh=>?_) λ_=>Ag.some ⟨hc8,g2,g3⟩;refine Ag.get (by omega) (by have:=g1 h;omega) λc45 _ hc45=>Ag.some ⟨hc45,g2,g3⟩
  ·rintro⟨c10,f11⟩ ⟨hc10,g2,g3⟩;dsimp only at hc10 g2 g3⊢;refine Ag.bind (R:=λc14=>c14∈Bs D t) ?_ ?_
   ·obtain⟨c,rfl,hc⟩:=P1 _ hc10;obtain⟨fl,e1,e2,_⟩:=C.fields hc hM;refine AS e1 (AS (fS (by omega) hM) ?_);exact Cm (λ_=>Ag.some hc8) λ_=>Ag.some hc10
   ·intro c14 hc14;obtain⟨c,rfl,hc⟩:=P1 _ hc14;obtain⟨fl,e1,e2,e3⟩:=C.fields hc hM;have hn:=C.gr;refine AS e1 ?_;have:=WT (D:=D) (F:=F) (b:=b) (rec:=De M (n+1)) e2 (k:=1) (P:=6) (by omega) (λt ht=>hrec t (e3 t ht)) (N:=M) (kE _) (by omega) f11 [] (by omega) (by omega) rfl (by simp) (by simp[CK]);refine Ag.bind this ?_;rintro⟨f24,l25⟩ ⟨a1,a2,a3,a4,a5⟩;dsimp only at a1 a2 a3 a4 a5⊢;refine AS rfl (Ag.some ⟨by rw[Gi];omega,Ja (Di (by omega) (by omega)) (Di (by omega) (by omega)) a4 (by omega),by show p<=f24;omega,by show f24<=_;omega⟩)
 ·refine Ag.bind (NG C hM) λl hl=>?_;have hF:=C.fl;refine Ag.bind (R:=λt52=>t52=true->0<t/\0<l.length) ?_ λt52 ht52=>?_
  ·refine BB (λh=>Ag.some λh2=>⟨h,by rw[jw,AN]at h2;omega⟩) λ_=>Ag.some λh=>by cases h
  ·refine Cm (λh=>?_) λ_=>?_
   ·obtain⟨ht0,hl0⟩:=ht52 h;rw[AN];refine Ag.bind (Cc Bb ⟨by omega,by omega⟩) λq hq=>?_;have q1:=hq.pos;have q2:=hq.nn;have q3:=hq.lt (by omega);refine Ag.get q2 q3 λc57 _ hc57=>?_;obtain⟨f,g,y,rfl,hg,hy,hgp,ha⟩:=hl.2 c57 hc57;have hgm:=je hg;have hfl:=(jg.1 hg).1;have hp3:=C.par g hgm;refine AS (BH hg) ?_;have htys:∀x∈g.params,x=0∨x=1∨x=3:=by
     rcases C.cl g hgm with h2|⟨h2,h3⟩
     ·exact h2
     ·exfalso;rw[h2]at hy;have:y=1:=by simpa using hy.symm
      rw[this,h3,C.arr]at ha;omega
    obtain⟨m,hm⟩ :∃m,g.params.length=m+1:=⟨g.params.length-1,by omega⟩
    have:=Wm (D:=D) (F:=F) (b:=b) (rec:=De M (n+1)) hm (by omega) (k:=1) (P:=6) (by omega) (λt ht=>hrec t (htys t ht)) (N:=M) (kE _) (by omega) q.2 [] (by omega) (by omega) rfl (by simp) (by simp[CK]);refine Ag.bind this ?_;rintro⟨f66,l67⟩ ⟨a1,a2,a3,a4,a5⟩;dsimp only at a1 a2 a3 a4 a5⊢;refine AS rfl (Ag.some ⟨by rw[Gi];omega,Ja (Di (by omega) (by omega)) (Di (by omega) (by omega)) a4 (by omega),by show p<=f66;omega,by show f66<=_;omega⟩)
   ·refine Ag.bind (OK Bb h0 (by omega)) λq hq=>AS rfl (Ag.some ⟨?_,Fm ⟨by omega,by omega⟩ ⟨by omega,by omega⟩,?_,?_⟩)
    ·rw[Gi];simp[CK]
    ·show p<=q.2;omega
    ·show q.2<=_;omega
theorem Ly (C:CX D F){b:List Int}(Bb:Bk b){M:Nat}(hM:2000000<=M){vars:List Int}(hv:vars.length<=1000)(t:Int){p:Int}(h0:0<=p)(h1:p<=500000):Ag (Hd M b p F D vars t) (GE 4 22 p):=by
 unfold Hd;refine Ag.bind (UE hv hM) λl hl=>?_;refine Ag.bind (R:=λq:Bool×Int=>(q.1=true->0<l.length)/\p<=q.2/\q.2<=p+1) ?_ ?_
 ·refine BB (λh=>?_) λ_=>Ag.some ⟨(λh=>by cases h),by show p<=p;omega,by show p<=_;omega⟩;rw[AN]at h;refine Ag.bind (Cc Bb ⟨by omega,by omega⟩) λq hq=>?_;have q1:=hq.pos;refine BB (λ_=>Ag.some ⟨λ_=>by omega,by show p<=q.2;omega,by show q.2<=_;omega⟩) λ_=>?_;exact Ag.bind (Ls C (by simp) hM) λ_ _=>Ag.some ⟨λ_=>by omega,by show p<=q.2;omega,by show q.2<=_;omega⟩
 ·rintro⟨t6,f7⟩ ⟨g1,g2,g3⟩;dsimp only at g1 g2 g3⊢;refine Cm (λh=>?_) λ_=>?_
  ·have hl0:=g1 h;rw[AN];refine Ag.bind (Cc Bb ⟨by omega,by omega⟩) λq hq=>?_;have q1:=hq.pos;have q2:=hq.nn;have q3:=hq.lt (by omega);refine Ag.get q2 q3 λc _ hc=>?_;have:=hl.2 c hc;refine AS rfl (Ag.some ⟨by rw[Gi];simp[CK],Fm ⟨by omega,by omega⟩ ⟨by omega,by omega⟩,by show p<=q.2;omega,by show q.2<=_;omega⟩)
  ·unfold Mc;obtain⟨m,rfl⟩ :∃m,M=m+2:=⟨M-2,by omega⟩
   refine Ag.bind (WK C Bb hM t m (p:=f7) (by omega) (by omega)) λq hq=>Ag.some ⟨hq.size,hq.CZ,by have:=hq.lo;show p<=q.2;omega,by have:=hq.hi;show q.2<=_;omega⟩
theorem Xu (C:CX D F){b:List Int}(Bb:Bk b){M:Nat}(hM:2000000<=M){vars:List Int}(hv:vars.length<=1000){p:Int}(h0:0<=p)(h1:p<=500000):Ag (Jn M b p F D vars) λq=>q.2=p+1:=by
 unfold Jn;refine Ag.bind (GY Bb ⟨by omega,by omega⟩ (by simp) (by simp)) λq hq=>?_;refine Ag.bind (R:=λ_=>True) ?_ λt6 _=>Cm (λ_=>Ag.some hq.pos) λ_=>Ag.some hq.pos;refine BB (λ_=>Ag.some jf) λ_=>?_;exact Ag.bind (Ls C hv hM) λ_ _=>Ag.some jf
theorem Wp (C:CX D F){t:Int}{M:Nat}(hM:2000000<=M):Ag (I4 M ⟨D,F⟩ t) λl=>l.length<=4/\∀x∈l,0<=x/\x<(F.length:Int):=by
 have hf:=C.fl;have hf1:=C.dZ;have L2:∀(g:Ac),g.params.length<=3->∀{N i:Nat},i<=g.params.length->g.params.length-i<N->∀ok:Bool,Ag (EW M g ⟨D,F⟩ N ok i) λ_=>True:=by
  intro g hg N i hi hN;refine Bo g.params.length (λN i=>∀ok:Bool,Ag (EW M g ⟨D,F⟩ N ok i) λ_=>True) ?_ ?_ hi hN
  ·intro n ok;rw[EW,jn (by simp[AN])];exact Ag.some jf
  ·intro n i hi ih ok;obtain⟨y,hy,_⟩:=CF hi;rw[EW,jm (by rw[jw,AN];omega),BK (by omega) (by omega),show ((i:Int)+1)=((i+1:Nat):Int) by omega];refine Ag.bind (R:=λ_=>True) ?_ λok _=>ih ok;refine Cm (λ_=>?_) λ_=>Ag.some jf;refine AS (BH hy) (Ag.bind (Ls C (by simp) hM) λ_ _=>Ag.some jf)
 have key:∀{N i:Nat},i<=F.length->F.length-i<N->∀acc:List Int,acc.length<=i->(∀x∈acc,0<=x/\x<(F.length:Int))->Ag (Ei M ⟨D,F⟩ t N i acc) λl=>l.length<=F.length/\∀x∈l,0<=x/\x<(F.length:Int):=by
  intro N i hi hN;refine Bo F.length (λN i=>∀acc:List Int,acc.length<=i->(∀x∈acc,0<=x/\x<(F.length:Int))->Ag (Ei M ⟨D,F⟩ t N i acc) λl=>l.length<=F.length/\∀x∈l,0<=x/\x<(F.length:Int)) ?_ ?_ hi hN
  ·intro n acc h1 h2;rw[Ei,jn (by simp[AN])];exact Ag.some ⟨h1,h2⟩
  ·intro n i hi ih acc h1 h2;obtain⟨g,hg,hgm⟩:=CF hi;have hp:=C.par g hgm;rw[Ei,jm (by rw[jw,AN];show (i:Int)<(F.length:Int);omega),BK (by omega) (by omega),show ((i:Int)+1)=((i+1:Nat):Int) by omega];refine Ag.bind (R:=λl=>l.length<=i+1/\∀x∈l,0<=x/\x<(F.length:Int)) ?_ λl hl=>ih l hl.1 hl.2;refine AS (BH hg) ?_;have:=L2 g hp (N:=M) (kE _) (by omega) (decide (g.result=t));refine Ag.bind this λok _=>?_;refine Cm (λ_=>?_) λ_=>Ag.some ⟨by omega,h2⟩;refine Ag.app (by simp;omega) (by simp;omega) (Ag.some ⟨by simp;omega,λx hx=>?_⟩);rcases kJ.1 hx with h3|h3
   ·exact h2 x h3
   ·rw[jy]at h3;omega
 unfold I4;have:=key (i:=1) hf1 (by omega:F.length-1<M) [] (by simp) (by simp);rw[show ((1:Nat):Int)=1 from rfl]at this;exact Ag.bind this λl hl=>Ag.some ⟨by omega,hl.2⟩
def GK (d:Nat):Nat:=if d=0 then 4 else 9*d-5
def EV (d:Nat):Nat:=if d=0 then 35 else 80*d-45
theorem L3 {r d n:Nat}(h1:1<=r)(h3:r<=3)(hn:3<=n)(hd:d*r<=n-1):5+r*GK d<=GK n/\40+r*EV d<=EV n:=by
 have hn0:¬ n=0:=by omega
 unfold GK EV;rw[jn hn0,jn hn0];obtain rfl|rfl|rfl:r=1∨r=2∨r=3:=by omega
 all_goals
  by_cases h:d=0
  ·rw[jm h,jm h];omega
  ·rw[jn h,jn h];omega
theorem RX (d:Nat):4<=GK d:=by unfold GK;split<;>omega
theorem Re (d:Nat):35<=EV d:=by unfold EV;split<;>omega
theorem fL {d:Nat}(h:d<=20):EV d<=1600:=by unfold EV;split<;>omega
abbrev XH:=List Int->Int->List Ac->List AM->List Int->Int->Int->Option (AE×Int)
def RG (b:List Int)(D:List AM)(F:List Ac)(rec:XH)(n:Nat):Prop:=
 ∀(d:Nat) (vars:List Int) (t p:Int),d<n->d<=20->vars.length+3*d<=400->0<=p->p+(EV d:Int)<=400000->Ag (rec b p F D vars t (d:Int)) (GE (GK d) (EV d) p)
structure GL (m k P:Nat) (p:Int) (q:List AE×Int):Prop where
 len:q.1.length=m
 size:CK q.1<=k
 CZ :∀e∈q.1,An e
 lo:p<=q.2
 hi:q.2<=p+P
theorem cU (a b:Nat):Int.tdiv (a:Int) (b:Int)=((a / b:Nat):Int):=rfl
theorem ZI {a b:Nat}(hb:b≠0)(ha:a<=1000000):Sh.quo (a:Int) (b:Int)=some ((a / b:Nat):Int):=by
 have h:=mZ a b;rw[bR (by omega),cU];generalize a / b=c at h⊢;rw[BK (by omega) (by omega)]
theorem Tk {b:List Int}{rec:XH}{n:Nat}(R:RG b D F rec n){vars types:List Int}(ht:types.length<=3){bud:Nat}(hb:bud<=20){d:Nat}(hd:types.length≠0->bud / types.length=d)(hdn:d<n)(hd20:d<=20)(hv:vars.length+3*d<=400){M:Nat}(hM:2000000<=M){p:Int}(h0:0<=p)(h1:p+(types.length*EV d:Nat)<=400000):
  Ag (Fs M rec b p F D vars types (bud:Int)) (GL types.length (types.length*GK d) (types.length*EV d) p):=by
 have key:∀{N i:Nat},i<=types.length->types.length-i<N->∀(q:Int) (acc:List AE),p<=q->q<=p+(i*EV d:Nat)->acc.length=i->(∀e∈acc,An e)->CK acc<=i*GK d->
   Ag (FU b F D vars types (bud:Int) rec N i q acc) λr=>p<=r.1/\r.1<=p+(types.length*EV d:Nat)/\r.2.length=types.length/\(∀e∈r.2,An e)/\CK r.2<=types.length*GK d:=by
  intro N i hi hN;refine Bo types.length (λN i=>∀(q:Int) (acc:List AE),p<=q->q<=p+(i*EV d:Nat)->acc.length=i->(∀e∈acc,An e)->CK acc<=i*GK d->
   Ag (FU b F D vars types (bud:Int) rec N i q acc) λr=>p<=r.1/\r.1<=p+(types.length*EV d:Nat)/\r.2.length=types.length/\(∀e∈r.2,An e)/\CK r.2<=types.length*GK d) ?_ ?_ hi hN
  ·intro n q acc g1 g2 g3 g4 g5;rw[FU,jn (by simp[AN])];exact Ag.some ⟨g1,g2,g3,g4,g5⟩
  ·intro n i hi ih q acc g1 g2 g3 g4 g5;obtain⟨t,ht',_⟩:=CF hi;have e2:(i+1)*EV d=i*EV d+EV d:=by rw[kP];omega
   have e3:(i+1)*GK d=i*GK d+GK d:=by rw[kP];omega
   have e4:(i+1)*EV d<=types.length*EV d:=kS _ hi;rw[FU,jm (by rw[jw,AN];omega),BK (n:=(i:Int)+1) (by omega) (by omega),show ((i:Int)+1)=((i+1:Nat):Int) by omega];refine AS (BH ht') ?_;rw[AN];refine AS (ZI (by omega) (by omega)) ?_;rw[hd (by omega)];refine Ag.bind (R d vars t q hdn hd20 hv (by omega) (by omega)) λr hr=>?_;have r1:=hr.lo;have r2:=hr.hi;have r3:=hr.size;refine Ag.app (by simp;omega) (by simp;omega) ?_;refine ih r.2 (acc++[r.1]) (by omega) (by omega) (by simp;omega) (λe he=>?_) (by rw[Ik,HQ];omega);rcases kJ.1 he with h5|h5
   ·exact g4 e h5
   ·rw[jy]at h5;rw[h5];exact hr.CZ
 unfold Fs;have:=key (kE _) (by omega:types.length-0<M) p [] (by omega) (by omega) rfl (by simp) (by simp[CK]);rw[show ((0:Nat):Int)=0 from rfl]at this;refine Ag.bind this ?_;rintro⟨f,l⟩ ⟨a1,a2,a3,a4,a5⟩;exact Ag.some ⟨a3,a5,a4,a1,a2⟩
theorem XG {r d n P:Nat}{p q0 o m:Int}{l:List AE}{q:Int}(ho:-1000000<=o/\o<=1000000)(hm:-1000000<=m/\m<=1000000)(h3:r<=3)(hn:3<=n)(hd:d*r<=n-1)(hq:p<=q0/\q0<=p+P)(hP:P<=40)(g:GL r (r*GK d) (r*EV d) q0 (l,q)):GE (GK n) (EV n) p (⟨o,m,l⟩,q):=by
 have s1:=g.size;have s2:=g.lo;have s3:=g.hi;have s4:=g.len;dsimp only at s1 s2 s3 s4;have hn1:=RX n;have hn2:=Re n;refine⟨?_,Ja (Di ho.1 ho.2) (Di hm.1 hm.2) g.CZ (by omega),by show p<=q;omega,?_⟩
 ·rw[Gi];rcases lv r with rfl|hr
  ·omega
  ·have:=(L3 (d:=d) hr h3 hn hd).1;omega
 ·show q<=_;rcases lv r with rfl|hr
  ·have:40<=EV n:=by unfold EV;rw[jn (by omega)];omega
   omega
  ·have:=(L3 (d:=d) hr h3 hn hd).2;omega
end
end RC
namespace RC
open Go
section
variable {D : List AM} {F : List Ac}
theorem TM (C:CX D F){b:List Int}{rec:XH}{n:Nat}(R:RG b D F rec n){vars:List Int}(hn3:3<=n)(hn:n<=20)(hv:vars.length+3*n<=400){t d0:Int}{r d:Nat}(hr:(Bs D d0).length=r)(hd:r≠0->(n-2) / r=d)(hdn:d+1<=n){M:Nat}(hM:2000000<=M){p:Int}(h0:0<=p)(h1:p+(r*EV d:Nat)<=400000){k0:Nat}{e0:AE}(hk0:en e0<=k0)(he0:An e0):
  Ag (D5 M b F D vars t (n:Int) (Bs D d0) rec M 0 p [e0]) λq=>p<=q.1/\q.1<=p+(r*EV d:Nat)/\q.2.length=r+1/\(∀e∈q.2,An e)/\CK q.2<=k0+r*GK d:=by
 have hr3:=C.UZ d0;have key:∀{N i:Nat},i<=(Bs D d0).length->(Bs D d0).length-i<N->∀(q:Int) (acc:List AE),p<=q->q<=p+(i*EV d:Nat)->acc.length=i+1->(∀e∈acc,An e)->CK acc<=k0+i*GK d->
   Ag (D5 M b F D vars t (n:Int) (Bs D d0) rec N i q acc) λq=>p<=q.1/\q.1<=p+(r*EV d:Nat)/\q.2.length=r+1/\(∀e∈q.2,An e)/\CK q.2<=k0+r*GK d:=by
  intro N i hi hN;refine Bo (Bs D d0).length (λN i=>∀(q:Int) (acc:List AE),p<=q->q<=p+(i*EV d:Nat)->acc.length=i+1->(∀e∈acc,An e)->CK acc<=k0+i*GK d->
   Ag (D5 M b F D vars t (n:Int) (Bs D d0) rec N i q acc) λq=>p<=q.1/\q.1<=p+(r*EV d:Nat)/\q.2.length=r+1/\(∀e∈q.2,An e)/\CK q.2<=k0+r*GK d) ?_ ?_ hi hN
  ·intro m q acc g1 g2 g3 g4 g5;rw[D5,jn (by simp[AN])];subst hr;exact Ag.some ⟨g1,g2,g3,g4,g5⟩
  ·intro m i hi ih q acc g1 g2 g3 g4 g5;obtain⟨c,hc,hcm⟩:=CF hi;obtain⟨cn,rfl,hcn⟩:=P1 _ hcm;obtain⟨fl,e1,e2',_⟩:=C.fields hcn hM;have e2:(i+1)*EV d=i*EV d+EV d:=by rw[kP];omega
   have e3:(i+1)*GK d=i*GK d+GK d:=by rw[kP];omega
   have e4:(i+1)*EV d<=r*EV d:=kS _ (by omega);rw[D5,jm (by rw[jw,AN];omega),BK (n:=(i:Int)+1) (by omega) (by omega),show ((i:Int)+1)=((i+1:Nat):Int) by omega];refine AS (BH hc) (AS e1 (AS (JB (by omega) (by omega)) ?_));rw[AN,BK (n:=(n:Int)-2) (by omega) (by omega),show ((n:Int)-2)=((n-2:Nat):Int) by omega];refine AS (ZI (by omega) (by omega)) ?_;rw[hr,hd (by omega)];refine Ag.bind (R d (vars++fl) t q (by omega) (by omega) (by rw[kD];omega) (by omega) (by omega)) λs hs=>?_;have r1:=hs.lo;have r2:=hs.hi;have r3:=hs.size;refine Ag.app (by simp;omega) (by simp;omega) ?_;refine ih s.2 (acc++[s.1]) (by omega) (by omega) (by simp;omega) (λe he=>?_) (by rw[Ik,HQ];omega);rcases kJ.1 he with h5|h5
   ·exact g4 e h5
   ·rw[jy]at h5;rw[h5];exact hs.CZ
 have:=key (kE _) (by omega:(Bs D d0).length-0<M) p [e0] (by omega) (by omega) rfl (λe he=>by rw[jy]at he;rw[he];exact he0) (by rw[HQ];omega);rw[show ((0:Nat):Int)=0 from rfl]at this;exact this
theorem OW (a r:Nat):a / r*r<=a:=Nat.div_mul_le_self a r
theorem V4 (C:CX D F){b:List Int}(Bb:Bk b){rec:XH}{n:Nat}(R:RG b D F rec n){vars:List Int}(hn3:3<=n)(hn:n<=20)(hv:vars.length+3*n<=400){t:Int}{M:Nat}(hM:2000000<=M){p0 p:Int}(h0:0<=p0)(hp:p0<=p/\p<=p0+1)(h1:p0+(EV n:Int)<=400000):
  Ag (JE M rec b p F D vars t (n:Int)) (GE (GK n) (EV n) p0):=by
 have hpk:=Re n;unfold JE;refine Ag.bind (GY Bb ⟨by omega,by omega⟩ (by simp) (by simp)) λq hq=>?_;have q1:=hq.pos;have q2:=hq.mem;simp only[js,kN,kx]at q2;refine Ag.bind (R:=λd=>0<=d/\d<=4) ?_ λd0 hd0=>?_
 ·refine Ag.bind (R:=λ_=>True) ?_ λt32 _=>Cm (λ_=>Ag.some (by decide)) λ_=>Ag.some (by omega);refine BB (λ_=>Ag.some jf) λ_=>?_;exact AS (JN C.aB) (Ag.some jf)
 refine AS (C.UK hM) ?_;refine Ag.bind (Ly C Bb hM (by omega) d0 (p:=q.2) (by omega) (by omega)) λlf hlf=>?_;have l1:=hlf.lo;have l2:=hlf.hi;have l3:=hlf.size;obtain⟨r,hr⟩ :∃r,(Bs D d0).length=r:=⟨_,rfl⟩
 have hr3:=C.UZ d0;obtain⟨d,hd⟩ :∃d,d=(n-2) / r:=⟨_,rfl⟩
 have hdr:d*r<=n-2:=by rw[hd];exact OW _ _
 have hdn:d<=n-2:=by rw[hd];exact mZ _ _
 have hn1:=RX n;have fit:5+r*GK d<=GK n/\35+r*EV d<=EV n:=by
  rcases lv r with h|h
  ·rw[h];constructor
   ·have:5<=GK n:=by unfold GK;rw[jn (by omega)];omega
    omega
   ·omega
  ·have:=L3 (d:=d) h (by omega) hn3 (by omega);omega
 have:=TM (t:=t) C R hn3 hn hv (r:=r) (d:=d) hr (λ_=>hd.symm) (by omega) hM (p:=lf.2) (by omega) (by omega) (k0:=4) l3 hlf.CZ;refine Ag.bind this ?_;rintro⟨f16,l17⟩ ⟨a1,a2,a3,a4,a5⟩;dsimp only at a1 a2 a3 a4 a5⊢;exact AS rfl (Ag.some ⟨by rw[Gi];omega,Ja (Di (by omega) (by omega)) (Di (by omega) (by omega)) a4 (by omega),by show p0<=f16;omega,by show f16<=_;omega⟩)
theorem Wh (C:CX D F){b:List Int}(Bb:Bk b){rec:XH}{n:Nat}(R:RG b D F rec n){vars:List Int}(hn3:3<=n)(hn:n<=20)(hv:vars.length+3*n<=400){t:Int}{M:Nat}(hM:2000000<=M){p0 p:Int}(h0:0<=p0)(hp:p0<=p/\p<=p0+1)(h1:p0+(EV n:Int)<=400000):
  Ag (JH M rec b p F D vars t (n:Int)) (GE (GK n) (EV n) p0):=by
 have hpk:=Re n;have hn1:=RX n;have hdl:=C.dl;have fit1:5+GK (n-2)<=GK n/\40+EV (n-2)<=EV n:=by
  have:=L3 (r:=1) (d:=n-2) (n:=n) (by omega) (by omega) hn3 (by omega);omega
 unfold JH;refine Ag.cont (R:=GE (GK n) (EV n) p0) (S:=λf=>p0<=f/\f<=p0+2) ?_ (λr hr=>hr) λf3 hf3=>?_
 ·refine Ag.bind (Cc Bb ⟨by omega,by omega⟩) λq34 hq=>?_;have q1:=hq.pos;refine BB (λ_=>?_) λ_=>Ag.some (by show p0<=q34.2/\q34.2<=_;omega);have L1:∀{N i:Nat},i<=5->5-i<N->1<=i->Ag (Ee M b F D vars t (n:Int) q34 rec N i) λv=>match v with|.inl r=>GE (GK n) (EV n) p0 r|.inr _=>True:=by
   intro N i hi hN;refine Bo 5 (λN i=>1<=i->Ag (Ee M b F D vars t (n:Int) q34 rec N i) λv=>match v with|.inl r=>GE (GK n) (EV n) p0 r|.inr _=>True) ?_ ?_ hi hN
   ·intro m _;rw[Ee,jn (by rw[jw,AN];omega)];exact Ag.some jf
   ·intro m i hi ih h1i;rw[Ee];refine BB (λhle=>?_) λ_=>Ag.some jf;rw[AN]at hle;obtain⟨dd,hdd,_⟩:=CF (l:=D) (i:=i-1) (by omega);rw[BK (n:=(i:Int)-1) (by omega) (by omega),show ((i:Int)-1)=((i-1:Nat):Int) by omega,BK (n:=(i:Int)+1) (by omega) (by omega),show ((i:Int)+1)=((i+1:Nat):Int) by omega,BK (n:=(n:Int)-2) (by omega) (by omega),show ((n:Int)-2)=((n-2:Nat):Int) by omega];refine Ag.bind (R:=λ_=>True) ?_ λt45 _=>Cm (λ_=>?_) λ_=>ih (by omega)
    ·refine AS (JN C.aB) (Cm (λ_=>?_) λ_=>Ag.some jf);refine AS (BH hdd) (BB (λ_=>?_) λ_=>Ag.some jf);exact Ag.bind (Ls C (by omega) hM) λ_ _=>Ag.some jf
    ·refine Ag.bind (Ly C Bb hM (by omega) i (p:=q34.2) (by omega) (by omega)) λlf hlf=>?_;have l1:=hlf.lo;have l2:=hlf.hi;have l3:=hlf.size;refine AS (BH hdd) ?_;refine Ag.bind (R (n-2) vars dd.from_ lf.2 (by omega) (by omega) (by omega) (by omega) (by omega)) λs hs=>?_;have r1:=hs.lo;have r2:=hs.hi;have r3:=hs.size;refine AS rfl (Ag.some (show GE (GK n) (EV n) p0 _ from ⟨?_,Ja (Di (by omega) (by omega)) (Di (by omega) (by omega)) (λe he=>?_) (by simp),by show p0<=s.2;omega,by show s.2<=_;omega⟩))
     ·rw[Gi];simp only[CK];omega
     ·simp only[js,kN,kx]at he;rcases he with rfl|rfl
      ·exact hlf.CZ
      ·exact hs.CZ
  have l1:=L1 (N:=M) (i:=1) (by omega) (by omega) (by omega);rw[show ((1:Nat):Int)=1 from rfl]at l1;refine Ag.cont (R:=GE (GK n) (EV n) p0) (S:=λ_=>True) ?_ (λr hr=>hr) λ_ _=>Ag.some (by show p0<=q34.2/\q34.2<=_;omega);exact l1.mono λv hv=>by cases v<;>exact hv
 ·refine AS (C.UK hM) ?_;have hc3:=C.UZ t;have ga:∀(types:List Int) (q:Int) (o m:Int),types.length<=3->p0<=q->q<=p0+10->-1000000<=o/\o<=1000000->-1000000<=m/\m<=1000000->
    Ag ((Fs M rec b q F D vars types (Sh.w ((n:Int)-1))).bind λq15=>(Be o m q15.1).bind λq16=>some (q16,q15.2)) (GE (GK n) (EV n) p0):=by
   intro types q o m ht g1 g2 ho hm;rw[BK (n:=(n:Int)-1) (by omega) (by omega),show ((n:Int)-1)=((n-1:Nat):Int) by omega];obtain⟨d,hd⟩ :∃d,d=(n-1) / types.length:=⟨_,rfl⟩
   have hdr:d*types.length<=n-1:=by rw[hd];exact OW _ _
   have hdn:d<=n-1:=by rw[hd];exact mZ _ _
   have hfit:0<types.length->40+types.length*EV d<=EV n:=λh=>(L3 (d:=d) h ht hn3 hdr).2;have hle:(types.length*EV d:Nat)<=EV n:=by
    rcases lv types.length with h|h
    ·rw[h];omega
    ·have:=hfit h;omega
   have hle2:q+(types.length*EV d:Nat)<=400000:=by
    rcases lv types.length with h|h
    ·rw[h];omega
    ·have:=hfit h;omega
   refine Ag.bind (Tk R ht (bud:=n-1) (by omega) (d:=d) (λ_=>hd.symm) (by omega) (by omega) (by omega) hM (p:=q) (by omega) hle2) ?_;rintro⟨l,q'⟩ g;exact AS rfl (Ag.some (XG (P:=10) ho hm ht hn3 hdr ⟨g1,g2⟩ (by omega) g))
  refine BB (λhpos=>?_) λ_=>?_
  ·rw[AN]at hpos⊢;refine Ag.bind (Cc Bb ⟨by omega,by omega⟩) λq hq=>?_;have q1:=hq.pos;have q2:=hq.nn;have q3:=hq.lt (by omega);refine Ag.get q2 q3 λc12 _ hc12=>?_;obtain⟨c,rfl,hc⟩:=P1 _ hc12;obtain⟨fl,e1,e2,_⟩:=C.fields hc hM;have hnc:=C.gr;exact AS e1 (ga fl q.2 6 c e2 (by omega) (by omega) (by omega) (by omega))
  ·refine BB (λ_=>?_) λ_=>?_
   ·refine Ag.bind (Ly C Bb hM (by omega) t (p:=f3) (by omega) (by omega)) λlf hlf=>Ag.some ⟨by have:=hlf.size;show en lf.1<=_;omega,hlf.CZ,by have:=hlf.lo;show p0<=lf.2;omega,by have:=hlf.hi;show lf.2<=_;omega⟩
   ·refine Ag.bind (Cc Bb ⟨by omega,by omega⟩) λq hq=>?_;have q1:=hq.pos;refine BB (λ_=>ga [0] q.2 5 0 (by simp) (by omega) (by omega) (by omega) (by omega)) λ_=>?_;refine Ag.bind (GY Bb ⟨by omega,by omega⟩ (by simp) (by simp)) λq30 hq30=>?_;have o1:=hq30.pos;have o2:=hq30.mem;simp only[js,kN,kx]at o2;exact ga [0,0] q30.2 q30.1 0 (by simp) (by omega) (by omega) (by omega) (by omega)
theorem Zd (C:CX D F){b:List Int}(Bb:Bk b){rec:XH}{n:Nat}(R:RG b D F rec n){vars:List Int}(hn:n<=20)(hv:vars.length+3*n<=400){t:Int}{M:Nat}(hM:2000000<=M){p:Int}(h0:0<=p)(h1:p+(EV n:Int)<=400000):
  Ag (LF M rec b p F D vars t (n:Int)) (GE (GK n) (EV n) p):=by
 have hpk:=Re n;have hn1:=RX n;unfold LF;refine BB (λ_=>?_) λhn3'=>?_
 ·refine Ag.bind (Ly C Bb hM (by omega) t (p:=p) (by omega) (by omega)) λlf hlf=>Ag.some ⟨by have:=hlf.size;show en lf.1<=_;omega,hlf.CZ,hlf.lo,by have:=hlf.hi;show lf.2<=_;omega⟩
 have hn3:3<=n:=by omega
 refine Ag.cont (R:=GE (GK n) (EV n) p) (S:=λf=>p<=f/\f<=p+1) ?_ (λr hr=>hr) λf8 hf8=>?_
 ·refine Ag.bind (Cc Bb ⟨by omega,by omega⟩) λq hq=>?_;have q1:=hq.pos;refine BB (λ_=>?_) λ_=>?_
  ·refine Ag.bind (Ly C Bb hM (by omega) t (p:=q.2) (by omega) (by omega)) λlf hlf=>Ag.some (show GE (GK n) (EV n) p _ from ⟨by have:=hlf.size;show en lf.1<=_;omega,hlf.CZ,by have:=hlf.lo;show p<=lf.2;omega,by have:=hlf.hi;show lf.2<=_;omega⟩)
  refine Ag.bind (R:=λ_=>True) ?_ λt19 _=>Cm (λ_=>?_) λ_=>?_
  ·exact BB (λ_=>Ag.some jf) λ_=>Ag.some jf
  ·have ed:Int.tdiv (n:Int) 2=((n / 2:Nat):Int):=rfl;have fit:2*GK (n / 2)+1<=GK n/\2*EV (n / 2)+2<=EV n:=by
    have hd0:¬ n / 2=0:=by omega
    have hn0:¬ n=0:=by omega
    unfold GK EV;rw[jn hd0,jn hn0,jn hd0,jn hn0];omega
   rw[ed];have hd:=mZ n 2;have hd2:n / 2+1<=n:=by omega
   generalize n / 2=d at hd hd2 fit⊢;rw[BK (n:=(d:Int)) (by omega) (by omega)];refine Ag.bind (Xu C Bb hM (by omega) (p:=q.2) (by omega) (by omega)) λq23 hq23=>?_;refine Ag.bind (R d vars q23.1 q23.2 (by omega) (by omega) (by omega) (by omega) (by omega)) λs hs=>?_;have r1:=hs.lo;have r2:=hs.hi;have r3:=hs.size;refine AS (JB (by omega) (by simp)) ?_;refine Ag.bind (R d (vars++[q23.1]) t s.2 (by omega) (by omega) (by simp;omega) (by omega) (by omega)) λu hu=>?_;have u1:=hu.lo;have u2:=hu.hi;have u3:=hu.size;refine AS rfl (Ag.some (show GE (GK n) (EV n) p _ from ⟨?_,Ja (Di (by omega) (by omega)) (Di (by omega) (by omega)) (λe he=>?_) (by simp),by show p<=u.2;omega,by show u.2<=_;omega⟩))
   ·rw[Gi];simp only[CK];omega
   ·simp only[js,kN,kx]at he;rcases he with rfl|rfl
    ·exact hs.CZ
    ·exact hu.CZ
  have ga:∀(types:List Int) (q:Int) (o m:Int),types.length<=3->p<=q->q<=p+10->-1000000<=o/\o<=1000000->-1000000<=m/\m<=1000000->
    Ag ((Fs M rec b q F D vars types (Sh.w ((n:Int)-1))).bind λq15=>(Be o m q15.1).bind λq16=>some (Sum.inl (q16,q15.2))) λv:(AE×Int) ⊕ Int=>match v with|.inl r=>GE (GK n) (EV n) p r|.inr f=>p<=f/\f<=p+1:=by
   intro types q o m ht g1 g2 ho hm;rw[BK (n:=(n:Int)-1) (by omega) (by omega),show ((n:Int)-1)=((n-1:Nat):Int) by omega];obtain⟨d,hd⟩ :∃d,d=(n-1) / types.length:=⟨_,rfl⟩
   have hdr:d*types.length<=n-1:=by rw[hd];exact OW _ _
   have hdn:d<=n-1:=by rw[hd];exact mZ _ _
   have hfit:0<types.length->40+types.length*EV d<=EV n:=λh=>(L3 (d:=d) h ht hn3 hdr).2;have hle2:q+(types.length*EV d:Nat)<=400000:=by
    rcases lv types.length with h|h
    ·rw[h];omega
    ·have:=hfit h;omega
   refine Ag.bind (Tk R ht (bud:=n-1) (by omega) (d:=d) (λ_=>hd.symm) (by omega) (by omega) (by omega) hM (p:=q) (by omega) hle2) ?_;rintro⟨l,q'⟩ g;exact AS rfl (Ag.some (XG (P:=10) ho hm ht hn3 hdr ⟨g1,g2⟩ (by omega) g))
  refine BB (λ_=>(ga [0,t,t] q.2 7 0 (by simp) (by omega) (by omega) (by omega) (by omega)).mono λv hv=>by cases v<;>exact hv) λ_=>?_;refine Ag.bind (R:=λ_=>True) ?_ λt35 _=>Cm (λ_=>?_) λ_=>?_
  ·exact BB (λ_=>Ag.some jf) λ_=>BB (λ_=>Ag.some jf) λ_=>Ag.some jf
  ·exact Ag.bind (V4 C Bb R hn3 hn hv hM h0 (p:=q.2) (by omega) h1) λr hr=>Ag.some (show GE (GK n) (EV n) p _ from hr)
  refine Ag.bind (R:=λ_=>True) ?_ λt41 _=>Cm (λ_=>?_) λ_=>Ag.some (by show p<=q.2/\q.2<=_;omega)
  ·exact BB (λ_=>Ag.some jf) λ_=>Ag.some jf
  refine Ag.bind (Wp C hM) λl hl=>?_;refine BB (λhpos=>?_) λ_=>Ag.some (by show p<=q.2/\q.2<=_;omega);rw[AN]at hpos⊢;refine Ag.bind (Cc Bb ⟨by omega,by omega⟩) λq49 hq49=>?_;have a1:=hq49.pos;have a2:=hq49.nn;have a3:=hq49.lt (by omega);refine Ag.get a2 a3 λc50 _ hc50=>?_;obtain⟨b0,b1⟩:=hl.2 c50 hc50;refine Ag.get b0 b1 λg _ hg=>?_;have hF:=C.fl;exact (ga g.params q49.2 9 c50 (C.par g hg) (by omega) (by omega) (by omega) (by omega)).mono λv hv=>by cases v<;>exact hv
 ·exact Ag.bind (Wh C Bb R hn3 hn hv hM h0 hf8 h1) λr hr=>Ag.some hr
theorem VL (C:CX D F){b:List Int}(Bb:Bk b){M:Nat}(hM:2000000<=M):∀n:Nat,RG b D F (JD M n) n
 | 0=>λd _ _ _ hd=>absurd hd (by omega)
 | n+1=>λd vars t p hd h20 hv h0 h1=>by
  rw[JD];have R:RG b D F (JD M n) d:=λd' vars' t' p' hd'=>VL C Bb hM n d' vars' t' p' (by omega);exact Zd C Bb R h20 hv hM h0 h1
theorem JF (C:CX D F){b:List Int}(Bb:Bk b){M:Nat}(hM:2000000<=M){d:Nat}(hd:d<=20){vars:List Int}(hv:vars.length<=100)(t:Int){p:Int}(h0:0<=p)(h1:p<=300000):Ag (Gt M b p F D vars t (d:Int)) (GE (GK d) (EV d) p):=by
 have:=fL hd;exact VL C Bb hM M d vars t p (by omega) hd (by omega) h0 (by omega)
end
end RC
namespace RC
open Go
section
variable {D : List AM} {F : List Ac}
structure GQ (k P:Nat) (p:Int) (q:Int×Int×Int×List AE):Prop where
 size:en ⟨q.2.1,q.2.2.1,q.2.2.2⟩<=k
 CZ:An ⟨q.2.1,q.2.2.1,q.2.2.2⟩
 lo:p<=q.1
 hi:q.1<=p+P
theorem GE.parts {k P:Nat}{p:Int}{q:AE×Int}(h:GE k P p q):GQ k P p (q.2,q.1.op,q.1.num,q.1.kids):=by
 obtain⟨e,f⟩:=q;cases e;exact⟨h.size,h.CZ,h.lo,h.hi⟩
theorem Uy (o n:Int)(a b:AE):en ⟨o,n,[a,b]⟩=1+en a+en b:=by rw[Gi];simp only[CK];omega
theorem cY (o n:Int)(a b c:AE):en ⟨o,n,[a,b,c]⟩=1+en a+en b+en c:=by rw[Gi];simp only[CK];omega
theorem Kq (o n:Int):en ⟨o,n,[]⟩=1:=by rw[Gi];simp[CK]
theorem Vn {o n:Int}{a b:AE}(ho:-1000000<=o/\o<=1000000)(hn:-1000000<=n/\n<=1000000)(ha:An a)(hb:An b):An ⟨o,n,[a,b]⟩:=
 Ja (Di ho.1 ho.2) (Di hn.1 hn.2) (λe he=>by simp only[js,kN,kx]at he;rcases he with rfl|rfl<;>assumption) (by simp)
theorem bz {o n:Int}{a b c:AE}(ho:-1000000<=o/\o<=1000000)(hn:-1000000<=n/\n<=1000000)(ha:An a)(hb:An b)(hc:An c):An ⟨o,n,[a,b,c]⟩:=
 Ja (Di ho.1 ho.2) (Di hn.1 hn.2) (λe he=>by simp only[js,kN,kx]at he;rcases he with rfl|rfl|rfl<;>assumption) (by simp)
theorem iU {o n:Int}{a:AE}(ho:-1000000<=o/\o<=1000000)(hn:-1000000<=n/\n<=1000000)(ha:An a):An ⟨o,n,[a]⟩:=
 Ja (Di ho.1 ho.2) (Di hn.1 hn.2) (λe he=>by rw[jy]at he;rw[he];exact ha) (by simp)
theorem X9 {b:List Int}(Bb:Bk b){M:Nat}(hM:2000000<=M)(t:Int){p:Int}(h0:0<=p)(h1:p<=500000):Ag (Jm M b p t) (GE 20 20 p):=by
 unfold Jm;have li:∀n:Int,0<=n->n<=100->An ⟨0,n,[]⟩:=λn a c=>Fm ⟨by omega,by omega⟩ ⟨by omega,by omega⟩;refine AS rfl ?_;refine BB (λ_=>?_) λ_=>?_
 ·refine AS rfl ?_;refine Ag.bind (Cc Bb ⟨by omega,by omega⟩) λq hq=>?_;have q1:=hq.pos;have q2:=hq.nn;have q3:=hq.lt (by omega);refine AS rfl (AS rfl ?_);refine Ag.bind (Cc Bb ⟨by omega,by omega⟩) λs hs=>?_;have s1:=hs.pos;have s2:=hs.nn;have s3:=hs.lt (by omega);have l6:An ⟨6,2,[]⟩:=Fm ⟨by omega,by omega⟩ ⟨by omega,by omega⟩;refine AS rfl (AS rfl (Ag.some ⟨?_,?_,by show p<=s.2;omega,by show s.2<=_;omega⟩))
  ·rw[cY,cY,Kq,Kq,Kq];omega
  ·exact bz ⟨by omega,by omega⟩ ⟨by omega,by omega⟩ (bz ⟨by omega,by omega⟩ ⟨by omega,by omega⟩ l6 (li _ q2 (by omega)) l6) (li _ s2 (by omega)) l6
 ·refine Ag.bind (Cc Bb ⟨by omega,by omega⟩) λq hq=>?_;have q1:=hq.pos;have q2:=hq.nn;have q3:=hq.lt (by omega);have key:∀(n:Nat) (N:Nat) (f o m:Int) (k:List AE),n<N->n<=3->p<=f->f+4*n<=p+13->An ⟨o,m,k⟩->en ⟨o,m,k⟩+2*n<=7->Ag (FY b N n f o m k) (GQ 20 20 p):=by
   intro n
   induction n with
   | zero=>
    intro N f o m k hN _ g1 g2 g3 g4;obtain⟨N,rfl⟩ :∃m,N=m+1:=⟨N-1,by omega⟩
    rw[FY,jn (by simp)];exact Ag.some ⟨by show en ⟨o,m,k⟩<=20;omega,g3,g1,by show f<=_;omega⟩
   | succ n ih=>
    intro N f o m k hN hn g1 g2 g3 g4;obtain⟨N,rfl⟩ :∃m,N=m+1:=⟨N-1,by omega⟩
    rw[FY,jm (by rw[jw];omega)];refine Ag.bind (OK Bb (by omega) (by omega)) λs hs=>?_;refine AS rfl (AS rfl ?_);rw[BK (by omega) (by omega),show (((n+1:Nat):Int)-1)=(n:Int) by omega];refine ih N s.2 6 1 _ (by omega) (by omega) (by omega) (by omega) (Vn ⟨by omega,by omega⟩ ⟨by omega,by omega⟩ (Fm ⟨by omega,by omega⟩ ⟨by omega,by omega⟩) g3) ?_;show en ⟨6,1,[⟨0,s.1,[]⟩,⟨o,m,k⟩]⟩+2*n<=7;rw[Uy,Kq];omega
  obtain⟨n,hn⟩:=kZ q2;have h3:=key (n+1) M q.2 6 0 [] (by omega) (by omega) (by omega) (by omega) (Fm ⟨by omega,by omega⟩ ⟨by omega,by omega⟩) (by rw[Kq];omega);rw[BK (by omega) (by omega),hn,show (1+(n:Int))=((n+1:Nat):Int) by omega];refine Ag.bind h3 ?_;rintro⟨f,o,m,k⟩ g;exact Ag.some ⟨g.size,g.CZ,g.lo,g.hi⟩
theorem Ys:GK 4=31:=rfl
theorem Zb:EV 4=275:=rfl
theorem jb:GK 3=22:=rfl
theorem jL:EV 3=195:=rfl
theorem fw:GK 16=139:=rfl
theorem jE:EV 16=1235:=rfl
theorem WA (C:CX D F){b:List Int}(Bb:Bk b){M:Nat}(hM:2000000<=M){p:Int}(h0:0<=p)(h1:p<=200000):Ag (I5 M b p F D) (GE 1000 3000 p):=by
 unfold I5;refine Ag.bind (GY Bb ⟨by omega,by omega⟩ (by simp) (by simp)) λq hq=>?_;have q1:=hq.pos;refine Ag.bind (JF C Bb hM (d:=16) (by omega) (vars:=[q.1]) (by simp) 0 (p:=q.2) (by omega) (by omega)) λg hg=>?_;have g1:=hg.size;have g2:=hg.lo;have g3:=hg.hi;rw[fw]at g1;rw[jE]at g3;refine Ag.bind (R:=GQ 141 2000 p) ?_ ?_
 ·refine Ag.bind (Cc Bb ⟨by omega,by omega⟩) λs hs=>?_;have s1:=hs.pos;refine BB (λ_=>AS rfl (Ag.some ?_)) λ_=>Ag.some ?_
  ·refine⟨?_,(iU ⟨by omega,by omega⟩ ⟨by omega,by omega⟩ hg.CZ:An ⟨5,0,[g.1]⟩),by show p<=s.2;omega,by show s.2<=_;omega⟩;show en ⟨5,0,[g.1]⟩<=_;rw[Gi,HQ];omega
  ·have:=hg.parts;exact⟨by have:=this.size;rw[fw]at this;dsimp only at this⊢;omega,this.CZ,by show p<=s.2;omega,by show s.2<=_;omega⟩
 ·rintro⟨f,o,m,k⟩ g;have a1:=g.size;have a2:=g.lo;have a3:=g.hi;have a4:=g.CZ;dsimp only at a1 a2 a3 a4⊢;refine Ag.bind (X9 Bb hM q.1 (p:=f) (by omega) (by omega)) λl hl=>?_;have l1:=hl.size;have l2:=hl.lo;have l3:=hl.hi;refine AS rfl (Ag.some ⟨by rw[Uy];omega,Vn ⟨by omega,by omega⟩ ⟨by omega,by omega⟩ hl.CZ a4,by show p<=l.2;omega,by show l.2<=_;omega⟩)
theorem We (C:CX D F){b:List Int}(Bb:Bk b){M:Nat}(hM:2000000<=M){f:Nat}(hf:f<F.length){a:Nat}(ha:a<=3){p:Int}(h0:0<=p)(h1:p<=200000):Ag (I6 M b p F D f a) (GE 1000 3000 p):=by
 have hfl:=C.fl;obtain⟨g,hg,hgm⟩:=CF hf;have hp3:=C.par g hgm;unfold I6;refine AS (BH hg) (AS (JB (by omega) (by simp)) ?_);have key:∀{N i:Nat},i<=g.params.length->g.params.length-i<N->∀(q:Int) (acc:List AE),p<=q->q<=p+i->acc.length=i->(∀e∈acc,An e)->CK acc<=3*i->
   Ag (Ed g b a N i q acc) λr=>p<=r.1/\r.1<=p+3/\r.2.length<=3/\(∀e∈r.2,An e)/\CK r.2<=9:=by
  intro N i hi hN;refine Bo g.params.length (λN i=>∀(q:Int) (acc:List AE),p<=q->q<=p+i->acc.length=i->(∀e∈acc,An e)->CK acc<=3*i->
   Ag (Ed g b a N i q acc) λr=>p<=r.1/\r.1<=p+3/\r.2.length<=3/\(∀e∈r.2,An e)/\CK r.2<=9) ?_ ?_ hi hN
  ·intro n q acc g1 g2 g3 g4 g5;rw[Ed,jn (by simp[AN])];exact Ag.some ⟨g1,by show q<=_;omega,by show acc.length<=3;omega,g4,by show CK acc<=9;omega⟩
  ·intro n i hi ih q acc g1 g2 g3 g4 g5;obtain⟨t,ht,_⟩:=CF hi;rw[Ed,jm (by rw[jw,AN];omega),BK (n:=(i:Int)+1) (by omega) (by omega),show ((i:Int)+1)=((i+1:Nat):Int) by omega,AN];have ap:∀{e:AE} {s:Int},An e->en e<=3->p<=s->s<=p+(i+1:Nat)->Ag ((Sh.app acc [e] 40).bind λl68=>some (s,l68)) λr:Int×List AE=>p<=r.1/\r.1<=p+(i+1:Nat)/\r.2.length=i+1/\(∀e∈r.2,An e)/\CK r.2<=3*(i+1):=λhe h3 hs1 hs2=>
    Ag.app (by simp;omega) (by simp;omega) (Ag.some ⟨hs1,hs2,by simp;omega,λx hx=>by
     rcases kJ.1 hx with h5|h5
     ·exact g4 x h5
     ·rw[jy]at h5;rw[h5];exact he,by show CK (acc++_)<=_;rw[Ik,HQ];omega⟩)
   have vi:∀{n:Int},0<=n->n<=100->An ⟨12,n,[]⟩:=λa c=>Fm ⟨by omega,by omega⟩ ⟨by omega,by omega⟩;refine Ag.bind (R:=λr:Int×List AE=>p<=r.1/\r.1<=p+(i+1:Nat)/\r.2.length=i+1/\(∀e∈r.2,An e)/\CK r.2<=3*(i+1)) ?_ λr hr=>ih r.1 r.2 hr.1 hr.2.1 hr.2.2.1 hr.2.2.2.1 hr.2.2.2.2;refine BB (λ_=>?_) λ_=>?_
   ·rw[BK (n:=(g.params.length:Int)+1) (by omega) (by omega)];exact AS rfl (ap (vi (by omega) (by omega)) (by rw[Kq];omega) g1 (by omega))
   ·refine Ag.bind (R:=λr:Bool×Int=>p<=r.2/\r.2<=p+(i+1:Nat)) ?_ ?_
    ·refine AS (BH ht) (BB (λ_=>?_) λ_=>Ag.some (by show p<=q/\q<=_;omega));exact Ag.bind (Cc Bb ⟨by omega,by omega⟩) λs hs=>Ag.some (by have:=hs.pos;show p<=s.2/\s.2<=_;omega)
    ·rintro⟨t70,f71⟩ ⟨a1,a2⟩;dsimp only at a1 a2⊢;refine Cm (λ_=>?_) λ_=>?_
     ·exact AS rfl (AS rfl (AS rfl (ap (Vn ⟨by omega,by omega⟩ ⟨by omega,by omega⟩ (vi (by omega) (by omega)) (vi (by omega) (by omega))) (by rw[Uy,Kq,Kq];omega) a1 a2)))
     ·exact AS rfl (ap (vi (by omega) (by omega)) (by rw[Kq];omega) a1 a2)
 have k:=key (kE _) (by omega:g.params.length-0<M) p [] (by omega) (by omega) rfl (by simp) (by simp[CK]);rw[show ((0:Nat):Int)=0 from rfl]at k;refine Ag.bind k ?_;rintro⟨f13,l14⟩ ⟨a1,a2,a3,a4,a5⟩;dsimp only at a1 a2 a3 a4 a5⊢;have again:An ⟨9,f,l14⟩:=Ja (Di (by omega) (by omega)) (Di (by omega) (by omega)) a4 (by omega);have ea:en ⟨9,(f:Int),l14⟩<=10:=by rw[Gi];omega
 refine AS rfl ?_;have hvl:(g.params++[(0:Int),1]).length<=100:=by simp;omega
 refine Ag.bind (R:=GQ 200 1000 p) ?_ ?_
 ·refine Ag.bind (R:=λr:Bool×Int=>p<=r.2/\r.2<=p+4) ?_ ?_
  ·refine BB (λ_=>?_) λ_=>Ag.some (by show p<=f13/\f13<=_;omega);exact Ag.bind (Cc Bb ⟨by omega,by omega⟩) λs hs=>Ag.some (by have:=hs.pos;show p<=s.2/\s.2<=_;omega)
  ·rintro⟨t30,f31⟩ ⟨b1,b2⟩;dsimp only at b1 b2⊢;refine Cm (λ_=>?_) λ_=>?_
   ·refine Ag.bind (JF C Bb hM (d:=4) (by omega) hvl 0 (p:=f31) (by omega) (by omega)) λq35 hq=>?_;have c1:=hq.size;have c2:=hq.lo;have c3:=hq.hi;rw[Ys]at c1;rw[Zb]at c3;refine Ag.bind (R:=λr:Int×Int×List AE=>en ⟨r.1,r.2.1,r.2.2⟩<=31/\An ⟨r.1,r.2.1,r.2.2⟩) ?_ ?_
    ·refine Ag.bind (R:=λ_=>True) ?_ λt43 _=>Cm (λ_=>?_) λ_=>Ag.some ?_
     ·refine BB (λh=>?_) λ_=>Ag.some jf;rw[AN]at h;exact Ag.get (by omega) (by omega) λ_ _ _=>Ag.some jf
     ·rw[AN];refine AS rfl (AS rfl (AS rfl (Ag.some ⟨?_,?_⟩)))
      ·show en ⟨11,0,[⟨12,0,[]⟩,⟨12,(g.params.length:Int),[]⟩]⟩<=31;rw[Uy,Kq,Kq];omega
      ·exact (Vn ⟨by omega,by omega⟩ ⟨by omega,by omega⟩ (Fm ⟨by omega,by omega⟩ ⟨by omega,by omega⟩) (Fm ⟨by omega,by omega⟩ ⟨by omega,by omega⟩):An ⟨11,0,[⟨12,0,[]⟩,⟨12,(g.params.length:Int),[]⟩]⟩)
     ·have:=hq.parts;exact⟨by have:=this.size;dsimp only at this⊢;rw[Ys]at this;exact this,this.CZ⟩
    ·rintro⟨f37,f38,f39⟩ ⟨d1,d2⟩;dsimp only at d1 d2⊢;refine AS rfl (Ag.some ⟨?_,(Vn ⟨by omega,by omega⟩ ⟨by omega,by omega⟩ d2 again:An ⟨6,1,[⟨f37,f38,f39⟩,⟨9,(f:Int),l14⟩]⟩),by show p<=q35.2;omega,by show q35.2<=_;omega⟩);show en ⟨6,1,[⟨f37,f38,f39⟩,⟨9,(f:Int),l14⟩]⟩<=200;rw[Uy];omega
   ·refine BB (λ_=>?_) λ_=>Ag.some ⟨by show en ⟨9,(f:Int),l14⟩<=200;omega,again,by show p<=f31;omega,by show f31<=_;omega⟩;refine Ag.bind (GY Bb ⟨by omega,by omega⟩ (by simp) (by simp)) λq53 hq53=>?_;have o1:=hq53.pos;have o2:=hq53.mem;simp only[js,kN,kx]at o2;refine Ag.bind (JF C Bb hM (d:=4) (by omega) hvl 0 (p:=q53.2) (by omega) (by omega)) λq54 hq=>?_;have c1:=hq.size;have c2:=hq.lo;have c3:=hq.hi;rw[Ys]at c1;rw[Zb]at c3;refine AS rfl (Ag.some ⟨?_,(Vn ⟨by omega,by omega⟩ ⟨by omega,by omega⟩ hq.CZ again:An ⟨q53.1,0,[q54.1,⟨9,(f:Int),l14⟩]⟩),by show p<=q54.2;omega,by show q54.2<=_;omega⟩);show en ⟨q53.1,0,[q54.1,⟨9,(f:Int),l14⟩]⟩<=200;rw[Uy];omega
 ·rintro⟨f20,o,m,k⟩ g20;have b1:=g20.size;have b2:=g20.lo;have b3:=g20.hi;have b4:=g20.CZ;dsimp only at b1 b2 b3 b4⊢;refine AS rfl ?_;refine Ag.bind (JF C Bb hM (d:=4) (by omega) (vars:=g.params) (by omega) g.result (p:=f20) (by omega) (by omega)) λq hq=>?_;have c1:=hq.size;have c2:=hq.lo;have c3:=hq.hi;rw[Ys]at c1;rw[Zb]at c3;refine AS rfl (Ag.some ⟨by rw[cY,Kq];omega,bz ⟨by omega,by omega⟩ ⟨by omega,by omega⟩ (Fm ⟨by omega,by omega⟩ ⟨by omega,by omega⟩) hq.CZ b4,by show p<=q.2;omega,by show q.2<=_;omega⟩)
end
end RC
namespace RC
open Go
section
variable {D : List AM} {F : List Ac}
theorem V7 (C:CX D F){b:List Int}(Bb:Bk b){M:Nat}(hM:2000000<=M){f:Nat}(hf:f<F.length){g:Ac}(hg:F[f]?=some g)(hg1:0<g.params.length){p:Int}(h0:0<=p)(h1:p<=200000):Ag (I2 M b p F D f) (GE 1000 3000 p):=by
 have hfl:=C.fl;have hgm:=je hg;have hp3:=C.par g hgm;unfold I2;have vi:∀{n:Int},0<=n->n<=100->An ⟨12,n,[]⟩:=λa c=>Fm ⟨by omega,by omega⟩ ⟨by omega,by omega⟩;refine AS (BH hg) ?_;rw[AN,BK (n:=(g.params.length:Int)+2) (by omega) (by omega)];refine AS rfl (AS rfl ?_);have key:∀{N i:Nat},i<=g.params.length->g.params.length-i<N->∀(x y:List AE),x.length=i->y.length=i->(∀e∈x,An e)->(∀e∈y,An e)->CK x<=i->CK y<=i->
   Ag (Ef g N i x y) λr=>r.1.length<=3/\r.2.length<=3/\(∀e∈r.1,An e)/\(∀e∈r.2,An e)/\CK r.1<=3/\CK r.2<=3:=by
  intro N i hi hN;refine Bo g.params.length (λN i=>∀(x y:List AE),x.length=i->y.length=i->(∀e∈x,An e)->(∀e∈y,An e)->CK x<=i->CK y<=i->
   Ag (Ef g N i x y) λr=>r.1.length<=3/\r.2.length<=3/\(∀e∈r.1,An e)/\(∀e∈r.2,An e)/\CK r.1<=3/\CK r.2<=3) ?_ ?_ hi hN
  ·intro n x y g1 g2 g3 g4 g5 g6;rw[Ef,jn (by simp[AN])];exact Ag.some ⟨by show x.length<=3;omega,by show y.length<=3;omega,g3,g4,by show CK x<=3;omega,by show CK y<=3;omega⟩
  ·intro n i hi ih x y g1 g2 g3 g4 g5 g6;rw[Ef,jm (by rw[jw,AN];omega),BK (n:=(i:Int)+1) (by omega) (by omega),show ((i:Int)+1)=((i+1:Nat):Int) by omega];have hm:∀(l:List AE),(∀e∈l,An e)->∀e∈l++[AE.mk 12 (i:Int) []],An e:=λl hl e he=>by
    rcases kJ.1 he with h5|h5
    ·exact hl e h5
    ·rw[jy]at h5;rw[h5];exact vi (by omega) (by omega)
   refine AS rfl (Ag.app (by simp;omega) (by simp;omega) (AS rfl (Ag.app (by simp;omega) (by simp;omega) ?_)));exact ih _ _ (by simp;omega) (by simp;omega) (hm x g3) (hm y g4) (by rw[Ik,HQ,Kq];omega) (by rw[Ik,HQ,Kq];omega)
 have k:=key (i:=1) (by omega) (by omega:g.params.length-1<M) [⟨12,(g.params.length:Int),[]⟩] [⟨12,(g.params.length:Int)+2,[]⟩] rfl rfl
  (λe he=>by rw[jy]at he;rw[he];exact vi (by omega) (by omega)) (λe he=>by rw[jy]at he;rw[he];exact vi (by omega) (by omega)) (by rw[HQ,Kq];omega) (by rw[HQ,Kq];omega)
 rw[show ((1:Nat):Int)=1 from rfl]at k;refine Ag.bind k ?_;rintro⟨l14,l15⟩ ⟨a1,a2,a3,a4,a5,a6⟩;dsimp only at a1 a2 a3 a4 a5 a6⊢;have i18:An ⟨9,f,l14⟩:=Ja (Di (by omega) (by omega)) (Di (by omega) (by omega)) a3 (by omega);have i20:An ⟨9,f,l15⟩:=Ja (Di (by omega) (by omega)) (Di (by omega) (by omega)) a4 (by omega);have e18:en ⟨9,(f:Int),l14⟩<=4:=by rw[Gi];omega
 have e20:en ⟨9,(f:Int),l15⟩<=4:=by rw[Gi];omega
 have hvl:(g.params++[(3:Int),0,3]).length<=100:=by simp;omega
 refine AS rfl (AS rfl (AS (JB (by omega) (by simp)) ?_));refine Ag.bind (JF C Bb hM (d:=4) (by omega) hvl 0 (p:=p) (by omega) (by omega)) λq23 hq=>?_;have c1:=hq.size;have c2:=hq.lo;have c3:=hq.hi;rw[Ys]at c1;rw[Zb]at c3;refine AS rfl (AS rfl ?_);refine Ag.bind (R:=GQ 200 1000 p) ?_ ?_
 ·refine BB (λ_=>?_) λ_=>Ag.some ⟨?_,(Vn ⟨by omega,by omega⟩ ⟨by omega,by omega⟩ i18 (Vn ⟨by omega,by omega⟩ ⟨by omega,by omega⟩ hq.CZ i20):An ⟨1,0,[⟨9,(f:Int),l14⟩,⟨1,0,[q23.1,⟨9,(f:Int),l15⟩]⟩]⟩),by show p<=q23.2;omega,by show q23.2<=_;omega⟩
  ·refine AS (JB (by omega) (by simp)) ?_;refine Ag.bind (JF C Bb hM (d:=4) (by omega) hvl 0 (p:=q23.2) (by omega) (by omega)) λq39 hq2=>?_;have d1:=hq2.size;have d2:=hq2.lo;have d3:=hq2.hi;rw[Ys]at d1;rw[Zb]at d3;refine AS rfl (AS rfl (Ag.some ⟨?_,(bz ⟨by omega,by omega⟩ ⟨by omega,by omega⟩ i18 hq2.CZ (vi (by omega) (by omega)):An ⟨6,3,[⟨9,(f:Int),l14⟩,q39.1,⟨12,(g.params.length:Int)+2,[]⟩]⟩),by show p<=q39.2;omega,by show q39.2<=_;omega⟩));show en ⟨6,3,[⟨9,(f:Int),l14⟩,q39.1,⟨12,(g.params.length:Int)+2,[]⟩]⟩<=200;rw[cY,Kq];omega
  ·show en ⟨1,0,[⟨9,(f:Int),l14⟩,⟨1,0,[q23.1,⟨9,(f:Int),l15⟩]⟩]⟩<=200;rw[Uy,Uy];omega
 ·rintro⟨f20,o,m,k⟩ g20;have b1:=g20.size;have b2:=g20.lo;have b3:=g20.hi;have b4:=g20.CZ;dsimp only at b1 b2 b3 b4⊢;refine AS rfl ?_;refine Ag.bind (JF C Bb hM (d:=4) (by omega) (vars:=g.params) (by omega) g.result (p:=f20) (by omega) (by omega)) λq hq=>?_;have c1:=hq.size;have c2:=hq.lo;have c3:=hq.hi;rw[Ys]at c1;rw[Zb]at c3;refine AS rfl (Ag.some ⟨by rw[cY,Kq];omega,bz ⟨by omega,by omega⟩ ⟨by omega,by omega⟩ (vi (by omega) (by omega)) hq.CZ b4,by show p<=q.2;omega,by show q.2<=_;omega⟩)
theorem WL (C:CX D F){b:List Int}(Bb:Bk b){M:Nat}(hM:2000000<=M){f:Nat}(hf:f<F.length){g:Ac}(hg:F[f]?=some g)(hg1:0<g.params.length){p:Int}(h0:0<=p)(h1:p<=200000):Ag (JA M b p F D f) (GE 1000 3000 p):=by
 have hfl:=C.fl;have hgm:=je hg;have hp3:=C.par g hgm;unfold JA;have vi:∀{n:Int},0<=n->n<=100->An ⟨12,n,[]⟩:=λa c=>Fm ⟨by omega,by omega⟩ ⟨by omega,by omega⟩;have li:∀{n:Int},0<=n->n<=100->An ⟨0,n,[]⟩:=λa c=>Fm ⟨by omega,by omega⟩ ⟨by omega,by omega⟩;refine AS (BH hg) (AS rfl (AS rfl (AS rfl ?_)));have key:∀{N i:Nat},i<=g.params.length->g.params.length-i<N->∀(q:Int) (acc:List AE),p<=q->q<=p+30*i->acc.length=i->(∀e∈acc,An e)->CK acc<=4*i->
   Ag (Eh M g b F D N i q acc) λr=>p<=r.1/\r.1<=p+90/\r.2.length<=3/\(∀e∈r.2,An e)/\CK r.2<=12:=by
  intro N i hi hN;refine Bo g.params.length (λN i=>∀(q:Int) (acc:List AE),p<=q->q<=p+30*i->acc.length=i->(∀e∈acc,An e)->CK acc<=4*i->
   Ag (Eh M g b F D N i q acc) λr=>p<=r.1/\r.1<=p+90/\r.2.length<=3/\(∀e∈r.2,An e)/\CK r.2<=12) ?_ ?_ hi hN
  ·intro n q acc g1 g2 g3 g4 g5;rw[Eh,jn (by simp[AN])];exact Ag.some ⟨g1,by show q<=_;omega,by show acc.length<=3;omega,g4,by show CK acc<=12;omega⟩
  ·intro n i hi ih q acc g1 g2 g3 g4 g5;obtain⟨t,ht,_⟩:=CF hi;rw[Eh,jm (by rw[jw,AN];omega),BK (n:=(i:Int)+1) (by omega) (by omega),show ((i:Int)+1)=((i+1:Nat):Int) by omega];refine AS (BH ht) ?_;refine Ag.bind (Ly C Bb hM (by omega) t (p:=q) (by omega) (by omega)) λs hs=>?_;have s1:=hs.size;have s2:=hs.lo;have s3:=hs.hi;refine Ag.app (by simp;omega) (by simp;omega) ?_;refine ih s.2 (acc++[s.1]) (by omega) (by omega) (by simp;omega) (λe he=>?_) (by rw[Ik,HQ];omega);rcases kJ.1 he with h5|h5
   ·exact g4 e h5
   ·rw[jy]at h5;rw[h5];exact hs.CZ
 have k:=key (i:=1) (by omega) (by omega:g.params.length-1<M) p [⟨2,0,[⟨12,0,[]⟩,⟨0,1,[]⟩]⟩] (by omega) (by omega) rfl (λe he=>by rw[jy]at he;rw[he];exact Vn ⟨by omega,by omega⟩ ⟨by omega,by omega⟩ (vi (by omega) (by omega)) (li (by omega) (by omega))) (by rw[HQ,Uy,Kq,Kq];omega);rw[show ((1:Nat):Int)=1 from rfl]at k;refine Ag.bind k ?_;rintro⟨f13,l14⟩ ⟨a1,a2,a3,a4,a5⟩;dsimp only at a1 a2 a3 a4 a5⊢;have again:An ⟨9,f,l14⟩:=Ja (Di (by omega) (by omega)) (Di (by omega) (by omega)) a4 (by omega);have ea:en ⟨9,(f:Int),l14⟩<=13:=by rw[Gi];omega
 refine AS rfl ?_;refine Ag.bind (R:=GQ 200 1000 p) ?_ ?_
 ·refine BB (λ_=>?_) λ_=>Ag.some ⟨by show en ⟨9,(f:Int),l14⟩<=200;omega,again,by show p<=f13;omega,by show f13<=_;omega⟩;refine Ag.bind (JF C Bb hM (d:=3) (by omega) (vars:=g.params) (by omega) 0 (p:=f13) (by omega) (by omega)) λq33 hq=>?_;have c1:=hq.size;have c2:=hq.lo;have c3:=hq.hi;rw[jb]at c1;rw[jL]at c3;refine AS rfl (Ag.some ⟨?_,(Vn ⟨by omega,by omega⟩ ⟨by omega,by omega⟩ hq.CZ again:An ⟨6,1,[q33.1,⟨9,(f:Int),l14⟩]⟩),by show p<=q33.2;omega,by show q33.2<=_;omega⟩);show en ⟨6,1,[q33.1,⟨9,(f:Int),l14⟩]⟩<=200;rw[Uy];omega
 ·rintro⟨f20,o,m,k⟩ g20;have b1:=g20.size;have b2:=g20.lo;have b3:=g20.hi;have b4:=g20.CZ;dsimp only at b1 b2 b3 b4⊢;refine AS rfl (AS rfl (AS rfl ?_));refine Ag.bind (JF C Bb hM (d:=4) (by omega) (vars:=g.params) (by omega) g.result (p:=f20) (by omega) (by omega)) λq hq=>?_;have c1:=hq.size;have c2:=hq.lo;have c3:=hq.hi;rw[Ys]at c1;rw[Zb]at c3;refine AS rfl (Ag.some ⟨by rw[cY,Uy,Kq,Kq];omega,bz ⟨by omega,by omega⟩ ⟨by omega,by omega⟩ (Vn ⟨by omega,by omega⟩ ⟨by omega,by omega⟩ (li (by omega) (by omega)) (vi (by omega) (by omega))) b4 hq.CZ,by show p<=q.2;omega,by show q.2<=_;omega⟩)
theorem Rk (C:CX D F){b:List Int}(Bb:Bk b){M:Nat}(hM:2000000<=M){vars:List Int}(hv:vars.length<=100)(t:Int){B:Nat}(hB:B<=18){p:Int}(h0:0<=p)(h1:p<=200000):Ag (Ia M b p F D vars t (B:Int)) (GE 200 3000 p):=by
 have szle:∀d,d<=18->GK d<=157:=λd h=>by unfold GK;split<;>omega
 have pkle:∀d,d<=18->EV d<=1395:=λd h=>by unfold EV;split<;>omega
 have key:∀(B N:Nat) (f o m:Int) (k:List AE),B<N->B<=18->p<=f->f+80*B<=p+2900->An ⟨o,m,k⟩->en ⟨o,m,k⟩<=200->Ag (F7 M b F D vars t N B f o m k) (GQ 200 3000 p):=by
  intro B
  induction B using Nat.strongRecOn with
  | _ B ih=>
   intro N f o m k hN hB g1 g2 g3 g4;obtain⟨N,rfl⟩ :∃m,N=m+1:=⟨N-1,by omega⟩
   rw[F7];refine Ag.bind (R:=λc=>c=true->2<B) ?_ λc hc=>Cm (λh=>?_) λ_=>Ag.some ⟨g4,g3,g1,by show f<=_;omega⟩
   ·refine AS (Gv (by have:=Gi o m k;show CK k<=_;omega) hM) (BB (λ_=>Ag.some λh=>by rw[jw]at h;omega) λ_=>Ag.some λh=>by cases h)
   ·have hB2:=hc h;have ed:Int.tdiv (B:Int) 2=((B / 2:Nat):Int):=rfl;have hd:2*(B / 2)<=B:=by omega
    have hd1:1<=B / 2:=by omega
    have hd3:B / 2<B:=by omega
    rw[ed];generalize B / 2=d at hd hd1 hd3⊢;have hpk:EV d<=80*d:=by unfold EV;rw[jn (by omega)];omega
    rw[BK (n:=(d:Int)) (by omega) (by omega)];refine Ag.bind (JF C Bb hM (d:=d) (by omega) hv t (p:=f) (by omega) (by omega)) λq hq=>?_;have q1:=hq.lo;have q2:=hq.hi;have q3:=hq.size;have q4:=szle d (by omega);have q5:=hq.parts;exact ih d hd3 N q.2 q.1.op q.1.num q.1.kids (by omega) (by omega) (by omega) (by omega) q5.CZ (by have:=q5.size;dsimp only at this;omega)
 unfold Ia;refine Ag.bind (JF C Bb hM (d:=B) (by omega) hv t (p:=p) (by omega) (by omega)) λq hq=>?_;have q1:=hq.lo;have q2:=hq.hi;have q3:=hq.size;have q4:=szle B hB;have q6:=pkle B hB;have q5:=hq.parts;refine Ag.bind (key B M q.2 q.1.op q.1.num q.1.kids (by omega) hB (by omega) (by omega) q5.CZ (by have:=q5.size;dsimp only at this;omega)) ?_;rintro⟨f,o,m,k⟩ g;exact Ag.some ⟨g.size,g.CZ,g.lo,g.hi⟩
theorem Xg {l:List Int}(hl:l.length<=3){x:Int}{M:Nat}(hM:2000000<=M):Ag (Ji M l x) λr=>r=-1∨(0<=r/\r<(l.length:Int)):=by
 have key:∀{N i:Nat},i<=l.length->l.length-i<N->Ag (Ez l x N i) λv=>match v with|.inl r=>0<=r/\r<(l.length:Int)|.inr _=>True:=by
  intro N i hi hN;refine Bo l.length (λN i=>Ag (Ez l x N i) λv=>match v with|.inl r=>0<=r/\r<(l.length:Int)|.inr _=>True) ?_ ?_ hi hN
  ·intro n;rw[Ez,jn (by simp[AN])];exact Ag.some jf
  ·intro n i hi ih;obtain⟨y,hy,_⟩:=CF hi;rw[Ez,jm (by rw[jw,AN];omega),BK (n:=(i:Int)+1) (by omega) (by omega),show ((i:Int)+1)=((i+1:Nat):Int) by omega];refine AS (BH hy) (BB (λ_=>Ag.some (show 0<=(i:Int)/\(i:Int)<_ by omega)) λ_=>ih)
 unfold Ji;have k:=key (kE _) (by omega:l.length-0<M);rw[show ((0:Nat):Int)=0 from rfl]at k;refine Ag.cont (R:=λr=>0<=r/\r<(l.length:Int)) (S:=λ_=>True) (k.mono λv hv=>by cases v<;>exact hv) (λr hr=>.inr hr) λ_ _=>Ag.some (.inl rfl)
theorem Yf (C:CX D F){b:List Int}(Bb:Bk b){M:Nat}(hM:2000000<=M){f:Nat}(hf:f<F.length){p:Int}(h0:0<=p)(h1:p<=150000):Ag (KW M b p F D f) (GE 1000 7000 p):=by
 have hfl:=C.fl;obtain⟨g,hg,hgm⟩:=CF hf;have hp3:=C.par g hgm;unfold KW;refine AS (BH hg) ?_;refine Ag.bind (Xg hp3 hM) λa ha=>?_;refine AS rfl ?_;refine Ag.bind (Cc Bb ⟨by omega,by omega⟩) λq10 hq=>?_;have q1:=hq.pos;have fin:∀{x:Option (AE×Int)},Ag x (GE 1000 3000 q10.2)->Ag (Option.bind x λq28=>some (q28.2,q28.1.op,q28.1.num,q28.1.kids)) (GQ 1000 3500 p):=λhx=>
  Ag.bind hx λr hr=>Ag.some (by
   have:=hr.parts;exact⟨this.size,this.CZ,by have:=this.lo;dsimp only at this⊢;omega,by have:=this.hi;dsimp only at this⊢;omega⟩)
 refine Ag.bind (R:=GQ 1000 3500 p) ?_ ?_
 ·refine Ag.bind (R:=λ_=>True) (BB (λ_=>Ag.some jf) λ_=>Ag.some jf) λt25 _=>Cm (λ_=>fin (WA C Bb hM (by omega) (by omega))) λ_=>?_;refine Ag.bind (R:=λt=>t=true->0<=a) ?_ λt30 ht30=>Cm (λh=>?_) λ_=>?_
  ·refine BB (λ_=>BB (λh=>?_) λ_=>Ag.some λh=>by cases h) λ_=>Ag.some λh=>by cases h
   exact BB (λ_=>Ag.some λ_=>h) λ_=>Ag.some λ_=>h
  ·have ha0:=ht30 h;obtain⟨an,rfl⟩:=kZ ha0;exact fin (We C Bb hM hf (by omega) (by omega) (by omega))
  have pos:∀(z:Int),Ag (if decide (q10.1<3)=true then
      if (decide (0<(Sh.len g.params)))=true then
       (Sh.get g.params 0).bind λc52=>
       if (decide (c52=z))=true then
        if (decide (g.result=0))=true then
         some true
        else
         some (decide (g.result=(if z=3 then 3 else 1)))
       else
        some false
      else
       some false
     else
      some false) λt=>t=true->0<g.params.length:=by
   intro z;refine BB (λ_=>BB (λh=>?_) λ_=>Ag.some λh=>by cases h) λ_=>Ag.some λh=>by cases h
   rw[AN]at h;refine Ag.get (by omega) (by omega) λc _ _=>?_;refine BB (λ_=>BB (λ_=>Ag.some λ_=>by omega) λ_=>Ag.some λ_=>by omega) λ_=>Ag.some λh=>by cases h
  refine Ag.bind (pos 3) λt35 ht35=>Cm (λh=>fin (V7 C Bb hM hf hg (ht35 h) (by omega) (by omega))) λ_=>?_;refine Ag.bind (pos 0) λt40 ht40=>Cm (λh=>fin (WL C Bb hM hf hg (ht40 h) (by omega) (by omega))) λ_=>?_;have:=Rk C Bb hM (vars:=g.params) (by omega) g.result (B:=18) (by omega) (p:=q10.2) (by omega) (by omega);exact fin (this.mono λr hr=>hr.up (by omega) (by omega))
 ·rintro⟨f12,o,m,k⟩ g12;have b1:=g12.size;have b2:=g12.lo;have b3:=g12.hi;have b4:=g12.CZ;dsimp only at b1 b2 b3 b4⊢;refine AS (Gv (by have:=Gi o m k;show CK k<=_;omega) hM) (BB (λ_=>?_) λ_=>Ag.some ⟨b1,b4,b2,by show f12<=_;omega⟩);have:=Rk C Bb hM (vars:=g.params) (by omega) g.result (B:=12) (by omega) (p:=f12) (by omega) (by omega);refine Ag.bind this λr hr=>Ag.some ⟨by have:=hr.size;show en r.1<=_;omega,hr.CZ,by have:=hr.lo;show p<=r.2;omega,by have:=hr.hi;show r.2<=_;omega⟩
end
end RC
namespace RC
open Go
theorem iC (n:Int):Gu (Sh.w n):=by
 unfold Sh.w Gu;rw[IntKind.wrap_i64];omega
def cn (l:List Int):Db:=⟨l⟩
def gD:List AM:=[⟨0,0,[⟨[]⟩,⟨[0,1]⟩]⟩,⟨0,0,[]⟩,⟨0,0,[⟨[]⟩,⟨[3,0,3]⟩]⟩]
def gL:List AM:=[⟨0,0,[⟨[1,3]⟩]⟩,⟨1,0,[]⟩,⟨0,0,[⟨[1,1,0]⟩,⟨[0]⟩,⟨[3]⟩]⟩,⟨0,1,[]⟩]
def GD (D:List AM):Prop:=D=gD∨∃d∈gL,D=gD++[d]
theorem PY {b:List Int}(Bb:Bk b){p:Int}(h0:0<=p)(h1:p<=500000):Ag (HA b p) λq=>GD q.1/\q.2=p+1:=by
 unfold HA;refine AS rfl (AS rfl (AS rfl (AS rfl (AS rfl (AS rfl (AS rfl (AS rfl ?_)))))));refine Ag.bind (Cc Bb ⟨by omega,by omega⟩) λq hq=>?_;have q1:=hq.pos;have q2:=hq.nn;have q3:=hq.lt (by omega);refine Ag.bind (R:=GD) ?_ λl hl=>Ag.some ⟨hl,q1⟩;refine BB (λ_=>?_) λ_=>Ag.some (.inl rfl);refine Ag.get q2 (by simp;omega) λc _ hc=>?_;refine Ag.app (by simp) (by simp) (Ag.some (.inr ⟨c,?_,rfl⟩));exact hc
structure iR (F:List Ac):Prop where
 fl:F.length<=4
 dZ:1<=F.length
 par :∀f∈F,f.params.length<=3
 cl :∀f∈F,(∀x∈f.params,x=0∨x=1∨x=3)∨(f.params=[2,1]/\f.result=1)
theorem CX.of {D:List AM}{F:List Ac}(hD:GD D)(S:iR F):CX D F:=by
 have all:∀{D:List AM},D.length<=4->nc D<=7->(∀d∈D,d.cons.length<=3)->(∀d∈D,∀c∈d.cons,c.fields.length<=3/\∀x∈c.fields,x=0∨x=1∨x=3)->Bs D 1=[0,1]->Bs D 3=[2,3]->
   Gb D 0 0=some (1,⟨[]⟩)->Gb D 0 1=some (1,⟨[0,1]⟩)->Gb D 0 2=some (3,⟨[]⟩)->Gb D 0 3=some (3,⟨[3,0,3]⟩)->IS 1 1 D 0=-1->CX D F:=λa b c d e f g h i j k=>
  ⟨a,b,c,d,e,f,⟨_,g⟩,⟨_,h⟩,⟨_,i⟩,⟨_,j⟩,k,S.fl,S.dZ,S.par,S.cl⟩
 rcases hD with rfl|⟨d,hd,rfl⟩
 ·exact all (by decide) (by decide) (by decide) (by decide) (by decide) (by decide) rfl rfl rfl rfl (by decide)
 ·simp only[gL,js,kN,kx]at hd;rcases hd with rfl|rfl|rfl|rfl;all_goals exact all (by decide) (by decide) (by decide) (by decide) (by decide) (by decide) rfl rfl rfl rfl (by decide)
structure iB (f:Ac):Prop where
 CZ:Vu f
 par:f.params.length<=4
 size:en f.body<=1001
theorem U3 {l:List Int}(hl:l.length<=4)(h :∀x∈l,-1000000<=x/\x<=1000000):IH Gu l:=⟨λx hx=>Di (h x hx).1 (h x hx).2,by omega⟩
structure ZV (F:List Ac):Prop where
 sg:iR F
 ok :∀f∈F,iB f
 sz :∀f∈F,en f.body<=1000
theorem LG {α:Type}{l:List α}{i:Int}{x y:α}(h:y∈Sh.put l i x):y∈l∨y=x:=kp h
theorem ZV.put {F:List Ac}(P:ZV F){i:Int}{g:Ac}(hg:g∈F){e:AE}(he:An e)(hs:en e<=1000):ZV (Sh.put F i ⟨g.params,g.result,e⟩):=by
 have hl:(Sh.put F i ⟨g.params,g.result,e⟩).length=F.length:=by unfold Sh.put;simp
 have G:=P.ok g hg;refine⟨⟨by rw[hl];exact P.sg.fl,by rw[hl];exact P.sg.dZ,λf hf=>?_,λf hf=>?_⟩,λf hf=>?_,λf hf=>?_⟩
 ·rcases LG hf with h|rfl
  ·exact P.sg.par f h
  ·exact P.sg.par g hg
 ·rcases LG hf with h|rfl
  ·exact P.sg.cl f h
  ·exact P.sg.cl g hg
 ·rcases LG hf with h|rfl
  ·exact P.ok f h
  ·exact⟨⟨G.CZ.params,G.CZ.result,he⟩,G.par,by show en e<=_;omega⟩
 ·rcases LG hf with h|rfl
  ·exact P.sz f h
  ·exact hs
theorem TB {b:List Int}(Bb:Bk b){M:Nat}(hM:2000000<=M){p:Int}(h0:0<=p)(h1:p<=1000):Ag (HO M b p) λq=>GD q.1.decls/\ZV q.1.funcs/\0<=q.2/\q.2<=100000:=by
 unfold HO;refine Ag.bind (PY Bb h0 (by omega)) λq3 ⟨hD,hq3⟩=>?_;iterate 17 refine AS rfl ?_
 have sigs:∀(l:List Ac),(∀f∈l,f.body=⟨0,0,[]⟩/\f.params.length<=3/\(∀x∈f.params,0<=x/\x<=3)/\(0<=f.result/\f.result<=3)/\((∀x∈f.params,x=0∨x=1∨x=3)∨(f.params=[2,1]/\f.result=1)))->l.length<=4->1<=l.length->ZV l:=λl h h4 h5=>
  ⟨⟨h4,h5,λf hf=>(h f hf).2.1,λf hf=>(h f hf).2.2.2.2⟩,λf hf=>by
   obtain⟨b1,b2,b3,b4,_⟩:=h f hf;exact⟨⟨U3 (by omega) λx hx=>by have:=b3 x hx;omega,Di (by omega) (by omega),by rw[b1];exact Fm ⟨by omega,by omega⟩ ⟨by omega,by omega⟩⟩,by omega,by rw[b1,Kq];omega⟩,λf hf=>by rw[(h f hf).1,Kq];omega⟩
 have pg:∀{l:List Ac} {f:Int×Int->Ac->Option (AP×Int)} {s:Int} {Q:AP×Int->Prop},1<=l.length->0<=s->s<=900000->(∀(q:Int×Int) c,q.2=s+1->c∈l->Ag (f q c) Q)->Ag ((Az b s (Sh.len l)).bind λq25=>(Sh.get l q25.1).bind λc26=>f q25 c26) Q:=λhl hs0 hs1 k=>by
  rw[AN];refine Ag.bind (Cc Bb ⟨hs0,by omega⟩) λq hq=>?_;exact Ag.get hq.nn (hq.lt (by omega)) λc _ hc=>k q c hq.pos hc
 refine pg (by simp) (by omega) (by omega) λq25 c26 hq25 hc26=>?_;refine pg (by simp) (by omega) (by omega) λq27 c28 hq27 hc28=>?_;refine pg (by simp) (by omega) (by omega) λq29 c30 hq29 hc30=>?_;refine Ag.bind (GY Bb ⟨by omega,by omega⟩ (by simp) (by simp)) λq32 hq32=>?_;have o1:=hq32.pos;have o2:=hq32.mem;simp only[js,kN,kx]at o2;obtain⟨n,hn⟩:=kZ (by omega:0<=q32.1);rw[hn];refine AS (cv (by simp;omega)) ?_;generalize hl:([Ac.mk [] 0 (AE.mk 0 0 []),c26,c28,c30].take n)=l34;have hlen:l34.length=n:=by rw[<- hl];simp;omega
 have hall:∀f∈l34,f.body=⟨0,0,[]⟩/\f.params.length<=3/\(∀x∈f.params,0<=x/\x<=3)/\(0<=f.result/\f.result<=3)/\((∀x∈f.params,x=0∨x=1∨x=3)∨(f.params=[2,1]/\f.result=1)):=by
  intro f hf;rw[<- hl]at hf;have:=kv hf;simp only[js,kN,kx]at this hc26 hc28 hc30;rcases this with rfl|rfl|rfl|rfl
  ·simp
  ·rcases hc26 with rfl|rfl|rfl|rfl|rfl|rfl<;>simp
  ·rcases hc28 with rfl|rfl|rfl|rfl|rfl|rfl<;>simp
  ·rcases hc30 with rfl|rfl|rfl|rfl<;>simp
 have P0:=sigs l34 hall (by omega) (by omega);have key:∀(k N:Nat) (z p':Int) (l:List Ac),z=(k:Int)-1->k<N->k<=4->k<=l.length->ZV l->0<=p'->p'+7000*k<=50000->Ag (D9 M b q3 N z p' l) λr=>ZV r.2/\0<=r.1/\r.1<=60000:=by
  intro k
  induction k with
  | zero=>
   intro N z p' l hz hN _ _ hP g0 g1;obtain⟨N,rfl⟩ :∃m,N=m+1:=⟨N-1,by omega⟩
   rw[D9,jn (by rw[jw];omega)];exact Ag.some ⟨hP,g0,by show p'<=_;omega⟩
  | succ k ih=>
   intro N z p' l hz hN h4 hkl hP g0 g1;obtain⟨N,rfl⟩ :∃m,N=m+1:=⟨N-1,by omega⟩
   have hzk:z=(k:Int):=by omega
   subst hzk;rw[D9,jm (by rw[jw];omega)];have C:=CX.of hD hP.sg;refine Ag.bind (Yf C Bb hM (f:=k) (by omega) (p:=p') g0 (by omega)) λr hr=>?_;have r1:=hr.lo;have r2:=hr.hi;obtain⟨g,hg,hgm⟩:=CF (l:=l) (i:=k) (by omega);refine AS (BH hg) ?_;refine ih N (Sh.w ((k:Int)-1)) r.2 _ (BK (by omega) (by omega)) (by omega) (by omega) (by unfold Sh.put;simp;omega) (hP.put hgm hr.CZ hr.size) (by omega) (by omega)
 have k:=key n M (Sh.w ((n:Int)-1)) q32.2 l34 (BK (by omega) (by omega)) (by omega) (by omega) (by omega) P0 (by omega) (by omega);refine Ag.bind k ?_;rintro⟨f40,l41⟩ ⟨a1,a2,a3⟩;exact Ag.some ⟨hD,a1,a2,by show f40<=_;dsimp only at a3;omega⟩
theorem Qe {M:Nat}(hM:2000000<=M):∀(n:Nat) (l:List AE),CK l<n->CK l<=100000->DI M n l=some l:=by
 intro n
 induction n with
 | zero=>intro l h;omega
 | succ n ih=>
  intro l hn hs;rw[DI];unfold HV;have hl:=Hk l;have key:∀{N i:Nat},i<=l.length->l.length-i<N->CU l (DI M n) N i (l.take i)=some l:=by
   intro N i hi hN;refine Bo l.length (λN i=>CU l (DI M n) N i (l.take i)=some l) ?_ ?_ hi hN
   ·intro m;rw[CU,jn (by simp[AN]),lM]
   ·intro m i hi ih2;obtain⟨e,he,hem⟩:=CF hi;have h1:=Hy hem;have h2:=Fw e;rw[CU,jm (by rw[jw,AN];omega),BH he];unfold JI;simp only[jd];rw[ih e.kids (by omega) (by omega)];simp only[jd];rw[EM _ _ 40 (by simp;omega) (by simp;omega),BK (by omega) (by omega),show ((i:Int)+1)=((i+1:Nat):Int) by omega];simp only[jd];have:(⟨e.op,e.num,e.kids⟩:AE)=e:=by cases e;rfl
    rw[this,<- D3 he];exact ih2
  have:=key (kE _) (by omega:l.length-0<M);rw[lF,show ((0:Nat):Int)=0 from rfl]at this;rw[this];rfl
theorem ZJ:∀(l:List AE) (i:Nat) (e x:AE),l[i]?=some e->CK (l.set i x)+en e=CK l+en x
 | [],i,e,x,h=>by simp at h
 | a::l,0,e,x,h=>by
  simp only[kK,jh]at h;subst h;simp only[mf,CK];omega
 | a::l,i+1,e,x,h=>by
  have:=ZJ l i e x (by simpa using h);simp only[List.set_cons_succ,CK];omega
theorem fM {b:List Int}(Bb:Bk b){M:Nat}(hM:2000000<=M):∀(n:Nat) (e:AE) (p:Int),en e<n->en e<=1001->An e->0<=p->p+5*en e<=300000->Ag (JQ M n b p e) λq=>en q.1<=en e+1/\An q.1/\p<=q.2/\q.2<=p+5*en e:=by
 intro n
 induction n with
 | zero=>intro e p h;have:=G6 e;omega
 | succ n ih=>
  intro e p hn hs hin h0 h1;have hee:=Fw e;have hkl:=Hk e.kids;rw[JQ];unfold Lp;refine Ag.bind (R:=λq:Bool×Int=>(q.1=true->0<e.kids.length)/\p<=q.2/\q.2<=p+1) ?_ ?_
  ·refine BB (λh=>?_) λ_=>Ag.some ⟨(λh=>by cases h),by show p<=p;omega,by show p<=_;omega⟩;rw[AN]at h;exact Ag.bind (Cc Bb ⟨by omega,by omega⟩) λq hq=>Ag.some ⟨λ_=>by omega,by have:=hq.pos;show p<=q.2;omega,by have:=hq.pos;show q.2<=_;omega⟩
  ·rintro⟨t4,f5⟩ ⟨g1,g2,g3⟩;dsimp only at g1 g2 g3⊢;refine Cm (λh=>?_) λ_=>?_
   ·have hk:=g1 h;refine AS (Qe hM M e.kids (by omega) (by omega)) ?_;rw[AN];refine Ag.bind (Cc Bb ⟨by omega,by omega⟩) λq hq=>?_;have q1:=hq.pos;have q2:=hq.nn;have q3:=hq.lt (by omega);refine Ag.get q2 q3 λc hc hcm=>?_;have hcl:=Hy hcm;refine Ag.bind (ih c q.2 (by omega) (by omega) (hin.kids c hcm) (by omega) (by omega)) λr ⟨r1,r2,r3,r4⟩=>?_;have hset:=ZJ e.kids q.1.toNat c r.1 hc;refine AS rfl (Ag.some ⟨?_,?_,by show p<=r.2;omega,by show r.2<=_;omega⟩)
    ·show en ⟨e.op,e.num,Sh.put e.kids q.1 r.1⟩<=_;unfold Sh.put;rw[Gi];omega
    ·show An ⟨e.op,e.num,Sh.put e.kids q.1 r.1⟩;refine Ja hin.op hin.num (λx hx=>?_) (by unfold Sh.put;simp;omega);rcases LG hx with h3|rfl
     ·exact hin.kids x h3
     ·exact r2
   ·refine Ag.bind (Cc Bb ⟨by omega,by omega⟩) λq19 hq19=>?_;have a1:=hq19.pos;have a2:=hq19.nn;have a3:=hq19.lt (by omega);have hp:=G6 e;have same:∀{o m:Int},Gu o->Gu m->An ⟨o,m,e.kids⟩:=λho hm=>Ja ho hm hin.kids (by omega);refine BB (λ_=>?_) λ_=>?_
    ·refine Ag.bind (Cc Bb ⟨by omega,by omega⟩) λq hq=>?_;have c1:=hq.pos;have c2:=hq.nn;have c3:=hq.lt (by omega);refine AS rfl (Ag.some ⟨?_,same (Di (by omega) (by omega)) hin.num,by show p<=q.2;omega,by show q.2<=_;omega⟩);show en ⟨q.1,e.num,e.kids⟩<=_;rw[Gi];omega
    refine BB (λ_=>?_) λ_=>?_
    ·refine Ag.bind (GY Bb ⟨by omega,by omega⟩ (by simp) (by simp)) λq hq=>?_;have c1:=hq.pos;refine AS rfl (Ag.some ⟨?_,same hin.op (iC _),by show p<=q.2;omega,by show q.2<=_;omega⟩);show en ⟨e.op,Sh.w (e.num+q.1),e.kids⟩<=_;rw[Gi];omega
    refine BB (λ_=>?_) λ_=>?_
    ·refine AS (Qe hM M e.kids (by omega) (by omega)) (AS rfl ?_);refine Ag.app (by simp;omega) (by simp;omega) (AS rfl (Ag.some ⟨?_,?_,by show p<=q19.2;omega,by show q19.2<=_;omega⟩))
     ·show en ⟨e.op,e.num,e.kids++[⟨0,1,[]⟩]⟩<=_;rw[Gi,Ik,HQ,Kq];omega
     ·show An ⟨e.op,e.num,e.kids++[⟨0,1,[]⟩]⟩;refine .mk hin.op hin.num (by show (e.kids++_).length<=_;simp;omega) λx hx=>?_;rcases kJ.1 (show x∈e.kids++[⟨0,1,[]⟩] from hx) with h3|h3
      ·exact hin.kids x h3
      ·rw[jy]at h3;rw[h3];exact Fm ⟨by omega,by omega⟩ ⟨by omega,by omega⟩
    refine BB (λ_=>?_) λ_=>?_
    ·refine Ag.bind (GY Bb ⟨by omega,by omega⟩ (by simp) (by simp)) λq hq=>?_;have c1:=hq.pos;have c2:=hq.mem;simp only[js,kN,kx]at c2;refine AS rfl (Ag.some ⟨?_,Fm ⟨by omega,by omega⟩ ⟨by omega,by omega⟩,by show p<=q.2;omega,by show q.2<=_;omega⟩);show en ⟨12,q.1,[]⟩<=_;rw[Kq];omega
    ·refine Ag.bind (GY Bb ⟨by omega,by omega⟩ (by simp) (by simp)) λq hq=>?_;have c1:=hq.pos;have c2:=hq.mem;simp only[js,kN,kx]at c2;refine AS rfl (Ag.some ⟨?_,Fm ⟨by omega,by omega⟩ ⟨by omega,by omega⟩,by show p<=q.2;omega,by show q.2<=_;omega⟩);show en ⟨0,q.1,[]⟩<=_;rw[Kq];omega
structure WV (D:List AM):Prop where
 len:D.length<=6
 CZ :∀d∈D,MO d
 size :∀d∈D,dz d<=20
theorem fZ {f t:Int}{cs:List Db}(hf:-1000000<=f/\f<=1000000)(ht:-1000000<=t/\t<=1000000)(hl:cs.length<=4)(h :∀c∈cs,c.fields.length<=4/\∀x∈c.fields,-1000000<=x/\x<=1000000):MO ⟨f,t,cs⟩:=
 ⟨Di hf.1 hf.2,Di ht.1 ht.2,λc hc=>⟨U3 (h c hc).1 (h c hc).2⟩,by show cs.length<=_;omega⟩
theorem gR {f t:Int}{cs:List Db}(hl:cs.length<=4)(h :∀c∈cs,c.fields.length<=4):dz ⟨f,t,cs⟩<=20:=by
 have :∀l:List Db,(∀c∈l,c.fields.length<=4)->(l.map cz).sum<=4*l.length:=λl=>by
  induction l with
  | nil=>simp
  | cons c l ih=>
   intro h;have h1:=h c (by simp);have h2:=ih λc hc=>h c (by simp[hc]);simp only[kI,mM,kQ];have:cz c=c.fields.length:=rfl;omega
 have h2:=this cs h;show cs.length+(cs.map cz).sum<=20;omega
theorem Us {f t:Int}{cs:List Db}(hf:-1000000<=f/\f<=1000000)(ht:-1000000<=t/\t<=1000000)(hl:cs.length<=4)(h :∀c∈cs,c.fields.length<=4/\∀x∈c.fields,-1000000<=x/\x<=1000000):MO ⟨f,t,cs⟩/\dz ⟨f,t,cs⟩<=20:=
 ⟨fZ hf ht hl h,gR hl λc hc=>(h c hc).1⟩
theorem Tc {D:List AM}(h:GD D):WV D/\3<=D.length/\D.length<=4:=by
 have hall:∀d∈gD++gL,MO d/\dz d<=20:=by
  intro d hd;simp only[gD,gL,nX,lR,js,kN,kx]at hd;rcases hd with rfl|rfl|rfl|rfl|rfl|rfl|rfl<;>exact Us (by decide) (by decide) (by decide) (by decide)
 rcases h with rfl|⟨d,hd,rfl⟩
 ·exact⟨⟨by decide,λd hd=>(hall d (ko _ hd)).1,λd hd=>(hall d (ko _ hd)).2⟩,by decide,by decide⟩
 ·have hm:∀x∈gD++[d],x∈gD++gL:=λx hx=>by
   rcases kJ.1 hx with h|h
   ·exact ko _ h
   ·rw[jy]at h;rw[h];exact mD _ hd
  exact⟨⟨by simp[gD],λx hx=>(hall x (hm x hx)).1,λx hx=>(hall x (hm x hx)).2⟩,by simp[gD],by simp[gD]⟩
theorem WV.put {D:List AM}(h:WV D){i:Int}{d:AM}(hd:MO d/\dz d<=20):WV (Sh.put D i d):=
 ⟨by unfold Sh.put;simp;exact h.len,λx hx=>(LG hx).elim (λh3=>h.CZ x h3) (λe=>by rw[e];exact hd.1),λx hx=>(LG hx).elim (λh3=>h.size x h3) (λe=>by rw[e];exact hd.2)⟩
theorem WV.app {D E:List AM}(h:WV D)(hl:D.length+E.length<=6)(hE :∀d∈E,MO d/\dz d<=20):WV (D++E):=
 ⟨by simp;omega,λx hx=>(kJ.1 hx).elim (λh3=>h.CZ x h3) (λh3=>(hE x h3).1),λx hx=>(kJ.1 hx).elim (λh3=>h.size x h3) (λh3=>(hE x h3).2)⟩
theorem jZ {α:Type}{l:List α}{i:Nat}(h:i<=l.length):Sh.sl l (i:Int) (Sh.len l)=some (l.drop i):=by
 unfold Sh.sl;rw[AN,jm (by omega)];simp
theorem Wi {b:List Int}(Bb:Bk b){p:Int}(h0:0<=p)(h1:p<=300000):Ag (JC b p) λq=>WV q.1/\p<=q.2/\q.2<=p+10:=by
 unfold JC;refine Ag.bind (PY Bb h0 (by omega)) λq3 ⟨hD,hq3⟩=>?_;obtain⟨O,l3,l4⟩:=Tc hD;rw[AN];refine Ag.bind (Cc Bb ⟨by omega,by omega⟩) λq5 hq5=>?_;have a1:=hq5.pos;have a2:=hq5.nn;have a3:=hq5.lt (by omega);refine Ag.bind (R:=λr:Int×List AM=>WV r.2/\p<=r.1/\r.1<=p+10) ?_ λr hr=>Ag.some ⟨hr.1,hr.2⟩;refine Ag.bind (Cc Bb ⟨by omega,by omega⟩) λq12 hq12=>?_;have b1:=hq12.pos;refine BB (λ_=>?_) λ_=>?_
 ·refine Ag.bind (GY Bb ⟨by omega,by omega⟩ (by simp) (by simp)) λx hx=>?_;have x1:=hx.pos;have x2:=hx.mem;refine Ag.bind (GY Bb ⟨by omega,by omega⟩ (by simp) (by simp)) λy hy=>?_;have y1:=hy.pos;have y2:=hy.mem;simp only[js,kN,kx]at x2 y2;exact Ag.get a2 a3 λc _ _=>Ag.some ⟨O.put (Us (by omega) (by omega) (by decide) (by simp)),by show p<=y.2;omega,by show y.2<=_;omega⟩
 refine BB (λ_=>?_) λ_=>?_
 ·refine Ag.bind (GY Bb ⟨by omega,by omega⟩ (by simp) (by simp)) λx hx=>?_;have x1:=hx.pos;have x2:=hx.mem;simp only[js,kN,kx]at x2;refine AS rfl (AS rfl (AS rfl ?_));refine Ag.get a2 a3 λc _ _=>Ag.some ⟨O.put (Us (by omega) (by omega) (by simp) ?_),by show p<=x.2;omega,by show x.2<=_;omega⟩;intro c hc;simp only[js,kN,kx]at hc;rcases hc with rfl|rfl|rfl
  ·exact⟨by simp,λz hz=>by rw[jy]at hz;omega⟩
  ·exact⟨by simp,by simp⟩
  ·exact⟨by simp,by simp⟩
 refine BB (λ_=>?_) λ_=>?_
 ·refine AS rfl ?_;rw[BK (n:=q5.1+1) (by omega) (by omega)];refine Ag.get a2 a3 λc _ _=>Ag.some ⟨O.put (Us (by omega) (by omega) (by simp) ?_),by show p<=q12.2;omega,by show q12.2<=_;omega⟩;intro c hc;rw[jy]at hc;rw[hc];exact⟨by simp,λz hz=>by rw[jy]at hz;omega⟩
 refine BB (λ_=>?_) λ_=>?_
 ·refine Ag.bind (GY Bb ⟨by omega,by omega⟩ (by simp) (by simp)) λx hx=>?_;have x1:=hx.pos;have x2:=hx.mem;simp only[js,kN,kx]at x2;refine Ag.app (by simp;omega) (by simp;omega) (Ag.some ⟨O.app (by simp;omega) λd hd=>?_,by show p<=x.2;omega,by show x.2<=_;omega⟩);rw[jy]at hd;rw[hd];exact Us (by omega) (by omega) (by simp) (by simp)
 refine BB (λ_=>?_) λ_=>?_
 ·refine Ag.bind (Cc Bb ⟨by omega,by omega⟩) λx hx=>?_;have x1:=hx.pos;have x2:=hx.nn;have x3:=hx.lt (by omega);refine AS rfl (AS rfl (AS rfl (AS rfl ?_)));refine Ag.bind (Cc Bb ⟨by omega,by omega⟩) λy hy=>?_;have y1:=hy.pos;have y2:=hy.nn;have y3:=hy.lt (by omega);obtain⟨k,hk⟩:=kZ y2;rw[hk];refine AS (jZ (by simp;omega)) ?_;refine Ag.get a2 a3 λc _ _=>Ag.some ⟨O.put (Us (by omega) (by omega) (by simp) ?_),by show p<=y.2;omega,by show y.2<=_;omega⟩;intro c hc;have:=lQ hc;simp only[js,kN,kx]at this;rcases this with rfl|rfl|rfl|rfl<;>exact⟨by simp,by simp⟩
 refine BB (λ_=>?_) λ_=>?_
 ·refine Ag.app (by simp;omega) (by simp;omega) (Ag.some ⟨O.app (by simp;omega) λd hd=>?_,by show p<=q12.2;omega,by show q12.2<=_;omega⟩);simp only[js,kN,kx]at hd;rcases hd with rfl|rfl<;>exact Us (by omega) (by omega) (by simp) (by simp)
 ·exact Ag.some ⟨O,by show p<=q12.2;omega,by show q12.2<=_;omega⟩
structure PD (p:AP):Prop where
 decls:WV p.decls
 Kz:p.funcs.length<=5
 gQ :∀f∈p.funcs,iB f
theorem Pm {α:Type}{f:α->Nat}{a:Nat}:∀(l:List α),(∀x∈l,f x<=a)->(l.map f).sum<=a*l.length
 | [],_=>by simp
 | x::l,h=>by
  have h1:=h x (by simp);have h2:=Pm l λy hy=>h y (by simp[hy]);simp only[kI,mM,kQ];rw[Nat.mul_add];omega
theorem PD.small {p:AP}(P:PD p):EE p:=by
 refine⟨⟨⟨P.decls.CZ,by have:=P.decls.len;omega⟩,λf hf=>(P.gQ f hf).CZ,by have:=P.Kz;omega⟩,?_⟩;have h1:=Pm p.decls P.decls.size;have h2:=Pm (f:=YB) (a:=1010) p.funcs λf hf=>by
  have:=(P.gQ f hf).par;have:=(P.gQ f hf).size;have h3:=Fw f.body;show f.params.length+CK f.body.kids<=_;omega
 have h3:=P.decls.len;have h4:=P.Kz;unfold Sz;omega
theorem R7 {b:List Int}(Bb:Bk b){M:Nat}(hM:2000000<=M){D:List AM}{F:List Ac}(hD:GD D)(P:ZV F){p:Int}(h0:0<=p)(h1:p<=100000):Ag (G1 M b p F D) λq=>PD q.1/\0<=q.2/\q.2<=200000:=by
 obtain⟨O,l3,l4⟩:=Tc hD;have hF:=P.sg.fl;have hF1:=P.sg.dZ;unfold G1;rw[AN];refine Ag.bind (Cc Bb ⟨by omega,by omega⟩) λq3 hq3=>?_;have a1:=hq3.pos;have a2:=hq3.nn;have a3:=hq3.lt (by omega);refine Ag.get a2 a3 λc5 _ hc5=>?_;have G:=P.ok c5 hc5;have P0:PD ⟨D,F⟩:=⟨O,by show F.length<=5;omega,P.ok⟩
 have putF:∀{g:Ac},iB g->PD ⟨D,Sh.put F q3.1 g⟩:=λhg=>⟨O,by show (Sh.put F _ _).length<=5;unfold Sh.put;simp;omega,λf hf=>(LG hf).elim (λh=>P.ok f h) (λe=>by rw[e];exact hg)⟩;refine Ag.bind (R:=λr:Int×List Ac×List AM=>PD ⟨r.2.2,r.2.1⟩/\0<=r.1/\r.1<=200000) ?_ λr hr=>Ag.some ⟨hr.1,hr.2⟩;refine Ag.bind (Cc Bb ⟨by omega,by omega⟩) λq13 hq13=>?_;have b1:=hq13.pos;refine BB (λ_=>?_) λ_=>?_
 ·unfold Qx;have hs:=P.sz c5 hc5;exact Ag.bind (fM Bb hM M c5.body q13.2 (by omega) (by omega) G.CZ.body (by omega) (by omega)) λr ⟨r1,r2,r3,r4⟩=>Ag.some ⟨putF ⟨⟨G.CZ.params,G.CZ.result,r2⟩,G.par,by show en r.1<=_;omega⟩,by show 0<=r.2;omega,by show r.2<=_;omega⟩
 refine BB (λ_=>?_) λ_=>?_
 ·refine Ag.bind (GY Bb ⟨by omega,by omega⟩ (by simp) (by simp)) λx hx=>?_;have x1:=hx.pos;have x2:=hx.mem;simp only[js,kN,kx]at x2;have hp:=P.sg.par c5 hc5;refine AS (JB (by omega) (by simp)) (Ag.some ⟨putF ⟨⟨⟨λy hy=>?_,by show (c5.params++[x.1]).length<=_;simp;omega⟩,G.CZ.result,G.CZ.body⟩,by show (c5.params++[x.1]).length<=4;simp;omega,G.size⟩,by show 0<=x.2;omega,by show x.2<=_;omega⟩);rcases kJ.1 (show y∈c5.params++[x.1] from hy) with h|h
  ·exact G.CZ.params.1 y h
  ·rw[jy]at h;rw[h];exact Di (by omega) (by omega)
 refine BB (λ_=>?_) λ_=>?_
 ·refine Ag.bind (GY Bb ⟨by omega,by omega⟩ (by simp) (by simp)) λx hx=>?_;have x1:=hx.pos;have x2:=hx.mem;simp only[js,kN,kx]at x2;exact Ag.some ⟨putF ⟨⟨G.CZ.params,(Di (by omega) (by omega):Gu x.1),G.CZ.body⟩,G.par,G.size⟩,by show 0<=x.2;omega,by show x.2<=_;omega⟩
 refine BB (λ_=>?_) λ_=>?_
 ·refine Ag.bind (Wi Bb (p:=q13.2) (by omega) (by omega)) λr ⟨r1,r2,r3⟩=>Ag.some ⟨⟨r1,by show F.length<=5;omega,P.ok⟩,by show 0<=r.2;omega,by show r.2<=_;omega⟩
 refine BB (λ_=>?_) λ_=>Ag.some ⟨P0,by show 0<=q13.2;omega,by show q13.2<=_;omega⟩;refine Ag.app (by simp;omega) (by simp;omega) (Ag.some ⟨⟨O,by show (F++[c5]).length<=5;simp;omega,λf hf=>?_⟩,by show 0<=q13.2;omega,by show q13.2<=_;omega⟩);rcases kJ.1 (show f∈F++[c5] from hf) with h|h
 ·exact P.ok f h
 ·rw[jy]at h;rw[h];exact G
theorem UI {b:List Int}(Bb:Bk b){M:Nat}(hM:2000000<=M){p:Int}(h0:0<=p)(h1:p<=1000):Ag (Hj M b p) λq=>PD q.1/\0<=q.2/\q.2<=200000:=by
 unfold Hj;refine Ag.bind (TB Bb hM h0 h1) λq ⟨q1,q2,q3,q4⟩=>?_;refine Ag.bind (R7 Bb hM q1 q2 q3 q4) λr hr=>Ag.some hr
end RC
