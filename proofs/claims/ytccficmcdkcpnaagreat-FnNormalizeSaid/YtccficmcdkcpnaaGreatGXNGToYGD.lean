import Derived.Test.YtccficmcdkcpnaaGreatGPlainAToXNF
set_option linter.all false
namespace RC
open Go
section
variable {n : Ax} {R1 : Ax -> List Int -> Block -> Option Int} {R2 : Ah -> List Int -> Block -> Option Int} {T : List Int -> Block -> Int} {b : Block} {v : List Int} {N : Nat}
theorem Vl (o:Int):NP o=some (decide (0<=o)&&decide (o<=11)):=by unfold NP;rw[Cf];rfl
theorem YH {l:List Step}{s:Step}(h:s∈l):Qe s<=Ja l:=by
 induction l with
 | nil=>cases h
 | cons c k ih=>
  simp only[Ja];rcases qH.1 h with rfl|h
  ·omega
  ·have:=ih h;omega
structure BK (n:Ax) (b:Block) (v:List Int):Prop where
 Ch:Rr b
 size:Bs b
 len:v.length+4*Ho b<=4000
 Ni :∀x∈v,Cg n.decls x=true
theorem ay (H:VN n R1 R2 T (Ho b))(B:BK n b v)(S:LV n)(hN:2000000<=N):∃o:Option (List Int),
  Dw N n b R1 N 0 v=some (o.elim (.inl (-1)) .inr)/\BQ N (Dc n) b R2 N 0 v=some (o.elim (.inl (-1)) .inr)/\∀l,o=some l->l.length<=8000/\∀x∈l,Cg n.decls x=true:=by
 have hb:=B.size;have hsl:=hb.len;have key:∀{M i:Nat},i<=b.steps.length->b.steps.length-i<M->∀w:List Int,w.length+4*Ja (b.steps.drop i)<=4000->(∀x∈w,Cg n.decls x=true)->∃o:Option (List Int),
   Dw N n b R1 M i w=some (o.elim (.inl (-1)) .inr)/\BQ N (Dc n) b R2 M i w=some (o.elim (.inl (-1)) .inr)/\∀l,o=some l->l.length<=8000/\∀x∈l,Cg n.decls x=true:=by
  intro M i hi hM;refine Bm b.steps.length (λM i=>∀w:List Int,w.length+4*Ja (b.steps.drop i)<=4000->(∀x∈w,Cg n.decls x=true)->∃o:Option (List Int),
   Dw N n b R1 M i w=some (o.elim (.inl (-1)) .inr)/\BQ N (Dc n) b R2 M i w=some (o.elim (.inl (-1)) .inr)/\∀l,o=some l->l.length<=8000/\∀x∈l,Cg n.decls x=true) ?_ ?_ hi hM
  ·intro q w hw ht;refine⟨some w,?_,?_,λl hl=>?_⟩
   ·rw[Dw,G7];rfl
   ·rw[BQ,G7];rfl
   ·cases hl;exact⟨by omega,ht⟩
  ·intro q i hi ih w hw ht;obtain⟨s,hs,yB⟩:=Ba hi;rw[VM hs]at hw;have hn1:=YH yB;have hn2:=W4 b;have hz:=UT yB;have hbz:Qw b<=1048576:=hb;have V:SK n s w:=⟨B.Ch.steps.1 s yB,by omega,by omega,ht⟩
   obtain⟨y,t,ok,e1,e2,e3⟩:=fE (T:=T) (N:=N) (λv b a1 a2 a3 a4 a5=>H v b a1 a2 (by omega) a4 a5) V S hN;have f1:Dw N n b R1 (q+1) i w=Sh.cont (if decide (y<0)=true then some (Sum.inl (Sum.inl (-1))) else (NP s.op).bind λxY=>if xY=true then (Sh.app w [y] 8).bind λl35=>some (Sum.inr l35) else some (Sum.inr w)) id λzp=>Dw N n b R1 q ((i+1:Nat):Int) zp:=by
    rw[Dw,Gp,Av hs,po,e1,wI,show ((i:Int)+1)=((i+1:Nat):Int) by omega];rfl
   have f2:BQ N (Dc n) b R2 (q+1) i w=Sh.cont (if (!ok)=true then some (Sum.inl (Sum.inl (-1))) else (EM s.op).bind λq36=>if (!q36)=true then (Sh.app w [t] 8).bind λl39=>some (Sum.inr l39) else some (Sum.inr w)) id λzp=>BQ N (Dc n) b R2 q ((i+1:Nat):Int) zp:=by
    rw[BQ,Gp,Av hs,po,e2,wI,show ((i:Int)+1)=((i+1:Nat):Int) by omega];rfl
   rw[f1,f2,Vl,QQ];cases ok with
   | false=>
    simp only[py,qR]at e3;exact⟨none,by simp[e3,Sh.cont],by simp[Sh.cont],λl hl=>nomatch hl⟩
   | true=>
    simp only[qe]at e3;obtain⟨e3,e4⟩:=e3;have e3':¬ y<0:=by omega
    have hns:=UB s;cases hc:Qj s.op with
    | true=>
     have hop:(decide (0<=s.op)&&decide (s.op<=11))=false:=by
      unfold Qj at hc;simp only[qP,qJ]at hc;rw[qz,qW,qW];omega
     obtain⟨o,g1,g2,g3⟩:=ih w (by omega) ht;refine⟨o,?_,?_,g3⟩
     ·rw[hop,<- g1];simp[e3',Sh.cont]
     ·rw[<- g2];simp[Sh.cont]
    | false=>
     rw[hc]at e4;simp only[py,qR]at e4;obtain⟨rfl,e5,e6,e7⟩:=e4;have hop:(decide (0<=s.op)&&decide (s.op<=11))=true:=by
      rw[qP,qJ,qJ];exact⟨e6,e7⟩
     obtain⟨o,g1,g2,g3⟩:=ih (w++[t]) (by rw[qQ];simp only[qa,qt];omega) (λx hx=>by
      rcases qb.1 hx with h|h
      ·exact ht x h
      ·simp only[qO]at h;rw[h];exact e5)
     refine⟨o,?_,?_,g3⟩
     ·rw[hop,<- g1,Cp w [t] 8 (by simp;omega) (by simp;omega)];simp[e3',Sh.cont]
     ·rw[<- g2,Cp w [t] 8 (by simp;omega) (by simp;omega)];simp[Sh.cont]
 have:=key (qd _) (by omega:b.steps.length-0<N) v (by rw[rG,<- W4];exact B.len) B.Ni;simpa using this
theorem dW (H:VN n R1 R2 T (Ho b))(B:BK n b v)(S:LV n)(hN:2000000<=N):∃t,KF N R1 n v b=some t/\DJ N R2 (Dc n) v b=some t/\(t=-1∨Cg n.decls t=true):=by
 have hvl:v.length<=4000:=by have:=B.len;omega
 obtain⟨o,h1,h2,h3⟩:=ay H B S hN;unfold KF DJ EP Bx;rw[Cp [] v 8 (by simp;omega) (by simp;omega)];simp only[po,rN];rw[h1,h2];cases o with
 | none=>exact⟨-1,rfl,rfl,.inl rfl⟩
 | some l=>
  obtain⟨l1,l2⟩:=h3 l rfl;simp only[rJ,Sh.JO];rw[Cf,AK,wI];by_cases hr:0<=b.result/\b.result<(l.length:Int)
  ·obtain⟨x,x1,x2⟩:=Lf hr.1 hr.2;have r1:b.result<=(l.length:Int)-1:=by omega
   have r2:¬ b.result<0:=by omega
   have r3:¬ (l.length:Int)<=b.result:=by omega
   exact⟨x,by simp[hr.1,r1,x1],by simp[r2,r3,x1],.inr (l2 x (pt x2))⟩
  ·refine⟨-1,?_,?_,.inl rfl⟩
   ·have:(decide (0<=b.result)&&decide (b.result<=(l.length:Int)-1))=false:=by
     rw[qz,qW,qW];omega
    rw[this];simp
   ·by_cases r2:b.result<0
    ·simp[r2]
    ·have r3:(l.length:Int)<=b.result:=by omega
     simp[r2,r3]
end
theorem UA {n:Ax}(S:LV n){N:Nat}(hN:2000000<=N):∀(m:Nat),∃T:List Int->Block->Int,∀(v:List Int) (b:Block),Ho b<m->BK n b v->
  ∀n1 n2,m<=n1->m<=n2->Da N n1 n v b=some (T v b)/\BM N n2 (Dc n) v b=some (T v b)/\(T v b=-1∨Cg n.decls (T v b)=true):=by
 intro m
 induction m with
 | zero=>exact⟨λ_ _=>0,λv b h=>by omega⟩
 | succ m ih=>
  obtain⟨T,hT⟩:=ih;refine⟨λv b=>(Da N (m+1) n v b).getD 0,λv b hn B n1 n2 h1 h2=>?_⟩;have step:∀n1 n2,m<=n1->m<=n2->∃t,KF N (Da N n1) n v b=some t/\DJ N (BM N n2) (Dc n) v b=some t/\(t=-1∨Cg n.decls t=true):=λn1 n2 h1 h2=>
   dW (T:=T) (λv c a1 a2 a3 a4 a5=>hT v c (by omega) ⟨a1,a2,a4,a5⟩ n1 n2 h1 h2) B S hN
  obtain⟨m1,rfl⟩ :∃q,n1=q+1:=⟨n1-1,by omega⟩
  obtain⟨m2,rfl⟩ :∃q,n2=q+1:=⟨n2-1,by omega⟩
  obtain⟨t,q1,q2,q3⟩:=step m m (qU _) (qU _);obtain⟨t',r1,r2,_⟩:=step m m2 (qU _) (by omega);obtain⟨t'',s1,s2,_⟩:=step m1 m (by omega) (qU _);have e1:t'=t:=by rw[q1]at r1;cases r1;rfl
  have e2:t''=t:=by rw[q2]at s2;cases s2;rfl
  subst e1;subst e2;have e3:(Da N (m+1) n v b).getD 0=t'':=by rw[Da,q1];rfl
  dsimp only;rw[e3];exact⟨by rw[Da];exact s1,by rw[BM];exact r2,q3⟩
end RC
namespace RC
open Go
structure bX (r:CQ):Prop where
 params:IJ JC r.params
 CE:IJ JC r.CE
 result:JC r.result
 body:Rr r.body
structure eO (n:Ax):Prop where
 decls:IJ NX n.decls
 AU:IJ bX n.AU
def kg (r:CQ):Nat:=r.params.length+r.CE.length+Qw r.body
def dg (n:Ax):Nat:=(n.decls.length+(n.decls.map dz).sum)+(n.AU.length+(n.AU.map kg).sum)
structure JZ (n:Ax):Prop where
 Ch:eO n
 size:dg n<=1048576
theorem JZ.decls {n:Ax}(S:JZ n):RD n.decls:=by
 have h:=S.size;unfold dg at h;have hd:∀d∈n.decls,dz d<=1048576:=λd hd=>by have:=Jl dz hd;omega
 refine⟨by omega,λd hm=>?_,λd hm c hc=>?_⟩
 ·have:=hd d hm;unfold dz at this;omega
 ·have:=hd d hm;unfold dz at this;have:=Jl cz hc;show cz c<=_;omega
theorem JZ.TK {n:Ax}(S:JZ n):n.AU.length<=1048576:=by have h:=S.size;unfold dg at h;omega
theorem JZ.rz {n:Ax}(S:JZ n){r:CQ}(hr:r∈n.AU):r.params.length<=1048576/\r.CE.length<=1048576/\Bs r.body:=by
 have h:=S.size;unfold dg at h;have h2:=Jl kg hr;have h3:kg r=r.params.length+r.CE.length+Qw r.body:=rfl;unfold Bs;omega
theorem aT {n:Ax}(hl:n.AU.length<=1048576){N:Nat}(hN:2000000<=N):Q3 N n=some ⟨n.decls,n.AU.map TW⟩:=by
 have key:∀{N i:Nat},i<=n.AU.length->n.AU.length-i<N->IS n N i ((n.AU.take i).map TW)=some (n.AU.map TW):=by
  intro N i hi hN;refine Bm n.AU.length (λN i=>IS n N i ((n.AU.take i).map TW)=some (n.AU.map TW)) ?_ ?_ hi hN
  ·intro q;rw[IS,G7,ri]
  ·intro q i hi ih;obtain⟨r,hr,_⟩:=Ba hi;rw[IS,Gp,Av hr,po,Cp _ _ _ (by simp;omega) (by simp;omega),wI,show ((i:Int)+1)=((i+1:Nat):Int) by omega,po];rw[<- ih,Gg hr,rM];rfl
 have:=key (qd _) (by omega:n.AU.length-0<N);rw[uS,tV,rf]at this;unfold Q3;rw[this];rfl
theorem cJ {n:Ax}(hl:n.AU.length<=1048576){N:Nat}(hN:2000000<=N):EJ n N 0 []=some (Dc n).funcs:=by
 have key:∀{N i:Nat},i<=n.AU.length->n.AU.length-i<N->EJ n N i ((n.AU.take i).map λr=>(⟨r.params,r.CE,r.result⟩:BX))=some (Dc n).funcs:=by
  intro N i hi hN;refine Bm n.AU.length (λN i=>EJ n N i ((n.AU.take i).map λr=>(⟨r.params,r.CE,r.result⟩:BX))=some (Dc n).funcs) ?_ ?_ hi hN
  ·intro q;rw[EJ,G7,ri];rfl
  ·intro q i hi ih;obtain⟨r,hr,_⟩:=Ba hi;rw[EJ,Gp,Av hr,po,Cp _ _ _ (by simp;omega) (by simp;omega),wI,show ((i:Int)+1)=((i+1:Nat):Int) by omega,po];rw[<- ih,Gg hr,rM];rfl
 have:=key (qd _) (by omega:n.AU.length-0<N);simpa using this
def Vd (r:CQ):Bool:=E4 (Jd r.params r.CE) 0 r.CE
def bR (n:Ax):Bool:=decide (n.AU.length<=4)&&(N1 n.decls (n.AU.map λr=>(r.params,r.result))&&n.AU.all Vd)
theorem WK {n:Ax}(S:JZ n){N:Nat}(hN:2000000<=N):KA N n=some (bR n):=by
 have hl:=S.TK;unfold KA bR;have L:=D5 (l:=n.AU) (F6 N n) (λ_ r=>Vd r) (λq=>by rw[F6,G7]) (λq i r hi=>by
  have wz:=(px.1 hi).1;obtain⟨z1,z2,z3⟩:=S.rz (pt hi);rw[F6,Gp,Av hi,po,Tf z1 z2 hN,wI,show ((i:Int)+1)=((i+1:Nat):Int) by omega,po];unfold Vd;cases E4 (Jd r.params r.CE) 0 r.CE<;>rfl) (by omega:n.AU.length<N)
 rw[Fg]at L;have e1:(n.AU.map TW).map (λf=>(f.params,f.result))=n.AU.map λr=>(r.params,r.result):=by rw[ra];rfl
 rw[aT hl hN,L,D6,po,Oj (p:=⟨n.decls,n.AU.map TW⟩) S.decls (by simpa using hl) (λf hf=>by obtain⟨r,hr,rfl⟩:=qT.1 hf;exact (S.rz hr).1) hN,e1];have e4:decide ((4:Int)<Sh.len n.AU)=!decide (n.AU.length<=4):=by rw[<- decide_not];exact rP.2 (by rw[AK];omega)
 rw[e4,po];cases decide (n.AU.length<=4)<;>cases N1 n.decls (n.AU.map λr=>(r.params,r.result))<;>cases n.AU.all Vd<;>rfl
theorem db {n:Ax}(S:JZ n){N:Nat}(hN:2000000<=N):∃q,JQ N n=some (q,bR n)/\(bR n=true->q=Dc n):=by
 have hl:=S.TK;unfold JQ bR;have e4:decide ((4:Int)<Sh.len n.AU)=!decide (n.AU.length<=4):=by rw[<- decide_not];exact rP.2 (by rw[AK];omega)
 rw[e4,cJ hl hN,po,Oo S.decls (by rw[LX];exact hl) (λf hf=>by obtain⟨r,hr,rfl⟩:=qT.1 (show f∈n.AU.map _ from hf);exact⟨(S.rz hr).1,(S.rz hr).2.1⟩) hN];have e1:((Dc n).funcs.map λf=>(f.params,f.result))=n.AU.map λr=>(r.params,r.result):=by
  show (n.AU.map _).map _=_;rw[ra];rfl
 have e2:((Dc n).funcs.all λf=>E4 (Jd f.params f.CE) 0 f.CE)=n.AU.all Vd:=by
  show (n.AU.map _).all _=_;rw[tk];rfl
 rw[e1,e2];cases h4:decide (n.AU.length<=4) with
 | false=>exact⟨⟨[],[]⟩,rfl,λh=>by simp at h⟩
 | true=>exact⟨Dc n,rfl,λ_=>rfl⟩
def Nw (T:List Int->Block->Int)(r:CQ):Bool:=decide (Ho r.body<=600)&&decide (T r.params r.body=r.result)
theorem T9 {n:Ax}(S:JZ n){N:Nat}(hN:2000000<=N):∃b,Iq N n=some b/\Ez N n=some b:=by
 have hl:=S.TK;obtain⟨q,h1,h2⟩:=db S hN;unfold Iq Ez;rw[WK S hN,h1];simp only[po];cases hs:bR n with
 | false=>exact⟨false,rfl,rfl⟩
 | true=>
  have hq:=h2 hs;subst hq;have SO:LV n:=by
   unfold bR at hs;simp only[qP]at hs;have:=FN.of (p:=⟨n.decls,n.AU.map TW⟩) (by
    rw[show List.map (λf:Ar=>(f.params,f.result)) (n.AU.map TW)=n.AU.map λr=>(r.params,r.result) by rw[ra];rfl];exact hs.2.1)
   exact this
  obtain⟨T,hT⟩:=UA SO hN 601;have xe:∀r∈n.AU,Ho r.body<=600->Nz N n r.params r.body=some (T r.params r.body)/\IG N (Dc n) r.params r.body=some (T r.params r.body):=λr hr he=>by
   obtain⟨q1,q2,q3⟩:=SO.Nf (TW r) (sI hr);have q1':r.params.length<=3:=q1;obtain⟨z1,z2,z3⟩:=hT r.params r.body (by omega) ⟨(S.Ch.AU.1 r hr).body,(S.rz hr).2.2,by omega,q2⟩ N N (by omega) (by omega);exact⟨z1,z2⟩
  have L1:=D5 (l:=n.AU) (ER N n) (λ_ r=>Nw T r) (λq=>by rw[ER,G7]) (λq i r hi=>by
   have wz:=(px.1 hi).1;have hr:=pt hi;rw[ER,Gp,Av hi];simp only[po];rw[QK (S.rz hr).2.2 hN,wI,show ((i:Int)+1)=((i+1:Nat):Int) by omega];simp only[po];unfold Nw;by_cases he:Ho r.body<=600
   ·rw[qF he,qG (by simp),(xe r hr he).1];by_cases hq:T r.params r.body=r.result<;>simp[he,hq]
   ·rw[qG he];simp[he]) (by omega:n.AU.length<N)
  have L2:=D5 (l:=n.AU) (FP N n (Dc n,true)) (λ_ r=>Nw T r) (λq=>by rw[FP,G7]) (λq i r hi=>by
   have wz:=(px.1 hi).1;have hr:=pt hi;rw[FP,Gp,Av hi];simp only[po];rw[Vn (S.rz hr).2.2 hN,wI,show ((i:Int)+1)=((i+1:Nat):Int) by omega];simp only[po];unfold Nw;by_cases he:Ho r.body<=600
   ·rw[qF he,qG (by simp),(xe r hr he).2];by_cases hq:T r.params r.body=r.result<;>simp[he,hq]
   ·rw[qG he];simp[he]) (by omega:n.AU.length<N)
  rw[Fg]at L1 L2;refine⟨n.AU.all (Nw T),?_,?_⟩
  ·simp only[rA,py,qR];rw[L1,D6];cases n.AU.all (Nw T)<;>rfl
  ·simp only[rA,py,qR];rw[L2,D6];cases n.AU.all (Nw T)<;>rfl
end RC
namespace RC
open Go
def kZ (s:Step):Bool:=!Qj s.op&&decide (s.Ed=0)
mutual
def er:Step->Bool|.mk o _ i _ k=>(!Qj o&&decide (i=0))&&aq k
def aq:List (Ik Step)->Bool|[]=>true|b::k=>T3 b&&aq k
def T3:Ik Step->Bool|⟨ss,_⟩=>bV ss
def bV:List Step->Bool|[]=>true|s::l=>er s&&bV l
end
theorem gC (s:Step):er s=(kZ s&&aq s.kids):=by cases s;simp only[er];rfl
theorem aN (b:Block):T3 b=bV b.steps:=by cases b;simp[T3]
theorem cY:∀k:List Block,aq k=k.all T3
 | []=>rfl
 | b::k=>by rw[sL,<- cY k];simp only[aq]
theorem Xk:∀l:List Step,bV l=l.all er
 | []=>rfl
 | s::l=>by rw[sL,<- Xk l];simp only[bV]
theorem jK (f:Bool)(s:Step):HJ f s=some (f&&kZ s):=by
 unfold HJ kZ;rw[QQ,po];cases f<;>cases Qj s.op<;>rfl
theorem iC {s:Step}{rec:Bool->Block->Option Bool}(hk:s.kids.length<=1048576)(wF :∀c∈s.kids,∀f,rec f c=some (f&&T3 c)){N i:Nat}(hi:i<=s.kids.length)(hN:s.kids.length-i<N):∀f:Bool,EE s rec N i f=some (f&&aq (s.kids.drop i)):=by
 refine Bm s.kids.length (λN i=>∀f:Bool,EE s rec N i f=some (f&&aq (s.kids.drop i))) ?_ ?_ hi hN
 ·intro n f;rw[EE,G7];simp[aq]
 ·intro n i hi ih f;obtain⟨c,hc,xH⟩:=Ba hi;rw[EE,Gp,Av hc,po,wF c xH,wI,show ((i:Int)+1)=((i+1:Nat):Int) by omega,drop_cons hc,po,ih,aq,tQ]
theorem jB {b:Block}{rec:Bool->Block->Option Bool}{M:Nat}(hM:2000000<=M)(hb:Bs b)(wF :∀s∈b.steps,∀c∈s.kids,∀f,rec f c=some (f&&T3 c)){N i:Nat}(hi:i<=b.steps.length)(hN:b.steps.length-i<N):∀f:Bool,EC M b rec N i f=some (f&&bV (b.steps.drop i)):=by
 have hl:=hb.len;refine Bm b.steps.length (λN i=>∀f:Bool,EC M b rec N i f=some (f&&bV (b.steps.drop i))) ?_ ?_ hi hN
 ·intro n f;rw[EC,G7];simp[bV]
 ·intro n i hi ih f;obtain⟨s,hs,yB⟩:=Ba hi;rw[EC,Gp,Av hs,po];have l2:=iC (s:=s) (Sl hb yB) (wF s yB) (qd _) (by have:=Sl hb yB;omega:s.kids.length-0<M) (f&&kZ s);rw[uS,rG]at l2;rw[jK,po,l2,wI,show ((i:Int)+1)=((i+1:Nat):Int) by omega,drop_cons hs,po,ih,bV,gC,tQ,tQ,tQ]
theorem Yw {N:Nat}(hN:2000000<=N):∀(m:Nat) (b:Block),Bs b->Qw b<m->∀f,GN N m f b=some (f&&T3 b):=by
 intro m
 induction m with
 | zero=>intro b _ h;omega
 | succ m ih=>
  intro b hb hm f;have hl:=hb.len;rw[GN];unfold Jc;have L:=jB hN hb (rec:=GN N m) (λs hs c hc=>ih c (Sq hb hs hc).1 (by have:=(Sq hb hs hc).2;omega)) (qd _) (by omega:b.steps.length-0<N) f;rw[uS,rG]at L;rw[L,aN];rfl
theorem Rc {N:Nat}(hN:2000000<=N){b:Block}(hb:Bs b):H9 N b=some (T3 b):=by
 unfold H9 Mq;rw[Yw hN N b hb (by unfold Bs at hb;omega)];simp
end RC
namespace RC
open Go
theorem bY {α:Type}(A B:List α)(x:α):Sh.get (A++x::B) (A.length:Int)=some x:=Av (by simp)
theorem cP {α:Type}(A B:List α)(x y:α):Sh.put (A++x::B) (A.length:Int) y=A++y::B:=by rw[T5];simp
mutual
def ms:Step->Nat|.mk _ _ _ a k=>3+a.length+ot k
def ot:List (Ik Step)->Nat|[]=>0|b::k=>mb b+ot k
def mb:Ik Step->Nat|⟨ss,_⟩=>oz ss+1
def oz:List Step->Nat|[]=>0|s::l=>ms s+oz l
end
end RC
namespace RC
open Go
theorem ZU {α β:Type}{l:List α}(L:Nat->Int->List β->Option (List β))(g:α->β)(h0 :∀n acc,L (n+1) ((l.length:Nat):Int) acc=some acc)
  (hs :∀n i x acc,l[i]?=some x->acc.length=i->L (n+1) ((i:Nat):Int) acc=L n ((i+1:Nat):Int) (acc++[g x])) {N:Nat} (hN:l.length<N):L N 0 []=some (l.map g):=by
 have key:∀{N i:Nat},i<=l.length->l.length-i<N->L N (i:Int) ((l.take i).map g)=some (l.map g):=by
  intro N i hi hN;refine Bm l.length (λN i=>L N (i:Int) ((l.take i).map g)=some (l.map g)) ?_ ?_ hi hN
  ·intro n;rw[h0,ri]
  ·intro n i hi ih;obtain⟨x,hx,_⟩:=Ba hi;rw[hs n i x _ hx (by simp;omega),<- ih,Gg hx,rM];rfl
 have:=key (qd _) (by omega:l.length-0<N);simpa using this
theorem Z0 {α:Type}{l:List α}(L:Nat->Int->List α->Option (List α))(g:α->α)(h0 :∀n acc,L (n+1) ((l.length:Nat):Int) acc=some acc)
  (hs :∀n (A:List α) (x:α) (C:List α),A.length+C.length<l.length->l[A.length]?=some x->L (n+1) ((A.length:Nat):Int) (A++x::C)=L n ((A.length+1:Nat):Int) (A++g x::C)) {N:Nat} (hN:l.length<N):L N 0 l=some (l.map g):=by
 have key:∀(C A:List α) (n:Nat),C.length<n->A.length<=l.length->C=l.drop A.length->L n ((A.length:Nat):Int) (A++C)=some (A++C.map g):=by
  intro C
  induction C with
  | nil=>
   intro A n hn h1 h2;obtain⟨n,rfl⟩ :∃m,n=m+1:=⟨n-1,by simp at hn;omega⟩
   have h3:=rC List.length h2;simp at h3;rw[show A.length=l.length by omega,h0];simp
  | cons x C ih=>
   intro A n hn h1 h2;have h3:=rC List.length h2;simp only[qa,sB]at hn h3;obtain⟨n,rfl⟩ :∃m,n=m+1:=⟨n-1,by omega⟩
   have hx:l[A.length]?=some x:=by
    have:=rC (λz=>z[0]?) h2;simpa using this.symm
   rw[hs n A x C (by omega) hx];have:=ih (A++[g x]) n (by omega) (by simp;omega) (by
    rw[drop_cons hx]at h2;simpa using (tc h2).2)
   simpa using this
 have:=key l [] N hN (by simp) (by simp);simpa using this
theorem pS {l:List Int}(hl:l.length<=1048576):EP l=some l:=by
 unfold EP;rw[Cp [] l 8 (by simp;omega) (by simp;omega)];rfl
theorem jt {l:List Int}(hl:l.length<=1048576):Bx l=some l:=by
 unfold Bx;rw[Cp [] l 8 (by simp;omega) (by simp;omega)];rfl
theorem ZI {D:List AI}{i:Nat}{d:AI}(hd:D[i]?=some d)(hz:dz d<=1048576){N:Nat}(hN:2000000<=N):FE i D N 0 []=some d.cons:=by
 unfold dz at hz;rw[ZU (l:=d.cons) (FE i D) id (λn acc=>by rw[FE,Av hd];simp only[po];rw[G7]) (λn j c acc hc ha=>?_) (by omega)]
 ·simp
 ·have hj:=(px.1 hc).1;have hcz:=Jl cz (pt hc);rw[FE,Av hd,po,Gp,Av hc,po,pS (show cz c<=1048576 by omega),po,Cp acc _ 24 (by simp;omega) (by simp;omega),po];rw[wN];rfl
theorem ZG {D:List AI}(hl:D.length<=1048576)(hz :∀d∈D,dz d<=1048576){N:Nat}(hN:2000000<=N):Jt N D=some D:=by
 unfold Jt;rw[ZU (l:=D) (GK N D) id (λn acc=>by rw[GK,G7]) (λn j c acc hc ha=>?_) (by omega)]
 ·simp
 ·have hj:=(px.1 hc).1;rw[GK,Gp,ZI hc (hz c (pt hc)) hN,Av hc];simp only[po];rw[Cp acc _ 40 (by simp;omega) (by simp;omega)];simp only[po];rw[wN];rfl
theorem XJ {D:List AI}(hl:D.length<=1048576)(hz :∀d∈D,dz d<=1048576){N:Nat}(hN:2000000<=N):JE N D=some D:=by
 unfold JE Dm;rw[Cp [] D 40 (by simp;omega) (by simp;omega)];simp only[po,rN];rw[Z0 (l:=D) (Es N (Sh.len D)) id (λn acc=>by rw[Es,G7]) (λn A d C hA hd=>?_) (by omega)]
 ·simp
 ·have h1:=hz d (pt hd);unfold dz at h1;rw[Es,Gp,bY,po];unfold DN;rw[Cp [] d.cons 24 (by simp;omega) (by simp;omega)];simp only[po,rN];rw[Z0 (l:=d.cons) (Em d.cons) id (λn acc=>by rw[Em,G7]) (λn B c E hB hc=>?_) (by omega)]
  ·simp only[po,cP,rZ];rw[wN];rfl
  ·have hcz:=Jl cz (pt hc);have hl:=(px.1 hc).1;rw[Em,Gp,Av hc,po,jt (show cz c<=1048576 by omega),bY,po];rw[cP,wN];rfl
end RC
namespace RC
open Go
end RC
namespace RC
end RC
namespace RC
open Go
mutual
def vs:Step->List Int|.mk o _ _ a k=>if Qj o then [] else a++om k
def om:List (Ik Step)->List Int|[]=>[]|b::k=>pQ b++om k
def pQ:Ik Step->List Int|⟨ss,r⟩=>pM ss++[r]
def pM:List Step->List Int|[]=>[]|s::l=>vs s++pM l
end
end RC
namespace RC
open Go
def pD (h:List Cell)(j:Nat)(w:Int):Bool:=nW h w&&decide ((w-1000).toNat=j)
def Su (h:List Cell)(ws:List Int)(j:Nat):Nat:=ws.countP (pD h j)
theorem oo (h:List Cell)(j:Nat):Su h [] j=0:=rfl
def oU (l:List Nat):List Int:=List.map (λn:Nat=>(n:Int)) l
end RC
namespace RC
open Go
def mk (m:Nat->Bool)(n i:Nat):List Nat:=(List.range' i (n-i)).filter m
def oP (m:Nat->Bool)(j:Nat):Nat->Bool:=λk=>m k || decide (k=j)
def nj (m:Nat->Bool)(l:List Int):Nat->Bool:=λk=>m k || decide ((k:Int)∈l)
mutual
def nD:AG->List Int|.mk o n k=>(if o=9∨o=10 then [n] else [])++kQ k
def kQ:List AG->List Int|[]=>[]|e::l=>nD e++kQ l
end
end RC
namespace RC
open Go
def push:List Int->(Nat->Bool)->List Int->(Nat->Bool)×List Int
 | [],m,w=>(m,w)
 | x::q,m,w=>if m x.toNat then push q m w else push q (oP m x.toNat) (w++[x])
end RC
namespace RC
open Go
def pY (p:AP)(k:Nat):List Int:=match p.funcs[k]? with|some f=>nD f.body|none=>[]
def pU:Nat->Bool:=λ_=>false
def cl (p:AP)(F k:Nat):List Int:=oU (mk (nj pU (pY p k)) F 0)
end RC
namespace RC
open Go
end RC
namespace RC
open Go
end RC
namespace RC
open Go
section
variable {p : AP} {R1 : AP -> List Int -> AG -> Option Int} {R2 : List Int -> Ah -> AG -> Option Int} {T : List Int -> AG -> Int} {e : AG} {v : List Int} {N : Nat}
theorem Za {l:List Int}(h:Fb l≠-1):∀x∈l,x≠-1:=by
 cases l with
 | nil=>exact absurd rfl h
 | cons a r=>
  simp only[Fb]at h;by_cases hr:r.all (λx=>decide (x=a))=true
  ·rw[qF hr]at h;intro x hx;rcases qH.1 hx with rfl|hx
   ·exact h
   ·have:=qC.1 hr x hx;simp only[qJ]at this;rw[this];exact h
  ·rw[qG hr]at h;exact absurd rfl h
theorem kz (H:Ou p (G0 p) R1 R2 T (en e))(V:Jj p e v)(S:FN p.decls p.funcs)(hN:2000000<=N){t:Int}(hB:BG N R2 v (G0 p) e=some t)(ht:t≠-1):
  ∀k∈e.kids,∃m:List Int,m.length<=3/\(∀x∈m,Cg p.decls x=true)/\T (v++m) k≠-1:=by
 have hv:v.length<=1000:=by have:=V.len;omega
 have nil:∀k,T v k≠-1->∃m:List Int,m.length<=3/\(∀x∈m,Cg p.decls x=true)/\T (v++m) k≠-1:=λk h=>⟨[],by simp,λx hx=>(by cases hx),by simpa using h⟩;by_cases h12:e.op=12
 ·unfold BG at hB;simp only[h12,qN,qe]at hB;intro k hk;have:0<Sh.len e.kids:=by rw[AK];have:=sS hk;omega
  simp only[this,qN,qe,po,pz]at hB;exact absurd hB.symm ht
 by_cases h13:e.op=13
 ·unfold BG at hB;simp only[h13,Int.reduceEq,qN,qM,py,qe,qR]at hB;by_cases hl:e.kids.length=2
  ·obtain⟨a,b,hk⟩ :∃a b,e.kids=[a,b]:=by
    match hk:e.kids,hl with
    | [a,b],_=>exact⟨a,b,rfl⟩
   have wU:a∈e.kids:=by rw[hk];simp
   have yi:b∈e.kids:=by rw[hk];simp
   obtain⟨a1,a2,a3⟩:=H v a (V.Ch.kids a wU) (FX wU) (V.OG wU) V.Ni;have g0:Sh.get e.kids 0=some a:=by rw[hk];rfl
   have g1:Sh.get e.kids 1=some b:=by rw[hk];rfl
   rw[g0,g1]at hB;simp only[po,AK,hl]at hB;rw[a2]at hB;simp only[po]at hB;by_cases hn:e.num=0
   ·by_cases h0:T v a<0
    ·simp[hn,h0]at hB;exact absurd hB.symm ht
    ·have xe:Cg p.decls (T v a)=true:=a3.resolve_left (by omega);obtain⟨b1,b2,b3⟩:=H (v++[T v a]) b (V.Ch.kids b yi) (FX yi) (V.more yi (by simp)) (V.UL (by simp[xe]));rw[Cp v [T v a] 8 (by simp;omega) (by simp;omega)]at hB;simp only[po,b2]at hB;simp[hn,h0]at hB;intro k xE;rw[hk]at xE;simp only[qH,qi,rI]at xE;rcases xE with rfl|rfl
     ·exact nil _ (by omega)
     ·exact⟨[T v a],by simp,by simp[xe],by rw[hB];exact ht⟩
   ·simp[hn]at hB;exact absurd hB.symm ht
  ·have:¬ ((e.kids.length:Int)=2):=by omega
   simp[AK,this]at hB;exact absurd hB.symm ht
 by_cases h7:e.op=7
 ·unfold BG at hB;simp only[h7,Int.reduceEq,qN,qM,py,qe,qR]at hB;by_cases hl:e.kids.length=3
  ·obtain⟨a,b,c,hk⟩ :∃a b c,e.kids=[a,b,c]:=by
    match hk:e.kids,hl with
    | [a,b,c],_=>exact⟨a,b,c,rfl⟩
   have wU:a∈e.kids:=by rw[hk];simp
   have yi:b∈e.kids:=by rw[hk];simp
   have hmc:c∈e.kids:=by rw[hk];simp
   obtain⟨a1,a2,a3⟩:=H v a (V.Ch.kids a wU) (FX wU) (V.OG wU) V.Ni;have g0:Sh.get e.kids 0=some a:=by rw[hk];rfl
   have g3:Sh.sl e.kids 1 3=some [b,c]:=by rw[hk];rfl
   have o:=MA (ks:=[b,c]) (ms:=[[],[]]) H V hN (by intro k hk;simp only[qH,qi,rI]at hk;rcases hk with rfl|rfl<;>assumption) (by simp) rfl (by simp);have mk2:Sh.mk ([]:List Int) 2 24=some [[],[]]:=Mz [] 2 24 (by omega) (by omega);rw[g0]at hB;simp only[po,AK,hl]at hB;rw[a2,show ((3:Nat):Int)=3 from rfl,g3,mk2]at hB;simp only[po]at hB;rw[o]at hB;by_cases hn:e.num=0
   ·by_cases h0:T v a=0
    ·simp[hn,h0]at hB;have zR:=Za (l:=[T v b,T v c]) (by rw[hB];exact ht);intro k xE;rw[hk]at xE;simp only[qH,qi,rI]at xE;rcases xE with rfl|rfl|rfl
     ·exact nil _ (by omega)
     ·exact nil _ (zR _ (by simp))
     ·exact nil _ (zR _ (by simp))
    ·simp[hn,h0]at hB;exact absurd hB.symm ht
   ·simp[hn]at hB;exact absurd hB.symm ht
  ·have:¬ ((e.kids.length:Int)=3):=by omega
   simp[AK,this]at hB;exact absurd hB.symm ht
 by_cases h8:e.op=8
 ·have xu:=V.LY;have hD:=S.MY;have hn:=S.nc;have hCl:=L4 S.RJ e.num;unfold BG at hB;simp only[h8,Int.reduceEq,qN,qM,py,qe,qR]at hB;rw[show (G0 p).decls=p.decls from rfl,Jp (by omega) (by omega) hN]at hB;simp only[po]at hB;generalize hCe:CB p.decls e.num=C at hCl hB;have hCm:∀c∈C,BV N p.decls c=some (E2 p.decls c)/\Dy N p.decls c=some (E2 p.decls c)/\(E2 p.decls c).length<=3/\∀x∈E2 p.decls c,Cg p.decls x=true:=λc hc=>Kt S (hCe▸hc) hN;rw[AK C,AK e.kids,Co (n:=1+(C.length:Int)) (by omega) (by omega)]at hB;by_cases h0:C.length=0
  ·simp[h0]at hB;exact absurd hB.symm ht
  ·have ye:¬ ((C.length:Int)=0):=by omega
   have vZ:¬ C=[]:=λq=>h0 (by rw[q];rfl);by_cases h1:e.kids.length=1+C.length
   ·have xM:((e.kids.length:Int)=1+(C.length:Int)):=by omega
    obtain⟨a,r,vx⟩ :∃a r,e.kids=a::r:=by
     cases hq:e.kids with
     | nil=>rw[hq]at h1;simp at h1;omega
     | cons a r=>exact⟨a,r,rfl⟩
    have hrl:r.length=C.length:=by rw[vx]at h1;simp at h1;omega
    have wU:a∈e.kids:=by rw[vx];simp
    have hmr:∀k∈r,k∈e.kids:=λk hk=>by rw[vx];simp[hk]
    obtain⟨a1,a2,a3⟩:=H v a (V.Ch.kids a wU) (FX wU) (V.OG wU) V.Ni;have g0:Sh.get e.kids 0=some a:=by rw[vx];rfl
    have g3:Sh.sl e.kids 1 (e.kids.length:Int)=some r:=by
     unfold Sh.sl;rw[qF ⟨by omega,by omega,by omega⟩,vx];simp
    have mkC:Sh.mk ([]:List Int) (C.length:Int) 24=some (List.replicate C.length []):=Mz [] C.length 24 (by omega) (by omega);have o:=MA (ks:=r) (ms:=C.map (E2 p.decls)) H V hN hmr (by omega) (by simp[hrl]) (by
     intro m hm;obtain⟨c,hc,rfl⟩:=qT.1 hm;exact (hCm c hc).2.2)
    have FL:=Qv (p:=p) S hN hCl λc hc=>(hCm c hc).2.1;rw[g0,g3,mkC]at hB;simp only[po]at hB;rw[a2,FL]at hB;simp only[po]at hB;rw[o]at hB;by_cases hta:T v a=e.num
    ·simp[vZ,xM,hta]at hB;have zR:=Za (by rw[hB];exact ht);intro k xE;rw[vx]at xE;rcases qH.1 xE with rfl|xE
     ·refine nil _ λhq=>?_;have hneg:e.num=-1:=by rw[<- hta];exact hq
      rw[hneg]at hCe;exact h0 (by rw[<- hCe];simp[CB])
     ·obtain⟨i,hi⟩:=qf.1 xE;have wz:=(px.1 hi).1;obtain⟨c,hc,xH⟩:=Ba (l:=C) (i:=i) (by omega);refine⟨E2 p.decls c,(hCm c xH).2.2.1,(hCm c xH).2.2.2,zR _ (qf.2 ⟨i,?_⟩)⟩;rw[sA,qA,hc,hi];rfl
    ·simp[vZ,xM,hta]at hB;exact absurd hB.symm ht
   ·have xM:¬ ((e.kids.length:Int)=1+(C.length:Int)):=by omega
    simp[vZ,xM]at hB;exact absurd hB.symm ht
 rw[HD H V hN h12 h13 h7 h8]at hB;by_cases h:(e.kids.map (T v)).any (λt=>decide (t<0))=true
 ·rw[qF h]at hB;simp at hB;exact absurd hB.symm ht
 ·intro k hk;refine nil k λhq=>h ?_;exact sd.2 ⟨T v k,sI hk,by rw[hq];rfl⟩
end
end RC
namespace RC
open Go
def TT (p:AP)(N:Nat)(T:List Int->AG->Int):Prop:=∀(v:List Int) (e:AG),BF e->en e<31->v.length+3*en e<=1000->(∀x∈v,Cg p.decls x=true)->
  ∀n1 n2,31<=n1->31<=n2->D1 N n1 p v e=some (T v e)/\Bo N n2 v (G0 p) e=some (T v e)/\(T v e=-1∨Cg p.decls (T v e)=true)
end RC
namespace RC
open Go
structure pC (p:AP) (T:List Int->AG->Int) (N:Nat) (e:AG) (v:List Int) (t:Int):Prop where
 var:e.op=12->e.kids=[]/\Sh.get v e.num=some t
 mz:e.op=13->∃a b,e.kids=[a,b]/\Cg p.decls (T v a)=true/\T (v++[T v a]) b=t
 og:e.op=7->∃a b c,e.kids=[a,b,c]/\e.num=0/\T v a=0/\T v b=t/\T v c=t
 pO:e.op=8->∃a r,e.kids=a::r/\T v a=e.num/\r.length=(CB p.decls e.num).length/\r≠[]/\∀(i:Nat) c k,(CB p.decls e.num)[i]?=some c->r[i]?=some k->T (v++E2 p.decls c) k=t
 nP:¬ e.op=12->¬ e.op=13->¬ e.op=7->¬ e.op=8->AS N (G0 p) e.op e.num (e.kids.map (T v))=some (t,true)/\∀k∈e.kids,0<=T v k
theorem dV {l:List Int}{t:Int}(h:Fb l=t)(ht:t≠-1):∀x∈l,x=t:=by
 cases l with
 | nil=>exact absurd h.symm ht
 | cons a r=>
  simp only[Fb]at h;by_cases hr:r.all (λx=>decide (x=a))=true
  ·rw[qF hr]at h;subst h;intro x hx;rcases qH.1 hx with rfl|hx
   ·rfl
   ·have:=qC.1 hr x hx;simpa using this
  ·rw[qG hr]at h;exact absurd h.symm ht
section
variable {p : AP} {R1 : AP -> List Int -> AG -> Option Int} {R2 : List Int -> Ah -> AG -> Option Int} {T : List Int -> AG -> Int} {e : AG} {v : List Int} {N : Nat}
theorem eJ (H:Ou p (G0 p) R1 R2 T (en e))(V:Jj p e v)(S:FN p.decls p.funcs)(hN:2000000<=N){t:Int}(hB:BG N R2 v (G0 p) e=some t)(ht:t≠-1):pC p T N e v t:=by
 have hv:v.length<=1000:=by have:=V.len;omega
 by_cases h12:e.op=12
 ·unfold BG at hB;simp only[h12,qN,qe]at hB;refine⟨λ_=>?_,λh=>by omega,λh=>by omega,λh=>by omega,λh=>absurd h12 h⟩;by_cases hk:0<Sh.len e.kids
  ·simp only[hk,qN,qe,po,pz]at hB;exact absurd hB.symm ht
  ·have hk0:e.kids=[]:=by
    refine qV ?_;rw[AK]at hk;omega
   refine⟨hk0,?_⟩;by_cases h0:e.num<0
   ·simp[hk,h0]at hB;exact absurd hB.symm ht
   ·by_cases h1:Sh.len v<=e.num
    ·simp[hk,h0,h1]at hB;exact absurd hB.symm ht
    ·simp only[hk,h0,h1,qM,py,qR,po]at hB;cases hg:Sh.get v e.num with
     | none=>rw[hg]at hB;simp at hB
     | some x=>rw[hg]at hB;simpa using hB
 by_cases h13:e.op=13
 ·unfold BG at hB;simp only[h13,Int.reduceEq,qN,qM,py,qe,qR]at hB;by_cases hl:e.kids.length=2
  ·obtain⟨a,b,hk⟩ :∃a b,e.kids=[a,b]:=by
    match hk:e.kids,hl with
    | [a,b],_=>exact⟨a,b,rfl⟩
   have wU:a∈e.kids:=by rw[hk];simp
   have yi:b∈e.kids:=by rw[hk];simp
   obtain⟨a1,a2,a3⟩:=H v a (V.Ch.kids a wU) (FX wU) (V.OG wU) V.Ni;have g0:Sh.get e.kids 0=some a:=by rw[hk];rfl
   have g1:Sh.get e.kids 1=some b:=by rw[hk];rfl
   rw[g0,g1]at hB;simp only[po,AK,hl]at hB;rw[a2]at hB;simp only[po]at hB;by_cases hn:e.num=0
   ·by_cases h0:T v a<0
    ·simp[hn,h0]at hB;exact absurd hB.symm ht
    ·have xe:Cg p.decls (T v a)=true:=a3.resolve_left (by omega);obtain⟨b1,b2,b3⟩:=H (v++[T v a]) b (V.Ch.kids b yi) (FX yi) (V.more yi (by simp)) (V.UL (by simp[xe]));rw[Cp v [T v a] 8 (by simp;omega) (by simp;omega)]at hB;simp only[po,b2]at hB;simp[hn,h0]at hB;exact⟨λh=>absurd h h12,λ_=>⟨a,b,hk,xe,hB⟩,λh=>by omega,λh=>by omega,λ_ h=>absurd h13 h⟩
   ·simp[hn]at hB;exact absurd hB.symm ht
  ·have:¬ ((e.kids.length:Int)=2):=by omega
   simp[AK,this]at hB;exact absurd hB.symm ht
 by_cases h7:e.op=7
 ·unfold BG at hB;simp only[h7,Int.reduceEq,qN,qM,py,qe,qR]at hB;by_cases hl:e.kids.length=3
  ·obtain⟨a,b,c,hk⟩ :∃a b c,e.kids=[a,b,c]:=by
    match hk:e.kids,hl with
    | [a,b,c],_=>exact⟨a,b,c,rfl⟩
   have wU:a∈e.kids:=by rw[hk];simp
   have yi:b∈e.kids:=by rw[hk];simp
   have hmc:c∈e.kids:=by rw[hk];simp
   obtain⟨a1,a2,a3⟩:=H v a (V.Ch.kids a wU) (FX wU) (V.OG wU) V.Ni;have g0:Sh.get e.kids 0=some a:=by rw[hk];rfl
   have g3:Sh.sl e.kids 1 3=some [b,c]:=by rw[hk];rfl
   have o:=MA (ks:=[b,c]) (ms:=[[],[]]) H V hN (by intro k hk;simp only[qH,qi,rI]at hk;rcases hk with rfl|rfl<;>assumption) (by simp) rfl (by simp);have mk2:Sh.mk ([]:List Int) 2 24=some [[],[]]:=Mz [] 2 24 (by omega) (by omega);rw[g0]at hB;simp only[po,AK,hl]at hB;rw[a2,show ((3:Nat):Int)=3 from rfl,g3,mk2]at hB;simp only[po]at hB;rw[o]at hB;by_cases hn:e.num=0
   ·by_cases h0:T v a=0
    ·simp[hn,h0]at hB;have zR:=dV (l:=[T v b,T v c]) hB ht;exact⟨λh=>absurd h h12,λh=>absurd h h13,λ_=>⟨a,b,c,hk,hn,h0,zR _ (by simp),zR _ (by simp)⟩,λh=>by omega,λ_ _ h=>absurd h7 h⟩
    ·simp[hn,h0]at hB;exact absurd hB.symm ht
   ·simp[hn]at hB;exact absurd hB.symm ht
  ·have:¬ ((e.kids.length:Int)=3):=by omega
   simp[AK,this]at hB;exact absurd hB.symm ht
 by_cases h8:e.op=8
 ·have xu:=V.LY;have hD:=S.MY;have hn:=S.nc;have hCl:=L4 S.RJ e.num;unfold BG at hB;simp only[h8,Int.reduceEq,qN,qM,py,qe,qR]at hB;rw[show (G0 p).decls=p.decls from rfl,Jp (by omega) (by omega) hN]at hB;simp only[po]at hB;generalize hCe:CB p.decls e.num=C at hCl hB;have hCm:∀c∈C,BV N p.decls c=some (E2 p.decls c)/\Dy N p.decls c=some (E2 p.decls c)/\(E2 p.decls c).length<=3/\∀x∈E2 p.decls c,Cg p.decls x=true:=λc hc=>Kt S (hCe▸hc) hN;rw[AK C,AK e.kids,Co (n:=1+(C.length:Int)) (by omega) (by omega)]at hB;by_cases h0:C.length=0
  ·simp[h0]at hB;exact absurd hB.symm ht
  ·have ye:¬ ((C.length:Int)=0):=by omega
   have vZ:¬ C=[]:=λq=>h0 (by rw[q];rfl);by_cases h1:e.kids.length=1+C.length
   ·have xM:((e.kids.length:Int)=1+(C.length:Int)):=by omega
    obtain⟨a,r,vx⟩ :∃a r,e.kids=a::r:=by
     cases hq:e.kids with
     | nil=>rw[hq]at h1;simp at h1;omega
     | cons a r=>exact⟨a,r,rfl⟩
    have hrl:r.length=C.length:=by rw[vx]at h1;simp at h1;omega
    have wU:a∈e.kids:=by rw[vx];simp
    have hmr:∀k∈r,k∈e.kids:=λk hk=>by rw[vx];simp[hk]
    obtain⟨a1,a2,a3⟩:=H v a (V.Ch.kids a wU) (FX wU) (V.OG wU) V.Ni;have g0:Sh.get e.kids 0=some a:=by rw[vx];rfl
    have g3:Sh.sl e.kids 1 (e.kids.length:Int)=some r:=by
     unfold Sh.sl;rw[qF ⟨by omega,by omega,by omega⟩,vx];simp
    have mkC:Sh.mk ([]:List Int) (C.length:Int) 24=some (List.replicate C.length []):=Mz [] C.length 24 (by omega) (by omega);have o:=MA (ks:=r) (ms:=C.map (E2 p.decls)) H V hN hmr (by omega) (by simp[hrl]) (by
     intro m hm;obtain⟨c,hc,rfl⟩:=qT.1 hm;exact (hCm c hc).2.2)
    have FL:=Qv (p:=p) S hN hCl λc hc=>(hCm c hc).2.1;rw[g0,g3,mkC]at hB;simp only[po]at hB;rw[a2,FL]at hB;simp only[po]at hB;rw[o]at hB;by_cases hta:T v a=e.num
    ·simp[vZ,xM,hta]at hB;have zR:=dV hB ht;refine⟨λh=>absurd h h12,λh=>absurd h h13,λh=>absurd h h7,λ_=>⟨a,r,vx,hta,by rw[hCe];exact hrl,λq=>h0 (by rw[<- hrl,q];rfl),λi c k hc hk=>?_⟩,λ_ _ _ h=>absurd h8 h⟩;rw[hCe]at hc;refine zR _ (qf.2 ⟨i,?_⟩);rw[sA,qA,hc,hk];rfl
    ·simp[vZ,xM,hta]at hB;exact absurd hB.symm ht
   ·have xM:¬ ((e.kids.length:Int)=1+(C.length:Int)):=by omega
    simp[vZ,xM]at hB;exact absurd hB.symm ht
 rw[HD H V hN h12 h13 h7 h8]at hB;by_cases h:(e.kids.map (T v)).any (λt=>decide (t<0))=true
 ·rw[qF h]at hB;simp at hB;exact absurd hB.symm ht
 ·rw[qG h]at hB;refine⟨λq=>absurd q h12,λq=>absurd q h13,λq=>absurd q h7,λq=>absurd q h8,λ_ _ _ _=>⟨?_,λk hk=>?_⟩⟩
  ·cases hs:AS N (G0 p) e.op e.num (e.kids.map (T v)) with
   | none=>rw[hs]at hB;simp at hB
   | some q=>
    obtain⟨a,b⟩:=q;rw[hs]at hB;cases b with
    | false=>simp at hB;exact absurd hB.symm ht
    | true=>simp at hB;rw[hB]
  ·refine Decidable.byContradiction λhq=>h (sd.2 ⟨T v k,sI hk,?_⟩);rw[qJ];omega
end
end RC
namespace RC
open Go
def GM (n m:Nat):List Int:=(List.range m).map λi=>((n+i:Nat):Int)
theorem Gm (n m:Nat):(GM n m).length=m:=by simp[GM]
theorem So (n m:Nat):GM n (m+1)=GM n m++[((n+m:Nat):Int)]:=by simp[GM,List.range_succ]
def HS (f:AG->Nat->Int×List Step):List AG->Nat->List Int×List Step
 | [],_=>([],[])
 | k::r,n=>((f k n).1::(HS f r (n+(f k n).2.length)).1,(f k n).2++(HS f r (n+(f k n).2.length)).2)
def Js (f:AG->List Int->Nat->Int×List Step)(env:List Int)(n:Nat):List AG->List Nat->List Block
 | k::r,m::ms=>⟨(f k (env++GM n m) (n+m)).2,(f k (env++GM n m) (n+m)).1⟩::Js f env n r ms
 | _,_=>[]
def G3 (D:List AI)(e:AG):List Nat:=if e.op=8 then (CB D e.num).map λc=>(E2 D c).length else [0,0]
def low (D:List AI):Nat->AG->List Int->Nat->Int×List Step
 | 0,_,_,_=>(0,[])
 | m+1,e,env,n=>
  if e.op=12 then ((Sh.get env e.num).getD 0,[])
  else if e.op=13 then
   match e.kids with
   | [a,b]=>((low D m b (env++[(low D m a env n).1]) (n+(low D m a env n).2.length)).1,(low D m a env n).2++(low D m b (env++[(low D m a env n).1]) (n+(low D m a env n).2.length)).2)
   | _=>(0,[])
  else if e.op=7∨e.op=8 then
   match e.kids with
   | a::r=>(((n+(low D m a env n).2.length:Nat):Int),(low D m a env n).2++[Step.mk e.op e.num 0 [(low D m a env n).1] (Js (low D m) env (n+(low D m a env n).2.length) r (G3 D e))])
   | []=>(0,[])
  else (((n+(HS (λk n=>low D m k env n) e.kids n).2.length:Nat):Int),(HS (λk n=>low D m k env n) e.kids n).2++[Step.mk e.op e.num 0 (HS (λk n=>low D m k env n) e.kids n).1 []])
def WS (D:List AI):Nat->Nat->AG->Prop
 | 0,_,_=>False
 | m+1,L,e=>
  (e.op=12->e.kids=[]/\0<=e.num/\e.num<L)/\
  (e.op=13->∃a b,e.kids=[a,b]/\WS D m L a/\WS D m (L+1) b)/\
  (e.op=7∨e.op=8->∃a r,e.kids=a::r/\r.length=(G3 D e).length/\WS D m L a/\∀(i:Nat) k q,r[i]?=some k->(G3 D e)[i]?=some q->q<=3/\WS D m (L+q) k)/\
  (¬ e.op=12->¬ e.op=13->¬ e.op=7->¬ e.op=8->∀k∈e.kids,WS D m L k)
theorem OR {f:AG->Nat->Int×List Step}:∀(l:List AG) (n:Nat),(∀k∈l,∀n,(f k n).2.length<=en k)->(HS f l n).2.length<=CN l
 | [],_,_=>by simp[HS]
 | k::r,n,h=>by
  have h1:=h k (by simp) n;have h2:=OR (f:=f) r (n+(f k n).2.length) λk hk=>h k (by simp[hk]);simp only[HS,qQ,CN];omega
theorem F4 (D:List AI):∀(m:Nat) (e:AG) (env:List Int) (n:Nat),(low D m e env n).2.length<=en e
 | 0,_,_,_=>by simp[low]
 | m+1,e,env,n=>by
  have hE:=LL e;unfold low;by_cases h1:e.op=12
  ·rw[qF h1];simp
  rw[qG h1];by_cases h2:e.op=13
  ·rw[qF h2]
   match hk:e.kids with
   | [a,b]=>
    have ha:=F4 D m a env n;have hb:=F4 D m b (env++[(low D m a env n).1]) (n+(low D m a env n).2.length);rw[hk]at hE;simp only[CN]at hE;simp only[qQ];omega
   | []=>simp
   | [_]=>simp
   | _::_::_::_=>simp
  rw[qG h2];by_cases h3:e.op=7∨e.op=8
  ·rw[qF h3]
   match hk:e.kids with
   | []=>simp
   | a::r=>
    have ha:=F4 D m a env n;rw[hk]at hE;simp only[CN]at hE;simp only[qQ,qa,qt];omega
  rw[qG h3];have:=OR (f:=λk n=>low D m k env n) e.kids n λk _ n=>F4 D m k env n;simp only[qQ,qa,qt];omega
theorem mV {n q:Nat}(hn:n+q<=100000)(env:List Int)(he:env.length<=100000){N:Nat}(hN:2000000<=N):EV (n:Int) (q:Int) N 0 env=some (env++GM n q):=by
 have key:∀(j:Nat) (N i:Nat),i+j=q->j<N->EV (n:Int) (q:Int) N (i:Int) (env++GM n i)=some (env++GM n q):=by
  intro j
  induction j with
  | zero=>
   intro N i hi hj;obtain⟨M,rfl⟩ :∃M,N=M+1:=⟨N-1,by omega⟩
   rw[EV,qG (by simp;omega),show i=q by omega]
  | succ j ih=>
   intro N i hi hj;obtain⟨M,rfl⟩ :∃M,N=M+1:=⟨N-1,by omega⟩
   rw[EV,qF (by simp;omega),Cp _ _ 8 (by simp[Gm];omega) (by simp[Gm];omega)];simp only[po];rw[Co (n:=(n:Int)+(i:Int)) (by omega) (by omega),Co (n:=(i:Int)+1) (by omega) (by omega)];have:=ih M (i+1) (by omega) (by omega);rw[So,<- qm]at this;exact this
 have:=key q N 0 (by omega) (by omega);simpa [GM] using this
end RC
namespace RC
open Go
theorem YQ {D:List AI}{e:AG}{env:List Int}{rec:List AI->Int->List Step->AG->List Int->Option (Int×Int×List Step)}{f:AG->Nat->Int×List Step}
  (hk :∀k∈e.kids,∀(n:Nat) (acc:List Step),n+4*en k<=5000->acc.length+en k<=5000->rec D (n:Int) acc k env=some ((f k n).1,((n+(f k n).2.length:Nat):Int),acc++(f k n).2))
  (hf :∀k n,(f k n).2.length<=en k) (hl:e.kids.length<=5000) :∀(j i M n:Nat) (acc:List Step) (xf:List Int),i+j=e.kids.length->j<M->n+4*CN (e.kids.drop i)<=5000->acc.length+CN (e.kids.drop i)<=5000->xf.length=i->
   DV D e env rec M (i:Int) (n:Int) acc xf=some (((n+(HS f (e.kids.drop i) n).2.length:Nat):Int),acc++(HS f (e.kids.drop i) n).2,xf++(HS f (e.kids.drop i) n).1)
 | 0,i,M,n,acc,xf,hi,hM,_,_,_=>by
  obtain⟨M,rfl⟩ :∃m,M=m+1:=⟨M-1,by omega⟩
  have:i=e.kids.length:=by omega
  subst this;rw[DV,qG (by simp[AK])];simp[HS]
 | j+1,i,M,n,acc,xf,hi,hM,h1,h2,h3=>by
  obtain⟨M,rfl⟩ :∃m,M=m+1:=⟨M-1,by omega⟩
  obtain⟨k,hg,hm⟩:=Ba (l:=e.kids) (i:=i) (by omega);rw[drop_cons hg]at h1 h2⊢;simp only[CN]at h1 h2;have yP:=hf k n;rw[DV,qF (by simp[AK];omega),Av hg];simp only[po];rw[hk k hm n acc (by omega) (by omega)];simp only[po];rw[Cp _ _ 8 (by simp;omega) (by simp;omega)];simp only[po];rw[Co (n:=(i:Int)+1) (by omega) (by omega)];have ih:=YQ hk hf hl j (i+1) M (n+(f k n).2.length) (acc++(f k n).2) (xf++[(f k n).1]) (by omega) (by omega) (by omega) (by simp;omega) (by simp;omega);refine ih.trans ?_;simp only[HS,qQ,qm,sV,rF]
theorem mO {D:List AI}{rec:List AI->Int->List Step->AG->List Int->Option (Int×Int×List Step)}{f:AG->List Int->Nat->Int×List Step}{k:AG}{env:List Int}{n q:Nat}{acc:List Step}{N:Nat}(hN:2000000<=N)(hn:n+q<=100000)(he:env.length<=100000)
  (hk:rec D ((n+q:Nat):Int) [] k (env++GM n q)=some ((f k (env++GM n q) (n+q)).1,((n+q+(f k (env++GM n q) (n+q)).2.length:Nat):Int),[]++(f k (env++GM n q) (n+q)).2)) :
  Io N rec D (n:Int) acc k env (q:Int)=some ⟨(f k (env++GM n q) (n+q)).2,(f k (env++GM n q) (n+q)).1⟩:=by
 unfold Io;rw[jt (by omega)];simp only[po];rw[mV hn env he hN];simp only[po];rw[Co (n:=(n:Int)+(q:Int)) (by omega) (by omega)];have:=hk;rw[show ((n+q:Nat):Int)=(n:Int)+(q:Int) by omega]at this;rw[this];rfl
theorem Uz {D:List AI}{F:List Ar}(S:FN D F){e:AG}{env:List Int}{rec:List AI->Int->List Step->AG->List Int->Option (Int×Int×List Step)}{f:AG->List Int->Nat->Int×List Step}{v:Int}{n:Nat}{acc:List Step}{r:List AG}{N:Nat}(hN:2000000<=N)
  (hn:n<=5000) (he:env.length<=1000) (hr:r.length=(G3 D e).length) (hr2:r.length<=1000) (hq :∀q∈G3 D e,q<=3)
  (hk :∀(i:Nat) k q,r[i]?=some k->(G3 D e)[i]?=some q->rec D ((n+q:Nat):Int) [] k (env++GM n q)=some ((f k (env++GM n q) (n+q)).1,((n+q+(f k (env++GM n q) (n+q)).2.length:Nat):Int),[]++(f k (env++GM n q) (n+q)).2)) :
  ∀(j i M:Nat) (bl:List Block),i+j=r.length->j<M->bl.length=i->
   D4 N r D e env (v,(n:Int),acc) (CB D e.num) rec M (i:Int) bl=some (bl++Js f env n (r.drop i) ((G3 D e).drop i))
 | 0,i,M,bl,hi,hM,_=>by
  obtain⟨M,rfl⟩ :∃m,M=m+1:=⟨M-1,by omega⟩
  have:i=r.length:=by omega
  subst this;rw[D4,qG (by simp[AK])];simp[Js]
 | j+1,i,M,bl,hi,hM,h3=>by
  obtain⟨M,rfl⟩ :∃m,M=m+1:=⟨M-1,by omega⟩
  obtain⟨k,hg,hm⟩:=Ba (l:=r) (i:=i) (by omega);obtain⟨q,hgq,hmq⟩:=Ba (l:=G3 D e) (i:=i) (by omega);have hq3:=hq q hmq;have hkq:=hk i k q hg hgq;rw[drop_cons hg,drop_cons hgq];rw[D4,qF (by simp[AK];omega),Av hg];simp only[po];have hfield:(if decide (e.op=8)=true then (Sh.get (CB D e.num) (i:Int)).bind λc54=>(Dy N D c54).bind λq55=>some (Sh.len q55) else some 0)=some (q:Int):=by
   by_cases h8:e.op=8
   ·rw[qF (by simp[h8])];simp only[G3,qF h8,qA]at hgq;obtain⟨c,hc,hcq⟩:=qB.1 hgq;rw[Av hc];simp only[po];rw[(Kt S (pt hc) hN).2.1];simp only[po,AK,hcq]
   ·rw[qG (by simp[h8])];simp only[G3,qG h8]at hmq;simp at hmq;rw[hmq];rfl
  rw[hfield];simp only[po];rw[mO hN (by omega) (by omega) hkq];simp only[po];rw[Cp _ _ 32 (by simp;omega) (by simp;omega)];simp only[po];rw[Co (n:=(i:Int)+1) (by omega) (by omega)];have ih:=Uz S (v:=v) (acc:=acc) hN hn he hr hr2 hq hk j (i+1) M (bl++[⟨(f k (env++GM n q) (n+q)).2,(f k (env++GM n q) (n+q)).1⟩]) (by omega) (by omega) (by simp;omega);refine ih.trans ?_;simp only[Js,qm,sV]
theorem Zn {D:List AI}{F:List Ar}(S:FN D F)(e:AG):∀q∈G3 D e,q<=3:=by
 intro q hq;unfold G3 at hq;by_cases h8:e.op=8
 ·rw[qF h8]at hq;obtain⟨c,hc,rfl⟩:=qT.1 hq;exact (Kt S hc (N:=2000000) (by omega)).2.2.1
 ·rw[qG h8]at hq;simp at hq;omega
end RC
namespace RC
open Go
theorem XB {D:List AI}{m L:Nat}{e:AG}(h:WS D (m+1) L e)(h1:¬ e.op=12)(h2:¬ e.op=13)(h3:¬ (e.op=7∨e.op=8)):∀k∈e.kids,WS D m L k:=h.2.2.2 h1 h2 (λq=>h3 (.inl q)) (λq=>h3 (.inr q))
theorem OQ {D:List AI}{F:List Ar}(S:FN D F){N:Nat}(hN:2000000<=N):∀(m M:Nat) (e:AG) (env:List Int) (n:Nat) (acc:List Step),m<=M->WS D m env.length e->env.length+3*en e<=1000->n+4*en e<=5000->acc.length+en e<=5000->
  EB N M D (n:Int) acc e env=some ((low D m e env n).1,((n+(low D m e env n).2.length:Nat):Int),acc++(low D m e env n).2)
 | 0,_,_,_,_,_,_,h,_,_,_=>h.elim
 | m+1,M,e,env,n,acc,hM,h,b1,b2,b3=>by
  obtain⟨M,rfl⟩ :∃q,M=q+1:=⟨M-1,by omega⟩
  have hE:=LL e;have hM':m<=M:=by omega
  rw[EB,II];unfold low;by_cases h1:e.op=12
  ·obtain⟨hk,n0,n1⟩:=h.1 h1;rw[qF (by simp[h1]),qF h1];obtain⟨j,hj⟩ :∃j:Nat,e.num=(j:Int):=⟨e.num.toNat,by omega⟩
   obtain⟨x,hx,_⟩:=Ba (l:=env) (i:=j) (by omega);rw[hj,Av hx];simp
  rw[qG (by simp[h1]),qG h1];by_cases h2:e.op=13
  ·rw[qF (by simp[h2]),qF h2];obtain⟨a,b,hk,wa,wb⟩:=h.2.1 h2;rw[hk]at hE⊢;simp only[CN]at hE;have la:=F4 D m a env n;have ia:=OQ S hN m M a env n acc hM' wa (by omega) (by omega) (by omega);have ib:=OQ S hN m M b (env++[(low D m a env n).1]) (n+(low D m a env n).2.length) (acc++(low D m a env n).2) hM' (by simpa using wb) (by simp;omega) (by omega) (by simp;omega);rw[show Sh.get [a,b] 0=some a from rfl];simp only[po];rw[ia];simp only[po];rw[show Sh.get [a,b] 1=some b from rfl];simp only[po];rw[jt (by omega)];simp only[po];rw[Cp _ _ 8 (by simp;omega) (by simp;omega)];simp only[po];rw[ib];simp only[po,qQ,qm,rF]
  rw[qG (by simp[h2]),qG h2];by_cases h3:e.op=7∨e.op=8
  ·have hb:(if decide (e.op=7)=true then some true else some (decide (e.op=8)))=some true:=by
    rcases h3 with q|q<;>simp[q]
   rw[hb,qF h3];simp only[po,qe];obtain⟨a,r,hk,hr,wa,wr⟩:=h.2.2.1 h3;have vx:=hk;rw[hk]at hE;simp only[CN]at hE;have la:=F4 D m a env n;have ia:=OQ S hN m M a env n acc hM' wa (by omega) (by omega) (by omega);have zY:=Zn S e;have hr1:r.length<=CN r:=LZ r;have hcn:=YL S.RJ;have hdl:=S.MY;have hbl:=Uz S (e:=e) (env:=env) (rec:=EB N M) (f:=low D m) (v:=(low D m a env n).1) (n:=n+(low D m a env n).2.length) (acc:=acc++(low D m a env n).2) (r:=r) hN (by omega) (by omega) hr (by omega) zY (by
    intro i k q xO hqi;obtain⟨q3,wk⟩:=wr i k q xO hqi;have hke:=Kk (pt xO);exact OQ S hN m M k (env++GM (n+(low D m a env n).2.length) q) (n+(low D m a env n).2.length+q) [] hM' (by simpa [Gm] using wk) (by simp[Gm];omega) (by omega) (by simp;omega)) r.length 0 N [] (by omega) (by omega) rfl
   rw[hk];rw[show Sh.get (a::r) 0=some a from rfl];simp only[po];rw[ia];simp only[po];rw[Jp (by omega) (by omega) hN];simp only[po];rw[show Sh.sl (a::r) 1 (Sh.len (a::r))=some r from by unfold Sh.sl;rw[qF ⟨by omega,by rw[AK];simp;omega,by rw[AK];omega⟩];simp[AK]];simp only[po];rw[show (0:Int)=((0:Nat):Int) from rfl,hbl];simp only[po,HV];rw[Cp _ _ 72 (by simp;omega) (by simp;omega)];simp only[po,rN,rG];rw[Co (n:=((n+(low D m a env n).2.length:Nat):Int)+1) (by omega) (by omega),Co (by omega) (by omega)];simp only[qm,qQ,qa,qt,sw,rF];rfl
  rw[qG h3];have hb:(if decide (e.op=7)=true then some true else some (decide (e.op=8)))=some false:=by
   have h7:¬ e.op=7:=λq=>h3 (.inl q);have h8:¬ e.op=8:=λq=>h3 (.inr q);simp[h7,h8]
  rw[hb];simp only[po,py,qR];have wk:=XB h h1 h2 h3;have xu:=LZ e.kids;have hla:=OR (f:=λk n=>low D m k env n) e.kids n λk _ n=>F4 D m k env n;have ha:=YQ (D:=D) (e:=e) (env:=env) (rec:=EB N M) (f:=λk n=>low D m k env n) (λk hk n acc q1 q2=>by
   have:=Kk hk;exact OQ S hN m M k env n acc hM' (wk k hk) (by omega) q1 q2) (λk n=>F4 D m k env n) (by omega) e.kids.length 0 N n acc [] (by omega) (by omega) (by simp;omega) (by simp;omega) rfl
  rw[show (0:Int)=((0:Nat):Int) from rfl,ha];simp only[po,HV,rG,rN];rw[Cp _ _ 72 (by simp;omega) (by simp;omega)];simp only[po];rw[Co (n:=((n+(HS (λk n=>low D m k env n) e.kids n).2.length:Nat):Int)+1) (by omega) (by omega),Co (by omega) (by omega)];simp only[qm,qQ,qa,qt,sw,rF];rfl
end RC
namespace RC
open Go
theorem RM {n q:Nat}(hn:n+q<=100000){N:Nat}(hN:2000000<=N):HT N (n:Int) (q:Int)=some (GM n q):=by
 have key:∀(j:Nat) (N i:Nat),i+j=q->j<N->FF (n:Int) (q:Int) N (i:Int) (GM n i)=some (GM n q):=by
  intro j
  induction j with
  | zero=>
   intro N i hi hj;obtain⟨M,rfl⟩ :∃M,N=M+1:=⟨N-1,by omega⟩
   rw[FF,qG (by simp;omega),show i=q by omega]
  | succ j ih=>
   intro N i hi hj;obtain⟨M,rfl⟩ :∃M,N=M+1:=⟨N-1,by omega⟩
   rw[FF,qF (by simp;omega),Cp _ _ 8 (by simp[Gm];omega) (by simp[Gm];omega)];simp only[po];rw[Co (n:=(n:Int)+(i:Int)) (by omega) (by omega),Co (n:=(i:Int)+1) (by omega) (by omega)];have:=ih M (i+1) (by omega) (by omega);rw[So]at this;exact this
 unfold HT;have:=key q N 0 (by omega) (by omega);rw[show GM n 0=[] from rfl]at this;rw[show (0:Int)=((0:Nat):Int) from rfl,this];rfl
theorem Xs {p:AP}{e:AG}{env:List Int}{rec:Int->List Step->AP->AG->List Int->Option (Int×List Step×Int)}{f:AG->Nat->Int×List Step}
  (hk :∀k∈e.kids,∀(n:Nat) (acc:List Step),n+4*en k<=5000->acc.length+en k<=5000->rec (n:Int) acc p k env=some ((f k n).1,acc++(f k n).2,((n+(f k n).2.length:Nat):Int)))
  (hf :∀k n,(f k n).2.length<=en k) (hl:e.kids.length<=5000) :∀(j i M n:Nat) (acc:List Step) (xf:List Int),i+j=e.kids.length->j<M->n+4*CN (e.kids.drop i)<=5000->acc.length+CN (e.kids.drop i)<=5000->xf.length=i->
   DL p e env rec M (i:Int) (n:Int) xf acc=some (((n+(HS f (e.kids.drop i) n).2.length:Nat):Int),xf++(HS f (e.kids.drop i) n).1,acc++(HS f (e.kids.drop i) n).2)
 | 0,i,M,n,acc,xf,hi,hM,_,_,_=>by
  obtain⟨M,rfl⟩ :∃m,M=m+1:=⟨M-1,by omega⟩
  have:i=e.kids.length:=by omega
  subst this;rw[DL,qG (by simp[AK])];simp[HS]
 | j+1,i,M,n,acc,xf,hi,hM,h1,h2,h3=>by
  obtain⟨M,rfl⟩ :∃m,M=m+1:=⟨M-1,by omega⟩
  obtain⟨k,hg,hm⟩:=Ba (l:=e.kids) (i:=i) (by omega);rw[drop_cons hg]at h1 h2⊢;simp only[CN]at h1 h2;have yP:=hf k n;rw[DL,qF (by simp[AK];omega),Av hg];simp only[po];rw[hk k hm n acc (by omega) (by omega)];simp only[po];rw[Cp _ _ 8 (by simp;omega) (by simp;omega)];simp only[po];rw[Co (n:=(i:Int)+1) (by omega) (by omega)];have ih:=Xs hk hf hl j (i+1) M (n+(f k n).2.length) (acc++(f k n).2) (xf++[(f k n).1]) (by omega) (by omega) (by omega) (by simp;omega) (by simp;omega);refine ih.trans ?_;simp only[HS,qQ,qm,sV,rF]
theorem Uj {p:AP}{F:List Ar}(S:FN p.decls F){e a:AG}{env:List Int}{rec:AP->AG->List Int->Int->Option Block}{f:AG->List Int->Nat->Int×List Step}{v:Int}{n:Nat}{acc:List Step}{r:List AG}{N:Nat}(hN:2000000<=N)
  (vx:e.kids=a::r) (hn:n<=5000) (he:env.length<=1000) (hr:r.length=(G3 p.decls e).length) (hr2:r.length<=1000) (hq :∀q∈G3 p.decls e,q<=3)
  (hk :∀(i:Nat) k q,r[i]?=some k->(G3 p.decls e)[i]?=some q->rec p k (env++GM n q) ((n+q:Nat):Int)=some ⟨(f k (env++GM n q) (n+q)).2,(f k (env++GM n q) (n+q)).1⟩) :
  ∀(j i M:Nat) (bl:List Block),i+j=r.length->j<M->bl.length=i->
   Dn N p e env (v,acc,(n:Int)) (CB p.decls e.num) rec M ((i+1:Nat):Int) bl=some (bl++Js f env n (r.drop i) ((G3 p.decls e).drop i))
 | 0,i,M,bl,hi,hM,_=>by
  obtain⟨M,rfl⟩ :∃m,M=m+1:=⟨M-1,by omega⟩
  have:i=r.length:=by omega
  subst this;rw[Dn,qG (by simp[AK,vx])];simp[Js]
 | j+1,i,M,bl,hi,hM,h3=>by
  obtain⟨M,rfl⟩ :∃m,M=m+1:=⟨M-1,by omega⟩
  obtain⟨k,hg,hm⟩:=Ba (l:=r) (i:=i) (by omega);obtain⟨q,hgq,hmq⟩:=Ba (l:=G3 p.decls e) (i:=i) (by omega);have hq3:=hq q hmq;have hkq:=hk i k q hg hgq;rw[drop_cons hg,drop_cons hgq];rw[Dn,qF (by simp[AK,vx];omega)];have hfield:(if decide (e.op=8)=true then (Sh.get (CB p.decls e.num) (Sh.w (((i+1:Nat):Int)-1))).bind λc54=>(BV N p.decls c54).bind λq55=>some (Sh.len q55) else some 0)=some (q:Int):=by
   by_cases h8:e.op=8
   ·rw[qF (by simp[h8])];simp only[G3,qF h8,qA]at hgq;obtain⟨c,hc,hcq⟩:=qB.1 hgq;rw[Co (by omega) (by omega),show (((i+1:Nat):Int)-1)=(i:Int) by omega,Av hc];simp only[po];rw[(Kt S (pt hc) hN).1];simp only[po,AK,hcq]
   ·rw[qG (by simp[h8])];simp only[G3,qG h8]at hmq;simp at hmq;rw[hmq];rfl
  rw[hfield];simp only[po];have hgk:e.kids[i+1]?=some k:=by rw[vx];simpa using hg
  rw[Av hgk];simp only[po];rw[RM (by omega) hN];simp only[po];rw[I6 (by omega) (by rw[Gm];omega)];simp only[po];rw[Co (n:=(n:Int)+(q:Int)) (by omega) (by omega),show (n:Int)+(q:Int)=((n+q:Nat):Int) by omega,hkq];simp only[po];rw[Cp _ _ 32 (by simp;omega) (by simp;omega)];simp only[po];rw[Co (n:=((i+1:Nat):Int)+1) (by omega) (by omega)];have ih:=Uj S (v:=v) (acc:=acc) hN vx hn he hr hr2 hq hk j (i+1) M (bl++[⟨(f k (env++GM n q) (n+q)).2,(f k (env++GM n q) (n+q)).1⟩]) (by omega) (by omega) (by simp;omega);refine ih.trans ?_;simp only[Js,qm,sV]
theorem OP {p:AP}{F:List Ar}(S:FN p.decls F){N:Nat}(hN:2000000<=N):∀(m M B:Nat) (e:AG) (env:List Int) (n:Nat) (acc:List Step),m<=M->m<=B->m<=N->WS p.decls m env.length e->env.length+3*en e<=1000->n+4*en e<=5000->acc.length+en e<=5000->
  EY N (Eb N B) M (n:Int) acc p e env=some ((low p.decls m e env n).1,acc++(low p.decls m e env n).2,((n+(low p.decls m e env n).2.length:Nat):Int))
 | 0,_,_,_,_,_,_,_,_,_,h,_,_,_=>h.elim
 | m+1,M,B,e,env,n,acc,hM,hB,hmN,h,b1,b2,b3=>by
  obtain⟨M,rfl⟩ :∃q,M=q+1:=⟨M-1,by omega⟩
  have hE:=LL e;have hM':m<=M:=by omega
  rw[EY,Hn];unfold low;by_cases h1:e.op=12
  ·obtain⟨hk,n0,n1⟩:=h.1 h1;rw[qF (by simp[h1]),qF h1];obtain⟨j,hj⟩ :∃j:Nat,e.num=(j:Int):=⟨e.num.toNat,by omega⟩
   obtain⟨x,hx,_⟩:=Ba (l:=env) (i:=j) (by omega);rw[hj,Av hx];simp
  rw[qG (by simp[h1]),qG h1];by_cases h2:e.op=13
  ·rw[qF (by simp[h2]),qF h2];obtain⟨a,b,hk,wa,wb⟩:=h.2.1 h2;rw[hk]at hE⊢;simp only[CN]at hE;have la:=F4 p.decls m a env n;have ia:=OP S hN m M B a env n acc hM' (by omega) (by omega) wa (by omega) (by omega) (by omega);have ib:=OP S hN m M B b (env++[(low p.decls m a env n).1]) (n+(low p.decls m a env n).2.length) (acc++(low p.decls m a env n).2) hM' (by omega) (by omega) (by simpa using wb) (by simp;omega) (by omega) (by simp;omega);rw[show Sh.get [a,b] 0=some a from rfl];simp only[po];rw[ia];simp only[po];rw[show Sh.get [a,b] 1=some b from rfl];simp only[po];rw[I6 (by omega) (by simp)];simp only[po];rw[ib];simp only[po,qQ,qm,rF]
  rw[qG (by simp[h2]),qG h2];by_cases h3:e.op=7∨e.op=8
  ·have hb:(if decide (e.op=7)=true then some true else some (decide (e.op=8)))=some true:=by
    rcases h3 with q|q<;>simp[q]
   rw[hb,qF h3];simp only[po,qe];obtain⟨a,r,hk,hr,wa,wr⟩:=h.2.2.1 h3;rw[hk]at hE;simp only[CN]at hE;have la:=F4 p.decls m a env n;have ia:=OP S hN m M B a env n acc hM' (by omega) (by omega) wa (by omega) (by omega) (by omega);have zY:=Zn S e;have hr1:r.length<=CN r:=LZ r;have hcn:=YL S.RJ;have hdl:=S.MY;have hbl:=Uj S (e:=e) (env:=env) (rec:=Eb N B) (f:=low p.decls m) (v:=(low p.decls m a env n).1) (n:=n+(low p.decls m a env n).2.length) (acc:=acc++(low p.decls m a env n).2) (r:=r) hN hk (by omega) (by omega) hr (by omega) zY (by
    intro i k q xO hqi;obtain⟨q3,wk⟩:=wr i k q xO hqi;have hke:=Kk (pt xO);obtain⟨B',rfl⟩ :∃b,B=b+1:=⟨B-1,by omega⟩
    rw[Eb,ID,Is];rw[OP S hN m N B' k (env++GM (n+(low p.decls m a env n).2.length) q) (n+(low p.decls m a env n).2.length+q) [] (by omega) (by omega) (by omega) (by simpa [Gm] using wk) (by simp[Gm];omega) (by omega) (by simp;omega)];rfl) r.length 0 N [] (by omega) (by omega) rfl
   rw[show Sh.get e.kids 0=some a by rw[hk];rfl];simp only[po];rw[ia];simp only[po];rw[Lm (by omega) (by omega) hN];simp only[po];rw[show (1:Int)=((0+1:Nat):Int) from rfl,hbl,hk];simp only[po,G9];rw[Cp _ _ 72 (by simp;omega) (by simp;omega)];simp only[po,rN,rG];rw[Co (n:=((n+(low p.decls m a env n).2.length:Nat):Int)+1) (by omega) (by omega),Co (by omega) (by omega)];simp only[qm,qQ,qa,qt,sw,rF];rfl
  rw[qG h3];have hb:(if decide (e.op=7)=true then some true else some (decide (e.op=8)))=some false:=by
   have h7:¬ e.op=7:=λq=>h3 (.inl q);have h8:¬ e.op=8:=λq=>h3 (.inr q);simp[h7,h8]
  rw[hb];simp only[po,py,qR];have wk:=XB h h1 h2 h3;have xu:=LZ e.kids;have hla:=OR (f:=λk n=>low p.decls m k env n) e.kids n λk _ n=>F4 p.decls m k env n;have ha:=Xs (p:=p) (e:=e) (env:=env) (rec:=EY N (Eb N B) M) (f:=λk n=>low p.decls m k env n) (λk hk n acc q1 q2=>by
   have:=Kk hk;exact OP S hN m M B k env n acc hM' (by omega) (by omega) (wk k hk) (by omega) q1 q2) (λk n=>F4 p.decls m k env n) (by omega) e.kids.length 0 N n acc [] (by omega) (by omega) (by simp;omega) (by simp;omega) rfl
  rw[show (0:Int)=((0:Nat):Int) from rfl,ha];simp only[po,G9,rG,rN];rw[Cp _ _ 72 (by simp;omega) (by simp;omega)];simp only[po];rw[Co (n:=((n+(HS (λk n=>low p.decls m k env n) e.kids n).2.length:Nat):Int)+1) (by omega) (by omega),Co (by omega) (by omega)];simp only[qm,qQ,qa,qt,sw,rF];rfl
end RC
namespace RC
open Go
theorem ae {p:AP}(S:FN p.decls p.funcs){N:Nat}(hN:2000000<=N){T:List Int->AG->Int}(hT:TT p N T):∀(n:Nat) (e:AG) (v:List Int),en e<=n->n<=30->Jj p e v->T v e≠-1->WS p.decls n v.length e:=by
 intro n
 induction n with
 | zero=>intro e _ h;have:=Qb e;omega
 | succ n ih=>
  intro e v he hn V ht;have H:Ou p (G0 p) (D1 N 31) (Bo N 31) T (en e):=λv e a b c d=>hT v e a (by omega) c d 31 31 (qU _) (qU _);obtain⟨q1,q2,_⟩:=hT v e V.Ch (by omega) V.len V.Ni 32 32 (by omega) (by omega);rw[Bo]at q2;have I:=eJ H V S hN q2 ht;have OG:∀k∈e.kids,∀m:List Int,m.length<=3->(∀x∈m,Cg p.decls x=true)->T (v++m) k≠-1->WS p.decls n (v.length+m.length) k:=λk hk m m1 m2 m3=>by
   have hke:=FX hk;have:=ih k (v++m) (by omega) (by omega) ⟨V.more hk m1,V.UL m2,by omega,V.Ch.kids k hk⟩ m3;simpa using this
  have yj:∀k∈e.kids,T v k≠-1->WS p.decls n v.length k:=λk hk h=>by
   have:=OG k hk [] (by simp) (by simp) (by simpa using h);simpa using this
  refine⟨λh=>?_,λh=>?_,λh=>?_,λh1 h2 h3 h4 k hk=>?_⟩
  ·obtain⟨hk,hg⟩:=I.var h;refine⟨hk,?_⟩;unfold Sh.get at hg;split at hg
   ·rename_i hh;have:=(px.1 hg).1;omega
   ·cases hg
  ·obtain⟨a,b,hk,h1,h2⟩:=I.mz h;have:=(IH h1).1;exact⟨a,b,hk,yj a (by rw[hk];simp) (by omega),OG b (by rw[hk];simp) [T v a] (by simp) (by simpa using h1) (by rw[h2];exact ht)⟩
  ·by_cases h7:e.op=7
   ·obtain⟨a,b,c,hk,_,h1,h2,h3⟩:=I.og h7;have h8:¬ e.op=8:=by omega
    have hm:G3 p.decls e=[0,0]:=qG h8;refine⟨a,[b,c],hk,by rw[hm];rfl,yj a (by rw[hk];simp) (by omega),λi k q xO hqi=>?_⟩;rw[hm]at hqi;have hq0:q=0:=by have:=pt hqi;simpa using this
    subst hq0;refine⟨by omega,?_⟩;have xE:=pt xO;simp only[qH,qi,rI]at xE;rcases xE with rfl|rfl
    ·exact yj k (by rw[hk];simp) (by rw[h2];exact ht)
    ·exact yj k (by rw[hk];simp) (by rw[h3];exact ht)
   ·have h8:e.op=8:=by omega
    obtain⟨a,r,hk,h1,h2,h3,h4⟩:=I.pO h8;have hm:G3 p.decls e=(CB p.decls e.num).map λc=>(E2 p.decls c).length:=qF h8;have wZ:CB p.decls e.num≠[]:=λq=>h3 (qV (by rw[h2,q];rfl));refine⟨a,r,hk,by rw[hm,h2];simp,yj a (by rw[hk];simp) (λq=>?_),λi k q xO hqi=>?_⟩
    ·rw[q]at h1;rw[<- h1]at wZ;exact wZ (qG (by omega))
    ·rw[hm,qA]at hqi;obtain⟨c,hc,rfl⟩:=qB.1 hqi;have hf:=Kt S (pt hc) hN;have xE:k∈e.kids:=by rw[hk];exact qw _ (pt xO)
     exact⟨hf.2.2.1,OG k xE (E2 p.decls c) hf.2.2.1 hf.2.2.2 (by rw[h4 i c k hc xO];exact ht)⟩
  ·exact yj k hk (by have:=(I.nP h1 h2 h3 h4).2 k hk;omega)
end RC
namespace RC
open Go
theorem VP {N:Nat}{sg:Ah}{o k t:Int}{l:List Int}(h:AS N sg o k l=some (t,true)):((0<=o/\o<=6)∨(9<=o/\o<=11))/\((1<=o/\o<=5)∨o=11->k=0):=by
 unfold AS at h;by_cases h0:o=0
 ·subst h0;exact⟨.inl ⟨by omega,by omega⟩,λq=>by omega⟩
 by_cases h14:o=1∨o=2∨o=3∨o=4∨o=5
 ·refine⟨.inl ⟨by omega,by omega⟩,λ_=>?_⟩;by_cases hk:k=0
  ·exact hk
  ·exfalso;rcases h14 with q|q|q|q|q<;>subst q<;>simp[hk,Sh.cont,qh]at h<;>omega
 by_cases h11:o=11
 ·refine⟨.inr ⟨by omega,by omega⟩,λ_=>?_⟩;by_cases hk:k=0
  ·exact hk
  ·exfalso;subst h11;simp[hk,Sh.cont,qh]at h;by_cases hl:Sh.len l=2
   ·rw[qF hl]at h;cases g0:Sh.get l 0 with
    | none=>simp[g0]at h
    | some c=>
     rw[g0,po]at h;cases ga:Hs sg.decls c with
     | none=>simp[ga]at h
     | some q=>
      rw[ga,po]at h;cases hq:q.2 with
      | false=>simp[hq]at h
      | true=>
       rw[qF hq]at h;cases g1:Sh.get l 1 with
       | none=>simp[g1]at h
       | some c1=>simp[g1]at h
   ·rw[qG hl]at h;simp at h
 by_cases hr:o=6∨o=9∨o=10
 ·exact⟨by omega,λq=>by omega⟩
 exfalso;have g1:¬ o=1:=by omega
 have g2:¬ o=2:=by omega
 have g3:¬ o=3:=by omega
 have g4:¬ o=4:=by omega
 have g5:¬ o=5:=by omega
 have g6:¬ o=6:=by omega
 have g9:¬ o=9:=by omega
 have g10:¬ o=10:=by omega
 simp[h0,g1,g2,g3,g4,g5,g6,g9,g10,h11,Sh.cont]at h
def jm:Nat->AG->Prop
 | 0,_=>False
 | m+1,e=>(0<=e.op/\e.op<=13)/\∀k∈e.kids,jm m k
theorem gX {p:AP}(S:FN p.decls p.funcs){N:Nat}(hN:2000000<=N){T:List Int->AG->Int}(hT:TT p N T):∀(n:Nat) (e:AG) (v:List Int),en e<=n->n<=30->Jj p e v->T v e≠-1->jm n e:=by
 intro n
 induction n with
 | zero=>intro e _ h;have:=Qb e;omega
 | succ n ih=>
  intro e v he hn V ht;have H:Ou p (G0 p) (D1 N 31) (Bo N 31) T (en e):=λv e a b c d=>hT v e a (by omega) c d 31 31 (qU _) (qU _);obtain⟨q1,q2,_⟩:=hT v e V.Ch (by omega) V.len V.Ni 32 32 (by omega) (by omega);rw[Bo]at q2;have I:=eJ H V S hN q2 ht;refine⟨?_,λk hk=>?_⟩
  ·by_cases h:e.op=12∨e.op=13∨e.op=7∨e.op=8
   ·omega
   ·have:=(VP (I.nP (λq=>h (.inl q)) (λq=>h (.inr (.inl q))) (λq=>h (.inr (.inr (.inl q)))) (λq=>h (.inr (.inr (.inr q))))).1).1;omega
  ·have hke:=FX hk;obtain⟨m,m1,m2,m3⟩:=kz H V S hN q2 ht k hk;exact ih k (v++m) (by omega) (by omega) ⟨V.more hk m1,V.UL m2,by omega,V.Ch.kids k hk⟩ m3
theorem R7:∀(a b:List Step),Ja (a++b)=Ja a+Ja b
 | [],b=>by simp[Ja]
 | s::a,b=>by simp only[se,Ja,R7 a b];omega
theorem SH:∀(a b:List Step),Qq (a++b)=Qq a+Qq b
 | [],b=>by simp[Qq]
 | s::a,b=>by simp only[se,Qq,SH a b];omega
structure LF (c:Nat) (r:Int) (st:List Step):Prop where
 res:0<=r/\r<=10000
 Su:Ja st<=c
 Sx:st.length+Qq st+1<=3*c
 Ch :∀s∈st,MX s
 pl :∀s∈st,er s=true
structure LA (c:Nat) (rs:List Int) (st:List Step):Prop where
 res :∀r∈rs,0<=r/\r<=10000
 Su:Ja st<=c
 Sx:st.length+Qq st+rs.length<=3*c
 Ch :∀s∈st,MX s
 pl :∀s∈st,er s=true
theorem V9 {f:AG->Nat->Int×List Step}:∀(l:List AG) (n:Nat),(∀k∈l,∀n,(f k n).2.length<=en k)->n+4*CN l<=5000->(∀k∈l,∀n,n+4*en k<=5000->LF (en k) (f k n).1 (f k n).2)->LA (CN l) (HS f l n).1 (HS f l n).2
 | [],n,_,_,_=>⟨λr hr=>(by cases hr),by simp[HS,Ja],by simp[HS,Qq],λs hs=>(by cases hs),λs hs=>(by cases hs)⟩
 | k::r,n,hl,hn,h=>by
  simp only[CN]at hn⊢;have h1:=h k (by simp) n (by omega);have hk:=hl k (by simp) n;have h2:=V9 (f:=f) r (n+(f k n).2.length) (λk hk=>hl k (by simp[hk])) (by omega) λk hk=>h k (by simp[hk]);have a1:=h1.Su;have a2:=h2.Su;have a3:=h1.Sx;have a4:=h2.Sx;refine⟨λx hx=>?_,?_,?_,λs hs=>?_,λs hs=>?_⟩
  ·rcases qH.1 hx with rfl|hx
   ·exact h1.res
   ·exact h2.res x hx
  ·simp only[HS,R7];omega
  ·simp only[HS,SH,qQ,qa];omega
  ·rcases qb.1 hs with q|q
   ·exact h1.Ch s q
   ·exact h2.Ch s q
  ·rcases qb.1 hs with q|q
   ·exact h1.pl s q
   ·exact h2.pl s q
end RC
namespace RC
open Go
theorem Z6 {x:Int}(h:0<=x/\x<=10000):JC x:=⟨by omega,by omega⟩
theorem bf {n q:Nat}(h:n+q<=10000):∀x∈GM n q,0<=x/\x<=10000:=λx hx=>by
 unfold GM at hx;obtain⟨i,hi,rfl⟩:=qT.1 hx;have:=rm.1 hi;omega
structure LB (c:Nat) (bl:List Block):Prop where
 len:bl.length<=c
 Su:KO bl<=c
 Sx:Wn bl+bl.length<=3*c
 Ch :∀b∈bl,Rr b/\b.steps.length<=3*c
 pl :∀b∈bl,T3 b=true
theorem V5 {f:AG->List Int->Nat->Int×List Step}{env:List Int}{n:Nat}:∀(r:List AG) (ms:List Nat),CN r<=5000->(∀(i:Nat) k q,r[i]?=some k->ms[i]?=some q->LF (en k) (f k (env++GM n q) (n+q)).1 (f k (env++GM n q) (n+q)).2)->LB (CN r) (Js f env n r ms)
 | [],ms,_,_=>by
  refine⟨by simp[Js],by simp[Js,KO],by simp[Js,Wn],λb hb=>?_,λb hb=>?_⟩<;>simp[Js]at hb
 | k::r,[],_,_=>by
  refine⟨by simp[Js],by simp[Js,KO],by simp[Js,Wn],λb hb=>?_,λb hb=>?_⟩<;>simp[Js]at hb
 | k::r,m::ms,yB,h=>by
  have h1:=h 0 k m rfl rfl;have hsm':=yB;simp only[CN]at hsm';have h2:=V5 (f:=f) (env:=env) (n:=n) r ms (by omega) λi k q a b=>h (i+1) k q (by simpa using a) (by simpa using b);have a1:=h1.Su;have a2:=h1.Sx;have a3:=h2.len;have a4:=h2.Su;have a5:=h2.Sx;have hk:=Qb k;simp only[CN,Js];refine⟨by simp only[qa];omega,?_,?_,λb hb=>?_,λb hb=>?_⟩
  ·simp only[KO,Ho];omega
  ·simp only[Wn,Qw,qa];omega
  ·rcases qH.1 hb with rfl|hb
   ·have hl:(f k (env++GM n m) (n+m)).2.length<=3*(en k+CN r):=by omega
    refine⟨⟨⟨h1.Ch,?_⟩,Z6 h1.res⟩,hl⟩;have:(f k (env++GM n m) (n+m)).2.length<=9223372036854775807∨9223372036854775807<3*(en k+CN r):=by omega
    rcases this with q|q
    ·exact q
    ·exact absurd yB (by simp only[CN];omega)
   ·obtain⟨q1,q2⟩:=h2.Ch b hb;exact⟨q1,by omega⟩
  ·rcases qH.1 hb with rfl|hb
   ·rw[aN,Xk];exact qC.2 h1.pl
   ·exact h2.pl b hb
theorem fm {s:Step}(h0:0<=s.op)(h1:s.op<=13)(hi:s.Ed=0)(hk :∀b∈s.kids,T3 b=true):er s=true:=by
 have hc:Qj s.op=false:=by unfold Qj;rw[qz,qW,qW];omega
 rw[gC,cY,qC.2 hk,kZ,hc,hi];rfl
theorem Lx (D:List AI):∀(m:Nat) (e:AG) (env:List Int) (n:Nat),WS D m env.length e->jm m e->BF e->(∀x∈env,0<=x/\x<=10000)->n+4*en e<=5000->LF (en e) (low D m e env n).1 (low D m e env n).2
 | 0,_,_,_,h,_,_,_,_=>h.elim
 | m+1,e,env,n,h,ho,hi,hv,hn=>by
  have hE:=LL e;obtain⟨⟨o0,o1⟩,ok⟩:=ho;unfold low;by_cases h1:e.op=12
  ·rw[qF h1];obtain⟨hk,n0,n1⟩:=h.1 h1;obtain⟨j,hj⟩ :∃j:Nat,e.num=(j:Int):=⟨e.num.toNat,by omega⟩
   obtain⟨x,hx,hm⟩:=Ba (l:=env) (i:=j) (by omega);rw[hj,Av hx];exact⟨hv x hm,by simp[Ja],by simp[Qq];omega,λs hs=>(by cases hs),λs hs=>(by cases hs)⟩
  rw[qG h1];by_cases h2:e.op=13
  ·rw[qF h2];obtain⟨a,b,hk,wa,wb⟩:=h.2.1 h2;have vx:=hk;rw[hk]at hE⊢;simp only[CN]at hE;have la:=F4 D m a env n;have fa:=Lx D m a env n wa (ok a (by rw[vx];simp)) (hi.kids a (by rw[vx];simp)) hv (by omega);have fb:=Lx D m b (env++[(low D m a env n).1]) (n+(low D m a env n).2.length) (by simpa using wb) (ok b (by rw[vx];simp)) (hi.kids b (by rw[vx];simp)) (λx hx=>by
    rcases qb.1 hx with q|q
    ·exact hv x q
    ·simp only[qO]at q;rw[q];exact fa.res) (by omega)
   have a1:=fa.Su;have a2:=fa.Sx;have b1:=fb.Su;have b2:=fb.Sx;refine⟨fb.res,?_,?_,λs hs=>?_,λs hs=>?_⟩
   ·simp only[R7];omega
   ·simp only[SH,qQ];omega
   ·rcases qb.1 hs with q|q
    ·exact fa.Ch s q
    ·exact fb.Ch s q
   ·rcases qb.1 hs with q|q
    ·exact fa.pl s q
    ·exact fb.pl s q
  rw[qG h2];by_cases h3:e.op=7∨e.op=8
  ·rw[qF h3];obtain⟨a,r,hk,hr,wa,wr⟩:=h.2.2.1 h3;have vx:=hk;rw[hk]at hE⊢;simp only[CN]at hE;have la:=F4 D m a env n;have fa:=Lx D m a env n wa (ok a (by rw[vx];simp)) (hi.kids a (by rw[vx];simp)) hv (by omega);dsimp only;have fb:=V5 (f:=low D m) (env:=env) (n:=n+(low D m a env n).2.length) r (G3 D e) (by omega) λi k q xO hqi=>by
    obtain⟨q3,wk⟩:=wr i k q xO hqi;have hkr:=pt xO;have hke:=Kk hkr;have xE:k∈e.kids:=by rw[vx];exact qw _ hkr
    exact Lx D m k (env++GM (n+(low D m a env n).2.length) q) (n+(low D m a env n).2.length+q) (by simpa [Gm] using wk) (ok k xE) (hi.kids k xE) (λx hx=>by
     rcases qb.1 hx with q|q
     ·exact hv x q
     ·exact bf (by omega) x q) (by omega)
   have a1:=fa.Su;have a2:=fa.Sx;have b1:=fb.Su;have b2:=fb.Sx;have b3:=fb.len;generalize hbl:Js (low D m) env (n+(low D m a env n).2.length) r (G3 D e)=bl at fb b1 b2 b3⊢;have SI:MX (Step.mk e.op e.num 0 [(low D m a env n).1] bl):=by
    refine .mk hi.op hi.num (show JC (0:Int) from ⟨by decide,by decide⟩) ⟨λx hx=>?_,by show (1:Nat)<=_;omega⟩ (by show bl.length<=_;omega) (λb hb=>by have:=(fb.Ch b hb).2;omega) (λb hb=>(fb.Ch b hb).1.result) (λb hb=>(fb.Ch b hb).1.steps.1);have:x=(low D m a env n).1:=by simpa [Step.args] using hx
    rw[this];exact Z6 fa.res
   refine⟨by constructor<;>omega,?_,?_,λs hs=>?_,λs hs=>?_⟩
   ·simp only[R7,Ja,Qe];omega
   ·simp only[SH,Qq,YI,qQ,qa,qt];omega
   ·rcases qb.1 hs with q|q
    ·exact fa.Ch s q
    ·simp only[qO]at q;rw[q];exact SI
   ·rcases qb.1 hs with q|q
    ·exact fa.pl s q
    ·simp only[qO]at q;rw[q];exact fm o0 o1 rfl fb.pl
  rw[qG h3];have wk:=XB h h1 h2 h3;have hla:=OR (f:=λk n=>low D m k env n) e.kids n λk _ n=>F4 D m k env n;have xu:=LZ e.kids;have fa:=V9 (f:=λk n=>low D m k env n) e.kids n (λk _ n=>F4 D m k env n) (by omega) λk hk n hn=>Lx D m k env n (wk k hk) (ok k hk) (hi.kids k hk) hv hn;have zR:∀(l:List AG) n,(HS (λk n=>low D m k env n) l n).1.length=l.length:=λl=>by
   induction l with
   | nil=>intro n;rfl
   | cons k r ih=>intro n;simp only[HS,qa,ih]
  have a0:=zR e.kids n;have a1:=fa.Su;have a2:=fa.Sx;have SI:MX (Step.mk e.op e.num 0 (HS (λk n=>low D m k env n) e.kids n).1 []):=by
   refine .mk hi.op hi.num (show JC (0:Int) from ⟨by decide,by decide⟩) ⟨λx hx=>Z6 (fa.res x hx),by show List.length (HS _ _ _).1<=_;omega⟩ (by show (0:Nat)<=_;omega) (λb hb=>(by cases hb)) (λb hb=>(by cases hb)) (λb hb=>(by cases hb))
  refine⟨by constructor<;>omega,?_,?_,λs hs=>?_,λs hs=>?_⟩
  ·simp only[R7,Ja,Qe,KO];omega
  ·simp only[SH,Qq,YI,Wn,qQ,qa,qt];omega
  ·rcases qb.1 hs with q|q
   ·exact fa.Ch s q
   ·simp only[qO]at q;rw[q];exact SI
  ·rcases qb.1 hs with q|q
   ·exact fa.pl s q
   ·simp only[qO]at q;rw[q];exact fm o0 o1 rfl λb hb=>(by cases hb)
end RC
namespace RC
open Go
section
variable {n : Ax} {R1 : Ax -> List Int -> Block -> Option Int} {R2 : Ah -> List Int -> Block -> Option Int} {T : List Int -> Block -> Int} {s : Step} {v : List Int} {N : Nat}
theorem WX {l:List Int}{t:Int}(h:l≠[])(h2 :∀x∈l,x=t):Fb l=t:=by
 cases l with
 | nil=>exact absurd rfl h
 | cons a r=>
  have ha:=h2 a (by simp);subst ha;simp only[Fb];rw[qF (qC.2 λx hx=>by rw[h2 x (by simp[hx])];simp)]
theorem fW (h:s.Ed=0):Ex v s=some (!true):=by unfold Ex;simp[h]
theorem mc (H:VN n R1 R2 T (Qe s))(V:SK n s v)(hN:2000000<=N)(h:s.op=7)(hi:s.Ed=0)(hn:s.num=0)(hA:CY v s.args=some [0])(hk:s.kids.length=2){t:Int}(ht:0<=t)(hT :∀b∈s.kids,T v b=t):Be N R2 (Dc n) v s=some (t,true):=by
 have hl:v.length<=1048576:=by have:=V.NZ;omega
 have e2:=Ka (n:=n) (R2:=R2) hl V.Nm hN (fW hi);rw[hA]at e2;simp only[rJ,qe]at e2;rw[e2];have ik:=Qa (ms:=[[],[]]) H V hN hk.symm (by simp) (by simp) Xg;have yW:Fb (Jv T v [[],[]] s.kids)=t:=by
  match hq:s.kids,hk with
  | [a,b],_=>
   have ha:=hT a (by rw[hq];simp);have hb:=hT b (by rw[hq];simp);refine WX (by simp[Jv]) λx hx=>?_;simp only[Jv,List.zipWith_cons_cons,List.zipWith_nil_left,rY,qH,qi,rI]at hx;rcases hx with rfl|rfl<;>assumption
 rw[yW,qG (by omega)]at ik;unfold Dg;rw[V2 (by omega) (by omega)];simp only[po,py,qR,h,qN,qe];have LY:decide (Sh.len s.kids=2)=true:=sE (by rw[AK];omega);have mk2:Sh.mk ([]:List Int) 2 24=some [[],[]]:=Mz [] 2 24 (by omega) (by omega);simp[AK,hn,hk,mk2,show Sh.get [(0:Int)] 0=some 0 from rfl,ik]
theorem ld (H:VN n R1 R2 T (Qe s))(V:SK n s v)(S:LV n)(hN:2000000<=N)(h:s.op=8)(hi:s.Ed=0)(hA:CY v s.args=some [s.num])(hk:s.kids.length=(CB n.decls s.num).length)(hk0:s.kids≠[]){t:Int}(ht:0<=t)(hT :∀(i:Nat) c b,(CB n.decls s.num)[i]?=some c->s.kids[i]?=some b->T (v++E2 n.decls c) b=t):Be N R2 (Dc n) v s=some (t,true):=by
 have hl:v.length<=1048576:=by have:=V.NZ;omega
 have e2:=Ka (n:=n) (R2:=R2) hl V.Nm hN (fW hi);rw[hA]at e2;simp only[rJ,qe]at e2;rw[e2];have yp:=L4 S.RJ s.num;have hm:∀m∈(CB n.decls s.num).map (E2 n.decls),m.length<=3/\∀x∈m,Cg n.decls x=true:=λm hm=>by
  obtain⟨c,hc,rfl⟩:=qT.1 hm;exact (Kt S hc hN).2.2
 have af:=WD (n:=n) S hN s.num;have zY:((CB n.decls s.num).map (E2 n.decls)).length<=10:=by simp;omega
 have zX:((CB n.decls s.num).map (E2 n.decls)).length=s.kids.length:=by simp[hk]
 have hT' :∀(i:Nat) m b,((CB n.decls s.num).map (E2 n.decls))[i]?=some m->s.kids[i]?=some b->T (v++m) b=t:=λi m b h1 h2=>by
  rw[qA]at h1;obtain⟨c,hc,rfl⟩:=qB.1 h1;exact hT i c b hc h2
 generalize (CB n.decls s.num).map (E2 n.decls)=ms at hm af zY zX hT';have hms:ms≠[]:=λq=>hk0 (qV (by rw[<- zX,q];rfl));have ik:=Qa (ms:=ms) H V hN zX hms zY hm;have yW:Fb (Jv T v ms s.kids)=t:=by
  have hlen:(Jv T v ms s.kids).length=s.kids.length:=by unfold Jv;simp[zX]
  refine WX (λq=>hk0 (qV (by rw[<- hlen,q];rfl))) λx hx=>?_;obtain⟨i,hx⟩:=qf.1 hx;have wz:=(px.1 hx).1;obtain⟨m,h1,_⟩:=Ba (l:=ms) (i:=i) (by omega);obtain⟨b,h2,_⟩:=Ba (l:=s.kids) (i:=i) (by omega);rw[X7 h1 h2]at hx;cases hx;exact hT' i m b h1 h2
 rw[yW,qG (by omega)]at ik;unfold Dg;rw[V2 (by omega) (by omega),af];have LY:decide (Sh.len s.kids=Sh.len ms)=true:=sE (by rw[AK,AK];omega);have mlen:¬ (ms.length:Int)=0:=by
  intro q;exact hms (qV (by omega))
 simp[h,AK,zX,hms,show Sh.get [s.num] 0=some s.num from rfl,ik]
theorem oJ (V:SK n s v)(hN:2000000<=N)(hi:s.Ed=0){l:List Int}{t:Int}(hA:CY v s.args=some l)(hk:s.kids=[])(hle :∀f∈(Dc n).funcs,f.CE=[])(hs:AS N (Dc n) s.op s.num l=some (t,true)):Be N R2 (Dc n) v s=some (t,true):=by
 have hl:v.length<=1048576:=by have:=V.NZ;omega
 have e2:=Ka (n:=n) (R2:=R2) hl V.Nm hN (fW hi);rw[hA]at e2;simp only[rJ,qe]at e2;rw[e2];obtain⟨ho,_⟩:=VP hs;by_cases h10:s.op=10
 ·have q:(if decide (0<=s.num)=true then if decide (s.num<Sh.len (Dc n).funcs)=true then (Sh.get (Dc n).funcs s.num).bind λc83=>some (decide (0<Sh.len c83.CE)) else some false else some false)=some false:=by
   by_cases h1:0<=s.num
   ·by_cases h2:s.num<((Dc n).funcs.length:Int)
    ·obtain⟨f,f1,f2⟩:=Lf (l:=(Dc n).funcs) h1 h2;rw[qF (by simp[h1]),qF (by simp[AK,h2]),f1,po,hle f (pt f2)];rfl
    ·rw[qF (by simp[h1]),qG (by simp[AK,h2])]
   ·rw[qG (by simp[h1])]
  rw[PV h10 hk q hs];rfl
 ·exact EI hk hs
end
end RC
namespace RC
open Go
theorem dK {v m:List Int}{a t:Int}(h:L5 v a=some t):L5 (v++m) a=some t:=by
 obtain⟨h0,h1,_,_⟩:=QI h;unfold L5 at h⊢;rw[qF ⟨h0,h1⟩]at h;rw[qF ⟨h0,by simp;omega⟩,qK (by omega)];exact h
theorem OT {v m:List Int}:∀{args l:List Int},CY v args=some l->CY (v++m) args=some l
 | [],l,h=>h
 | a::r,l,h=>by
  simp only[CY]at h⊢;obtain⟨t,h1,h2⟩:=qh.1 h;obtain⟨q,h3,h4⟩:=qB.1 h2;rw[dK h1,OT h3];exact rC some h4
theorem Qs {v:List Int}:∀{a b l m:List Int},CY v a=some l->CY v b=some m->CY v (a++b)=some (l++m)
 | [],b,l,m,h,h2=>by simp only[CY,pz]at h;subst h;exact h2
 | x::r,b,l,m,h,h2=>by
  simp only[CY,se]at h⊢;obtain⟨t,h1,h3⟩:=qh.1 h;obtain⟨q,h4,rfl⟩:=qB.1 h3;rw[h1,Qs h4 h2];rfl
theorem Qd {v:List Int}{a t:Int}{r l:List Int}(h1:L5 v a=some t)(h2:CY v r=some l):CY v (a::r)=some (t::l):=by
 simp only[CY];rw[h1,h2];rfl
theorem VT (v:List Int)(t:Int):L5 (v++[t]) (v.length:Int)=some t:=by
 unfold L5;rw[qF ⟨by omega,by simp;omega⟩];simp
theorem Vh (w:List Int):∀(q:Nat) (m:List Int),m.length=q->CY (w++m) (GM w.length q)=some m
 | 0,m,h=>by
  have:=qV h;subst this;rfl
 | q+1,m,h=>by
  rcases List.eq_nil_or_concat m with rfl|⟨m',t,rfl⟩
  ·simp at h
  ·simp only[List.concat_eq_append,qQ,List.length_singleton]at h⊢;have hq:m'.length=q:=by omega
   subst hq;rw[So,<- qm];refine Qs (OT (Vh w m'.length m' rfl)) (Qd ?_ rfl);have:=VT (w++m') t;simp only[qQ]at this;exact this
inductive RunT (N:Nat) (R2:Ah->List Int->Block->Option Int) (n:Ax):List Int->List Step->List Int->Prop where
 | nil {w:List Int}:RunT N R2 n w [] w
 | cons {w w':List Int} {s:Step} {r:List Step} {t:Int}:Be N R2 (Dc n) w s=some (t,true)->0<=s.op->s.op<=11->RunT N R2 n (w++[t]) r w'->RunT N R2 n w (s::r) w'
theorem RunT.app {N:Nat}{R2:Ah->List Int->Block->Option Int}{n:Ax}{w w1 w2:List Int}{a b:List Step}(h:RunT N R2 n w a w1)(h2:RunT N R2 n w1 b w2):RunT N R2 n w (a++b) w2:=by
 induction h with
 | nil=>exact h2
 | cons q q1 q2 _ ih=>exact .cons q q1 q2 (ih h2)
theorem RunT.one {N:Nat}{R2:Ah->List Int->Block->Option Int}{n:Ax}{w:List Int}{s:Step}{t:Int}(h:Be N R2 (Dc n) w s=some (t,true))(h1:0<=s.op)(h2:s.op<=11):RunT N R2 n w [s] (w++[t]):=.cons h h1 h2 .nil
theorem RunT.len {N:Nat}{R2:Ah->List Int->Block->Option Int}{n:Ax}{w w1:List Int}{a:List Step}(h:RunT N R2 n w a w1):w1.length=w.length+a.length:=by
 induction h with
 | nil=>simp
 | cons _ _ _ _ ih=>rw[ih];simp;omega
theorem iY {N:Nat}{R2:Ah->List Int->Block->Option Int}{n:Ax}{b:Block}:∀{w w':List Int} {r:List Step} (i M:Nat),RunT N R2 n w r w'->b.steps.drop i=r->i<=b.steps.length->r.length<M->w.length+r.length<=10000->b.steps.length<=10000->
  BQ N (Dc n) b R2 M (i:Int) w=some (.inr w'):=by
 intro w w' r i M h
 induction h generalizing i M with
 | nil=>
  intro hd hi hM hw hbl;obtain⟨M,rfl⟩ :∃m,M=m+1:=⟨M-1,by omega⟩
  have hlen:=rC List.length hd;simp only[sB,qt]at hlen;have:i=b.steps.length:=by omega
  subst this;rw[BQ,G7]
 | @cons w w' s r t q q1 q2 _ ih=>
  intro hd hi hM hw hbl;obtain⟨M,rfl⟩ :∃m,M=m+1:=⟨M-1,by omega⟩
  have hlen:=rC List.length hd;simp only[sB,qa]at hlen;have hs:b.steps[i]?=some s:=by
   have:=rC (λl=>l[0]?) hd;simpa using this
  have hd2:b.steps.drop (i+1)=r:=by
   have:=drop_cons hs;rw[this]at hd;exact (tc hd).2
  simp only[qa]at hM hw;rw[BQ,qF (by simp[AK];omega),Av hs,po,q,po,V2 q1 q2];simp only[rA,py,qR,po,Bool.not_false,qe];rw[Cp w [t] 8 (by simp;omega) (by simp;omega),Co (n:=(i:Int)+1) (by omega) (by omega)];have:=ih (i+1) M hd2 (by omega) (by omega) (by simp;omega) hbl;exact this
theorem ZR {n:Ax}{N:Nat}(hN:2000000<=N){T:List Int->Block->Int}(hT :∀(v:List Int) (b:Block),Ho b<601->BK n b v->∀n1 n2,601<=n1->601<=n2->Da N n1 n v b=some (T v b)/\BM N n2 (Dc n) v b=some (T v b)/\(T v b=-1∨Cg n.decls (T v b)=true))
  {v w:List Int} {b:Block} {t:Int} (hb:Ho b<601) (B:BK n b v) (h:RunT N (BM N 601) n v b.steps w) (hr:L5 w b.result=some t) (hl:v.length+b.steps.length<=10000):T v b=t:=by
 obtain⟨_,q,_⟩:=hT v b hb B 602 602 (by omega) (by omega);rw[BM,DJ,jt (by omega)]at q;have:=iY (b:=b) 0 N h (by simp) (by omega) (by omega) hl (by omega);rw[uS]at this;rw[po,this]at q;simp only[Sh.JO]at q;obtain⟨r0,r1,r2,_⟩:=QI hr;have e1:¬ b.result<0:=by omega
 have e2:¬ (w.length:Int)<=b.result:=by omega
 simp[e1,e2,AK,r2]at q;exact q.symm
end RC
namespace RC
open Go
theorem gV {k:List Block}{b:Block}(h:b∈k):Qw b<=Wn k:=by
 induction k with
 | nil=>cases h
 | cons c k ih=>
  simp only[Wn];rcases qH.1 h with rfl|h
  ·omega
  ·have:=ih h;omega
theorem gM {l:List Step}{s:Step}(h:s∈l):YI s<=Qq l:=by
 induction l with
 | nil=>cases h
 | cons c k ih=>
  simp only[Qq];rcases qH.1 h with rfl|h
  ·omega
  ·have:=ih h;omega
theorem Zo {f:AG->List Int->Nat->Int×List Step}{env:List Int}{n:Nat}:∀{r:List AG} {ms:List Nat} {i:Nat} {k:AG} {q:Nat},r[i]?=some k->ms[i]?=some q->(Js f env n r ms)[i]?=some ⟨(f k (env++GM n q) (n+q)).2,(f k (env++GM n q) (n+q)).1⟩
 | [],_,_,_,_,h,_=>by simp at h
 | _::_,[],_,_,_,_,h=>by simp at h
 | k'::r,m::ms,0,k,q,h1,h2=>by simp at h1 h2;subst h1;subst h2;rfl
 | k'::r,m::ms,i+1,k,q,h1,h2=>by
  simp only[Js,qq]at h1 h2⊢;exact Zo h1 h2
theorem Zz {f:AG->List Int->Nat->Int×List Step}{env:List Int}{n:Nat}:∀{r:List AG} {ms:List Nat},r.length=ms.length->(Js f env n r ms).length=r.length
 | [],[],_=>rfl
 | [],_::_,h=>by simp at h
 | _::_,[],h=>by simp at h
 | k::r,m::ms,h=>by simp only[Js,qa];rw[Zz (by simpa using h)]
theorem WA {v:List Int}:∀{a l:List Int},CY v a=some l->∀x∈a,0<=x/\x<(v.length:Int)
 | [],_,_,x,hx=>by cases hx
 | a::r,l,h,x,hx=>by
  simp only[CY]at h;obtain⟨t,h1,h2⟩:=qh.1 h;obtain⟨q,h3,_⟩:=qB.1 h2;rcases qH.1 hx with rfl|hx
  ·obtain⟨q0,q1,_⟩:=QI h1;exact⟨q0,q1⟩
  ·exact WA h3 x hx
def gF (N:Nat)(n:Ax)(w:List Int)(r:Int)(st:List Step)(t:Int):Prop:=∃x,RunT N (BM N 601) n w st (w++x)/\(∀y∈w++x,Cg n.decls y=true)/\L5 (w++x) r=some t
theorem WL {N:Nat}{n:Ax}{env:List Int}{f:AG->Nat->Int×List Step}{g:AG->Int}{v:List Int}:∀(l:List AG) (w:List Int),CY w env=some v->(∀x∈w,Cg n.decls x=true)->w.length+4*CN l<=3000->(∀k∈l,∀n,(f k n).2.length<=en k)->
  (∀k∈l,∀w:List Int,CY w env=some v->(∀x∈w,Cg n.decls x=true)->w.length+4*en k<=3000->gF N n w (f k w.length).1 (f k w.length).2 (g k))->
  ∃x,RunT N (BM N 601) n w (HS f l w.length).2 (w++x)/\(∀y∈w++x,Cg n.decls y=true)/\CY (w++x) (HS f l w.length).1=some (l.map g)
 | [],w,_,hw,_,_,_=>⟨[],by simpa [HS] using RunT.nil,by simpa using hw,rfl⟩
 | k::r,w,hA,hw,hb,hf,h=>by
  simp only[CN]at hb;obtain⟨x,r1,r2,r3⟩:=h k (by simp) w hA hw (by omega);have hl:=r1.len;have hfk:=hf k (by simp) w.length;obtain⟨y,s1,s2,s3⟩:=WL (f:=f) (g:=g) r (w++x) (OT hA) r2 (by omega) (λk hk=>hf k (by simp[hk])) (λk hk=>h k (by simp[hk]));rw[hl]at s1 s3;refine⟨x++y,?_,?_,?_⟩
  ·rw[<- qm];exact r1.app s1
  ·rw[<- qm];exact s2
  ·rw[<- qm];exact Qd (dK r3) s3
end RC
namespace RC
open Go
section
variable {p : AP} {n : Ax} {N : Nat} {T : List Int -> AG -> Int} {T2 : List Int -> Block -> Int}
structure LC (p:AP) (n:Ax) (N:Nat) (T:List Int->AG->Int) (T2:List Int->Block->Int):Prop where
 S:FN p.decls p.funcs
 hN:2000000<=N
 hT:TT p N T
 hD:n.decls=p.decls
 T7:Dc n=G0 p
 SN:LV n
 hle :∀f∈(Dc n).funcs,f.CE=[]
 gr :∀(v:List Int) (b:Block),Ho b<601->BK n b v->∀n1 n2,601<=n1->601<=n2->Da N n1 n v b=some (T2 v b)/\BM N n2 (Dc n) v b=some (T2 v b)/\(T2 v b=-1∨Cg n.decls (T2 v b)=true)
theorem LC.pc (C:LC p n N T T2){m:Nat}(hm:m<=601):VN n (Da N 601) (BM N 601) T2 m:=λv b a1 a2 a3 a4 a5=>C.gr v b (by omega) ⟨a1,a2,a4,a5⟩ 601 601 (by omega) (by omega)
theorem fe (C:LC p n N T T2):∀(m:Nat) (e:AG) (env v w:List Int),en e<=m->m<=30->Jj p e v->T v e≠-1->CY w env=some v->(∀x∈w,Cg n.decls x=true)->w.length+4*en e<=3000->gF N n w (low p.decls m e env w.length).1 (low p.decls m e env w.length).2 (T v e):=by
 intro m
 induction m with
 | zero=>intro e _ _ _ h;have:=Qb e;omega
 | succ m ih=>
  intro e env v w he hn V ht hA hw hb;have hE:=LL e;have hel:env.length=v.length:=by have:=HQ hA;omega
  have hWS:=ae C.S C.hN C.hT (m+1) e v he hn V ht;have hOK:=gX C.S C.hN C.hT (m+1) e v he hn V ht;rw[<- hel]at hWS;have F:=Lx p.decls (m+1) e env w.length hWS hOK V.Ch (λx hx=>by have:=WA hA x hx;omega) (by omega);have H:Ou p (G0 p) (D1 N 31) (Bo N 31) T (en e):=λv e a b c d=>C.hT v e a (by omega) c d 31 31 (qU _) (qU _);obtain⟨q1,q2,q3⟩:=C.hT v e V.Ch (by omega) V.len V.Ni 32 32 (by omega) (by omega);have htn:=(IH (q3.resolve_left ht)).1;rw[Bo]at q2;have I:=eJ H V C.S C.hN q2 ht;have OG:∀k∈e.kids,∀(c:List Int) (env' w':List Int),c.length<=3->(∀x∈c,Cg p.decls x=true)->T (v++c) k≠-1->CY w' env'=some (v++c)->(∀x∈w',Cg n.decls x=true)->w'.length+4*en k<=3000->gF N n w' (low p.decls m k env' w'.length).1 (low p.decls m k env' w'.length).2 (T (v++c) k):=λk hk c env' w' m1 m2 m3 m4 m5 m6=>by
   have hke:=FX hk;exact ih k env' (v++c) w' (by omega) (by omega) ⟨V.more hk m1,V.UL m2,by omega,V.Ch.kids k hk⟩ m3 m4 m5 m6
  have yj:∀k∈e.kids,∀(w':List Int),T v k≠-1->CY w' env=some v->(∀x∈w',Cg n.decls x=true)->w'.length+4*en k<=3000->gF N n w' (low p.decls m k env w'.length).1 (low p.decls m k env w'.length).2 (T v k):=λk hk w' m3 m4 m5 m6=>by
   have:=OG k hk [] env w' (by simp) (by simp) (by simpa using m3) (by simpa using m4) m5 m6;simpa using this
  unfold low at F⊢;by_cases h1:e.op=12
  ·rw[qF h1];obtain⟨_,hg⟩:=I.var h1;obtain⟨hk,n0,n1⟩:=hWS.1 h1;obtain⟨j,hj⟩ :∃j:Nat,e.num=(j:Int):=⟨e.num.toNat,by omega⟩
   obtain⟨x,hx,_⟩:=Ba (l:=env) (i:=j) (by omega);obtain⟨a1,a2⟩:=OS.1 hA;have a3:=(a2 j x hx).1;rw[hj,X8]at hg;rw[hg]at a3;rw[hj,Av hx];exact⟨[],by simpa using RunT.nil,by simpa using hw,by simpa using a3⟩
  rw[qG h1]at F⊢;by_cases h2:e.op=13
  ·rw[qF h2];obtain⟨a,b,hk,t1,t2⟩:=I.mz h2;have ha0:=(IH t1).1;have vx:=hk;rw[hk]at hE⊢;simp only[CN]at hE;obtain⟨x,r1,r2,r3⟩:=yj a (by rw[vx];simp) w (by omega) hA hw (by omega);have hl:=r1.len;have la:=F4 p.decls m a env w.length;obtain⟨y,s1,s2,s3⟩:=OG b (by rw[vx];simp) [T v a] (env++[(low p.decls m a env w.length).1]) (w++x) (by simp) (by simpa using t1) (by rw[t2];exact ht) (Qs (OT hA) (Qd r3 rfl)) r2 (by omega);rw[hl]at s1 s3;rw[t2]at s3;exact⟨x++y,by rw[<- qm];exact r1.app s1,by rw[<- qm];exact s2,by rw[<- qm];exact s3⟩
  rw[qG h2]at F⊢;by_cases h3:e.op=7∨e.op=8
  ·rw[qF h3]at F⊢;obtain⟨a,r,hk,hr,wa,wr⟩:=hWS.2.2.1 h3;obtain⟨cL,yp,hT3,hta,hta8,hta7⟩ :∃cL:List (List Int),G3 p.decls e=cL.map (·.length)/\(∀(i:Nat) c k,cL[i]?=some c->r[i]?=some k->c.length<=3/\(∀x∈c,Cg p.decls x=true)/\T (v++c) k=T v e)/\T v a≠-1/\(e.op=8->T v a=e.num/\cL=(CB p.decls e.num).map (E2 p.decls)/\r≠[])/\(e.op=7->T v a=0/\cL=[[],[]]/\e.num=0):=by
    by_cases h8:e.op=8
    ·obtain⟨a',r',zX,t1,t2,t3,t4⟩:=I.pO h8;rw[hk]at zX;obtain⟨rfl,rfl⟩:=tc zX;refine⟨(CB p.decls e.num).map (E2 p.decls),?_,λi c k hc xO=>?_,λq=>?_,λ_=>⟨t1,rfl,t3⟩,λq=>by omega⟩
     ·rw[ra];exact qF h8
     ·rw[qA]at hc;obtain⟨c0,wZ,rfl⟩:=qB.1 hc;have hf:=Kt C.S (pt wZ) C.hN;exact⟨hf.2.2.1,hf.2.2.2,t4 i c0 k wZ xO⟩
     ·rw[q]at t1;rw[<- t1,show CB p.decls (-1)=[] from qG (by omega)]at t2;exact t3 (qV t2)
    ·have h7:e.op=7:=by omega
     obtain⟨a',b',c',zX,t0,t1,t2,t3⟩:=I.og h7;rw[hk]at zX;obtain⟨rfl,rfl⟩:=tc zX;refine⟨[[],[]],qG h8,λi c k hc xO=>?_,by omega,λq=>by omega,λ_=>⟨t1,rfl,t0⟩⟩;have wZ:c=[]:=by have:=pt hc;simpa using this
     subst wZ;have xE:=pt xO;simp only[qH,qi,rI]at xE;refine⟨by simp,by simp,?_⟩;rw[rY];rcases xE with rfl|rfl
     ·exact t2
     ·exact t3
   have vx:=hk;rw[hk]at hE F⊢;simp only[CN]at hE;dsimp only at F⊢;obtain⟨x,r1,r2,r3⟩:=yj a (by rw[vx];simp) w hta hA hw (by omega);have hl:=r1.len;have la:=F4 p.decls m a env w.length;have zh:=Zz (f:=low p.decls m) (env:=env) (n:=w.length+(low p.decls m a env w.length).2.length) hr;have vJ:∀(i:Nat) c k,cL[i]?=some c->r[i]?=some k->(Js (low p.decls m) env (w.length+(low p.decls m a env w.length).2.length) r (G3 p.decls e))[i]?=some ⟨(low p.decls m k (env++GM (w++x).length c.length) ((w++x)++c).length).2,(low p.decls m k (env++GM (w++x).length c.length) ((w++x)++c).length).1⟩:=λi c k hc xO=>by
    have:=Zo (f:=low p.decls m) (env:=env) (n:=w.length+(low p.decls m a env w.length).2.length) xO (show (G3 p.decls e)[i]?=some c.length by rw[yp,qA,hc];rfl);rw[this,qQ (as:=w++x),hl]
   generalize hbl:Js (low p.decls m) env (w.length+(low p.decls m a env w.length).2.length) r (G3 p.decls e)=bl at F zh vJ⊢;have yB:Step.mk e.op e.num 0 [(low p.decls m a env w.length).1] bl∈(low p.decls m a env w.length).2++[Step.mk e.op e.num 0 [(low p.decls m a env w.length).1] bl]:=by simp
   have z1:=YH yB;have z2:=gM yB;have z3:=F.Su;have z4:=F.Sx;have SI:=F.Ch _ yB;have SKs:SK n (Step.mk e.op e.num 0 [(low p.decls m a env w.length).1] bl) (w++x):=⟨SI,by omega,by omega,r2⟩
   have GB:∀(i:Nat) c b,cL[i]?=some c->bl[i]?=some b->T2 ((w++x)++c) b=T v e:=λi c b hc wP=>by
    have wz:=(px.1 wP).1;obtain⟨k,xO,hkr⟩:=Ba (l:=r) (i:=i) (by omega);obtain⟨c3,ct,cT⟩:=hT3 i c k hc xO;have hke:=Kk hkr;have wA:=vJ i c k hc xO;rw[wP]at wA;cases wA;have hbm:=pt wP;have y1:=gV hbm;have y2:=cR hbm;have y3:=UB (Step.mk e.op e.num 0 [(low p.decls m a env w.length).1] bl);have y4:=Sf (Step.mk e.op e.num 0 [(low p.decls m a env w.length).1] bl);simp only[Step.kids,Step.args]at y3 y4;have hlc:((w++x)++c).length<=(w++x).length+3:=by rw[qQ];omega
    obtain⟨x',s1,s2,s3⟩:=OG k (by rw[vx];exact qw _ hkr) c (env++GM (w++x).length c.length) ((w++x)++c) c3 ct (by rw[cT];exact ht) (Qs (OT (OT hA)) (Vh (w++x) c.length c rfl)) (λy hy=>by
     rcases qb.1 hy with q|q
     ·exact r2 y q
     ·rw[C.hD];exact ct y q) (by omega)
    rw[cT]at s3;have lk:=F4 p.decls m k (env++GM (w++x).length c.length) ((w++x)++c).length;refine ZR C.hN C.gr (by omega) ⟨SI.kids _ hbm,?_,by omega,λy hy=>s2 y (by rw[List.mem_append];exact .inl hy)⟩ s1 s3 (by dsimp only;omega);unfold Bs;omega
   have hA1:CY (w++x) [(low p.decls m a env w.length).1]=some [T v a]:=Qd r3 rfl;have hcl2:cL.length=r.length:=by rw[hr,yp];simp
   have NK:=C.pc (m:=Qe (Step.mk e.op e.num 0 [(low p.decls m a env w.length).1] bl)) (by omega);have sty:Be N (BM N 601) (Dc n) (w++x) (Step.mk e.op e.num 0 [(low p.decls m a env w.length).1] bl)=some (T v e,true):=by
    by_cases h8:e.op=8
    ·obtain⟨g1,g2,g3⟩:=hta8 h8;rw[g1]at hA1;refine ld NK SKs C.SN C.hN h8 rfl hA1 ?_ ?_ htn λi c b hc hb=>?_
     ·show bl.length=(CB n.decls e.num).length;rw[C.hD,zh,<- hcl2,g2];simp
     ·intro q;have q':bl=[]:=q;rw[q']at zh;exact g3 (qV zh.symm)
     ·rw[C.hD]at hc⊢;exact GB i (E2 p.decls c) b (by rw[g2,qA];show Option.map _ ((CB p.decls e.num)[i]?)=_;rw[show (CB p.decls e.num)[i]?=some c from hc];rfl) hb
    ·have h7:e.op=7:=by omega
     obtain⟨g1,g2,g3⟩:=hta7 h7;rw[g1]at hA1;have wA:bl.length=2:=by rw[zh,<- hcl2,g2];rfl
     refine mc NK SKs C.hN h7 rfl g3 hA1 wA htn λb hb=>?_;obtain⟨i,wP⟩:=qf.1 (show b∈bl from hb);have wz:=(px.1 wP).1;have:=GB i [] b (by
      rw[g2]
      match i,(show i<2 by omega) with
      | 0,_=>rfl
      | 1,_=>rfl) wP
     simpa using this
   refine⟨x++[T v e],?_,?_,?_⟩
   ·rw[<- qm];exact r1.app (RunT.one sty (by show 0<=e.op;omega) (by show e.op<=11;omega))
   ·rw[<- qm];intro y hy;rcases qb.1 hy with q|q
    ·exact r2 y q
    ·simp only[qO]at q;rw[q,C.hD];exact q3.resolve_left ht
   ·rw[<- qm,<- hl];exact VT (w++x) (T v e)
  rw[qG h3]at F⊢;have h7:¬ e.op=7:=λq=>h3 (.inl q);have h8:¬ e.op=8:=λq=>h3 (.inr q);obtain⟨hs,hk0⟩:=I.nP h1 h2 h7 h8;obtain⟨x,r1,r2,r3⟩:=WL (N:=N) (n:=n) (env:=env) (f:=λk n=>low p.decls m k env n) (g:=T v) e.kids w hA hw (by omega) (λk _ n=>F4 p.decls m k env n) (λk hk w' a1 a2 a3=>yj k hk w' (by have:=hk0 k hk;omega) a1 a2 a3);have hl:=r1.len;have hla:=OR (f:=λk n=>low p.decls m k env n) e.kids w.length λk _ n=>F4 p.decls m k env n;generalize vX:HS (λk n=>low p.decls m k env n) e.kids w.length=A at r1 r3 hl hla F⊢;have yB:Step.mk e.op e.num 0 A.1 []∈A.2++[Step.mk e.op e.num 0 A.1 []]:=by simp
  have z1:=YH yB;have z2:=gM yB;have z3:=F.Su;have z4:=F.Sx;dsimp only at z3 z4;have SKs:SK n (Step.mk e.op e.num 0 A.1 []) (w++x):=⟨F.Ch _ yB,by omega,by omega,r2⟩
  have hso:=(VP hs).1;have sty:=oJ (R2:=BM N 601) SKs C.hN rfl r3 rfl C.hle (by rw[C.T7];exact hs);refine⟨x++[T v e],?_,?_,?_⟩
  ·rw[<- qm];exact r1.app (RunT.one sty (by show 0<=e.op;omega) (by show e.op<=11;omega))
  ·rw[<- qm];intro y hy;rcases qb.1 hy with q|q
   ·exact r2 y q
   ·simp only[qO]at q;rw[q,C.hD];exact q3.resolve_left ht
  ·rw[<- qm,<- hl];exact VT (w++x) (T v e)
end
end RC
namespace RC
open Go
theorem Y5 {p:AP}(S:Hh p){N:Nat}(hN:2000000<=N)(hv:Ec N p=some true):∃T,FN p.decls p.funcs/\TT p N T/\∀f∈p.funcs,en f.body<=30/\Jj p f.body f.params/\T f.params f.body=f.result/\T f.params f.body≠-1:=by
 obtain⟨b,h1,_,h3⟩:=O1 S hN;rw[hv]at h1;cases h1;obtain⟨SO,hen⟩:=h3 rfl;obtain⟨T,hT⟩:=Zh SO hN 31;have hl:=S.Na;refine⟨T,SO,hT,λf hf=>?_⟩;obtain⟨q1,q2,q3⟩:=SO.Nf f hf;have he:=hen f hf;have V:Jj p f.body f.params:=⟨by omega,q2,by omega,(S.fin hf).body⟩
 have L1:=D5 (l:=p.funcs) (DE N p) (λ_ f=>NC p T f) (λn=>by rw[DE,qG (by simp[AK])]) (λn i f hi=>by
  have wz:=(px.1 hi).1;have hf:=pt hi;obtain⟨q1,q2,q3⟩:=SO.Nf f hf;have he:=hen f hf;have ty:OJ N p f.params f.body=some (T f.params f.body):=(hT f.params f.body (S.fin hf).body (by omega) (by omega) q2 N N (by omega) (by omega)).1;rw[DE,qF (by simp[AK];omega),Av hi];simp only[po];rw[LD (S.fz hf).2 hN,Co (by omega) (by omega),show ((i:Int)+1)=((i+1:Nat):Int) by omega];simp only[po];unfold NC;rw[qF he,qG (by simp),ty];by_cases hr:T f.params f.body=f.result<;>simp[he,hr]) (by omega:p.funcs.length<N)
 rw[Fg]at L1;have hs:p.funcs.all (NC p T)=true:=by
  unfold Ec at hv;rw[Tz S hN]at hv;simp only[po]at hv;cases T7:Rg p with
  | false=>rw[T7]at hv;simp at hv
  | true=>
   rw[T7]at hv;simp only[rA,py,qR]at hv;rw[L1,D6]at hv;cases hb:p.funcs.all (NC p T) with
   | true=>rfl
   | false=>rw[hb]at hv;simp at hv
 have hb:=qC.1 hs f hf;unfold NC at hb;simp only[qP,qJ]at hb;exact⟨he,V,hb.2,by rw[hb.2];have:=(IH q3).1;omega⟩
def MJ (D:List AI)(f:Ar):CQ:=⟨f.params,[],f.result,⟨(low D 30 f.body (GM 0 f.params.length) f.params.length).2,(low D 30 f.body (GM 0 f.params.length) f.params.length).1⟩⟩
def Oa (p:AP):Ax:=⟨p.decls,p.funcs.map (MJ p.decls)⟩
theorem kA {q:Nat}(hq:q<=1000){N:Nat}(hN:2000000<=N):FK (List.replicate q 0) N 0 (List.replicate q 0)=some (GM 0 q):=by
 have key:∀(j M i:Nat),i+j=q->j<M->FK (List.replicate q 0) M (i:Int) (GM 0 i++List.replicate (q-i) 0)=some (GM 0 q):=by
  intro j
  induction j with
  | zero=>
   intro M i hi hM;obtain⟨M,rfl⟩ :∃m,M=m+1:=⟨M-1,by omega⟩
   rw[FK,qG (by simp[AK];omega),show q-i=0 by omega,show i=q by omega];simp
  | succ j ih=>
   intro M i hi hM;obtain⟨M,rfl⟩ :∃m,M=m+1:=⟨M-1,by omega⟩
   obtain⟨k,hk⟩ :∃k,q-i=k+1:=⟨q-i-1,by omega⟩
   rw[FK,qF (by simp[AK];omega),hk,List.replicate_succ];have hg:(GM 0 i++(0:Int)::List.replicate k 0)[i]?=some 0:=by
    rw[qS (by rw[Gm];omega),Gm];simp
   rw[Av hg,po,Co (n:=(i:Int)+1) (by omega) (by omega)];have hp:Sh.put (GM 0 i++(0:Int)::List.replicate k 0) (i:Int) (i:Int)=GM 0 (i+1)++List.replicate (q-(i+1)) 0:=by
    rw[T5,List.set_append_right _ _ (by rw[Gm];omega),Gm,So,show i-i=0 by omega,tU,show q-(i+1)=k by omega];simp
   rw[hp];exact ih M (i+1) (by omega) (by omega)
 have:=key q N 0 (by omega) (by omega);simpa [GM] using this
theorem ep {p:AP}(S:Hh p){T:List Int->AG->Int}(SO:FN p.decls p.funcs){N:Nat}(hN:2000000<=N)(hT:TT p N T)(hF :∀f∈p.funcs,en f.body<=30/\Jj p f.body f.params/\T f.params f.body=f.result/\T f.params f.body≠-1):FG N p N 0 []=some (p.funcs.map (MJ p.decls)):=by
 have yP:=SO.Na;have key:∀(j M i:Nat),i+j=p.funcs.length->j<M->FG N p M (i:Int) ((p.funcs.take i).map (MJ p.decls))=some (p.funcs.map (MJ p.decls)):=by
  intro j
  induction j with
  | zero=>
   intro M i hi hM;obtain⟨M,rfl⟩ :∃m,M=m+1:=⟨M-1,by omega⟩
   rw[FG,qG (by simp[AK];omega),show i=p.funcs.length by omega,ri]
  | succ j ih=>
   intro M i hi hM;obtain⟨M,rfl⟩ :∃m,M=m+1:=⟨M-1,by omega⟩
   obtain⟨f,hfi,hfm⟩:=Ba (l:=p.funcs) (i:=i) (by omega);obtain⟨e1,V,e2,e3⟩:=hF f hfm;have zD:=(SO.Nf f hfm).1;have hW:=ae SO hN hT 30 f.body f.params e1 (by omega) V e3;have hb:=OQ SO hN 30 N f.body (GM 0 f.params.length) f.params.length [] (by omega) (by rw[Gm];exact hW) (by rw[Gm];omega) (by omega) (by simp;omega);rw[FG,qF (by simp[AK];omega),Av hfi,po,AK,Mz _ _ _ (by omega) (by omega),po,kA (by omega) hN,po];unfold LK;rw[hb,po,jt (by omega),po,Cp _ _ _ (by simp;omega) (by simp;omega),po,Co (n:=(i:Int)+1) (by omega) (by omega)];have:=ih M (i+1) (by omega) (by omega);rw[Gg hfi,rM]at this;exact this
 have:=key p.funcs.length N 0 (by omega) (by omega);simpa using this
end RC
namespace RC
open Go
theorem oK {l:List Int}(hl:l.length<=1048576):EP l=some l:=by
 unfold EP;rw[Cp [] l 8 (by simp;omega) (by simp;omega)];rfl
theorem dY {p:AP}(S:Hh p){N:Nat}(hN:2000000<=N)(hv:Ec N p=some true):Rg p=true:=by
 unfold Ec at hv;rw[Tz S hN]at hv;simp only[po]at hv;cases T7:Rg p with
 | false=>rw[T7]at hv;simp at hv
 | true=>rfl
theorem ba {n:Ax}(S:JZ n){N:Nat}(hN:2000000<=N)(hs:bR n=true){T:List Int->Block->Int}(hT :∀(v:List Int) (b:Block),Ho b<601->BK n b v->∀n1 n2,601<=n1->601<=n2->Da N n1 n v b=some (T v b)/\BM N n2 (Dc n) v b=some (T v b)/\(T v b=-1∨Cg n.decls (T v b)=true))
  (SO:LV n) (hb :∀r∈n.AU,Nw T r=true):Iq N n=some true:=by
 have hl:=S.TK;unfold Iq;rw[WK S hN,hs];simp only[po];have xe:∀r∈n.AU,Ho r.body<=600->Nz N n r.params r.body=some (T r.params r.body):=λr hr he=>by
  obtain⟨q1,q2,q3⟩:=SO.Nf (TW r) (sI hr);have q1':r.params.length<=3:=q1;exact (hT r.params r.body (by omega) ⟨(S.Ch.AU.1 r hr).body,(S.rz hr).2.2,by omega,q2⟩ N N (by omega) (by omega)).1
 have L1:=D5 (l:=n.AU) (ER N n) (λ_ r=>Nw T r) (λq=>by rw[ER,G7]) (λq i r hi=>by
  have wz:=(px.1 hi).1;have hr:=pt hi;rw[ER,Gp,Av hi];simp only[po];rw[QK (S.rz hr).2.2 hN,wI,show ((i:Int)+1)=((i+1:Nat):Int) by omega];simp only[po];unfold Nw;by_cases he:Ho r.body<=600
  ·rw[qF he,qG (by simp),xe r hr he];by_cases hq:T r.params r.body=r.result<;>simp[he,hq]
  ·rw[qG he];simp[he]) (by omega:n.AU.length<N)
 rw[Fg]at L1;have:n.AU.all (Nw T)=true:=qC.2 hb;simp only[rA,py,qR];rw[L1,D6,this];rfl
theorem cC {n:Ax}(S:JZ n){N:Nat}(hN:2000000<=N)(hv:Ez N n=some true)(hp :∀r∈n.AU,T3 r.body=true):I4 N n=some true:=by
 have hl:=S.TK;unfold I4;rw[hv];simp only[po];have L2:=D5 (l:=n.AU) (G5 N n) (λ_ r=>T3 r.body) (λq=>by rw[G5,G7]) (λq i r hi=>by
  have wz:=(px.1 hi).1;have hr:=pt hi;rw[G5,Gp,Av hi];simp only[po];rw[Rc hN (S.rz hr).2.2,wI,show ((i:Int)+1)=((i+1:Nat):Int) by omega];simp only[po];cases T3 r.body<;>rfl) (by omega:n.AU.length<N)
 rw[Fg]at L2;have:(n.AU.all λr=>T3 r.body)=true:=qC.2 hp;simp only[rA,py,qR];rw[L2,D6,this];rfl
theorem eV {p:AP}(S:Hh p){T:List Int->AG->Int}(SO:FN p.decls p.funcs){N:Nat}(hN:2000000<=N)(hT:TT p N T)(hF :∀f∈p.funcs,en f.body<=30/\Jj p f.body f.params/\T f.params f.body=f.result/\T f.params f.body≠-1):FD N p N 0 []=some (p.funcs.map (MJ p.decls)):=by
 have yP:=SO.Na;have key:∀(j M i:Nat),i+j=p.funcs.length->j<M->FD N p M (i:Int) ((p.funcs.take i).map (MJ p.decls))=some (p.funcs.map (MJ p.decls)):=by
  intro j
  induction j with
  | zero=>
   intro M i hi hM;obtain⟨M,rfl⟩ :∃m,M=m+1:=⟨M-1,by omega⟩
   rw[FD,qG (by simp[AK];omega),show i=p.funcs.length by omega,ri]
  | succ j ih=>
   intro M i hi hM;obtain⟨M,rfl⟩ :∃m,M=m+1:=⟨M-1,by omega⟩
   obtain⟨f,hfi,hfm⟩:=Ba (l:=p.funcs) (i:=i) (by omega);obtain⟨e1,V,e2,e3⟩:=hF f hfm;have zD:=(SO.Nf f hfm).1;have hW:=ae SO hN hT 30 f.body f.params e1 (by omega) V e3;obtain⟨N',rfl⟩ :∃q,N=q+1:=⟨N-1,by omega⟩
   have hb:=OP SO hN 30 (N'+1) N' f.body (GM 0 f.params.length) f.params.length [] (by omega) (by omega) (by omega) (by rw[Gm];exact hW) (by rw[Gm];omega) (by omega) (by simp;omega);rw[FD,qF (by simp[AK];omega),Av hfi,po,AK,show (0:Int)=((0:Nat):Int) from rfl,RM (by omega) hN,po];unfold Mx;rw[Eb,ID,Is,hb,po,po,oK (by omega),po,Cp _ _ _ (by simp;omega) (by simp;omega),po,Co (n:=(i:Int)+1) (by omega) (by omega)];have:=ih M (i+1) (by omega) (by omega);rw[Gg hfi,rM]at this;exact this
 have:=key p.funcs.length N 0 (by omega) (by omega);simpa using this
end RC
namespace RC
open Go
theorem Sg {α:Type}{f:α->Nat}{c:Nat}:∀{l:List α},(∀x∈l,f x<=c)->(l.map f).sum<=c*l.length
 | [],_=>by simp
 | a::r,h=>by
  have h1:=h a (by simp);have h2:=Sg (f:=f) (l:=r) λx hx=>h x (by simp[hx]);simp only[qj,sn,qa,Nat.mul_add];omega
section
variable {p : AP} {N : Nat} {T : List Int -> AG -> Int}
theorem RB (SO:FN p.decls p.funcs)(hN:2000000<=N)(hT:TT p N T){f:Ar}(hf:f∈p.funcs)(h:en f.body<=30/\Jj p f.body f.params/\T f.params f.body=f.result/\T f.params f.body≠-1):LF (en f.body) (low p.decls 30 f.body (GM 0 f.params.length) f.params.length).1 (low p.decls 30 f.body (GM 0 f.params.length) f.params.length).2:=by
 obtain⟨e1,V,e2,e3⟩:=h;have zD:=(SO.Nf f hf).1;exact Lx p.decls 30 f.body (GM 0 f.params.length) f.params.length (by rw[Gm];exact ae SO hN hT 30 f.body f.params e1 (by omega) V e3) (gX SO hN hT 30 f.body f.params e1 (by omega) V e3) V.Ch (bf (by omega)) (by omega)
theorem YB (S:Hh p)(SO:FN p.decls p.funcs)(hN:2000000<=N)(hT:TT p N T)(hF :∀f∈p.funcs,en f.body<=30/\Jj p f.body f.params/\T f.params f.body=f.result/\T f.params f.body≠-1):JZ (Oa p):=by
 have yP:=SO.Na;have hdl:=SO.MY;refine⟨⟨S.Ch.decls,⟨λr hr=>?_,by show (p.funcs.map _).length<=_;simp;omega⟩⟩,?_⟩
 ·obtain⟨f,hf,rfl⟩:=qT.1 (show r∈p.funcs.map (MJ p.decls) from hr);have F:=RB SO hN hT hf (hF f hf);have h1:=F.Sx;have h2:=(hF f hf).1;exact⟨(S.fin hf).params,⟨λx hx=>(by cases hx),by show (0:Nat)<=_;omega⟩,(S.fin hf).result,⟨⟨F.Ch,by show List.length (low _ _ _ _ _).2<=_;omega⟩,Z6 F.res⟩⟩
 ·unfold dg;have h1:(p.decls.map dz).sum<=1000*p.decls.length:=Sg λd hd=>by
   have q1:=SO.RJ d hd;have q2:(d.cons.map cz).sum<=100*d.cons.length:=Sg λc hc=>by
    have:=((SO.N7 d hd c hc).1);unfold cz;omega
   unfold dz;omega
  have h2:((p.funcs.map (MJ p.decls)).map kg).sum<=1000*(p.funcs.map (MJ p.decls)).length:=Sg λr hr=>by
   obtain⟨f,hf,rfl⟩:=qT.1 hr;have F:=RB SO hN hT hf (hF f hf);have h1:=F.Sx;have h2:=(hF f hf).1;have h3:=(SO.Nf f hf).1;show f.params.length+0+(List.length (low _ _ _ _ _).2+Qq (low _ _ _ _ _).2)<=_;omega
  show p.decls.length+(p.decls.map dz).sum+((p.funcs.map (MJ p.decls)).length+((p.funcs.map (MJ p.decls)).map kg).sum)<=_;rw[qc]at h2⊢;omega
theorem ic (SO:FN p.decls p.funcs):LV (Oa p):=by
 refine⟨SO.MY,SO.RJ,SO.N7,SO.gJ,?_,λf hf=>?_⟩
 ·have:=SO.Na;show ((p.funcs.map (MJ p.decls)).map TW).length<=4;simpa using this
 ·obtain⟨r,hr,rfl⟩:=qT.1 (show f∈(p.funcs.map (MJ p.decls)).map TW from hf);obtain⟨g,hg,rfl⟩:=qT.1 hr;exact SO.Nf g hg
theorem gI:Dc (Oa p)=G0 p:=by
 unfold Dc G0 Oa;simp only[ra];rfl
theorem il:∀f∈(Dc (Oa p)).funcs,f.CE=[]:=λf hf=>by
 rw[gI]at hf;obtain⟨g,_,rfl⟩:=qT.1 (show f∈p.funcs.map _ from hf);rfl
theorem fc (S:Hh p)(SO:FN p.decls p.funcs)(hN:2000000<=N)(hT:TT p N T)(hs:Rg p=true)(hF :∀f∈p.funcs,en f.body<=30/\Jj p f.body f.params/\T f.params f.body=f.result/\T f.params f.body≠-1):Ez N (Oa p)=some true/\I4 N (Oa p)=some true:=by
 have NS:=YB S SO hN hT hF;have SN:=ic SO;obtain⟨T2,gr⟩:=UA SN hN 601;have C:LC p (Oa p) N T T2:=⟨SO,hN,hT,rfl,gI,SN,il,gr⟩
 have hsv:Iq N (Oa p)=some true:=by
  refine ba NS hN ?_ gr SN λr hr=>?_
  ·unfold bR;have h4:=SN.TK;have e1:(Oa p).AU.map (λr=>(r.params,r.result))=p.funcs.map λf=>(f.params,f.result):=by
    show (p.funcs.map (MJ p.decls)).map _=_;rw[ra];rfl
   have e2:(Oa p).AU.all Vd=true:=qC.2 λr hr=>by
    obtain⟨g,_,rfl⟩:=qT.1 (show r∈p.funcs.map (MJ p.decls) from hr);rfl
   rw[e1,e2];have:N1 (Oa p).decls (p.funcs.map λf=>(f.params,f.result))=true:=hs;rw[this];simp[h4]
  ·obtain⟨f,hf,rfl⟩:=qT.1 (show r∈p.funcs.map (MJ p.decls) from hr);obtain⟨e1,V,e2,e3⟩:=hF f hf;have F:=RB SO hN hT hf (hF f hf);have zD:=SO.Nf f hf;have z1:=F.Su;have z2:=F.Sx;obtain⟨x,r1,r2,r3⟩:=fe C 30 f.body (GM 0 f.params.length) f.params f.params e1 (by omega) V e3 (by have:=Vh [] f.params.length f.params rfl;simpa using this) zD.2.1 (by omega);have hnst:Ho (MJ p.decls f).body<=30:=by show Ja (low _ _ _ _ _).2<=30;omega
   have BKb:BK (Oa p) (MJ p.decls f).body f.params:=⟨(NS.Ch.AU.1 _ hr).body,(NS.rz hr).2.2,by omega,zD.2.1⟩
   have xe:=ZR hN gr (by omega) BKb r1 r3 (by show _+List.length (low _ _ _ _ _).2<=_;omega);unfold Nw;have a1:decide (Ho (MJ p.decls f).body<=600)=true:=sE (by omega);rw[a1,show T2 (MJ p.decls f).params (MJ p.decls f).body=T f.params f.body from xe,e2];simp[MJ]
 obtain⟨b,h1,h2⟩:=T9 NS hN;rw[hsv]at h1;cases h1;refine⟨h2,cC NS hN h2 λr hr=>?_⟩;obtain⟨f,hf,rfl⟩:=qT.1 (show r∈p.funcs.map (MJ p.decls) from hr);have F:=RB SO hN hT hf (hF f hf);rw[aN,Xk];exact qC.2 F.pl
end
end RC
namespace RC
open Go
def pf (o n:Int):List AG->AG
 | c::d::k=>if o=11/\c.op=10 then .mk 9 c.num (c.kids++[d]) else .mk o n (c::d::k)
 | k=>.mk o n k
mutual
def kn:AG->AG|.mk o n k=>pf o n (oa k)
def oa:List AG->List AG|[]=>[]|e::l=>kn e::oa l
end
def K2 (e:AG):Prop:=e.op=11->2<=e.kids.length
end RC
namespace RC
open Go
end RC
namespace RC
open Go
end RC
namespace RC
open Go
end RC
namespace RC
open Go
end RC
namespace RC
open Go
end RC
namespace RC
open Go
end RC
namespace RC
open Go
end RC
namespace RC
open Go
section
variable {p : AP} {R1 : AP -> List Int -> AG -> Option Int} {R2 : List Int -> Ah -> AG -> Option Int} {T : List Int -> AG -> Int} {e : AG} {v : List Int} {N : Nat}
end
end RC
namespace RC
open Go
end RC
namespace RC
open Go
end RC
namespace RC
open Go
section
variable {p : AP} {R1 : AP -> List Int -> AG -> Option Int} {R2 : List Int -> Ah -> AG -> Option Int} {T : List Int -> AG -> Int} {e : AG} {v : List Int} {N : Nat}
def pj (D:List AI)(o nu:Int)(i:Nat):Nat:=if o=13/\i=1 then 1 else if o=8/\0<i then (E2 D (((CB D nu)[i-1]?).getD 0)).length else 0
end
end RC
namespace RC
open Go
section
variable {p : AP} {N : Nat} {T : List Int -> AG -> Int} {e : AG} {v : List Int}
end
mutual
def sh (n k:Int):AG->AG|.mk o nu ks=>.mk o (if o=12/\n<=nu then nu+k else nu) (shl n k ks)
def shl (n k:Int):List AG->List AG|[]=>[]|e::l=>sh n k e::shl n k l
end
section
variable {p : AP} {N : Nat} {T : List Int -> AG -> Int}
def lt (n:Nat):Nat->List AG->AG->AG
 | _,[],b=>b
 | k,x::r,b=>.mk 13 0 [sh n k x,lt n (k+1) r b]
end
end RC
namespace RC
end RC
namespace RC
end RC
namespace RC
open Go
def ci (D:List AI)(t c:Int):Nat:=(c-(nc (D.take (t-1).toNat):Int)).toNat
section
variable {p : AP} {N : Nat} {T : List Int -> AG -> Int} {e : AG} {v : List Int}
end
end RC
namespace RC
open Go
section
variable {p : AP} {N : Nat} {T : List Int -> AG -> Int}
end
end RC
namespace RC
open Go
section
variable {p : AP} {N : Nat} {T : List Int -> AG -> Int}
end
end RC
namespace RC
open Go
section
variable {p : AP} {N : Nat} {T : List Int -> AG -> Int}
end
end RC
namespace RC
open Go
section
variable {p : AP} {N : Nat}
end
end RC
namespace RC
end RC
namespace RC
open Go
def pa (fi:Int)(body:AG)(n:Nat)(o nu:Int)(l:List AG):AG:=if o=9/\nu=fi then lt n 0 l (sh 0 n body) else .mk o nu l
mutual
def inl (D:List AI)(fi:Int)(body:AG)(n:Nat):AG->AG
 | .mk o nu k=>pa fi body n o nu (mr D fi body n o nu 0 k)
def mr (D:List AI)(fi:Int)(body:AG)(n:Nat)(o nu:Int):Nat->List AG->List AG
 | _,[]=>[]
 | i,e::l=>inl D fi body (n+pj D o nu i) e::mr D fi body n o nu (i+1) l
end
section
variable {p : AP} {N : Nat} {T : List Int -> AG -> Int}
end
end RC
namespace RC
open Go
section
variable {p : AP} {N : Nat}
def inf (p:AP)(fi:Int)(fb f:Ar):AG:=inl p.decls fi fb.body f.params.length f.body
end
end RC
namespace RC
open Go
end RC
namespace RC
open Go
end RC
namespace RC
open Go
section
variable {p : AP} {N : Nat} {T : List Int -> AG -> Int} {e : AG} {v : List Int}
end
end RC
namespace RC
open Go
structure Bk (b:List Int):Prop where
 u8 :∀x∈b,U8 x
 len:b.length<=2000
def At (p K:Int):Prop:=0<=p/\p<=K
theorem Yb {code:List Int}(h8 :∀x∈code,U8 x)(hl:code.length<=1048576):Af (Jk code) λq=>Bk q.1/\q.2=0:=by
 unfold Jk;refine Af.bind (R:=λb=>Bk b) (BB (λh=>?_) λh=>?_) λb hb=>Af.some ⟨hb,rfl⟩
 ·rw[AK]at h;have e:Sh.sl code 0 2000=some (code.take 2000):=by
   unfold Sh.sl;rw[qF ⟨by decide,by decide,by omega⟩];rfl
  exact AN e (Af.some ⟨λx hx=>h8 x (rO hx),by simp;omega⟩)
 ·rw[AK]at h;exact Af.some ⟨h8,by omega⟩
theorem Se {a n:Int}(ha:0<=a)(hn:1<=n):0<=a.tmod n/\a.tmod n<n/\a.tmod n<=a:=by
 rw[Int.tmod_eq_emod_of_nonneg ha];refine⟨Int.emod_nonneg _ (by omega),Int.emod_lt_of_pos _ (by omega),?_⟩;have:=Int.mul_ediv_add_emod a n;have h2:0<=n*(a / n):=Int.mul_nonneg (by omega) (Int.ediv_nonneg ha (by omega));omega
theorem Zw {a n:Int}(ha:0<=a)(hn:1<=n):0<=a.tdiv n/\a.tdiv n<=a:=by
 rw[Int.tdiv_eq_ediv_of_nonneg ha];exact⟨Int.ediv_nonneg ha (by omega),Int.ediv_le_self _ ha⟩
theorem W7 {a n:Int}(hn:n≠0):Sh.rem a n=some (a.tmod n):=by unfold Sh.rem;rw[qG hn]
theorem fu {a n:Int}(hn:n≠0):Sh.quo a n=some (Sh.w (a.tdiv n)):=by unfold Sh.quo;rw[qG hn]
structure Pk (n p:Int) (q:Int×Int):Prop where
 pos:q.2=p+1
 nn:0<=q.1
 lt:1<=n->q.1<n
 zero:n<1->q.1=0
theorem Cm {b:List Int}(B:Bk b){p n:Int}(hp:At p 1000000):Af (Ay b p n) (Pk n p):=by
 obtain⟨p0,p1⟩:=hp;have hlen:=B.len;have ew:Sh.w (p+1)=p+1:=Co (by omega) (by omega);have ew2:Sh.w (p+1-1)=p:=by rw[Co (by omega) (by omega)];omega
 unfold Ay;rw[ew,ew2,AK];refine Af.bind (R:=λt=>t=true↔n<1∨b.length=0) (BB (λh=>Af.some (by simp[h])) λh=>Af.some (by simp[h])) λt ht=>?_;refine Cy (λh=>?_) λh=>?_
 ·refine Af.some ⟨rfl,by show (0:Int)<=0;decide,λh1=>?_,λ_=>rfl⟩;show (0:Int)<n;omega
 ·have hn:¬ (n<1∨b.length=0):=λh1=>by rw[ht.2 h1]at h;cases h
  have hn1:1<=n:=by omega
  have vz:1<=b.length:=by omega
  refine BB (λh1=>?_) λh1=>?_
  ·refine Af.get p0 h1 λc _ hc=>?_;obtain⟨c0,c1⟩:=B.u8 c hc;rw[eG (by omega) (by omega)];obtain⟨m0,m1,_⟩:=Se c0 hn1;exact AN (W7 (by omega)) (Af.some ⟨rfl,m0,λ_=>m1,λh=>absurd h (by omega)⟩)
  ·have k1:(1:Int)<=b.length:=by omega
   obtain⟨a0,a1,_⟩:=Se p0 k1;have e7:Sh.w (p*7)=p*7:=Co (by omega) (by omega);have e73:Sh.w (p*7+3)=p*7+3:=Co (by omega) (by omega);obtain⟨d0,d1,_⟩:=Se (a:=p*7+3) (by omega) k1;obtain⟨f0,f1⟩:=Zw p0 k1;rw[e7,e73];refine AN (W7 (by omega)) ?_;refine Af.get a0 a1 λc _ hc=>?_;obtain⟨c0,c1⟩:=B.u8 c hc;refine AN (W7 (by omega)) ?_;refine Af.get d0 d1 λc' _ yY=>?_;obtain⟨c0',c1'⟩:=B.u8 c' yY;refine AN (fu (by omega)) ?_;rw[eG (n:=c) (by omega) (by omega),eG (n:=c') (by omega) (by omega),Co (n:=p.tdiv b.length) (by omega) (by omega),Co (n:=c*131) (by omega) (by omega),Co (n:=c'*1117) (by omega) (by omega),
    Co (n:=c*131+c'*1117) (by omega) (by omega),Co (n:=p*29) (by omega) (by omega),Co (n:=c*131+c'*1117+p*29) (by omega) (by omega),Co (n:=p.tdiv b.length*53) (by omega) (by omega),
    Co (n:=c*131+c'*1117+p*29+p.tdiv b.length*53) (by omega) (by omega)]
   obtain⟨x,hx⟩ :∃x,x=c*131+c'*1117+p*29+p.tdiv b.length*53:=⟨_,rfl⟩
   rw[<- hx];have x0:0<=x:=by omega
   have x1:x<=1000000000000:=by omega
   obtain⟨y0,y1⟩:=Zw x0 (by decide:(1:Int)<=64);rw[Co (n:=x.tdiv 64) (by omega) (by omega)];obtain⟨z0,z1⟩:=mB x0 (by omega) y0 (by omega);obtain⟨m0,m1,_⟩:=Se z0 hn1;exact AN (W7 (by omega)) (Af.some ⟨rfl,m0,λ_=>m1,λh=>absurd h (by omega)⟩)
structure On (l:List Int) (p:Int) (q:Int×Int):Prop where
 pos:q.2=p+1
 mem:q.1∈l
theorem Hf {b:List Int}(B:Bk b){p:Int}{l:List Int}(hp:At p 1000000)(hl:1<=l.length)(yQ:l.length<=1000):Af (CC b p l) (On l p):=by
 unfold CC;rw[AK];refine Af.bind (Cm B hp) λq ⟨h1,h2,h3,_⟩=>?_;exact Af.get h2 (h3 (by omega)) λx _ hx=>Af.some ⟨h1,hx⟩
end RC
namespace RC
open Go
structure CX (D:List AI) (F:List Ar):Prop where
 dl:D.length<=4
 oG:nc D<=7
 cons :∀d∈D,d.cons.length<=3
 N7 :∀d∈D,∀c∈d.cons,c.fields.length<=3/\∀x∈c.fields,x=0∨x=1∨x=3
 c1:CB D 1=[0,1]
 c3:CB D 3=[2,3]
 f0 :∃t,I8 D 0 0=some (t,⟨[]⟩)
 f1 :∃t,I8 D 0 1=some (t,⟨[0,1]⟩)
 f2 :∃t,I8 D 0 2=some (t,⟨[]⟩)
 f3 :∃t,I8 D 0 3=some (t,⟨[3,0,3]⟩)
 arr:HW 1 1 D 0=-1
 fl:F.length<=4
 jk:1<=F.length
 par :∀f∈F,f.params.length<=3
 cl :∀f∈F,(∀x∈f.params,x=0∨x=1∨x=3)∨(f.params=[2,1]/\f.result=1)
section
variable {D : List AI} {F : List Ar}
theorem bj (D:List AI)(i:Nat):nc (D.take i)<=nc D:=by have:=IP D i;omega
theorem CX.ez (C:CX D F):D.length<=1048576:=by have:=C.dl;omega
theorem CX.nz (C:CX D F):nc D<=1048576:=by have:=C.oG;omega
theorem CX.W8 (C:CX D F){t:Int}{N:Nat}(hN:2000000<=N):Gj N D t=some (CB D t):=Lm C.ez C.nz hN
theorem Sj {D:List AI}{t:Int}:∀x∈CB D t,∃c:Nat,x=(c:Int)/\c<nc D:=by
 intro x hx;unfold CB at hx;split at hx
 ·rename_i h;obtain⟨i,hi,rfl⟩:=qT.1 hx;rw[rm]at hi;cases hd:D[(t-1).toNat]? with
  | none=>rw[hd]at hi;simp at hi
  | some d=>
   rw[hd]at hi;simp only[rJ]at hi;have h1:=NV hd;have h2:=bj D ((t-1).toNat+1);exact⟨nc (D.take (t-1).toNat)+i,by omega,by omega⟩
 ·cases hx
theorem CX.Wx (C:CX D F)(t:Int):(CB D t).length<=3:=by
 unfold CB;split
 ·rw[qc,List.length_range];cases hd:D[(t-1).toNat]? with
  | none=>simp
  | some d=>simpa using C.cons d (pt hd)
 ·simp
theorem CX.fields (C:CX D F){c:Nat}(hc:c<nc D){N:Nat}(hN:2000000<=N):∃fl:List Int,BV N D (c:Int)=some fl/\fl.length<=3/\∀x∈fl,x=0∨x=1∨x=3:=by
 obtain⟨t,x,h1,h2⟩:=H3 C.ez C.nz hc hN;obtain⟨_,_,d,hd,hx⟩:=QS h1;obtain⟨h3,h4⟩:=C.N7 d hd x hx;exact⟨x.fields,h2,h3,h4⟩
theorem dZ:∀(D:List AI) (k c:Nat) {r:Nat×EK},I8 D k c=some r->c<nc D
 | [],k,c,r,h=>by simp[I8]at h
 | d::D,k,c,r,h=>by
  unfold I8 at h;have e:nc (d::D)=d.cons.length+nc D:=by simp[nc]
  cases hx:d.cons[c]? with
  | some y=>have:=(px.1 hx).1;omega
  | none=>
   rw[hx]at h;have:=dZ D _ _ h;omega
theorem CX.W9 (C:CX D F){c t:Nat}{x:EK}(h:I8 D 0 c=some (t,x)){N:Nat}(hN:2000000<=N):BV N D (c:Int)=some x.fields:=by
 obtain⟨t',x',h1,h2⟩:=H3 C.ez C.nz (dZ D 0 c h) hN;rw[h]at h1;cases h1;exact h2
theorem mE {l:List Int}{x:Int}(hl:l.length<=1048576){N i:Nat}(hi:i<=l.length)(hN:l.length-i<N):Ht l x N i=some (if x∈l.drop i then Sum.inl true else Sum.inr ()):=by
 refine Bm l.length (λN i=>Ht l x N i=some (if x∈l.drop i then Sum.inl true else Sum.inr ())) ?_ ?_ hi hN
 ·intro n;rw[Ht,qG (by simp[AK])];simp
 ·intro n i hi ih;obtain⟨y,hy,_⟩:=Ba hi;rw[Ht,qF (by simp[AK];omega),Av hy,drop_cons hy];simp only[po,qH];rw[Co (by omega) (by omega),show ((i:Int)+1)=((i+1:Nat):Int) by omega];by_cases h:y=x
  ·simp[h]
  ·have h':¬ x=y:=λe=>h e.symm;rw[qG (by simpa using h),ih];simp[h']
theorem lq {l:List Int}{x:Int}(hl:l.length<=1048576){N:Nat}(hN:2000000<=N):L3 N l x=some (decide (x∈l)):=by
 unfold L3;have:=mE (x:=x) hl (qd _) (by omega:l.length-0<N);rw[uS,rG]at this;rw[this];by_cases h:x∈l<;>simp[h,Sh.cont]
def eL (D:List AI)(F:List Ar)(t x:Int):Prop:=∃(f:Nat) (g:Ar) (y:Int),x=(f:Int)/\F[f]?=some g/\g.params[g.params.length-1]?=some y/\0<g.params.length/\HW y g.result D 0=t
theorem Pc (C:CX D F){t:Int}{M:Nat}(hM:2000000<=M):Af (JS M ⟨D,F⟩ t) λl=>l.length<=4/\∀x∈l,eL D F t x:=by
 have hf:=C.fl;have key:∀{N i:Nat},i<=F.length->F.length-i<N->∀acc:List Int,acc.length<=i->(∀x∈acc,eL D F t x)->Af (Fo M ⟨D,F⟩ t N i acc) λl=>l.length<=F.length/\∀x∈l,eL D F t x:=by
  intro N i hi hN;refine Bm F.length (λN i=>∀acc:List Int,acc.length<=i->(∀x∈acc,eL D F t x)->Af (Fo M ⟨D,F⟩ t N i acc) λl=>l.length<=F.length/\∀x∈l,eL D F t x) ?_ ?_ hi hN
  ·intro n acc h1 h2;rw[Fo,qG (by simp[AK])];exact Af.some ⟨h1,h2⟩
  ·intro n i hi ih acc h1 h2;obtain⟨g,hg,zu⟩:=Ba hi;have hp:=C.par g zu;rw[Fo,qF (by simp[AK];omega)];refine Af.bind (R:=λl=>l.length<=i+1/\∀x∈l,eL D F t x) ?_ λl hl=>?_
   ·refine AN (Av hg) ?_;refine Af.bind (R:=λb=>b=true->eL D F t i) ?_ λb hb=>?_
    ·refine BB (λh=>?_) λ_=>Af.some (λh=>by cases h);rw[AK]at h;have ve:0<g.params.length:=by omega
     obtain⟨y,hy,_⟩:=Ba (l:=g.params) (i:=g.params.length-1) (by omega);rw[AK,Co (by omega) (by omega),show ((g.params.length:Int)-1)=((g.params.length-1:Nat):Int) by omega];refine AN (Av hy) (AN (NA C.ez hM) (Af.some λh=>?_));exact⟨i,g,y,rfl,hg,hy,ve,by simpa using h⟩
    ·refine Cy (λh=>?_) λ_=>Af.some ⟨by omega,h2⟩;refine Af.app (by simp;omega) (by simp;omega) (Af.some ⟨by simp;omega,λx hx=>?_⟩);rcases qb.1 hx with h3|h3
     ·exact h2 x h3
     ·rw[qO]at h3;rw[h3];exact hb h
   ·rw[Co (by omega) (by omega),show ((i:Int)+1)=((i+1:Nat):Int) by omega];exact ih l hl.1 hl.2
 unfold JS;have:=key (qd _) (by omega:F.length-0<M) [] (by simp) (by simp);rw[uS]at this;exact Af.bind this λl hl=>Af.some ⟨by omega,hl.2⟩
theorem OK (C:CX D F){vars:List Int}(hv:vars.length<=1000){t:Int}{M:Nat}(hM:2000000<=M):Af (Hq M ⟨D,F⟩ vars t) λ_=>True:=by
 unfold Hq;refine Af.bind (R:=λ_=>True) ?_ λb _=>Af.some pw;refine AN (Hy C.ez) ?_;refine Cy (λ_=>Af.some pw) λ_=>?_;refine Af.bind (Pc C hM) λl _=>?_;refine BB (λ_=>Af.some pw) λ_=>?_;exact AN (lq (by omega) hM) (Af.some pw)
theorem Wd {vars:List Int}(hv:vars.length<=1000){t:Int}{M:Nat}(hM:2000000<=M):Af (JK M vars t) λl=>l.length<=1000/\∀x∈l,0<=x/\x<=1000:=by
 have key:∀{N i:Nat},i<=vars.length->vars.length-i<N->∀acc:List Int,acc.length<=i->(∀x∈acc,0<=x/\x<=1000)->Af (El vars t N i acc) λl=>l.length<=vars.length/\∀x∈l,0<=x/\x<=1000:=by
  intro N i hi hN;refine Bm vars.length (λN i=>∀acc:List Int,acc.length<=i->(∀x∈acc,0<=x/\x<=1000)->Af (El vars t N i acc) λl=>l.length<=vars.length/\∀x∈l,0<=x/\x<=1000) ?_ ?_ hi hN
  ·intro n acc h1 h2;rw[El,qG (by simp[AK])];exact Af.some ⟨h1,h2⟩
  ·intro n i hi ih acc h1 h2;obtain⟨y,hy,_⟩:=Ba hi;rw[El,qF (by simp[AK];omega)];refine Af.bind (R:=λl=>l.length<=i+1/\∀x∈l,0<=x/\x<=1000) ?_ λl hl=>?_
   ·refine AN (Av hy) ?_;refine BB (λ_=>?_) λ_=>Af.some ⟨by omega,h2⟩;refine Af.app (by simp;omega) (by simp;omega) (Af.some ⟨by simp;omega,λx hx=>?_⟩);rcases qb.1 hx with h3|h3
    ·exact h2 x h3
    ·rw[qO]at h3;omega
   ·rw[Co (by omega) (by omega),show ((i:Int)+1)=((i+1:Nat):Int) by omega];exact ih l hl.1 hl.2
 unfold JK;have:=key (qd _) (by omega:vars.length-0<M) [] (by simp) (by simp);rw[uS]at this;exact Af.bind this λl hl=>Af.some ⟨by omega,hl.2⟩
structure GE (k P:Nat) (p:Int) (q:AG×Int):Prop where
 size:en q.1<=k
 Ch:BF q.1
 lo:p<=q.2
 hi:q.2<=p+P
theorem GE.up {k k' P P':Nat}{p:Int}{q:AG×Int}(h:GE k P p q)(hk:k<=k')(hP:P<=P'):GE k' P' p q:=⟨by have:=h.size;omega,h.Ch,h.lo,by have:=h.hi;omega⟩
theorem Dz {n:Int}(h1:-1000000<=n)(h2:n<=1000000):JC n:=⟨by omega,by omega⟩
theorem LR {o n:Int}{k:List AG}(ho:JC o)(hn:JC n)(hk :∀e∈k,BF e)(hl:k.length<=1000):BF ⟨o,n,k⟩:=.mk ho hn (by show k.length<=_;omega) hk
theorem Hi (o n:Int)(k:List AG):en ⟨o,n,k⟩=1+CN k:=LL _
theorem J7:∀(a b:List AG),CN (a++b)=CN a+CN b
 | [],b=>by simp[CN]
 | x::a,b=>by have:=J7 a b;simp only[se,CN];omega
theorem It (e:AG):CN [e]=en e:=by simp[CN]
theorem Q5 {b:List Int}(Bb:Bk b){p:Int}(h0:0<=p)(h1:p<=900000):Af (J5 b p) λq=>(-1000<=q.1/\q.1<=1000)/\q.2=p+4:=by
 unfold J5;refine Af.bind (Cm Bb ⟨by omega,by omega⟩) λa ha=>?_;have a1:=ha.pos;have a2:=ha.nn;have a3:=ha.lt (by omega);refine Af.bind (Cm Bb ⟨by omega,by omega⟩) λc hc=>?_;have c1:=hc.pos;have c2:=hc.nn;have c3:=hc.lt (by omega);refine Af.bind (Cm Bb ⟨by omega,by omega⟩) λd hd=>?_;have d1:=hd.pos;have d2:=hd.nn;have d3:=hd.lt (by omega);refine Af.bind (Hf Bb ⟨by omega,by omega⟩ (by simp) (by simp)) λe he=>Af.some ⟨?_,by have:=he.pos;show e.2=_;omega⟩;have:=he.mem;simp only[qH,qi,rI]at this;show -1000<=e.1/\e.1<=1000;omega
def gB (b:List Int)(D:List AI)(F:List Ar)(rec:List Int->Int->List Ar->List AI->Int->Option (AG×Int))(t:Int)(k P:Nat):Prop:=
 ∀p:Int,0<=p->p<=800000->Af (rec b p F D t) (GE k P p)
theorem Ym {b:List Int}{rec:List Int->Int->List Ar->List AI->Int->Option (AG×Int)}{l:List Int}(hl:l.length<=3){k P:Nat}(hP:P<=1000)(wF :∀t∈l,gB b D F rec t k P){N i:Nat}(hi:i<=l.length)(hN:l.length-i<N):
  ∀(p:Int) (acc:List AG),0<=p->p<=700000+(i*P:Nat)->acc.length=i->(∀e∈acc,BF e)->CN acc<=i*k->
   Af (Dk b F D l rec N i p acc) λq=>p<=q.1/\q.1<=p+((l.length-i)*P:Nat)/\q.2.length=l.length/\(∀e∈q.2,BF e)/\CN q.2<=l.length*k:=by
 refine Bm l.length (λN i=>∀(p:Int) (acc:List AG),0<=p->p<=700000+(i*P:Nat)->acc.length=i->(∀e∈acc,BF e)->CN acc<=i*k->
   Af (Dk b F D l rec N i p acc) λq=>p<=q.1/\q.1<=p+((l.length-i)*P:Nat)/\q.2.length=l.length/\(∀e∈q.2,BF e)/\CN q.2<=l.length*k) ?_ ?_ hi hN
 ·intro n p acc h0 h1 h2 h3 h4;rw[Dk,qG (by simp[AK])];exact Af.some ⟨by show p<=p;omega,by show p<=_;omega,h2,h3,h4⟩
 ·intro n i hi ih p acc h0 h1 h2 h3 h4;obtain⟨t,ht,htm⟩:=Ba hi;have hiP:i*P<=3000:=by
   have:i*P<=3*1000:=Nat.mul_le_mul (by omega) hP;omega
  have e1:(l.length-i)*P=P+(l.length-(i+1))*P:=by
   rw[show l.length-i=(l.length-(i+1))+1 by omega,qn];omega
  have e2:(i+1)*P=i*P+P:=by rw[qn];omega
  have e3:(i+1)*k=i*k+k:=by rw[qn];omega
  rw[Dk,qF (by simp[AK];omega)];refine AN (Av ht) ?_;refine Af.bind (wF t htm p h0 (by omega)) λq hq=>?_;have q1:=hq.lo;have q2:=hq.hi;have q3:=hq.size;refine Af.app (by simp;omega) (by simp;omega) ?_;rw[Co (by omega) (by omega),show ((i:Int)+1)=((i+1:Nat):Int) by omega];refine (ih q.2 (acc++[q.1]) (by omega) (by omega) (by simp;omega) (λe he=>?_) (by rw[J7,It];omega)).mono λr hr=>⟨by have:=hr.1;omega,by have:=hr.2.1;omega,hr.2.2⟩;rcases qb.1 he with h5|h5
  ·exact h3 e h5
  ·rw[qO]at h5;rw[h5];exact hq.Ch
theorem Yk {b:List Int}{rec:List Int->Int->List Ar->List AI->Int->Option (AG×Int)}{g:Ar}{m:Nat}(hm:g.params.length=m+1)(hl:m<=2){k P:Nat}(hP:P<=1000)(wF :∀t∈g.params,gB b D F rec t k P){N i:Nat}(hi:i<=m)(hN:m-i<N):
  ∀(p:Int) (acc:List AG),0<=p->p<=700000+(i*P:Nat)->acc.length=i->(∀e∈acc,BF e)->CN acc<=i*k->
   Af (Ek g b F D rec N i p acc) λq=>p<=q.1/\q.1<=p+((m-i)*P:Nat)/\q.2.length=m/\(∀e∈q.2,BF e)/\CN q.2<=(m)*k:=by
 refine Bm m (λN i=>∀(p:Int) (acc:List AG),0<=p->p<=700000+(i*P:Nat)->acc.length=i->(∀e∈acc,BF e)->CN acc<=i*k->
   Af (Ek g b F D rec N i p acc) λq=>p<=q.1/\q.1<=p+((m-i)*P:Nat)/\q.2.length=m/\(∀e∈q.2,BF e)/\CN q.2<=(m)*k) ?_ ?_ hi hN
 ·intro n p acc h0 h1 h2 h3 h4;rw[Ek,Co (by omega) (by omega),qG (by rw[qJ,AK];omega)];exact Af.some ⟨by show p<=p;omega,by show p<=_;omega,h2,h3,h4⟩
 ·intro n i hi ih p acc h0 h1 h2 h3 h4;obtain⟨t,ht,htm⟩:=Ba (l:=g.params) (i:=i) (by omega);have hiP:i*P<=3000:=by
   have:i*P<=3*1000:=Nat.mul_le_mul (by omega) hP;omega
  have e1:(m-i)*P=P+(m-(i+1))*P:=by
   rw[show m-i=(m-(i+1))+1 by omega,qn];omega
  have e2:(i+1)*P=i*P+P:=by rw[qn];omega
  have e3:(i+1)*k=i*k+k:=by rw[qn];omega
  rw[Ek,Co (by omega) (by omega),qF (by rw[qJ,AK];omega)];refine AN (Av ht) ?_;refine Af.bind (wF t htm p h0 (by omega)) λq hq=>?_;have q1:=hq.lo;have q2:=hq.hi;have q3:=hq.size;refine Af.app (by simp;omega) (by simp;omega) ?_;rw[show ((i:Int)+1)=((i+1:Nat):Int) by omega];refine (ih q.2 (acc++[q.1]) (by omega) (by omega) (by simp;omega) (λe he=>?_) (by rw[J7,It];omega)).mono λr hr=>⟨by have:=hr.1;omega,by have:=hr.2.1;omega,hr.2.2⟩;rcases qb.1 he with h5|h5
  ·exact h3 e h5
  ·rw[qO]at h5;rw[h5];exact hq.Ch
theorem Gf {o n:Int}(ho:-1000000<=o/\o<=1000000)(hn:-1000000<=n/\n<=1000000):BF ⟨o,n,[]⟩:=LR (Dz ho.1 ho.2) (Dz hn.1 hn.2) (by simp) (by simp)
theorem mR (C:CX D F){b:List Int}(Bb:Bk b){M:Nat}(hM:2000000<=M){t:Int}(ht:t=0∨t=1∨t=3)(n:Nat):gB b D F (Dq M (n+1)) t 1 6:=by
 intro p h0 h1;rw[Dq];unfold JR;refine AN (C.W8 hM) ?_;have data:∀(c:Nat) (fs:List Int),CB D t=[(c:Int),((c+1:Nat):Int)]->c<=10->BV M D (c:Int)=some []->BV M D ((c+1:Nat):Int)=some fs->t∈fs->fs.length<=3->
   Af ((Sh.get (CB D t) 0).bind λc8=>
  (
   Option.bind (
    if (decide (1<(Sh.len (CB D t))))=true then
     (Ay b p 4).bind λq47=>
     some (decide (q47.1=0),q47.2)
    else
     some (false,p)
   ) λ(t41,f42)=>
   if t41=true then
    (Sh.get (CB D t) 1).bind λc45=>
    some (c45,f42)
   else
    some (c8,f42)
  ).bind λ(xn,f11)=>
  (
   Option.bind (BV M D xn) λq37=>
   (L3 M q37 t).bind λyL=>
   if yL=true then
    some c8
   else
    some xn
  ).bind λwT=>
  (BV M D wT).bind λxy=>
  (Dk b F D xy (Dq M n) M 0 f11 []).bind λ(f24,l25)=>
  (Bl 6 wT l25).bind λwW=>
  some (wW,f24)) (GE 1 6 p):=by
  intro c fs yp hc hf0 hf1 wE yP;rw[yp];refine AN (show Sh.get [(c:Int),((c+1:Nat):Int)] 0=some (c:Int) from rfl) ?_;refine Af.bind (R:=λq=>(q.1=(c:Int)∨q.1=((c+1:Nat):Int))/\q.2=p+1) ?_ ?_
  ·rw[qF (by simp[AK])];refine Af.bind (R:=λq:Bool×Int=>q.2=p+1) (Af.bind (Cm Bb ⟨by omega,by omega⟩) λq hq=>Af.some hq.pos) ?_;rintro⟨t41,f42⟩ hf;dsimp only at hf⊢;refine Cy (λ_=>?_) λ_=>Af.some ⟨.inl rfl,hf⟩;exact AN (show Sh.get [(c:Int),((c+1:Nat):Int)] 1=some ((c+1:Nat):Int) from rfl) (Af.some ⟨.inr rfl,hf⟩)
  ·rintro⟨xn,f11⟩ ⟨hc10,hf⟩;dsimp only at hc10 hf⊢;refine Af.bind (R:=λwT=>wT=(c:Int)) ?_ ?_
   ·rcases hc10 with rfl|rfl
    ·refine AN hf0 (AN (lq (by simp) hM) ?_);exact Cy (λ_=>Af.some rfl) λ_=>Af.some rfl
    ·refine AN hf1 (AN (lq (by omega) hM) ?_);rw[qF (by simpa using wE)];exact Af.some rfl
   ·rintro wT rfl;refine AN hf0 ?_;obtain⟨M',rfl⟩ :∃m,M=m+1:=⟨M-1,by omega⟩
    rw[Dk,qG (by simp[AK])];refine AN rfl (AN rfl (Af.some ⟨?_,Gf ⟨by omega,by omega⟩ ⟨by omega,by omega⟩,?_,?_⟩))
    ·rw[Hi];simp[CN]
    ·show p<=f11;omega
    ·show f11<=_;omega
 rcases ht with rfl|rfl|rfl
 ·have e:CB D 0=[]:=by unfold CB;rw[qG (by omega)]
  rw[e,qG (by simp[AK])];refine Af.bind (Pc C hM) λl _=>?_;refine AN (show _=some false from qG (by simp)) ?_;simp only[py,qR];refine Af.bind (Q5 Bb h0 (by omega)) λq hq=>AN rfl (Af.some ⟨?_,Gf ⟨by omega,by omega⟩ ⟨by omega,by omega⟩,?_,?_⟩)
  ·rw[Hi];simp[CN]
  ·show p<=q.2;omega
  ·show q.2<=_;omega
 ·obtain⟨t0,k0⟩:=C.f0;obtain⟨t1,k1⟩:=C.f1;rw[qF (by rw[C.c1];simp[AK])];exact data 0 [0,1] C.c1 (by omega) (C.W9 k0 hM) (C.W9 k1 hM) (by simp) (by simp)
 ·obtain⟨t0,k0⟩:=C.f2;obtain⟨t1,k1⟩:=C.f3;rw[qF (by rw[C.c3];simp[AK])];exact data 2 [3,0,3] C.c3 (by omega) (C.W9 k0 hM) (C.W9 k1 hM) (by simp) (by simp)
end
end RC
namespace RC
open Go
section
variable {D : List AI} {F : List Ar}
theorem Ys (C:CX D F){b:List Int}(Bb:Bk b){M:Nat}(hM:2000000<=M)(t:Int)(n:Nat){p:Int}(h0:0<=p)(h1:p<=600000):Af (Dq M (n+2) b p F D t) (GE 4 20 p):=by
 have wF:∀t,(t=0∨t=1∨t=3)->gB b D F (Dq M (n+1)) t 1 6:=λt ht=>mR C Bb hM ht n;rw[Dq];unfold JR;refine AN (C.W8 hM) ?_;have hc3:=C.Wx t;refine BB (λve=>?_) λ_=>?_
 ·rw[AK]at ve;refine Af.get (by omega) (by omega) λc8 _ hc8=>?_;refine Af.bind (R:=λq=>q.1∈CB D t/\p<=q.2/\q.2<=p+1) ?_ ?_
  ·refine Af.bind (R:=λq:Bool×Int=>(q.1=true->1<(CB D t).length)/\p<=q.2/\q.2<=p+1) ?_ ?_
   ·refine BB (λh2=>?_) λ_=>Af.some ⟨(λh=>by cases h),by show p<=p;omega,by show p<=_;omega⟩;rw[AK]at h2;exact Af.bind (Cm Bb ⟨by omega,by omega⟩) λq hq=>Af.some ⟨λ_=>by omega,by have:=hq.pos;show p<=q.2;omega,by have:=hq.pos;show q.2<=_;omega⟩
   ·rintro⟨t41,f42⟩ ⟨g1,g2,g3⟩;dsimp only at g1 g2 g3⊢;refine Cy (λh=>?_) λ_=>Af.some ⟨hc8,g2,g3⟩;refine Af.get (by omega) (by have:=g1 h;omega) λc45 _ hc45=>Af.some ⟨hc45,g2,g3⟩
  ·rintro⟨xn,f11⟩ ⟨hc10,g2,g3⟩;dsimp only at hc10 g2 g3⊢;refine Af.bind (R:=λwT=>wT∈CB D t) ?_ ?_
   ·obtain⟨c,rfl,hc⟩:=Sj _ hc10;obtain⟨fl,e1,e2,_⟩:=C.fields hc hM;refine AN e1 (AN (lq (by omega) hM) ?_);exact Cy (λ_=>Af.some hc8) λ_=>Af.some hc10
   ·intro wT hc14;obtain⟨c,rfl,hc⟩:=Sj _ hc14;obtain⟨fl,e1,e2,e3⟩:=C.fields hc hM;have hn:=C.oG;refine AN e1 ?_;have:=Ym (D:=D) (F:=F) (b:=b) (rec:=Dq M (n+1)) e2 (k:=1) (P:=6) (by omega) (λt ht=>wF t (e3 t ht)) (N:=M) (qd _) (by omega) f11 [] (by omega) (by omega) rfl (by simp) (by simp[CN]);refine Af.bind this ?_;rintro⟨f24,l25⟩ ⟨a1,a2,a3,a4,a5⟩;dsimp only at a1 a2 a3 a4 a5⊢;refine AN rfl (Af.some ⟨by rw[Hi];omega,LR (Dz (by omega) (by omega)) (Dz (by omega) (by omega)) a4 (by omega),by show p<=f24;omega,by show f24<=_;omega⟩)
 ·refine Af.bind (Pc C hM) λl hl=>?_;have hF:=C.fl;refine Af.bind (R:=λt52=>t52=true->0<t/\0<l.length) ?_ λt52 ht52=>?_
  ·refine BB (λh=>Af.some λh2=>⟨h,by rw[qJ,AK]at h2;omega⟩) λ_=>Af.some λh=>by cases h
  ·refine Cy (λh=>?_) λ_=>?_
   ·obtain⟨ht0,hl0⟩:=ht52 h;rw[AK];refine Af.bind (Cm Bb ⟨by omega,by omega⟩) λq hq=>?_;have q1:=hq.pos;have q2:=hq.nn;have q3:=hq.lt (by omega);refine Af.get q2 q3 λc57 _ hc57=>?_;obtain⟨f,g,y,rfl,hg,hy,hgp,ha⟩:=hl.2 c57 hc57;have zu:=pt hg;have yP:=(px.1 hg).1;have hp3:=C.par g zu;refine AN (Av hg) ?_;have htys:∀x∈g.params,x=0∨x=1∨x=3:=by
     rcases C.cl g zu with h2|⟨h2,h3⟩
     ·exact h2
     ·exfalso;rw[h2]at hy;have:y=1:=by simpa using hy.symm
      rw[this,h3,C.arr]at ha;omega
    obtain⟨m,hm⟩ :∃m,g.params.length=m+1:=⟨g.params.length-1,by omega⟩
    have:=Yk (D:=D) (F:=F) (b:=b) (rec:=Dq M (n+1)) hm (by omega) (k:=1) (P:=6) (by omega) (λt ht=>wF t (htys t ht)) (N:=M) (qd _) (by omega) q.2 [] (by omega) (by omega) rfl (by simp) (by simp[CN]);refine Af.bind this ?_;rintro⟨f66,l67⟩ ⟨a1,a2,a3,a4,a5⟩;dsimp only at a1 a2 a3 a4 a5⊢;refine AN rfl (Af.some ⟨by rw[Hi];omega,LR (Dz (by omega) (by omega)) (Dz (by omega) (by omega)) a4 (by omega),by show p<=f66;omega,by show f66<=_;omega⟩)
   ·refine Af.bind (Q5 Bb h0 (by omega)) λq hq=>AN rfl (Af.some ⟨?_,Gf ⟨by omega,by omega⟩ ⟨by omega,by omega⟩,?_,?_⟩)
    ·rw[Hi];simp[CN]
    ·show p<=q.2;omega
    ·show q.2<=_;omega
theorem ON (C:CX D F){b:List Int}(Bb:Bk b){M:Nat}(hM:2000000<=M){vars:List Int}(hv:vars.length<=1000)(t:Int){p:Int}(h0:0<=p)(h1:p<=500000):Af (Iz M b p F D vars t) (GE 4 22 p):=by
 unfold Iz;refine Af.bind (Wd hv hM) λl hl=>?_;refine Af.bind (R:=λq:Bool×Int=>(q.1=true->0<l.length)/\p<=q.2/\q.2<=p+1) ?_ ?_
 ·refine BB (λh=>?_) λ_=>Af.some ⟨(λh=>by cases h),by show p<=p;omega,by show p<=_;omega⟩;rw[AK]at h;refine Af.bind (Cm Bb ⟨by omega,by omega⟩) λq hq=>?_;have q1:=hq.pos;refine BB (λ_=>Af.some ⟨λ_=>by omega,by show p<=q.2;omega,by show q.2<=_;omega⟩) λ_=>?_;exact Af.bind (OK C (by simp) hM) λ_ _=>Af.some ⟨λ_=>by omega,by show p<=q.2;omega,by show q.2<=_;omega⟩
 ·rintro⟨t6,f7⟩ ⟨g1,g2,g3⟩;dsimp only at g1 g2 g3⊢;refine Cy (λh=>?_) λ_=>?_
  ·have hl0:=g1 h;rw[AK];refine Af.bind (Cm Bb ⟨by omega,by omega⟩) λq hq=>?_;have q1:=hq.pos;have q2:=hq.nn;have q3:=hq.lt (by omega);refine Af.get q2 q3 λc _ hc=>?_;have:=hl.2 c hc;refine AN rfl (Af.some ⟨by rw[Hi];simp[CN],Gf ⟨by omega,by omega⟩ ⟨by omega,by omega⟩,by show p<=q.2;omega,by show q.2<=_;omega⟩)
  ·unfold Ok;obtain⟨m,rfl⟩ :∃m,M=m+2:=⟨M-2,by omega⟩
   refine Af.bind (Ys C Bb hM t m (p:=f7) (by omega) (by omega)) λq hq=>Af.some ⟨hq.size,hq.Ch,by have:=hq.lo;show p<=q.2;omega,by have:=hq.hi;show q.2<=_;omega⟩
theorem aI (C:CX D F){b:List Int}(Bb:Bk b){M:Nat}(hM:2000000<=M){vars:List Int}(hv:vars.length<=1000){p:Int}(h0:0<=p)(h1:p<=500000):Af (Lh M b p F D vars) λq=>q.2=p+1:=by
 unfold Lh;refine Af.bind (Hf Bb ⟨by omega,by omega⟩ (by simp) (by simp)) λq hq=>?_;refine Af.bind (R:=λ_=>True) ?_ λt6 _=>Cy (λ_=>Af.some hq.pos) λ_=>Af.some hq.pos;refine BB (λ_=>Af.some pw) λ_=>?_;exact Af.bind (OK C hv hM) λ_ _=>Af.some pw
theorem Yy (C:CX D F){t:Int}{M:Nat}(hM:2000000<=M):Af (Kn M ⟨D,F⟩ t) λl=>l.length<=4/\∀x∈l,0<=x/\x<(F.length:Int):=by
 have hf:=C.fl;have hf1:=C.jk;have L2:∀(g:Ar),g.params.length<=3->∀{N i:Nat},i<=g.params.length->g.params.length-i<N->∀ok:Bool,Af (Fv M g ⟨D,F⟩ N ok i) λ_=>True:=by
  intro g hg N i hi hN;refine Bm g.params.length (λN i=>∀ok:Bool,Af (Fv M g ⟨D,F⟩ N ok i) λ_=>True) ?_ ?_ hi hN
  ·intro n ok;rw[Fv,qG (by simp[AK])];exact Af.some pw
  ·intro n i hi ih ok;obtain⟨y,hy,_⟩:=Ba hi;rw[Fv,qF (by rw[qJ,AK];omega),Co (by omega) (by omega),show ((i:Int)+1)=((i+1:Nat):Int) by omega];refine Af.bind (R:=λ_=>True) ?_ λok _=>ih ok;refine Cy (λ_=>?_) λ_=>Af.some pw;refine AN (Av hy) (Af.bind (OK C (by simp) hM) λ_ _=>Af.some pw)
 have key:∀{N i:Nat},i<=F.length->F.length-i<N->∀acc:List Int,acc.length<=i->(∀x∈acc,0<=x/\x<(F.length:Int))->Af (Ft M ⟨D,F⟩ t N i acc) λl=>l.length<=F.length/\∀x∈l,0<=x/\x<(F.length:Int):=by
  intro N i hi hN;refine Bm F.length (λN i=>∀acc:List Int,acc.length<=i->(∀x∈acc,0<=x/\x<(F.length:Int))->Af (Ft M ⟨D,F⟩ t N i acc) λl=>l.length<=F.length/\∀x∈l,0<=x/\x<(F.length:Int)) ?_ ?_ hi hN
  ·intro n acc h1 h2;rw[Ft,qG (by simp[AK])];exact Af.some ⟨h1,h2⟩
  ·intro n i hi ih acc h1 h2;obtain⟨g,hg,zu⟩:=Ba hi;have hp:=C.par g zu;rw[Ft,qF (by rw[qJ,AK];show (i:Int)<(F.length:Int);omega),Co (by omega) (by omega),show ((i:Int)+1)=((i+1:Nat):Int) by omega];refine Af.bind (R:=λl=>l.length<=i+1/\∀x∈l,0<=x/\x<(F.length:Int)) ?_ λl hl=>ih l hl.1 hl.2;refine AN (Av hg) ?_;have:=L2 g hp (N:=M) (qd _) (by omega) (decide (g.result=t));refine Af.bind this λok _=>?_;refine Cy (λ_=>?_) λ_=>Af.some ⟨by omega,h2⟩;refine Af.app (by simp;omega) (by simp;omega) (Af.some ⟨by simp;omega,λx hx=>?_⟩);rcases qb.1 hx with h3|h3
   ·exact h2 x h3
   ·rw[qO]at h3;omega
 unfold Kn;have:=key (i:=1) hf1 (by omega:F.length-1<M) [] (by simp) (by simp);rw[show ((1:Nat):Int)=1 from rfl]at this;exact Af.bind this λl hl=>Af.some ⟨by omega,hl.2⟩
def HI (d:Nat):Nat:=if d=0 then 4 else 9*d-5
def Ew (d:Nat):Nat:=if d=0 then 35 else 80*d-45
theorem OO {r d n:Nat}(h1:1<=r)(h3:r<=3)(hn:3<=n)(hd:d*r<=n-1):5+r*HI d<=HI n/\40+r*Ew d<=Ew n:=by
 have hn0:¬ n=0:=by omega
 unfold HI Ew;rw[qG hn0,qG hn0];obtain rfl|rfl|rfl:r=1∨r=2∨r=3:=by omega
 all_goals
  by_cases h:d=0
  ·rw[qF h,qF h];omega
  ·rw[qG h,qG h];omega
theorem Uu (d:Nat):4<=HI d:=by unfold HI;split<;>omega
theorem UI (d:Nat):35<=Ew d:=by unfold Ew;split<;>omega
theorem lu {d:Nat}(h:d<=20):Ew d<=1600:=by unfold Ew;split<;>omega
abbrev ZW:=List Int->Int->List Ar->List AI->List Int->Int->Int->Option (AG×Int)
def RG (b:List Int)(D:List AI)(F:List Ar)(rec:ZW)(n:Nat):Prop:=
 ∀(d:Nat) (vars:List Int) (t p:Int),d<n->d<=20->vars.length+3*d<=400->0<=p->p+(Ew d:Int)<=400000->Af (rec b p F D vars t (d:Int)) (GE (HI d) (Ew d) p)
structure GL (m k P:Nat) (p:Int) (q:List AG×Int):Prop where
 len:q.1.length=m
 size:CN q.1<=k
 Ch :∀e∈q.1,BF e
 lo:p<=q.2
 hi:q.2<=p+P
theorem jM (a b:Nat):Int.tdiv (a:Int) (b:Int)=((a / b:Nat):Int):=rfl
theorem cj {a b:Nat}(hb:b≠0)(ha:a<=1000000):Sh.quo (a:Int) (b:Int)=some ((a / b:Nat):Int):=by
 have h:=su a b;rw[fu (by omega),jM];generalize a / b=c at h⊢;rw[Co (by omega) (by omega)]
theorem V3 {b:List Int}{rec:ZW}{n:Nat}(R:RG b D F rec n){vars types:List Int}(ht:types.length<=3){bud:Nat}(hb:bud<=20){d:Nat}(hd:types.length≠0->bud / types.length=d)(hdn:d<n)(hd20:d<=20)(hv:vars.length+3*d<=400){M:Nat}(hM:2000000<=M){p:Int}(h0:0<=p)(h1:p+(types.length*Ew d:Nat)<=400000):
  Af (Gl M rec b p F D vars types (bud:Int)) (GL types.length (types.length*HI d) (types.length*Ew d) p):=by
 have key:∀{N i:Nat},i<=types.length->types.length-i<N->∀(q:Int) (acc:List AG),p<=q->q<=p+(i*Ew d:Nat)->acc.length=i->(∀e∈acc,BF e)->CN acc<=i*HI d->
   Af (Gr b F D vars types (bud:Int) rec N i q acc) λr=>p<=r.1/\r.1<=p+(types.length*Ew d:Nat)/\r.2.length=types.length/\(∀e∈r.2,BF e)/\CN r.2<=types.length*HI d:=by
  intro N i hi hN;refine Bm types.length (λN i=>∀(q:Int) (acc:List AG),p<=q->q<=p+(i*Ew d:Nat)->acc.length=i->(∀e∈acc,BF e)->CN acc<=i*HI d->
   Af (Gr b F D vars types (bud:Int) rec N i q acc) λr=>p<=r.1/\r.1<=p+(types.length*Ew d:Nat)/\r.2.length=types.length/\(∀e∈r.2,BF e)/\CN r.2<=types.length*HI d) ?_ ?_ hi hN
  ·intro n q acc g1 g2 g3 g4 g5;rw[Gr,qG (by simp[AK])];exact Af.some ⟨g1,g2,g3,g4,g5⟩
  ·intro n i hi ih q acc g1 g2 g3 g4 g5;obtain⟨t,ht',_⟩:=Ba hi;have e2:(i+1)*Ew d=i*Ew d+Ew d:=by rw[qn];omega
   have e3:(i+1)*HI d=i*HI d+HI d:=by rw[qn];omega
   have e4:(i+1)*Ew d<=types.length*Ew d:=qo _ hi;rw[Gr,qF (by rw[qJ,AK];omega),Co (n:=(i:Int)+1) (by omega) (by omega),show ((i:Int)+1)=((i+1:Nat):Int) by omega];refine AN (Av ht') ?_;rw[AK];refine AN (cj (by omega) (by omega)) ?_;rw[hd (by omega)];refine Af.bind (R d vars t q hdn hd20 hv (by omega) (by omega)) λr hr=>?_;have r1:=hr.lo;have r2:=hr.hi;have r3:=hr.size;refine Af.app (by simp;omega) (by simp;omega) ?_;refine ih r.2 (acc++[r.1]) (by omega) (by omega) (by simp;omega) (λe he=>?_) (by rw[J7,It];omega);rcases qb.1 he with h5|h5
   ·exact g4 e h5
   ·rw[qO]at h5;rw[h5];exact hr.Ch
 unfold Gl;have:=key (qd _) (by omega:types.length-0<M) p [] (by omega) (by omega) rfl (by simp) (by simp[CN]);rw[uS]at this;refine Af.bind this ?_;rintro⟨f,l⟩ ⟨a1,a2,a3,a4,a5⟩;exact Af.some ⟨a3,a5,a4,a1,a2⟩
theorem Ze {r d n P:Nat}{p q0 o m:Int}{l:List AG}{q:Int}(ho:-1000000<=o/\o<=1000000)(hm:-1000000<=m/\m<=1000000)(h3:r<=3)(hn:3<=n)(hd:d*r<=n-1)(hq:p<=q0/\q0<=p+P)(hP:P<=40)(g:GL r (r*HI d) (r*Ew d) q0 (l,q)):GE (HI n) (Ew n) p (⟨o,m,l⟩,q):=by
 have s1:=g.size;have s2:=g.lo;have s3:=g.hi;have s4:=g.len;dsimp only at s1 s2 s3 s4;have hn1:=Uu n;have hn2:=UI n;refine⟨?_,LR (Dz ho.1 ho.2) (Dz hm.1 hm.2) g.Ch (by omega),by show p<=q;omega,?_⟩
 ·rw[Hi];rcases sC r with rfl|hr
  ·omega
  ·have:=(OO (d:=d) hr h3 hn hd).1;omega
 ·show q<=_;rcases sC r with rfl|hr
  ·have:40<=Ew n:=by unfold Ew;rw[qG (by omega)];omega
   omega
  ·have:=(OO (d:=d) hr h3 hn hd).2;omega
end
end RC
namespace RC
open Go
section
variable {D : List AI} {F : List Ar}
theorem VD (C:CX D F){b:List Int}{rec:ZW}{n:Nat}(R:RG b D F rec n){vars:List Int}(hn3:3<=n)(hn:n<=20)(hv:vars.length+3*n<=400){t d0:Int}{r d:Nat}(hr:(CB D d0).length=r)(hd:r≠0->(n-2) / r=d)(hdn:d+1<=n){M:Nat}(hM:2000000<=M){p:Int}(h0:0<=p)(h1:p+(r*Ew d:Nat)<=400000){k0:Nat}{e0:AG}(hk0:en e0<=k0)(he0:BF e0):
  Af (E0 M b F D vars t (n:Int) (CB D d0) rec M 0 p [e0]) λq=>p<=q.1/\q.1<=p+(r*Ew d:Nat)/\q.2.length=r+1/\(∀e∈q.2,BF e)/\CN q.2<=k0+r*HI d:=by
 have hr3:=C.Wx d0;have key:∀{N i:Nat},i<=(CB D d0).length->(CB D d0).length-i<N->∀(q:Int) (acc:List AG),p<=q->q<=p+(i*Ew d:Nat)->acc.length=i+1->(∀e∈acc,BF e)->CN acc<=k0+i*HI d->
   Af (E0 M b F D vars t (n:Int) (CB D d0) rec N i q acc) λq=>p<=q.1/\q.1<=p+(r*Ew d:Nat)/\q.2.length=r+1/\(∀e∈q.2,BF e)/\CN q.2<=k0+r*HI d:=by
  intro N i hi hN;refine Bm (CB D d0).length (λN i=>∀(q:Int) (acc:List AG),p<=q->q<=p+(i*Ew d:Nat)->acc.length=i+1->(∀e∈acc,BF e)->CN acc<=k0+i*HI d->
   Af (E0 M b F D vars t (n:Int) (CB D d0) rec N i q acc) λq=>p<=q.1/\q.1<=p+(r*Ew d:Nat)/\q.2.length=r+1/\(∀e∈q.2,BF e)/\CN q.2<=k0+r*HI d) ?_ ?_ hi hN
  ·intro m q acc g1 g2 g3 g4 g5;rw[E0,qG (by simp[AK])];subst hr;exact Af.some ⟨g1,g2,g3,g4,g5⟩
  ·intro m i hi ih q acc g1 g2 g3 g4 g5;obtain⟨c,hc,xH⟩:=Ba hi;obtain⟨cn,rfl,hcn⟩:=Sj _ xH;obtain⟨fl,e1,e2',_⟩:=C.fields hcn hM;have e2:(i+1)*Ew d=i*Ew d+Ew d:=by rw[qn];omega
   have e3:(i+1)*HI d=i*HI d+HI d:=by rw[qn];omega
   have e4:(i+1)*Ew d<=r*Ew d:=qo _ (by omega);rw[E0,qF (by rw[qJ,AK];omega),Co (n:=(i:Int)+1) (by omega) (by omega),show ((i:Int)+1)=((i+1:Nat):Int) by omega];refine AN (Av hc) (AN e1 (AN (I6 (by omega) (by omega)) ?_));rw[AK,Co (n:=(n:Int)-2) (by omega) (by omega),show ((n:Int)-2)=((n-2:Nat):Int) by omega];refine AN (cj (by omega) (by omega)) ?_;rw[hr,hd (by omega)];refine Af.bind (R d (vars++fl) t q (by omega) (by omega) (by rw[qQ];omega) (by omega) (by omega)) λs hs=>?_;have r1:=hs.lo;have r2:=hs.hi;have r3:=hs.size;refine Af.app (by simp;omega) (by simp;omega) ?_;refine ih s.2 (acc++[s.1]) (by omega) (by omega) (by simp;omega) (λe he=>?_) (by rw[J7,It];omega);rcases qb.1 he with h5|h5
   ·exact g4 e h5
   ·rw[qO]at h5;rw[h5];exact hs.Ch
 have:=key (qd _) (by omega:(CB D d0).length-0<M) p [e0] (by omega) (by omega) rfl (λe he=>by rw[qO]at he;rw[he];exact he0) (by rw[It];omega);rw[uS]at this;exact this
theorem Qx (a r:Nat):a / r*r<=a:=Nat.div_mul_le_self a r
theorem ZK (C:CX D F){b:List Int}(Bb:Bk b){rec:ZW}{n:Nat}(R:RG b D F rec n){vars:List Int}(hn3:3<=n)(hn:n<=20)(hv:vars.length+3*n<=400){t:Int}{M:Nat}(hM:2000000<=M){p0 p:Int}(h0:0<=p0)(hp:p0<=p/\p<=p0+1)(h1:p0+(Ew n:Int)<=400000):
  Af (Kj M rec b p F D vars t (n:Int)) (GE (HI n) (Ew n) p0):=by
 have zH:=UI n;unfold Kj;refine Af.bind (Hf Bb ⟨by omega,by omega⟩ (by simp) (by simp)) λq hq=>?_;have q1:=hq.pos;have q2:=hq.mem;simp only[qH,qi,rI]at q2;refine Af.bind (R:=λd=>0<=d/\d<=4) ?_ λd0 hd0=>?_
 ·refine Af.bind (R:=λ_=>True) ?_ λt32 _=>Cy (λ_=>Af.some (by decide)) λ_=>Af.some (by omega);refine BB (λ_=>Af.some pw) λ_=>?_;exact AN (Hy C.ez) (Af.some pw)
 refine AN (C.W8 hM) ?_;refine Af.bind (ON C Bb hM (by omega) d0 (p:=q.2) (by omega) (by omega)) λlf vw=>?_;have l1:=vw.lo;have l2:=vw.hi;have l3:=vw.size;obtain⟨r,hr⟩ :∃r,(CB D d0).length=r:=⟨_,rfl⟩
 have hr3:=C.Wx d0;obtain⟨d,hd⟩ :∃d,d=(n-2) / r:=⟨_,rfl⟩
 have hdr:d*r<=n-2:=by rw[hd];exact Qx _ _
 have hdn:d<=n-2:=by rw[hd];exact su _ _
 have hn1:=Uu n;have fit:5+r*HI d<=HI n/\35+r*Ew d<=Ew n:=by
  rcases sC r with h|h
  ·rw[h];constructor
   ·have:5<=HI n:=by unfold HI;rw[qG (by omega)];omega
    omega
   ·omega
  ·have:=OO (d:=d) h (by omega) hn3 (by omega);omega
 have:=VD (t:=t) C R hn3 hn hv (r:=r) (d:=d) hr (λ_=>hd.symm) (by omega) hM (p:=lf.2) (by omega) (by omega) (k0:=4) l3 vw.Ch;refine Af.bind this ?_;rintro⟨f16,l17⟩ ⟨a1,a2,a3,a4,a5⟩;dsimp only at a1 a2 a3 a4 a5⊢;exact AN rfl (Af.some ⟨by rw[Hi];omega,LR (Dz (by omega) (by omega)) (Dz (by omega) (by omega)) a4 (by omega),by show p0<=f16;omega,by show f16<=_;omega⟩)
theorem ZE (C:CX D F){b:List Int}(Bb:Bk b){rec:ZW}{n:Nat}(R:RG b D F rec n){vars:List Int}(hn3:3<=n)(hn:n<=20)(hv:vars.length+3*n<=400){t:Int}{M:Nat}(hM:2000000<=M){p0 p:Int}(h0:0<=p0)(hp:p0<=p/\p<=p0+1)(h1:p0+(Ew n:Int)<=400000):
  Af (KZ M rec b p F D vars t (n:Int)) (GE (HI n) (Ew n) p0):=by
 have zH:=UI n;have hn1:=Uu n;have hdl:=C.dl;have fit1:5+HI (n-2)<=HI n/\40+Ew (n-2)<=Ew n:=by
  have:=OO (r:=1) (d:=n-2) (n:=n) (by omega) (by omega) hn3 (by omega);omega
 unfold KZ;refine Af.cont (R:=GE (HI n) (Ew n) p0) (S:=λf=>p0<=f/\f<=p0+2) ?_ (λr hr=>hr) λf3 hf3=>?_
 ·refine Af.bind (Cm Bb ⟨by omega,by omega⟩) λwQ hq=>?_;have q1:=hq.pos;refine BB (λ_=>?_) λ_=>Af.some (by show p0<=wQ.2/\wQ.2<=_;omega);have L1:∀{N i:Nat},i<=5->5-i<N->1<=i->Af (Fj M b F D vars t (n:Int) wQ rec N i) λv=>match v with|.inl r=>GE (HI n) (Ew n) p0 r|.inr _=>True:=by
   intro N i hi hN;refine Bm 5 (λN i=>1<=i->Af (Fj M b F D vars t (n:Int) wQ rec N i) λv=>match v with|.inl r=>GE (HI n) (Ew n) p0 r|.inr _=>True) ?_ ?_ hi hN
   ·intro m _;rw[Fj,qG (by rw[qJ,AK];omega)];exact Af.some pw
   ·intro m i hi ih h1i;rw[Fj];refine BB (λhle=>?_) λ_=>Af.some pw;rw[AK]at hle;obtain⟨dd,hdd,_⟩:=Ba (l:=D) (i:=i-1) (by omega);rw[Co (n:=(i:Int)-1) (by omega) (by omega),show ((i:Int)-1)=((i-1:Nat):Int) by omega,Co (n:=(i:Int)+1) (by omega) (by omega),show ((i:Int)+1)=((i+1:Nat):Int) by omega,Co (n:=(n:Int)-2) (by omega) (by omega),show ((n:Int)-2)=((n-2:Nat):Int) by omega];refine Af.bind (R:=λ_=>True) ?_ λt45 _=>Cy (λ_=>?_) λ_=>ih (by omega)
    ·refine AN (Hy C.ez) (Cy (λ_=>?_) λ_=>Af.some pw);refine AN (Av hdd) (BB (λ_=>?_) λ_=>Af.some pw);exact Af.bind (OK C (by omega) hM) λ_ _=>Af.some pw
    ·refine Af.bind (ON C Bb hM (by omega) i (p:=wQ.2) (by omega) (by omega)) λlf vw=>?_;have l1:=vw.lo;have l2:=vw.hi;have l3:=vw.size;refine AN (Av hdd) ?_;refine Af.bind (R (n-2) vars dd.from_ lf.2 (by omega) (by omega) (by omega) (by omega) (by omega)) λs hs=>?_;have r1:=hs.lo;have r2:=hs.hi;have r3:=hs.size;refine AN rfl (Af.some (show GE (HI n) (Ew n) p0 _ from ⟨?_,LR (Dz (by omega) (by omega)) (Dz (by omega) (by omega)) (λe he=>?_) (by simp),by show p0<=s.2;omega,by show s.2<=_;omega⟩))
     ·rw[Hi];simp only[CN];omega
     ·simp only[qH,qi,rI]at he;rcases he with rfl|rfl
      ·exact vw.Ch
      ·exact hs.Ch
  have l1:=L1 (N:=M) (i:=1) (by omega) (by omega) (by omega);rw[show ((1:Nat):Int)=1 from rfl]at l1;refine Af.cont (R:=GE (HI n) (Ew n) p0) (S:=λ_=>True) ?_ (λr hr=>hr) λ_ _=>Af.some (by show p0<=wQ.2/\wQ.2<=_;omega);exact l1.mono λv hv=>by cases v<;>exact hv
 ·refine AN (C.W8 hM) ?_;have hc3:=C.Wx t;have ga:∀(types:List Int) (q:Int) (o m:Int),types.length<=3->p0<=q->q<=p0+10->-1000000<=o/\o<=1000000->-1000000<=m/\m<=1000000->
    Af ((Gl M rec b q F D vars types (Sh.w ((n:Int)-1))).bind λwD=>(Bl o m wD.1).bind λxX=>some (xX,wD.2)) (GE (HI n) (Ew n) p0):=by
   intro types q o m ht g1 g2 ho hm;rw[Co (n:=(n:Int)-1) (by omega) (by omega),show ((n:Int)-1)=((n-1:Nat):Int) by omega];obtain⟨d,hd⟩ :∃d,d=(n-1) / types.length:=⟨_,rfl⟩
   have hdr:d*types.length<=n-1:=by rw[hd];exact Qx _ _
   have hdn:d<=n-1:=by rw[hd];exact su _ _
   have wh:0<types.length->40+types.length*Ew d<=Ew n:=λh=>(OO (d:=d) h ht hn3 hdr).2;have hle:(types.length*Ew d:Nat)<=Ew n:=by
    rcases sC types.length with h|h
    ·rw[h];omega
    ·have:=wh h;omega
   have hle2:q+(types.length*Ew d:Nat)<=400000:=by
    rcases sC types.length with h|h
    ·rw[h];omega
    ·have:=wh h;omega
   refine Af.bind (V3 R ht (bud:=n-1) (by omega) (d:=d) (λ_=>hd.symm) (by omega) (by omega) (by omega) hM (p:=q) (by omega) hle2) ?_;rintro⟨l,q'⟩ g;exact AN rfl (Af.some (Ze (P:=10) ho hm ht hn3 hdr ⟨g1,g2⟩ (by omega) g))
  refine BB (λve=>?_) λ_=>?_
  ·rw[AK]at ve⊢;refine Af.bind (Cm Bb ⟨by omega,by omega⟩) λq hq=>?_;have q1:=hq.pos;have q2:=hq.nn;have q3:=hq.lt (by omega);refine Af.get q2 q3 λyh _ hc12=>?_;obtain⟨c,rfl,hc⟩:=Sj _ hc12;obtain⟨fl,e1,e2,_⟩:=C.fields hc hM;have hnc:=C.oG;exact AN e1 (ga fl q.2 6 c e2 (by omega) (by omega) (by omega) (by omega))
  ·refine BB (λ_=>?_) λ_=>?_
   ·refine Af.bind (ON C Bb hM (by omega) t (p:=f3) (by omega) (by omega)) λlf vw=>Af.some ⟨by have:=vw.size;show en lf.1<=_;omega,vw.Ch,by have:=vw.lo;show p0<=lf.2;omega,by have:=vw.hi;show lf.2<=_;omega⟩
   ·refine Af.bind (Cm Bb ⟨by omega,by omega⟩) λq hq=>?_;have q1:=hq.pos;refine BB (λ_=>ga [0] q.2 5 0 (by simp) (by omega) (by omega) (by omega) (by omega)) λ_=>?_;refine Af.bind (Hf Bb ⟨by omega,by omega⟩ (by simp) (by simp)) λq30 hq30=>?_;have o1:=hq30.pos;have o2:=hq30.mem;simp only[qH,qi,rI]at o2;exact ga [0,0] q30.2 q30.1 0 (by simp) (by omega) (by omega) (by omega) (by omega)
theorem fJ (C:CX D F){b:List Int}(Bb:Bk b){rec:ZW}{n:Nat}(R:RG b D F rec n){vars:List Int}(hn:n<=20)(hv:vars.length+3*n<=400){t:Int}{M:Nat}(hM:2000000<=M){p:Int}(h0:0<=p)(h1:p+(Ew n:Int)<=400000):
  Af (Nd M rec b p F D vars t (n:Int)) (GE (HI n) (Ew n) p):=by
 have zH:=UI n;have hn1:=Uu n;unfold Nd;refine BB (λ_=>?_) λhn3'=>?_
 ·refine Af.bind (ON C Bb hM (by omega) t (p:=p) (by omega) (by omega)) λlf vw=>Af.some ⟨by have:=vw.size;show en lf.1<=_;omega,vw.Ch,vw.lo,by have:=vw.hi;show lf.2<=_;omega⟩
 have hn3:3<=n:=by omega
 refine Af.cont (R:=GE (HI n) (Ew n) p) (S:=λf=>p<=f/\f<=p+1) ?_ (λr hr=>hr) λf8 hf8=>?_
 ·refine Af.bind (Cm Bb ⟨by omega,by omega⟩) λq hq=>?_;have q1:=hq.pos;refine BB (λ_=>?_) λ_=>?_
  ·refine Af.bind (ON C Bb hM (by omega) t (p:=q.2) (by omega) (by omega)) λlf vw=>Af.some (show GE (HI n) (Ew n) p _ from ⟨by have:=vw.size;show en lf.1<=_;omega,vw.Ch,by have:=vw.lo;show p<=lf.2;omega,by have:=vw.hi;show lf.2<=_;omega⟩)
  refine Af.bind (R:=λ_=>True) ?_ λt19 _=>Cy (λ_=>?_) λ_=>?_
  ·exact BB (λ_=>Af.some pw) λ_=>Af.some pw
  ·have ed:Int.tdiv (n:Int) 2=((n / 2:Nat):Int):=rfl;have fit:2*HI (n / 2)+1<=HI n/\2*Ew (n / 2)+2<=Ew n:=by
    have hd0:¬ n / 2=0:=by omega
    have hn0:¬ n=0:=by omega
    unfold HI Ew;rw[qG hd0,qG hn0,qG hd0,qG hn0];omega
   rw[ed];have hd:=su n 2;have hd2:n / 2+1<=n:=by omega
   generalize n / 2=d at hd hd2 fit⊢;rw[Co (n:=(d:Int)) (by omega) (by omega)];refine Af.bind (aI C Bb hM (by omega) (p:=q.2) (by omega) (by omega)) λwX hq23=>?_;refine Af.bind (R d vars wX.1 wX.2 (by omega) (by omega) (by omega) (by omega) (by omega)) λs hs=>?_;have r1:=hs.lo;have r2:=hs.hi;have r3:=hs.size;refine AN (I6 (by omega) (by simp)) ?_;refine Af.bind (R d (vars++[wX.1]) t s.2 (by omega) (by omega) (by simp;omega) (by omega) (by omega)) λu hu=>?_;have u1:=hu.lo;have u2:=hu.hi;have u3:=hu.size;refine AN rfl (Af.some (show GE (HI n) (Ew n) p _ from ⟨?_,LR (Dz (by omega) (by omega)) (Dz (by omega) (by omega)) (λe he=>?_) (by simp),by show p<=u.2;omega,by show u.2<=_;omega⟩))
   ·rw[Hi];simp only[CN];omega
   ·simp only[qH,qi,rI]at he;rcases he with rfl|rfl
    ·exact hs.Ch
    ·exact hu.Ch
  have ga:∀(types:List Int) (q:Int) (o m:Int),types.length<=3->p<=q->q<=p+10->-1000000<=o/\o<=1000000->-1000000<=m/\m<=1000000->
    Af ((Gl M rec b q F D vars types (Sh.w ((n:Int)-1))).bind λwD=>(Bl o m wD.1).bind λxX=>some (Sum.inl (xX,wD.2))) λv:(AG×Int) ⊕ Int=>match v with|.inl r=>GE (HI n) (Ew n) p r|.inr f=>p<=f/\f<=p+1:=by
   intro types q o m ht g1 g2 ho hm;rw[Co (n:=(n:Int)-1) (by omega) (by omega),show ((n:Int)-1)=((n-1:Nat):Int) by omega];obtain⟨d,hd⟩ :∃d,d=(n-1) / types.length:=⟨_,rfl⟩
   have hdr:d*types.length<=n-1:=by rw[hd];exact Qx _ _
   have hdn:d<=n-1:=by rw[hd];exact su _ _
   have wh:0<types.length->40+types.length*Ew d<=Ew n:=λh=>(OO (d:=d) h ht hn3 hdr).2;have hle2:q+(types.length*Ew d:Nat)<=400000:=by
    rcases sC types.length with h|h
    ·rw[h];omega
    ·have:=wh h;omega
   refine Af.bind (V3 R ht (bud:=n-1) (by omega) (d:=d) (λ_=>hd.symm) (by omega) (by omega) (by omega) hM (p:=q) (by omega) hle2) ?_;rintro⟨l,q'⟩ g;exact AN rfl (Af.some (Ze (P:=10) ho hm ht hn3 hdr ⟨g1,g2⟩ (by omega) g))
  refine BB (λ_=>(ga [0,t,t] q.2 7 0 (by simp) (by omega) (by omega) (by omega) (by omega)).mono λv hv=>by cases v<;>exact hv) λ_=>?_;refine Af.bind (R:=λ_=>True) ?_ λt35 _=>Cy (λ_=>?_) λ_=>?_
  ·exact BB (λ_=>Af.some pw) λ_=>BB (λ_=>Af.some pw) λ_=>Af.some pw
  ·exact Af.bind (ZK C Bb R hn3 hn hv hM h0 (p:=q.2) (by omega) h1) λr hr=>Af.some (show GE (HI n) (Ew n) p _ from hr)
  refine Af.bind (R:=λ_=>True) ?_ λt41 _=>Cy (λ_=>?_) λ_=>Af.some (by show p<=q.2/\q.2<=_;omega)
  ·exact BB (λ_=>Af.some pw) λ_=>Af.some pw
  refine Af.bind (Yy C hM) λl hl=>?_;refine BB (λve=>?_) λ_=>Af.some (by show p<=q.2/\q.2<=_;omega);rw[AK]at ve⊢;refine Af.bind (Cm Bb ⟨by omega,by omega⟩) λyR hq49=>?_;have a1:=hq49.pos;have a2:=hq49.nn;have a3:=hq49.lt (by omega);refine Af.get a2 a3 λzb _ hc50=>?_;obtain⟨b0,b1⟩:=hl.2 zb hc50;refine Af.get b0 b1 λg _ hg=>?_;have hF:=C.fl;exact (ga g.params yR.2 9 zb (C.par g hg) (by omega) (by omega) (by omega) (by omega)).mono λv hv=>by cases v<;>exact hv
 ·exact Af.bind (ZE C Bb R hn3 hn hv hM h0 hf8 h1) λr hr=>Af.some hr
theorem YU (C:CX D F){b:List Int}(Bb:Bk b){M:Nat}(hM:2000000<=M):∀n:Nat,RG b D F (Kb M n) n
 | 0=>λd _ _ _ hd=>absurd hd (by omega)
 | n+1=>λd vars t p hd h20 hv h0 h1=>by
  rw[Kb];have R:RG b D F (Kb M n) d:=λd' vars' t' p' hd'=>YU C Bb hM n d' vars' t' p' (by omega);exact fJ C Bb R h20 hv hM h0 h1
theorem Kq (C:CX D F){b:List Int}(Bb:Bk b){M:Nat}(hM:2000000<=M){d:Nat}(hd:d<=20){vars:List Int}(hv:vars.length<=100)(t:Int){p:Int}(h0:0<=p)(h1:p<=300000):Af (Hw M b p F D vars t (d:Int)) (GE (HI d) (Ew d) p):=by
 have:=lu hd;exact YU C Bb hM M d vars t p (by omega) hd (by omega) h0 (by omega)
end
end RC
namespace RC
open Go
section
variable {D : List AI} {F : List Ar}
structure GQ (k P:Nat) (p:Int) (q:Int×Int×Int×List AG):Prop where
 size:en ⟨q.2.1,q.2.2.1,q.2.2.2⟩<=k
 Ch:BF ⟨q.2.1,q.2.2.1,q.2.2.2⟩
 lo:p<=q.1
 hi:q.1<=p+P
theorem GE.parts {k P:Nat}{p:Int}{q:AG×Int}(h:GE k P p q):GQ k P p (q.2,q.1.op,q.1.num,q.1.kids):=by
 obtain⟨e,f⟩:=q;cases e;exact⟨h.size,h.Ch,h.lo,h.hi⟩
theorem Xm (o n:Int)(a b:AG):en ⟨o,n,[a,b]⟩=1+en a+en b:=by rw[Hi];simp only[CN];omega
theorem iL (o n:Int)(a b c:AG):en ⟨o,n,[a,b,c]⟩=1+en a+en b+en c:=by rw[Hi];simp only[CN];omega
theorem Ml (o n:Int):en ⟨o,n,[]⟩=1:=by rw[Hi];simp[CN]
theorem XS {o n:Int}{a b:AG}(ho:-1000000<=o/\o<=1000000)(hn:-1000000<=n/\n<=1000000)(ha:BF a)(hb:BF b):BF ⟨o,n,[a,b]⟩:=
 LR (Dz ho.1 ho.2) (Dz hn.1 hn.2) (λe he=>by simp only[qH,qi,rI]at he;rcases he with rfl|rfl<;>assumption) (by simp)
theorem ja {o n:Int}{a b c:AG}(ho:-1000000<=o/\o<=1000000)(hn:-1000000<=n/\n<=1000000)(ha:BF a)(hb:BF b)(hc:BF c):BF ⟨o,n,[a,b,c]⟩:=
 LR (Dz ho.1 ho.2) (Dz hn.1 hn.2) (λe he=>by simp only[qH,qi,rI]at he;rcases he with rfl|rfl|rfl<;>assumption) (by simp)
theorem pN {o n:Int}{a:AG}(ho:-1000000<=o/\o<=1000000)(hn:-1000000<=n/\n<=1000000)(ha:BF a):BF ⟨o,n,[a]⟩:=
 LR (Dz ho.1 ho.2) (Dz hn.1 hn.2) (λe he=>by rw[qO]at he;rw[he];exact ha) (by simp)
theorem aB {b:List Int}(Bb:Bk b){M:Nat}(hM:2000000<=M)(t:Int){p:Int}(h0:0<=p)(h1:p<=500000):Af (Li M b p t) (GE 20 20 p):=by
 unfold Li;have li:∀n:Int,0<=n->n<=100->BF ⟨0,n,[]⟩:=λn a c=>Gf ⟨by omega,by omega⟩ ⟨by omega,by omega⟩;refine AN rfl ?_;refine BB (λ_=>?_) λ_=>?_
 ·refine AN rfl ?_;refine Af.bind (Cm Bb ⟨by omega,by omega⟩) λq hq=>?_;have q1:=hq.pos;have q2:=hq.nn;have q3:=hq.lt (by omega);refine AN rfl (AN rfl ?_);refine Af.bind (Cm Bb ⟨by omega,by omega⟩) λs hs=>?_;have s1:=hs.pos;have s2:=hs.nn;have s3:=hs.lt (by omega);have l6:BF ⟨6,2,[]⟩:=Gf ⟨by omega,by omega⟩ ⟨by omega,by omega⟩;refine AN rfl (AN rfl (Af.some ⟨?_,?_,by show p<=s.2;omega,by show s.2<=_;omega⟩))
  ·rw[iL,iL,Ml,Ml,Ml];omega
  ·exact ja ⟨by omega,by omega⟩ ⟨by omega,by omega⟩ (ja ⟨by omega,by omega⟩ ⟨by omega,by omega⟩ l6 (li _ q2 (by omega)) l6) (li _ s2 (by omega)) l6
 ·refine Af.bind (Cm Bb ⟨by omega,by omega⟩) λq hq=>?_;have q1:=hq.pos;have q2:=hq.nn;have q3:=hq.lt (by omega);have key:∀(n:Nat) (N:Nat) (f o m:Int) (k:List AG),n<N->n<=3->p<=f->f+4*n<=p+13->BF ⟨o,m,k⟩->en ⟨o,m,k⟩+2*n<=7->Af (GW b N n f o m k) (GQ 20 20 p):=by
   intro n
   induction n with
   | zero=>
    intro N f o m k hN _ g1 g2 g3 g4;obtain⟨N,rfl⟩ :∃m,N=m+1:=⟨N-1,by omega⟩
    rw[GW,qG (by simp)];exact Af.some ⟨by show en ⟨o,m,k⟩<=20;omega,g3,g1,by show f<=_;omega⟩
   | succ n ih=>
    intro N f o m k hN hn g1 g2 g3 g4;obtain⟨N,rfl⟩ :∃m,N=m+1:=⟨N-1,by omega⟩
    rw[GW,qF (by rw[qJ];omega)];refine Af.bind (Q5 Bb (by omega) (by omega)) λs hs=>?_;refine AN rfl (AN rfl ?_);rw[Co (by omega) (by omega),show (((n+1:Nat):Int)-1)=(n:Int) by omega];refine ih N s.2 6 1 _ (by omega) (by omega) (by omega) (by omega) (XS ⟨by omega,by omega⟩ ⟨by omega,by omega⟩ (Gf ⟨by omega,by omega⟩ ⟨by omega,by omega⟩) g3) ?_;show en ⟨6,1,[⟨0,s.1,[]⟩,⟨o,m,k⟩]⟩+2*n<=7;rw[Xm,Ml];omega
  obtain⟨n,hn⟩:=qu q2;have h3:=key (n+1) M q.2 6 0 [] (by omega) (by omega) (by omega) (by omega) (Gf ⟨by omega,by omega⟩ ⟨by omega,by omega⟩) (by rw[Ml];omega);rw[Co (by omega) (by omega),hn,show (1+(n:Int))=((n+1:Nat):Int) by omega];refine Af.bind h3 ?_;rintro⟨f,o,m,k⟩ g;exact Af.some ⟨g.size,g.Ch,g.lo,g.hi⟩
theorem cG:HI 4=31:=rfl
theorem fB:Ew 4=275:=rfl
theorem pW:HI 3=22:=rfl
theorem pZ:Ew 3=195:=rfl
theorem nG:HI 16=139:=rfl
theorem oZ:Ew 16=1235:=rfl
theorem Yi (C:CX D F){b:List Int}(Bb:Bk b){M:Nat}(hM:2000000<=M){p:Int}(h0:0<=p)(h1:p<=200000):Af (Ke M b p F D) (GE 1000 3000 p):=by
 unfold Ke;refine Af.bind (Hf Bb ⟨by omega,by omega⟩ (by simp) (by simp)) λq hq=>?_;have q1:=hq.pos;refine Af.bind (Kq C Bb hM (d:=16) (by omega) (vars:=[q.1]) (by simp) 0 (p:=q.2) (by omega) (by omega)) λg hg=>?_;have g1:=hg.size;have g2:=hg.lo;have g3:=hg.hi;rw[nG]at g1;rw[oZ]at g3;refine Af.bind (R:=GQ 141 2000 p) ?_ ?_
 ·refine Af.bind (Cm Bb ⟨by omega,by omega⟩) λs hs=>?_;have s1:=hs.pos;refine BB (λ_=>AN rfl (Af.some ?_)) λ_=>Af.some ?_
  ·refine⟨?_,(pN ⟨by omega,by omega⟩ ⟨by omega,by omega⟩ hg.Ch:BF ⟨5,0,[g.1]⟩),by show p<=s.2;omega,by show s.2<=_;omega⟩;show en ⟨5,0,[g.1]⟩<=_;rw[Hi,It];omega
  ·have:=hg.parts;exact⟨by have:=this.size;rw[nG]at this;dsimp only at this⊢;omega,this.Ch,by show p<=s.2;omega,by show s.2<=_;omega⟩
 ·rintro⟨f,o,m,k⟩ g;have a1:=g.size;have a2:=g.lo;have a3:=g.hi;have a4:=g.Ch;dsimp only at a1 a2 a3 a4⊢;refine Af.bind (aB Bb hM q.1 (p:=f) (by omega) (by omega)) λl hl=>?_;have l1:=hl.size;have l2:=hl.lo;have l3:=hl.hi;refine AN rfl (Af.some ⟨by rw[Xm];omega,XS ⟨by omega,by omega⟩ ⟨by omega,by omega⟩ hl.Ch a4,by show p<=l.2;omega,by show l.2<=_;omega⟩)
theorem Yr (C:CX D F){b:List Int}(Bb:Bk b){M:Nat}(hM:2000000<=M){f:Nat}(hf:f<F.length){a:Nat}(ha:a<=3){p:Int}(h0:0<=p)(h1:p<=200000):Af (Kh M b p F D f a) (GE 1000 3000 p):=by
 have yP:=C.fl;obtain⟨g,hg,zu⟩:=Ba hf;have hp3:=C.par g zu;unfold Kh;refine AN (Av hg) (AN (I6 (by omega) (by simp)) ?_);have key:∀{N i:Nat},i<=g.params.length->g.params.length-i<N->∀(q:Int) (acc:List AG),p<=q->q<=p+i->acc.length=i->(∀e∈acc,BF e)->CN acc<=3*i->
   Af (Fp g b a N i q acc) λr=>p<=r.1/\r.1<=p+3/\r.2.length<=3/\(∀e∈r.2,BF e)/\CN r.2<=9:=by
  intro N i hi hN;refine Bm g.params.length (λN i=>∀(q:Int) (acc:List AG),p<=q->q<=p+i->acc.length=i->(∀e∈acc,BF e)->CN acc<=3*i->
   Af (Fp g b a N i q acc) λr=>p<=r.1/\r.1<=p+3/\r.2.length<=3/\(∀e∈r.2,BF e)/\CN r.2<=9) ?_ ?_ hi hN
  ·intro n q acc g1 g2 g3 g4 g5;rw[Fp,qG (by simp[AK])];exact Af.some ⟨g1,by show q<=_;omega,by show acc.length<=3;omega,g4,by show CN acc<=9;omega⟩
  ·intro n i hi ih q acc g1 g2 g3 g4 g5;obtain⟨t,ht,_⟩:=Ba hi;rw[Fp,qF (by rw[qJ,AK];omega),Co (n:=(i:Int)+1) (by omega) (by omega),show ((i:Int)+1)=((i+1:Nat):Int) by omega,AK];have ap:∀{e:AG} {s:Int},BF e->en e<=3->p<=s->s<=p+(i+1:Nat)->Af ((Sh.app acc [e] 40).bind λl68=>some (s,l68)) λr:Int×List AG=>p<=r.1/\r.1<=p+(i+1:Nat)/\r.2.length=i+1/\(∀e∈r.2,BF e)/\CN r.2<=3*(i+1):=λhe h3 hs1 hs2=>
    Af.app (by simp;omega) (by simp;omega) (Af.some ⟨hs1,hs2,by simp;omega,λx hx=>by
     rcases qb.1 hx with h5|h5
     ·exact g4 x h5
     ·rw[qO]at h5;rw[h5];exact he,by show CN (acc++_)<=_;rw[J7,It];omega⟩)
   have vi:∀{n:Int},0<=n->n<=100->BF ⟨12,n,[]⟩:=λa c=>Gf ⟨by omega,by omega⟩ ⟨by omega,by omega⟩;refine Af.bind (R:=λr:Int×List AG=>p<=r.1/\r.1<=p+(i+1:Nat)/\r.2.length=i+1/\(∀e∈r.2,BF e)/\CN r.2<=3*(i+1)) ?_ λr hr=>ih r.1 r.2 hr.1 hr.2.1 hr.2.2.1 hr.2.2.2.1 hr.2.2.2.2;refine BB (λ_=>?_) λ_=>?_
   ·rw[Co (n:=(g.params.length:Int)+1) (by omega) (by omega)];exact AN rfl (ap (vi (by omega) (by omega)) (by rw[Ml];omega) g1 (by omega))
   ·refine Af.bind (R:=λr:Bool×Int=>p<=r.2/\r.2<=p+(i+1:Nat)) ?_ ?_
    ·refine AN (Av ht) (BB (λ_=>?_) λ_=>Af.some (by show p<=q/\q<=_;omega));exact Af.bind (Cm Bb ⟨by omega,by omega⟩) λs hs=>Af.some (by have:=hs.pos;show p<=s.2/\s.2<=_;omega)
    ·rintro⟨t70,f71⟩ ⟨a1,a2⟩;dsimp only at a1 a2⊢;refine Cy (λ_=>?_) λ_=>?_
     ·exact AN rfl (AN rfl (AN rfl (ap (XS ⟨by omega,by omega⟩ ⟨by omega,by omega⟩ (vi (by omega) (by omega)) (vi (by omega) (by omega))) (by rw[Xm,Ml,Ml];omega) a1 a2)))
     ·exact AN rfl (ap (vi (by omega) (by omega)) (by rw[Ml];omega) a1 a2)
 have k:=key (qd _) (by omega:g.params.length-0<M) p [] (by omega) (by omega) rfl (by simp) (by simp[CN]);rw[uS]at k;refine Af.bind k ?_;rintro⟨f13,wM⟩ ⟨a1,a2,a3,a4,a5⟩;dsimp only at a1 a2 a3 a4 a5⊢;have again:BF ⟨9,f,wM⟩:=LR (Dz (by omega) (by omega)) (Dz (by omega) (by omega)) a4 (by omega);have ea:en ⟨9,(f:Int),wM⟩<=10:=by rw[Hi];omega
 refine AN rfl ?_;have hvl:(g.params++[(0:Int),1]).length<=100:=by simp;omega
 refine Af.bind (R:=GQ 200 1000 p) ?_ ?_
 ·refine Af.bind (R:=λr:Bool×Int=>p<=r.2/\r.2<=p+4) ?_ ?_
  ·refine BB (λ_=>?_) λ_=>Af.some (by show p<=f13/\f13<=_;omega);exact Af.bind (Cm Bb ⟨by omega,by omega⟩) λs hs=>Af.some (by have:=hs.pos;show p<=s.2/\s.2<=_;omega)
  ·rintro⟨t30,f31⟩ ⟨b1,b2⟩;dsimp only at b1 b2⊢;refine Cy (λ_=>?_) λ_=>?_
   ·refine Af.bind (Kq C Bb hM (d:=4) (by omega) hvl 0 (p:=f31) (by omega) (by omega)) λyA hq=>?_;have c1:=hq.size;have c2:=hq.lo;have c3:=hq.hi;rw[cG]at c1;rw[fB]at c3;refine Af.bind (R:=λr:Int×Int×List AG=>en ⟨r.1,r.2.1,r.2.2⟩<=31/\BF ⟨r.1,r.2.1,r.2.2⟩) ?_ ?_
    ·refine Af.bind (R:=λ_=>True) ?_ λt43 _=>Cy (λ_=>?_) λ_=>Af.some ?_
     ·refine BB (λh=>?_) λ_=>Af.some pw;rw[AK]at h;exact Af.get (by omega) (by omega) λ_ _ _=>Af.some pw
     ·rw[AK];refine AN rfl (AN rfl (AN rfl (Af.some ⟨?_,?_⟩)))
      ·show en ⟨11,0,[⟨12,0,[]⟩,⟨12,(g.params.length:Int),[]⟩]⟩<=31;rw[Xm,Ml,Ml];omega
      ·exact (XS ⟨by omega,by omega⟩ ⟨by omega,by omega⟩ (Gf ⟨by omega,by omega⟩ ⟨by omega,by omega⟩) (Gf ⟨by omega,by omega⟩ ⟨by omega,by omega⟩):BF ⟨11,0,[⟨12,0,[]⟩,⟨12,(g.params.length:Int),[]⟩]⟩)
     ·have:=hq.parts;exact⟨by have:=this.size;dsimp only at this⊢;rw[cG]at this;exact this,this.Ch⟩
    ·rintro⟨f37,f38,f39⟩ ⟨d1,d2⟩;dsimp only at d1 d2⊢;refine AN rfl (Af.some ⟨?_,(XS ⟨by omega,by omega⟩ ⟨by omega,by omega⟩ d2 again:BF ⟨6,1,[⟨f37,f38,f39⟩,⟨9,(f:Int),wM⟩]⟩),by show p<=yA.2;omega,by show yA.2<=_;omega⟩);show en ⟨6,1,[⟨f37,f38,f39⟩,⟨9,(f:Int),wM⟩]⟩<=200;rw[Xm];omega
   ·refine BB (λ_=>?_) λ_=>Af.some ⟨by show en ⟨9,(f:Int),wM⟩<=200;omega,again,by show p<=f31;omega,by show f31<=_;omega⟩;refine Af.bind (Hf Bb ⟨by omega,by omega⟩ (by simp) (by simp)) λzL hq53=>?_;have o1:=hq53.pos;have o2:=hq53.mem;simp only[qH,qi,rI]at o2;refine Af.bind (Kq C Bb hM (d:=4) (by omega) hvl 0 (p:=zL.2) (by omega) (by omega)) λq54 hq=>?_;have c1:=hq.size;have c2:=hq.lo;have c3:=hq.hi;rw[cG]at c1;rw[fB]at c3;refine AN rfl (Af.some ⟨?_,(XS ⟨by omega,by omega⟩ ⟨by omega,by omega⟩ hq.Ch again:BF ⟨zL.1,0,[q54.1,⟨9,(f:Int),wM⟩]⟩),by show p<=q54.2;omega,by show q54.2<=_;omega⟩);show en ⟨zL.1,0,[q54.1,⟨9,(f:Int),wM⟩]⟩<=200;rw[Xm];omega
 ·rintro⟨f20,o,m,k⟩ g20;have b1:=g20.size;have b2:=g20.lo;have b3:=g20.hi;have b4:=g20.Ch;dsimp only at b1 b2 b3 b4⊢;refine AN rfl ?_;refine Af.bind (Kq C Bb hM (d:=4) (by omega) (vars:=g.params) (by omega) g.result (p:=f20) (by omega) (by omega)) λq hq=>?_;have c1:=hq.size;have c2:=hq.lo;have c3:=hq.hi;rw[cG]at c1;rw[fB]at c3;refine AN rfl (Af.some ⟨by rw[iL,Ml];omega,ja ⟨by omega,by omega⟩ ⟨by omega,by omega⟩ (Gf ⟨by omega,by omega⟩ ⟨by omega,by omega⟩) hq.Ch b4,by show p<=q.2;omega,by show q.2<=_;omega⟩)
end
end RC
