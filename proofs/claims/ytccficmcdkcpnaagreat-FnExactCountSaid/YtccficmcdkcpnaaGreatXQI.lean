import Derived.Test.YtccficmcdkcpnaaGreatGXNMToXQH
set_option linter.all false
namespace RC
open Go
section
variable {n : AL} {T : List Int -> Block -> Int} {N : Nat}
theorem mv (HT:Ss n (Br N) (Bn N) T 601)(HB :∀(v:List Int) (b:Block),E3 b<601->BK n b v->Dm N (Br N) n v b=some (T v b))(S:Ji n)(hlr :∀r∈n.AF,r.Aq.length<=1048576)(hN:2000000<=N):∀(m:Nat),m<=601->∀(v:List Int) (b:Block) (own aft:List Int),E3 b<m->BK n b v->OE b=true->0<=T v b->QB v own aft->∀n1 n2,m<=n1->m<=n2->
  CB n (2*m) (HA N n1) (Ev N n2) v own aft b:=by
 intro m
 induction m with
 | zero=>intro _ v b own aft h;omega
 | succ m ih=>
  intro hm v b own aft hb B hpl hT O n1 n2 h1 h2;obtain⟨m1,rfl⟩ :∃q,n1=q+1:=⟨n1-1,by omega⟩
  obtain⟨m2,rfl⟩ :∃q,n2=q+1:=⟨n2-1,by omega⟩
  have hpl':=hpl;rw[Yj,WR,uS]at hpl';exact qU (d:=2*m) (recS:=HA N m1) (recI:=Ev N m2) HT S hlr hN B hpl (by omega) (HB v b (by omega) B) hT (λs hs w hw ht k hk f hf1 hf2 hTk own aft O=>by
   have a1:=Zb hs;have a2:=N1 b;have a3:=RX s;have a4:=gr hk;have hps:=hpl' s hs;rw[Yg,Z6]at hps;simp only[uT,uS]at hps;refine ih (by omega) (w++f) k own aft (by omega) ⟨(B.ay.steps.1 s hs).kids k hk,(MG B.size hs hk).1,by rw[uu];omega,λx hx=>?_⟩ (hps.2 k hk) hTk O m1 m2 (by omega) (by omega);rcases vJ.1 hx with h|h
   ·exact ht x h
   ·exact hf2 x h) O
theorem pP {r:Ad}{K:List Int}(hp:r.params.length<=1000)(hl:r.Aq.length<=1048576)(hK:K.length<=1048576)(hN:2000000<=N):
  ET N r K N 0 [] []=some (E5 (λm=>!decide (m∈r.Aq)&&decide (m∈K)) 0 r.params,E5 (λm=>!decide (m∈r.Aq)&&!decide (m∈K)) 0 r.params):=by
 have key:∀{M i:Nat},i<=r.params.length->r.params.length-i<M->ET N r K M i (E5 (λm=>!decide (m∈r.Aq)&&decide (m∈K)) 0 (r.params.take i)) (E5 (λm=>!decide (m∈r.Aq)&&!decide (m∈K)) 0 (r.params.take i))=some (E5 (λm=>!decide (m∈r.Aq)&&decide (m∈K)) 0 r.params,E5 (λm=>!decide (m∈r.Aq)&&!decide (m∈K)) 0 r.params):=by
  intro M i hi hM;refine BQ r.params.length (λM i=>ET N r K M i (E5 (λm=>!decide (m∈r.Aq)&&decide (m∈K)) 0 (r.params.take i)) (E5 (λm=>!decide (m∈r.Aq)&&!decide (m∈K)) 0 (r.params.take i))=some (E5 (λm=>!decide (m∈r.Aq)&&decide (m∈K)) 0 r.params,E5 (λm=>!decide (m∈r.Aq)&&!decide (m∈K)) 0 r.params)) ?_ ?_ hi hM
  ·intro q;rw[ET,CX,vp]
  ·intro q i hi ih;obtain⟨t,ht,_⟩:=BX hi;have l1:=L4 (λm=>!decide (m∈r.Aq)&&decide (m∈K)) 0 (r.params.take i);have l2:=L4 (λm=>!decide (m∈r.Aq)&&!decide (m∈K)) 0 (r.params.take i);rw[vt]at l1 l2;rw[Ep ht,Nl,Nl,vt,wV (by omega),Int.zero_add]at ih;rw[ET,Cj,Ao ht,wN,Hm hl hN,Hm hK hN,BU _ _ 8 (by simp;omega) (by simp;omega),BU _ _ 8 (by simp;omega) (by simp;omega),uJ];by_cases z:t=0
   ·simpa [z] using ih
   ·by_cases y:(i:Int)∈r.Aq
    ·simpa [z,y] using ih
    ·by_cases x:(i:Int)∈K
     ·simpa [z,y,x] using ih
     ·simpa [z,y,x] using ih
 have:=key (ue _) (by omega:r.params.length-0<N);simpa [E5] using this
theorem om {r:Ad}{K:List Int}(hp:r.params.length<=1000)(hl:r.Aq.length<=1048576)(hK:K.length<=1048577)(aK:HD K)(hN:2000000<=N):
  CC N r K N [] 0 []=some (E5 (λm=>!decide (m∈r.Aq)&&decide (m∈K)) 0 r.params,(E5 (λm=>!decide (m∈r.Aq)&&!decide (m∈K)) 0 r.params).map (GR 15)):=by
 have key:∀{M i:Nat},i<=r.params.length->r.params.length-i<M->CC N r K M (E5 (λm=>!decide (m∈r.Aq)&&decide (m∈K)) 0 (r.params.take i)) i ((E5 (λm=>!decide (m∈r.Aq)&&!decide (m∈K)) 0 (r.params.take i)).map (GR 15))=some (E5 (λm=>!decide (m∈r.Aq)&&decide (m∈K)) 0 r.params,(E5 (λm=>!decide (m∈r.Aq)&&!decide (m∈K)) 0 r.params).map (GR 15)):=by
  intro M i hi hM;refine BQ r.params.length (λM i=>CC N r K M (E5 (λm=>!decide (m∈r.Aq)&&decide (m∈K)) 0 (r.params.take i)) i ((E5 (λm=>!decide (m∈r.Aq)&&!decide (m∈K)) 0 (r.params.take i)).map (GR 15))=some (E5 (λm=>!decide (m∈r.Aq)&&decide (m∈K)) 0 r.params,(E5 (λm=>!decide (m∈r.Aq)&&!decide (m∈K)) 0 r.params).map (GR 15))) ?_ ?_ hi hM
  ·intro q;rw[CC,CX,vp]
  ·intro q i hi ih;obtain⟨t,ht,_⟩:=BX hi;have l1:=L4 (λm=>!decide (m∈r.Aq)&&decide (m∈K)) 0 (r.params.take i);have l2:=L4 (λm=>!decide (m∈r.Aq)&&!decide (m∈K)) 0 (r.params.take i);have hlt:∀x∈E5 (λm=>!decide (m∈r.Aq)&&decide (m∈K)) 0 (r.params.take i),x<(i:Int):=λx hx=>by
    have:=(V9 _ hx).2;simp only[vt]at this;omega
   rw[vt]at l1 l2;rw[Ep ht,Nl,Nl,vt,wV (by omega),Int.zero_add]at ih;rw[CC,Cj,Ao ht,wN,QU hl hN,has_eq hK aK hN,W5 (by omega) hlt hN,jQ];simp only[uJ];rw[BU _ [GR 15 (i:Int)] 72 (by simp;omega) (by simp;omega)];simp only[uJ];by_cases z:t=0
   ·simpa [z] using ih
   ·by_cases y:(i:Int)∈r.Aq
    ·simpa [z,y] using ih
    ·by_cases x:(i:Int)∈K
     ·simpa [z,y,x] using ih
     ·simpa [z,y,x] using ih
 have:=key (ue _) (by omega:r.params.length-0<N);simpa [E5] using this
theorem iU {r:Ad}(HT:Ss n (Br N) (Bn N) T 601)(HB :∀(v:List Int) (b:Block),E3 b<601->BK n b v->Dm N (Br N) n v b=some (T v b))(S:Ji n)(hlr :∀r∈n.AF,r.Aq.length<=1048576)(hN:2000000<=N)
  (v1:E3 r.body<=600) (v2:BK n r.body r.params) (hpl:OE r.body=true) (v3:0<=T r.params r.body) (v4:r.params.length<=3) (v5:r.Aq.length<=3) :
  ∃B,KQ N n r=some B/\E8 N (CL n) r r.body=some B/\Pw 1300 B:=by
 obtain⟨K,k1,k2,k3,k4⟩:=TS hN v2.size (ue _);rw[zQ]at k1;rw[vG,<- V4]at k4;have hCa:HD (EY (r.params.length:Int) [] (O3 r.body)):=T0 _ _ (by simp);have hCl:=Va (m:=r.params.length) 0 hCa λv hv=>by
  rw[Mg]at hv;rcases hv with h|h
  ·cases h
  ·exact h.2
 have hcm:∀v:Int,0<=v->v<(r.params.length:Int)->decide (v∈K)=decide (v∈EY (r.params.length:Int) [] (O3 r.body)):=λv h0 h1=>by
  refine vX.2 ?_;rw[k4,Mg];constructor
  ·exact λh=>.inr ⟨h,h0,h1⟩
  ·rintro (h|h)
   ·cases h
   ·exact h.1
 have e1:E5 (λm=>!decide (m∈r.Aq)&&decide (m∈K)) 0 r.params=E5 (λm=>!decide (m∈r.Aq)&&decide (m∈EY (r.params.length:Int) [] (O3 r.body))) 0 r.params:=RZ _ _ λx h0 h1=>by rw[hcm x h0 (by omega)]
 have e2:E5 (λm=>!decide (m∈r.Aq)&&!decide (m∈K)) 0 r.params=E5 (λm=>!decide (m∈r.Aq)&&!decide (m∈EY (r.params.length:Int) [] (O3 r.body))) 0 r.params:=RZ _ _ λx h0 h1=>by rw[hcm x h0 (by omega)]
 have l1:=L4 (λm=>!decide (m∈r.Aq)&&decide (m∈EY (r.params.length:Int) [] (O3 r.body))) 0 r.params;have l2:=L4 (λm=>!decide (m∈r.Aq)&&!decide (m∈EY (r.params.length:Int) [] (O3 r.body))) 0 r.params;have O:QB r.params (E5 (λm=>!decide (m∈r.Aq)&&decide (m∈EY (r.params.length:Int) [] (O3 r.body))) 0 r.params) []:=by
  refine⟨Vs _ _ _,l1,λv hv=>?_,by simp,by simp,by simp⟩;obtain⟨g1,i,t,g2,g3,g4⟩:=Vz _ _ _ _ hv;have gl:=(uK.1 g2).1;refine⟨by omega,by omega,?_⟩;have:Sh.get r.params v=some t:=by rw[g3,Int.zero_add,Ao g2]
  rw[dW this];exact g4
 obtain⟨B,b1,b2,b3,b4,b5⟩:=mv HT HB S hlr hN 601 (uq _) r.params r.body _ [] (by omega) v2 hpl v3 O N N (by omega) (by omega);refine⟨Block.mk ((E5 (λm=>!decide (m∈r.Aq)&&!decide (m∈EY (r.params.length:Int) [] (O3 r.body))) 0 r.params).map (GR 15)++B.steps) B.result,?_,?_,?_,λs hs=>?_⟩
 ·unfold KQ;rw[Ah,aE hN v2.size,uJ,pP (by omega) (by omega) (by omega) hN];simp only[uJ];unfold Nn;rw[b1];simp only[uJ];rw[N3 (by omega) hN];simp only[uJ];rw[BU _ _ 72 (by simp;omega) (by simp;omega)];rfl
 ·unfold E8;rw[k1];simp only[uJ];rw[om (by omega) (by omega) k3 k2 hN,e1,e2];simp only[uJ];rw[mV (by omega)];simp only[uJ];obtain⟨q,q1,q2,q3⟩:=b5 ((E5 (λm=>!decide (m∈r.Aq)&&!decide (m∈EY (r.params.length:Int) [] (O3 r.body))) 0 r.params).map (GR 15)) (by simp;omega);unfold Ll;show Option.bind (Ev N N n.decls (CL n).funcs _ [] r.params _ r.body) _=_;rw[q1,uJ,q3,q2,b2]
 ·show ((E5 (λm=>!decide (m∈r.Aq)&&!decide (m∈EY (r.params.length:Int) [] (O3 r.body))) 0 r.params).map (GR 15)++B.steps).length<=50000;rw[uu,uZ];omega
 ·have hs:s∈(E5 (λm=>!decide (m∈r.Aq)&&!decide (m∈EY (r.params.length:Int) [] (O3 r.body))) 0 r.params).map (GR 15)++B.steps:=hs;rcases vJ.1 hs with h|h
  ·obtain⟨v,_,rfl⟩:=uw.1 h;exact PN _ _ _
  ·obtain⟨_,c⟩:=(show Pw (1201+1) B from b4)
   obtain⟨c1,c2,c3⟩:=c s h;exact⟨c1,c2,λk hk=>XJ (d:=1201) (by decide) (c3 k hk)⟩
theorem bj (S:Ki n)(hN:2000000<=N){T:List Int->Block->Int}(V:rP n N T)(hpl :∀r∈n.AF,OE r.body=true):∃o:AL,L3 N n=some o/\F4 N n (CL n)=some o/\o.decls=n.decls/\o.AF.length=n.AF.length/\∀r∈o.AF,Pw 1300 r.body/\r.params.length<=3/\r.Aq.length<=3:=by
 have hl:=V.sig.S5;have hz:=S.size;have hdz:∀d∈n.decls,dz d<=1048576:=λd hd=>by have:=Ij dz hd;unfold RW at hz;omega
 have hlr:∀r∈n.AF,r.Aq.length<=1048576:=λr hr=>by have:=(V.tU r hr).2.2.2.2;omega
 have key:∀{M i:Nat},i<=n.AF.length->n.AF.length-i<M->∀acc:List Ad,acc.length=i->∃out,GP N n M i acc=some (acc++out)/\CT N n (CL n) M i acc=some (acc++out)/\out.length=n.AF.length-i/\∀r∈out,Pw 1300 r.body/\r.params.length<=3/\r.Aq.length<=3:=by
  intro M i hi hM;refine BQ n.AF.length (λM i=>∀acc:List Ad,acc.length=i->∃out,GP N n M i acc=some (acc++out)/\CT N n (CL n) M i acc=some (acc++out)/\out.length=n.AF.length-i/\∀r∈out,Pw 1300 r.body/\r.params.length<=3/\r.Aq.length<=3) ?_ ?_ hi hM
  ·intro q acc _;refine⟨[],?_,?_,by simp,by simp⟩
   ·rw[GP,CX,vV]
   ·rw[CT,CX,vV]
  ·intro q i hi ih acc hacc;obtain⟨r,hr,hrm⟩:=BX hi;obtain⟨v1,v2,v3,v4,v5⟩:=V.tU r hrm;obtain⟨B,b1,b2,b3⟩:=iU V.uC V.Ea V.sig hlr hN v1 v2 (hpl r hrm) v3 v4 v5;obtain⟨out,g1,g2,g3,g4⟩:=ih (acc++[⟨r.params,r.Aq,r.result,B⟩]) (by simp[hacc]);refine⟨⟨r.params,r.Aq,r.result,B⟩::out,?_,?_,by simp[g3];omega,λx hx=>?_⟩
   ·rw[GP,Cj,Ao hr,uJ,b1,uJ];unfold NL;rw[bD (by omega)];simp only[uJ];rw[bD (by omega)];simp only[uJ];rw[BU _ _ 88 (by simp;omega) (by simp;omega)];simp only[uJ];rw[wN,g1];simp
   ·rw[CT,Cj,Ao hr,uJ,mV (by omega),uJ,mV (by omega),uJ,b2,uJ,BU _ _ 88 (by simp;omega) (by simp;omega),uJ];rw[wN,g2];simp
   ·rcases uz.1 hx with rfl|hx
    ·exact⟨b3,v4,v5⟩
    ·exact g4 x hx
 obtain⟨out,g1,g2,g3,g4⟩:=key (ue _) (by omega:n.AF.length-0<N) [] rfl;simp only[vh,xO]at g1 g2 g3;rw[zQ]at g1 g2;have hD:=V.sig.RO;refine⟨⟨n.decls,out⟩,?_,?_,rfl,g3,g4⟩
 ·unfold L3;rw[br (by omega) hdz hN,uJ];rw[g1];rfl
 ·unfold F4;rw[an (by omega) hdz hN,uJ];rw[g2];rfl
theorem nf {o:AL}(hl:o.AF.length<=1000)(ho :∀r∈o.AF,Pw 1300 r.body)(hN:2000000<=N):PW N o=some (if ct o then (o,true) else (AL.mk [] [],false))/\JC N o=some (ct o):=by
 constructor
 ·have key:∀{M i:Nat},i<=o.AF.length->o.AF.length-i<M->IL N o M i=some (if (o.AF.drop i).all (λr=>decide (E3 r.body<=600)) then .inr () else .inl (AL.mk [] [],false)):=by
   intro M i hi hM;refine BQ o.AF.length (λM i=>IL N o M i=some (if (o.AF.drop i).all (λr=>decide (E3 r.body<=600)) then .inr () else .inl (AL.mk [] [],false))) ?_ ?_ hi hM
   ·intro q;rw[IL,CX,xA];rfl
   ·intro q i hi ih;obtain⟨r,hr,hrm⟩:=BX hi;rw[IL,Cj,Ao hr,uJ,ez hN (by omega) (ho r hrm),wN,ih,drop_cons hr];simp only[uJ,xT];by_cases he:E3 r.body<=600
    ·rw[uX he,uY (by simp)];simp[he]
    ·rw[uY he];simp[he]
  have:=key (ue _) (by omega:o.AF.length-0<N);rw[vG,zQ]at this;unfold PW;rw[this];unfold ct;cases o.AF.all (λr=>decide (E3 r.body<=600))<;>rfl
 ·have L:=DU (l:=o.AF) (FH N o) (λ_ r=>decide (E3 r.body<=600)) (λq=>by rw[FH,CX]) (λq i r hi=>by
   have hil:=(uK.1 hi).1;rw[FH,Cj,Ao hi,uJ,gY hN (by omega) (ho r (uL hi)),wN,uJ];by_cases he:E3 r.body<=600
   ·rw[uX he,uY (by simp)];simp[he]
   ·rw[uY he];simp[he]) (by omega:o.AF.length<N)
  rw[EU]at L;unfold JC;rw[L,EC];unfold ct;cases o.AF.all (λr=>decide (E3 r.body<=600))<;>rfl
theorem er (S:Ki n)(hN:2000000<=N):∃g:AL×Bool,RW g.1<=1048576/\Oa N n=some g/\Mj N n=some g:=by
 obtain⟨v,b,h0,hp,h1,h2⟩:=bn S hN;have h1:JX N n=some b:=by
  unfold Qc at h1;revert h1;cases JX N n<;>simp
 unfold Oa Mj;rw[h1,h2];cases b with
 | false=>exact⟨(AL.mk [] [],false),by simp[RW],rfl,rfl⟩
 | true=>
  obtain⟨rfl,hpl⟩:=hp rfl;obtain⟨⟨T,V⟩,hs⟩:=iG S hN h0;obtain⟨o,o1,o2,o3,o4,o5⟩:=bj S hN V hpl;have hl:=V.sig.S5;obtain⟨f1,f2⟩:=nf (o:=o) (by omega) (λr hr=>(o5 r hr).1) hN;simp only[uJ,vT,uN,uf];rw[o1,hs];simp only[uJ];rw[f1,o2];simp only[uJ];rw[f2];simp only[uJ];cases hf:ct o with
  | false=>exact⟨(AL.mk [] [],false),by simp[RW],rfl,rfl⟩
  | true=>
   refine⟨(o,true),?_,rfl,rfl⟩;unfold ct at hf;rw[uS]at hf;have hD:=V.sig.RO;have d1:(n.decls.map dz).sum<=12*n.decls.length:=P2 λd hd=>by
    unfold dz;have c1:=V.sig.ZV d hd;have c2:(d.cons.map cz).sum<=3*d.cons.length:=P2 λc hc=>(V.sig.Qr d hd c hc).1;omega
   have d2:(o.AF.map OH).sum<=4806*o.AF.length:=P2 λr hr=>by
    obtain⟨w1,w2,w3⟩:=o5 r hr;have:=fN 1300 r.body w1;have hn:=hf r hr;rw[uj]at hn;unfold OH;omega
   unfold RW;dsimp only;rw[o3];omega
end
theorem UA {n:AL}(H:Rx n):KB 2000000 n=some true:=by
 have hN:(2000000:Nat)<=2000000:=uq _;unfold KB;rw[dh H (by omega) (by omega) hN,uJ];by_cases h:(1048576:Int)-(RW n:Int)<0
 ·rw[GW h];rfl
 ·rw[I5 h];have hz:RW n<=1048576:=by omega
  have S:Ki n:=⟨H,hz⟩
  obtain⟨g,gz,w1,w2⟩:=er S hN;obtain⟨k,d,r,m1,_⟩:=cf hz hN;obtain⟨k2,d2,r2,m2,m3⟩:=cf gz hN;rw[uY (by simpa using h),eA hz hN];simp only[uJ];rw[w1];simp only[uJ];rw[w2];simp only[uJ];rw[WH gz hN,WH hz hN,m1,m2];have hk:¬ (k:Int)<0:=by omega
  have hh:¬ (k2:Int)<0:=by omega
  simp only[hk,hh,vA,vB,vT,uN,uf,uJ,bne_self_eq_false,m3]
end RC
