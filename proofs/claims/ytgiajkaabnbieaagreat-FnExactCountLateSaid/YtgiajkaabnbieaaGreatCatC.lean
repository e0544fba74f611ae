import Derived.Test.YtgiajkaabnbieaaGreatGAbsZKToAbsZO
import Derived.Test.YtgiajkaabnbieaaGreatSufC
set_option linter.all false
namespace Go.Abs
open Go
def QN (cur:Array Value)(size n:Nat):List (List AV):=(List.range n).map λi=>(List.range size).map λj=>AV.ex (cur.getD (i*size+j) undef)
def XQ (size:Nat)(x:List AV):Prop:=x.length=size/\∀c∈x,∃v,c=.ex v
theorem Ki {cur:Array Value}{size n:Nat}:(QN cur size n).length=n:=by simp[QN]
theorem WB {cur:Array Value}{size n i:Nat}(h:i<n):(QN cur size n)[i]?=some ((List.range size).map λj=>AV.ex (cur.getD (i*size+j) undef)):=by
 simp[QN,mG,nb h]
theorem VC {cur:Array Value}{size n:Nat}:∀x∈QN cur size n,XQ size x:=by
 intro x hx;simp only[QN,mU]at hx;obtain⟨i,_,rfl⟩:=hx;refine⟨by simp,λc hc=>?_⟩;obtain⟨j,_,rfl⟩:=mU.1 hc;exact⟨_,rfl⟩
theorem dk {F:Nat->Prop}{w:World}{b el size n:Nat}{cur:Array Value}{fr:Nat×Nat}(rE:w.heap[b]?=some (.cells cur el fr))(hc :∀i,i<n->∀j,j<size->∃u,cur[i*size+j]?=some u/\u.oneCell'=true):Gj F w (QN cur size n) b 0:=by
 refine Jc (size:=size) (λx hx=>(VC x hx).1) λi x hx=>?_;have hi:i<n:=by have:=(mC.1 hx).1;rwa [Ki]at this
 rw[WB hi,mE]at hx;subst hx;refine Ii λj c hj=>?_;rw[mG,mK]at hj;obtain⟨j',xf,rfl⟩:=hj;have hjs:j<size:=by have:=(mC.1 xf).1;simpa using this
 rw[nb hjs,mE]at xf;subst xf;obtain⟨u,h1,h2⟩:=hc i hi j hjs;have h3:cur.getD (i*size+j) undef=u:=by rw[nh,h1];rfl
 refine⟨u,?_,rfl,?_⟩
 ·rw[oE w b _ cur _ _ rE,nS];exact h1
 ·simp only[Ae];exact⟨h3.symm,by rw[h3];exact h2⟩
theorem cr {F F2:Nat->Prop}{w:World}{os:List Own}{o:Own}{size m:Nat}{u:Value}(qu:Kf F w os o)(hs:o.row.size=size)(hm:m=o.row.xs.length)(hF :∀b,o.DM=some b->F2 b)
  (hu:(o.DM=none/\∃a,u=.slice a m 0)∨∃b,o.DM=some b/\u=.slice (some ⟨b,0,none⟩) m o.cap) :
  ∃cur:Array Value,Ae F2 w [] (.sl (QN cur size m)) u/\(∀b,o.DM=some b->w.heap[b]?=some (.cells cur o.row.elem (0,0)))/\∀i x,o.row.xs[i]?=some x->∀j c,x[j]?=some c->∃v,cur[i*size+j]?=some v/\Ae F w os c v/\cur.getD (i*size+j) undef=v:=by
 rcases hu with ⟨hb,a,rfl⟩|⟨b,hb,rfl⟩
 ·have h0:=(qu.none hb).1;have zI:m=0:=by rw[hm,h0];rfl
  subst zI;refine⟨#[],?_,(λb h=>by rw[hb]at h;cases h),(λi x hx=>by rw[h0]at hx;simp at hx)⟩;simp only[Ae];exact⟨a,0,by simp[QN],by simp[QN],λh=>absurd (by simp[QN]) h⟩
 ·obtain⟨_,cur,rE,rP,hle,_,rF⟩:=qu.some b hb;rw[hs]at rF;refine⟨cur,?_,(λb' h=>by rw[hb]at h;cases h;exact rE),λi x hx j c hc=>?_⟩
  ·simp only[Ae];refine⟨_,_,by rw[Ki],by rw[Ki,hm];exact hle,λ_=>⟨b,0,size,rfl,hF b hb,λx hx=>(VC x hx).1,?_⟩⟩;refine dk rE λi hi j hj=>?_;obtain⟨x,hx⟩ :∃x,o.row.xs[i]?=some x:=⟨_,mH (by omega)⟩
   have hl:=qu.lens x (mB hx);obtain⟨c,hc⟩ :∃c,x[j]?=some c:=⟨_,mH (by omega)⟩
   obtain⟨v,h1,h2⟩:=rF i x hx j c hc;exact⟨v,h1,RY (hl.2 c (mB hc)) h2⟩
  ·obtain⟨v,h1,h2⟩:=rF i x hx j c hc;exact⟨v,h1,h2,by rw[nh,h1];rfl⟩
section
variable {P : Program} {k : Nat} {ops : Array Oper} {Q : Exit -> St -> Prop} {ds : List (Option Tmp)} {r : List Oper} {n : Nat} {e : Nat -> AV} {st st' : List Row} {α : Type} {enc : α -> List AV} {la lb : List α} {gd : Option (Nat × Bool)} {t : Tmp} {x : Operand} {ts : Array TypeId} {ty : TypeId} {ps : String} {ed : Array Edge} {f : FuncId} {ia ib q gA gB gQ size : Nat} {el elQ : TypeId}
def Own.gone (o:Own):Own:=⟨{ o.row with gen:=o.row.gen+1,xs:=[] },none,0,Fj⟩
theorem Ww {K:St->Prop}(hX :∀xs ys:List (List AV),xs.length=la.length->ys.length=lb.length->(∀z∈xs,XQ size z)->(∀z∈ys,XQ size z)->AS P f [.sl [[.sl xs],[.sl ys]]] [] λv s=>v=.own 0 0 (xs++ys).length/\s=[⟨0,el,size,xs++ys⟩])
  (hq:st[q]?=some ⟨gQ,elQ,1,[[.own ia gA la.length],[.own ib gB lb.length]]⟩) (hA:st[ia]?=some ⟨gA,el,size,la.map enc⟩) (hB:st[ib]?=some ⟨gB,el,size,lb.map enc⟩) (h1:ia≠ib) (h2:ia≠q) (h3:ib≠q)
  (hk:K (St.put ⟨n,e,((st.set ia ⟨gA+1,el,size,[]⟩).set ib ⟨gB+1,el,size,[]⟩).set q ⟨gQ+1,elQ,1,[]⟩++[⟨0,el,size,(la++lb).map enc⟩]⟩ (some t) (.own st.length 0 (la++lb).length))):callThen P k ⟨n,e,st⟩ f [.own q gQ 2] (some t) K:=by
 intro F os a w vs hr hl;simp only[Ba]at hl;obtain⟨u,_,rfl,hu,rfl⟩:=hl;obtain⟨oA,vU,hrA⟩:=hr.row hA;obtain⟨oB,hoB,hrB⟩:=hr.row hB;obtain⟨oQ,hoQ,hrQ⟩:=hr.row hq;have kA:=hr.rows ia oA vU;have kB:=hr.rows ib oB hoB;have kQ:=hr.rows q oQ hoQ;simp only[Ae]at hu;obtain⟨oQ',hoQ',_,_,hu⟩:=hu;rw[hoQ]at hoQ';cases hoQ';obtain⟨_,hu⟩:=hu (by rw[hrQ]);rw[hrQ]at hu;simp only[mf,nN,oP,pB,pM]at hu;obtain⟨bq,hbq,rfl⟩ :∃bq,oQ.DM=some bq/\u=.slice (some ⟨bq,0,none⟩) 2 oQ.cap:=by
  rcases hu with ⟨hb,_⟩|h
  ·have:=(kQ.none hb).1;rw[hrQ]at this;simp at this
  ·exact h
 obtain⟨_,curQ,hcurQ,hszQ,hleQ,_,hcQ⟩:=kQ.some bq hbq;rw[hrQ]at hcurQ hszQ hleQ hcQ;obtain⟨uA,a1,a2⟩:=hcQ 0 _ rfl 0 _ rfl;obtain⟨uB,b1,b2⟩:=hcQ 1 _ rfl 0 _ rfl;have handle:∀{i g m:Nat} {o:Own} {v:Value},os[i]?=some o->o.row.gen=g->m=o.row.xs.length->Ae F w os (.own i g m) v->(o.DM=none/\∃a,v=.slice a m 0)∨∃b,o.DM=some b/\v=.slice (some ⟨b,0,none⟩) m o.cap:=λ{i g m o v} ho hg hm hv=>by
  simp only[Ae]at hv;obtain⟨o',rW,_,_,hv⟩:=hv;rw[ho]at rW;cases rW;obtain⟨_,hv⟩:=hv hg;rcases hv with hv|⟨b,hb,hv⟩
  ·exact .inl hv
  ·exact .inr ⟨b,hb,by rw[hv,Lb hm]⟩
 have lenA:la.length=oA.row.xs.length:=by rw[hrA];simp
 have lenB:lb.length=oB.row.xs.length:=by rw[hrB];simp
 let F2:Nat->Prop:=λb=>F b∨b=bq∨oA.DM=some b∨oB.DM=some b
 obtain⟨vZ,rA,heapA,cellA⟩:=cr (F2:=F2) kA (by rw[hrA]) lenA (λb hb=>.inr (.inr (.inl hb))) (handle vU (by rw[hrA]) lenA a2);obtain⟨va,rB,heapB,cellB⟩:=cr (F2:=F2) kB (by rw[hrB]) lenB (λb hb=>.inr (.inr (.inr hb))) (handle hoB (by rw[hrB]) lenB b2);rw[hrA]at heapA cellA;rw[hrB]at heapB cellB;dsimp only at heapA cellA heapB cellB;have hold2:∀b,F2 b->b<w.heap.size:=λb hb=>by
  rcases hb with hb|rfl|hb|hb
  ·exact hr.F6 b hb
  ·exact kQ.lt (.inl hbq)
  ·exact kA.lt (.inl hb)
  ·exact kB.lt (.inl hb)
 have harg:Ae F2 w [] (.sl [[.sl (QN vZ size la.length)],[.sl (QN va size lb.length)]]) (.slice (some ⟨bq,0,none⟩) 2 oQ.cap):=by
  simp only[Ae];refine⟨_,_,rfl,hleQ,λ_=>⟨bq,0,1,rfl,.inr (.inl rfl),by simp,?_⟩⟩;simp only[Gj,Ew,nw,nS,and_true];refine⟨⟨uA,?_,rfl,rA⟩,⟨uB,?_,rfl,rB⟩⟩
  ·rw[oE w bq _ curQ _ _ hcurQ];exact a1
  ·rw[oE w bq _ curQ _ _ hcurQ];exact b1
 refine (hX _ _ Ki Ki VC VC F2 [] w _ (GU.nil hold2) (by simp only[Ba];exact⟨_,[],rfl,harg,rfl⟩)).mono ?_;rintro e' w' ⟨v,rv,s',F',os',rfl,⟨rfl,rfl⟩,hs,hv,he⟩;obtain⟨oC,rfl,hrC⟩ :∃oC,os'=[oC]/\oC.row=⟨0,el,size,QN vZ size la.length++QN va size lb.length⟩:=by
  have h:=hs.st
  match os',h with
  | [o],h=>exact⟨o,rfl,by simpa using h⟩
  | [],h=>simp at h
  | _::_::_,h=>simp at h
 have kC:=hs.rows 0 oC rfl;have hlen:(QN vZ size la.length++QN va size lb.length).length=(la++lb).length:=by simp[Ki]
 have sw:∀{i j:Nat} {oi oj:Own} {b:Nat},os[i]?=some oi->os[j]?=some oj->i≠j->oi.owns b->¬ oj.owns b:=λhi hj rV h1 h2=>rV (hr.inj _ _ _ _ _ hi hj h1 h2);have nF2:∀{i:Nat} {o:Own} {b:Nat},os[i]?=some o->o.owns b->(i=q->b≠bq)->(i=ia->oA.DM≠some b)->(i=ib->oB.DM≠some b)->¬ F2 b:=λ{i o b} hi hb c1 c2 c3 h=>by
  rcases h with h|rfl|h|h
  ·exact (hr.rows i o hi).nF hb h
  ·by_cases hiq:i=q
   ·exact c1 hiq rfl
   ·exact sw hi hoQ hiq hb (.inl hbq)
  ·by_cases uT:i=ia
   ·exact c2 uT h
   ·exact sw hi vU uT hb (.inl h)
  ·by_cases uT:i=ib
   ·exact c3 uT h
   ·exact sw hi hoB uT hb (.inl h)
 have keep:∀{i:Nat} {o:Own} {b:Nat},os[i]?=some o->o.owns b->(i=q->b≠bq)->(i=ia->oA.DM≠some b)->(i=ib->oB.DM≠some b)->w'.heap[b]?=w.heap[b]?/\oC.DM≠some b:=λ{i o b} hi hb c1 c2 c3=>by
  obtain⟨f1,_,f3⟩:=he.other b ((hr.rows i o hi).lt hb) (nF2 hi hb c1 c2 c3) (by simp);exact⟨f1,λh=>f3 oC (by simp) (.inl h)⟩
 have zC:∀b,oA.more b->w'.heap[b]?=w.heap[b]?/\oC.DM≠some b:=λb hb=>keep vU (.inr hb) (λh=>absurd h h2) (λ_=>(kA.mo b hb).2.2) (λh=>absurd h h1);have zD:∀b,oB.more b->w'.heap[b]?=w.heap[b]?/\oC.DM≠some b:=λb hb=>keep hoB (.inr hb) (λh=>absurd h h3) (λh=>absurd h.symm h1) (λ_=>(kB.mo b hb).2.2);have H8:∀b,F b->w'.heap[b]?=w.heap[b]?:=λb hb=>he.H8 b (.inl hb);have hC:∀b,oC.DM=some b->w.heap.size<=b:=λb hb=>by
  refine nd λrJ=>?_;by_cases h:F2 b
  ·exact (kC.some b hb).1 (he.OO b h)
  ·exact (he.other b (by omega) h (by simp)).2.2 oC (by simp) (.inl hb)
 let oC':Own:=⟨⟨0,el,size,(la++lb).map enc⟩,oC.DM,oC.cap,λb=>oA.more b∨oB.more b⟩
 let os2:List Own:=((os.set ia oA.gone).set ib oB.gone).set q oQ.gone++[oC']
 have wJ:os2=((os.set ia oA.gone).set ib oB.gone).set q oQ.gone++[oC']:=rfl;have lt:∀{i:Nat} {o:Own},os[i]?=some o->i<os.length:=λh=>(mC.1 h).1;have yI:∀i oi,os2[i]?=some oi->(os[i]?=some oi/\i≠ia/\i≠ib/\i≠q)∨(∃o,os[i]?=some o/\oi=o.gone)∨(i=os.length/\oi=oC'):=λi oi hi=>by
  rw[wJ]at hi;by_cases rJ:i<os.length
  ·rw[mM (by simpa using rJ)]at hi;by_cases e1:i=q
   ·subst e1;rw[mN (by simpa using rJ),mE]at hi;exact .inr (.inl ⟨oQ,hoQ,hi.symm⟩)
   ·rw[mT (nm e1)]at hi;by_cases e2:i=ib
    ·subst e2;rw[mN (by simpa using rJ),mE]at hi;exact .inr (.inl ⟨oB,hoB,hi.symm⟩)
    ·rw[mT (nm e2)]at hi;by_cases e3:i=ia
     ·subst e3;rw[mN rJ,mE]at hi;exact .inr (.inl ⟨oA,vU,hi.symm⟩)
     ·rw[mT (nm e3)]at hi;exact .inl ⟨hi,e3,e2,e1⟩
  ·have vv:=(mC.1 hi).1;simp at vv;obtain rfl:i=os.length:=by omega
   rw[mP (by simp)]at hi;simp at hi;exact .inr (.inr ⟨rfl,hi.symm⟩)
 have rq:Ex os os2:=λi o hi=>by
  have rJ:=lt hi;rw[wJ,mM (by simpa using rJ)];have gone:∀{o:Own},∃o':Own,some o.gone=some o'/\o.row.gen<=o'.row.gen/\o'.row.size=o.row.size/\(o'.row.gen=o.row.gen->o'.DM=o.DM/\o'.cap=o.cap/\o'.row.xs.length=o.row.xs.length):=λ{o}=>⟨_,rfl,by simp[Own.gone],rfl,λh=>by simp[Own.gone]at h⟩;by_cases e1:i=q
  ·subst e1;rw[mN (by simpa using rJ)];rw[hoQ]at hi;cases hi;exact gone
  ·rw[mT (nm e1)];by_cases e2:i=ib
   ·subst e2;rw[mN (by simpa using rJ)];rw[hoB]at hi;cases hi;exact gone
   ·rw[mT (nm e2)];by_cases e3:i=ia
    ·subst e3;rw[mN rJ];rw[vU]at hi;cases hi;exact gone
    ·rw[mT (nm e3)];exact⟨o,hi,mS _,rfl,λ_=>⟨rfl,rfl,rfl⟩⟩
 have rC:∀x v,Ae F w os x v->Ae F w' os2 x v:=λx v h=>EJ (λ_ h=>h) H8 os os2 rq x v h;have xA:∀c,oC.DM=some c->∃cur:Array Value,w'.heap[c]?=some (.cells cur el (0,0))/\cur.size=oC.cap*size/\(la++lb).length<=oC.cap/\oC.cap<=maxLen/\∀i x,((la++lb).map enc)[i]?=some x->∀j d,x[j]?=some d->
   ∃u,cur[i*size+j]?=some u/\Ae F w os d u/\(if i<la.length then vZ[i*size+j]?=some u else va[(i-la.length)*size+j]?=some u):=λc hc=>by
  obtain⟨_,cur,e1,e2,e3,e4,e5⟩:=kC.some c hc;rw[hrC]at e1 e2 e3 e5;dsimp only at e1 e2 e3 e5;refine⟨cur,e1,e2,by rw[<- hlen];exact e3,e4,λi x hx j d hd=>?_⟩;by_cases hi:i<la.length
  ·rw[mu,mM (by simpa using hi)]at hx;obtain⟨u,g1,g2,g3⟩:=cellA i x hx j d hd;have hj:j<size:=by
    have:=(kA.lens x (by rw[hrA];exact mB hx)).1;rw[hrA]at this;have:=(mC.1 hd).1;dsimp only at *;omega
   obtain⟨u',f1,f2⟩:=e5 i _ (by rw[mM (by rw[Ki];exact hi)];exact WB hi) j (.ex (vZ.getD (i*size+j) undef)) (by rw[mG,nb hj];rfl);simp only[Ae]at f2;exact⟨u,by rw[f1,f2.1,g3],g2,by rw[mI hi];exact g1⟩
  ·rw[mu,mP (by simpa using hi),mO]at hx;have hib:i-la.length<lb.length:=by have:=(mC.1 hx).1;simpa using this
   obtain⟨u,g1,g2,g3⟩:=cellB (i-la.length) x hx j d hd;have hj:j<size:=by
    have:=(kB.lens x (by rw[hrB];exact mB hx)).1;rw[hrB]at this;have:=(mC.1 hd).1;dsimp only at *;omega
   obtain⟨u',f1,f2⟩:=e5 i _ (by rw[mP (by rw[Ki];omega),Ki];exact WB hib) j (.ex (va.getD ((i-la.length)*size+j) undef)) (by rw[mG,nb hj];rfl);simp only[Ae]at f2;exact⟨u,by rw[f1,f2.1,g3],g2,by rw[mJ hi];exact g1⟩
 have kC':Kf F w' os2 oC':=by
  refine⟨by have:=kA.pos;rw[hrA]at this;exact this,λx hx=>?_,λhb=>?_,λc hc=>?_,λb hb=>?_,?_⟩
  ·have hx:x∈la.map enc++lb.map enc:=by rw[<- mu];exact hx
   rcases my.1 hx with h|h
   ·have:=kA.lens x (by rw[hrA];exact h);rw[hrA]at this;exact this
   ·have:=kB.lens x (by rw[hrB];exact h);rw[hrB]at this;exact this
  ·obtain⟨g1,g2⟩:=kC.none hb;rw[hrC]at g1;dsimp only at g1;have:(la++lb).length=0:=by rw[<- hlen,g1];rfl
   refine⟨?_,g2⟩;show (la++lb).map enc=[]
   rw[mh this];rfl
  ·obtain⟨cur,e1,e2,e3,e4,e5⟩:=xA c hc;refine⟨λh=>(kC.some c hc).1 (he.OO c (.inl h)),cur,e1,e2,by show ((la++lb).map enc).length<=oC.cap;simpa using e3,e4,λi x hx j d hd=>?_⟩;obtain⟨u,g1,g2,_⟩:=e5 i x hx j d hd;exact⟨u,g1,rC _ _ g2⟩
  ·rcases hb with hb|hb
   ·exact⟨(kA.mo b hb).1,nL (kA.mo b hb).2.1 he.size,(zC b hb).2⟩
   ·exact⟨(kB.mo b hb).1,nL (kB.mo b hb).2.1 he.size,(zD b hb).2⟩
  ·obtain⟨DA,dA1,dA2,dA3⟩:=kA.deep;obtain⟨DB,dB1,dB2,dB3⟩:=kB.deep;refine⟨λi j b=>if i<la.length then DA i j b else DB (i-la.length) j b,λi j b hb=>?_,λi j i' j' b hb rZ=>?_,λc hc cur uL l rE i x j d s ys hx hd=>?_⟩
   ·dsimp only at hb;split at hb
    ·exact .inl (dA1 _ _ _ hb)
    ·exact .inr (dB1 _ _ _ hb)
   ·dsimp only at hb rZ;split at hb<;>split at rZ
    ·exact dA2 _ _ _ _ _ hb rZ
    ·exact absurd (.inr (dB1 _ _ _ rZ)) (sw vU hoB h1 (.inr (dA1 _ _ _ hb)))
    ·exact absurd (.inr (dB1 _ _ _ hb)) (sw vU hoB h1 (.inr (dA1 _ _ _ rZ)))
    ·obtain⟨g1,g2⟩:=dB2 _ _ _ _ _ hb rZ;exact⟨by omega,g2⟩
   ·obtain⟨sB,e1,e2,e3,e4,e5⟩:=xA c hc;have hcc:sB=cur:=by rw[e1]at rE;simpa using (by injection rE with h;injection h)
    subst hcc;obtain⟨u,g1,g2,g3⟩:=e5 i x hx j _ hd;refine⟨u,g1,?_⟩;by_cases hi:i<la.length
    ·rw[mI hi]at g3;have tR:(la.map enc)[i]?=some x:=by
      have hx:((la++lb).map enc)[i]?=some x:=hx;rwa [mu,mM (by simpa using hi)]at hx
     obtain⟨bA,hbA⟩ :∃bA,oA.DM=some bA:=by
      cases hb:oA.DM with
      | some b=>exact⟨b,rfl⟩
      | none=>have:=(kA.none hb).1;rw[hrA]at this;rw[show la.map enc=[] from this]at tR;simp at tR
     obtain⟨u',f1,f2⟩:=dA3 bA hbA vZ _ _ (heapA bA hbA) i x j d s ys (by rw[hrA];exact tR) hd;rw[hrA]at f1;rw[show vZ[i*size+j]?=some u' from f1]at g3;cases g3;have:=JX (S:=DA i j) (S':=DA i j) (λ_ h=>h) (λb hb=>(zC b (dA1 _ _ _ hb)).1) _ _ f2;simpa only[mI hi] using this
    ·rw[mJ hi]at g3;have tR:(lb.map enc)[i-la.length]?=some x:=by
      have hx:((la++lb).map enc)[i]?=some x:=hx;rwa [mu,mP (by simpa using hi),mO]at hx
     obtain⟨bB,hbB⟩ :∃bB,oB.DM=some bB:=by
      cases hb:oB.DM with
      | some b=>exact⟨b,rfl⟩
      | none=>have:=(kB.none hb).1;rw[hrB]at this;rw[show lb.map enc=[] from this]at tR;simp at tR
     obtain⟨u',f1,f2⟩:=dB3 bB hbB va _ _ (heapB bB hbB) (i-la.length) x j d s ys (by rw[hrB];exact tR) hd;rw[hrB]at f1;rw[show va[(i-la.length)*size+j]?=some u' from f1]at g3;cases g3;have:=JX (S:=DB (i-la.length) j) (S':=DB (i-la.length) j) (λ_ h=>h) (λb hb=>(zD b (dB1 _ _ _ hb)).1) _ _ f2;simpa only[mJ hi] using this
 have kgone:∀{i:Nat} {o:Own},os[i]?=some o->Kf F w' os2 o.gone:=λhi=>⟨(hr.rows _ _ hi).pos,by simp[Own.gone],by simp[Own.gone],by simp[Own.gone],λb hb=>hb.elim,Fv (by simp[Own.gone])⟩;have nog:∀{o:Own} {b:Nat},¬ o.gone.owns b:=λh=>by
  rcases h with h|h
  ·simp[Own.gone]at h
  ·exact h.elim
 have ownC:∀{i:Nat} {oi:Own} {b:Nat},os[i]?=some oi->i≠ia->i≠ib->i≠q->oi.owns b->¬ oC'.owns b:=λ{i oi b} hi e1 e2 e3 hb h=>by
  rcases h with h|h|h
  ·exact (keep hi hb (λh=>absurd h e3) (λh=>absurd h e1) (λh=>absurd h e2)).2 h
  ·exact sw hi vU e1 hb (.inr h)
  ·exact sw hi hoB e2 hb (.inr h)
 refine⟨_,_,((st.set ia ⟨gA+1,el,size,[]⟩).set ib ⟨gB+1,el,size,[]⟩).set q ⟨gQ+1,elQ,1,[]⟩++[⟨0,el,size,(la++lb).map enc⟩],F,os2,rfl,hk,⟨?_,λt=>rC _ _ (hr.env t),hr.size,λi o hi=>?_,λi j oi oj b hi hj sS sj=>?_,λb hb=>nL (hr.F6 b hb) he.size,hr.defers⟩,?_,⟨he.sys,he.tape,he.output,he.size,λ_ h=>h,H8,λb hb xG xL=>?_,λi o _ hi=>rq i o hi⟩⟩
 ·rw[wJ,mu,nt,nt,nt,hr.st];simp only[Own.gone,hrA,hrB,hrQ];rfl
 ·rcases yI i o hi with ⟨h,e1,e2,e3⟩|⟨o',h,rfl⟩|⟨_,rfl⟩
  ·have qu:=hr.rows i o h;have kp:=λb (hb:o.owns b)=>(keep h hb (λh=>absurd h e3) (λh=>absurd h e1) (λh=>absurd h e2)).1;refine⟨qu.pos,qu.lens,qu.none,λb hb=>?_,λb hb=>⟨(qu.mo b hb).1,nL (qu.mo b hb).2.1 he.size,(qu.mo b hb).2.2⟩,qu.deep.keep rfl (λ_ h=>h) rfl kp (λi x j e s ys hx hc=>⟨x,hx,hc⟩)⟩;obtain⟨f1,cur,f2,f3,f4,f5,f6⟩:=qu.some b hb;exact⟨f1,cur,by rw[kp b (.inl hb)];exact f2,f3,f4,f5,λi' x hx j c hc=>by obtain⟨u,g1,g2⟩:=f6 i' x hx j c hc;exact⟨u,g1,rC _ _ g2⟩⟩
  ·exact kgone h
  ·exact kC'
 ·rcases yI i oi hi with ⟨h,e1,e2,e3⟩|⟨o',h,rfl⟩|⟨rfl,rfl⟩<;>rcases yI j oj hj with ⟨h',xb,e2',e3'⟩|⟨o'',h',rfl⟩|⟨rfl,rfl⟩
  ·exact hr.inj i j oi oj b h h' sS sj
  ·exact absurd sj nog
  ·exact absurd sj (ownC h e1 e2 e3 sS)
  ·exact absurd sS nog
  ·exact absurd sS nog
  ·exact absurd sS nog
  ·exact absurd sS (ownC h' xb e2' e3' sj)
  ·exact absurd sj nog
  ·rfl
 ·rw[hr.len];have rD:os2[os.length]?=some oC':=by rw[wJ,mP (by simp)];simp
  simp only[Ae]at hv⊢;obtain⟨o1,xg,_,hv1,hv⟩:=hv;simp only[me,mE]at xg;subst xg;obtain⟨_,hv⟩:=hv (by rw[hrC]);rw[hrC,hlen]at hv;dsimp only at hv;try rw[hlen]at hv
  refine⟨oC',rD,mS _,hv1,λ_=>⟨by show _<=((la++lb).map enc).length;simp,?_⟩⟩;have wy:((la++lb).map enc).length=(la++lb).length:=by simp
  show (oC.DM=none/\_)∨∃b,oC.DM=some b/\v=.slice (some ⟨b,(((la++lb).map enc).length-(la++lb).length)*size,none⟩) (la++lb).length (oC.cap-(((la++lb).map enc).length-(la++lb).length));rw[wy];exact hv
 ·have zU:¬ F2 b:=λh=>by
   rcases h with h|rfl|h|h
   ·exact xG h
   ·exact xL oQ (mB hoQ) (.inl hbq)
   ·exact xL oA (mB vU) (.inl h)
   ·exact xL oB (mB hoB) (.inl h)
  obtain⟨f1,_,f3⟩:=he.other b hb zU (by simp);refine⟨f1,xG,λo ho uO=>?_⟩;obtain⟨i,hi⟩:=ma.1 ho;rcases yI i o hi with ⟨h,_⟩|⟨o',h,rfl⟩|⟨_,rfl⟩
  ·exact xL o (mB h) uO
  ·exact nog uO
  ·rcases uO with h|h|h
   ·exact f3 oC (by simp) (.inl h)
   ·exact xL oA (mB vU) (.inr h)
   ·exact xL oB (mB hoB) (.inr h)
def jT (P:Program)(f:FuncId)(el:TypeId)(size i j:Nat):Prop:=
 ∀xs ys:List (List AV),xs.length=i->ys.length=j->(∀z∈xs,XQ size z)->(∀z∈ys,XQ size z)->AS P f [.sl [[.sl xs],[.sl ys]]] [] λv s=>v=.own 0 0 (xs++ys).length/\s=[⟨0,el,size,xs++ys⟩]
theorem hY {lr:List α}{m:Nat}(hg:GO ds gd e)(hb:Er P f=true)(hX:jT P f el size la.length lb.length/\lr=la++lb)(hx:St.ev ⟨n,e,st⟩ x=.own q gQ 2)
  (hq:st[q]?=some ⟨gQ,elQ,1,[[.own ia gA la.length],[.own ib gB lb.length]]⟩) (hA:st[ia]?=some ⟨gA,el,size,la.map enc⟩) (hB:st[ib]?=some ⟨gB,el,size,lb.map enc⟩) (h1:ia≠ib) (h2:ia≠q) (h3:ib≠q) (hm:st.length=m)
  (rH:((st.set ia ⟨gA+1,el,size,[]⟩).set ib ⟨gB+1,el,size,[]⟩).set q ⟨gQ+1,elQ,1,[]⟩++[⟨0,el,size,lr.map enc⟩]=st')
  (hk:AO P k ops Q (ds++[some t]) r ⟨n,FY e t (.own m 0 lr.length),st'⟩):AO P k ops Q ds (⟨some t,.call ⟨.value (.func f),#[x],ts⟩,ty,ps,ed,gd⟩::r) ⟨n,e,st⟩:=by
 obtain⟨hX,rfl⟩:=hX;subst hm;subst rH;refine Mf hg ?_;rw[L4];refine⟨hb,?_⟩;show callThen P k ⟨n,e,st⟩ f [St.ev ⟨n,e,st⟩ x] (some t) _;rw[hx];exact Ww hX hq hA hB h1 h2 h3 hk
end
end Go.Abs
