import Derived.Test.YtihdgoiebmfapaaGreatAbsT
namespace Go.Abs
open Go
variable {P : Program} {F : Nat -> Prop} {os : List Own} {s : St} {a : Act} {w : World} {k : Nat}
def pos (sel:List Nat)(N p:Nat):Nat:=match sel[p]? with|some j=>j|none=>p-sel.length+N
def P6 (sel:List Nat)(N:Nat):AV->AV
 | .own id g n=>.own (pos sel N id) g n
 | .ptr id g i off=>.ptr (pos sel N id) g i off
 | .fn ..|.agg _|.Dd _=>.E7
 | v=>v
def NN (sel:List Nat)(N:Nat)(x:AV):AV:=two (P6 sel N) x
theorem gK {sel:List Nat}{N:Nat}{c:AV}{el s:Nat}{ys:List (List AV)}(h:NN sel N c=.dv el s ys):c=.dv el s ys:=by
 refine SM (X:=P6 sel N) (λc h=>?_) h;cases c<;>simp only[P6]at h<;>first|exact h|cases h
def TY (sel:List Nat)(N:Nat):AV->AV
 | .fn f cs=>.fn f (cs.map (NN sel N))
 | .agg cs=>.agg (cs.map (NN sel N))
 | .Dd cs=>.Dd (cs.map (NN sel N))
 | v=>NN sel N v
def Iz (sel:List Nat)(N:Nat)(row:Row):Row:={ row with xs:=row.xs.map (·.map (NN sel N)) }
def GB (sel:List Nat)(rs:List Row):Nat->List Row->List Row
 | _,[]=>[]
 | i,row::st=>(match idx sel i with|some p=>(match rs[p]? with|some r=>r|none=>row)|none=>row)::GB sel rs (i+1) st
theorem MK {sel:List Nat}{rs:List Row}:∀(st:List Row) (i j:Nat),(GB sel rs i st)[j]?=(st[j]?).map λrow=>match idx sel (i+j) with|some p=>(match rs[p]? with|some r=>r|none=>row)|none=>row
 | [],i,j=>by simp[GB]
 | row::st,i,0=>by simp[GB]
 | row::st,i,j+1=>by
  simp only[GB,mQ];rw[MK st (i+1) j,show i+1+j=i+(j+1) by omega]
theorem J6 {sel:List Nat}{rs:List Row}:∀(st:List Row) (i:Nat),(GB sel rs i st).length=st.length
 | [],_=>rfl
 | _::st,i=>by simp[GB,J6 st (i+1)]
theorem OT {sel:List Nat}{id j:Nat}(h:idx sel id=some j):sel[j]?=some id:=by
 unfold idx at h;rw[nh]at h;obtain⟨h1,h2,_⟩:=h;rw[lZ h1];simpa using h2
theorem Yd {sel:List Nat}(sA:sel.Nodup){id j:Nat}(h:sel[j]?=some id):idx sel id=some j:=by
 unfold idx;obtain⟨h1,h2⟩:=lV.1 h;rw[nh];refine⟨h1,by simp[h2],λi hi=>?_⟩;have:=oS.1 sA i j (by omega) h1 hi;simp only[beq_iff_eq,ne_eq,pX,beq_eq_false_iff_ne];rw[<- h2];exact this
theorem eF {sel:List Nat}{id:Nat}(h:idx sel id=none):id ∉ sel:=by
 unfold idx at h;rw[List.findIdx?_eq_none_iff]at h;intro hm;simpa using h id hm
def Ve (rows0 rows1:List Row):Prop:=∀(j:Nat) r0 r1,rows0[j]?=some r0->rows1[j]?=some r1->r1.gen=r0.gen->r1.xs.length=r0.xs.length
theorem LO {f:FuncId}{args rH:List AV}{d:Option Tmp}{K:St->Prop}{rows0 rows1 rows2:List Row}{v:AV}(sel:List Nat)(h:Ab P f rH rows0 λr st=>r=v/\st=rows1++rows2)
  (sA:sel.Nodup) (qu :∀i∈sel,i<s.st.length) (hs:(Cb s.st sel).map (Cm sel)=rows0) (xW:Ix rows0) (tx:args.map (KV sel)=rH) (hlen:rows1.length=sel.length) (hL :∀row∈rows1++rows2,∀x∈row.xs,∀c∈x,c.kept=true->(NN sel s.st.length c).kept=true)
  (hK:Ve rows0 rows1->K ({ s with st:=GB sel (rows1.map (Iz sel s.st.length)) 0 s.st++rows2.map (Iz sel s.st.length) }.put d (TY sel s.st.length v))):callThen P k s f args d K:=by
 intro F os a w vs hr hl;subst hs;have hN:s.st.length=os.length:=hr.len;have tS:∀(j id:Nat),sel[j]?=some id->(sel.filterMap (os[·]?))[j]?=os[id]?:=by
  have :∀(l:List Nat),(∀i∈l,i<os.length)->∀(j id:Nat),l[j]?=some id->(l.filterMap (os[·]?))[j]?=os[id]?:=λl=>by
   induction l with
   | nil=>intro _ j id h;simp at h
   | cons i l ih=>
    intro hl j id h;have hi:=hl i (by simp);rw[nX,lZ hi];cases j with
    | zero=>simp only[mI,lX]at h;subst h;simp[lZ hi]
    | succ j=>simp only[mQ]at h⊢;exact ih (λx hx=>hl x (by simp[hx])) j id h
  exact this sel (λi hi=>by rw[<- hN];exact qu i hi)
 let so:Own->Own:=λo=>{ o with row:=Cm sel o.row }
 let vK:=(sel.filterMap (os[·]?)).map so
 have wP:(sel.filterMap (os[·]?)).length=sel.length:=by
  have :∀(l:List Nat),(∀i∈l,i<os.length)->(l.filterMap (os[·]?)).length=l.length:=λl=>by
   induction l with
   | nil=>simp
   | cons i l ih=>intro hl;rw[nX,lZ (hl i (by simp))];simp[ih (λx hx=>hl x (by simp[hx]))]
  exact this sel (λi hi=>by rw[<- hN];exact qu i hi)
 have qg:∀(j:Nat) (o:Own),vK[j]?=some o->∃id o0,sel[j]?=some id/\os[id]?=some o0/\o=so o0:=λj o h=>by
  simp only[vK,lW,lg]at h;obtain⟨o0,h0,rfl⟩:=h;have hj:j<sel.length:=by rw[<- wP];exact (lV.1 h0).1
  refine⟨sel[j],o0,lZ hj,?_,rfl⟩;rw[<- tS j _ (lZ hj)];exact h0
 have vv:∀id j,idx sel id=some j->vK[j]?=(os[id]?).map so:=λid j hj=>by
  simp only[vK,lW];rw[tS j id (OT hj)]
 have wx:∀x v,Ae F w os x v->Ae F w vK (Il sel x) v:=λx v h=>by
  cases x with
  | own id g n=>
   simp only[Il];split
   ·rename_i j hj;simp only[Ae]at h⊢;obtain⟨o,h1,h2,h3,h4⟩:=h;exact⟨so o,by rw[vv id j hj,h1];rfl,h2,h3,λhg=>by
     obtain⟨a1,a2⟩:=h4 hg;exact⟨by simpa [so,Cm] using a1,by simpa [so,Cm] using a2⟩⟩
   ·simp[Ae]
  | ptr id g i off=>
   simp only[Il];split
   ·rename_i j hj;simp only[Ae]at h⊢;obtain⟨o,h1,h2,h3,h4⟩:=h;exact⟨so o,by rw[vv id j hj,h1];rfl,h2,h3,λhg=>by
     obtain⟨a1,a2,a3⟩:=h4 hg;exact⟨by simpa [so,Cm] using a1,a2,a3⟩⟩
   ·simp[Ae]
  | fn f cs=>simp[Il,Ae]
  | agg cs=>simp[Il,Ae]
  | Dd cs=>simp[Il,Ae]
  | _=>simp only[Il,Ae]at h⊢<;>exact h
 have tT:∀x v,Ae F w os x v->Ae F w vK (Kq sel x) v:=LR wx;have tU:∀cs us,Bs F w os cs us->Bs F w vK (cs.map (Kq sel)) us:=λcs us h=>
  Da (by simp[BZ h]) λi x u hx hu=>by
   simp only[lW,lg]at hx;obtain⟨y,hy,rfl⟩:=hx;obtain⟨u',sI,ru⟩:=CO h i y hy;rw[sI]at hu;cases hu;exact tT _ _ ru
 have zL:∀x v,Ae F w os x v->Ae F w vK (KV sel x) v:=λx v h=>by
  cases x with
  | fn f cs=>simp only[KV,Ae]at h⊢;obtain⟨us,e,hl⟩:=h;exact⟨us,e,tU _ _ hl⟩
  | agg cs=>simp only[KV,Ae]at h⊢;obtain⟨us,e,hl⟩:=h;exact⟨us,e,tU _ _ hl⟩
  | Dd cs=>simp only[KV,Ae]at h⊢;obtain⟨us,e,hl⟩:=h;exact⟨us,e,tU _ _ hl⟩
  | _=>exact tT _ _ h
 have vS:vK.map Own.row=(Cb s.st sel).map (Cm sel):=by
  have h0:os.map Own.row=s.st:=hr.st;simp only[vK,nU,Cb];rw[<- h0];have hco:Own.row∘so=Cm sel∘Own.row:=rfl;rw[hco,<- nU,pL];congr 1;simp[pQ]
 have hSO:G6 F vK ((Cb s.st sel).map (Cm sel)) w:=by
  refine⟨vS,λj o ho=>?_,λi j oi oj b hi hj sK sL=>?_,hr.FR⟩
  ·obtain⟨id,o0,tM,ho0,rfl⟩:=qg j o ho;have qd:=hr.rows id o0 ho0;have hm:Cm sel o0.row∈(Cb s.st sel).map (Cm sel):=by
    rw[<- vS];exact mA.2 ⟨so o0,lT ho,rfl⟩
   refine⟨qd.pos,λx hx=>⟨?_,xW _ hm x hx⟩,λhb=>?_,λb hb=>?_,qd.mo,qd.deep.mapped (Kq sel) (λ_ _ _ _ h=>ZS h) rfl rfl rfl rfl⟩
   ·simp only[so,Cm,mA]at hx;obtain⟨y,hy,rfl⟩:=hx;simpa [so,Cm] using (qd.lens y hy).1
   ·obtain⟨h1,h2⟩:=qd.none hb;exact⟨by simp[so,Cm,h1],h2⟩
   ·obtain⟨h1,cur,h2,h3,h4,h5,h6⟩:=qd.some b hb;refine⟨h1,cur,h2,h3,by simpa [so,Cm] using h4,h5,λi x hx j' c hc=>?_⟩;simp only[so,Cm,lW,lg]at hx;obtain⟨y,hy,rfl⟩:=hx;simp only[lW,lg]at hc;obtain⟨c0,sX,rfl⟩:=hc;obtain⟨u,e1,e2⟩:=h6 i y hy j' c0 sX;exact⟨u,e1,tT _ _ e2⟩
  ·obtain⟨id,o0,tM,ho0,rfl⟩:=qg i oi hi;obtain⟨rL,o0',hid',ho0',rfl⟩:=qg j oj hj;have he:=hr.inj id rL o0 o0' b ho0 ho0' sK sL;subst he;have h1:=Yd sA tM;rw[Yd sA hid']at h1;exact (nT h1).symm
 have hlA:Bs F w vK rH vs:=by
  subst tx;exact Da (by simp[BZ hl]) λi x u hx hu=>by
   simp only[lW,lg]at hx;obtain⟨y,hy,rfl⟩:=hx;obtain⟨u',sI,ru⟩:=CO hl i y hy;rw[sI]at hu;cases hu;exact zL _ _ ru
 refine (h F vK w vs hSO hlA).mono ?_;rintro e w' ⟨u,r,st',F',os',rfl,⟨rfl,rfl⟩,uf,hru,he⟩;have vG:os'.length=sel.length+rows2.length:=by
  have:=mc List.length uf.st;rw[ly,mD]at this;omega
 have hpl:((Cb s.st sel).map (Cm sel)).length=sel.length:=by
  rw[<- vS];simp[vK,wP]
 let N:=s.st.length
 let un:Own->Own:=λo=>{ o with row:=Iz sel N o.row }
 let f2:Nat->Own->Own:=λi o=>match idx sel i with|some p=>(match os'[p]? with|some o'=>un o'|none=>o)|none=>o
 let os2:=os.mapIdx f2++(os'.drop sel.length).map un
 have hNl:(os.mapIdx f2).length=N:=by simp[N,hN]
 have hgL:∀i,i<N->os2[i]?=(os[i]?).map (f2 i):=λi hi=>by
  simp only[os2];rw[lj (by omega),pC]
 have hgP:∀p o',os'[p]?=some o'->os2[pos sel N p]?=some (un o'):=λp o' rF=>by
  unfold pos;split
  ·rename_i j hj;have hjN:j<N:=qu j (lT hj);rw[hgL j hjN,lZ (by omega)];simp only[mZ,f2,Yd sA hj,rF]
  ·rename_i hn;have hp:sel.length<=p:=nz.1 hn;simp only[os2];rw[ln (by omega),hNl,lW,mU,show sel.length+(p-sel.length+N-N)=p by omega,rF];rfl
 have hgO:∀i,i<N->idx sel i=none->os2[i]?=os[i]?:=λi hi hx=>by
  rw[hgL i hi];have:f2 i=id:=by funext o;simp[f2,hx]
  rw[this,Option.map_id];rfl
 have vk:∀i o,os2[i]?=some o->(∃p o',os'[p]?=some o'/\o=un o'/\i=pos sel N p)∨(i<N/\idx sel i=none/\os[i]?=some o):=λi o ho=>by
  rcases nb i N with hi|hi
  ·rcases hx:idx sel i with _|p
   ·exact .inr ⟨hi,rfl,by rw[<- hgO i hi hx];exact ho⟩
   ·have hp:=OT hx;have hpl2:p<os'.length:=by have:=(lV.1 hp).1;omega
    have h1:=hgP p _ (lZ hpl2);have h2:pos sel N p=i:=by unfold pos;rw[hp]
    rw[h2,ho]at h1;exact .inl ⟨p,_,lZ hpl2,nT h1,h2.symm⟩
  ·have vJ:=ho;simp only[os2]at vJ;rw[ln (by omega),hNl,lW,lg]at vJ;obtain⟨o',h1,h2⟩:=vJ;rw[mU]at h1;refine .inl ⟨_,o',h1,h2.symm,?_⟩;unfold pos;rw[nz.2 (by omega)];simp only;omega
 have yc:FN os os2:=λi o ho=>by
  have hiN:i<N:=by have:=(lV.1 ho).1;omega
  rcases hx:idx sel i with _|p
  ·exact⟨o,by rw[hgO i hiN hx];exact ho,ll _,rfl,λ_=>⟨rfl,rfl,rfl⟩⟩
  ·have hp:=OT hx;have h1:vK[p]?=some (so o):=by rw[vv i p hx,ho];rfl
   obtain⟨o',rF,e1,e2,e3⟩:=he.UO p (so o) (by rw[hpl];exact (lV.1 hp).1) h1;refine⟨un o',?_,e1,e2,λhg=>?_⟩
   ·have:=hgP p o' rF;unfold pos at this;rw[hp]at this;exact this
   ·obtain⟨g1,g2,g3⟩:=e3 hg;exact⟨g1,g2,by simpa [so,un,Cm,Iz] using g3⟩
 have qi:∀x v,Ae F w os x v->Ae F' w' os2 x v:=λx v h=>DW he.NS he.IU os _ yc x v h;have hun0:∀x v,Ae F' w' os' x v->Ae F' w' os2 (P6 sel N x) v:=λx v h=>by
  cases x with
  | own id g n=>
   simp only[P6,Ae]at h⊢;obtain⟨o,h1,h2,h3,h4⟩:=h;exact⟨un o,hgP _ _ h1,h2,h3,λhg=>by
    obtain⟨a1,a2⟩:=h4 hg;exact⟨by simpa [un,Iz] using a1,by simpa [un,Iz] using a2⟩⟩
  | ptr id g i off=>
   simp only[P6,Ae]at h⊢;obtain⟨o,h1,h2,h3,h4⟩:=h;exact⟨un o,hgP _ _ h1,h2,h3,λhg=>by
    obtain⟨a1,a2,a3⟩:=h4 hg;exact⟨by simpa [un,Iz] using a1,a2,a3⟩⟩
  | fn f cs=>simp[P6,Ae]
  | agg cs=>simp[P6,Ae]
  | Dd cs=>simp[P6,Ae]
  | _=>simp only[P6,Ae]at h⊢<;>exact h
 have zN:∀x v,Ae F' w' os' x v->Ae F' w' os2 (NN sel N x) v:=LR hun0;have zO:∀cs us,Bs F' w' os' cs us->Bs F' w' os2 (cs.map (NN sel N)) us:=λcs us h=>
  Da (by simp[BZ h]) λi x u hx hu=>by
   simp only[lW,lg]at hx;obtain⟨y,hy,rfl⟩:=hx;obtain⟨u',sI,ru⟩:=CO h i y hy;rw[sI]at hu;cases hu;exact zN _ _ ru
 have hunr:∀x v,Ae F' w' os' x v->Ae F' w' os2 (TY sel N x) v:=λx v h=>by
  cases x with
  | fn f cs=>simp only[TY,Ae]at h⊢;obtain⟨us,e,hl⟩:=h;exact⟨us,e,zO _ _ hl⟩
  | agg cs=>simp only[TY,Ae]at h⊢;obtain⟨us,e,hl⟩:=h;exact⟨us,e,zO _ _ hl⟩
  | Dd cs=>simp only[TY,Ae]at h⊢;obtain⟨us,e,hl⟩:=h;exact⟨us,e,zO _ _ hl⟩
  | _=>exact zN _ _ h
 have hB:∀(i:Nat) (o:Own),idx sel i=none->os[i]?=some o->∀b,o.owns b->w'.heap[b]?=w.heap[b]?/\¬ F' b/\∀o1:Own,o1∈os'->¬ o1.owns b:=λi o hx ho b hb=>by
  refine he.other b ((hr.rows _ o ho).lt hb) ((hr.rows _ o ho).nF hb) λoA hoA e=>?_;obtain⟨j,hj⟩:=lv.1 hoA;obtain⟨id,o0,tM,ho0,rfl⟩:=qg j oA hj;have:=hr.inj id i o0 o b ho0 ho e hb;subst this;exact eF hx (lT tM)
 have ry:os2.map Own.row=GB sel (rows1.map (Iz sel N)) 0 s.st++rows2.map (Iz sel N):=by
  simp only[os2,nI];have qx:os'.map Own.row=rows1++rows2:=uf.st;congr 1
  ·apply nO;intro i;rw[lW,pC,MK,ml];have h0:os.map Own.row=s.st:=hr.st;rw[<- h0,lW];cases tE:os[i]? with
   | none=>rfl
   | some o=>
    simp only[mZ,f2];cases hx:idx sel i with
    | none=>rfl
    | some p=>
     have hpm:p<sel.length:=(lV.1 (OT hx)).1;have wK:p<os'.length:=by omega
     have h3:(os'.map Own.row)[p]?=rows1[p]?:=by rw[qx,lj (by omega)]
     rw[lW,lZ wK]at h3;simp only[lW,lZ wK,<- h3,mZ,un]
  ·rw[nU];have hco:Own.row∘un=Iz sel N∘Own.row:=rfl;rw[hco,<- nU,List.map_drop,qx];simp[<- hlen]
 have hkept:Ve ((Cb s.st sel).map (Cm sel)) rows1:=λj r0 r1 h0 h1 hg=>by
  have hj:j<((Cb s.st sel).map (Cm sel)).length:=(lV.1 h0).1;rw[<- vS,lW,lg]at h0;obtain⟨oA,hoA,rfl⟩:=h0;obtain⟨o',rF,_,_,e3⟩:=he.UO j oA hj hoA;have sT:os'.map Own.row=rows1++rows2:=uf.st;have h2:(rows1++rows2)[j]?=some o'.row:=by rw[<- sT,lW,rF];rfl
  rw[lj (lV.1 h1).1,h1]at h2;cases h2;exact (e3 hg).2.2
 refine⟨u,_,_,F',os2,rfl,hK hkept,⟨ry,λt=>qi _ _ (hr.env t),hr.size,λi o ho=>?_,λi j oi oj b hi hj sK sL=>?_,uf.FR,hr.defers⟩,hunr _ _ hru,⟨he.sys,he.tape,he.output,he.size,he.NS,he.IU,λb hb h1 h2=>?_,λi o hi ho=>yc i o ho⟩⟩
 ·rcases vk i o ho with ⟨p,o',hp,rfl,rfl⟩|⟨h1,h2,vJ⟩
  ·have qd:=uf.rows p o' hp;refine⟨qd.pos,λx hx=>?_,λhb=>?_,λb hb=>?_,qd.mo,qd.deep.mapped (NN sel N) (λ_ _ _ _ h=>gK h) rfl rfl rfl rfl⟩
   ·simp only[un,Iz,mA]at hx;obtain⟨y,hy,rfl⟩:=hx;obtain⟨g1,g2⟩:=qd.lens y hy;refine⟨by simpa [un,Iz] using g1,λc hc=>?_⟩;obtain⟨c0,sX,rfl⟩:=mA.1 hc;have hmem:o'.row∈rows1++rows2:=by rw[<- uf.st];exact mA.2 ⟨o',lT hp,rfl⟩
    exact hL _ hmem y hy c0 sX (g2 c0 sX)
   ·obtain⟨h1,h2⟩:=qd.none hb;exact⟨by simp[un,Iz,h1],h2⟩
   ·obtain⟨e1,cur,e2,e3,e4,e5,e6⟩:=qd.some b hb;refine⟨e1,cur,e2,e3,by simpa [un,Iz] using e4,e5,λi' x hx q c hc=>?_⟩;simp only[un,Iz,lW,lg]at hx;obtain⟨y,hy,rfl⟩:=hx;simp only[lW,lg]at hc;obtain⟨c0,sX,rfl⟩:=hc;obtain⟨u',f1,f2⟩:=e6 i' y hy q c0 sX;exact⟨u',f1,zN _ _ f2⟩
  ·have qd:=hr.rows _ o vJ;refine⟨qd.pos,qd.lens,qd.none,λb hb=>?_,λb hb=>⟨(hB _ o h2 vJ b (.inr hb)).2.1,ma (qd.mo b hb).2.1 he.size,(qd.mo b hb).2.2⟩,
    qd.deep.keep rfl (λ_ h=>h) rfl (λb hb=>(hB _ o h2 vJ b hb).1) (λi x j e s ys hx hc=>⟨x,hx,hc⟩)⟩
   obtain⟨e1,cur,e2,e3,e4,e5,e6⟩:=qd.some b hb;obtain⟨g1,g2,_⟩:=hB _ o h2 vJ b (.inl hb);refine⟨g2,cur,by rw[g1];exact e2,e3,e4,e5,λi' x hx j c hc=>?_⟩;obtain⟨u',f1,f2⟩:=e6 i' x hx j c hc;exact⟨u',f1,qi _ _ f2⟩
 ·rcases vk i oi hi with ⟨p,o',hp,rfl,rfl⟩|⟨h1,h2,xZ⟩<;>rcases vk j oj hj with ⟨p2,o2',hp2,rfl,rfl⟩|⟨h3,h4,vP⟩
  ·have:=uf.inj p p2 o' o2' b hp hp2 sK sL;rw[this]
  ·exact absurd sK ((hB _ oj h4 vP b sL).2.2 o' (lT hp))
  ·exact absurd sL ((hB _ oi h2 xZ b sK).2.2 o2' (lT hp2))
  ·exact hr.inj i j oi oj b xZ vP sK sL
 ·have h3:∀o∈vK,¬ o.owns b:=λo ho=>by
   obtain⟨j,hj⟩:=lv.1 ho;obtain⟨id,o0,tM,ho0,rfl⟩:=qg j o hj;exact h2 o0 (lT ho0)
  obtain⟨g1,g2,g3⟩:=he.other b hb h1 h3;refine⟨g1,g2,λo ho=>?_⟩;obtain⟨i,hi⟩:=lv.1 ho;rcases vk i o hi with ⟨p,o',hp,rfl,rfl⟩|⟨_,_,vJ⟩
  ·exact g3 o' (lT hp)
  ·exact h2 o (lT vJ)
inductive UN (sel:List Nat) (N:Nat):List Row->List Row->Prop
 | nil:UN sel N [] []
 | deep {g size:Nat} {el:TypeId} {xs:List (List AV)} {r r':List Row} (hp:DG xs) (hl:UN sel N r r'):UN sel N (⟨g,el,size,xs⟩::r) (⟨g,el,size,xs⟩::r')
 | raw {g size:Nat} {el:TypeId} {cs cs':List AV} {r r':List Row} (hc:cs.map (NN sel N)=cs') (hp:cs'.all AV.leaf=true) (hl:UN sel N r r'):UN sel N (⟨g,el,size,[cs]⟩::r) (⟨g,el,size,[cs']⟩::r')
theorem UN.pure {sel:List Nat}{N g size:Nat}{el:TypeId}{xs:List (List AV)}{r r':List Row}(hp:EN xs)(hl:UN sel N r r'):UN sel N (⟨g,el,size,xs⟩::r) (⟨g,el,size,xs⟩::r'):=.deep hp.any hl
theorem RI {sel:List Nat}{N:Nat}{c:AV}(h:Ee c=true):NN sel N c=c:=by cases c<;>simp[Ee,simple,NN,two,P6]at h⊢
theorem UN.leaf {sel:List Nat}{N:Nat}:∀{l l':List Row},UN sel N l l'->∀row∈l,∀x∈row.xs,∀c∈x,c.kept=true->(NN sel N c).kept=true
 | _,_,.nil,_,h=>by cases h
 | _,_,.deep hp hl,row,hm=>by
  rcases lk.1 hm with rfl|hm
  ·intro x hx c hc h;rw[RI (hp x hx c hc)];exact h
  ·exact UN.leaf hl row hm
 | _,_,.raw hc hp hl,row,hm=>by
  rcases lk.1 hm with rfl|hm
  ·intro x hx c wQ _;simp only[lu]at hx;subst hx;exact D4 (lh.1 hp _ (by rw[<- hc];exact mA.2 ⟨c,wQ,rfl⟩))
  ·exact UN.leaf hl row hm
theorem UN.spec {sel:List Nat}{N:Nat}:∀{l l':List Row},UN sel N l l'->l.map (Iz sel N)=l'
 | _,_,.nil=>rfl
 | _,_,.deep hp hl=>by
  simp only[mF,UN.spec hl];congr 1;simp only[Iz];congr 1;refine (mH (g:=id) λx hx=>?_).trans (nH _);refine (mH (g:=id) λc hc=>?_).trans (nH _);exact RI (hp x hx c hc)
 | _,_,.raw hc _ hl=>by simp only[mF,UN.spec hl,Iz,nV,hc]
theorem Kk {f:FuncId}{args:List AV}{d:Option Tmp}{K:St->Prop}(h:(∀row∈s.st,∀x∈row.xs,∀c∈x,c.kept=true)->callThen P k s f args d K):callThen P k s f args d K:=
 λF os a w vs hr hl=>h (N6 hr) F os a w vs hr hl
section
variable {ops : Array Oper} {Q : Exit -> St -> Prop} {ds : List (Option Tmp)} {r : List Oper} {n : Nat} {e : Nat -> AV} {st st' : List Row} {ty : TypeId} {ps : String} {ed : Array Edge} {d : Option Tmp} {v v' : AV} {gd : Option (Nat × Bool)}
variable {f : FuncId} {rf : Array Operand} {ts : Array TypeId} {args rH : List AV} {rowsP rows0 rows1 rows1' rows2 rows2' : List Row}
theorem RK (sel:List Nat)(hg:GO ds gd e)(hb:Dp P f=true)(hc:Ab P f rH rows0 λr st=>r=v/\st=rows1++rows2)(ha:rf.toList.map (St.ev ⟨n,e,st⟩)++[]=args)(sA:sel.Nodup)(qu:sel.all (·<st.length)=true)
  (hp:Cb st sel=rowsP) (hs:SR sel rowsP rows0) (hf:args.map (KV sel)=rH) (hlen:rows1.length=sel.length) (h1:UN sel st.length rows1 rows1') (h2:UN sel st.length rows2 rows2') (hv:TY sel st.length v=v') (sT:GB sel rows1' 0 st++rows2'=st')
  (hk:Ve rows0 rows1->AO P k ops Q (ds++[d]) r (St.put ⟨n,e,st'⟩ d v')):AO P k ops Q ds (⟨d,.call ⟨.value (.func f),rf,ts⟩,ty,ps,ed,gd⟩::r) ⟨n,e,st⟩:=by
 subst sT;subst ha;subst hv;subst hp;refine My hg ?_;rw[Nj];refine⟨hb,Kk λhle=>?_⟩;obtain⟨e1,e2⟩:=hs.spec (st0:=st) hle (λrow qa=>by
  obtain⟨i,_,hi⟩:=mu.1 qa;exact lT hi)
 refine LO sel hc sA (λi hi=>by simpa using lh.1 qu i hi) e1 e2 hf hlen (λrow qa=>by
  rcases lz.1 qa with h|h
  ·exact h1.leaf row h
  ·exact h2.leaf row h) λyY=>?_
 simp only[h1.spec,h2.spec];exact hk yY
theorem GF (sel:List Nat)(hg:GO ds gd e)(hb:Dp P f=true)(hc:Ab P f rH rows0 λr st=>r=v/\st=rows1++rows2)(ha:rf.toList.map (St.ev ⟨n,e,st⟩)++[]=args)(sA:sel.Nodup)(qu:sel.all (·<st.length)=true)
  (hp:Cb st sel=rowsP) (hs:SR sel rowsP rows0) (hf:args.map (KV sel)=rH) (hlen:rows1.length=sel.length) (h1:UN sel st.length rows1 rows1') (h2:UN sel st.length rows2 rows2') (hv:TY sel st.length v=v') (sT:GB sel rows1' 0 st++rows2'=st')
  (hk:AO P k ops Q (ds++[d]) r (St.put ⟨n,e,st'⟩ d v')):AO P k ops Q ds (⟨d,.call ⟨.value (.func f),rf,ts⟩,ty,ps,ed,gd⟩::r) ⟨n,e,st⟩:=
 RK sel hg hb hc ha sA qu hp hs hf hlen h1 h2 hv sT λ_=>hk
end
theorem Lf {k n:Nat}{e:Nat->AV}{st st1 st':List Row}{L:List (Nat×AV)}(sel:List Nat)(hk:sel.take k=List.range k)(sA:sel.Nodup)(qu:sel.all (·<st.length)=true)(hp:Cb st sel=st1)(hs:SR sel st1 st')(h:ME (λt=>KV sel (e t)) L):
  Wk k ⟨n,e,st⟩ ⟨n,Aa L,st'⟩:=λF os a w hr=>by
 have hle:=N6 hr;obtain⟨h1,h2⟩:=hs.spec (st0:=st) hle (λrow qa=>by
  rw[<- hp]at qa;obtain⟨i,_,hi⟩:=mu.1 qa;exact lT hi)
 exact We sel hk sA qu (by rw[hp];exact h1) h2 h F os a w hr
theorem Bq {k n:Nat}{e:Nat->AV}{st st1 st':List Row}{L:List (Nat×AV)}(sel:List Nat)(hk:sel.take k=List.range k)(_:SR sel (st.take k) (st.take k))(sA:sel.Nodup)(qu:sel.all (·<st.length)=true)(hp:Cb st sel=st1)(hs:SR sel st1 st')(h:ME (λt=>KV sel (e t)) L):
  Wk k ⟨n,e,st⟩ ⟨n,Aa L,st'⟩:=Lf sel hk sA qu hp hs h
theorem Ab.wk {P:Program}{f:FuncId}{args:List AV}{rows st0 st1:List Row}{r0 r1:AV}(h:Ab P f args rows λr st=>r=r0/\st=st0)(hw:Wk rows.length ⟨1,Aa [(0,r0)],st0⟩ ⟨1,Aa [(0,r1)],st1⟩):
  Ab P f args rows λr st=>r=r1/\st=st1:=by
 intro F os w vs hs hl;refine (h F os w vs hs hl).mono ?_;rintro e w' ⟨v,r,st',F',os',rfl,⟨rfl,rfl⟩,h1,h2,h3⟩;have rE:Rel F' os' ⟨1,Aa [(0,r)],st'⟩ { tmps:=#[v],defers:=[] } w':=by
  refine⟨h1.st,λt=>?_,rfl,h1.rows,h1.inj,h1.FR,rfl⟩;simp only[Aa];split
  ·rename_i ht;subst ht;exact h2
  ·simp[Ae]
 obtain⟨F2,os2,h4,h5⟩:=hw F' os' _ w' rE;refine⟨v,r1,st1,F2,os2,rfl,⟨rfl,rfl⟩,⟨h4.st,h4.rows,h4.inj,h4.FR⟩,?_,h3.trans h5⟩;have:=h4.env 0;simpa [Aa] using this
theorem le.Hd {α:Type}{id g m:Nat}{l:List α}{enc:α->List AV}(h:m=l.length):le (Abs.Hd id g (l.map enc) (.own id g m)) (.sl (l.map enc)):=le.of (bD h)
theorem Rel.bare {F:Nat->Prop}{os:List Own}{s:St}{a:Act}{w:World}(hr:Rel F os s a w):Rel F [] ⟨s.n,λ_=>.E7,[]⟩ a w:=
 ⟨rfl,λ_=>by simp[Ae],hr.size,by simp,by simp,hr.FR,hr.defers⟩
theorem OA {P:Program}{F:Nat->Prop}{os:List Own}{s:St}{a:Act}{w:World}{k:Nat}{uR:Sem Value}{v0 v:AV}{st0:List Row}(hr:Rel F os s a w)
  (he:IE P 0 F [] ⟨s.n,λ_=>.E7,[]⟩ a w uR λx st=>x=v0/\st=st0) (hw:Wk 0 ⟨1,Aa [(0,v0)],st0⟩ ⟨1,Aa [(0,v)],[]⟩) (hv:flat v=true) :
  ∃u w' F',uR.run P w=.ok u w'/\Rel F' os s a w'/\Ae F' w' os v u/\Ext F os w F' os w' k:=by
 obtain⟨x,st',u,w',rJ,⟨rfl,rfl⟩,h2,h3,h4,h5⟩:=he;have rE:Rel F rJ ⟨1,Aa [(0,x)],st'⟩ { tmps:=#[u],defers:=[] } w':=by
  refine⟨h3.st,λt=>?_,rfl,h3.rows,h3.inj,h3.FR,rfl⟩;simp only[Aa];split
  ·rename_i ht;subst ht;exact h4
  ·simp[Ae]
 obtain⟨F2,os2,h6,h7⟩:=hw F rJ _ w' rE;have zK:os2=[]:=by have:=h6.st;simpa using this
 subst zK;obtain⟨g1,g2,_⟩:=hr.after (k:=k) (h5.trans h7) h6.FR;exact⟨u,w',F2,h2,g1,Ji hv os (by have:=h6.env 0;simpa [Aa] using this),g2⟩
section
variable {P : Program} {ds : List (Option Tmp)} {r : List Oper} {n : Nat} {e : Nat -> AV} {st : List Row} {ty : TypeId} {ps : String} {ed : Array Edge} {t : Tmp} {gd : Option (Nat × Bool)} {KS : St -> Prop}
variable {α : Type} {l : List α} {enc : α -> List AV} {el T : TypeId} {size bytes : Nat} {zz cs : List AV}
theorem VP (hp:EN (l.map enc)):Wk 0 ⟨1,Aa [(0,.own 0 0 l.length)],[⟨0,el,size,l.map enc⟩]⟩ ⟨1,Aa [(0,.sl (l.map enc))],[]⟩:=
 (Wk.BL (n:=1) (e:=Aa [(0,.own 0 0 l.length)]) (st:=[⟨0,el,size,l.map enc⟩]) (L:=[(0,.sl (l.map enc))]) (st':=[⟨1,el,size,[]⟩]) (id:=0) rfl (mB _) hp ⟨.BL rfl,lU⟩ rfl).trans
  (Df (L:=[(0,.sl (l.map enc))]) (st':=[]) [] rfl (by decide) rfl rfl lU ⟨.rfl,lU⟩)
theorem GC {len:Nat}{parts:Array (Nat×Operand)}{pv:List (Nat×AV)}(hg:GO ds gd e)(he:Ds P T=some ⟨el,size,bytes,zz⟩)(hle:len*size<=16777216)(hp:(parts.toList.map λp=>(p.1,St.ev ⟨n,e,st⟩ p.2))=pv)
  (zP:(pv.all λp=>flat p.2)=true) (hc:Ms (λi=>some (i*size,size)) ((List.replicate len zz).flatten) pv=some cs) (hck:chunk size len cs=l.map enc) (yY:len=l.length) (hpu:EN (l.map enc))
  (hk:D7 P (ds++[some t]) r KS ⟨n,EE e t (.sl (l.map enc)),st⟩):D7 P ds (⟨some t,.buildSlice T len parts,ty,ps,ed,gd⟩::r) KS ⟨n,e,st⟩:=by
 refine dS hg rfl (λs0 e1 e2 hd k F os a w hr next Q hn=>?_) hk;have hpv:(parts.toList.map λp=>(p.1,s0.ev p.2))=pv:=by
  rw[<- hp];refine mH λp wK=>?_;rw[e2 p.2 (by simp only[Op.operands,pa,mA];exact⟨p,by simpa using wK,rfl⟩)]
 have h9:IE P 0 F [] ⟨s0.n,λ_=>.E7,[]⟩ a w (Instr.buildSlice T len (parts.map λ(i,x)=>(i,a.eval x))) (λx st=>x=.own 0 0 l.length/\st=[⟨0,el,size,l.map enc⟩]):=by
  refine PC (parts:=pv) hr.bare (Aq _ he ⟨hle,Aq _ hc (by subst yY;rw[hck];exact⟨rfl,rfl⟩)⟩) (by rw[<- hpv];simp) λi p up hp yW=>?_;have uG:flat p.2=true:=lh.1 zP p (lT hp);rw[<- hpv]at hp;simp only[lW,lg,pW]at hp yW;obtain⟨q,hq,rfl⟩:=hp;obtain⟨q',wO,rfl⟩:=yW;rw[hq]at wO;cases wO;exact Ji uG [] (hr.ev _)
 obtain⟨u,w',F',g1,g2,g3,g4⟩:=OA (k:=k) hr h9 (VP hpu) rfl;unfold Oper.wp;simp only[execOp,mW,g1,mT,mm,Oper.upon];exact hn _ _ (PS (st':=s0.st) hd rfl g2 g3 g4)
end
end Go.Abs
