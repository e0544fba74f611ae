import Derived.Test.YtihdgoiebmfapaaGreatAbsT
set_option linter.all false
namespace Go.Abs
open Go
variable {P : Program} {F : Nat -> Prop} {os : List Own} {s : St} {a : Act} {w : World} {k : Nat}
def pos (sel:List Nat)(N p:Nat):Nat:=match sel[p]? with|some j=>j|none=>p-sel.length+N
def P4 (sel:List Nat)(N:Nat):AV->AV
 | .own id g n=>.own (pos sel N id) g n
 | .ptr id g i off=>.ptr (pos sel N id) g i off
 | .fn ..|.agg _|.Dd _=>.E7
 | v=>v
def NS (sel:List Nat)(N:Nat)(x:AV):AV:=two (P4 sel N) x
theorem ef {sel:List Nat}{N:Nat}{c:AV}{el s:Nat}{ys:List (List AV)}(h:NS sel N c=.dv el s ys):c=.dv el s ys:=by
 refine Sg (X:=P4 sel N) (λc h=>?_) h;cases c<;>simp only[P4]at h<;>first|exact h|cases h
def T1 (sel:List Nat)(N:Nat):AV->AV
 | .fn f cs=>.fn f (cs.map (NS sel N))
 | .agg cs=>.agg (cs.map (NS sel N))
 | .Dd cs=>.Dd (cs.map (NS sel N))
 | v=>NS sel N v
def Iz (sel:List Nat)(N:Nat)(row:Row):Row:={ row with xs:=row.xs.map (·.map (NS sel N)) }
def GC (sel:List Nat)(rs:List Row):Nat->List Row->List Row
 | _,[]=>[]
 | i,row::st=>(match idx sel i with|some p=>(match rs[p]? with|some r=>r|none=>row)|none=>row)::GC sel rs (i+1) st
theorem MC {sel:List Nat}{rs:List Row}:∀(st:List Row) (i j:Nat),(GC sel rs i st)[j]?=(st[j]?).map λrow=>match idx sel (i+j) with|some p=>(match rs[p]? with|some r=>r|none=>row)|none=>row
 | [],i,j=>by simp[GC]
 | row::st,i,0=>by simp[GC]
 | row::st,i,j+1=>by
  simp only[GC,mQ];rw[MC st (i+1) j,show i+1+j=i+(j+1) by omega]
theorem J5 {sel:List Nat}{rs:List Row}:∀(st:List Row) (i:Nat),(GC sel rs i st).length=st.length
 | [],_=>rfl
 | _::st,i=>by simp[GC,J5 st (i+1)]
theorem Nt {sel:List Nat}{id j:Nat}(h:idx sel id=some j):sel[j]?=some id:=by
 unfold idx at h;rw[nh]at h;obtain⟨h1,h2,_⟩:=h;rw[lZ h1];simpa using h2
theorem YO {sel:List Nat}(sC:sel.Nodup){id j:Nat}(h:sel[j]?=some id):idx sel id=some j:=by
 unfold idx;obtain⟨h1,h2⟩:=lV.1 h;rw[nh];refine⟨h1,by simp[h2],λi hi=>?_⟩;have:=oS.1 sC i j (by omega) h1 hi;simp only[beq_iff_eq,ne_eq,pX,beq_eq_false_iff_ne];rw[<- h2];exact this
theorem dR {sel:List Nat}{id:Nat}(h:idx sel id=none):id ∉ sel:=by
 unfold idx at h;rw[List.findIdx?_eq_none_iff]at h;intro hm;simpa using h id hm
def WZ (rows0 rows1:List Row):Prop:=∀(j:Nat) r0 r1,rows0[j]?=some r0->rows1[j]?=some r1->r1.gen=r0.gen->r1.xs.length=r0.xs.length
theorem LN {f:FuncId}{args rJ:List AV}{d:Option Tmp}{K:St->Prop}{rows0 rows1 rows2:List Row}{v:AV}(sel:List Nat)(h:Ab P f rJ rows0 λr st=>r=v/\st=rows1++rows2)
  (sC:sel.Nodup) (qw :∀i∈sel,i<s.st.length) (hs:(Cc s.st sel).map (Cm sel)=rows0) (xY:It rows0) (uA:args.map (KT sel)=rJ) (hlen:rows1.length=sel.length) (hL :∀row∈rows1++rows2,∀x∈row.xs,∀c∈x,c.kept=true->(NS sel s.st.length c).kept=true)
  (hK:WZ rows0 rows1->K ({ s with st:=GC sel (rows1.map (Iz sel s.st.length)) 0 s.st++rows2.map (Iz sel s.st.length) }.put d (T1 sel s.st.length v))):callThen P k s f args d K:=by
 intro F os a w vs hr hl;subst hs;have hN:s.st.length=os.length:=hr.len;have tU:∀(j id:Nat),sel[j]?=some id->(sel.filterMap (os[·]?))[j]?=os[id]?:=by
  have :∀(l:List Nat),(∀i∈l,i<os.length)->∀(j id:Nat),l[j]?=some id->(l.filterMap (os[·]?))[j]?=os[id]?:=λl=>by
   induction l with
   | nil=>intro _ j id h;simp at h
   | cons i l ih=>
    intro hl j id h;have hi:=hl i (by simp);rw[nX,lZ hi];cases j with
    | zero=>simp only[mI,lX]at h;subst h;simp[lZ hi]
    | succ j=>simp only[mQ]at h⊢;exact ih (λx hx=>hl x (by simp[hx])) j id h
  exact this sel (λi hi=>by rw[<- hN];exact qw i hi)
 let so:Own->Own:=λo=>{ o with row:=Cm sel o.row }
 let vM:=(sel.filterMap (os[·]?)).map so
 have wR:(sel.filterMap (os[·]?)).length=sel.length:=by
  have :∀(l:List Nat),(∀i∈l,i<os.length)->(l.filterMap (os[·]?)).length=l.length:=λl=>by
   induction l with
   | nil=>simp
   | cons i l ih=>intro hl;rw[nX,lZ (hl i (by simp))];simp[ih (λx hx=>hl x (by simp[hx]))]
  exact this sel (λi hi=>by rw[<- hN];exact qw i hi)
 have qi:∀(j:Nat) (o:Own),vM[j]?=some o->∃id o0,sel[j]?=some id/\os[id]?=some o0/\o=so o0:=λj o h=>by
  simp only[vM,lW,lg]at h;obtain⟨o0,h0,rfl⟩:=h;have hj:j<sel.length:=by rw[<- wR];exact (lV.1 h0).1
  refine⟨sel[j],o0,lZ hj,?_,rfl⟩;rw[<- tU j _ (lZ hj)];exact h0
 have vx:∀id j,idx sel id=some j->vM[j]?=(os[id]?).map so:=λid j hj=>by
  simp only[vM,lW];rw[tU j id (Nt hj)]
 have wz:∀x v,Ae F w os x v->Ae F w vM (IZ sel x) v:=λx v h=>by
  cases x with
  | own id g n=>
   simp only[IZ];split
   ·rename_i j hj;simp only[Ae]at h⊢;obtain⟨o,h1,h2,h3,h4⟩:=h;exact⟨so o,by rw[vx id j hj,h1];rfl,h2,h3,λhg=>by
     obtain⟨a1,a2⟩:=h4 hg;exact⟨by simpa [so,Cm] using a1,by simpa [so,Cm] using a2⟩⟩
   ·simp[Ae]
  | ptr id g i off=>
   simp only[IZ];split
   ·rename_i j hj;simp only[Ae]at h⊢;obtain⟨o,h1,h2,h3,h4⟩:=h;exact⟨so o,by rw[vx id j hj,h1];rfl,h2,h3,λhg=>by
     obtain⟨a1,a2,a3⟩:=h4 hg;exact⟨by simpa [so,Cm] using a1,a2,a3⟩⟩
   ·simp[Ae]
  | fn f cs=>simp[IZ,Ae]
  | agg cs=>simp[IZ,Ae]
  | Dd cs=>simp[IZ,Ae]
  | _=>simp only[IZ,Ae]at h⊢<;>exact h
 have tV:∀x v,Ae F w os x v->Ae F w vM (Ko sel x) v:=Lb wz;have tW:∀cs us,Bs F w os cs us->Bs F w vM (cs.map (Ko sel)) us:=λcs us h=>
  Db (by simp[BZ h]) λi x u hx hu=>by
   simp only[lW,lg]at hx;obtain⟨y,hy,rfl⟩:=hx;obtain⟨u',sK,ry⟩:=CO h i y hy;rw[sK]at hu;cases hu;exact tV _ _ ry
 have zN:∀x v,Ae F w os x v->Ae F w vM (KT sel x) v:=λx v h=>by
  cases x with
  | fn f cs=>simp only[KT,Ae]at h⊢;obtain⟨us,e,hl⟩:=h;exact⟨us,e,tW _ _ hl⟩
  | agg cs=>simp only[KT,Ae]at h⊢;obtain⟨us,e,hl⟩:=h;exact⟨us,e,tW _ _ hl⟩
  | Dd cs=>simp only[KT,Ae]at h⊢;obtain⟨us,e,hl⟩:=h;exact⟨us,e,tW _ _ hl⟩
  | _=>exact tV _ _ h
 have vU:vM.map Own.row=(Cc s.st sel).map (Cm sel):=by
  have h0:os.map Own.row=s.st:=hr.st;simp only[vM,nU,Cc];rw[<- h0];have hco:Own.row∘so=Cm sel∘Own.row:=rfl;rw[hco,<- nU,pL];congr 1;simp[pQ]
 have hSO:HF F vM ((Cc s.st sel).map (Cm sel)) w:=by
  refine⟨vU,λj o ho=>?_,λi j oi oj b hi hj sM sN=>?_,hr.FR⟩
  ·obtain⟨id,o0,tO,ho0,rfl⟩:=qi j o ho;have qf:=hr.rows id o0 ho0;have hm:Cm sel o0.row∈(Cc s.st sel).map (Cm sel):=by
    rw[<- vU];exact mA.2 ⟨so o0,lT ho,rfl⟩
   refine⟨qf.pos,λx hx=>⟨?_,xY _ hm x hx⟩,λhb=>?_,λb hb=>?_,qf.mo,qf.deep.mapped (Ko sel) (λ_ _ _ _ h=>Z5 h) rfl rfl rfl rfl⟩
   ·simp only[so,Cm,mA]at hx;obtain⟨y,hy,rfl⟩:=hx;simpa [so,Cm] using (qf.lens y hy).1
   ·obtain⟨h1,h2⟩:=qf.none hb;exact⟨by simp[so,Cm,h1],h2⟩
   ·obtain⟨h1,cur,h2,h3,h4,h5,h6⟩:=qf.some b hb;refine⟨h1,cur,h2,h3,by simpa [so,Cm] using h4,h5,λi x hx j' c hc=>?_⟩;simp only[so,Cm,lW,lg]at hx;obtain⟨y,hy,rfl⟩:=hx;simp only[lW,lg]at hc;obtain⟨c0,sZ,rfl⟩:=hc;obtain⟨u,e1,e2⟩:=h6 i y hy j' c0 sZ;exact⟨u,e1,tV _ _ e2⟩
  ·obtain⟨id,o0,tO,ho0,rfl⟩:=qi i oi hi;obtain⟨rN,o0',hid',ho0',rfl⟩:=qi j oj hj;have he:=hr.inj id rN o0 o0' b ho0 ho0' sM sN;subst he;have h1:=YO sC tO;rw[YO sC hid']at h1;exact (nT h1).symm
 have hlA:Bs F w vM rJ vs:=by
  subst uA;exact Db (by simp[BZ hl]) λi x u hx hu=>by
   simp only[lW,lg]at hx;obtain⟨y,hy,rfl⟩:=hx;obtain⟨u',sK,ry⟩:=CO hl i y hy;rw[sK]at hu;cases hu;exact zN _ _ ry
 refine (h F vM w vs hSO hlA).mono ?_;rintro e w' ⟨u,r,st',F',os',rfl,⟨rfl,rfl⟩,hs',hru,he⟩;have vI:os'.length=sel.length+rows2.length:=by
  have:=mc List.length hs'.st;rw[ly,mD]at this;omega
 have hpl:((Cc s.st sel).map (Cm sel)).length=sel.length:=by
  rw[<- vU];simp[vM,wR]
 let N:=s.st.length
 let un:Own->Own:=λo=>{ o with row:=Iz sel N o.row }
 let f2:Nat->Own->Own:=λi o=>match idx sel i with|some p=>(match os'[p]? with|some o'=>un o'|none=>o)|none=>o
 let os2:=os.mapIdx f2++(os'.drop sel.length).map un
 have hNl:(os.mapIdx f2).length=N:=by simp[N,hN]
 have hgL:∀i,i<N->os2[i]?=(os[i]?).map (f2 i):=λi hi=>by
  simp only[os2];rw[lj (by omega),pC]
 have hgP:∀p o',os'[p]?=some o'->os2[pos sel N p]?=some (un o'):=λp o' rH=>by
  unfold pos;split
  ·rename_i j hj;have hjN:j<N:=qw j (lT hj);rw[hgL j hjN,lZ (by omega)];simp only[mZ,f2,YO sC hj,rH]
  ·rename_i hn;have hp:sel.length<=p:=nz.1 hn;simp only[os2];rw[ln (by omega),hNl,lW,mU,show sel.length+(p-sel.length+N-N)=p by omega,rH];rfl
 have hgO:∀i,i<N->idx sel i=none->os2[i]?=os[i]?:=λi hi hx=>by
  rw[hgL i hi];have:f2 i=id:=by funext o;simp[f2,hx]
  rw[this,Option.map_id];rfl
 have vm:∀i o,os2[i]?=some o->(∃p o',os'[p]?=some o'/\o=un o'/\i=pos sel N p)∨(i<N/\idx sel i=none/\os[i]?=some o):=λi o ho=>by
  rcases nb i N with hi|hi
  ·rcases hx:idx sel i with _|p
   ·exact .inr ⟨hi,rfl,by rw[<- hgO i hi hx];exact ho⟩
   ·have hp:=Nt hx;have hpl2:p<os'.length:=by have:=(lV.1 hp).1;omega
    have h1:=hgP p _ (lZ hpl2);have h2:pos sel N p=i:=by unfold pos;rw[hp]
    rw[h2,ho]at h1;exact .inl ⟨p,_,lZ hpl2,nT h1,h2.symm⟩
  ·have vL:=ho;simp only[os2]at vL;rw[ln (by omega),hNl,lW,lg]at vL;obtain⟨o',h1,h2⟩:=vL;rw[mU]at h1;refine .inl ⟨_,o',h1,h2.symm,?_⟩;unfold pos;rw[nz.2 (by omega)];simp only;omega
 have yh:FK os os2:=λi o ho=>by
  have hiN:i<N:=by have:=(lV.1 ho).1;omega
  rcases hx:idx sel i with _|p
  ·exact⟨o,by rw[hgO i hiN hx];exact ho,ll _,rfl,λ_=>⟨rfl,rfl,rfl⟩⟩
  ·have hp:=Nt hx;have h1:vM[p]?=some (so o):=by rw[vx i p hx,ho];rfl
   obtain⟨o',rH,e1,e2,e3⟩:=he.UL p (so o) (by rw[hpl];exact (lV.1 hp).1) h1;refine⟨un o',?_,e1,e2,λhg=>?_⟩
   ·have:=hgP p o' rH;unfold pos at this;rw[hp]at this;exact this
   ·obtain⟨g1,g2,g3⟩:=e3 hg;exact⟨g1,g2,by simpa [so,un,Cm,Iz] using g3⟩
 have qk:∀x v,Ae F w os x v->Ae F' w' os2 x v:=λx v h=>DV he.NQ he.IX os _ yh x v h;have hun0:∀x v,Ae F' w' os' x v->Ae F' w' os2 (P4 sel N x) v:=λx v h=>by
  cases x with
  | own id g n=>
   simp only[P4,Ae]at h⊢;obtain⟨o,h1,h2,h3,h4⟩:=h;exact⟨un o,hgP _ _ h1,h2,h3,λhg=>by
    obtain⟨a1,a2⟩:=h4 hg;exact⟨by simpa [un,Iz] using a1,by simpa [un,Iz] using a2⟩⟩
  | ptr id g i off=>
   simp only[P4,Ae]at h⊢;obtain⟨o,h1,h2,h3,h4⟩:=h;exact⟨un o,hgP _ _ h1,h2,h3,λhg=>by
    obtain⟨a1,a2,a3⟩:=h4 hg;exact⟨by simpa [un,Iz] using a1,a2,a3⟩⟩
  | fn f cs=>simp[P4,Ae]
  | agg cs=>simp[P4,Ae]
  | Dd cs=>simp[P4,Ae]
  | _=>simp only[P4,Ae]at h⊢<;>exact h
 have zP:∀x v,Ae F' w' os' x v->Ae F' w' os2 (NS sel N x) v:=Lb hun0;have zQ:∀cs us,Bs F' w' os' cs us->Bs F' w' os2 (cs.map (NS sel N)) us:=λcs us h=>
  Db (by simp[BZ h]) λi x u hx hu=>by
   simp only[lW,lg]at hx;obtain⟨y,hy,rfl⟩:=hx;obtain⟨u',sK,ry⟩:=CO h i y hy;rw[sK]at hu;cases hu;exact zP _ _ ry
 have hunr:∀x v,Ae F' w' os' x v->Ae F' w' os2 (T1 sel N x) v:=λx v h=>by
  cases x with
  | fn f cs=>simp only[T1,Ae]at h⊢;obtain⟨us,e,hl⟩:=h;exact⟨us,e,zQ _ _ hl⟩
  | agg cs=>simp only[T1,Ae]at h⊢;obtain⟨us,e,hl⟩:=h;exact⟨us,e,zQ _ _ hl⟩
  | Dd cs=>simp only[T1,Ae]at h⊢;obtain⟨us,e,hl⟩:=h;exact⟨us,e,zQ _ _ hl⟩
  | _=>exact zP _ _ h
 have hB:∀(i:Nat) (o:Own),idx sel i=none->os[i]?=some o->∀b,o.owns b->w'.heap[b]?=w.heap[b]?/\¬ F' b/\∀o1:Own,o1∈os'->¬ o1.owns b:=λi o hx ho b hb=>by
  refine he.other b ((hr.rows _ o ho).lt hb) ((hr.rows _ o ho).nF hb) λoA hoA e=>?_;obtain⟨j,hj⟩:=lv.1 hoA;obtain⟨id,o0,tO,ho0,rfl⟩:=qi j oA hj;have:=hr.inj id i o0 o b ho0 ho e hb;subst this;exact dR hx (lT tO)
 have sA:os2.map Own.row=GC sel (rows1.map (Iz sel N)) 0 s.st++rows2.map (Iz sel N):=by
  simp only[os2,nI];have qz:os'.map Own.row=rows1++rows2:=hs'.st;congr 1
  ·apply nO;intro i;rw[lW,pC,MC,ml];have h0:os.map Own.row=s.st:=hr.st;rw[<- h0,lW];cases tG:os[i]? with
   | none=>rfl
   | some o=>
    simp only[mZ,f2];cases hx:idx sel i with
    | none=>rfl
    | some p=>
     have hpm:p<sel.length:=(lV.1 (Nt hx)).1;have wM:p<os'.length:=by omega
     have h3:(os'.map Own.row)[p]?=rows1[p]?:=by rw[qz,lj (by omega)]
     rw[lW,lZ wM]at h3;simp only[lW,lZ wM,<- h3,mZ,un]
  ·rw[nU];have hco:Own.row∘un=Iz sel N∘Own.row:=rfl;rw[hco,<- nU,List.map_drop,qz];simp[<- hlen]
 have hkept:WZ ((Cc s.st sel).map (Cm sel)) rows1:=λj r0 r1 h0 h1 hg=>by
  have hj:j<((Cc s.st sel).map (Cm sel)).length:=(lV.1 h0).1;rw[<- vU,lW,lg]at h0;obtain⟨oA,hoA,rfl⟩:=h0;obtain⟨o',rH,_,_,e3⟩:=he.UL j oA hj hoA;have sV:os'.map Own.row=rows1++rows2:=hs'.st;have h2:(rows1++rows2)[j]?=some o'.row:=by rw[<- sV,lW,rH];rfl
  rw[lj (lV.1 h1).1,h1]at h2;cases h2;exact (e3 hg).2.2
 refine⟨u,_,_,F',os2,rfl,hK hkept,⟨sA,λt=>qk _ _ (hr.env t),hr.size,λi o ho=>?_,λi j oi oj b hi hj sM sN=>?_,hs'.FR,hr.defers⟩,hunr _ _ hru,⟨he.sys,he.tape,he.output,he.size,he.NQ,he.IX,λb hb h1 h2=>?_,λi o hi ho=>yh i o ho⟩⟩
 ·rcases vm i o ho with ⟨p,o',hp,rfl,rfl⟩|⟨h1,h2,vL⟩
  ·have qf:=hs'.rows p o' hp;refine⟨qf.pos,λx hx=>?_,λhb=>?_,λb hb=>?_,qf.mo,qf.deep.mapped (NS sel N) (λ_ _ _ _ h=>ef h) rfl rfl rfl rfl⟩
   ·simp only[un,Iz,mA]at hx;obtain⟨y,hy,rfl⟩:=hx;obtain⟨g1,g2⟩:=qf.lens y hy;refine⟨by simpa [un,Iz] using g1,λc hc=>?_⟩;obtain⟨c0,sZ,rfl⟩:=mA.1 hc;have hmem:o'.row∈rows1++rows2:=by rw[<- hs'.st];exact mA.2 ⟨o',lT hp,rfl⟩
    exact hL _ hmem y hy c0 sZ (g2 c0 sZ)
   ·obtain⟨h1,h2⟩:=qf.none hb;exact⟨by simp[un,Iz,h1],h2⟩
   ·obtain⟨e1,cur,e2,e3,e4,e5,e6⟩:=qf.some b hb;refine⟨e1,cur,e2,e3,by simpa [un,Iz] using e4,e5,λi' x hx q c hc=>?_⟩;simp only[un,Iz,lW,lg]at hx;obtain⟨y,hy,rfl⟩:=hx;simp only[lW,lg]at hc;obtain⟨c0,sZ,rfl⟩:=hc;obtain⟨u',f1,f2⟩:=e6 i' y hy q c0 sZ;exact⟨u',f1,zP _ _ f2⟩
  ·have qf:=hr.rows _ o vL;refine⟨qf.pos,qf.lens,qf.none,λb hb=>?_,λb hb=>⟨(hB _ o h2 vL b (.inr hb)).2.1,ma (qf.mo b hb).2.1 he.size,(qf.mo b hb).2.2⟩,
    qf.deep.keep rfl (λ_ h=>h) rfl (λb hb=>(hB _ o h2 vL b hb).1) (λi x j e s ys hx hc=>⟨x,hx,hc⟩)⟩
   obtain⟨e1,cur,e2,e3,e4,e5,e6⟩:=qf.some b hb;obtain⟨g1,g2,_⟩:=hB _ o h2 vL b (.inl hb);refine⟨g2,cur,by rw[g1];exact e2,e3,e4,e5,λi' x hx j c hc=>?_⟩;obtain⟨u',f1,f2⟩:=e6 i' x hx j c hc;exact⟨u',f1,qk _ _ f2⟩
 ·rcases vm i oi hi with ⟨p,o',hp,rfl,rfl⟩|⟨h1,h2,xc⟩<;>rcases vm j oj hj with ⟨p2,o2',hp2,rfl,rfl⟩|⟨h3,h4,vR⟩
  ·have:=hs'.inj p p2 o' o2' b hp hp2 sM sN;rw[this]
  ·exact absurd sM ((hB _ oj h4 vR b sN).2.2 o' (lT hp))
  ·exact absurd sN ((hB _ oi h2 xc b sM).2.2 o2' (lT hp2))
  ·exact hr.inj i j oi oj b xc vR sM sN
 ·have h3:∀o∈vM,¬ o.owns b:=λo ho=>by
   obtain⟨j,hj⟩:=lv.1 ho;obtain⟨id,o0,tO,ho0,rfl⟩:=qi j o hj;exact h2 o0 (lT ho0)
  obtain⟨g1,g2,g3⟩:=he.other b hb h1 h3;refine⟨g1,g2,λo ho=>?_⟩;obtain⟨i,hi⟩:=lv.1 ho;rcases vm i o hi with ⟨p,o',hp,rfl,rfl⟩|⟨_,_,vL⟩
  ·exact g3 o' (lT hp)
  ·exact h2 o (lT vL)
inductive UN (sel:List Nat) (N:Nat):List Row->List Row->Prop
 | nil:UN sel N [] []
 | deep {g size:Nat} {el:TypeId} {xs:List (List AV)} {r r':List Row} (hp:DG xs) (hl:UN sel N r r'):UN sel N (⟨g,el,size,xs⟩::r) (⟨g,el,size,xs⟩::r')
 | raw {g size:Nat} {el:TypeId} {cs cs':List AV} {r r':List Row} (hc:cs.map (NS sel N)=cs') (hp:cs'.all AV.leaf=true) (hl:UN sel N r r'):UN sel N (⟨g,el,size,[cs]⟩::r) (⟨g,el,size,[cs']⟩::r')
theorem UN.pure {sel:List Nat}{N g size:Nat}{el:TypeId}{xs:List (List AV)}{r r':List Row}(hp:ER xs)(hl:UN sel N r r'):UN sel N (⟨g,el,size,xs⟩::r) (⟨g,el,size,xs⟩::r'):=.deep hp.any hl
theorem RD {sel:List Nat}{N:Nat}{c:AV}(h:Ee c=true):NS sel N c=c:=by cases c<;>simp[Ee,simple,NS,two,P4]at h⊢
theorem UN.leaf {sel:List Nat}{N:Nat}:∀{l l':List Row},UN sel N l l'->∀row∈l,∀x∈row.xs,∀c∈x,c.kept=true->(NS sel N c).kept=true
 | _,_,.nil,_,h=>by cases h
 | _,_,.deep hp hl,row,hm=>by
  rcases lk.1 hm with rfl|hm
  ·intro x hx c hc h;rw[RD (hp x hx c hc)];exact h
  ·exact UN.leaf hl row hm
 | _,_,.raw hc hp hl,row,hm=>by
  rcases lk.1 hm with rfl|hm
  ·intro x hx c wS _;simp only[lu]at hx;subst hx;exact D3 (lh.1 hp _ (by rw[<- hc];exact mA.2 ⟨c,wS,rfl⟩))
  ·exact UN.leaf hl row hm
theorem UN.spec {sel:List Nat}{N:Nat}:∀{l l':List Row},UN sel N l l'->l.map (Iz sel N)=l'
 | _,_,.nil=>rfl
 | _,_,.deep hp hl=>by
  simp only[mF,UN.spec hl];congr 1;simp only[Iz];congr 1;refine (mH (g:=id) λx hx=>?_).trans (nH _);refine (mH (g:=id) λc hc=>?_).trans (nH _);exact RD (hp x hx c hc)
 | _,_,.raw hc _ hl=>by simp only[mF,UN.spec hl,Iz,nV,hc]
theorem Kl {f:FuncId}{args:List AV}{d:Option Tmp}{K:St->Prop}(h:(∀row∈s.st,∀x∈row.xs,∀c∈x,c.kept=true)->callThen P k s f args d K):callThen P k s f args d K:=
 λF os a w vs hr hl=>h (Nv hr) F os a w vs hr hl
section
variable {ops : Array Oper} {Q : Exit -> St -> Prop} {ds : List (Option Tmp)} {r : List Oper} {n : Nat} {e : Nat -> AV} {st st' : List Row} {ty : TypeId} {ps : String} {ed : Array Edge} {d : Option Tmp} {v v' : AV} {gd : Option (Nat × Bool)}
variable {f : FuncId} {ri : Array Operand} {ts : Array TypeId} {args rJ : List AV} {rowsP rows0 rows1 rows1' rows2 rows2' : List Row}
theorem Ru (sel:List Nat)(hg:GO ds gd e)(hb:Dq P f=true)(hc:Ab P f rJ rows0 λr st=>r=v/\st=rows1++rows2)(ha:ri.toList.map (St.ev ⟨n,e,st⟩)++[]=args)(sC:sel.Nodup)(qw:sel.all (·<st.length)=true)
  (hp:Cc st sel=rowsP) (hs:SR sel rowsP rows0) (hf:args.map (KT sel)=rJ) (hlen:rows1.length=sel.length) (h1:UN sel st.length rows1 rows1') (h2:UN sel st.length rows2 rows2') (hv:T1 sel st.length v=v') (sV:GC sel rows1' 0 st++rows2'=st')
  (hk:WZ rows0 rows1->AO P k ops Q (ds++[d]) r (St.put ⟨n,e,st'⟩ d v')):AO P k ops Q ds (⟨d,.call ⟨.value (.func f),ri,ts⟩,ty,ps,ed,gd⟩::r) ⟨n,e,st⟩:=by
 subst sV;subst ha;subst hv;subst hp;refine Mh hg ?_;rw[Nf];refine⟨hb,Kl λhle=>?_⟩;obtain⟨e1,e2⟩:=hs.spec (st0:=st) hle (λrow qc=>by
  obtain⟨i,_,hi⟩:=mu.1 qc;exact lT hi)
 refine LN sel hc sC (λi hi=>by simpa using lh.1 qw i hi) e1 e2 hf hlen (λrow qc=>by
  rcases lz.1 qc with h|h
  ·exact h1.leaf row h
  ·exact h2.leaf row h) λyb=>?_
 simp only[h1.spec,h2.spec];exact hk yb
theorem GH (sel:List Nat)(hg:GO ds gd e)(hb:Dq P f=true)(hc:Ab P f rJ rows0 λr st=>r=v/\st=rows1++rows2)(ha:ri.toList.map (St.ev ⟨n,e,st⟩)++[]=args)(sC:sel.Nodup)(qw:sel.all (·<st.length)=true)
  (hp:Cc st sel=rowsP) (hs:SR sel rowsP rows0) (hf:args.map (KT sel)=rJ) (hlen:rows1.length=sel.length) (h1:UN sel st.length rows1 rows1') (h2:UN sel st.length rows2 rows2') (hv:T1 sel st.length v=v') (sV:GC sel rows1' 0 st++rows2'=st')
  (hk:AO P k ops Q (ds++[d]) r (St.put ⟨n,e,st'⟩ d v')):AO P k ops Q ds (⟨d,.call ⟨.value (.func f),ri,ts⟩,ty,ps,ed,gd⟩::r) ⟨n,e,st⟩:=
 Ru sel hg hb hc ha sC qw hp hs hf hlen h1 h2 hv sV λ_=>hk
end
theorem LU {k n:Nat}{e:Nat->AV}{st st1 st':List Row}{L:List (Nat×AV)}(sel:List Nat)(hk:sel.take k=List.range k)(sC:sel.Nodup)(qw:sel.all (·<st.length)=true)(hp:Cc st sel=st1)(hs:SR sel st1 st')(h:ME (λt=>KT sel (e t)) L):
  Wk k ⟨n,e,st⟩ ⟨n,Aa L,st'⟩:=λF os a w hr=>by
 have hle:=Nv hr;obtain⟨h1,h2⟩:=hs.spec (st0:=st) hle (λrow qc=>by
  rw[<- hp]at qc;obtain⟨i,_,hi⟩:=mu.1 qc;exact lT hi)
 exact V6 sel hk sC qw (by rw[hp];exact h1) h2 h F os a w hr
theorem Bq {k n:Nat}{e:Nat->AV}{st st1 st':List Row}{L:List (Nat×AV)}(sel:List Nat)(hk:sel.take k=List.range k)(_:SR sel (st.take k) (st.take k))(sC:sel.Nodup)(qw:sel.all (·<st.length)=true)(hp:Cc st sel=st1)(hs:SR sel st1 st')(h:ME (λt=>KT sel (e t)) L):
  Wk k ⟨n,e,st⟩ ⟨n,Aa L,st'⟩:=LU sel hk sC qw hp hs h
theorem Ab.wk {P:Program}{f:FuncId}{args:List AV}{rows st0 st1:List Row}{r0 r1:AV}(h:Ab P f args rows λr st=>r=r0/\st=st0)(hw:Wk rows.length ⟨1,Aa [(0,r0)],st0⟩ ⟨1,Aa [(0,r1)],st1⟩):
  Ab P f args rows λr st=>r=r1/\st=st1:=by
 intro F os w vs hs hl;refine (h F os w vs hs hl).mono ?_;rintro e w' ⟨v,r,st',F',os',rfl,⟨rfl,rfl⟩,h1,h2,h3⟩;have hrel:Rel F' os' ⟨1,Aa [(0,r)],st'⟩ { tmps:=#[v],defers:=[] } w':=by
  refine⟨h1.st,λt=>?_,rfl,h1.rows,h1.inj,h1.FR,rfl⟩;simp only[Aa];split
  ·rename_i ht;subst ht;exact h2
  ·simp[Ae]
 obtain⟨F2,os2,h4,h5⟩:=hw F' os' _ w' hrel;refine⟨v,r1,st1,F2,os2,rfl,⟨rfl,rfl⟩,⟨h4.st,h4.rows,h4.inj,h4.FR⟩,?_,h3.trans h5⟩;have:=h4.env 0;simpa [Aa] using this
theorem le.HT {α:Type}{id g m:Nat}{l:List α}{enc:α->List AV}(h:m=l.length):le (Abs.HT id g (l.map enc) (.own id g m)) (.sl (l.map enc)):=le.of (bV h)
theorem Rel.bare {F:Nat->Prop}{os:List Own}{s:St}{a:Act}{w:World}(hr:Rel F os s a w):Rel F [] ⟨s.n,λ_=>.E7,[]⟩ a w:=
 ⟨rfl,λ_=>by simp[Ae],hr.size,by simp,by simp,hr.FR,hr.defers⟩
theorem OO {P:Program}{F:Nat->Prop}{os:List Own}{s:St}{a:Act}{w:World}{k:Nat}{uT:Sem Value}{v0 v:AV}{st0:List Row}(hr:Rel F os s a w)
  (he:H9 P 0 F [] ⟨s.n,λ_=>.E7,[]⟩ a w uT λx st=>x=v0/\st=st0) (hw:Wk 0 ⟨1,Aa [(0,v0)],st0⟩ ⟨1,Aa [(0,v)],[]⟩) (hv:flat v=true) :
  ∃u w' F',uT.run P w=.ok u w'/\Rel F' os s a w'/\Ae F' w' os v u/\Ext F os w F' os w' k:=by
 obtain⟨x,st',u,w',rL,⟨rfl,rfl⟩,h2,h3,h4,h5⟩:=he;have hrel:Rel F rL ⟨1,Aa [(0,x)],st'⟩ { tmps:=#[u],defers:=[] } w':=by
  refine⟨h3.st,λt=>?_,rfl,h3.rows,h3.inj,h3.FR,rfl⟩;simp only[Aa];split
  ·rename_i ht;subst ht;exact h4
  ·simp[Ae]
 obtain⟨F2,os2,h6,h7⟩:=hw F rL _ w' hrel;have zM:os2=[]:=by have:=h6.st;simpa using this
 subst zM;obtain⟨g1,g2,_⟩:=hr.after (k:=k) (h5.trans h7) h6.FR;exact⟨u,w',F2,h2,g1,Jd hv os (by have:=h6.env 0;simpa [Aa] using this),g2⟩
section
variable {P : Program} {ds : List (Option Tmp)} {r : List Oper} {n : Nat} {e : Nat -> AV} {st : List Row} {ty : TypeId} {ps : String} {ed : Array Edge} {t : Tmp} {gd : Option (Nat × Bool)} {KS : St -> Prop}
variable {α : Type} {l : List α} {enc : α -> List AV} {el T : TypeId} {size bytes : Nat} {zz cs : List AV}
theorem Wi (hp:ER (l.map enc)):Wk 0 ⟨1,Aa [(0,.own 0 0 l.length)],[⟨0,el,size,l.map enc⟩]⟩ ⟨1,Aa [(0,.sl (l.map enc))],[]⟩:=
 (Wk.BL (n:=1) (e:=Aa [(0,.own 0 0 l.length)]) (st:=[⟨0,el,size,l.map enc⟩]) (L:=[(0,.sl (l.map enc))]) (st':=[⟨1,el,size,[]⟩]) (id:=0) rfl (mB _) hp ⟨.BL rfl,lU⟩ rfl).trans
  (Dg (L:=[(0,.sl (l.map enc))]) (st':=[]) [] rfl (by decide) rfl rfl lU ⟨.rfl,lU⟩)
theorem GA {len:Nat}{parts:Array (Nat×Operand)}{pv:List (Nat×AV)}(hg:GO ds gd e)(he:Ds P T=some ⟨el,size,bytes,zz⟩)(hle:len*size<=16777216)(hp:(parts.toList.map λp=>(p.1,St.ev ⟨n,e,st⟩ p.2))=pv)
  (zR:(pv.all λp=>flat p.2)=true) (hc:Mg (λi=>some (i*size,size)) ((List.replicate len zz).flatten) pv=some cs) (hck:chunk size len cs=l.map enc) (yb:len=l.length) (hpu:ER (l.map enc))
  (hk:D7 P (ds++[some t]) r KS ⟨n,EI e t (.sl (l.map enc)),st⟩):D7 P ds (⟨some t,.buildSlice T len parts,ty,ps,ed,gd⟩::r) KS ⟨n,e,st⟩:=by
 refine dk hg rfl (λs0 e1 e2 hd k F os a w hr next Q hn=>?_) hk;have hpv:(parts.toList.map λp=>(p.1,s0.ev p.2))=pv:=by
  rw[<- hp];refine mH λp wM=>?_;rw[e2 p.2 (by simp only[Op.operands,pa,mA];exact⟨p,by simpa using wM,rfl⟩)]
 have h9:H9 P 0 F [] ⟨s0.n,λ_=>.E7,[]⟩ a w (Instr.buildSlice T len (parts.map λ(i,x)=>(i,a.eval x))) (λx st=>x=.own 0 0 l.length/\st=[⟨0,el,size,l.map enc⟩]):=by
  refine O8 (parts:=pv) hr.bare (Aq _ he ⟨hle,Aq _ hc (by subst yb;rw[hck];exact⟨rfl,rfl⟩)⟩) (by rw[<- hpv];simp) λi p up hp yY=>?_;have uI:flat p.2=true:=lh.1 zR p (lT hp);rw[<- hpv]at hp;simp only[lW,lg,pW]at hp yY;obtain⟨q,hq,rfl⟩:=hp;obtain⟨q',wQ,rfl⟩:=yY;rw[hq]at wQ;cases wQ;exact Jd uI [] (hr.ev _)
 obtain⟨u,w',F',g1,g2,g3,g4⟩:=OO (k:=k) hr h9 (Wi hpu) rfl;unfold Oper.wp;simp only[execOp,mW,g1,mT,mm,Oper.upon];exact hn _ _ (P3 (st':=s0.st) hd rfl g2 g3 g4)
end
end Go.Abs
