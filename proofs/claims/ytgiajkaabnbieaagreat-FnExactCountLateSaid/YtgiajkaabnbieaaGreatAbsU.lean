import Derived.Test.YtgiajkaabnbieaaGreatAbsT
set_option linter.all false
namespace Go.Abs
open Go
variable {P : Program} {F : Nat -> Prop} {os : List Own} {s : St} {a : Act} {w : World} {k : Nat}
def pos (sel:List Nat)(N p:Nat):Nat:=match sel[p]? with|some j=>j|none=>p-sel.length+N
def QR (sel:List Nat)(N:Nat):AV->AV
 | .own id g n=>.own (pos sel N id) g n
 | .ptr id g i off=>.ptr (pos sel N id) g i off
 | .fn ..|.agg _|.DX _=>.FN
 | v=>v
def N3 (sel:List Nat)(N:Nat)(x:AV):AV:=two (QR sel N) x
theorem fQ {sel:List Nat}{N:Nat}{c:AV}{el s:Nat}{ys:List (List AV)}(h:N3 sel N c=.dv el s ys):c=.dv el s ys:=by
 refine VK (X:=QR sel N) (λc h=>?_) h;cases c<;>simp only[QR]at h<;>first|exact h|cases h
def X8 (sel:List Nat)(N:Nat):AV->AV
 | .fn f cs=>.fn f (cs.map (N3 sel N))
 | .agg cs=>.agg (cs.map (N3 sel N))
 | .DX cs=>.DX (cs.map (N3 sel N))
 | v=>N3 sel N v
def I6 (sel:List Nat)(N:Nat)(row:Row):Row:={ row with xs:=row.xs.map (·.map (N3 sel N)) }
def Jg (sel:List Nat)(rs:List Row):Nat->List Row->List Row
 | _,[]=>[]
 | i,row::st=>(match idx sel i with|some p=>(match rs[p]? with|some r=>r|none=>row)|none=>row)::Jg sel rs (i+1) st
theorem SN {sel:List Nat}{rs:List Row}:∀(st:List Row) (i j:Nat),(Jg sel rs i st)[j]?=(st[j]?).map λrow=>match idx sel (i+j) with|some p=>(match rs[p]? with|some r=>r|none=>row)|none=>row
 | [],i,j=>by simp[Jg]
 | row::st,i,0=>by simp[Jg]
 | row::st,i,j+1=>by
  simp only[Jg,mz];rw[SN st (i+1) j,show i+1+j=i+(j+1) by omega]
theorem Qh {sel:List Nat}{id j:Nat}(h:idx sel id=some j):sel[j]?=some id:=by
 unfold idx at h;rw[oF]at h;obtain⟨h1,h2,_⟩:=h;rw[mH h1];simpa using h2
theorem Ys {sel:List Nat}(sy:sel.Nodup){id j:Nat}(h:sel[j]?=some id):idx sel id=some j:=by
 unfold idx;obtain⟨h1,h2⟩:=mC.1 h;rw[oF];refine⟨h1,by simp[h2],λi hi=>?_⟩;have:=pD.1 sy i j (by omega) h1 hi;simp only[beq_iff_eq,ne_eq,po,beq_eq_false_iff_ne];rw[<- h2];exact this
theorem dY {sel:List Nat}{id:Nat}(h:idx sel id=none):id ∉ sel:=by
 unfold idx at h;rw[List.findIdx?_eq_none_iff]at h;intro hm;simpa using h id hm
def Ve (rows0 rows1:List Row):Prop:=∀(j:Nat) r0 r1,rows0[j]?=some r0->rows1[j]?=some r1->r1.gen=r0.gen->r1.xs.length=r0.xs.length
theorem RX {f:FuncId}{args sG:List AV}{d:Option Tmp}{K:St->Prop}{rows0 rows1 rows2:List Row}{v:AV}(sel:List Nat)(h:AS P f sG rows0 λr st=>r=v/\st=rows1++rows2)
  (sy:sel.Nodup) (rJ :∀i∈sel,i<s.st.length) (hs:(Cr s.st sel).map (CR sel)=rows0) (hl0:KQ rows0) (sI:args.map (Ke sel)=sG) (hlen:rows1.length=sel.length) (hL :∀row∈rows1++rows2,∀x∈row.xs,∀c∈x,c.kept=true->(N3 sel s.st.length c).kept=true)
  (hK:Ve rows0 rows1->K ({ s with st:=Jg sel (rows1.map (I6 sel s.st.length)) 0 s.st++rows2.map (I6 sel s.st.length) }.put d (X8 sel s.st.length v))):callThen P k s f args d K:=by
 intro F os a w vs hr hl;subst hs;have hN:s.st.length=os.length:=hr.len;have te:∀(j id:Nat),sel[j]?=some id->(sel.filterMap (os[·]?))[j]?=os[id]?:=by
  have :∀(l:List Nat),(∀i∈l,i<os.length)->∀(j id:Nat),l[j]?=some id->(l.filterMap (os[·]?))[j]?=os[id]?:=λl=>by
   induction l with
   | nil=>intro _ j id h;simp at h
   | cons i l ih=>
    intro hl j id h;have hi:=hl i (by simp);rw[oM,mH hi];cases j with
    | zero=>simp only[me,mE]at h;subst h;simp[mH hi]
    | succ j=>simp only[mz]at h⊢;exact ih (λx hx=>hl x (by simp[hx])) j id h
  exact this sel (λi hi=>by rw[<- hN];exact rJ i hi)
 let so:Own->Own:=λo=>{ o with row:=CR sel o.row }
 let vN:=(sel.filterMap (os[·]?)).map so
 have uK:(sel.filterMap (os[·]?)).length=sel.length:=by
  have :∀(l:List Nat),(∀i∈l,i<os.length)->(l.filterMap (os[·]?)).length=l.length:=λl=>by
   induction l with
   | nil=>simp
   | cons i l ih=>intro hl;rw[oM,mH (hl i (by simp))];simp[ih (λx hx=>hl x (by simp[hx]))]
  exact this sel (λi hi=>by rw[<- hN];exact rJ i hi)
 have rD:∀(j:Nat) (o:Own),vN[j]?=some o->∃id o0,sel[j]?=some id/\os[id]?=some o0/\o=so o0:=λj o h=>by
  simp only[vN,mG,mK]at h;obtain⟨o0,h0,rfl⟩:=h;have hj:j<sel.length:=by rw[<- uK];exact (mC.1 h0).1
  refine⟨sel[j],o0,mH hj,?_,rfl⟩;rw[<- te j _ (mH hj)];exact h0
 have vx:∀id j,idx sel id=some j->vN[j]?=(os[id]?).map so:=λid j hj=>by
  simp only[vN,mG];rw[te j id (Qh hj)]
 have wY:∀x v,Ae F w os x v->Ae F w vN (It sel x) v:=λx v h=>by
  cases x with
  | own id g n=>
   simp only[It];split
   ·rename_i j hj;simp only[Ae]at h⊢;obtain⟨o,h1,h2,h3,h4⟩:=h;exact⟨so o,by rw[vx id j hj,h1];rfl,h2,h3,λhg=>by
     obtain⟨a1,a2⟩:=h4 hg;exact⟨by simpa [so,CR] using a1,by simpa [so,CR] using a2⟩⟩
   ·simp[Ae]
  | ptr id g i off=>
   simp only[It];split
   ·rename_i j hj;simp only[Ae]at h⊢;obtain⟨o,h1,h2,h3,h4⟩:=h;exact⟨so o,by rw[vx id j hj,h1];rfl,h2,h3,λhg=>by
     obtain⟨a1,a2,a3⟩:=h4 hg;exact⟨by simpa [so,CR] using a1,a2,a3⟩⟩
   ·simp[Ae]
  | fn f cs=>simp[It,Ae]
  | agg cs=>simp[It,Ae]
  | DX cs=>simp[It,Ae]
  | _=>simp only[It,Ae]at h⊢<;>exact h
 have th:∀x v,Ae F w os x v->Ae F w vN (Ku sel x) v:=NN wY;have tj:∀cs us,Ba F w os cs us->Ba F w vN (cs.map (Ku sel)) us:=λcs us h=>
  Ds (by simp[BJ h]) λi x u hx hu=>by
   simp only[mG,mK]at hx;obtain⟨y,hy,rfl⟩:=hx;obtain⟨u',sa,sx⟩:=CD h i y hy;rw[sa]at hu;cases hu;exact th _ _ sx
 have zX:∀x v,Ae F w os x v->Ae F w vN (Ke sel x) v:=λx v h=>by
  cases x with
  | fn f cs=>simp only[Ke,Ae]at h⊢;obtain⟨us,e,hl⟩:=h;exact⟨us,e,tj _ _ hl⟩
  | agg cs=>simp only[Ke,Ae]at h⊢;obtain⟨us,e,hl⟩:=h;exact⟨us,e,tj _ _ hl⟩
  | DX cs=>simp only[Ke,Ae]at h⊢;obtain⟨us,e,hl⟩:=h;exact⟨us,e,tj _ _ hl⟩
  | _=>exact th _ _ h
 have vT:vN.map Own.row=(Cr s.st sel).map (CR sel):=by
  have h0:os.map Own.row=s.st:=hr.st;simp only[vN,ny,Cr];rw[<- h0];have hco:Own.row∘so=CR sel∘Own.row:=rfl;rw[hco,<- ny,pa];congr 1;simp[pe]
 have hSO:GU F vN ((Cr s.st sel).map (CR sel)) w:=by
  refine⟨vT,λj o ho=>?_,λi j oi oj b hi hj sS sj=>?_,hr.F6⟩
  ·obtain⟨id,o0,tv,ho0,rfl⟩:=rD j o ho;have qu:=hr.rows id o0 ho0;have hm:CR sel o0.row∈(Cr s.st sel).map (CR sel):=by
    rw[<- vT];exact mU.2 ⟨so o0,mB ho,rfl⟩
   refine⟨qu.pos,λx hx=>⟨?_,hl0 _ hm x hx⟩,λhb=>?_,λb hb=>?_,qu.mo,qu.deep.mapped (Ku sel) (λ_ _ _ _ h=>ZR h) rfl rfl rfl rfl⟩
   ·simp only[so,CR,mU]at hx;obtain⟨y,hy,rfl⟩:=hx;simpa [so,CR] using (qu.lens y hy).1
   ·obtain⟨h1,h2⟩:=qu.none hb;exact⟨by simp[so,CR,h1],h2⟩
   ·obtain⟨h1,cur,h2,h3,h4,h5,h6⟩:=qu.some b hb;refine⟨h1,cur,h2,h3,by simpa [so,CR] using h4,h5,λi x hx j' c hc=>?_⟩;simp only[so,CR,mG,mK]at hx;obtain⟨y,hy,rfl⟩:=hx;simp only[mG,mK]at hc;obtain⟨c0,tK,rfl⟩:=hc;obtain⟨u,e1,e2⟩:=h6 i y hy j' c0 tK;exact⟨u,e1,th _ _ e2⟩
  ·obtain⟨id,o0,tv,ho0,rfl⟩:=rD i oi hi;obtain⟨sH,o0',hid',ho0',rfl⟩:=rD j oj hj;have he:=hr.inj id sH o0 o0' b ho0 ho0' sS sj;subst he;have h1:=Ys sy tv;rw[Ys sy hid']at h1;exact (qC h1).symm
 have hlA:Ba F w vN sG vs:=by
  subst sI;exact Ds (by simp[BJ hl]) λi x u hx hu=>by
   simp only[mG,mK]at hx;obtain⟨y,hy,rfl⟩:=hx;obtain⟨u',sa,sx⟩:=CD hl i y hy;rw[sa]at hu;cases hu;exact zX _ _ sx
 refine (h F vN w vs hSO hlA).mono ?_;rintro e w' ⟨u,r,st',F',os',rfl,⟨rfl,rfl⟩,uj,hru,he⟩;have vR:os'.length=sel.length+rows2.length:=by
  have:=mr List.length uj.st;rw[mO,ml]at this;omega
 have uq:((Cr s.st sel).map (CR sel)).length=sel.length:=by
  rw[<- vT];simp[vN,uK]
 let N:=s.st.length
 let un:Own->Own:=λo=>{ o with row:=I6 sel N o.row }
 let f2:Nat->Own->Own:=λi o=>match idx sel i with|some p=>(match os'[p]? with|some o'=>un o'|none=>o)|none=>o
 let os2:=os.mapIdx f2++(os'.drop sel.length).map un
 have hNl:(os.mapIdx f2).length=N:=by simp[N,hN]
 have hgL:∀i,i<N->os2[i]?=(os[i]?).map (f2 i):=λi hi=>by
  simp only[os2];rw[mM (by omega),pV]
 have hgP:∀p o',os'[p]?=some o'->os2[pos sel N p]?=some (un o'):=λp o' rW=>by
  unfold pos;split
  ·rename_i j hj;have hjN:j<N:=rJ j (mB hj);rw[hgL j hjN,mH (by omega)];simp only[nC,f2,Ys sy hj,rW]
  ·rename_i hn;have hp:sel.length<=p:=List.getElem?_eq_none_iff.1 hn;simp only[os2];rw[mP (by omega),hNl,mG,nP,show sel.length+(p-sel.length+N-N)=p by omega,rW];rfl
 have hgO:∀i,i<N->idx sel i=none->os2[i]?=os[i]?:=λi hi hx=>by
  rw[hgL i hi];have:f2 i=id:=by funext o;simp[f2,hx]
  rw[this,Option.map_id];rfl
 have tT:∀i o,os2[i]?=some o->(∃p o',os'[p]?=some o'/\o=un o'/\i=pos sel N p)∨(i<N/\idx sel i=none/\os[i]?=some o):=λi o ho=>by
  rcases oO i N with hi|hi
  ·rcases hx:idx sel i with _|p
   ·exact .inr ⟨hi,rfl,by rw[<- hgO i hi hx];exact ho⟩
   ·have hp:=Qh hx;have hpl2:p<os'.length:=by have:=(mC.1 hp).1;omega
    have h1:=hgP p _ (mH hpl2);have h2:pos sel N p=i:=by unfold pos;rw[hp]
    rw[h2,ho]at h1;exact .inl ⟨p,_,mH hpl2,qC h1,h2.symm⟩
  ·have vG:=ho;simp only[os2]at vG;rw[mP (by omega),hNl,mG,mK]at vG;obtain⟨o',h1,h2⟩:=vG;rw[nP]at h1;refine .inl ⟨_,o',h1,h2.symm,?_⟩;unfold pos;rw[List.getElem?_eq_none_iff.2 (by omega)];simp only;omega
 have yZ:Ex os os2:=λi o ho=>by
  have hiN:i<N:=by have:=(mC.1 ho).1;omega
  rcases hx:idx sel i with _|p
  ·exact⟨o,by rw[hgO i hiN hx];exact ho,mS _,rfl,λ_=>⟨rfl,rfl,rfl⟩⟩
  ·have hp:=Qh hx;have h1:vN[p]?=some (so o):=by rw[vx i p hx,ho];rfl
   obtain⟨o',rW,e1,e2,e3⟩:=he.cZ p (so o) (by rw[uq];exact (mC.1 hp).1) h1;refine⟨un o',?_,e1,e2,λhg=>?_⟩
   ·have:=hgP p o' rW;unfold pos at this;rw[hp]at this;exact this
   ·obtain⟨g1,g2,g3⟩:=e3 hg;exact⟨g1,g2,by simpa [so,un,CR,I6] using g3⟩
 have rC:∀x v,Ae F w os x v->Ae F' w' os2 x v:=λx v h=>EJ he.OO he.H8 os _ yZ x v h;have hun0:∀x v,Ae F' w' os' x v->Ae F' w' os2 (QR sel N x) v:=λx v h=>by
  cases x with
  | own id g n=>
   simp only[QR,Ae]at h⊢;obtain⟨o,h1,h2,h3,h4⟩:=h;exact⟨un o,hgP _ _ h1,h2,h3,λhg=>by
    obtain⟨a1,a2⟩:=h4 hg;exact⟨by simpa [un,I6] using a1,by simpa [un,I6] using a2⟩⟩
  | ptr id g i off=>
   simp only[QR,Ae]at h⊢;obtain⟨o,h1,h2,h3,h4⟩:=h;exact⟨un o,hgP _ _ h1,h2,h3,λhg=>by
    obtain⟨a1,a2,a3⟩:=h4 hg;exact⟨by simpa [un,I6] using a1,a2,a3⟩⟩
  | fn f cs=>simp[QR,Ae]
  | agg cs=>simp[QR,Ae]
  | DX cs=>simp[QR,Ae]
  | _=>simp only[QR,Ae]at h⊢<;>exact h
 have zY:∀x v,Ae F' w' os' x v->Ae F' w' os2 (N3 sel N x) v:=NN hun0;have zZ:∀cs us,Ba F' w' os' cs us->Ba F' w' os2 (cs.map (N3 sel N)) us:=λcs us h=>
  Ds (by simp[BJ h]) λi x u hx hu=>by
   simp only[mG,mK]at hx;obtain⟨y,hy,rfl⟩:=hx;obtain⟨u',sa,sx⟩:=CD h i y hy;rw[sa]at hu;cases hu;exact zY _ _ sx
 have hunr:∀x v,Ae F' w' os' x v->Ae F' w' os2 (X8 sel N x) v:=λx v h=>by
  cases x with
  | fn f cs=>simp only[X8,Ae]at h⊢;obtain⟨us,e,hl⟩:=h;exact⟨us,e,zZ _ _ hl⟩
  | agg cs=>simp only[X8,Ae]at h⊢;obtain⟨us,e,hl⟩:=h;exact⟨us,e,zZ _ _ hl⟩
  | DX cs=>simp only[X8,Ae]at h⊢;obtain⟨us,e,hl⟩:=h;exact⟨us,e,zZ _ _ hl⟩
  | _=>exact zY _ _ h
 have hB:∀(i:Nat) (o:Own),idx sel i=none->os[i]?=some o->∀b,o.owns b->w'.heap[b]?=w.heap[b]?/\¬ F' b/\∀o1:Own,o1∈os'->¬ o1.owns b:=λi o hx ho b hb=>by
  refine he.other b ((hr.rows _ o ho).lt hb) ((hr.rows _ o ho).nF hb) λoA vU e=>?_;obtain⟨j,hj⟩:=ma.1 vU;obtain⟨id,o0,tv,ho0,rfl⟩:=rD j oA hj;have:=hr.inj id i o0 o b ho0 ho e hb;subst this;exact dY hx (mB tv)
 have sM:os2.map Own.row=Jg sel (rows1.map (I6 sel N)) 0 s.st++rows2.map (I6 sel N):=by
  simp only[os2,mu];have rH:os'.map Own.row=rows1++rows2:=uj.st;congr 1
  ·apply pJ;intro i;rw[mG,pV,SN,nS];have h0:os.map Own.row=s.st:=hr.st;rw[<- h0,mG];cases hoi:os[i]? with
   | none=>rfl
   | some o=>
    simp only[nC,f2];cases hx:idx sel i with
    | none=>rfl
    | some p=>
     have hpm:p<sel.length:=(mC.1 (Qh hx)).1;have wH:p<os'.length:=by omega
     have h3:(os'.map Own.row)[p]?=rows1[p]?:=by rw[rH,mM (by omega)]
     rw[mG,mH wH]at h3;simp only[mG,mH wH,<- h3,nC,un]
  ·rw[ny];have hco:Own.row∘un=I6 sel N∘Own.row:=rfl;rw[hco,<- ny,List.map_drop,rH];simp[<- hlen]
 have hkept:Ve ((Cr s.st sel).map (CR sel)) rows1:=λj r0 r1 h0 h1 hg=>by
  have hj:j<((Cr s.st sel).map (CR sel)).length:=(mC.1 h0).1;rw[<- vT,mG,mK]at h0;obtain⟨oA,vU,rfl⟩:=h0;obtain⟨o',rW,_,_,e3⟩:=he.cZ j oA hj vU;have uW:os'.map Own.row=rows1++rows2:=uj.st;have h2:(rows1++rows2)[j]?=some o'.row:=by rw[<- uW,mG,rW];rfl
  rw[mM (mC.1 h1).1,h1]at h2;cases h2;exact (e3 hg).2.2
 refine⟨u,_,_,F',os2,rfl,hK hkept,⟨sM,λt=>rC _ _ (hr.env t),hr.size,λi o ho=>?_,λi j oi oj b hi hj sS sj=>?_,uj.F6,hr.defers⟩,hunr _ _ hru,⟨he.sys,he.tape,he.output,he.size,he.OO,he.H8,λb hb h1 h2=>?_,λi o hi ho=>yZ i o ho⟩⟩
 ·rcases tT i o ho with ⟨p,o',hp,rfl,rfl⟩|⟨h1,h2,vG⟩
  ·have qu:=uj.rows p o' hp;refine⟨qu.pos,λx hx=>?_,λhb=>?_,λb hb=>?_,qu.mo,qu.deep.mapped (N3 sel N) (λ_ _ _ _ h=>fQ h) rfl rfl rfl rfl⟩
   ·simp only[un,I6,mU]at hx;obtain⟨y,hy,rfl⟩:=hx;obtain⟨g1,g2⟩:=qu.lens y hy;refine⟨by simpa [un,I6] using g1,λc hc=>?_⟩;obtain⟨c0,tK,rfl⟩:=mU.1 hc;have hmem:o'.row∈rows1++rows2:=by rw[<- uj.st];exact mU.2 ⟨o',mB hp,rfl⟩
    exact hL _ hmem y hy c0 tK (g2 c0 tK)
   ·obtain⟨h1,h2⟩:=qu.none hb;exact⟨by simp[un,I6,h1],h2⟩
   ·obtain⟨e1,cur,e2,e3,e4,e5,e6⟩:=qu.some b hb;refine⟨e1,cur,e2,e3,by simpa [un,I6] using e4,e5,λi' x hx q c hc=>?_⟩;simp only[un,I6,mG,mK]at hx;obtain⟨y,hy,rfl⟩:=hx;simp only[mG,mK]at hc;obtain⟨c0,tK,rfl⟩:=hc;obtain⟨u',f1,f2⟩:=e6 i' y hy q c0 tK;exact⟨u',f1,zY _ _ f2⟩
  ·have qu:=hr.rows _ o vG;refine⟨qu.pos,qu.lens,qu.none,λb hb=>?_,λb hb=>⟨(hB _ o h2 vG b (.inr hb)).2.1,nL (qu.mo b hb).2.1 he.size,(qu.mo b hb).2.2⟩,
    qu.deep.keep rfl (λ_ h=>h) rfl (λb hb=>(hB _ o h2 vG b hb).1) (λi x j e s ys hx hc=>⟨x,hx,hc⟩)⟩
   obtain⟨e1,cur,e2,e3,e4,e5,e6⟩:=qu.some b hb;obtain⟨g1,g2,_⟩:=hB _ o h2 vG b (.inl hb);refine⟨g2,cur,by rw[g1];exact e2,e3,e4,e5,λi' x hx j c hc=>?_⟩;obtain⟨u',f1,f2⟩:=e6 i' x hx j c hc;exact⟨u',f1,rC _ _ f2⟩
 ·rcases tT i oi hi with ⟨p,o',hp,rfl,rfl⟩|⟨h1,h2,xM⟩<;>rcases tT j oj hj with ⟨p2,o2',hp2,rfl,rfl⟩|⟨h3,h4,vS⟩
  ·have:=uj.inj p p2 o' o2' b hp hp2 sS sj;rw[this]
  ·exact absurd sS ((hB _ oj h4 vS b sj).2.2 o' (mB hp))
  ·exact absurd sj ((hB _ oi h2 xM b sS).2.2 o2' (mB hp2))
  ·exact hr.inj i j oi oj b xM vS sS sj
 ·have h3:∀o∈vN,¬ o.owns b:=λo ho=>by
   obtain⟨j,hj⟩:=ma.1 ho;obtain⟨id,o0,tv,ho0,rfl⟩:=rD j o hj;exact h2 o0 (mB ho0)
  obtain⟨g1,g2,g3⟩:=he.other b hb h1 h3;refine⟨g1,g2,λo ho=>?_⟩;obtain⟨i,hi⟩:=ma.1 ho;rcases tT i o hi with ⟨p,o',hp,rfl,rfl⟩|⟨_,_,vG⟩
  ·exact g3 o' (mB hp)
  ·exact h2 o (mB vG)
inductive UN (sel:List Nat) (N:Nat):List Row->List Row->Prop
 | nil:UN sel N [] []
 | deep {g size:Nat} {el:TypeId} {xs:List (List AV)} {r r':List Row} (hp:DF xs) (hl:UN sel N r r'):UN sel N (⟨g,el,size,xs⟩::r) (⟨g,el,size,xs⟩::r')
 | raw {g size:Nat} {el:TypeId} {cs cs':List AV} {r r':List Row} (hc:cs.map (N3 sel N)=cs') (hp:cs'.all AV.leaf=true) (hl:UN sel N r r'):UN sel N (⟨g,el,size,[cs]⟩::r) (⟨g,el,size,[cs']⟩::r')
theorem UN.pure {sel:List Nat}{N g size:Nat}{el:TypeId}{xs:List (List AV)}{r r':List Row}(hp:G1 xs)(hl:UN sel N r r'):UN sel N (⟨g,el,size,xs⟩::r) (⟨g,el,size,xs⟩::r'):=.deep hp.any hl
theorem RK {sel:List Nat}{N:Nat}{c:AV}(h:Em c=true):N3 sel N c=c:=by cases c<;>simp[Em,simple,N3,two,QR]at h⊢
theorem UN.leaf {sel:List Nat}{N:Nat}:∀{l l':List Row},UN sel N l l'->∀row∈l,∀x∈row.xs,∀c∈x,c.kept=true->(N3 sel N c).kept=true
 | _,_,.nil,_,h=>by cases h
 | _,_,.deep hp hl,row,hm=>by
  rcases mc.1 hm with rfl|hm
  ·intro x hx c hc h;rw[RK (hp x hx c hc)];exact h
  ·exact UN.leaf hl row hm
 | _,_,.raw hc hp hl,row,hm=>by
  rcases mc.1 hm with rfl|hm
  ·intro x hx c xP _;simp only[mv]at hx;subst hx;exact Dr (mL.1 hp _ (by rw[<- hc];exact mU.2 ⟨c,xP,rfl⟩))
  ·exact UN.leaf hl row hm
theorem UN.spec {sel:List Nat}{N:Nat}:∀{l l':List Row},UN sel N l l'->l.map (I6 sel N)=l'
 | _,_,.nil=>rfl
 | _,_,.deep hp hl=>by
  simp only[mg,UN.spec hl];congr 1;simp only[I6];congr 1;refine (mj (g:=id) λx hx=>?_).trans (nq _);refine (mj (g:=id) λc hc=>?_).trans (nq _);exact RK (hp x hx c hc)
 | _,_,.raw hc _ hl=>by simp only[mg,UN.spec hl,I6,oI,hc]
theorem QQ {f:FuncId}{args:List AV}{d:Option Tmp}{K:St->Prop}(h:(∀row∈s.st,∀x∈row.xs,∀c∈x,c.kept=true)->callThen P k s f args d K):callThen P k s f args d K:=
 λF os a w vs hr hl=>h (Qk hr) F os a w vs hr hl
section
variable {ops : Array Oper} {Q : Exit -> St -> Prop} {ds : List (Option Tmp)} {r : List Oper} {n : Nat} {e : Nat -> AV} {st st' : List Row} {ty : TypeId} {ps : String} {ed : Array Edge} {d : Option Tmp} {v v' : AV} {gd : Option (Nat × Bool)}
variable {f : FuncId} {sm : Array Operand} {ts : Array TypeId} {args sG : List AV} {rowsP rows0 rows1 rows1' rows2 rows2' : List Row}
theorem GC (sel:List Nat)(hg:GO ds gd e)(hb:Er P f=true)(hc:AS P f sG rows0 λr st=>r=v/\st=rows1++rows2)(ha:sm.toList.map (St.ev ⟨n,e,st⟩)++[]=args)(sy:sel.Nodup)(rJ:sel.all (·<st.length)=true)
  (hp:Cr st sel=rowsP) (hs:SR sel rowsP rows0) (hf:args.map (Ke sel)=sG) (hlen:rows1.length=sel.length) (h1:UN sel st.length rows1 rows1') (h2:UN sel st.length rows2 rows2') (hv:X8 sel st.length v=v') (uW:Jg sel rows1' 0 st++rows2'=st')
  (hk:Ve rows0 rows1->AO P k ops Q (ds++[d]) r (St.put ⟨n,e,st'⟩ d v')):AO P k ops Q ds (⟨d,.call ⟨.value (.func f),sm,ts⟩,ty,ps,ed,gd⟩::r) ⟨n,e,st⟩:=by
 subst uW;subst ha;subst hv;subst hp;refine Mf hg ?_;rw[L4];refine⟨hb,QQ λhle=>?_⟩;obtain⟨e1,e2⟩:=hs.spec (st0:=st) hle (λrow qo=>by
  obtain⟨i,_,hi⟩:=nr.1 qo;exact mB hi)
 refine RX sel hc sy (λi hi=>by simpa using mL.1 rJ i hi) e1 e2 hf hlen (λrow qo=>by
  rcases my.1 qo with h|h
  ·exact h1.leaf row h
  ·exact h2.leaf row h) λzW=>?_
 simp only[h1.spec,h2.spec];exact hk zW
theorem Oa (sel:List Nat)(hg:GO ds gd e)(hb:Er P f=true)(hc:AS P f sG rows0 λr st=>r=v/\st=rows1++rows2)(ha:sm.toList.map (St.ev ⟨n,e,st⟩)++[]=args)(sy:sel.Nodup)(rJ:sel.all (·<st.length)=true)
  (hp:Cr st sel=rowsP) (hs:SR sel rowsP rows0) (hf:args.map (Ke sel)=sG) (hlen:rows1.length=sel.length) (h1:UN sel st.length rows1 rows1') (h2:UN sel st.length rows2 rows2') (hv:X8 sel st.length v=v') (uW:Jg sel rows1' 0 st++rows2'=st')
  (hk:AO P k ops Q (ds++[d]) r (St.put ⟨n,e,st'⟩ d v')):AO P k ops Q ds (⟨d,.call ⟨.value (.func f),sm,ts⟩,ty,ps,ed,gd⟩::r) ⟨n,e,st⟩:=
 GC sel hg hb hc ha sy rJ hp hs hf hlen h1 h2 hv uW λ_=>hk
end
theorem QE {k n:Nat}{e:Nat->AV}{st st1 st':List Row}{L:List (Nat×AV)}(sel:List Nat)(hk:sel.take k=List.range k)(sy:sel.Nodup)(rJ:sel.all (·<st.length)=true)(hp:Cr st sel=st1)(hs:SR sel st1 st')(h:ME (λt=>Ke sel (e t)) L):
  Wk k ⟨n,e,st⟩ ⟨n,AN L,st'⟩:=λF os a w hr=>by
 have hle:=Qk hr;obtain⟨h1,h2⟩:=hs.spec (st0:=st) hle (λrow qo=>by
  rw[<- hp]at qo;obtain⟨i,_,hi⟩:=nr.1 qo;exact mB hi)
 exact WR sel hk sy rJ (by rw[hp];exact h1) h2 h F os a w hr
theorem Wk.jz {k n:Nat}{e:Nat->AV}{st st1 st':List Row}{L:List (Nat×AV)}(sel:List Nat)(hk:sel.take k=List.range k)(_:SR sel (st.take k) (st.take k))(sy:sel.Nodup)(rJ:sel.all (·<st.length)=true)(hp:Cr st sel=st1)(hs:SR sel st1 st')(h:ME (λt=>Ke sel (e t)) L):
  Wk k ⟨n,e,st⟩ ⟨n,AN L,st'⟩:=QE sel hk sy rJ hp hs h
theorem AS.wk {P:Program}{f:FuncId}{args:List AV}{rows st0 st1:List Row}{r0 r1:AV}(h:AS P f args rows λr st=>r=r0/\st=st0)(hw:Wk rows.length ⟨1,AN [(0,r0)],st0⟩ ⟨1,AN [(0,r1)],st1⟩):
  AS P f args rows λr st=>r=r1/\st=st1:=by
 intro F os w vs hs hl;refine (h F os w vs hs hl).mono ?_;rintro e w' ⟨v,r,st',F',os',rfl,⟨rfl,rfl⟩,h1,h2,h3⟩;have rT:Rel F' os' ⟨1,AN [(0,r)],st'⟩ { tmps:=#[v],defers:=[] } w':=by
  refine⟨h1.st,λt=>?_,rfl,h1.rows,h1.inj,h1.F6,rfl⟩;simp only[AN];split
  ·rename_i ht;subst ht;exact h2
  ·simp[Ae]
 obtain⟨F2,os2,h4,h5⟩:=hw F' os' _ w' rT;refine⟨v,r1,st1,F2,os2,rfl,⟨rfl,rfl⟩,⟨h4.st,h4.rows,h4.inj,h4.F6⟩,?_,h3.trans h5⟩;have:=h4.env 0;simpa [AN] using this
theorem le.Hr {α:Type}{id g m:Nat}{l:List α}{enc:α->List AV}(h:m=l.length):le (Abs.Hr id g (l.map enc) (.own id g m)) (.sl (l.map enc)):=le.of (bT h)
theorem Rel.bare {F:Nat->Prop}{os:List Own}{s:St}{a:Act}{w:World}(hr:Rel F os s a w):Rel F [] ⟨s.n,λ_=>.FN,[]⟩ a w:=
 ⟨rfl,λ_=>by simp[Ae],hr.size,by simp,by simp,hr.F6,hr.defers⟩
theorem Lf {P:Program}{F:Nat->Prop}{os:List Own}{s:St}{a:Act}{w:World}{k:Nat}{OZ:Sem Value}{v0 v:AV}{st0:List Row}(hr:Rel F os s a w)
  (he:HG P 0 F [] ⟨s.n,λ_=>.FN,[]⟩ a w OZ λx st=>x=v0/\st=st0) (hw:Wk 0 ⟨1,AN [(0,v0)],st0⟩ ⟨1,AN [(0,v)],[]⟩) (hv:flat v=true) :
  ∃u w' F',OZ.run P w=.ok u w'/\Rel F' os s a w'/\Ae F' w' os v u/\Ext F os w F' os w' k:=by
 obtain⟨x,st',u,w',rj,⟨rfl,rfl⟩,h2,h3,h4,h5⟩:=he;have rT:Rel F rj ⟨1,AN [(0,x)],st'⟩ { tmps:=#[u],defers:=[] } w':=by
  refine⟨h3.st,λt=>?_,rfl,h3.rows,h3.inj,h3.F6,rfl⟩;simp only[AN];split
  ·rename_i ht;subst ht;exact h4
  ·simp[Ae]
 obtain⟨F2,os2,h6,h7⟩:=hw F rj _ w' rT;have zT:os2=[]:=by have:=h6.st;simpa using this
 subst zT;obtain⟨g1,g2,_⟩:=hr.after (k:=k) (h5.trans h7) h6.F6;exact⟨u,w',F2,h2,g1,Mw hv os (by have:=h6.env 0;simpa [AN] using this),g2⟩
section
variable {P : Program} {ds : List (Option Tmp)} {r : List Oper} {n : Nat} {e : Nat -> AV} {st : List Row} {ty : TypeId} {ps : String} {ed : Array Edge} {t : Tmp} {gd : Option (Nat × Bool)} {KS : St -> Prop}
variable {α : Type} {l : List α} {enc : α -> List AV} {el T : TypeId} {size bytes : Nat} {zz cs : List AV}
theorem R6 (hp:G1 (l.map enc)):Wk 0 ⟨1,AN [(0,.own 0 0 l.length)],[⟨0,el,size,l.map enc⟩]⟩ ⟨1,AN [(0,.sl (l.map enc))],[]⟩:=
 (Wk.CQ (n:=1) (e:=AN [(0,.own 0 0 l.length)]) (st:=[⟨0,el,size,l.map enc⟩]) (L:=[(0,.sl (l.map enc))]) (st':=[⟨1,el,size,[]⟩]) (id:=0) rfl (mV _) hp ⟨.CQ rfl,mD⟩ rfl).trans
  (GA (L:=[(0,.sl (l.map enc))]) (st':=[]) [] rfl (by decide) rfl rfl mD ⟨.rfl,mD⟩)
theorem XU {len:Nat}{parts:Array (Nat×Operand)}{pv:List (Nat×AV)}(hg:GO ds gd e)(he:Cj P T=some ⟨el,size,bytes,zz⟩)(hle:len*size<=16777216)(hp:(parts.toList.map λp=>(p.1,St.ev ⟨n,e,st⟩ p.2))=pv)
  (xh:(pv.all λp=>flat p.2)=true) (hc:OF (λi=>some (i*size,size)) ((List.replicate len zz).flatten) pv=some cs) (hck:chunk size len cs=l.map enc) (zW:len=l.length) (hpu:G1 (l.map enc))
  (hk:Di P (ds++[some t]) r KS ⟨n,FY e t (.sl (l.map enc)),st⟩):Di P ds (⟨some t,.buildSlice T len parts,ty,ps,ed,gd⟩::r) KS ⟨n,e,st⟩:=by
 refine eZ hg rfl (λs0 e1 e2 hd k F os a w hr next Q hn=>?_) hk;have yb:(parts.toList.map λp=>(p.1,s0.ev p.2))=pv:=by
  rw[<- hp];refine mj λp wH=>?_;rw[e2 p.2 (by simp only[Op.operands,pR,mU];exact⟨p,by simpa using wH,rfl⟩)]
 have h9:HG P 0 F [] ⟨s0.n,λ_=>.FN,[]⟩ a w (Instr.buildSlice T len (parts.map λ(i,x)=>(i,a.eval x))) (λx st=>x=.own 0 0 l.length/\st=[⟨0,el,size,l.map enc⟩]):=by
  refine MZ (parts:=pv) hr.bare (Ak _ he ⟨hle,Ak _ hc (by subst zW;rw[hck];exact⟨rfl,rfl⟩)⟩) (by rw[<- yb];simp) λi p up hp wV=>?_;have xI:flat p.2=true:=mL.1 xh p (mB hp);rw[<- yb]at hp;simp only[mG,mK,pP]at hp wV;obtain⟨q,hq,rfl⟩:=hp;obtain⟨q',uu,rfl⟩:=wV;rw[hq]at uu;cases uu;exact Mw xI [] (hr.ev _)
 obtain⟨u,w',F',g1,g2,g3,g4⟩:=Lf (k:=k) hr h9 (R6 hpu) rfl;unfold Oper.wp;simp only[execOp,nA,g1,mw,nY,Oper.upon];exact hn _ _ (ND (st':=s0.st) hd rfl g2 g3 g4)
end
end Go.Abs
