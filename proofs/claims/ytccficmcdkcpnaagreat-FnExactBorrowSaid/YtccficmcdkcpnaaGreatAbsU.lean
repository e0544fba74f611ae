import Derived.Test.YtccficmcdkcpnaaGreatAbsT
set_option linter.all false
namespace Go.Abs
open Go
variable {P : Program} {F : Nat -> Prop} {os : List Own} {s : St} {a : Act} {w : World} {k : Nat}
def pos (sel:List Nat)(N p:Nat):Nat:=match sel[p]? with|some j=>j|none=>p-sel.length+N
def PR (sel:List Nat)(N:Nat):AV->AV
 | .own id g n=>.own (pos sel N id) g n
 | .ptr id g i off=>.ptr (pos sel N id) g i off
 | .fn ..|.agg _|.C7 _=>.FQ
 | v=>v
def Md (sel:List Nat)(N:Nat)(x:AV):AV:=two (PR sel N) x
theorem ft {sel:List Nat}{N:Nat}{c:AV}{el s:Nat}{ys:List (List AV)}(h:Md sel N c=.dv el s ys):c=.dv el s ys:=by
 refine YN (X:=PR sel N) (λc h=>?_) h;cases c<;>simp only[PR]at h<;>first|exact h|cases h
def YI (sel:List Nat)(N:Nat):AV->AV
 | .fn f cs=>.fn f (cs.map (Md sel N))
 | .agg cs=>.agg (cs.map (Md sel N))
 | .C7 cs=>.C7 (cs.map (Md sel N))
 | v=>Md sel N v
def Hy (sel:List Nat)(N:Nat)(row:Row):Row:={ row with xs:=row.xs.map (·.map (Md sel N)) }
def IH (sel:List Nat)(rs:List Row):Nat->List Row->List Row
 | _,[]=>[]
 | i,row::st=>(match idx sel i with|some p=>(match rs[p]? with|some r=>r|none=>row)|none=>row)::IH sel rs (i+1) st
theorem R7 {sel:List Nat}{rs:List Row}:∀(st:List Row) (i j:Nat),(IH sel rs i st)[j]?=(st[j]?).map λrow=>match idx sel (i+j) with|some p=>(match rs[p]? with|some r=>r|none=>row)|none=>row
 | [],i,j=>by simp[IH]
 | row::st,i,0=>by simp[IH]
 | row::st,i,j+1=>by
  simp only[IH,nV];rw[R7 st (i+1) j,show i+1+j=i+(j+1) by omega]
theorem QD {sel:List Nat}{id j:Nat}(h:idx sel id=some j):sel[j]?=some id:=by
 unfold idx at h;rw[oZ]at h;obtain⟨h1,h2,_⟩:=h;rw[mY h1];simpa using h2
theorem X3 {sel:List Nat}(tX:sel.Nodup){id j:Nat}(h:sel[j]?=some id):idx sel id=some j:=by
 unfold idx;obtain⟨h1,h2⟩:=mT.1 h;rw[oZ];refine⟨h1,by simp[h2],λi hi=>?_⟩;have:=pa.1 tX i j (by omega) h1 hi;simp only[beq_iff_eq,ne_eq,qW,beq_eq_false_iff_ne];rw[<- h2];exact this
theorem dD {sel:List Nat}{id:Nat}(h:idx sel id=none):id ∉ sel:=by
 unfold idx at h;rw[List.findIdx?_eq_none_iff]at h;intro hm;simpa using h id hm
def Vc (rows0 rows1:List Row):Prop:=∀(j:Nat) r0 r1,rows0[j]?=some r0->rows1[j]?=some r1->r1.gen=r0.gen->r1.xs.length=r0.xs.length
theorem Q0 {f:FuncId}{args sO:List AV}{d:Option Tmp}{K:St->Prop}{rows0 rows1 rows2:List Row}{v:AV}(sel:List Nat)(h:BJ P f sO rows0 λr st=>r=v/\st=rows1++rows2)
  (tX:sel.Nodup) (rh :∀i∈sel,i<s.st.length) (hs:(B9 s.st sel).map (Bh sel)=rows0) (hl0:KO rows0) (sS:args.map (Jg sel)=sO) (hlen:rows1.length=sel.length) (hL :∀row∈rows1++rows2,∀x∈row.xs,∀c∈x,c.kept=true->(Md sel s.st.length c).kept=true)
  (hK:Vc rows0 rows1->K ({ s with st:=IH sel (rows1.map (Hy sel s.st.length)) 0 s.st++rows2.map (Hy sel s.st.length) }.put d (YI sel s.st.length v))):callThen P k s f args d K:=by
 intro F os a w vs hr hl;subst hs;have hN:s.st.length=os.length:=hr.len;have uV:∀(j id:Nat),sel[j]?=some id->(sel.filterMap (os[·]?))[j]?=os[id]?:=by
  have :∀(l:List Nat),(∀i∈l,i<os.length)->∀(j id:Nat),l[j]?=some id->(l.filterMap (os[·]?))[j]?=os[id]?:=λl=>by
   induction l with
   | nil=>intro _ j id h;simp at h
   | cons i l ih=>
    intro hl j id h;have hi:=hl i (by simp);rw[pA,mY hi];cases j with
    | zero=>simp only[mw,mU]at h;subst h;simp[mY hi]
    | succ j=>simp only[nV]at h⊢;exact ih (λx hx=>hl x (by simp[hx])) j id h
  exact this sel (λi hi=>by rw[<- hN];exact rh i hi)
 let so:Own->Own:=λo=>{ o with row:=Bh sel o.row }
 let vj:=(sel.filterMap (os[·]?)).map so
 have uW:(sel.filterMap (os[·]?)).length=sel.length:=by
  have :∀(l:List Nat),(∀i∈l,i<os.length)->(l.filterMap (os[·]?)).length=l.length:=λl=>by
   induction l with
   | nil=>simp
   | cons i l ih=>intro hl;rw[pA,mY (hl i (by simp))];simp[ih (λx hx=>hl x (by simp[hx]))]
  exact this sel (λi hi=>by rw[<- hN];exact rh i hi)
 have rb:∀(j:Nat) (o:Own),vj[j]?=some o->∃id o0,sel[j]?=some id/\os[id]?=some o0/\o=so o0:=λj o h=>by
  simp only[vj,mX,mZ]at h;obtain⟨o0,h0,rfl⟩:=h;have hj:j<sel.length:=by rw[<- uW];exact (mT.1 h0).1
  refine⟨sel[j],o0,mY hj,?_,rfl⟩;rw[<- uV j _ (mY hj)];exact h0
 have wJ:∀id j,idx sel id=some j->vj[j]?=(os[id]?).map so:=λid j hj=>by
  simp only[vj,mX];rw[uV j id (QD hj)]
 have wu:∀x v,AU F w os x v->AU F w vj (Ho sel x) v:=λx v h=>by
  cases x with
  | own id g n=>
   simp only[Ho];split
   ·rename_i j hj;simp only[AU]at h⊢;obtain⟨o,h1,h2,h3,h4⟩:=h;exact⟨so o,by rw[wJ id j hj,h1];rfl,h2,h3,λhg=>by
     obtain⟨a1,a2⟩:=h4 hg;exact⟨by simpa [so,Bh] using a1,by simpa [so,Bh] using a2⟩⟩
   ·simp[AU]
  | ptr id g i off=>
   simp only[Ho];split
   ·rename_i j hj;simp only[AU]at h⊢;obtain⟨o,h1,h2,h3,h4⟩:=h;exact⟨so o,by rw[wJ id j hj,h1];rfl,h2,h3,λhg=>by
     obtain⟨a1,a2,a3⟩:=h4 hg;exact⟨by simpa [so,Bh] using a1,a2,a3⟩⟩
   ·simp[AU]
  | fn f cs=>simp[Ho,AU]
  | agg cs=>simp[Ho,AU]
  | C7 cs=>simp[Ho,AU]
  | _=>simp only[Ho,AU]at h⊢<;>exact h
 have uX:∀x v,AU F w os x v->AU F w vj (Ht sel x) v:=Nt wu;have uY:∀cs us,A7 F w os cs us->A7 F w vj (cs.map (Ht sel)) us:=λcs us h=>
  Cq (by simp[A3 h]) λi x u hx hu=>by
   simp only[mX,mZ]at hx;obtain⟨y,hy,rfl⟩:=hx;obtain⟨u',tZ,sw⟩:=BQ h i y hy;rw[tZ]at hu;cases hu;exact uX _ _ sw
 have zJ:∀x v,AU F w os x v->AU F w vj (Jg sel x) v:=λx v h=>by
  cases x with
  | fn f cs=>simp only[Jg,AU]at h⊢;obtain⟨us,e,hl⟩:=h;exact⟨us,e,uY _ _ hl⟩
  | agg cs=>simp only[Jg,AU]at h⊢;obtain⟨us,e,hl⟩:=h;exact⟨us,e,uY _ _ hl⟩
  | C7 cs=>simp only[Jg,AU]at h⊢;obtain⟨us,e,hl⟩:=h;exact⟨us,e,uY _ _ hl⟩
  | _=>exact uX _ _ h
 have vp:vj.map Own.row=(B9 s.st sel).map (Bh sel):=by
  have h0:os.map Own.row=s.st:=hr.st;simp only[vj,oC,B9];rw[<- h0];have hco:Own.row∘so=Bh sel∘Own.row:=rfl;rw[hco,<- oC,qM];congr 1;simp[qP]
 have hSO:FT F vj ((B9 s.st sel).map (Bh sel)) w:=by
  refine⟨vp,λj o ho=>?_,λi j oi oj b hi hj uH uQ=>?_,hr.FU⟩
  ·obtain⟨id,o0,uj,ho0,rfl⟩:=rb j o ho;have rR:=hr.rows id o0 ho0;have hm:Bh sel o0.row∈(B9 s.st sel).map (Bh sel):=by
    rw[<- vp];exact mu.2 ⟨so o0,mS ho,rfl⟩
   refine⟨rR.pos,λx hx=>⟨?_,hl0 _ hm x hx⟩,λhb=>?_,λb hb=>?_,rR.mo,rR.deep.mapped (Ht sel) (λ_ _ _ _ h=>Zf h) rfl rfl rfl rfl⟩
   ·simp only[so,Bh,mu]at hx;obtain⟨y,hy,rfl⟩:=hx;simpa [so,Bh] using (rR.lens y hy).1
   ·obtain⟨h1,h2⟩:=rR.none hb;exact⟨by simp[so,Bh,h1],h2⟩
   ·obtain⟨h1,cur,h2,h3,h4,h5,h6⟩:=rR.some b hb;refine⟨h1,cur,h2,h3,by simpa [so,Bh] using h4,h5,λi x hx j' c hc=>?_⟩;simp only[so,Bh,mX,mZ]at hx;obtain⟨y,hy,rfl⟩:=hx;simp only[mX,mZ]at hc;obtain⟨c0,uF,rfl⟩:=hc;obtain⟨u,e1,e2⟩:=h6 i y hy j' c0 uF;exact⟨u,e1,uX _ _ e2⟩
  ·obtain⟨id,o0,uj,ho0,rfl⟩:=rb i oi hi;obtain⟨sm,o0',hid',ho0',rfl⟩:=rb j oj hj;have he:=hr.inj id sm o0 o0' b ho0 ho0' uH uQ;subst he;have h1:=X3 tX uj;rw[X3 tX hid']at h1;exact (qf h1).symm
 have hlA:A7 F w vj sO vs:=by
  subst sS;exact Cq (by simp[A3 hl]) λi x u hx hu=>by
   simp only[mX,mZ]at hx;obtain⟨y,hy,rfl⟩:=hx;obtain⟨u',tZ,sw⟩:=BQ hl i y hy;rw[tZ]at hu;cases hu;exact zJ _ _ sw
 refine (h F vj w vs hSO hlA).mono ?_;rintro e w' ⟨u,r,st',F',os',rfl,⟨rfl,rfl⟩,uD,hru,he⟩;have tY:os'.length=sel.length+rows2.length:=by
  have:=nO List.length uD.st;rw[mf,nW]at this;omega
 have vn:((B9 s.st sel).map (Bh sel)).length=sel.length:=by
  rw[<- vp];simp[vj,uW]
 let N:=s.st.length
 let un:Own->Own:=λo=>{ o with row:=Hy sel N o.row }
 let f2:Nat->Own->Own:=λi o=>match idx sel i with|some p=>(match os'[p]? with|some o'=>un o'|none=>o)|none=>o
 let os2:=os.mapIdx f2++(os'.drop sel.length).map un
 have hNl:(os.mapIdx f2).length=N:=by simp[N,hN]
 have hgL:∀i,i<N->os2[i]?=(os[i]?).map (f2 i):=λi hi=>by
  simp only[os2];rw[mg (by omega),List.getElem?_mapIdx]
 have hgP:∀p o',os'[p]?=some o'->os2[pos sel N p]?=some (un o'):=λp o' sA=>by
  unfold pos;split
  ·rename_i j hj;have hjN:j<N:=rh j (mS hj);rw[hgL j hjN,mY (by omega)];simp only[nS,f2,X3 tX hj,sA]
  ·rename_i hn;have hp:sel.length<=p:=List.getElem?_eq_none_iff.1 hn;simp only[os2];rw[mn (by omega),hNl,mX,ng,show sel.length+(p-sel.length+N-N)=p by omega,sA];rfl
 have hgO:∀i,i<N->idx sel i=none->os2[i]?=os[i]?:=λi hi hx=>by
  rw[hgL i hi];have:f2 i=id:=by funext o;simp[f2,hx]
  rw[this,Option.map_id];rfl
 have uI:∀i o,os2[i]?=some o->(∃p o',os'[p]?=some o'/\o=un o'/\i=pos sel N p)∨(i<N/\idx sel i=none/\os[i]?=some o):=λi o ho=>by
  rcases pC i N with hi|hi
  ·rcases hx:idx sel i with _|p
   ·exact .inr ⟨hi,rfl,by rw[<- hgO i hi hx];exact ho⟩
   ·have hp:=QD hx;have hpl2:p<os'.length:=by have:=(mT.1 hp).1;omega
    have h1:=hgP p _ (mY hpl2);have h2:pos sel N p=i:=by unfold pos;rw[hp]
    rw[h2,ho]at h1;exact .inl ⟨p,_,mY hpl2,qf h1,h2.symm⟩
  ·have vR:=ho;simp only[os2]at vR;rw[mn (by omega),hNl,mX,mZ]at vR;obtain⟨o',h1,h2⟩:=vR;rw[ng]at h1;refine .inl ⟨_,o',h1,h2.symm,?_⟩;unfold pos;rw[List.getElem?_eq_none_iff.2 (by omega)];simp only;omega
 have yM:DX os os2:=λi o ho=>by
  have hiN:i<N:=by have:=(mT.1 ho).1;omega
  rcases hx:idx sel i with _|p
  ·exact⟨o,by rw[hgO i hiN hx];exact ho,ml _,rfl,λ_=>⟨rfl,rfl,rfl⟩⟩
  ·have hp:=QD hx;have h1:vj[p]?=some (so o):=by rw[wJ i p hx,ho];rfl
   obtain⟨o',sA,e1,e2,e3⟩:=he.cf p (so o) (by rw[vn];exact (mT.1 hp).1) h1;refine⟨un o',?_,e1,e2,λhg=>?_⟩
   ·have:=hgP p o' sA;unfold pos at this;rw[hp]at this;exact this
   ·obtain⟨g1,g2,g3⟩:=e3 hg;exact⟨g1,g2,by simpa [so,un,Bh,Hy] using g3⟩
 have rZ:∀x v,AU F w os x v->AU F' w' os2 x v:=λx v h=>Cy he.Ng he.HP os _ yM x v h;have hun0:∀x v,AU F' w' os' x v->AU F' w' os2 (PR sel N x) v:=λx v h=>by
  cases x with
  | own id g n=>
   simp only[PR,AU]at h⊢;obtain⟨o,h1,h2,h3,h4⟩:=h;exact⟨un o,hgP _ _ h1,h2,h3,λhg=>by
    obtain⟨a1,a2⟩:=h4 hg;exact⟨by simpa [un,Hy] using a1,by simpa [un,Hy] using a2⟩⟩
  | ptr id g i off=>
   simp only[PR,AU]at h⊢;obtain⟨o,h1,h2,h3,h4⟩:=h;exact⟨un o,hgP _ _ h1,h2,h3,λhg=>by
    obtain⟨a1,a2,a3⟩:=h4 hg;exact⟨by simpa [un,Hy] using a1,a2,a3⟩⟩
  | fn f cs=>simp[PR,AU]
  | agg cs=>simp[PR,AU]
  | C7 cs=>simp[PR,AU]
  | _=>simp only[PR,AU]at h⊢<;>exact h
 have zK:∀x v,AU F' w' os' x v->AU F' w' os2 (Md sel N x) v:=Nt hun0;have zL:∀cs us,A7 F' w' os' cs us->A7 F' w' os2 (cs.map (Md sel N)) us:=λcs us h=>
  Cq (by simp[A3 h]) λi x u hx hu=>by
   simp only[mX,mZ]at hx;obtain⟨y,hy,rfl⟩:=hx;obtain⟨u',tZ,sw⟩:=BQ h i y hy;rw[tZ]at hu;cases hu;exact zK _ _ sw
 have hunr:∀x v,AU F' w' os' x v->AU F' w' os2 (YI sel N x) v:=λx v h=>by
  cases x with
  | fn f cs=>simp only[YI,AU]at h⊢;obtain⟨us,e,hl⟩:=h;exact⟨us,e,zL _ _ hl⟩
  | agg cs=>simp only[YI,AU]at h⊢;obtain⟨us,e,hl⟩:=h;exact⟨us,e,zL _ _ hl⟩
  | C7 cs=>simp only[YI,AU]at h⊢;obtain⟨us,e,hl⟩:=h;exact⟨us,e,zL _ _ hl⟩
  | _=>exact zK _ _ h
 have hB:∀(i:Nat) (o:Own),idx sel i=none->os[i]?=some o->∀b,o.owns b->w'.heap[b]?=w.heap[b]?/\¬ F' b/\∀o1:Own,o1∈os'->¬ o1.owns b:=λi o hx ho b hb=>by
  refine he.other b ((hr.rows _ o ho).lt hb) ((hr.rows _ o ho).nF hb) λoA hoA e=>?_;obtain⟨j,hj⟩:=nC.1 hoA;obtain⟨id,o0,uj,ho0,rfl⟩:=rb j oA hj;have:=hr.inj id i o0 o b ho0 ho e hb;subst this;exact dD hx (mS uj)
 have sv:os2.map Own.row=IH sel (rows1.map (Hy sel N)) 0 s.st++rows2.map (Hy sel N):=by
  simp only[os2,oF];have ra:os'.map Own.row=rows1++rows2:=uD.st;congr 1
  ·apply oU;intro i;rw[mX,List.getElem?_mapIdx,R7,ns];have h0:os.map Own.row=s.st:=hr.st;rw[<- h0,mX];cases hoi:os[i]? with
   | none=>rfl
   | some o=>
    simp only[nS,f2];cases hx:idx sel i with
    | none=>rfl
    | some p=>
     have hpm:p<sel.length:=(mT.1 (QD hx)).1;have wS:p<os'.length:=by omega
     have h3:(os'.map Own.row)[p]?=rows1[p]?:=by rw[ra,mg (by omega)]
     rw[mX,mY wS]at h3;simp only[mX,mY wS,<- h3,nS,un]
  ·rw[oC];have hco:Own.row∘un=Hy sel N∘Own.row:=rfl;rw[hco,<- oC,List.map_drop,ra];simp[<- hlen]
 have wv:Vc ((B9 s.st sel).map (Bh sel)) rows1:=λj r0 r1 h0 h1 hg=>by
  have hj:j<((B9 s.st sel).map (Bh sel)).length:=(mT.1 h0).1;rw[<- vp,mX,mZ]at h0;obtain⟨oA,hoA,rfl⟩:=h0;obtain⟨o',sA,_,_,e3⟩:=he.cf j oA hj hoA;have vL:os'.map Own.row=rows1++rows2:=uD.st;have h2:(rows1++rows2)[j]?=some o'.row:=by rw[<- vL,mX,sA];rfl
  rw[mg (mT.1 h1).1,h1]at h2;cases h2;exact (e3 hg).2.2
 refine⟨u,_,_,F',os2,rfl,hK wv,⟨sv,λt=>rZ _ _ (hr.env t),hr.size,λi o ho=>?_,λi j oi oj b hi hj uH uQ=>?_,uD.FU,hr.defers⟩,hunr _ _ hru,⟨he.sys,he.tape,he.output,he.size,he.Ng,he.HP,λb hb h1 h2=>?_,λi o hi ho=>yM i o ho⟩⟩
 ·rcases uI i o ho with ⟨p,o',hp,rfl,rfl⟩|⟨h1,h2,vR⟩
  ·have rR:=uD.rows p o' hp;refine⟨rR.pos,λx hx=>?_,λhb=>?_,λb hb=>?_,rR.mo,rR.deep.mapped (Md sel N) (λ_ _ _ _ h=>ft h) rfl rfl rfl rfl⟩
   ·simp only[un,Hy,mu]at hx;obtain⟨y,hy,rfl⟩:=hx;obtain⟨g1,g2⟩:=rR.lens y hy;refine⟨by simpa [un,Hy] using g1,λc hc=>?_⟩;obtain⟨c0,uF,rfl⟩:=mu.1 hc;have hmem:o'.row∈rows1++rows2:=by rw[<- uD.st];exact mu.2 ⟨o',mS hp,rfl⟩
    exact hL _ hmem y hy c0 uF (g2 c0 uF)
   ·obtain⟨h1,h2⟩:=rR.none hb;exact⟨by simp[un,Hy,h1],h2⟩
   ·obtain⟨e1,cur,e2,e3,e4,e5,e6⟩:=rR.some b hb;refine⟨e1,cur,e2,e3,by simpa [un,Hy] using e4,e5,λi' x hx q c hc=>?_⟩;simp only[un,Hy,mX,mZ]at hx;obtain⟨y,hy,rfl⟩:=hx;simp only[mX,mZ]at hc;obtain⟨c0,uF,rfl⟩:=hc;obtain⟨u',f1,f2⟩:=e6 i' y hy q c0 uF;exact⟨u',f1,zK _ _ f2⟩
  ·have rR:=hr.rows _ o vR;refine⟨rR.pos,rR.lens,rR.none,λb hb=>?_,λb hb=>⟨(hB _ o h2 vR b (.inr hb)).2.1,nk (rR.mo b hb).2.1 he.size,(rR.mo b hb).2.2⟩,
    rR.deep.keep rfl (λ_ h=>h) rfl (λb hb=>(hB _ o h2 vR b hb).1) (λi x j e s ys hx hc=>⟨x,hx,hc⟩)⟩
   obtain⟨e1,cur,e2,e3,e4,e5,e6⟩:=rR.some b hb;obtain⟨g1,g2,_⟩:=hB _ o h2 vR b (.inl hb);refine⟨g2,cur,by rw[g1];exact e2,e3,e4,e5,λi' x hx j c hc=>?_⟩;obtain⟨u',f1,f2⟩:=e6 i' x hx j c hc;exact⟨u',f1,rZ _ _ f2⟩
 ·rcases uI i oi hi with ⟨p,o',hp,rfl,rfl⟩|⟨h1,h2,xQ⟩<;>rcases uI j oj hj with ⟨p2,o2',hp2,rfl,rfl⟩|⟨h3,h4,vm⟩
  ·have:=uD.inj p p2 o' o2' b hp hp2 uH uQ;rw[this]
  ·exact absurd uH ((hB _ oj h4 vm b uQ).2.2 o' (mS hp))
  ·exact absurd uQ ((hB _ oi h2 xQ b uH).2.2 o2' (mS hp2))
  ·exact hr.inj i j oi oj b xQ vm uH uQ
 ·have h3:∀o∈vj,¬ o.owns b:=λo ho=>by
   obtain⟨j,hj⟩:=nC.1 ho;obtain⟨id,o0,uj,ho0,rfl⟩:=rb j o hj;exact h2 o0 (mS ho0)
  obtain⟨g1,g2,g3⟩:=he.other b hb h1 h3;refine⟨g1,g2,λo ho=>?_⟩;obtain⟨i,hi⟩:=nC.1 ho;rcases uI i o hi with ⟨p,o',hp,rfl,rfl⟩|⟨_,_,vR⟩
  ·exact g3 o' (mS hp)
  ·exact h2 o (mS vR)
inductive UN (sel:List Nat) (N:Nat):List Row->List Row->Prop
 | nil:UN sel N [] []
 | deep {g size:Nat} {el:TypeId} {xs:List (List AV)} {r r':List Row} (hp:B8 xs) (hl:UN sel N r r'):UN sel N (⟨g,el,size,xs⟩::r) (⟨g,el,size,xs⟩::r')
 | raw {g size:Nat} {el:TypeId} {cs cs':List AV} {r r':List Row} (hc:cs.map (Md sel N)=cs') (hp:cs'.all AV.leaf=true) (hl:UN sel N r r'):UN sel N (⟨g,el,size,[cs]⟩::r) (⟨g,el,size,[cs']⟩::r')
theorem UN.pure {sel:List Nat}{N g size:Nat}{el:TypeId}{xs:List (List AV)}{r r':List Row}(hp:F9 xs)(hl:UN sel N r r'):UN sel N (⟨g,el,size,xs⟩::r) (⟨g,el,size,xs⟩::r'):=.deep hp.any hl
theorem Qz {sel:List Nat}{N:Nat}{c:AV}(h:Dd c=true):Md sel N c=c:=by cases c<;>simp[Dd,simple,Md,two,PR]at h⊢
theorem UN.leaf {sel:List Nat}{N:Nat}:∀{l l':List Row},UN sel N l l'->∀row∈l,∀x∈row.xs,∀c∈x,c.kept=true->(Md sel N c).kept=true
 | _,_,.nil,_,h=>by cases h
 | _,_,.deep hp hl,row,hm=>by
  rcases mr.1 hm with rfl|hm
  ·intro x hx c hc h;rw[Qz (hp x hx c hc)];exact h
  ·exact UN.leaf hl row hm
 | _,_,.raw hc hp hl,row,hm=>by
  rcases mr.1 hm with rfl|hm
  ·intro x hx c xS _;simp only[nQ]at hx;subst hx;exact Ci (ma.1 hp _ (by rw[<- hc];exact mu.2 ⟨c,xS,rfl⟩))
  ·exact UN.leaf hl row hm
theorem UN.spec {sel:List Nat}{N:Nat}:∀{l l':List Row},UN sel N l l'->l.map (Hy sel N)=l'
 | _,_,.nil=>rfl
 | _,_,.deep hp hl=>by
  simp only[mz,UN.spec hl];congr 1;simp only[Hy];congr 1;refine (nD (g:=id) λx hx=>?_).trans (nt _);refine (nD (g:=id) λc hc=>?_).trans (nt _);exact Qz (hp x hx c hc)
 | _,_,.raw hc _ hl=>by simp only[mz,UN.spec hl,Hy,od,hc]
theorem Pq {f:FuncId}{args:List AV}{d:Option Tmp}{K:St->Prop}(h:(∀row∈s.st,∀x∈row.xs,∀c∈x,c.kept=true)->callThen P k s f args d K):callThen P k s f args d K:=
 λF os a w vs hr hl=>h (P2 hr) F os a w vs hr hl
section
variable {ops : Array Oper} {Q : Exit -> St -> Prop} {ds : List (Option Tmp)} {r : List Oper} {n : Nat} {e : Nat -> AV} {st st' : List Row} {ty : TypeId} {ps : String} {ed : Array Edge} {d : Option Tmp} {v v' : AV} {gd : Option (Nat × Bool)}
variable {f : FuncId} {sx : Array Operand} {ts : Array TypeId} {args sO : List AV} {rowsP rows0 rows1 rows1' rows2 rows2' : List Row}
theorem E2 (sel:List Nat)(hg:GO ds gd e)(hb:Dy P f=true)(hc:BJ P f sO rows0 λr st=>r=v/\st=rows1++rows2)(ha:sx.toList.map (St.ev ⟨n,e,st⟩)++[]=args)(tX:sel.Nodup)(rh:sel.all (·<st.length)=true)
  (hp:B9 st sel=rowsP) (hs:SR sel rowsP rows0) (hf:args.map (Jg sel)=sO) (hlen:rows1.length=sel.length) (h1:UN sel st.length rows1 rows1') (h2:UN sel st.length rows2 rows2') (hv:YI sel st.length v=v') (vL:IH sel rows1' 0 st++rows2'=st')
  (hk:Vc rows0 rows1->AO P k ops Q (ds++[d]) r (St.put ⟨n,e,st'⟩ d v')):AO P k ops Q ds (⟨d,.call ⟨.value (.func f),sx,ts⟩,ty,ps,ed,gd⟩::r) ⟨n,e,st⟩:=by
 subst vL;subst ha;subst hv;subst hp;refine LN hg ?_;rw[Kl];refine⟨hb,Pq λhle=>?_⟩;obtain⟨e1,e2⟩:=hs.spec (st0:=st) hle (λrow rK=>by
  obtain⟨i,_,hi⟩:=oM.1 rK;exact mS hi)
 refine Q0 sel hc tX (λi hi=>by simpa using ma.1 rh i hi) e1 e2 hf hlen (λrow rK=>by
  rcases nM.1 rK with h|h
  ·exact h1.leaf row h
  ·exact h2.leaf row h) λzI=>?_
 simp only[h1.spec,h2.spec];exact hk zI
theorem XJ (sel:List Nat)(hg:GO ds gd e)(hb:Dy P f=true)(hc:BJ P f sO rows0 λr st=>r=v/\st=rows1++rows2)(ha:sx.toList.map (St.ev ⟨n,e,st⟩)++[]=args)(tX:sel.Nodup)(rh:sel.all (·<st.length)=true)
  (hp:B9 st sel=rowsP) (hs:SR sel rowsP rows0) (hf:args.map (Jg sel)=sO) (hlen:rows1.length=sel.length) (h1:UN sel st.length rows1 rows1') (h2:UN sel st.length rows2 rows2') (hv:YI sel st.length v=v') (vL:IH sel rows1' 0 st++rows2'=st')
  (hk:AO P k ops Q (ds++[d]) r (St.put ⟨n,e,st'⟩ d v')):AO P k ops Q ds (⟨d,.call ⟨.value (.func f),sx,ts⟩,ty,ps,ed,gd⟩::r) ⟨n,e,st⟩:=
 E2 sel hg hb hc ha tX rh hp hs hf hlen h1 h2 hv vL λ_=>hk
end
theorem O1 {k n:Nat}{e:Nat->AV}{st st1 st':List Row}{L:List (Nat×AV)}(sel:List Nat)(hk:sel.take k=List.range k)(tX:sel.Nodup)(rh:sel.all (·<st.length)=true)(hp:B9 st sel=st1)(hs:SR sel st1 st')(h:ME (λt=>Jg sel (e t)) L):
  Wk k ⟨n,e,st⟩ ⟨n,AM L,st'⟩:=λF os a w hr=>by
 have hle:=P2 hr;obtain⟨h1,h2⟩:=hs.spec (st0:=st) hle (λrow rK=>by
  rw[<- hp]at rK;obtain⟨i,_,hi⟩:=oM.1 rK;exact mS hi)
 exact RH sel hk tX rh (by rw[hp];exact h1) h2 h F os a w hr
theorem Wk.jm {k n:Nat}{e:Nat->AV}{st st1 st':List Row}{L:List (Nat×AV)}(sel:List Nat)(hk:sel.take k=List.range k)(_:SR sel (st.take k) (st.take k))(tX:sel.Nodup)(rh:sel.all (·<st.length)=true)(hp:B9 st sel=st1)(hs:SR sel st1 st')(h:ME (λt=>Jg sel (e t)) L):
  Wk k ⟨n,e,st⟩ ⟨n,AM L,st'⟩:=O1 sel hk tX rh hp hs h
theorem BJ.wk {P:Program}{f:FuncId}{args:List AV}{rows st0 st1:List Row}{r0 r1:AV}(h:BJ P f args rows λr st=>r=r0/\st=st0)(hw:Wk rows.length ⟨1,AM [(0,r0)],st0⟩ ⟨1,AM [(0,r1)],st1⟩):
  BJ P f args rows λr st=>r=r1/\st=st1:=by
 intro F os w vs hs hl;refine (h F os w vs hs hl).mono ?_;rintro e w' ⟨v,r,st',F',os',rfl,⟨rfl,rfl⟩,h1,h2,h3⟩;have ry:Rel F' os' ⟨1,AM [(0,r)],st'⟩ { tmps:=#[v],defers:=[] } w':=by
  refine⟨h1.st,λt=>?_,rfl,h1.rows,h1.inj,h1.FU,rfl⟩;simp only[AM];split
  ·rename_i ht;subst ht;exact h2
  ·simp[AU]
 obtain⟨F2,os2,h4,h5⟩:=hw F' os' _ w' ry;refine⟨v,r1,st1,F2,os2,rfl,⟨rfl,rfl⟩,⟨h4.st,h4.rows,h4.inj,h4.FU⟩,?_,h3.trans h5⟩;have:=h4.env 0;simpa [AM] using this
theorem le.Je {α:Type}{id g m:Nat}{l:List α}{enc:α->List AV}(h:m=l.length):le (Abs.Je id g (l.map enc) (.own id g m)) (.sl (l.map enc)):=le.of (bb h)
theorem Rel.bare {F:Nat->Prop}{os:List Own}{s:St}{a:Act}{w:World}(hr:Rel F os s a w):Rel F [] ⟨s.n,λ_=>.FQ,[]⟩ a w:=
 ⟨rfl,λ_=>by simp[AU],hr.size,by simp,by simp,hr.FU,hr.defers⟩
theorem KP {P:Program}{F:Nat->Prop}{os:List Own}{s:St}{a:Act}{w:World}{k:Nat}{NN:Sem Value}{v0 v:AV}{st0:List Row}(hr:Rel F os s a w)
  (he:GV P 0 F [] ⟨s.n,λ_=>.FQ,[]⟩ a w NN λx st=>x=v0/\st=st0) (hw:Wk 0 ⟨1,AM [(0,v0)],st0⟩ ⟨1,AM [(0,v)],[]⟩) (hv:flat v=true) :
  ∃u w' F',NN.run P w=.ok u w'/\Rel F' os s a w'/\AU F' w' os v u/\Ext F os w F' os w' k:=by
 obtain⟨x,st',u,w',sC,⟨rfl,rfl⟩,h2,h3,h4,h5⟩:=he;have ry:Rel F sC ⟨1,AM [(0,x)],st'⟩ { tmps:=#[u],defers:=[] } w':=by
  refine⟨h3.st,λt=>?_,rfl,h3.rows,h3.inj,h3.FU,rfl⟩;simp only[AM];split
  ·rename_i ht;subst ht;exact h4
  ·simp[AU]
 obtain⟨F2,os2,h6,h7⟩:=hw F sC _ w' ry;have zF:os2=[]:=by have:=h6.st;simpa using this
 subst zF;obtain⟨g1,g2,_⟩:=hr.after (k:=k) (h5.trans h7) h6.FU;exact⟨u,w',F2,h2,g1,Lu hv os (by have:=h6.env 0;simpa [AM] using this),g2⟩
section
variable {P : Program} {ds : List (Option Tmp)} {r : List Oper} {n : Nat} {e : Nat -> AV} {st : List Row} {ty : TypeId} {ps : String} {ed : Array Edge} {t : Tmp} {gd : Option (Nat × Bool)} {KS : St -> Prop}
variable {α : Type} {l : List α} {enc : α -> List AV} {el T : TypeId} {size bytes : Nat} {zz cs : List AV}
theorem RM (hp:F9 (l.map enc)):Wk 0 ⟨1,AM [(0,.own 0 0 l.length)],[⟨0,el,size,l.map enc⟩]⟩ ⟨1,AM [(0,.sl (l.map enc))],[]⟩:=
 (Wk.Ct (n:=1) (e:=AM [(0,.own 0 0 l.length)]) (st:=[⟨0,el,size,l.map enc⟩]) (L:=[(0,.sl (l.map enc))]) (st':=[⟨1,el,size,[]⟩]) (id:=0) rfl (mi _) hp ⟨.Ct rfl,mV⟩ rfl).trans
  (GQ (L:=[(0,.sl (l.map enc))]) (st':=[]) [] rfl (by decide) rfl rfl mV ⟨.rfl,mV⟩)
theorem ZX {len:Nat}{parts:Array (Nat×Operand)}{pv:List (Nat×AV)}(hg:GO ds gd e)(he:CH P T=some ⟨el,size,bytes,zz⟩)(hle:len*size<=16777216)(hp:(parts.toList.map λp=>(p.1,St.ev ⟨n,e,st⟩ p.2))=pv)
  (xe:(pv.all λp=>flat p.2)=true) (hc:NB (λi=>some (i*size,size)) ((List.replicate len zz).flatten) pv=some cs) (hck:chunk size len cs=l.map enc) (zI:len=l.length) (hpu:F9 (l.map enc))
  (hk:DI P (ds++[some t]) r KS ⟨n,Ew e t (.sl (l.map enc)),st⟩):DI P ds (⟨some t,.buildSlice T len parts,ty,ps,ed,gd⟩::r) KS ⟨n,e,st⟩:=by
 refine da hg rfl (λs0 e1 e2 hd k F os a w hr next Q hn=>?_) hk;have yN:(parts.toList.map λp=>(p.1,s0.ev p.2))=pv:=by
  rw[<- hp];refine nD λp wS=>?_;rw[e2 p.2 (by simp only[Op.operands,qA,mu];exact⟨p,by simpa using wS,rfl⟩)]
 have h9:GV P 0 F [] ⟨s0.n,λ_=>.FQ,[]⟩ a w (Instr.buildSlice T len (parts.map λ(i,x)=>(i,a.eval x))) (λx st=>x=.own 0 0 l.length/\st=[⟨0,el,size,l.map enc⟩]):=by
  refine La (parts:=pv) hr.bare (Ai _ he ⟨hle,Ai _ hc (by subst zI;rw[hck];exact⟨rfl,rfl⟩)⟩) (by rw[<- yN];simp) λi p up hp wj=>?_;have xN:flat p.2=true:=ma.1 xe p (mS hp);rw[<- yN]at hp;simp only[mX,mZ,px]at hp wj;obtain⟨q,hq,rfl⟩:=hp;obtain⟨q',uU,rfl⟩:=wj;rw[hq]at uU;cases uU;exact Lu xN [] (hr.ev _)
 obtain⟨u,w',F',g1,g2,g3,g4⟩:=KP (k:=k) hr h9 (RM hpu) rfl;unfold Oper.wp;simp only[execOp,nU,g1,nR,nq,Oper.upon];exact hn _ _ (LG (st':=s0.st) hd rfl g2 g3 g4)
end
end Go.Abs
