import Derived.Test.YtihdgoiebmfapaaGreatAbsT
set_option linter.all false
namespace Go.Abs
open Go
variable {P : Program} {F : Nat -> Prop} {os : List Own} {s : St} {a : Act} {w : World} {k : Nat}
def pos (sel:List Nat)(N p:Nat):Nat:=match sel[p]? with|some j=>j|none=>p-sel.length+N
def QY (sel:List Nat)(N:Nat):AV->AV
 |.own id g n=>.own (pos sel N id) g n
 |.ptr id g i off=>.ptr (pos sel N id) g i off
 |.fn ..|.agg _|.DF _=>.FY
 |v=>v
def Lk (sel:List Nat)(N:Nat)(x:AV):AV:=two (QY sel N) x
theorem jS {sel:List Nat}{N:Nat}{c:AV}{el s:Nat}{ys:List (List AV)}(h:Lk sel N c=.dv el s ys):c=.dv el s ys:=by
 refine UA (X:=QY sel N) (λc h=>?_) h;cases c<;>simp only[QY]at h<;>first|exact h|cases h
def Q8 (sel:List Nat)(N:Nat):AV->AV
 |.fn f cs=>.fn f (cs.map (Lk sel N))
 |.agg cs=>.agg (cs.map (Lk sel N))
 |.DF cs=>.DF (cs.map (Lk sel N))
 |v=>Lk sel N v
def JU (sel:List Nat)(N:Nat)(row:Row):Row:={ row with xs:=row.xs.map (·.map (Lk sel N)) }
def FW (sel:List Nat)(rs:List Row):Nat->List Row->List Row
 |_,[]=>[]
 |i,row::st=>(match idx sel i with|some p=>(match rs[p]? with|some r=>r|none=>row)|none=>row)::FW sel rs (i+1) st
theorem Mp {sel:List Nat}{rs:List Row}:∀(st:List Row) (i j:Nat),(FW sel rs i st)[j]?=(st[j]?).map λrow=>match idx sel (i+j) with|some p=>(match rs[p]? with|some r=>r|none=>row)|none=>row
 | [],i,j=>by simp[FW]
 |row::st,i,0=>by simp[FW]
 |row::st,i,j+1=>by
  simp only[FW,pz];rw[Mp st (i+1) j,show i+1+j=i+(j+1) by omega]
theorem Kd {sel:List Nat}{rs:List Row}:∀(st:List Row) (i:Nat),(FW sel rs i st).length=st.length
 | [],_=>rfl
 |_::st,i=>by simp[FW,Kd st (i+1)]
theorem Ou {sel:List Nat}{id j:Nat}(h:idx sel id=some j):sel[j]?=some id:=by
 unfold idx at h;rw[rM]at h;obtain⟨h1,h2,_⟩:=h;rw[pG h1];simpa using h2
theorem Z6 {sel:List Nat}(vt:sel.Nodup){id j:Nat}(h:sel[j]?=some id):idx sel id=some j:=by
 unfold idx;obtain⟨h1,h2⟩:=pB.1 h;rw[rM];refine⟨h1,by simp[h2],λi hi=>?_⟩;have:=sF.1 vt i j (by omega) h1 hi;simp only[beq_iff_eq,ne_eq,tD,beq_eq_false_iff_ne];rw[<- h2];exact this
theorem iK {sel:List Nat}{id:Nat}(h:idx sel id=none):id ∉ sel:=by
 unfold idx at h;rw[List.findIdx?_eq_none_iff]at h;intro hm;simpa using h id hm
def Xr (rows0 rows1:List Row):Prop:=∀(j:Nat) r0 r1,rows0[j]?=some r0->rows1[j]?=some r1->r1.gen=r0.gen->r1.xs.length=r0.xs.length
theorem MA {f:FuncId}{args ug:List AV}{d:Option Tmp}{K:St->Prop}{rows0 rows1 rows2:List Row}{v:AV}(sel:List Nat)(h:BJ P f ug rows0 λr st=>r=v/\st=rows1++rows2)
  (vt:sel.Nodup) (uV :∀i∈sel,i<s.st.length) (hs:(CE s.st sel).map (Cm sel)=rows0) (hl0:JN rows0) (yI:args.map (Jk sel)=ug) (hlen:rows1.length=sel.length) (hL :∀row∈rows1++rows2,∀x∈row.xs,∀c∈x,c.kept=true->(Lk sel s.st.length c).kept=true)
  (hK:Xr rows0 rows1->K ({ s with st:=FW sel (rows1.map (JU sel s.st.length)) 0 s.st++rows2.map (JU sel s.st.length) }.put d (Q8 sel s.st.length v))):callThen P k s f args d K:=by
 intro F os a w vs hr hl;subst hs;have hN:s.st.length=os.length:=hr.len;have xf:∀(j id:Nat),sel[j]?=some id->(sel.filterMap (os[·]?))[j]?=os[id]?:=by
  have :∀(l:List Nat),(∀i∈l,i<os.length)->∀(j id:Nat),l[j]?=some id->(l.filterMap (os[·]?))[j]?=os[id]?:=λl=>by
   induction l with
   |nil=>intro _ j id h;simp at h
   |cons i l ih=>
    intro hl j id h;have hi:=hl i (by simp);rw[rC,pG hi];cases j with
    |zero=>simp only[pj,pD]at h;subst h;simp[pG hi]
    |succ j=>simp only[pz]at h⊢;exact ih (λx hx=>hl x (by simp[hx])) j id h
  exact this sel (λi hi=>by rw[<- hN];exact uV i hi)
 let so:Own->Own:=λo=>{ o with row:=Cm sel o.row }
 let zL:=(sel.filterMap (os[·]?)).map so
 have hl2:(sel.filterMap (os[·]?)).length=sel.length:=by
  have :∀(l:List Nat),(∀i∈l,i<os.length)->(l.filterMap (os[·]?)).length=l.length:=λl=>by
   induction l with
   |nil=>simp
   |cons i l ih=>intro hl;rw[rC,pG (hl i (by simp))];simp[ih (λx hx=>hl x (by simp[hx]))]
  exact this sel (λi hi=>by rw[<- hN];exact uV i hi)
 have uF:∀(j:Nat) (o:Own),zL[j]?=some o->∃id o0,sel[j]?=some id/\os[id]?=some o0/\o=so o0:=λj o h=>by
  simp only[zL,pC,pI]at h;obtain⟨o0,h0,rfl⟩:=h;have hj:j<sel.length:=by rw[<- hl2];exact (pB.1 h0).1
  refine⟨sel[j],o0,pG hj,?_,rfl⟩;rw[<- xf j _ (pG hj)];exact h0
 have hidx:∀id j,idx sel id=some j->zL[j]?=(os[id]?).map so:=λid j hj=>by
  simp only[zL,pC];rw[xf j id (Ou hj)]
 have hren0:∀x v,Ab F w os x v->Ab F w zL (JK sel x) v:=λx v h=>by
  cases x with
  |own id g n=>
   simp only[JK];split
   .rename_i j hj;simp only[Ab]at h⊢;obtain⟨o,h1,h2,h3,h4⟩:=h;exact⟨so o,by rw[hidx id j hj,h1];rfl,h2,h3,λhg=>by
     obtain⟨a1,a2⟩:=h4 hg;exact⟨by simpa [so,Cm] using a1,by simpa [so,Cm] using a2⟩⟩
   .simp[Ab]
  |ptr id g i off=>
   simp only[JK];split
   .rename_i j hj;simp only[Ab]at h⊢;obtain⟨o,h1,h2,h3,h4⟩:=h;exact⟨so o,by rw[hidx id j hj,h1];rfl,h2,h3,λhg=>by
     obtain⟨a1,a2,a3⟩:=h4 hg;exact⟨by simpa [so,Cm] using a1,a2,a3⟩⟩
   .simp[Ab]
  |fn f cs=>simp[JK,Ab]
  |agg cs=>simp[JK,Ab]
  |DF cs=>simp[JK,Ab]
  |_=>simp only[JK,Ab]at h⊢<;>exact h
 have xg:∀x v,Ab F w os x v->Ab F w zL (Ja sel x) v:=ML hren0;have xh:∀cs us,Br F w os cs us->Br F w zL (cs.map (Ja sel)) us:=λcs us h=>
  DZ (by simp[BV h]) λi x u hx hu=>by
   simp only[pC,pI]at hx;obtain⟨y,hy,rfl⟩:=hx;obtain⟨u',vn,vf⟩:=CH h i y hy;rw[vn]at hu;cases hu;exact xg _ _ vf
 have hren:∀x v,Ab F w os x v->Ab F w zL (Jk sel x) v:=λx v h=>by
  cases x with
  |fn f cs=>simp only[Jk,Ab]at h⊢;obtain⟨us,e,hl⟩:=h;exact⟨us,e,xh _ _ hl⟩
  |agg cs=>simp only[Jk,Ab]at h⊢;obtain⟨us,e,hl⟩:=h;exact⟨us,e,xh _ _ hl⟩
  |DF cs=>simp only[Jk,Ab]at h⊢;obtain⟨us,e,hl⟩:=h;exact⟨us,e,xh _ _ hl⟩
  |_=>exact xg _ _ h
 have zW:zL.map Own.row=(CE s.st sel).map (Cm sel):=by
  have h0:os.map Own.row=s.st:=hr.st;simp only[zL,rG,CE];rw[<- h0];have hco:Own.row∘so=Cm sel∘Own.row:=rfl;rw[hco,<- rG,sj];congr 1;simp[sw]
 have hSO:Hh F zL ((CE s.st sel).map (Cm sel)) w:=by
  refine⟨zW,λj o ho=>?_,λi j oi oj b hi hj wK wL=>?_,hr.Fp⟩
  .obtain⟨id,o0,xB,ho0,rfl⟩:=uF j o ho;have uA:=hr.rows id o0 ho0;have hm:Cm sel o0.row∈(CE s.st sel).map (Cm sel):=by
    rw[<- zW];exact pS.2 ⟨so o0,oz ho,rfl⟩
   refine⟨uA.pos,λx hx=>⟨?_,hl0 _ hm x hx⟩,λhb=>?_,λb hb=>?_,uA.mo,uA.deep.mapped (Ja sel) (λ_ _ _ _ h=>bX h) rfl rfl rfl rfl⟩
   .simp only[so,Cm,pS]at hx;obtain⟨y,hy,rfl⟩:=hx;simpa [so,Cm] using (uA.lens y hy).1
   .obtain⟨h1,h2⟩:=uA.none hb;exact⟨by simp[so,Cm,h1],h2⟩
   .obtain⟨h1,cur,h2,h3,h4,h5,h6⟩:=uA.some b hb;refine⟨h1,cur,h2,h3,by simpa [so,Cm] using h4,h5,λi x hx j' c hc=>?_⟩;simp only[so,Cm,pC,pI]at hx;obtain⟨y,hy,rfl⟩:=hx;simp only[pC,pI]at hc;obtain⟨c0,wT,rfl⟩:=hc;obtain⟨u,e1,e2⟩:=h6 i y hy j' c0 wT;exact⟨u,e1,xg _ _ e2⟩
  .obtain⟨id,o0,xB,ho0,rfl⟩:=uF i oi hi;obtain⟨vI,o0',hid',ho0',rfl⟩:=uF j oj hj;have he:=hr.inj id vI o0 o0' b ho0 ho0' wK wL;subst he;have h1:=Z6 vt xB;rw[Z6 vt hid']at h1;exact (qg h1).symm
 have hlA:Br F w zL ug vs:=by
  subst yI;exact DZ (by simp[BV hl]) λi x u hx hu=>by
   simp only[pC,pI]at hx;obtain⟨y,hy,rfl⟩:=hx;obtain⟨u',vn,vf⟩:=CH hl i y hy;rw[vn]at hu;cases hu;exact hren _ _ vf
 refine (h F zL w vs hSO hlA).mono ?_;rintro e w' ⟨u,r,st',F',os',rfl,⟨rfl,rfl⟩,hs',hru,he⟩;have yb:os'.length=sel.length+rows2.length:=by
  have:=qY List.length hs'.st;rw[pR,pW]at this;omega
 have hpl:((CE s.st sel).map (Cm sel)).length=sel.length:=by
  rw[<- zW];simp[zL,hl2]
 let N:=s.st.length
 let un:Own->Own:=λo=>{ o with row:=JU sel N o.row }
 let f2:Nat->Own->Own:=λi o=>match idx sel i with|some p=>(match os'[p]? with|some o'=>un o'|none=>o)|none=>o
 let os2:=os.mapIdx f2++(os'.drop sel.length).map un
 have hNl:(os.mapIdx f2).length=N:=by simp[N,hN]
 have hgL:∀i,i<N->os2[i]?=(os[i]?).map (f2 i):=λi hi=>by
  simp only[os2];rw[pN (by omega),sZ]
 have hgP:∀p o',os'[p]?=some o'->os2[pos sel N p]?=some (un o'):=λp o' uz=>by
  unfold pos;split
  .rename_i j hj;have hjN:j<N:=uV j (oz hj);rw[hgL j hjN,pG (by omega)];simp only[qG,f2,Z6 vt hj,uz]
  .rename_i hn;have hp:sel.length<=p:=rW.1 hn;simp only[os2];rw[pO (by omega),hNl,pC,qI,show sel.length+(p-sel.length+N-N)=p by omega,uz];rfl
 have hgO:∀i,i<N->idx sel i=none->os2[i]?=os[i]?:=λi hi hx=>by
  rw[hgL i hi];have:f2 i=id:=by funext o;simp[f2,hx]
  rw[this,Option.map_id];rfl
 have hcase:∀i o,os2[i]?=some o->(∃p o',os'[p]?=some o'/\o=un o'/\i=pos sel N p)∨(i<N/\idx sel i=none/\os[i]?=some o):=λi o ho=>by
  rcases rH i N with hi|hi
  .rcases hx:idx sel i with _|p
   .exact .inr ⟨hi,rfl,by rw[<- hgO i hi hx];exact ho⟩
   .have hp:=Ou hx;have hpl2:p<os'.length:=by have:=(pB.1 hp).1;omega
    have h1:=hgP p _ (pG hpl2);have h2:pos sel N p=i:=by unfold pos;rw[hp]
    rw[h2,ho]at h1;exact .inl ⟨p,_,pG hpl2,qg h1,h2.symm⟩
  .have zK:=ho;simp only[os2]at zK;rw[pO (by omega),hNl,pC,pI]at zK;obtain⟨o',h1,h2⟩:=zK;rw[qI]at h1;refine .inl ⟨_,o',h1,h2.symm,?_⟩;unfold pos;rw[rW.2 (by omega)];simp only;omega
 have hosle:Fv os os2:=λi o ho=>by
  have hiN:i<N:=by have:=(pB.1 ho).1;omega
  rcases hx:idx sel i with _|p
  .exact⟨o,by rw[hgO i hiN hx];exact ho,pM _,rfl,λ_=>⟨rfl,rfl,rfl⟩⟩
  .have hp:=Ou hx;have h1:zL[p]?=some (so o):=by rw[hidx i p hx,ho];rfl
   obtain⟨o',uz,e1,e2,e3⟩:=he.Vo p (so o) (by rw[hpl];exact (pB.1 hp).1) h1;refine⟨un o',?_,e1,e2,λhg=>?_⟩
   .have:=hgP p o' uz;unfold pos at this;rw[hp]at this;exact this
   .obtain⟨g1,g2,g3⟩:=e3 hg;exact⟨g1,g2,by simpa [so,un,Cm,JU] using g3⟩
 have uH:∀x v,Ab F w os x v->Ab F' w' os2 x v:=λx v h=>DW he.N7 he.Iy os _ hosle x v h;have hun0:∀x v,Ab F' w' os' x v->Ab F' w' os2 (QY sel N x) v:=λx v h=>by
  cases x with
  |own id g n=>
   simp only[QY,Ab]at h⊢;obtain⟨o,h1,h2,h3,h4⟩:=h;exact⟨un o,hgP _ _ h1,h2,h3,λhg=>by
    obtain⟨a1,a2⟩:=h4 hg;exact⟨by simpa [un,JU] using a1,by simpa [un,JU] using a2⟩⟩
  |ptr id g i off=>
   simp only[QY,Ab]at h⊢;obtain⟨o,h1,h2,h3,h4⟩:=h;exact⟨un o,hgP _ _ h1,h2,h3,λhg=>by
    obtain⟨a1,a2,a3⟩:=h4 hg;exact⟨by simpa [un,JU] using a1,a2,a3⟩⟩
  |fn f cs=>simp[QY,Ab]
  |agg cs=>simp[QY,Ab]
  |DF cs=>simp[QY,Ab]
  |_=>simp only[QY,Ab]at h⊢<;>exact h
 have hun1:∀x v,Ab F' w' os' x v->Ab F' w' os2 (Lk sel N x) v:=ML hun0;have hunL:∀cs us,Br F' w' os' cs us->Br F' w' os2 (cs.map (Lk sel N)) us:=λcs us h=>
  DZ (by simp[BV h]) λi x u hx hu=>by
   simp only[pC,pI]at hx;obtain⟨y,hy,rfl⟩:=hx;obtain⟨u',vn,vf⟩:=CH h i y hy;rw[vn]at hu;cases hu;exact hun1 _ _ vf
 have hunr:∀x v,Ab F' w' os' x v->Ab F' w' os2 (Q8 sel N x) v:=λx v h=>by
  cases x with
  |fn f cs=>simp only[Q8,Ab]at h⊢;obtain⟨us,e,hl⟩:=h;exact⟨us,e,hunL _ _ hl⟩
  |agg cs=>simp only[Q8,Ab]at h⊢;obtain⟨us,e,hl⟩:=h;exact⟨us,e,hunL _ _ hl⟩
  |DF cs=>simp only[Q8,Ab]at h⊢;obtain⟨us,e,hl⟩:=h;exact⟨us,e,hunL _ _ hl⟩
  |_=>exact hun1 _ _ h
 have hB:∀(i:Nat) (o:Own),idx sel i=none->os[i]?=some o->∀b,o.owns b->w'.heap[b]?=w.heap[b]?/\¬ F' b/\∀o1:Own,o1∈os'->¬ o1.owns b:=λi o hx ho b hb=>by
  refine he.other b ((hr.rows _ o ho).lt hb) ((hr.rows _ o ho).nF hb) λoA hoA e=>?_;obtain⟨j,hj⟩:=pZ.1 hoA;obtain⟨id,o0,xB,ho0,rfl⟩:=uF j oA hj;have:=hr.inj id i o0 o b ho0 ho e hb;subst this;exact iK hx (oz xB)
 have vm:os2.map Own.row=FW sel (rows1.map (JU sel N)) 0 s.st++rows2.map (JU sel N):=by
  simp only[os2,qv];have uW:os'.map Own.row=rows1++rows2:=hs'.st;congr 1
  .apply qk;intro i;rw[pC,sZ,Mp,qP];have h0:os.map Own.row=s.st:=hr.st;rw[<- h0,pC];cases xM:os[i]? with
   |none=>rfl
   |some o=>
    simp only[qG,f2];cases hx:idx sel i with
    |none=>rfl
    |some p=>
     have hpm:p<sel.length:=(pB.1 (Ou hx)).1;have hp':p<os'.length:=by omega
     have h3:(os'.map Own.row)[p]?=rows1[p]?:=by rw[uW,pN (by omega)]
     rw[pC,pG hp']at h3;simp only[pC,pG hp',<- h3,qG,un]
  .rw[rG];have hco:Own.row∘un=JU sel N∘Own.row:=rfl;rw[hco,<- rG,List.map_drop,uW];simp[<- hlen]
 have hkept:Xr ((CE s.st sel).map (Cm sel)) rows1:=λj r0 r1 h0 h1 hg=>by
  have hj:j<((CE s.st sel).map (Cm sel)).length:=(pB.1 h0).1;rw[<- zW,pC,pI]at h0;obtain⟨oA,hoA,rfl⟩:=h0;obtain⟨o',uz,_,_,e3⟩:=he.Vo j oA hj hoA;have wV:os'.map Own.row=rows1++rows2:=hs'.st;have h2:(rows1++rows2)[j]?=some o'.row:=by rw[<- wV,pC,uz];rfl
  rw[pN (pB.1 h1).1,h1]at h2;cases h2;exact (e3 hg).2.2
 refine⟨u,_,_,F',os2,rfl,hK hkept,⟨vm,λt=>uH _ _ (hr.env t),hr.size,λi o ho=>?_,λi j oi oj b hi hj wK wL=>?_,hs'.Fp,hr.defers⟩,hunr _ _ hru,⟨he.sys,he.tape,he.output,he.size,he.N7,he.Iy,λb hb h1 h2=>?_,λi o hi ho=>hosle i o ho⟩⟩
 .rcases hcase i o ho with ⟨p,o',hp,rfl,rfl⟩|⟨h1,h2,zK⟩
  .have uA:=hs'.rows p o' hp;refine⟨uA.pos,λx hx=>?_,λhb=>?_,λb hb=>?_,uA.mo,uA.deep.mapped (Lk sel N) (λ_ _ _ _ h=>jS h) rfl rfl rfl rfl⟩
   .simp only[un,JU,pS]at hx;obtain⟨y,hy,rfl⟩:=hx;obtain⟨g1,g2⟩:=uA.lens y hy;refine⟨by simpa [un,JU] using g1,λc hc=>?_⟩;obtain⟨c0,wT,rfl⟩:=pS.1 hc;have hmem:o'.row∈rows1++rows2:=by rw[<- hs'.st];exact pS.2 ⟨o',oz hp,rfl⟩
    exact hL _ hmem y hy c0 wT (g2 c0 wT)
   .obtain⟨h1,h2⟩:=uA.none hb;exact⟨by simp[un,JU,h1],h2⟩
   .obtain⟨e1,cur,e2,e3,e4,e5,e6⟩:=uA.some b hb;refine⟨e1,cur,e2,e3,by simpa [un,JU] using e4,e5,λi' x hx q c hc=>?_⟩;simp only[un,JU,pC,pI]at hx;obtain⟨y,hy,rfl⟩:=hx;simp only[pC,pI]at hc;obtain⟨c0,wT,rfl⟩:=hc;obtain⟨u',f1,f2⟩:=e6 i' y hy q c0 wT;exact⟨u',f1,hun1 _ _ f2⟩
  .have uA:=hr.rows _ o zK;refine⟨uA.pos,uA.lens,uA.none,λb hb=>?_,λb hb=>⟨(hB _ o h2 zK b (.inr hb)).2.1,qM (uA.mo b hb).2.1 he.size,(uA.mo b hb).2.2⟩,
    uA.deep.keep rfl (λ_ h=>h) rfl (λb hb=>(hB _ o h2 zK b hb).1) (λi x j e s ys hx hc=>⟨x,hx,hc⟩)⟩
   obtain⟨e1,cur,e2,e3,e4,e5,e6⟩:=uA.some b hb;obtain⟨g1,g2,_⟩:=hB _ o h2 zK b (.inl hb);refine⟨g2,cur,by rw[g1];exact e2,e3,e4,e5,λi' x hx j c hc=>?_⟩;obtain⟨u',f1,f2⟩:=e6 i' x hx j c hc;exact⟨u',f1,uH _ _ f2⟩
 .rcases hcase i oi hi with ⟨p,o',hp,rfl,rfl⟩|⟨h1,h2,hi1⟩<;>rcases hcase j oj hj with ⟨p2,o2',hp2,rfl,rfl⟩|⟨h3,h4,zR⟩
  .have:=hs'.inj p p2 o' o2' b hp hp2 wK wL;rw[this]
  .exact absurd wK ((hB _ oj h4 zR b wL).2.2 o' (oz hp))
  .exact absurd wL ((hB _ oi h2 hi1 b wK).2.2 o2' (oz hp2))
  .exact hr.inj i j oi oj b hi1 zR wK wL
 .have h3:∀o∈zL,¬ o.owns b:=λo ho=>by
   obtain⟨j,hj⟩:=pZ.1 ho;obtain⟨id,o0,xB,ho0,rfl⟩:=uF j o hj;exact h2 o0 (oz ho0)
  obtain⟨g1,g2,g3⟩:=he.other b hb h1 h3;refine⟨g1,g2,λo ho=>?_⟩;obtain⟨i,hi⟩:=pZ.1 ho;rcases hcase i o hi with ⟨p,o',hp,rfl,rfl⟩|⟨_,_,zK⟩
  .exact g3 o' (oz hp)
  .exact h2 o (oz zK)
inductive UN (sel:List Nat) (N:Nat):List Row->List Row->Prop
 |nil:UN sel N [] []
 |deep {g size:Nat} {el:TypeId} {xs:List (List AV)} {r r':List Row} (hp:DG xs) (hl:UN sel N r r'):UN sel N (⟨g,el,size,xs⟩::r) (⟨g,el,size,xs⟩::r')
 |raw {g size:Nat} {el:TypeId} {cs cs':List AV} {r r':List Row} (hc:cs.map (Lk sel N)=cs') (hp:cs'.all AV.leaf=true) (hl:UN sel N r r'):UN sel N (⟨g,el,size,[cs]⟩::r) (⟨g,el,size,[cs']⟩::r')
theorem UN.pure {sel:List Nat}{N g size:Nat}{el:TypeId}{xs:List (List AV)}{r r':List Row}(hp:ES xs)(hl:UN sel N r r'):UN sel N (⟨g,el,size,xs⟩::r) (⟨g,el,size,xs⟩::r'):=.deep hp.any hl
theorem SG {sel:List Nat}{N:Nat}{c:AV}(h:E6 c=true):Lk sel N c=c:=by cases c<;>simp[E6,simple,Lk,two,QY]at h⊢
theorem UN.leaf {sel:List Nat}{N:Nat}:∀{l l':List Row},UN sel N l l'->∀row∈l,∀x∈row.xs,∀c∈x,c.kept=true->(Lk sel N c).kept=true
 |_,_,.nil,_,h=>by cases h
 |_,_,.deep hp hl,row,hm=>by
  rcases pL.1 hm with rfl|hm
  .intro x hx c hc h;rw[SG (hp x hx c hc)];exact h
  .exact UN.leaf hl row hm
 |_,_,.raw hc hp hl,row,hm=>by
  rcases pL.1 hm with rfl|hm
  .intro x hx c hcx _;simp only[pU]at hx;subst hx;exact Di (pH.1 hp _ (by rw[<- hc];exact pS.2 ⟨c,hcx,rfl⟩))
  .exact UN.leaf hl row hm
theorem UN.spec {sel:List Nat}{N:Nat}:∀{l l':List Row},UN sel N l l'->l.map (JU sel N)=l'
 |_,_,.nil=>rfl
 |_,_,.deep hp hl=>by
  simp only[pd,UN.spec hl];congr 1;simp only[JU];congr 1;refine (ph (g:=id) λx hx=>?_).trans (qo _);refine (ph (g:=id) λc hc=>?_).trans (qo _);exact SG (hp x hx c hc)
 |_,_,.raw hc _ hl=>by simp only[pd,UN.spec hl,JU,qu,hc]
theorem Le {f:FuncId}{args:List AV}{d:Option Tmp}{K:St->Prop}(h:(∀row∈s.st,∀x∈row.xs,∀c∈x,c.kept=true)->callThen P k s f args d K):callThen P k s f args d K:=
 λF os a w vs hr hl=>h (O8 hr) F os a w vs hr hl
section
variable {ops : Array Oper} {Q : Exit -> St -> Prop} {ds : List (Option Tmp)} {r : List Oper} {n : Nat} {e : Nat -> AV} {st st' : List Row} {ty : TypeId} {ps : String} {ed : Array Edge} {d : Option Tmp} {v v' : AV} {gd : Option (Nat × Bool)}
variable {f : FuncId} {vJ : Array Operand} {ts : Array TypeId} {args ug : List AV} {rowsP rows0 rows1 rows1' rows2 rows2' : List Row}
theorem SU (sel:List Nat)(hg:GO ds gd e)(hb:Cp P f=true)(hc:BJ P f ug rows0 λr st=>r=v/\st=rows1++rows2)(ha:vJ.toList.map (St.ev ⟨n,e,st⟩)++[]=args)(vt:sel.Nodup)(uV:sel.all (·<st.length)=true)
  (hp:CE st sel=rowsP) (hs:SR sel rowsP rows0) (hf:args.map (Jk sel)=ug) (hlen:rows1.length=sel.length) (h1:UN sel st.length rows1 rows1') (h2:UN sel st.length rows2 rows2') (hv:Q8 sel st.length v=v') (wV:FW sel rows1' 0 st++rows2'=st')
  (hk:Xr rows0 rows1->AO P k ops Q (ds++[d]) r (St.put ⟨n,e,st'⟩ d v')):AO P k ops Q ds (⟨d,.call ⟨.value (.func f),vJ,ts⟩,ty,ps,ed,gd⟩::r) ⟨n,e,st⟩:=by
 subst wV;subst ha;subst hv;subst hp;refine NX hg ?_;rw[OQ];refine⟨hb,Le λhle=>?_⟩;obtain⟨e1,e2⟩:=hs.spec (st0:=st) hle (λrow tw=>by
  obtain⟨i,_,hi⟩:=qh.1 tw;exact oz hi)
 refine MA sel hc vt (λi hi=>by simpa using pH.1 uV i hi) e1 e2 hf hlen (λrow tw=>by
  rcases pY.1 tw with h|h
  .exact h1.leaf row h
  .exact h2.leaf row h) λhln=>?_
 simp only[h1.spec,h2.spec];exact hk hln
theorem G8 (sel:List Nat)(hg:GO ds gd e)(hb:Cp P f=true)(hc:BJ P f ug rows0 λr st=>r=v/\st=rows1++rows2)(ha:vJ.toList.map (St.ev ⟨n,e,st⟩)++[]=args)(vt:sel.Nodup)(uV:sel.all (·<st.length)=true)
  (hp:CE st sel=rowsP) (hs:SR sel rowsP rows0) (hf:args.map (Jk sel)=ug) (hlen:rows1.length=sel.length) (h1:UN sel st.length rows1 rows1') (h2:UN sel st.length rows2 rows2') (hv:Q8 sel st.length v=v') (wV:FW sel rows1' 0 st++rows2'=st')
  (hk:AO P k ops Q (ds++[d]) r (St.put ⟨n,e,st'⟩ d v')):AO P k ops Q ds (⟨d,.call ⟨.value (.func f),vJ,ts⟩,ty,ps,ed,gd⟩::r) ⟨n,e,st⟩:=
 SU sel hg hb hc ha vt uV hp hs hf hlen h1 h2 hv wV λ_=>hk
end
theorem OA {k n:Nat}{e:Nat->AV}{st st1 st':List Row}{L:List (Nat×AV)}(sel:List Nat)(hk:sel.take k=List.range k)(vt:sel.Nodup)(uV:sel.all (·<st.length)=true)(hp:CE st sel=st1)(hs:SR sel st1 st')(h:ME (λt=>Jk sel (e t)) L):
  Wk k ⟨n,e,st⟩ ⟨n,AP L,st'⟩:=λF os a w hr=>by
 have hle:=O8 hr;obtain⟨h1,h2⟩:=hs.spec (st0:=st) hle (λrow tw=>by
  rw[<- hp]at tw;obtain⟨i,_,hi⟩:=qh.1 tw;exact oz hi)
 exact X8 sel hk vt uV (by rw[hp];exact h1) h2 h F os a w hr
theorem Qy {k n:Nat}{e:Nat->AV}{st st1 st':List Row}{L:List (Nat×AV)}(sel:List Nat)(hk:sel.take k=List.range k)(_:SR sel (st.take k) (st.take k))(vt:sel.Nodup)(uV:sel.all (·<st.length)=true)(hp:CE st sel=st1)(hs:SR sel st1 st')(h:ME (λt=>Jk sel (e t)) L):
  Wk k ⟨n,e,st⟩ ⟨n,AP L,st'⟩:=OA sel hk vt uV hp hs h
theorem BJ.wk {P:Program}{f:FuncId}{args:List AV}{rows st0 st1:List Row}{r0 r1:AV}(h:BJ P f args rows λr st=>r=r0/\st=st0)(hw:Wk rows.length ⟨1,AP [(0,r0)],st0⟩ ⟨1,AP [(0,r1)],st1⟩):
  BJ P f args rows λr st=>r=r1/\st=st1:=by
 intro F os w vs hs hl;refine (h F os w vs hs hl).mono ?_;rintro e w' ⟨v,r,st',F',os',rfl,⟨rfl,rfl⟩,h1,h2,h3⟩;have hrel:Rel F' os' ⟨1,AP [(0,r)],st'⟩ { tmps:=#[v],defers:=[] } w':=by
  refine⟨h1.st,λt=>?_,rfl,h1.rows,h1.inj,h1.Fp,rfl⟩;simp only[AP];split
  .rename_i ht;subst ht;exact h2
  .simp[Ab]
 obtain⟨F2,os2,h4,h5⟩:=hw F' os' _ w' hrel;refine⟨v,r1,st1,F2,os2,rfl,⟨rfl,rfl⟩,⟨h4.st,h4.rows,h4.inj,h4.Fp⟩,?_,h3.trans h5⟩;have:=h4.env 0;simpa [AP] using this
theorem le.H9 {α:Type}{id g m:Nat}{l:List α}{enc:α->List AV}(h:m=l.length):le (Abs.H9 id g (l.map enc) (.own id g m)) (.sl (l.map enc)):=le.of (fL h)
theorem Rel.bare {F:Nat->Prop}{os:List Own}{s:St}{a:Act}{w:World}(hr:Rel F os s a w):Rel F [] ⟨s.n,λ_=>.FY,[]⟩ a w:=
 ⟨rfl,λ_=>by simp[Ab],hr.size,by simp,by simp,hr.Fp,hr.defers⟩
theorem O1 {P:Program}{F:Nat->Prop}{os:List Own}{s:St}{a:Act}{w:World}{k:Nat}{yc:Sem Value}{v0 v:AV}{st0:List Row}(hr:Rel F os s a w)
  (he:Im P 0 F [] ⟨s.n,λ_=>.FY,[]⟩ a w yc λx st=>x=v0/\st=st0) (hw:Wk 0 ⟨1,AP [(0,v0)],st0⟩ ⟨1,AP [(0,v)],[]⟩) (hv:flat v=true) :
  ∃u w' F',yc.run P w=.ok u w'/\Rel F' os s a w'/\Ab F' w' os v u/\Ext F os w F' os w' k:=by
 obtain⟨x,st',u,w',vE,⟨rfl,rfl⟩,h2,h3,h4,h5⟩:=he;have hrel:Rel F vE ⟨1,AP [(0,x)],st'⟩ { tmps:=#[u],defers:=[] } w':=by
  refine⟨h3.st,λt=>?_,rfl,h3.rows,h3.inj,h3.Fp,rfl⟩;simp only[AP];split
  .rename_i ht;subst ht;exact h4
  .simp[Ab]
 obtain⟨F2,os2,h6,h7⟩:=hw F vE _ w' hrel;have hos2:os2=[]:=by have:=h6.st;simpa using this
 subst hos2;obtain⟨g1,g2,_⟩:=hr.after (k:=k) (h5.trans h7) h6.Fp;exact⟨u,w',F2,h2,g1,KA hv os (by have:=h6.env 0;simpa [AP] using this),g2⟩
section
variable {P : Program} {ds : List (Option Tmp)} {r : List Oper} {n : Nat} {e : Nat -> AV} {st : List Row} {ty : TypeId} {ps : String} {ed : Array Edge} {t : Tmp} {gd : Option (Nat × Bool)} {KS : St -> Prop}
variable {α : Type} {l : List α} {enc : α -> List AV} {el T : TypeId} {size bytes : Nat} {zz cs : List AV}
theorem YQ (hp:ES (l.map enc)):Wk 0 ⟨1,AP [(0,.own 0 0 l.length)],[⟨0,el,size,l.map enc⟩]⟩ ⟨1,AP [(0,.sl (l.map enc))],[]⟩:=
 (Wk.BY (n:=1) (e:=AP [(0,.own 0 0 l.length)]) (st:=[⟨0,el,size,l.map enc⟩]) (L:=[(0,.sl (l.map enc))]) (st':=[⟨1,el,size,[]⟩]) (id:=0) rfl (pT _) hp ⟨.BY rfl,pA⟩ rfl).trans
  (D2 (L:=[(0,.sl (l.map enc))]) (st':=[]) [] rfl (by decide) rfl rfl pA ⟨.rfl,pA⟩)
theorem Gu {len:Nat}{parts:Array (Nat×Operand)}{pv:List (Nat×AV)}(hg:GO ds gd e)(he:DB P T=some ⟨el,size,bytes,zz⟩)(hle:len*size<=16777216)(hp:(parts.toList.map λp=>(p.1,St.ev ⟨n,e,st⟩ p.2))=pv)
  (hpf:(pv.all λp=>flat p.2)=true) (hc:Me (λi=>some (i*size,size)) ((List.replicate len zz).flatten) pv=some cs) (hck:chunk size len cs=l.map enc) (hln:len=l.length) (hpu:ES (l.map enc))
  (hk:EN P (ds++[some t]) r KS ⟨n,DQ e t (.sl (l.map enc)),st⟩):EN P ds (⟨some t,.buildSlice T len parts,ty,ps,ed,gd⟩::r) KS ⟨n,e,st⟩:=by
 refine gM hg rfl (λs0 e1 e2 hd k F os a w hr next Q hn=>?_) hk;have hpv:(parts.toList.map λp=>(p.1,s0.ev p.2))=pv:=by
  rw[<- hp];refine ph λp hp'=>?_;rw[e2 p.2 (by simp only[Op.operands,tF,pS];exact⟨p,by simpa using hp',rfl⟩)]
 have h9:Im P 0 F [] ⟨s0.n,λ_=>.FY,[]⟩ a w (Instr.buildSlice T len (parts.map λ(i,x)=>(i,a.eval x))) (λx st=>x=.own 0 0 l.length/\st=[⟨0,el,size,l.map enc⟩]):=by
  refine P1 (parts:=pv) hr.bare (Aj _ he ⟨hle,Aj _ hc (by subst hln;rw[hck];exact⟨rfl,rfl⟩)⟩) (by rw[<- hpv];simp) λi p up hp hup=>?_;have yO:flat p.2=true:=pH.1 hpf p (oz hp);rw[<- hpv]at hp;simp only[pC,pI,tC]at hp hup;obtain⟨q,hq,rfl⟩:=hp;obtain⟨q',zU,rfl⟩:=hup;rw[hq]at zU;cases zU;exact KA yO [] (hr.ev _)
 obtain⟨u,w',F',g1,g2,g3,g4⟩:=O1 (k:=k) hr h9 (YQ hpu) rfl;unfold Oper.wp;simp only[execOp,qH,g1,qF,qW,Oper.upon];exact hn _ _ (Q0 (st':=s0.st) hd rfl g2 g3 g4)
end
end Go.Abs
