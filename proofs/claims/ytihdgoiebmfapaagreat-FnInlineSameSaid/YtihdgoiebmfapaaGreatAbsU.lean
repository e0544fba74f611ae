import Derived.Test.YtihdgoiebmfapaaGreatAbsT
set_option linter.all false
namespace Go.Abs
open Go
variable {P : Program} {F : Nat -> Prop} {os : List Own} {s : St} {a : Act} {w : World} {k : Nat}
def pos (sel:List Nat)(N p:Nat):Nat:=match sel[p]? with|some j=>j|none=>p-sel.length+N
def QW (sel:List Nat)(N:Nat):AV->AV
 |.own id g n=>.own (pos sel N id) g n
 |.ptr id g i off=>.ptr (pos sel N id) g i off
 |.fn ..|.agg _|.C8 _=>.FZ
 |v=>v
def Lm (sel:List Nat)(N:Nat)(x:AV):AV:=two (QW sel N) x
theorem jG {sel:List Nat}{N:Nat}{c:AV}{el s:Nat}{ys:List (List AV)}(h:Lm sel N c=.dv el s ys):c=.dv el s ys:=by
 refine Tl (X:=QW sel N) (λc h=>?_) h;cases c<;>simp only[QW]at h<;>first|exact h|cases h
def Q0 (sel:List Nat)(N:Nat):AV->AV
 |.fn f cs=>.fn f (cs.map (Lm sel N))
 |.agg cs=>.agg (cs.map (Lm sel N))
 |.C8 cs=>.C8 (cs.map (Lm sel N))
 |v=>Lm sel N v
def JU (sel:List Nat)(N:Nat)(row:Row):Row:={ row with xs:=row.xs.map (·.map (Lm sel N)) }
def FX (sel:List Nat)(rs:List Row):Nat->List Row->List Row
 |_,[]=>[]
 |i,row::st=>(match idx sel i with|some p=>(match rs[p]? with|some r=>r|none=>row)|none=>row)::FX sel rs (i+1) st
theorem NC {sel:List Nat}{rs:List Row}:∀(st:List Row) (i j:Nat),(FX sel rs i st)[j]?=(st[j]?).map λrow=>match idx sel (i+j) with|some p=>(match rs[p]? with|some r=>r|none=>row)|none=>row
 | [],i,j=>by simp[FX]
 |row::st,i,0=>by simp[FX]
 |row::st,i,j+1=>by
  simp only[FX,py];rw[NC st (i+1) j,show i+1+j=i+(j+1) by omega]
theorem Kg {sel:List Nat}{rs:List Row}:∀(st:List Row) (i:Nat),(FX sel rs i st).length=st.length
 | [],_=>rfl
 |_::st,i=>by simp[FX,Kg st (i+1)]
theorem Oc {sel:List Nat}{id j:Nat}(h:idx sel id=some j):sel[j]?=some id:=by
 unfold idx at h;rw[rL]at h;obtain⟨h1,h2,_⟩:=h;rw[pF h1];simpa using h2
theorem af {sel:List Nat}(vu:sel.Nodup){id j:Nat}(h:sel[j]?=some id):idx sel id=some j:=by
 unfold idx;obtain⟨h1,h2⟩:=pA.1 h;rw[rL];refine⟨h1,by simp[h2],λi hi=>?_⟩;have:=sE.1 vu i j (by omega) h1 hi;simp only[beq_iff_eq,ne_eq,tC,beq_eq_false_iff_ne];rw[<- h2];exact this
theorem gM {sel:List Nat}{id:Nat}(h:idx sel id=none):id ∉ sel:=by
 unfold idx at h;rw[List.findIdx?_eq_none_iff]at h;intro hm;simpa using h id hm
def XS (rows0 rows1:List Row):Prop:=∀(j:Nat) r0 r1,rows0[j]?=some r0->rows1[j]?=some r1->r1.gen=r0.gen->r1.xs.length=r0.xs.length
theorem L8 {f:FuncId}{args uf:List AV}{d:Option Tmp}{K:St->Prop}{rows0 rows1 rows2:List Row}{v:AV}(sel:List Nat)(h:BJ P f uf rows0 λr st=>r=v/\st=rows1++rows2)
  (vu:sel.Nodup) (uU :∀i∈sel,i<s.st.length) (hs:(CE s.st sel).map (Cm sel)=rows0) (hl0:JR rows0) (yJ:args.map (Jn sel)=uf) (hlen:rows1.length=sel.length) (hL :∀row∈rows1++rows2,∀x∈row.xs,∀c∈x,c.kept=true->(Lm sel s.st.length c).kept=true)
  (hK:XS rows0 rows1->K ({ s with st:=FX sel (rows1.map (JU sel s.st.length)) 0 s.st++rows2.map (JU sel s.st.length) }.put d (Q0 sel s.st.length v))):callThen P k s f args d K:=by
 intro F os a w vs hr hl;subst hs;have hN:s.st.length=os.length:=hr.len;have xe:∀(j id:Nat),sel[j]?=some id->(sel.filterMap (os[·]?))[j]?=os[id]?:=by
  have :∀(l:List Nat),(∀i∈l,i<os.length)->∀(j id:Nat),l[j]?=some id->(l.filterMap (os[·]?))[j]?=os[id]?:=λl=>by
   induction l with
   |nil=>intro _ j id h;simp at h
   |cons i l ih=>
    intro hl j id h;have hi:=hl i (by simp);rw[rB,pF hi];cases j with
    |zero=>simp only[ph,pC]at h;subst h;simp[pF hi]
    |succ j=>simp only[py]at h⊢;exact ih (λx hx=>hl x (by simp[hx])) j id h
  exact this sel (λi hi=>by rw[<- hN];exact uU i hi)
 let so:Own->Own:=λo=>{ o with row:=Cm sel o.row }
 let zK:=(sel.filterMap (os[·]?)).map so
 have hl2:(sel.filterMap (os[·]?)).length=sel.length:=by
  have :∀(l:List Nat),(∀i∈l,i<os.length)->(l.filterMap (os[·]?)).length=l.length:=λl=>by
   induction l with
   |nil=>simp
   |cons i l ih=>intro hl;rw[rB,pF (hl i (by simp))];simp[ih (λx hx=>hl x (by simp[hx]))]
  exact this sel (λi hi=>by rw[<- hN];exact uU i hi)
 have uD:∀(j:Nat) (o:Own),zK[j]?=some o->∃id o0,sel[j]?=some id/\os[id]?=some o0/\o=so o0:=λj o h=>by
  simp only[zK,pB,pH]at h;obtain⟨o0,h0,rfl⟩:=h;have hj:j<sel.length:=by rw[<- hl2];exact (pA.1 h0).1
  refine⟨sel[j],o0,pF hj,?_,rfl⟩;rw[<- xe j _ (pF hj)];exact h0
 have hidx:∀id j,idx sel id=some j->zK[j]?=(os[id]?).map so:=λid j hj=>by
  simp only[zK,pB];rw[xe j id (Oc hj)]
 have hren0:∀x v,Ab F w os x v->Ab F w zK (I9 sel x) v:=λx v h=>by
  cases x with
  |own id g n=>
   simp only[I9];split
   .rename_i j hj;simp only[Ab]at h⊢;obtain⟨o,h1,h2,h3,h4⟩:=h;exact⟨so o,by rw[hidx id j hj,h1];rfl,h2,h3,λhg=>by
     obtain⟨a1,a2⟩:=h4 hg;exact⟨by simpa [so,Cm] using a1,by simpa [so,Cm] using a2⟩⟩
   .simp[Ab]
  |ptr id g i off=>
   simp only[I9];split
   .rename_i j hj;simp only[Ab]at h⊢;obtain⟨o,h1,h2,h3,h4⟩:=h;exact⟨so o,by rw[hidx id j hj,h1];rfl,h2,h3,λhg=>by
     obtain⟨a1,a2,a3⟩:=h4 hg;exact⟨by simpa [so,Cm] using a1,a2,a3⟩⟩
   .simp[Ab]
  |fn f cs=>simp[I9,Ab]
  |agg cs=>simp[I9,Ab]
  |C8 cs=>simp[I9,Ab]
  |_=>simp only[I9,Ab]at h⊢<;>exact h
 have xf:∀x v,Ab F w os x v->Ab F w zK (Jg sel x) v:=MN hren0;have xg:∀cs us,Br F w os cs us->Br F w zK (cs.map (Jg sel)) us:=λcs us h=>
  Db (by simp[BX h]) λi x u hx hu=>by
   simp only[pB,pH]at hx;obtain⟨y,hy,rfl⟩:=hx;obtain⟨u',vo,vg⟩:=CH h i y hy;rw[vo]at hu;cases hu;exact xf _ _ vg
 have hren:∀x v,Ab F w os x v->Ab F w zK (Jn sel x) v:=λx v h=>by
  cases x with
  |fn f cs=>simp only[Jn,Ab]at h⊢;obtain⟨us,e,hl⟩:=h;exact⟨us,e,xg _ _ hl⟩
  |agg cs=>simp only[Jn,Ab]at h⊢;obtain⟨us,e,hl⟩:=h;exact⟨us,e,xg _ _ hl⟩
  |C8 cs=>simp only[Jn,Ab]at h⊢;obtain⟨us,e,hl⟩:=h;exact⟨us,e,xg _ _ hl⟩
  |_=>exact xf _ _ h
 have zV:zK.map Own.row=(CE s.st sel).map (Cm sel):=by
  have h0:os.map Own.row=s.st:=hr.st;simp only[zK,rF,CE];rw[<- h0];have hco:Own.row∘so=Cm sel∘Own.row:=rfl;rw[hco,<- rF,si];congr 1;simp[sv]
 have hSO:Hc F zK ((CE s.st sel).map (Cm sel)) w:=by
  refine⟨zV,λj o ho=>?_,λi j oi oj b hi hj wJ wK=>?_,hr.Fu⟩
  .obtain⟨id,o0,xA,ho0,rfl⟩:=uD j o ho;have tz:=hr.rows id o0 ho0;have hm:Cm sel o0.row∈(CE s.st sel).map (Cm sel):=by
    rw[<- zV];exact pQ.2 ⟨so o0,ov ho,rfl⟩
   refine⟨tz.pos,λx hx=>⟨?_,hl0 _ hm x hx⟩,λhb=>?_,λb hb=>?_,tz.mo,tz.deep.mapped (Jg sel) (λ_ _ _ _ h=>bx h) rfl rfl rfl rfl⟩
   .simp only[so,Cm,pQ]at hx;obtain⟨y,hy,rfl⟩:=hx;simpa [so,Cm] using (tz.lens y hy).1
   .obtain⟨h1,h2⟩:=tz.none hb;exact⟨by simp[so,Cm,h1],h2⟩
   .obtain⟨h1,cur,h2,h3,h4,h5,h6⟩:=tz.some b hb;refine⟨h1,cur,h2,h3,by simpa [so,Cm] using h4,h5,λi x hx j' c hc=>?_⟩;simp only[so,Cm,pB,pH]at hx;obtain⟨y,hy,rfl⟩:=hx;simp only[pB,pH]at hc;obtain⟨c0,wS,rfl⟩:=hc;obtain⟨u,e1,e2⟩:=h6 i y hy j' c0 wS;exact⟨u,e1,xf _ _ e2⟩
  .obtain⟨id,o0,xA,ho0,rfl⟩:=uD i oi hi;obtain⟨vH,o0',hid',ho0',rfl⟩:=uD j oj hj;have he:=hr.inj id vH o0 o0' b ho0 ho0' wJ wK;subst he;have h1:=af vu xA;rw[af vu hid']at h1;exact (qf h1).symm
 have hlA:Br F w zK uf vs:=by
  subst yJ;exact Db (by simp[BX hl]) λi x u hx hu=>by
   simp only[pB,pH]at hx;obtain⟨y,hy,rfl⟩:=hx;obtain⟨u',vo,vg⟩:=CH hl i y hy;rw[vo]at hu;cases hu;exact hren _ _ vg
 refine (h F zK w vs hSO hlA).mono ?_;rintro e w' ⟨u,r,st',F',os',rfl,⟨rfl,rfl⟩,hs',hru,he⟩;have yb:os'.length=sel.length+rows2.length:=by
  have:=qX List.length hs'.st;rw[pR,pU]at this;omega
 have hpl:((CE s.st sel).map (Cm sel)).length=sel.length:=by
  rw[<- zV];simp[zK,hl2]
 let N:=s.st.length
 let un:Own->Own:=λo=>{ o with row:=JU sel N o.row }
 let f2:Nat->Own->Own:=λi o=>match idx sel i with|some p=>(match os'[p]? with|some o'=>un o'|none=>o)|none=>o
 let os2:=os.mapIdx f2++(os'.drop sel.length).map un
 have hNl:(os.mapIdx f2).length=N:=by simp[N,hN]
 have hgL:∀i,i<N->os2[i]?=(os[i]?).map (f2 i):=λi hi=>by
  simp only[os2];rw[pM (by omega),sY]
 have hgP:∀p o',os'[p]?=some o'->os2[pos sel N p]?=some (un o'):=λp o' uw=>by
  unfold pos;split
  .rename_i j hj;have hjN:j<N:=uU j (ov hj);rw[hgL j hjN,pF (by omega)];simp only[qF,f2,af vu hj,uw]
  .rename_i hn;have hp:sel.length<=p:=rV.1 hn;simp only[os2];rw[pN (by omega),hNl,pB,qH,show sel.length+(p-sel.length+N-N)=p by omega,uw];rfl
 have hgO:∀i,i<N->idx sel i=none->os2[i]?=os[i]?:=λi hi hx=>by
  rw[hgL i hi];have:f2 i=id:=by funext o;simp[f2,hx]
  rw[this,Option.map_id];rfl
 have hcase:∀i o,os2[i]?=some o->(∃p o',os'[p]?=some o'/\o=un o'/\i=pos sel N p)∨(i<N/\idx sel i=none/\os[i]?=some o):=λi o ho=>by
  rcases rG i N with hi|hi
  .rcases hx:idx sel i with _|p
   .exact .inr ⟨hi,rfl,by rw[<- hgO i hi hx];exact ho⟩
   .have hp:=Oc hx;have hpl2:p<os'.length:=by have:=(pA.1 hp).1;omega
    have h1:=hgP p _ (pF hpl2);have h2:pos sel N p=i:=by unfold pos;rw[hp]
    rw[h2,ho]at h1;exact .inl ⟨p,_,pF hpl2,qf h1,h2.symm⟩
  .have zJ:=ho;simp only[os2]at zJ;rw[pN (by omega),hNl,pB,pH]at zJ;obtain⟨o',h1,h2⟩:=zJ;rw[qH]at h1;refine .inl ⟨_,o',h1,h2.symm,?_⟩;unfold pos;rw[rV.2 (by omega)];simp only;omega
 have hosle:Fp os os2:=λi o ho=>by
  have hiN:i<N:=by have:=(pA.1 ho).1;omega
  rcases hx:idx sel i with _|p
  .exact⟨o,by rw[hgO i hiN hx];exact ho,pL _,rfl,λ_=>⟨rfl,rfl,rfl⟩⟩
  .have hp:=Oc hx;have h1:zK[p]?=some (so o):=by rw[hidx i p hx,ho];rfl
   obtain⟨o',uw,e1,e2,e3⟩:=he.Vn p (so o) (by rw[hpl];exact (pA.1 hp).1) h1;refine⟨un o',?_,e1,e2,λhg=>?_⟩
   .have:=hgP p o' uw;unfold pos at this;rw[hp]at this;exact this
   .obtain⟨g1,g2,g3⟩:=e3 hg;exact⟨g1,g2,by simpa [so,un,Cm,JU] using g3⟩
 have uG:∀x v,Ab F w os x v->Ab F' w' os2 x v:=λx v h=>DW he.Ny he.Ix os _ hosle x v h;have hun0:∀x v,Ab F' w' os' x v->Ab F' w' os2 (QW sel N x) v:=λx v h=>by
  cases x with
  |own id g n=>
   simp only[QW,Ab]at h⊢;obtain⟨o,h1,h2,h3,h4⟩:=h;exact⟨un o,hgP _ _ h1,h2,h3,λhg=>by
    obtain⟨a1,a2⟩:=h4 hg;exact⟨by simpa [un,JU] using a1,by simpa [un,JU] using a2⟩⟩
  |ptr id g i off=>
   simp only[QW,Ab]at h⊢;obtain⟨o,h1,h2,h3,h4⟩:=h;exact⟨un o,hgP _ _ h1,h2,h3,λhg=>by
    obtain⟨a1,a2,a3⟩:=h4 hg;exact⟨by simpa [un,JU] using a1,a2,a3⟩⟩
  |fn f cs=>simp[QW,Ab]
  |agg cs=>simp[QW,Ab]
  |C8 cs=>simp[QW,Ab]
  |_=>simp only[QW,Ab]at h⊢<;>exact h
 have hun1:∀x v,Ab F' w' os' x v->Ab F' w' os2 (Lm sel N x) v:=MN hun0;have hunL:∀cs us,Br F' w' os' cs us->Br F' w' os2 (cs.map (Lm sel N)) us:=λcs us h=>
  Db (by simp[BX h]) λi x u hx hu=>by
   simp only[pB,pH]at hx;obtain⟨y,hy,rfl⟩:=hx;obtain⟨u',vo,vg⟩:=CH h i y hy;rw[vo]at hu;cases hu;exact hun1 _ _ vg
 have hunr:∀x v,Ab F' w' os' x v->Ab F' w' os2 (Q0 sel N x) v:=λx v h=>by
  cases x with
  |fn f cs=>simp only[Q0,Ab]at h⊢;obtain⟨us,e,hl⟩:=h;exact⟨us,e,hunL _ _ hl⟩
  |agg cs=>simp only[Q0,Ab]at h⊢;obtain⟨us,e,hl⟩:=h;exact⟨us,e,hunL _ _ hl⟩
  |C8 cs=>simp only[Q0,Ab]at h⊢;obtain⟨us,e,hl⟩:=h;exact⟨us,e,hunL _ _ hl⟩
  |_=>exact hun1 _ _ h
 have hB:∀(i:Nat) (o:Own),idx sel i=none->os[i]?=some o->∀b,o.owns b->w'.heap[b]?=w.heap[b]?/\¬ F' b/\∀o1:Own,o1∈os'->¬ o1.owns b:=λi o hx ho b hb=>by
  refine he.other b ((hr.rows _ o ho).lt hb) ((hr.rows _ o ho).nF hb) λoA hoA e=>?_;obtain⟨j,hj⟩:=pY.1 hoA;obtain⟨id,o0,xA,ho0,rfl⟩:=uD j oA hj;have:=hr.inj id i o0 o b ho0 ho e hb;subst this;exact gM hx (ov xA)
 have vn:os2.map Own.row=FX sel (rows1.map (JU sel N)) 0 s.st++rows2.map (JU sel N):=by
  simp only[os2,qu];have uV:os'.map Own.row=rows1++rows2:=hs'.st;congr 1
  .apply qj;intro i;rw[pB,sY,NC,qO];have h0:os.map Own.row=s.st:=hr.st;rw[<- h0,pB];cases xL:os[i]? with
   |none=>rfl
   |some o=>
    simp only[qF,f2];cases hx:idx sel i with
    |none=>rfl
    |some p=>
     have hpm:p<sel.length:=(pA.1 (Oc hx)).1;have hp':p<os'.length:=by omega
     have h3:(os'.map Own.row)[p]?=rows1[p]?:=by rw[uV,pM (by omega)]
     rw[pB,pF hp']at h3;simp only[pB,pF hp',<- h3,qF,un]
  .rw[rF];have hco:Own.row∘un=JU sel N∘Own.row:=rfl;rw[hco,<- rF,List.map_drop,uV];simp[<- hlen]
 have hkept:XS ((CE s.st sel).map (Cm sel)) rows1:=λj r0 r1 h0 h1 hg=>by
  have hj:j<((CE s.st sel).map (Cm sel)).length:=(pA.1 h0).1;rw[<- zV,pB,pH]at h0;obtain⟨oA,hoA,rfl⟩:=h0;obtain⟨o',uw,_,_,e3⟩:=he.Vn j oA hj hoA;have wU:os'.map Own.row=rows1++rows2:=hs'.st;have h2:(rows1++rows2)[j]?=some o'.row:=by rw[<- wU,pB,uw];rfl
  rw[pM (pA.1 h1).1,h1]at h2;cases h2;exact (e3 hg).2.2
 refine⟨u,_,_,F',os2,rfl,hK hkept,⟨vn,λt=>uG _ _ (hr.env t),hr.size,λi o ho=>?_,λi j oi oj b hi hj wJ wK=>?_,hs'.Fu,hr.defers⟩,hunr _ _ hru,⟨he.sys,he.tape,he.output,he.size,he.Ny,he.Ix,λb hb h1 h2=>?_,λi o hi ho=>hosle i o ho⟩⟩
 .rcases hcase i o ho with ⟨p,o',hp,rfl,rfl⟩|⟨h1,h2,zJ⟩
  .have tz:=hs'.rows p o' hp;refine⟨tz.pos,λx hx=>?_,λhb=>?_,λb hb=>?_,tz.mo,tz.deep.mapped (Lm sel N) (λ_ _ _ _ h=>jG h) rfl rfl rfl rfl⟩
   .simp only[un,JU,pQ]at hx;obtain⟨y,hy,rfl⟩:=hx;obtain⟨g1,g2⟩:=tz.lens y hy;refine⟨by simpa [un,JU] using g1,λc hc=>?_⟩;obtain⟨c0,wS,rfl⟩:=pQ.1 hc;have hmem:o'.row∈rows1++rows2:=by rw[<- hs'.st];exact pQ.2 ⟨o',ov hp,rfl⟩
    exact hL _ hmem y hy c0 wS (g2 c0 wS)
   .obtain⟨h1,h2⟩:=tz.none hb;exact⟨by simp[un,JU,h1],h2⟩
   .obtain⟨e1,cur,e2,e3,e4,e5,e6⟩:=tz.some b hb;refine⟨e1,cur,e2,e3,by simpa [un,JU] using e4,e5,λi' x hx q c hc=>?_⟩;simp only[un,JU,pB,pH]at hx;obtain⟨y,hy,rfl⟩:=hx;simp only[pB,pH]at hc;obtain⟨c0,wS,rfl⟩:=hc;obtain⟨u',f1,f2⟩:=e6 i' y hy q c0 wS;exact⟨u',f1,hun1 _ _ f2⟩
  .have tz:=hr.rows _ o zJ;refine⟨tz.pos,tz.lens,tz.none,λb hb=>?_,λb hb=>⟨(hB _ o h2 zJ b (.inr hb)).2.1,qK (tz.mo b hb).2.1 he.size,(tz.mo b hb).2.2⟩,
    tz.deep.keep rfl (λ_ h=>h) rfl (λb hb=>(hB _ o h2 zJ b hb).1) (λi x j e s ys hx hc=>⟨x,hx,hc⟩)⟩
   obtain⟨e1,cur,e2,e3,e4,e5,e6⟩:=tz.some b hb;obtain⟨g1,g2,_⟩:=hB _ o h2 zJ b (.inl hb);refine⟨g2,cur,by rw[g1];exact e2,e3,e4,e5,λi' x hx j c hc=>?_⟩;obtain⟨u',f1,f2⟩:=e6 i' x hx j c hc;exact⟨u',f1,uG _ _ f2⟩
 .rcases hcase i oi hi with ⟨p,o',hp,rfl,rfl⟩|⟨h1,h2,hi1⟩<;>rcases hcase j oj hj with ⟨p2,o2',hp2,rfl,rfl⟩|⟨h3,h4,zQ⟩
  .have:=hs'.inj p p2 o' o2' b hp hp2 wJ wK;rw[this]
  .exact absurd wJ ((hB _ oj h4 zQ b wK).2.2 o' (ov hp))
  .exact absurd wK ((hB _ oi h2 hi1 b wJ).2.2 o2' (ov hp2))
  .exact hr.inj i j oi oj b hi1 zQ wJ wK
 .have h3:∀o∈zK,¬ o.owns b:=λo ho=>by
   obtain⟨j,hj⟩:=pY.1 ho;obtain⟨id,o0,xA,ho0,rfl⟩:=uD j o hj;exact h2 o0 (ov ho0)
  obtain⟨g1,g2,g3⟩:=he.other b hb h1 h3;refine⟨g1,g2,λo ho=>?_⟩;obtain⟨i,hi⟩:=pY.1 ho;rcases hcase i o hi with ⟨p,o',hp,rfl,rfl⟩|⟨_,_,zJ⟩
  .exact g3 o' (ov hp)
  .exact h2 o (ov zJ)
inductive UN (sel:List Nat) (N:Nat):List Row->List Row->Prop
 |nil:UN sel N [] []
 |deep {g size:Nat} {el:TypeId} {xs:List (List AV)} {r r':List Row} (hp:DF xs) (hl:UN sel N r r'):UN sel N (⟨g,el,size,xs⟩::r) (⟨g,el,size,xs⟩::r')
 |raw {g size:Nat} {el:TypeId} {cs cs':List AV} {r r':List Row} (hc:cs.map (Lm sel N)=cs') (hp:cs'.all AV.leaf=true) (hl:UN sel N r r'):UN sel N (⟨g,el,size,[cs]⟩::r) (⟨g,el,size,[cs']⟩::r')
theorem UN.pure {sel:List Nat}{N g size:Nat}{el:TypeId}{xs:List (List AV)}{r r':List Row}(hp:ET xs)(hl:UN sel N r r'):UN sel N (⟨g,el,size,xs⟩::r) (⟨g,el,size,xs⟩::r'):=.deep hp.any hl
theorem SK {sel:List Nat}{N:Nat}{c:AV}(h:E6 c=true):Lm sel N c=c:=by cases c<;>simp[E6,simple,Lm,two,QW]at h⊢
theorem UN.leaf {sel:List Nat}{N:Nat}:∀{l l':List Row},UN sel N l l'->∀row∈l,∀x∈row.xs,∀c∈x,c.kept=true->(Lm sel N c).kept=true
 |_,_,.nil,_,h=>by cases h
 |_,_,.deep hp hl,row,hm=>by
  rcases pK.1 hm with rfl|hm
  .intro x hx c hc h;rw[SK (hp x hx c hc)];exact h
  .exact UN.leaf hl row hm
 |_,_,.raw hc hp hl,row,hm=>by
  rcases pK.1 hm with rfl|hm
  .intro x hx c hcx _;simp only[pS]at hx;subst hx;exact Dg (pG.1 hp _ (by rw[<- hc];exact pQ.2 ⟨c,hcx,rfl⟩))
  .exact UN.leaf hl row hm
theorem UN.spec {sel:List Nat}{N:Nat}:∀{l l':List Row},UN sel N l l'->l.map (JU sel N)=l'
 |_,_,.nil=>rfl
 |_,_,.deep hp hl=>by
  simp only[pc,UN.spec hl];congr 1;simp only[JU];congr 1;refine (pf (g:=id) λx hx=>?_).trans (qn _);refine (pf (g:=id) λc hc=>?_).trans (qn _);exact SK (hp x hx c hc)
 |_,_,.raw hc _ hl=>by simp only[pc,UN.spec hl,JU,qt,hc]
theorem Ld {f:FuncId}{args:List AV}{d:Option Tmp}{K:St->Prop}(h:(∀row∈s.st,∀x∈row.xs,∀c∈x,c.kept=true)->callThen P k s f args d K):callThen P k s f args d K:=
 λF os a w vs hr hl=>h (Og hr) F os a w vs hr hl
section
variable {ops : Array Oper} {Q : Exit -> St -> Prop} {ds : List (Option Tmp)} {r : List Oper} {n : Nat} {e : Nat -> AV} {st st' : List Row} {ty : TypeId} {ps : String} {ed : Array Edge} {d : Option Tmp} {v v' : AV} {gd : Option (Nat × Bool)}
variable {f : FuncId} {vI : Array Operand} {ts : Array TypeId} {args uf : List AV} {rowsP rows0 rows1 rows1' rows2 rows2' : List Row}
theorem Ss (sel:List Nat)(hg:GO ds gd e)(hb:Cq P f=true)(hc:BJ P f uf rows0 λr st=>r=v/\st=rows1++rows2)(ha:vI.toList.map (St.ev ⟨n,e,st⟩)++[]=args)(vu:sel.Nodup)(uU:sel.all (·<st.length)=true)
  (hp:CE st sel=rowsP) (hs:SR sel rowsP rows0) (hf:args.map (Jn sel)=uf) (hlen:rows1.length=sel.length) (h1:UN sel st.length rows1 rows1') (h2:UN sel st.length rows2 rows2') (hv:Q0 sel st.length v=v') (wU:FX sel rows1' 0 st++rows2'=st')
  (hk:XS rows0 rows1->AO P k ops Q (ds++[d]) r (St.put ⟨n,e,st'⟩ d v')):AO P k ops Q ds (⟨d,.call ⟨.value (.func f),vI,ts⟩,ty,ps,ed,gd⟩::r) ⟨n,e,st⟩:=by
 subst wU;subst ha;subst hv;subst hp;refine NO hg ?_;rw[OE];refine⟨hb,Ld λhle=>?_⟩;obtain⟨e1,e2⟩:=hs.spec (st0:=st) hle (λrow tv=>by
  obtain⟨i,_,hi⟩:=qg.1 tv;exact ov hi)
 refine L8 sel hc vu (λi hi=>by simpa using pG.1 uU i hi) e1 e2 hf hlen (λrow tv=>by
  rcases pX.1 tv with h|h
  .exact h1.leaf row h
  .exact h2.leaf row h) λhln=>?_
 simp only[h1.spec,h2.spec];exact hk hln
theorem G6 (sel:List Nat)(hg:GO ds gd e)(hb:Cq P f=true)(hc:BJ P f uf rows0 λr st=>r=v/\st=rows1++rows2)(ha:vI.toList.map (St.ev ⟨n,e,st⟩)++[]=args)(vu:sel.Nodup)(uU:sel.all (·<st.length)=true)
  (hp:CE st sel=rowsP) (hs:SR sel rowsP rows0) (hf:args.map (Jn sel)=uf) (hlen:rows1.length=sel.length) (h1:UN sel st.length rows1 rows1') (h2:UN sel st.length rows2 rows2') (hv:Q0 sel st.length v=v') (wU:FX sel rows1' 0 st++rows2'=st')
  (hk:AO P k ops Q (ds++[d]) r (St.put ⟨n,e,st'⟩ d v')):AO P k ops Q ds (⟨d,.call ⟨.value (.func f),vI,ts⟩,ty,ps,ed,gd⟩::r) ⟨n,e,st⟩:=
 Ss sel hg hb hc ha vu uU hp hs hf hlen h1 h2 hv wU λ_=>hk
end
theorem N1 {k n:Nat}{e:Nat->AV}{st st1 st':List Row}{L:List (Nat×AV)}(sel:List Nat)(hk:sel.take k=List.range k)(vu:sel.Nodup)(uU:sel.all (·<st.length)=true)(hp:CE st sel=st1)(hs:SR sel st1 st')(h:ME (λt=>Jn sel (e t)) L):
  Wk k ⟨n,e,st⟩ ⟨n,AP L,st'⟩:=λF os a w hr=>by
 have hle:=Og hr;obtain⟨h1,h2⟩:=hs.spec (st0:=st) hle (λrow tv=>by
  rw[<- hp]at tv;obtain⟨i,_,hi⟩:=qg.1 tv;exact ov hi)
 exact X5 sel hk vu uU (by rw[hp];exact h1) h2 h F os a w hr
theorem Qq {k n:Nat}{e:Nat->AV}{st st1 st':List Row}{L:List (Nat×AV)}(sel:List Nat)(hk:sel.take k=List.range k)(_:SR sel (st.take k) (st.take k))(vu:sel.Nodup)(uU:sel.all (·<st.length)=true)(hp:CE st sel=st1)(hs:SR sel st1 st')(h:ME (λt=>Jn sel (e t)) L):
  Wk k ⟨n,e,st⟩ ⟨n,AP L,st'⟩:=N1 sel hk vu uU hp hs h
theorem BJ.wk {P:Program}{f:FuncId}{args:List AV}{rows st0 st1:List Row}{r0 r1:AV}(h:BJ P f args rows λr st=>r=r0/\st=st0)(hw:Wk rows.length ⟨1,AP [(0,r0)],st0⟩ ⟨1,AP [(0,r1)],st1⟩):
  BJ P f args rows λr st=>r=r1/\st=st1:=by
 intro F os w vs hs hl;refine (h F os w vs hs hl).mono ?_;rintro e w' ⟨v,r,st',F',os',rfl,⟨rfl,rfl⟩,h1,h2,h3⟩;have hrel:Rel F' os' ⟨1,AP [(0,r)],st'⟩ { tmps:=#[v],defers:=[] } w':=by
  refine⟨h1.st,λt=>?_,rfl,h1.rows,h1.inj,h1.Fu,rfl⟩;simp only[AP];split
  .rename_i ht;subst ht;exact h2
  .simp[Ab]
 obtain⟨F2,os2,h4,h5⟩:=hw F' os' _ w' hrel;refine⟨v,r1,st1,F2,os2,rfl,⟨rfl,rfl⟩,⟨h4.st,h4.rows,h4.inj,h4.Fu⟩,?_,h3.trans h5⟩;have:=h4.env 0;simpa [AP] using this
theorem le.IF {α:Type}{id g m:Nat}{l:List α}{enc:α->List AV}(h:m=l.length):le (Abs.IF id g (l.map enc) (.own id g m)) (.sl (l.map enc)):=le.of (du h)
theorem Rel.bare {F:Nat->Prop}{os:List Own}{s:St}{a:Act}{w:World}(hr:Rel F os s a w):Rel F [] ⟨s.n,λ_=>.FZ,[]⟩ a w:=
 ⟨rfl,λ_=>by simp[Ab],hr.size,by simp,by simp,hr.Fu,hr.defers⟩
theorem Ot {P:Program}{F:Nat->Prop}{os:List Own}{s:St}{a:Act}{w:World}{k:Nat}{yc:Sem Value}{v0 v:AV}{st0:List Row}(hr:Rel F os s a w)
  (he:Ig P 0 F [] ⟨s.n,λ_=>.FZ,[]⟩ a w yc λx st=>x=v0/\st=st0) (hw:Wk 0 ⟨1,AP [(0,v0)],st0⟩ ⟨1,AP [(0,v)],[]⟩) (hv:flat v=true) :
  ∃u w' F',yc.run P w=.ok u w'/\Rel F' os s a w'/\Ab F' w' os v u/\Ext F os w F' os w' k:=by
 obtain⟨x,st',u,w',vD,⟨rfl,rfl⟩,h2,h3,h4,h5⟩:=he;have hrel:Rel F vD ⟨1,AP [(0,x)],st'⟩ { tmps:=#[u],defers:=[] } w':=by
  refine⟨h3.st,λt=>?_,rfl,h3.rows,h3.inj,h3.Fu,rfl⟩;simp only[AP];split
  .rename_i ht;subst ht;exact h4
  .simp[Ab]
 obtain⟨F2,os2,h6,h7⟩:=hw F vD _ w' hrel;have hos2:os2=[]:=by have:=h6.st;simpa using this
 subst hos2;obtain⟨g1,g2,_⟩:=hr.after (k:=k) (h5.trans h7) h6.Fu;exact⟨u,w',F2,h2,g1,KD hv os (by have:=h6.env 0;simpa [AP] using this),g2⟩
section
variable {P : Program} {ds : List (Option Tmp)} {r : List Oper} {n : Nat} {e : Nat -> AV} {st : List Row} {ty : TypeId} {ps : String} {ed : Array Edge} {t : Tmp} {gd : Option (Nat × Bool)} {KS : St -> Prop}
variable {α : Type} {l : List α} {enc : α -> List AV} {el T : TypeId} {size bytes : Nat} {zz cs : List AV}
theorem XD (hp:ET (l.map enc)):Wk 0 ⟨1,AP [(0,.own 0 0 l.length)],[⟨0,el,size,l.map enc⟩]⟩ ⟨1,AP [(0,.sl (l.map enc))],[]⟩:=
 (Wk.BZ (n:=1) (e:=AP [(0,.own 0 0 l.length)]) (st:=[⟨0,el,size,l.map enc⟩]) (L:=[(0,.sl (l.map enc))]) (st':=[⟨1,el,size,[]⟩]) (id:=0) rfl (pT _) hp ⟨.BZ rfl,oz⟩ rfl).trans
  (D3 (L:=[(0,.sl (l.map enc))]) (st':=[]) [] rfl (by decide) rfl rfl oz ⟨.rfl,oz⟩)
theorem Gr {len:Nat}{parts:Array (Nat×Operand)}{pv:List (Nat×AV)}(hg:GO ds gd e)(he:DB P T=some ⟨el,size,bytes,zz⟩)(hle:len*size<=16777216)(hp:(parts.toList.map λp=>(p.1,St.ev ⟨n,e,st⟩ p.2))=pv)
  (hpf:(pv.all λp=>flat p.2)=true) (hc:Md (λi=>some (i*size,size)) ((List.replicate len zz).flatten) pv=some cs) (hck:chunk size len cs=l.map enc) (hln:len=l.length) (hpu:ET (l.map enc))
  (hk:EK P (ds++[some t]) r KS ⟨n,DQ e t (.sl (l.map enc)),st⟩):EK P ds (⟨some t,.buildSlice T len parts,ty,ps,ed,gd⟩::r) KS ⟨n,e,st⟩:=by
 refine gv hg rfl (λs0 e1 e2 hd k F os a w hr next Q hn=>?_) hk;have hpv:(parts.toList.map λp=>(p.1,s0.ev p.2))=pv:=by
  rw[<- hp];refine pf λp hp'=>?_;rw[e2 p.2 (by simp only[Op.operands,tE,pQ];exact⟨p,by simpa using hp',rfl⟩)]
 have h9:Ig P 0 F [] ⟨s0.n,λ_=>.FZ,[]⟩ a w (Instr.buildSlice T len (parts.map λ(i,x)=>(i,a.eval x))) (λx st=>x=.own 0 0 l.length/\st=[⟨0,el,size,l.map enc⟩]):=by
  refine Px (parts:=pv) hr.bare (Ak _ he ⟨hle,Ak _ hc (by subst hln;rw[hck];exact⟨rfl,rfl⟩)⟩) (by rw[<- hpv];simp) λi p up hp hup=>?_;have yP:flat p.2=true:=pG.1 hpf p (ov hp);rw[<- hpv]at hp;simp only[pB,pH,tB]at hp hup;obtain⟨q,hq,rfl⟩:=hp;obtain⟨q',zT,rfl⟩:=hup;rw[hq]at zT;cases zT;exact KD yP [] (hr.ev _)
 obtain⟨u,w',F',g1,g2,g3,g4⟩:=Ot (k:=k) hr h9 (XD hpu) rfl;unfold Oper.wp;simp only[execOp,qG,g1,qD,qV,Oper.upon];exact hn _ _ (QY (st':=s0.st) hd rfl g2 g3 g4)
end
end Go.Abs
