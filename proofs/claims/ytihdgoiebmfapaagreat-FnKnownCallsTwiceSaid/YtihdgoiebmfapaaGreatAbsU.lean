import Derived.Test.YtihdgoiebmfapaaGreatAbsT
set_option linter.all false
namespace Go.Abs
open Go
variable {P : Program} {F : Nat -> Prop} {os : List Own} {s : St} {a : Act} {w : World} {k : Nat}
def pos (sel:List Nat)(N p:Nat):Nat:=match sel[p]? with|some j=>j|none=>p-sel.length+N
def O2 (sel:List Nat)(N:Nat):AV->AV
 | .own id g n=>.own (pos sel N id) g n
 | .ptr id g i off=>.ptr (pos sel N id) g i off
 | .fn ..|.agg _|.Dm _=>.E2
 | v=>v
def MQ (sel:List Nat)(N:Nat)(x:AV):AV:=two (O2 sel N) x
theorem aM {sel:List Nat}{N:Nat}{c:AV}{el s:Nat}{ys:List (List AV)}(h:MQ sel N c=.dv el s ys):c=.dv el s ys:=by
 refine Q8 (X:=O2 sel N) (λc h=>?_) h;cases c<;>simp only[O2]at h<;>first|exact h|cases h
def Rn (sel:List Nat)(N:Nat):AV->AV
 | .fn f cs=>.fn f (cs.map (MQ sel N))
 | .agg cs=>.agg (cs.map (MQ sel N))
 | .Dm cs=>.Dm (cs.map (MQ sel N))
 | v=>MQ sel N v
def IJ (sel:List Nat)(N:Nat)(row:Row):Row:={ row with xs:=row.xs.map (·.map (MQ sel N)) }
def Fs (sel:List Nat)(rs:List Row):Nat->List Row->List Row
 | _,[]=>[]
 | i,row::st=>(match idx sel i with|some p=>(match rs[p]? with|some r=>r|none=>row)|none=>row)::Fs sel rs (i+1) st
theorem LP {sel:List Nat}{rs:List Row}:∀(st:List Row) (i j:Nat),(Fs sel rs i st)[j]?=(st[j]?).map λrow=>match idx sel (i+j) with|some p=>(match rs[p]? with|some r=>r|none=>row)|none=>row
 | [],i,j=>by simp[Fs]
 | row::st,i,0=>by simp[Fs]
 | row::st,i,j+1=>by
  simp only[Fs,gZ];rw[LP st (i+1) j,show i+1+j=i+(j+1) by omega]
theorem JT {sel:List Nat}{rs:List Row}:∀(st:List Row) (i:Nat),(Fs sel rs i st).length=st.length
 | [],_=>rfl
 | _::st,i=>by simp[Fs,JT st (i+1)]
theorem NB {sel:List Nat}{id j:Nat}(h:idx sel id=some j):sel[j]?=some id:=by
 unfold idx at h;rw[ib]at h;obtain⟨h1,h2,_⟩:=h;rw[fm h1];simpa using h2
theorem WO {sel:List Nat}(mh:sel.Nodup){id j:Nat}(h:sel[j]?=some id):idx sel id=some j:=by
 unfold idx;obtain⟨h1,h2⟩:=fe.1 h;rw[ib];refine⟨h1,by simp[h2],λi hi=>?_⟩;have:=jT.1 mh i j (by omega) h1 hi;simp only[beq_iff_eq,ne_eq,kI,beq_eq_false_iff_ne];rw[<- h2];exact this
theorem Z7 {sel:List Nat}{id:Nat}(h:idx sel id=none):id ∉ sel:=by
 unfold idx at h;rw[List.findIdx?_eq_none_iff]at h;intro hm;simpa using h id hm
def UX (rows0 rows1:List Row):Prop:=∀(j:Nat) r0 r1,rows0[j]?=some r0->rows1[j]?=some r1->r1.gen=r0.gen->r1.xs.length=r0.xs.length
theorem Kg {f:FuncId}{args mB:List AV}{d:Option Tmp}{K:St->Prop}{rows0 rows1 rows2:List Row}{v:AV}(sel:List Nat)(h:Ac P f mB rows0 λr st=>r=v/\st=rows1++rows2)
  (mh:sel.Nodup) (lh :∀i∈sel,i<s.st.length) (hs:(CT s.st sel).map (Cc sel)=rows0) (tj:Ho rows0) (oc:args.map (Je sel)=mB) (hlen:rows1.length=sel.length) (hL :∀row∈rows1++rows2,∀x∈row.xs,∀c∈x,c.kept=true->(MQ sel s.st.length c).kept=true)
  (hK:UX rows0 rows1->K ({ s with st:=Fs sel (rows1.map (IJ sel s.st.length)) 0 s.st++rows2.map (IJ sel s.st.length) }.put d (Rn sel s.st.length v))):callThen P k s f args d K:=by
 intro F os a w vs hr hl;subst hs;have hN:s.st.length=os.length:=hr.len;have oF:∀(j id:Nat),sel[j]?=some id->(sel.filterMap (os[·]?))[j]?=os[id]?:=by
  have :∀(l:List Nat),(∀i∈l,i<os.length)->∀(j id:Nat),l[j]?=some id->(l.filterMap (os[·]?))[j]?=os[id]?:=λl=>by
   induction l with
   | nil=>intro _ j id h;simp at h
   | cons i l ih=>
    intro hl j id h;have hi:=hl i (by simp);rw[iU,fm hi];cases j with
    | zero=>simp only[gQ,ff]at h;subst h;simp[fm hi]
    | succ j=>simp only[gZ]at h⊢;exact ih (λx hx=>hl x (by simp[hx])) j id h
  exact this sel (λi hi=>by rw[<- hN];exact lh i hi)
 let so:Own->Own:=λo=>{ o with row:=Cc sel o.row }
 let pd:=(sel.filterMap (os[·]?)).map so
 have rZ:(sel.filterMap (os[·]?)).length=sel.length:=by
  have :∀(l:List Nat),(∀i∈l,i<os.length)->(l.filterMap (os[·]?)).length=l.length:=λl=>by
   induction l with
   | nil=>simp
   | cons i l ih=>intro hl;rw[iU,fm (hl i (by simp))];simp[ih (λx hx=>hl x (by simp[hx]))]
  exact this sel (λi hi=>by rw[<- hN];exact lh i hi)
 have lW:∀(j:Nat) (o:Own),pd[j]?=some o->∃id o0,sel[j]?=some id/\os[id]?=some o0/\o=so o0:=λj o h=>by
  simp only[pd,fg,fp]at h;obtain⟨o0,h0,rfl⟩:=h;have hj:j<sel.length:=by rw[<- rZ];exact (fe.1 h0).1
  refine⟨sel[j],o0,fm hj,?_,rfl⟩;rw[<- oF j _ (fm hj)];exact h0
 have qb:∀id j,idx sel id=some j->pd[j]?=(os[id]?).map so:=λid j hj=>by
  simp only[pd,fg];rw[oF j id (NB hj)]
 have rH:∀x v,Ae F w os x v->Ae F w pd (H4 sel x) v:=λx v h=>by
  cases x with
  | own id g n=>
   simp only[H4];split
   ·rename_i j hj;simp only[Ae]at h⊢;obtain⟨o,h1,h2,h3,h4⟩:=h;exact⟨so o,by rw[qb id j hj,h1];rfl,h2,h3,λhg=>by
     obtain⟨a1,a2⟩:=h4 hg;exact⟨by simpa [so,Cc] using a1,by simpa [so,Cc] using a2⟩⟩
   ·simp[Ae]
  | ptr id g i off=>
   simp only[H4];split
   ·rename_i j hj;simp only[Ae]at h⊢;obtain⟨o,h1,h2,h3,h4⟩:=h;exact⟨so o,by rw[qb id j hj,h1];rfl,h2,h3,λhg=>by
     obtain⟨a1,a2,a3⟩:=h4 hg;exact⟨by simpa [so,Cc] using a1,a2,a3⟩⟩
   ·simp[Ae]
  | fn f cs=>simp[H4,Ae]
  | agg cs=>simp[H4,Ae]
  | Dm cs=>simp[H4,Ae]
  | _=>simp only[H4,Ae]at h⊢<;>exact h
 have oG:∀x v,Ae F w os x v->Ae F w pd (JE sel x) v:=Kq rH;have oH:∀cs us,Br F w os cs us->Br F w pd (cs.map (JE sel)) us:=λcs us h=>
  DV (by simp[BW h]) λi x u hx hu=>by
   simp only[fg,fp]at hx;obtain⟨y,hy,rfl⟩:=hx;obtain⟨u',nC,mc⟩:=CJ h i y hy;rw[nC]at hu;cases hu;exact oG _ _ mc
 have sw:∀x v,Ae F w os x v->Ae F w pd (Je sel x) v:=λx v h=>by
  cases x with
  | fn f cs=>simp only[Je,Ae]at h⊢;obtain⟨us,e,hl⟩:=h;exact⟨us,e,oH _ _ hl⟩
  | agg cs=>simp only[Je,Ae]at h⊢;obtain⟨us,e,hl⟩:=h;exact⟨us,e,oH _ _ hl⟩
  | Dm cs=>simp only[Je,Ae]at h⊢;obtain⟨us,e,hl⟩:=h;exact⟨us,e,oH _ _ hl⟩
  | _=>exact oG _ _ h
 have px:pd.map Own.row=(CT s.st sel).map (Cc sel):=by
  have h0:os.map Own.row=s.st:=hr.st;simp only[pd,iP,CT];rw[<- h0];have sx:Own.row∘so=Cc sel∘Own.row:=rfl;rw[sx,<- iP,jz];congr 1;simp[kC]
 have hSO:G9 F pd ((CT s.st sel).map (Cc sel)) w:=by
  refine⟨px,λj o ho=>?_,λi j oi oj b hi hj nD nE=>?_,hr.GG⟩
  ·obtain⟨id,o0,oT,ho0,rfl⟩:=lW j o ho;have lU:=hr.rows id o0 ho0;have hm:Cc sel o0.row∈(CT s.st sel).map (Cc sel):=by
    rw[<- px];exact gC.2 ⟨so o0,fc ho,rfl⟩
   refine⟨lU.pos,λx hx=>⟨?_,tj _ hm x hx⟩,λhb=>?_,λb hb=>?_,lU.mo,lU.deep.mapped (JE sel) (λ_ _ _ _ h=>XF h) rfl rfl rfl rfl⟩
   ·simp only[so,Cc,gC]at hx;obtain⟨y,hy,rfl⟩:=hx;simpa [so,Cc] using (lU.lens y hy).1
   ·obtain⟨h1,h2⟩:=lU.none hb;exact⟨by simp[so,Cc,h1],h2⟩
   ·obtain⟨h1,cur,h2,h3,h4,h5,h6⟩:=lU.some b hb;refine⟨h1,cur,h2,h3,by simpa [so,Cc] using h4,h5,λi x hx j' c hc=>?_⟩;simp only[so,Cc,fg,fp]at hx;obtain⟨y,hy,rfl⟩:=hx;simp only[fg,fp]at hc;obtain⟨c0,nO,rfl⟩:=hc;obtain⟨u,e1,e2⟩:=h6 i y hy j' c0 nO;exact⟨u,e1,oG _ _ e2⟩
  ·obtain⟨id,o0,oT,ho0,rfl⟩:=lW i oi hi;obtain⟨mG,o0',hid',ho0',rfl⟩:=lW j oj hj;have he:=hr.inj id mG o0 o0' b ho0 ho0' nD nE;subst he;have h1:=WO mh oT;rw[WO mh hid']at h1;exact (ik h1).symm
 have hlA:Br F w pd mB vs:=by
  subst oc;exact DV (by simp[BW hl]) λi x u hx hu=>by
   simp only[fg,fp]at hx;obtain⟨y,hy,rfl⟩:=hx;obtain⟨u',nC,mc⟩:=CJ hl i y hy;rw[nC]at hu;cases hu;exact sw _ _ mc
 refine (h F pd w vs hSO hlA).mono ?_;rintro e w' ⟨u,r,st',F',os',rfl,⟨rfl,rfl⟩,pj,hru,he⟩;have oa:os'.length=sel.length+rows2.length:=by
  have:=iE List.length pj.st;rw[gI,gV]at this;omega
 have wb:((CT s.st sel).map (Cc sel)).length=sel.length:=by
  rw[<- px];simp[pd,rZ]
 let N:=s.st.length
 let un:Own->Own:=λo=>{ o with row:=IJ sel N o.row }
 let f2:Nat->Own->Own:=λi o=>match idx sel i with|some p=>(match os'[p]? with|some o'=>un o'|none=>o)|none=>o
 let os2:=os.mapIdx f2++(os'.drop sel.length).map un
 have zL:(os.mapIdx f2).length=N:=by simp[N,hN]
 have zM:∀i,i<N->os2[i]?=(os[i]?).map (f2 i):=λi hi=>by
  simp only[os2];rw[ft (by omega),js]
 have wL:∀p o',os'[p]?=some o'->os2[pos sel N p]?=some (un o'):=λp o' lz=>by
  unfold pos;split
  ·rename_i j hj;have hjN:j<N:=lh j (fc hj);rw[zM j hjN,fm (by omega)];simp only[gu,f2,WO mh hj,lz]
  ·rename_i hn;have hp:sel.length<=p:=jC.1 hn;simp only[os2];rw[fw (by omega),zL,fg,gh,show sel.length+(p-sel.length+N-N)=p by omega,lz];rfl
 have zN:∀i,i<N->idx sel i=none->os2[i]?=os[i]?:=λi hi hx=>by
  rw[zM i hi];have:f2 i=id:=by funext o;simp[f2,hx]
  rw[this,Option.map_id];rfl
 have qP:∀i o,os2[i]?=some o->(∃p o',os'[p]?=some o'/\o=un o'/\i=pos sel N p)∨(i<N/\idx sel i=none/\os[i]?=some o):=λi o ho=>by
  rcases iY i N with hi|hi
  ·rcases hx:idx sel i with _|p
   ·exact .inr ⟨hi,rfl,by rw[<- zN i hi hx];exact ho⟩
   ·have hp:=NB hx;have vA:p<os'.length:=by have:=(fe.1 hp).1;omega
    have h1:=wL p _ (fm vA);have h2:pos sel N p=i:=by unfold pos;rw[hp]
    rw[h2,ho]at h1;exact .inl ⟨p,_,fm vA,ik h1,h2.symm⟩
  ·have pc:=ho;simp only[os2]at pc;rw[fw (by omega),zL,fg,fp]at pc;obtain⟨o',h1,h2⟩:=pc;rw[gh]at h1;refine .inl ⟨_,o',h1,h2.symm,?_⟩;unfold pos;rw[jC.2 (by omega)];simp only;omega
 have sT:FF os os2:=λi o ho=>by
  have wZ:i<N:=by have:=(fe.1 ho).1;omega
  rcases hx:idx sel i with _|p
  ·exact⟨o,by rw[zN i wZ hx];exact ho,gA _,rfl,λ_=>⟨rfl,rfl,rfl⟩⟩
  ·have hp:=NB hx;have h1:pd[p]?=some (so o):=by rw[qb i p hx,ho];rfl
   obtain⟨o',lz,e1,e2,e3⟩:=he.Xe p (so o) (by rw[wb];exact (fe.1 hp).1) h1;refine⟨un o',?_,e1,e2,λhg=>?_⟩
   ·have:=wL p o' lz;unfold pos at this;rw[hp]at this;exact this
   ·obtain⟨g1,g2,g3⟩:=e3 hg;exact⟨g1,g2,by simpa [so,un,Cc,IJ] using g3⟩
 have lY:∀x v,Ae F w os x v->Ae F' w' os2 x v:=λx v h=>Dc he.OF he.Ir os _ sT x v h;have wz:∀x v,Ae F' w' os' x v->Ae F' w' os2 (O2 sel N x) v:=λx v h=>by
  cases x with
  | own id g n=>
   simp only[O2,Ae]at h⊢;obtain⟨o,h1,h2,h3,h4⟩:=h;exact⟨un o,wL _ _ h1,h2,h3,λhg=>by
    obtain⟨a1,a2⟩:=h4 hg;exact⟨by simpa [un,IJ] using a1,by simpa [un,IJ] using a2⟩⟩
  | ptr id g i off=>
   simp only[O2,Ae]at h⊢;obtain⟨o,h1,h2,h3,h4⟩:=h;exact⟨un o,wL _ _ h1,h2,h3,λhg=>by
    obtain⟨a1,a2,a3⟩:=h4 hg;exact⟨by simpa [un,IJ] using a1,a2,a3⟩⟩
  | fn f cs=>simp[O2,Ae]
  | agg cs=>simp[O2,Ae]
  | Dm cs=>simp[O2,Ae]
  | _=>simp only[O2,Ae]at h⊢<;>exact h
 have sy:∀x v,Ae F' w' os' x v->Ae F' w' os2 (MQ sel N x) v:=Kq wz;have tA:∀cs us,Br F' w' os' cs us->Br F' w' os2 (cs.map (MQ sel N)) us:=λcs us h=>
  DV (by simp[BW h]) λi x u hx hu=>by
   simp only[fg,fp]at hx;obtain⟨y,hy,rfl⟩:=hx;obtain⟨u',nC,mc⟩:=CJ h i y hy;rw[nC]at hu;cases hu;exact sy _ _ mc
 have xA:∀x v,Ae F' w' os' x v->Ae F' w' os2 (Rn sel N x) v:=λx v h=>by
  cases x with
  | fn f cs=>simp only[Rn,Ae]at h⊢;obtain⟨us,e,hl⟩:=h;exact⟨us,e,tA _ _ hl⟩
  | agg cs=>simp only[Rn,Ae]at h⊢;obtain⟨us,e,hl⟩:=h;exact⟨us,e,tA _ _ hl⟩
  | Dm cs=>simp only[Rn,Ae]at h⊢;obtain⟨us,e,hl⟩:=h;exact⟨us,e,tA _ _ hl⟩
  | _=>exact sy _ _ h
 have hB:∀(i:Nat) (o:Own),idx sel i=none->os[i]?=some o->∀b,o.owns b->w'.heap[b]?=w.heap[b]?/\¬ F' b/\∀o1:Own,o1∈os'->¬ o1.owns b:=λi o hx ho b hb=>by
  refine he.other b ((hr.rows _ o ho).lt hb) ((hr.rows _ o ho).nF hb) λoA xB e=>?_;obtain⟨j,hj⟩:=gG.1 xB;obtain⟨id,o0,oT,ho0,rfl⟩:=lW j oA hj;have:=hr.inj id i o0 o b ho0 ho e hb;subst this;exact Z7 hx (fc oT)
 have mg:os2.map Own.row=Fs sel (rows1.map (IJ sel N)) 0 s.st++rows2.map (IJ sel N):=by
  simp only[os2,iD];have lp:os'.map Own.row=rows1++rows2:=pj.st;congr 1
  ·apply iu;intro i;rw[fg,js,LP,iJ];have h0:os.map Own.row=s.st:=hr.st;rw[<- h0,fg];cases nm:os[i]? with
   | none=>rfl
   | some o=>
    simp only[gu,f2];cases hx:idx sel i with
    | none=>rfl
    | some p=>
     have hpm:p<sel.length:=(fe.1 (NB hx)).1;have pa:p<os'.length:=by omega
     have h3:(os'.map Own.row)[p]?=rows1[p]?:=by rw[lp,ft (by omega)]
     rw[fg,fm pa]at h3;simp only[fg,fm pa,<- h3,gu,un]
  ·rw[iP];have sx:Own.row∘un=IJ sel N∘Own.row:=rfl;rw[sx,<- iP,List.map_drop,lp];simp[<- hlen]
 have vB:UX ((CT s.st sel).map (Cc sel)) rows1:=λj r0 r1 h0 h1 hg=>by
  have hj:j<((CT s.st sel).map (Cc sel)).length:=(fe.1 h0).1;rw[<- px,fg,fp]at h0;obtain⟨oA,xB,rfl⟩:=h0;obtain⟨o',lz,_,_,e3⟩:=he.Xe j oA hj xB;have nM:os'.map Own.row=rows1++rows2:=pj.st;have h2:(rows1++rows2)[j]?=some o'.row:=by rw[<- nM,fg,lz];rfl
  rw[ft (fe.1 h1).1,h1]at h2;cases h2;exact (e3 hg).2.2
 refine⟨u,_,_,F',os2,rfl,hK vB,⟨mg,λt=>lY _ _ (hr.env t),hr.size,λi o ho=>?_,λi j oi oj b hi hj nD nE=>?_,pj.GG,hr.defers⟩,xA _ _ hru,⟨he.sys,he.tape,he.output,he.size,he.OF,he.Ir,λb hb h1 h2=>?_,λi o hi ho=>sT i o ho⟩⟩
 ·rcases qP i o ho with ⟨p,o',hp,rfl,rfl⟩|⟨h1,h2,pc⟩
  ·have lU:=pj.rows p o' hp;refine⟨lU.pos,λx hx=>?_,λhb=>?_,λb hb=>?_,lU.mo,lU.deep.mapped (MQ sel N) (λ_ _ _ _ h=>aM h) rfl rfl rfl rfl⟩
   ·simp only[un,IJ,gC]at hx;obtain⟨y,hy,rfl⟩:=hx;obtain⟨g1,g2⟩:=lU.lens y hy;refine⟨by simpa [un,IJ] using g1,λc hc=>?_⟩;obtain⟨c0,nO,rfl⟩:=gC.1 hc;have xC:o'.row∈rows1++rows2:=by rw[<- pj.st];exact gC.2 ⟨o',fc hp,rfl⟩
    exact hL _ xC y hy c0 nO (g2 c0 nO)
   ·obtain⟨h1,h2⟩:=lU.none hb;exact⟨by simp[un,IJ,h1],h2⟩
   ·obtain⟨e1,cur,e2,e3,e4,e5,e6⟩:=lU.some b hb;refine⟨e1,cur,e2,e3,by simpa [un,IJ] using e4,e5,λi' x hx q c hc=>?_⟩;simp only[un,IJ,fg,fp]at hx;obtain⟨y,hy,rfl⟩:=hx;simp only[fg,fp]at hc;obtain⟨c0,nO,rfl⟩:=hc;obtain⟨u',f1,f2⟩:=e6 i' y hy q c0 nO;exact⟨u',f1,sy _ _ f2⟩
  ·have lU:=hr.rows _ o pc;refine⟨lU.pos,lU.lens,lU.none,λb hb=>?_,λb hb=>⟨(hB _ o h2 pc b (.inr hb)).2.1,iG (lU.mo b hb).2.1 he.size,(lU.mo b hb).2.2⟩,
    lU.deep.keep rfl (λ_ h=>h) rfl (λb hb=>(hB _ o h2 pc b hb).1) (λi x j e s ys hx hc=>⟨x,hx,hc⟩)⟩
   obtain⟨e1,cur,e2,e3,e4,e5,e6⟩:=lU.some b hb;obtain⟨g1,g2,_⟩:=hB _ o h2 pc b (.inl hb);refine⟨g2,cur,by rw[g1];exact e2,e3,e4,e5,λi' x hx j c hc=>?_⟩;obtain⟨u',f1,f2⟩:=e6 i' x hx j c hc;exact⟨u',f1,lY _ _ f2⟩
 ·rcases qP i oi hi with ⟨p,o',hp,rfl,rfl⟩|⟨h1,h2,ra⟩<;>rcases qP j oj hj with ⟨p2,o2',hp2,rfl,rfl⟩|⟨h3,h4,pq⟩
  ·have:=pj.inj p p2 o' o2' b hp hp2 nD nE;rw[this]
  ·exact absurd nD ((hB _ oj h4 pq b nE).2.2 o' (fc hp))
  ·exact absurd nE ((hB _ oi h2 ra b nD).2.2 o2' (fc hp2))
  ·exact hr.inj i j oi oj b ra pq nD nE
 ·have h3:∀o∈pd,¬ o.owns b:=λo ho=>by
   obtain⟨j,hj⟩:=gG.1 ho;obtain⟨id,o0,oT,ho0,rfl⟩:=lW j o hj;exact h2 o0 (fc ho0)
  obtain⟨g1,g2,g3⟩:=he.other b hb h1 h3;refine⟨g1,g2,λo ho=>?_⟩;obtain⟨i,hi⟩:=gG.1 ho;rcases qP i o hi with ⟨p,o',hp,rfl,rfl⟩|⟨_,_,pc⟩
  ·exact g3 o' (fc hp)
  ·exact h2 o (fc pc)
inductive UN (sel:List Nat) (N:Nat):List Row->List Row->Prop
 | nil:UN sel N [] []
 | deep {g size:Nat} {el:TypeId} {xs:List (List AV)} {r r':List Row} (hp:Cp xs) (hl:UN sel N r r'):UN sel N (⟨g,el,size,xs⟩::r) (⟨g,el,size,xs⟩::r')
 | raw {g size:Nat} {el:TypeId} {cs cs':List AV} {r r':List Row} (hc:cs.map (MQ sel N)=cs') (hp:cs'.all AV.leaf=true) (hl:UN sel N r r'):UN sel N (⟨g,el,size,[cs]⟩::r) (⟨g,el,size,[cs']⟩::r')
theorem UN.pure {sel:List Nat}{N g size:Nat}{el:TypeId}{xs:List (List AV)}{r r':List Row}(hp:Dz xs)(hl:UN sel N r r'):UN sel N (⟨g,el,size,xs⟩::r) (⟨g,el,size,xs⟩::r'):=.deep hp.any hl
theorem P6 {sel:List Nat}{N:Nat}{c:AV}(h:EY c=true):MQ sel N c=c:=by cases c<;>simp[EY,simple,MQ,two,O2]at h⊢
theorem UN.leaf {sel:List Nat}{N:Nat}:∀{l l':List Row},UN sel N l l'->∀row∈l,∀x∈row.xs,∀c∈x,c.kept=true->(MQ sel N c).kept=true
 | _,_,.nil,_,h=>by cases h
 | _,_,.deep hp hl,row,hm=>by
  rcases fu.1 hm with rfl|hm
  ·intro x hx c hc h;rw[P6 (hp x hx c hc)];exact h
  ·exact UN.leaf hl row hm
 | _,_,.raw hc hp hl,row,hm=>by
  rcases fu.1 hm with rfl|hm
  ·intro x hx c qq _;simp only[gB]at hx;subst hx;exact Dr (fk.1 hp _ (by rw[<- hc];exact gC.2 ⟨c,qq,rfl⟩))
  ·exact UN.leaf hl row hm
theorem UN.spec {sel:List Nat}{N:Nat}:∀{l l':List Row},UN sel N l l'->l.map (IJ sel N)=l'
 | _,_,.nil=>rfl
 | _,_,.deep hp hl=>by
  simp only[gP,UN.spec hl];congr 1;simp only[IJ];congr 1;refine (gO (g:=id) λx hx=>?_).trans (hZ _);refine (gO (g:=id) λc hc=>?_).trans (hZ _);exact P6 (hp x hx c hc)
 | _,_,.raw hc _ hl=>by simp only[gP,UN.spec hl,IJ,iQ,hc]
theorem Js {f:FuncId}{args:List AV}{d:Option Tmp}{K:St->Prop}(h:(∀row∈s.st,∀x∈row.xs,∀c∈x,c.kept=true)->callThen P k s f args d K):callThen P k s f args d K:=
 λF os a w vs hr hl=>h (LY hr) F os a w vs hr hl
section
variable {ops : Array Oper} {Q : Exit -> St -> Prop} {ds : List (Option Tmp)} {r : List Oper} {n : Nat} {e : Nat -> AV} {st st' : List Row} {ty : TypeId} {ps : String} {ed : Array Edge} {d : Option Tmp} {v v' : AV} {gd : Option (Nat × Bool)}
variable {f : FuncId} {mT : Array Operand} {ts : Array TypeId} {args mB : List AV} {rowsP rows0 rows1 rows1' rows2 rows2' : List Row}
theorem Yt (sel:List Nat)(hg:GO ds gd e)(hb:D1 P f=true)(hc:Ac P f mB rows0 λr st=>r=v/\st=rows1++rows2)(ha:mT.toList.map (St.ev ⟨n,e,st⟩)++[]=args)(mh:sel.Nodup)(lh:sel.all (·<st.length)=true)
  (hp:CT st sel=rowsP) (hs:SR sel rowsP rows0) (hf:args.map (Je sel)=mB) (hlen:rows1.length=sel.length) (h1:UN sel st.length rows1 rows1') (h2:UN sel st.length rows2 rows2') (hv:Rn sel st.length v=v') (nM:Fs sel rows1' 0 st++rows2'=st')
  (hk:UX rows0 rows1->AO P k ops Q (ds++[d]) r (St.put ⟨n,e,st'⟩ d v')):AO P k ops Q ds (⟨d,.call ⟨.value (.func f),mT,ts⟩,ty,ps,ed,gd⟩::r) ⟨n,e,st⟩:=by
 subst nM;subst ha;subst hv;subst hp;refine Lz hg ?_;rw[Mh];refine⟨hb,Js λhle=>?_⟩;obtain⟨e1,e2⟩:=hs.spec (st0:=st) hle (λrow lQ=>by
  obtain⟨i,_,hi⟩:=hU.1 lQ;exact fc hi)
 refine Kg sel hc mh (λi hi=>by simpa using fk.1 lh i hi) e1 e2 hf hlen (λrow lQ=>by
  rcases gS.1 lQ with h|h
  ·exact h1.leaf row h
  ·exact h2.leaf row h) λsS=>?_
 simp only[h1.spec,h2.spec];exact hk sS
theorem Gy (sel:List Nat)(hg:GO ds gd e)(hb:D1 P f=true)(hc:Ac P f mB rows0 λr st=>r=v/\st=rows1++rows2)(ha:mT.toList.map (St.ev ⟨n,e,st⟩)++[]=args)(mh:sel.Nodup)(lh:sel.all (·<st.length)=true)
  (hp:CT st sel=rowsP) (hs:SR sel rowsP rows0) (hf:args.map (Je sel)=mB) (hlen:rows1.length=sel.length) (h1:UN sel st.length rows1 rows1') (h2:UN sel st.length rows2 rows2') (hv:Rn sel st.length v=v') (nM:Fs sel rows1' 0 st++rows2'=st')
  (hk:AO P k ops Q (ds++[d]) r (St.put ⟨n,e,st'⟩ d v')):AO P k ops Q ds (⟨d,.call ⟨.value (.func f),mT,ts⟩,ty,ps,ed,gd⟩::r) ⟨n,e,st⟩:=
 Yt sel hg hb hc ha mh lh hp hs hf hlen h1 h2 hv nM λ_=>hk
end
theorem MY {k n:Nat}{e:Nat->AV}{st st1 st':List Row}{L:List (Nat×AV)}(sel:List Nat)(hk:sel.take k=List.range k)(mh:sel.Nodup)(lh:sel.all (·<st.length)=true)(hp:CT st sel=st1)(hs:SR sel st1 st')(h:ME (λt=>Je sel (e t)) L):
  Wk k ⟨n,e,st⟩ ⟨n,Aa L,st'⟩:=λF os a w hr=>by
 have hle:=LY hr;obtain⟨h1,h2⟩:=hs.spec (st0:=st) hle (λrow lQ=>by
  rw[<- hp]at lQ;obtain⟨i,_,hi⟩:=hU.1 lQ;exact fc hi)
 exact QS sel hk mh lh (by rw[hp];exact h1) h2 h F os a w hr
theorem CR {k n:Nat}{e:Nat->AV}{st st1 st':List Row}{L:List (Nat×AV)}(sel:List Nat)(hk:sel.take k=List.range k)(_:SR sel (st.take k) (st.take k))(mh:sel.Nodup)(lh:sel.all (·<st.length)=true)(hp:CT st sel=st1)(hs:SR sel st1 st')(h:ME (λt=>Je sel (e t)) L):
  Wk k ⟨n,e,st⟩ ⟨n,Aa L,st'⟩:=MY sel hk mh lh hp hs h
theorem Ac.wk {P:Program}{f:FuncId}{args:List AV}{rows st0 st1:List Row}{r0 r1:AV}(h:Ac P f args rows λr st=>r=r0/\st=st0)(hw:Wk rows.length ⟨1,Aa [(0,r0)],st0⟩ ⟨1,Aa [(0,r1)],st1⟩):
  Ac P f args rows λr st=>r=r1/\st=st1:=by
 intro F os w vs hs hl;refine (h F os w vs hs hl).mono ?_;rintro e w' ⟨v,r,st',F',os',rfl,⟨rfl,rfl⟩,h1,h2,h3⟩;have ly:Rel F' os' ⟨1,Aa [(0,r)],st'⟩ { tmps:=#[v],defers:=[] } w':=by
  refine⟨h1.st,λt=>?_,rfl,h1.rows,h1.inj,h1.GG,rfl⟩;simp only[Aa];split
  ·rename_i ht;subst ht;exact h2
  ·simp[Ae]
 obtain⟨F2,os2,h4,h5⟩:=hw F' os' _ w' ly;refine⟨v,r1,st1,F2,os2,rfl,⟨rfl,rfl⟩,⟨h4.st,h4.rows,h4.inj,h4.GG⟩,?_,h3.trans h5⟩;have:=h4.env 0;simpa [Aa] using this
theorem le.G5 {α:Type}{id g m:Nat}{l:List α}{enc:α->List AV}(h:m=l.length):le (Abs.G5 id g (l.map enc) (.own id g m)) (.sl (l.map enc)):=le.of (YQ h)
theorem Rel.bare {F:Nat->Prop}{os:List Own}{s:St}{a:Act}{w:World}(hr:Rel F os s a w):Rel F [] ⟨s.n,λ_=>.E2,[]⟩ a w:=
 ⟨rfl,λ_=>by simp[Ae],hr.size,by simp,by simp,hr.GG,hr.defers⟩
theorem Mn {P:Program}{F:Nat->Prop}{os:List Own}{s:St}{a:Act}{w:World}{k:Nat}{pI:Sem Value}{v0 v:AV}{st0:List Row}(hr:Rel F os s a w)
  (he:He P 0 F [] ⟨s.n,λ_=>.E2,[]⟩ a w pI λx st=>x=v0/\st=st0) (hw:Wk 0 ⟨1,Aa [(0,v0)],st0⟩ ⟨1,Aa [(0,v)],[]⟩) (hv:flat v=true) :
  ∃u w' F',pI.run P w=.ok u w'/\Rel F' os s a w'/\Ae F' w' os v u/\Ext F os w F' os w' k:=by
 obtain⟨x,st',u,w',mF,⟨rfl,rfl⟩,h2,h3,h4,h5⟩:=he;have ly:Rel F mF ⟨1,Aa [(0,x)],st'⟩ { tmps:=#[u],defers:=[] } w':=by
  refine⟨h3.st,λt=>?_,rfl,h3.rows,h3.inj,h3.GG,rfl⟩;simp only[Aa];split
  ·rename_i ht;subst ht;exact h4
  ·simp[Ae]
 obtain⟨F2,os2,h6,h7⟩:=hw F mF _ w' ly;have sv:os2=[]:=by have:=h6.st;simpa using this
 subst sv;obtain⟨g1,g2,_⟩:=hr.after (k:=k) (h5.trans h7) h6.GG;exact⟨u,w',F2,h2,g1,I1 hv os (by have:=h6.env 0;simpa [Aa] using this),g2⟩
section
variable {P : Program} {ds : List (Option Tmp)} {r : List Oper} {n : Nat} {e : Nat -> AV} {st : List Row} {ty : TypeId} {ps : String} {ed : Array Edge} {t : Tmp} {gd : Option (Nat × Bool)} {KS : St -> Prop}
variable {α : Type} {l : List α} {enc : α -> List AV} {el T : TypeId} {size bytes : Nat} {zz cs : List AV}
theorem Tk (hp:Dz (l.map enc)):Wk 0 ⟨1,Aa [(0,.own 0 0 l.length)],[⟨0,el,size,l.map enc⟩]⟩ ⟨1,Aa [(0,.sl (l.map enc))],[]⟩:=
 (Wk.BJ (n:=1) (e:=Aa [(0,.own 0 0 l.length)]) (st:=[⟨0,el,size,l.map enc⟩]) (L:=[(0,.sl (l.map enc))]) (st':=[⟨1,el,size,[]⟩]) (id:=0) rfl (gK _) hp ⟨.BJ rfl,fa⟩ rfl).trans
  (Du (L:=[(0,.sl (l.map enc))]) (st':=[]) [] rfl (by decide) rfl rfl fa ⟨.rfl,fa⟩)
theorem GI {len:Nat}{parts:Array (Nat×Operand)}{pv:List (Nat×AV)}(hg:GO ds gd e)(he:Dt P T=some ⟨el,size,bytes,zz⟩)(hle:len*size<=16777216)(hp:(parts.toList.map λp=>(p.1,St.ev ⟨n,e,st⟩ p.2))=pv)
  (tB:(pv.all λp=>flat p.2)=true) (hc:L3 (λi=>some (i*size,size)) ((List.replicate len zz).flatten) pv=some cs) (wu:chunk size len cs=l.map enc) (sS:len=l.length) (xD:Dz (l.map enc))
  (hk:Dy P (ds++[some t]) r KS ⟨n,Em e t (.sl (l.map enc)),st⟩):Dy P ds (⟨some t,.buildSlice T len parts,ty,ps,ed,gd⟩::r) KS ⟨n,e,st⟩:=by
 refine aE hg rfl (λs0 e1 e2 hd k F os a w hr next Q hn=>?_) hk;have vC:(parts.toList.map λp=>(p.1,s0.ev p.2))=pv:=by
  rw[<- hp];refine gO λp pa=>?_;rw[e2 p.2 (by simp only[Op.operands,kL,gC];exact⟨p,by simpa using pa,rfl⟩)]
 have h9:He P 0 F [] ⟨s0.n,λ_=>.E2,[]⟩ a w (Instr.buildSlice T len (parts.map λ(i,x)=>(i,a.eval x))) (λx st=>x=.own 0 0 l.length/\st=[⟨0,el,size,l.map enc⟩]):=by
  refine OA (parts:=pv) hr.bare (Am _ he ⟨hle,Am _ hc (by subst sS;rw[wu];exact⟨rfl,rfl⟩)⟩) (by rw[<- vC];simp) λi p up hp sQ=>?_;have qM:flat p.2=true:=fk.1 tB p (fc hp);rw[<- vC]at hp;simp only[fg,fp,kH]at hp sQ;obtain⟨q,hq,rfl⟩:=hp;obtain⟨q',qp,rfl⟩:=sQ;rw[hq]at qp;cases qp;exact I1 qM [] (hr.ev _)
 obtain⟨u,w',F',g1,g2,g3,g4⟩:=Mn (k:=k) hr h9 (Tk xD) rfl;unfold Oper.wp;simp only[execOp,gr,g1,gl,hY,Oper.upon];exact hn _ _ (Oh (st':=s0.st) hd rfl g2 g3 g4)
end
end Go.Abs
