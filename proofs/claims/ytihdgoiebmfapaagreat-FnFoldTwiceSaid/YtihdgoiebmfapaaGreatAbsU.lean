import Derived.Test.YtihdgoiebmfapaaGreatAbsT
set_option linter.all false
namespace Go.Abs
open Go
variable {P : Program} {F : Nat -> Prop} {os : List Own} {s : St} {a : Act} {w : World} {k : Nat}
def pos (sel:List Nat)(N p:Nat):Nat:=match sel[p]? with|some j=>j|none=>p-sel.length+N
def PZ (sel:List Nat)(N:Nat):AV->AV
 | .own id g n=>.own (pos sel N id) g n
 | .ptr id g i off=>.ptr (pos sel N id) g i off
 | .fn ..|.agg _|.Dp _=>.E2
 | v=>v
def Mm (sel:List Nat)(N:Nat)(x:AV):AV:=two (PZ sel N) x
theorem dp {sel:List Nat}{N:Nat}{c:AV}{el s:Nat}{ys:List (List AV)}(h:Mm sel N c=.dv el s ys):c=.dv el s ys:=by
 refine SE (X:=PZ sel N) (λc h=>?_) h;cases c<;>simp only[PZ]at h<;>first|exact h|cases h
def Sn (sel:List Nat)(N:Nat):AV->AV
 | .fn f cs=>.fn f (cs.map (Mm sel N))
 | .agg cs=>.agg (cs.map (Mm sel N))
 | .Dp cs=>.Dp (cs.map (Mm sel N))
 | v=>Mm sel N v
def Im (sel:List Nat)(N:Nat)(row:Row):Row:={ row with xs:=row.xs.map (·.map (Mm sel N)) }
def Fz (sel:List Nat)(rs:List Row):Nat->List Row->List Row
 | _,[]=>[]
 | i,row::st=>(match idx sel i with|some p=>(match rs[p]? with|some r=>r|none=>row)|none=>row)::Fz sel rs (i+1) st
theorem Lr {sel:List Nat}{rs:List Row}:∀(st:List Row) (i j:Nat),(Fz sel rs i st)[j]?=(st[j]?).map λrow=>match idx sel (i+j) with|some p=>(match rs[p]? with|some r=>r|none=>row)|none=>row
 | [],i,j=>by simp[Fz]
 | row::st,i,0=>by simp[Fz]
 | row::st,i,j+1=>by
  simp only[Fz,kT];rw[Lr st (i+1) j,show i+1+j=i+(j+1) by omega]
theorem Jo {sel:List Nat}{rs:List Row}:∀(st:List Row) (i:Nat),(Fz sel rs i st).length=st.length
 | [],_=>rfl
 | _::st,i=>by simp[Fz,Jo st (i+1)]
theorem Nc {sel:List Nat}{id j:Nat}(h:idx sel id=some j):sel[j]?=some id:=by
 unfold idx at h;rw[lh]at h;obtain⟨h1,h2,_⟩:=h;rw[jl h1];simpa using h2
theorem Xz {sel:List Nat}(qM:sel.Nodup){id j:Nat}(h:sel[j]?=some id):idx sel id=some j:=by
 unfold idx;obtain⟨h1,h2⟩:=jg.1 h;rw[lh];refine⟨h1,by simp[h2],λi hi=>?_⟩;have:=mW.1 qM i j (by omega) h1 hi;simp only[beq_iff_eq,ne_eq,nW,beq_eq_false_iff_ne];rw[<- h2];exact this
theorem cG {sel:List Nat}{id:Nat}(h:idx sel id=none):id ∉ sel:=by
 unfold idx at h;rw[List.findIdx?_eq_none_iff]at h;intro hm;simpa using h id hm
def VW (rows0 rows1:List Row):Prop:=∀(j:Nat) r0 r1,rows0[j]?=some r0->rows1[j]?=some r1->r1.gen=r0.gen->r1.xs.length=r0.xs.length
theorem Kt {f:FuncId}{args pS:List AV}{d:Option Tmp}{K:St->Prop}{rows0 rows1 rows2:List Row}{v:AV}(sel:List Nat)(h:Ab P f pS rows0 λr st=>r=v/\st=rows1++rows2)
  (qM:sel.Nodup) (pG :∀i∈sel,i<s.st.length) (hs:(Cc s.st sel).map (Ck sel)=rows0) (vb:Ic rows0) (sA:args.map (KB sel)=pS) (hlen:rows1.length=sel.length) (hL :∀row∈rows1++rows2,∀x∈row.xs,∀c∈x,c.kept=true->(Mm sel s.st.length c).kept=true)
  (hK:VW rows0 rows1->K ({ s with st:=Fz sel (rows1.map (Im sel s.st.length)) 0 s.st++rows2.map (Im sel s.st.length) }.put d (Sn sel s.st.length v))):callThen P k s f args d K:=by
 intro F os a w vs hr hl;subst hs;have hN:s.st.length=os.length:=hr.len;have rV:∀(j id:Nat),sel[j]?=some id->(sel.filterMap (os[·]?))[j]?=os[id]?:=by
  have :∀(l:List Nat),(∀i∈l,i<os.length)->∀(j id:Nat),l[j]?=some id->(l.filterMap (os[·]?))[j]?=os[id]?:=λl=>by
   induction l with
   | nil=>intro _ j id h;simp at h
   | cons i l ih=>
    intro hl j id h;have hi:=hl i (by simp);rw[lX,jl hi];cases j with
    | zero=>simp only[kK,jh]at h;subst h;simp[jl hi]
    | succ j=>simp only[kT]at h⊢;exact ih (λx hx=>hl x (by simp[hx])) j id h
  exact this sel (λi hi=>by rw[<- hN];exact pG i hi)
 let so:Own->Own:=λo=>{ o with row:=Ck sel o.row }
 let tD:=(sel.filterMap (os[·]?)).map so
 have uP:(sel.filterMap (os[·]?)).length=sel.length:=by
  have :∀(l:List Nat),(∀i∈l,i<os.length)->(l.filterMap (os[·]?)).length=l.length:=λl=>by
   induction l with
   | nil=>simp
   | cons i l ih=>intro hl;rw[lX,jl (hl i (by simp))];simp[ih (λx hx=>hl x (by simp[hx]))]
  exact this sel (λi hi=>by rw[<- hN];exact pG i hi)
 have oe:∀(j:Nat) (o:Own),tD[j]?=some o->∃id o0,sel[j]?=some id/\os[id]?=some o0/\o=so o0:=λj o h=>by
  simp only[tD,ji,jo]at h;obtain⟨o0,h0,rfl⟩:=h;have hj:j<sel.length:=by rw[<- uP];exact (jg.1 h0).1
  refine⟨sel[j],o0,jl hj,?_,rfl⟩;rw[<- rV j _ (jl hj)];exact h0
 have tu:∀id j,idx sel id=some j->tD[j]?=(os[id]?).map so:=λid j hj=>by
  simp only[tD,ji];rw[rV j id (Nc hj)]
 have vB:∀x v,Ae F w os x v->Ae F w tD (IN sel x) v:=λx v h=>by
  cases x with
  | own id g n=>
   simp only[IN];split
   ·rename_i j hj;simp only[Ae]at h⊢;obtain⟨o,h1,h2,h3,h4⟩:=h;exact⟨so o,by rw[tu id j hj,h1];rfl,h2,h3,λhg=>by
     obtain⟨a1,a2⟩:=h4 hg;exact⟨by simpa [so,Ck] using a1,by simpa [so,Ck] using a2⟩⟩
   ·simp[Ae]
  | ptr id g i off=>
   simp only[IN];split
   ·rename_i j hj;simp only[Ae]at h⊢;obtain⟨o,h1,h2,h3,h4⟩:=h;exact⟨so o,by rw[tu id j hj,h1];rfl,h2,h3,λhg=>by
     obtain⟨a1,a2,a3⟩:=h4 hg;exact⟨by simpa [so,Ck] using a1,a2,a3⟩⟩
   ·simp[Ae]
  | fn f cs=>simp[IN,Ae]
  | agg cs=>simp[IN,Ae]
  | Dp cs=>simp[IN,Ae]
  | _=>simp only[IN,Ae]at h⊢<;>exact h
 have rW:∀x v,Ae F w os x v->Ae F w tD (KC sel x) v:=LQ vB;have rX:∀cs us,Br F w os cs us->Br F w tD (cs.map (KC sel)) us:=λcs us h=>
  DZ (by simp[BY h]) λi x u hx hu=>by
   simp only[ji,jo]at hx;obtain⟨y,hy,rfl⟩:=hx;obtain⟨u',qV,qF⟩:=CN h i y hy;rw[qV]at hu;cases hu;exact rW _ _ qF
 have xG:∀x v,Ae F w os x v->Ae F w tD (KB sel x) v:=λx v h=>by
  cases x with
  | fn f cs=>simp only[KB,Ae]at h⊢;obtain⟨us,e,hl⟩:=h;exact⟨us,e,rX _ _ hl⟩
  | agg cs=>simp only[KB,Ae]at h⊢;obtain⟨us,e,hl⟩:=h;exact⟨us,e,rX _ _ hl⟩
  | Dp cs=>simp only[KB,Ae]at h⊢;obtain⟨us,e,hl⟩:=h;exact⟨us,e,rX _ _ hl⟩
  | _=>exact rW _ _ h
 have tL:tD.map Own.row=(Cc s.st sel).map (Ck sel):=by
  have h0:os.map Own.row=s.st:=hr.st;simp only[tD,lU,Cc];rw[<- h0];have hco:Own.row∘so=Ck sel∘Own.row:=rfl;rw[hco,<- lU,nK];congr 1;simp[nP]
 have hSO:G4 F tD ((Cc s.st sel).map (Ck sel)) w:=by
  refine⟨tL,λj o ho=>?_,λi j oi oj b hi hj qX qY=>?_,hr.FR⟩
  ·obtain⟨id,o0,rP,ho0,rfl⟩:=oe j o ho;have ob:=hr.rows id o0 ho0;have hm:Ck sel o0.row∈(Cc s.st sel).map (Ck sel):=by
    rw[<- tL];exact kC.2 ⟨so o0,je ho,rfl⟩
   refine⟨ob.pos,λx hx=>⟨?_,vb _ hm x hx⟩,λhb=>?_,λb hb=>?_,ob.mo,ob.deep.mapped (KC sel) (λ_ _ _ _ h=>ZJ h) rfl rfl rfl rfl⟩
   ·simp only[so,Ck,kC]at hx;obtain⟨y,hy,rfl⟩:=hx;simpa [so,Ck] using (ob.lens y hy).1
   ·obtain⟨h1,h2⟩:=ob.none hb;exact⟨by simp[so,Ck,h1],h2⟩
   ·obtain⟨h1,cur,h2,h3,h4,h5,h6⟩:=ob.some b hb;refine⟨h1,cur,h2,h3,by simpa [so,Ck] using h4,h5,λi x hx j' c hc=>?_⟩;simp only[so,Ck,ji,jo]at hx;obtain⟨y,hy,rfl⟩:=hx;simp only[ji,jo]at hc;obtain⟨c0,qj,rfl⟩:=hc;obtain⟨u,e1,e2⟩:=h6 i y hy j' c0 qj;exact⟨u,e1,rW _ _ e2⟩
  ·obtain⟨id,o0,rP,ho0,rfl⟩:=oe i oi hi;obtain⟨pW,o0',hid',ho0',rfl⟩:=oe j oj hj;have he:=hr.inj id pW o0 o0' b ho0 ho0' qX qY;subst he;have h1:=Xz qM rP;rw[Xz qM hid']at h1;exact (lT h1).symm
 have hlA:Br F w tD pS vs:=by
  subst sA;exact DZ (by simp[BY hl]) λi x u hx hu=>by
   simp only[ji,jo]at hx;obtain⟨y,hy,rfl⟩:=hx;obtain⟨u',qV,qF⟩:=CN hl i y hy;rw[qV]at hu;cases hu;exact xG _ _ qF
 refine (h F tD w vs hSO hlA).mono ?_;rintro e w' ⟨u,r,st',F',os',rfl,⟨rfl,rfl⟩,hs',hru,he⟩;have sy:os'.length=sel.length+rows2.length:=by
  have:=kf List.length hs'.st;rw[kB,kD]at this;omega
 have hpl:((Cc s.st sel).map (Ck sel)).length=sel.length:=by
  rw[<- tL];simp[tD,uP]
 let N:=s.st.length
 let un:Own->Own:=λo=>{ o with row:=Im sel N o.row }
 let f2:Nat->Own->Own:=λi o=>match idx sel i with|some p=>(match os'[p]? with|some o'=>un o'|none=>o)|none=>o
 let os2:=os.mapIdx f2++(os'.drop sel.length).map un
 have hNl:(os.mapIdx f2).length=N:=by simp[N,hN]
 have hgL:∀i,i<N->os2[i]?=(os[i]?).map (f2 i):=λi hi=>by
  simp only[os2];rw[jr (by omega),nC]
 have hgP:∀p o',os'[p]?=some o'->os2[pos sel N p]?=some (un o'):=λp o' pQ=>by
  unfold pos;split
  ·rename_i j hj;have hjN:j<N:=pG j (je hj);rw[hgL j hjN,jl (by omega)];simp only[kb,f2,Xz qM hj,pQ]
  ·rename_i hn;have hp:sel.length<=p:=mE.1 hn;simp only[os2];rw[jt (by omega),hNl,ji,kW,show sel.length+(p-sel.length+N-N)=p by omega,pQ];rfl
 have hgO:∀i,i<N->idx sel i=none->os2[i]?=os[i]?:=λi hi hx=>by
  rw[hgL i hi];have:f2 i=id:=by funext o;simp[f2,hx]
  rw[this,Option.map_id];rfl
 have td:∀i o,os2[i]?=some o->(∃p o',os'[p]?=some o'/\o=un o'/\i=pos sel N p)∨(i<N/\idx sel i=none/\os[i]?=some o):=λi o ho=>by
  rcases la i N with hi|hi
  ·rcases hx:idx sel i with _|p
   ·exact .inr ⟨hi,rfl,by rw[<- hgO i hi hx];exact ho⟩
   ·have hp:=Nc hx;have zI:p<os'.length:=by have:=(jg.1 hp).1;omega
    have h1:=hgP p _ (jl zI);have h2:pos sel N p=i:=by unfold pos;rw[hp]
    rw[h2,ho]at h1;exact .inl ⟨p,_,jl zI,lT h1,h2.symm⟩
  ·have tC:=ho;simp only[os2]at tC;rw[jt (by omega),hNl,ji,jo]at tC;obtain⟨o',h1,h2⟩:=tC;rw[kW]at h1;refine .inl ⟨_,o',h1,h2.symm,?_⟩;unfold pos;rw[mE.2 (by omega)];simp only;omega
 have wW:FH os os2:=λi o ho=>by
  have hiN:i<N:=by have:=(jg.1 ho).1;omega
  rcases hx:idx sel i with _|p
  ·exact⟨o,by rw[hgO i hiN hx];exact ho,jv _,rfl,λ_=>⟨rfl,rfl,rfl⟩⟩
  ·have hp:=Nc hx;have h1:tD[p]?=some (so o):=by rw[tu i p hx,ho];rfl
   obtain⟨o',pQ,e1,e2,e3⟩:=he.Tf p (so o) (by rw[hpl];exact (jg.1 hp).1) h1;refine⟨un o',?_,e1,e2,λhg=>?_⟩
   ·have:=hgP p o' pQ;unfold pos at this;rw[hp]at this;exact this
   ·obtain⟨g1,g2,g3⟩:=e3 hg;exact⟨g1,g2,by simpa [so,un,Ck,Im] using g3⟩
 have oh:∀x v,Ae F w os x v->Ae F' w' os2 x v:=λx v h=>DU he.NB he.IJ os _ wW x v h;have hun0:∀x v,Ae F' w' os' x v->Ae F' w' os2 (PZ sel N x) v:=λx v h=>by
  cases x with
  | own id g n=>
   simp only[PZ,Ae]at h⊢;obtain⟨o,h1,h2,h3,h4⟩:=h;exact⟨un o,hgP _ _ h1,h2,h3,λhg=>by
    obtain⟨a1,a2⟩:=h4 hg;exact⟨by simpa [un,Im] using a1,by simpa [un,Im] using a2⟩⟩
  | ptr id g i off=>
   simp only[PZ,Ae]at h⊢;obtain⟨o,h1,h2,h3,h4⟩:=h;exact⟨un o,hgP _ _ h1,h2,h3,λhg=>by
    obtain⟨a1,a2,a3⟩:=h4 hg;exact⟨by simpa [un,Im] using a1,a2,a3⟩⟩
  | fn f cs=>simp[PZ,Ae]
  | agg cs=>simp[PZ,Ae]
  | Dp cs=>simp[PZ,Ae]
  | _=>simp only[PZ,Ae]at h⊢<;>exact h
 have xI:∀x v,Ae F' w' os' x v->Ae F' w' os2 (Mm sel N x) v:=LQ hun0;have xJ:∀cs us,Br F' w' os' cs us->Br F' w' os2 (cs.map (Mm sel N)) us:=λcs us h=>
  DZ (by simp[BY h]) λi x u hx hu=>by
   simp only[ji,jo]at hx;obtain⟨y,hy,rfl⟩:=hx;obtain⟨u',qV,qF⟩:=CN h i y hy;rw[qV]at hu;cases hu;exact xI _ _ qF
 have hunr:∀x v,Ae F' w' os' x v->Ae F' w' os2 (Sn sel N x) v:=λx v h=>by
  cases x with
  | fn f cs=>simp only[Sn,Ae]at h⊢;obtain⟨us,e,hl⟩:=h;exact⟨us,e,xJ _ _ hl⟩
  | agg cs=>simp only[Sn,Ae]at h⊢;obtain⟨us,e,hl⟩:=h;exact⟨us,e,xJ _ _ hl⟩
  | Dp cs=>simp only[Sn,Ae]at h⊢;obtain⟨us,e,hl⟩:=h;exact⟨us,e,xJ _ _ hl⟩
  | _=>exact xI _ _ h
 have hB:∀(i:Nat) (o:Own),idx sel i=none->os[i]?=some o->∀b,o.owns b->w'.heap[b]?=w.heap[b]?/\¬ F' b/\∀o1:Own,o1∈os'->¬ o1.owns b:=λi o hx ho b hb=>by
  refine he.other b ((hr.rows _ o ho).lt hb) ((hr.rows _ o ho).nF hb) λoA hoA e=>?_;obtain⟨j,hj⟩:=jz.1 hoA;obtain⟨id,o0,rP,ho0,rfl⟩:=oe j oA hj;have:=hr.inj id i o0 o b ho0 ho e hb;subst this;exact cG hx (je rP)
 have qJ:os2.map Own.row=Fz sel (rows1.map (Im sel N)) 0 s.st++rows2.map (Im sel N):=by
  simp only[os2,lJ];have pI:os'.map Own.row=rows1++rows2:=hs'.st;congr 1
  ·apply lk;intro i;rw[ji,nC,Lr,kt];have h0:os.map Own.row=s.st:=hr.st;rw[<- h0,ji];cases rG:os[i]? with
   | none=>rfl
   | some o=>
    simp only[kb,f2];cases hx:idx sel i with
    | none=>rfl
    | some p=>
     have hpm:p<sel.length:=(jg.1 (Nc hx)).1;have uK:p<os'.length:=by omega
     have h3:(os'.map Own.row)[p]?=rows1[p]?:=by rw[pI,jr (by omega)]
     rw[ji,jl uK]at h3;simp only[ji,jl uK,<- h3,kb,un]
  ·rw[lU];have hco:Own.row∘un=Im sel N∘Own.row:=rfl;rw[hco,<- lU,List.map_drop,pI];simp[<- hlen]
 have zJ:VW ((Cc s.st sel).map (Ck sel)) rows1:=λj r0 r1 h0 h1 hg=>by
  have hj:j<((Cc s.st sel).map (Ck sel)).length:=(jg.1 h0).1;rw[<- tL,ji,jo]at h0;obtain⟨oA,hoA,rfl⟩:=h0;obtain⟨o',pQ,_,_,e3⟩:=he.Tf j oA hj hoA;have qg:os'.map Own.row=rows1++rows2:=hs'.st;have h2:(rows1++rows2)[j]?=some o'.row:=by rw[<- qg,ji,pQ];rfl
  rw[jr (jg.1 h1).1,h1]at h2;cases h2;exact (e3 hg).2.2
 refine⟨u,_,_,F',os2,rfl,hK zJ,⟨qJ,λt=>oh _ _ (hr.env t),hr.size,λi o ho=>?_,λi j oi oj b hi hj qX qY=>?_,hs'.FR,hr.defers⟩,hunr _ _ hru,⟨he.sys,he.tape,he.output,he.size,he.NB,he.IJ,λb hb h1 h2=>?_,λi o hi ho=>wW i o ho⟩⟩
 ·rcases td i o ho with ⟨p,o',hp,rfl,rfl⟩|⟨h1,h2,tC⟩
  ·have ob:=hs'.rows p o' hp;refine⟨ob.pos,λx hx=>?_,λhb=>?_,λb hb=>?_,ob.mo,ob.deep.mapped (Mm sel N) (λ_ _ _ _ h=>dp h) rfl rfl rfl rfl⟩
   ·simp only[un,Im,kC]at hx;obtain⟨y,hy,rfl⟩:=hx;obtain⟨g1,g2⟩:=ob.lens y hy;refine⟨by simpa [un,Im] using g1,λc hc=>?_⟩;obtain⟨c0,qj,rfl⟩:=kC.1 hc;have hmem:o'.row∈rows1++rows2:=by rw[<- hs'.st];exact kC.2 ⟨o',je hp,rfl⟩
    exact hL _ hmem y hy c0 qj (g2 c0 qj)
   ·obtain⟨h1,h2⟩:=ob.none hb;exact⟨by simp[un,Im,h1],h2⟩
   ·obtain⟨e1,cur,e2,e3,e4,e5,e6⟩:=ob.some b hb;refine⟨e1,cur,e2,e3,by simpa [un,Im] using e4,e5,λi' x hx q c hc=>?_⟩;simp only[un,Im,ji,jo]at hx;obtain⟨y,hy,rfl⟩:=hx;simp only[ji,jo]at hc;obtain⟨c0,qj,rfl⟩:=hc;obtain⟨u',f1,f2⟩:=e6 i' y hy q c0 qj;exact⟨u',f1,xI _ _ f2⟩
  ·have ob:=hr.rows _ o tC;refine⟨ob.pos,ob.lens,ob.none,λb hb=>?_,λb hb=>⟨(hB _ o h2 tC b (.inr hb)).2.1,ke (ob.mo b hb).2.1 he.size,(ob.mo b hb).2.2⟩,
    ob.deep.keep rfl (λ_ h=>h) rfl (λb hb=>(hB _ o h2 tC b hb).1) (λi x j e s ys hx hc=>⟨x,hx,hc⟩)⟩
   obtain⟨e1,cur,e2,e3,e4,e5,e6⟩:=ob.some b hb;obtain⟨g1,g2,_⟩:=hB _ o h2 tC b (.inl hb);refine⟨g2,cur,by rw[g1];exact e2,e3,e4,e5,λi' x hx j c hc=>?_⟩;obtain⟨u',f1,f2⟩:=e6 i' x hx j c hc;exact⟨u',f1,oh _ _ f2⟩
 ·rcases td i oi hi with ⟨p,o',hp,rfl,rfl⟩|⟨h1,h2,ve⟩<;>rcases td j oj hj with ⟨p2,o2',yE,rfl,rfl⟩|⟨h3,h4,tI⟩
  ·have:=hs'.inj p p2 o' o2' b hp yE qX qY;rw[this]
  ·exact absurd qX ((hB _ oj h4 tI b qY).2.2 o' (je hp))
  ·exact absurd qY ((hB _ oi h2 ve b qX).2.2 o2' (je yE))
  ·exact hr.inj i j oi oj b ve tI qX qY
 ·have h3:∀o∈tD,¬ o.owns b:=λo ho=>by
   obtain⟨j,hj⟩:=jz.1 ho;obtain⟨id,o0,rP,ho0,rfl⟩:=oe j o hj;exact h2 o0 (je ho0)
  obtain⟨g1,g2,g3⟩:=he.other b hb h1 h3;refine⟨g1,g2,λo ho=>?_⟩;obtain⟨i,hi⟩:=jz.1 ho;rcases td i o hi with ⟨p,o',hp,rfl,rfl⟩|⟨_,_,tC⟩
  ·exact g3 o' (je hp)
  ·exact h2 o (je tC)
inductive UN (sel:List Nat) (N:Nat):List Row->List Row->Prop
 | nil:UN sel N [] []
 | deep {g size:Nat} {el:TypeId} {xs:List (List AV)} {r r':List Row} (hp:DD xs) (hl:UN sel N r r'):UN sel N (⟨g,el,size,xs⟩::r) (⟨g,el,size,xs⟩::r')
 | raw {g size:Nat} {el:TypeId} {cs cs':List AV} {r r':List Row} (hc:cs.map (Mm sel N)=cs') (hp:cs'.all AV.leaf=true) (hl:UN sel N r r'):UN sel N (⟨g,el,size,[cs]⟩::r) (⟨g,el,size,[cs']⟩::r')
theorem UN.pure {sel:List Nat}{N g size:Nat}{el:TypeId}{xs:List (List AV)}{r r':List Row}(hp:EK xs)(hl:UN sel N r r'):UN sel N (⟨g,el,size,xs⟩::r) (⟨g,el,size,xs⟩::r'):=.deep hp.any hl
theorem QY {sel:List Nat}{N:Nat}{c:AV}(h:Ed c=true):Mm sel N c=c:=by cases c<;>simp[Ed,simple,Mm,two,PZ]at h⊢
theorem UN.leaf {sel:List Nat}{N:Nat}:∀{l l':List Row},UN sel N l l'->∀row∈l,∀x∈row.xs,∀c∈x,c.kept=true->(Mm sel N c).kept=true
 | _,_,.nil,_,h=>by cases h
 | _,_,.deep hp hl,row,hm=>by
  rcases js.1 hm with rfl|hm
  ·intro x hx c hc h;rw[QY (hp x hx c hc)];exact h
  ·exact UN.leaf hl row hm
 | _,_,.raw hc hp hl,row,hm=>by
  rcases js.1 hm with rfl|hm
  ·intro x hx c uQ _;simp only[jy]at hx;subst hx;exact Dz (jq.1 hp _ (by rw[<- hc];exact kC.2 ⟨c,uQ,rfl⟩))
  ·exact UN.leaf hl row hm
theorem UN.spec {sel:List Nat}{N:Nat}:∀{l l':List Row},UN sel N l l'->l.map (Im sel N)=l'
 | _,_,.nil=>rfl
 | _,_,.deep hp hl=>by
  simp only[kI,UN.spec hl];congr 1;simp only[Im];congr 1;refine (kM (g:=id) λx hx=>?_).trans (lI _);refine (kM (g:=id) λc hc=>?_).trans (lI _);exact QY (hp x hx c hc)
 | _,_,.raw hc _ hl=>by simp only[kI,UN.spec hl,Im,lV,hc]
theorem KN {f:FuncId}{args:List AV}{d:Option Tmp}{K:St->Prop}(h:(∀row∈s.st,∀x∈row.xs,∀c∈x,c.kept=true)->callThen P k s f args d K):callThen P k s f args d K:=
 λF os a w vs hr hl=>h (NW hr) F os a w vs hr hl
section
variable {ops : Array Oper} {Q : Exit -> St -> Prop} {ds : List (Option Tmp)} {r : List Oper} {n : Nat} {e : Nat -> AV} {st st' : List Row} {ty : TypeId} {ps : String} {ed : Array Edge} {d : Option Tmp} {v v' : AV} {gd : Option (Nat × Bool)}
variable {f : FuncId} {pw : Array Operand} {ts : Array TypeId} {args pS : List AV} {rowsP rows0 rows1 rows1' rows2 rows2' : List Row}
theorem aA (sel:List Nat)(hg:GO ds gd e)(hb:Dl P f=true)(hc:Ab P f pS rows0 λr st=>r=v/\st=rows1++rows2)(ha:pw.toList.map (St.ev ⟨n,e,st⟩)++[]=args)(qM:sel.Nodup)(pG:sel.all (·<st.length)=true)
  (hp:Cc st sel=rowsP) (hs:SR sel rowsP rows0) (hf:args.map (KB sel)=pS) (hlen:rows1.length=sel.length) (h1:UN sel st.length rows1 rows1') (h2:UN sel st.length rows2 rows2') (hv:Sn sel st.length v=v') (qg:Fz sel rows1' 0 st++rows2'=st')
  (hk:VW rows0 rows1->AO P k ops Q (ds++[d]) r (St.put ⟨n,e,st'⟩ d v')):AO P k ops Q ds (⟨d,.call ⟨.value (.func f),pw,ts⟩,ty,ps,ed,gd⟩::r) ⟨n,e,st⟩:=by
 subst qg;subst ha;subst hv;subst hp;refine L9 hg ?_;rw[NL];refine⟨hb,KN λhle=>?_⟩;obtain⟨e1,e2⟩:=hs.spec (st0:=st) hle (λrow oY=>by
  obtain⟨i,_,hi⟩:=kz.1 oY;exact je hi)
 refine Kt sel hc qM (λi hi=>by simpa using jq.1 pG i hi) e1 e2 hf hlen (λrow oY=>by
  rcases kJ.1 oY with h|h
  ·exact h1.leaf row h
  ·exact h2.leaf row h) λwT=>?_
 simp only[h1.spec,h2.spec];exact hk wT
theorem F6 (sel:List Nat)(hg:GO ds gd e)(hb:Dl P f=true)(hc:Ab P f pS rows0 λr st=>r=v/\st=rows1++rows2)(ha:pw.toList.map (St.ev ⟨n,e,st⟩)++[]=args)(qM:sel.Nodup)(pG:sel.all (·<st.length)=true)
  (hp:Cc st sel=rowsP) (hs:SR sel rowsP rows0) (hf:args.map (KB sel)=pS) (hlen:rows1.length=sel.length) (h1:UN sel st.length rows1 rows1') (h2:UN sel st.length rows2 rows2') (hv:Sn sel st.length v=v') (qg:Fz sel rows1' 0 st++rows2'=st')
  (hk:AO P k ops Q (ds++[d]) r (St.put ⟨n,e,st'⟩ d v')):AO P k ops Q ds (⟨d,.call ⟨.value (.func f),pw,ts⟩,ty,ps,ed,gd⟩::r) ⟨n,e,st⟩:=
 aA sel hg hb hc ha qM pG hp hs hf hlen h1 h2 hv qg λ_=>hk
end
theorem LC {k n:Nat}{e:Nat->AV}{st st1 st':List Row}{L:List (Nat×AV)}(sel:List Nat)(hk:sel.take k=List.range k)(qM:sel.Nodup)(pG:sel.all (·<st.length)=true)(hp:Cc st sel=st1)(hs:SR sel st1 st')(h:ME (λt=>KB sel (e t)) L):
  Wk k ⟨n,e,st⟩ ⟨n,Aa L,st'⟩:=λF os a w hr=>by
 have hle:=NW hr;obtain⟨h1,h2⟩:=hs.spec (st0:=st) hle (λrow oY=>by
  rw[<- hp]at oY;obtain⟨i,_,hi⟩:=kz.1 oY;exact je hi)
 exact VC sel hk qM pG (by rw[hp];exact h1) h2 h F os a w hr
theorem Bj {k n:Nat}{e:Nat->AV}{st st1 st':List Row}{L:List (Nat×AV)}(sel:List Nat)(hk:sel.take k=List.range k)(_:SR sel (st.take k) (st.take k))(qM:sel.Nodup)(pG:sel.all (·<st.length)=true)(hp:Cc st sel=st1)(hs:SR sel st1 st')(h:ME (λt=>KB sel (e t)) L):
  Wk k ⟨n,e,st⟩ ⟨n,Aa L,st'⟩:=LC sel hk qM pG hp hs h
theorem Ab.wk {P:Program}{f:FuncId}{args:List AV}{rows st0 st1:List Row}{r0 r1:AV}(h:Ab P f args rows λr st=>r=r0/\st=st0)(hw:Wk rows.length ⟨1,Aa [(0,r0)],st0⟩ ⟨1,Aa [(0,r1)],st1⟩):
  Ab P f args rows λr st=>r=r1/\st=st1:=by
 intro F os w vs hs hl;refine (h F os w vs hs hl).mono ?_;rintro e w' ⟨v,r,st',F',os',rfl,⟨rfl,rfl⟩,h1,h2,h3⟩;have hrel:Rel F' os' ⟨1,Aa [(0,r)],st'⟩ { tmps:=#[v],defers:=[] } w':=by
  refine⟨h1.st,λt=>?_,rfl,h1.rows,h1.inj,h1.FR,rfl⟩;simp only[Aa];split
  ·rename_i ht;subst ht;exact h2
  ·simp[Ae]
 obtain⟨F2,os2,h4,h5⟩:=hw F' os' _ w' hrel;refine⟨v,r1,st1,F2,os2,rfl,⟨rfl,rfl⟩,⟨h4.st,h4.rows,h4.inj,h4.FR⟩,?_,h3.trans h5⟩;have:=h4.env 0;simpa [Aa] using this
theorem le.HR {α:Type}{id g m:Nat}{l:List α}{enc:α->List AV}(h:m=l.length):le (Abs.HR id g (l.map enc) (.own id g m)) (.sl (l.map enc)):=le.of (aL h)
theorem Rel.bare {F:Nat->Prop}{os:List Own}{s:St}{a:Act}{w:World}(hr:Rel F os s a w):Rel F [] ⟨s.n,λ_=>.E2,[]⟩ a w:=
 ⟨rfl,λ_=>by simp[Ae],hr.size,by simp,by simp,hr.FR,hr.defers⟩
theorem N1 {P:Program}{F:Nat->Prop}{os:List Own}{s:St}{a:Act}{w:World}{k:Nat}{sV:Sem Value}{v0 v:AV}{st0:List Row}(hr:Rel F os s a w)
  (he:Hr P 0 F [] ⟨s.n,λ_=>.E2,[]⟩ a w sV λx st=>x=v0/\st=st0) (hw:Wk 0 ⟨1,Aa [(0,v0)],st0⟩ ⟨1,Aa [(0,v)],[]⟩) (hv:flat v=true) :
  ∃u w' F',sV.run P w=.ok u w'/\Rel F' os s a w'/\Ae F' w' os v u/\Ext F os w F' os w' k:=by
 obtain⟨x,st',u,w',pU,⟨rfl,rfl⟩,h2,h3,h4,h5⟩:=he;have hrel:Rel F pU ⟨1,Aa [(0,x)],st'⟩ { tmps:=#[u],defers:=[] } w':=by
  refine⟨h3.st,λt=>?_,rfl,h3.rows,h3.inj,h3.FR,rfl⟩;simp only[Aa];split
  ·rename_i ht;subst ht;exact h4
  ·simp[Ae]
 obtain⟨F2,os2,h6,h7⟩:=hw F pU _ w' hrel;have xF:os2=[]:=by have:=h6.st;simpa using this
 subst xF;obtain⟨g1,g2,_⟩:=hr.after (k:=k) (h5.trans h7) h6.FR;exact⟨u,w',F2,h2,g1,JX hv os (by have:=h6.env 0;simpa [Aa] using this),g2⟩
section
variable {P : Program} {ds : List (Option Tmp)} {r : List Oper} {n : Nat} {e : Nat -> AV} {st : List Row} {ty : TypeId} {ps : String} {ed : Array Edge} {t : Tmp} {gd : Option (Nat × Bool)} {KS : St -> Prop}
variable {α : Type} {l : List α} {enc : α -> List AV} {el T : TypeId} {size bytes : Nat} {zz cs : List AV}
theorem VM (hp:EK (l.map enc)):Wk 0 ⟨1,Aa [(0,.own 0 0 l.length)],[⟨0,el,size,l.map enc⟩]⟩ ⟨1,Aa [(0,.sl (l.map enc))],[]⟩:=
 (Wk.BL (n:=1) (e:=Aa [(0,.own 0 0 l.length)]) (st:=[⟨0,el,size,l.map enc⟩]) (L:=[(0,.sl (l.map enc))]) (st':=[⟨1,el,size,[]⟩]) (id:=0) rfl (kE _) hp ⟨.BL rfl,jf⟩ rfl).trans
  (De (L:=[(0,.sl (l.map enc))]) (st':=[]) [] rfl (by decide) rfl rfl jf ⟨.rfl,jf⟩)
theorem F3 {len:Nat}{parts:Array (Nat×Operand)}{pv:List (Nat×AV)}(hg:GO ds gd e)(he:D2 P T=some ⟨el,size,bytes,zz⟩)(hle:len*size<=16777216)(hp:(parts.toList.map λp=>(p.1,St.ev ⟨n,e,st⟩ p.2))=pv)
  (xK:(pv.all λp=>flat p.2)=true) (hc:MH (λi=>some (i*size,size)) ((List.replicate len zz).flatten) pv=some cs) (hck:chunk size len cs=l.map enc) (wT:len=l.length) (hpu:EK (l.map enc))
  (hk:D6 P (ds++[some t]) r KS ⟨n,EC e t (.sl (l.map enc)),st⟩):D6 P ds (⟨some t,.buildSlice T len parts,ty,ps,ed,gd⟩::r) KS ⟨n,e,st⟩:=by
 refine cE hg rfl (λs0 e1 e2 hd k F os a w hr next Q hn=>?_) hk;have zK:(parts.toList.map λp=>(p.1,s0.ev p.2))=pv:=by
  rw[<- hp];refine kM λp uK=>?_;rw[e2 p.2 (by simp only[Op.operands,na,kC];exact⟨p,by simpa using uK,rfl⟩)]
 have h9:Hr P 0 F [] ⟨s0.n,λ_=>.E2,[]⟩ a w (Instr.buildSlice T len (parts.map λ(i,x)=>(i,a.eval x))) (λx st=>x=.own 0 0 l.length/\st=[⟨0,el,size,l.map enc⟩]):=by
  refine OY (parts:=pv) hr.bare (Ap _ he ⟨hle,Ap _ hc (by subst wT;rw[hck];exact⟨rfl,rfl⟩)⟩) (by rw[<- zK];simp) λi p up hp wR=>?_;have sH:flat p.2=true:=jq.1 xK p (je hp);rw[<- zK]at hp;simp only[ji,jo,nV]at hp wR;obtain⟨q,hq,rfl⟩:=hp;obtain⟨q',uO,rfl⟩:=wR;rw[hq]at uO;cases uO;exact JX sH [] (hr.ev _)
 obtain⟨u,w',F',g1,g2,g3,g4⟩:=N1 (k:=k) hr h9 (VM hpu) rfl;unfold Oper.wp;simp only[execOp,kX,g1,kV,ku,Oper.upon];exact hn _ _ (Ov (st':=s0.st) hd rfl g2 g3 g4)
end
end Go.Abs
