import Derived.Test.YtihdgoiebmfapaaGreatAbsT
namespace Go.Abs
open Go
variable {P : Program} {F : Nat -> Prop} {os : List Own} {s : St} {a : Act} {w : World} {k : Nat}
def pos (sel:List Nat)(N p:Nat):Nat:=match sel[p]? with|some j=>j|none=>p-sel.length+N
def PA (sel:List Nat)(N:Nat):AV->AV
 | .own id g n=>.own (pos sel N id) g n
 | .ptr id g i off=>.ptr (pos sel N id) g i off
 | .fn ..|.agg _|.Dw _=>.E2
 | v=>v
def Mn (sel:List Nat)(N:Nat)(x:AV):AV:=two (PA sel N) x
theorem eU {sel:List Nat}{N:Nat}{c:AV}{el s:Nat}{ys:List (List AV)}(h:Mn sel N c=.dv el s ys):c=.dv el s ys:=by
 refine Rn (X:=PA sel N) (λc h=>?_) h;cases c<;>simp only[PA]at h<;>first|exact h|cases h
def Se (sel:List Nat)(N:Nat):AV->AV
 | .fn f cs=>.fn f (cs.map (Mn sel N))
 | .agg cs=>.agg (cs.map (Mn sel N))
 | .Dw cs=>.Dw (cs.map (Mn sel N))
 | v=>Mn sel N v
def Im (sel:List Nat)(N:Nat)(row:Row):Row:={ row with xs:=row.xs.map (·.map (Mn sel N)) }
def Fz (sel:List Nat)(rs:List Row):Nat->List Row->List Row
 | _,[]=>[]
 | i,row::st=>(match idx sel i with|some p=>(match rs[p]? with|some r=>r|none=>row)|none=>row)::Fz sel rs (i+1) st
theorem Lt {sel:List Nat}{rs:List Row}:∀(st:List Row) (i j:Nat),(Fz sel rs i st)[j]?=(st[j]?).map λrow=>match idx sel (i+j) with|some p=>(match rs[p]? with|some r=>r|none=>row)|none=>row
 | [],i,j=>by simp[Fz]
 | row::st,i,0=>by simp[Fz]
 | row::st,i,j+1=>by
  simp only[Fz,kT];rw[Lt st (i+1) j,show i+1+j=i+(j+1) by omega]
theorem Jo {sel:List Nat}{rs:List Row}:∀(st:List Row) (i:Nat),(Fz sel rs i st).length=st.length
 | [],_=>rfl
 | _::st,i=>by simp[Fz,Jo st (i+1)]
theorem Nc {sel:List Nat}{id j:Nat}(h:idx sel id=some j):sel[j]?=some id:=by
 unfold idx at h;rw[lh]at h;obtain⟨h1,h2,_⟩:=h;rw[jl h1];simpa using h2
theorem Xo {sel:List Nat}(hnd:sel.Nodup){id j:Nat}(h:sel[j]?=some id):idx sel id=some j:=by
 unfold idx;obtain⟨h1,h2⟩:=jg.1 h;rw[lh];refine⟨h1,by simp[h2],λi hi=>?_⟩;have:=mW.1 hnd i j (by omega) h1 hi;simp only[beq_iff_eq,ne_eq,nW,beq_eq_false_iff_ne];rw[<- h2];exact this
theorem cA {sel:List Nat}{id:Nat}(h:idx sel id=none):id ∉ sel:=by
 unfold idx at h;rw[List.findIdx?_eq_none_iff]at h;intro hm;simpa using h id hm
def Vv (rows0 rows1:List Row):Prop:=∀(j:Nat) r0 r1,rows0[j]?=some r0->rows1[j]?=some r1->r1.gen=r0.gen->r1.xs.length=r0.xs.length
theorem Kv {f:FuncId}{args args':List AV}{d:Option Tmp}{K:St->Prop}{rows0 rows1 rows2:List Row}{v:AV}(sel:List Nat)(h:Ab P f args' rows0 λr st=>r=v/\st=rows1++rows2)
  (hnd:sel.Nodup) (hlt :∀i∈sel,i<s.st.length) (hs:(Cb s.st sel).map (Ck sel)=rows0) (hl0:Ie rows0) (hargs:args.map (KB sel)=args') (hlen:rows1.length=sel.length) (hL :∀row∈rows1++rows2,∀x∈row.xs,∀c∈x,c.kept=true->(Mn sel s.st.length c).kept=true)
  (hK:Vv rows0 rows1->K ({ s with st:=Fz sel (rows1.map (Im sel s.st.length)) 0 s.st++rows2.map (Im sel s.st.length) }.put d (Se sel s.st.length v))):callThen P k s f args d K:=by
 intro F os a w vs hr hl;subst hs;have hN:s.st.length=os.length:=hr.len;have hos1:∀(j id:Nat),sel[j]?=some id->(sel.filterMap (os[·]?))[j]?=os[id]?:=by
  have :∀(l:List Nat),(∀i∈l,i<os.length)->∀(j id:Nat),l[j]?=some id->(l.filterMap (os[·]?))[j]?=os[id]?:=λl=>by
   induction l with
   | nil=>intro _ j id h;simp at h
   | cons i l ih=>
    intro hl j id h;have hi:=hl i (by simp);rw[lX,jl hi];cases j with
    | zero=>simp only[kK,jh]at h;subst h;simp[jl hi]
    | succ j=>simp only[kT]at h⊢;exact ih (λx hx=>hl x (by simp[hx])) j id h
  exact this sel (λi hi=>by rw[<- hN];exact hlt i hi)
 let so:Own->Own:=λo=>{ o with row:=Ck sel o.row }
 let osA:=(sel.filterMap (os[·]?)).map so
 have hl2:(sel.filterMap (os[·]?)).length=sel.length:=by
  have :∀(l:List Nat),(∀i∈l,i<os.length)->(l.filterMap (os[·]?)).length=l.length:=λl=>by
   induction l with
   | nil=>simp
   | cons i l ih=>intro hl;rw[lX,jl (hl i (by simp))];simp[ih (λx hx=>hl x (by simp[hx]))]
  exact this sel (λi hi=>by rw[<- hN];exact hlt i hi)
 have hget:∀(j:Nat) (o:Own),osA[j]?=some o->∃id o0,sel[j]?=some id/\os[id]?=some o0/\o=so o0:=λj o h=>by
  simp only[osA,ji,jo]at h;obtain⟨o0,h0,rfl⟩:=h;have hj:j<sel.length:=by rw[<- hl2];exact (jg.1 h0).1
  refine⟨sel[j],o0,jl hj,?_,rfl⟩;rw[<- hos1 j _ (jl hj)];exact h0
 have hidx:∀id j,idx sel id=some j->osA[j]?=(os[id]?).map so:=λid j hj=>by
  simp only[osA,ji];rw[hos1 j id (Nc hj)]
 have hren0:∀x v,Ae F w os x v->Ae F w osA (IK sel x) v:=λx v h=>by
  cases x with
  | own id g n=>
   simp only[IK];split
   ·rename_i j hj;simp only[Ae]at h⊢;obtain⟨o,h1,h2,h3,h4⟩:=h;exact⟨so o,by rw[hidx id j hj,h1];rfl,h2,h3,λhg=>by
     obtain⟨a1,a2⟩:=h4 hg;exact⟨by simpa [so,Ck] using a1,by simpa [so,Ck] using a2⟩⟩
   ·simp[Ae]
  | ptr id g i off=>
   simp only[IK];split
   ·rename_i j hj;simp only[Ae]at h⊢;obtain⟨o,h1,h2,h3,h4⟩:=h;exact⟨so o,by rw[hidx id j hj,h1];rfl,h2,h3,λhg=>by
     obtain⟨a1,a2,a3⟩:=h4 hg;exact⟨by simpa [so,Ck] using a1,a2,a3⟩⟩
   ·simp[Ae]
  | fn f cs=>simp[IK,Ae]
  | agg cs=>simp[IK,Ae]
  | Dw cs=>simp[IK,Ae]
  | _=>simp only[IK,Ae]at h⊢<;>exact h
 have hren1:∀x v,Ae F w os x v->Ae F w osA (KD sel x) v:=LH hren0;have hrenL:∀cs us,Br F w os cs us->Br F w osA (cs.map (KD sel)) us:=λcs us h=>
  DZ (by simp[BY h]) λi x u hx hu=>by
   simp only[ji,jo]at hx;obtain⟨y,hy,rfl⟩:=hx;obtain⟨u',hu',hr'⟩:=CN h i y hy;rw[hu']at hu;cases hu;exact hren1 _ _ hr'
 have hren:∀x v,Ae F w os x v->Ae F w osA (KB sel x) v:=λx v h=>by
  cases x with
  | fn f cs=>simp only[KB,Ae]at h⊢;obtain⟨us,e,hl⟩:=h;exact⟨us,e,hrenL _ _ hl⟩
  | agg cs=>simp only[KB,Ae]at h⊢;obtain⟨us,e,hl⟩:=h;exact⟨us,e,hrenL _ _ hl⟩
  | Dw cs=>simp only[KB,Ae]at h⊢;obtain⟨us,e,hl⟩:=h;exact⟨us,e,hrenL _ _ hl⟩
  | _=>exact hren1 _ _ h
 have hstR:osA.map Own.row=(Cb s.st sel).map (Ck sel):=by
  have h0:os.map Own.row=s.st:=hr.st;simp only[osA,lU,Cb];rw[<- h0];have hco:Own.row∘so=Ck sel∘Own.row:=rfl;rw[hco,<- lU,nK];congr 1;simp[nP]
 have hSO:G4 F osA ((Cb s.st sel).map (Ck sel)) w:=by
  refine⟨hstR,λj o ho=>?_,λi j oi oj b hi hj hbi hbj=>?_,hr.FT⟩
  ·obtain⟨id,o0,hid,ho0,rfl⟩:=hget j o ho;have hok:=hr.rows id o0 ho0;have hm:Ck sel o0.row∈(Cb s.st sel).map (Ck sel):=by
    rw[<- hstR];exact kC.2 ⟨so o0,je ho,rfl⟩
   refine⟨hok.pos,λx hx=>⟨?_,hl0 _ hm x hx⟩,λhb=>?_,λb hb=>?_,hok.mo,hok.deep.mapped (KD sel) (λ_ _ _ _ h=>YW h) rfl rfl rfl rfl⟩
   ·simp only[so,Ck,kC]at hx;obtain⟨y,hy,rfl⟩:=hx;simpa [so,Ck] using (hok.lens y hy).1
   ·obtain⟨h1,h2⟩:=hok.none hb;exact⟨by simp[so,Ck,h1],h2⟩
   ·obtain⟨h1,cur,h2,h3,h4,h5,h6⟩:=hok.some b hb;refine⟨h1,cur,h2,h3,by simpa [so,Ck] using h4,h5,λi x hx j' c hc=>?_⟩;simp only[so,Ck,ji,jo]at hx;obtain⟨y,hy,rfl⟩:=hx;simp only[ji,jo]at hc;obtain⟨c0,hc0,rfl⟩:=hc;obtain⟨u,e1,e2⟩:=h6 i y hy j' c0 hc0;exact⟨u,e1,hren1 _ _ e2⟩
  ·obtain⟨id,o0,hid,ho0,rfl⟩:=hget i oi hi;obtain⟨id',o0',hid',ho0',rfl⟩:=hget j oj hj;have he:=hr.inj id id' o0 o0' b ho0 ho0' hbi hbj;subst he;have h1:=Xo hnd hid;rw[Xo hnd hid']at h1;exact (lT h1).symm
 have hlA:Br F w osA args' vs:=by
  subst hargs;exact DZ (by simp[BY hl]) λi x u hx hu=>by
   simp only[ji,jo]at hx;obtain⟨y,hy,rfl⟩:=hx;obtain⟨u',hu',hr'⟩:=CN hl i y hy;rw[hu']at hu;cases hu;exact hren _ _ hr'
 refine (h F osA w vs hSO hlA).mono ?_;rintro e w' ⟨u,r,st',F',os',rfl,⟨rfl,rfl⟩,hs',hru,he⟩;have hl':os'.length=sel.length+rows2.length:=by
  have:=kf List.length hs'.st;rw[kB,kD]at this;omega
 have hpl:((Cb s.st sel).map (Ck sel)).length=sel.length:=by
  rw[<- hstR];simp[osA,hl2]
 let N:=s.st.length
 let un:Own->Own:=λo=>{ o with row:=Im sel N o.row }
 let f2:Nat->Own->Own:=λi o=>match idx sel i with|some p=>(match os'[p]? with|some o'=>un o'|none=>o)|none=>o
 let os2:=os.mapIdx f2++(os'.drop sel.length).map un
 have hNl:(os.mapIdx f2).length=N:=by simp[N,hN]
 have hgL:∀i,i<N->os2[i]?=(os[i]?).map (f2 i):=λi hi=>by
  simp only[os2];rw[jr (by omega),nC]
 have hgP:∀p o',os'[p]?=some o'->os2[pos sel N p]?=some (un o'):=λp o' ho'=>by
  unfold pos;split
  ·rename_i j hj;have hjN:j<N:=hlt j (je hj);rw[hgL j hjN,jl (by omega)];simp only[kb,f2,Xo hnd hj,ho']
  ·rename_i hn;have hp:sel.length<=p:=mE.1 hn;simp only[os2];rw[jt (by omega),hNl,ji,kW,show sel.length+(p-sel.length+N-N)=p by omega,ho'];rfl
 have hgO:∀i,i<N->idx sel i=none->os2[i]?=os[i]?:=λi hi hx=>by
  rw[hgL i hi];have:f2 i=id:=by funext o;simp[f2,hx]
  rw[this,Option.map_id];rfl
 have hcase:∀i o,os2[i]?=some o->(∃p o',os'[p]?=some o'/\o=un o'/\i=pos sel N p)∨(i<N/\idx sel i=none/\os[i]?=some o):=λi o ho=>by
  rcases la i N with hi|hi
  ·rcases hx:idx sel i with _|p
   ·exact .inr ⟨hi,rfl,by rw[<- hgO i hi hx];exact ho⟩
   ·have hp:=Nc hx;have hpl2:p<os'.length:=by have:=(jg.1 hp).1;omega
    have h1:=hgP p _ (jl hpl2);have h2:pos sel N p=i:=by unfold pos;rw[hp]
    rw[h2,ho]at h1;exact .inl ⟨p,_,jl hpl2,lT h1,h2.symm⟩
  ·have ho2:=ho;simp only[os2]at ho2;rw[jt (by omega),hNl,ji,jo]at ho2;obtain⟨o',h1,h2⟩:=ho2;rw[kW]at h1;refine .inl ⟨_,o',h1,h2.symm,?_⟩;unfold pos;rw[mE.2 (by omega)];simp only;omega
 have hosle:FH os os2:=λi o ho=>by
  have hiN:i<N:=by have:=(jg.1 ho).1;omega
  rcases hx:idx sel i with _|p
  ·exact⟨o,by rw[hgO i hiN hx];exact ho,jv _,rfl,λ_=>⟨rfl,rfl,rfl⟩⟩
  ·have hp:=Nc hx;have h1:osA[p]?=some (so o):=by rw[hidx i p hx,ho];rfl
   obtain⟨o',ho',e1,e2,e3⟩:=he.Ta p (so o) (by rw[hpl];exact (jg.1 hp).1) h1;refine⟨un o',?_,e1,e2,λhg=>?_⟩
   ·have:=hgP p o' ho';unfold pos at this;rw[hp]at this;exact this
   ·obtain⟨g1,g2,g3⟩:=e3 hg;exact⟨g1,g2,by simpa [so,un,Ck,Im] using g3⟩
 have hmono:∀x v,Ae F w os x v->Ae F' w' os2 x v:=λx v h=>DV he.Mr he.II os _ hosle x v h;have hun0:∀x v,Ae F' w' os' x v->Ae F' w' os2 (PA sel N x) v:=λx v h=>by
  cases x with
  | own id g n=>
   simp only[PA,Ae]at h⊢;obtain⟨o,h1,h2,h3,h4⟩:=h;exact⟨un o,hgP _ _ h1,h2,h3,λhg=>by
    obtain⟨a1,a2⟩:=h4 hg;exact⟨by simpa [un,Im] using a1,by simpa [un,Im] using a2⟩⟩
  | ptr id g i off=>
   simp only[PA,Ae]at h⊢;obtain⟨o,h1,h2,h3,h4⟩:=h;exact⟨un o,hgP _ _ h1,h2,h3,λhg=>by
    obtain⟨a1,a2,a3⟩:=h4 hg;exact⟨by simpa [un,Im] using a1,a2,a3⟩⟩
  | fn f cs=>simp[PA,Ae]
  | agg cs=>simp[PA,Ae]
  | Dw cs=>simp[PA,Ae]
  | _=>simp only[PA,Ae]at h⊢<;>exact h
 have hun1:∀x v,Ae F' w' os' x v->Ae F' w' os2 (Mn sel N x) v:=LH hun0;have hunL:∀cs us,Br F' w' os' cs us->Br F' w' os2 (cs.map (Mn sel N)) us:=λcs us h=>
  DZ (by simp[BY h]) λi x u hx hu=>by
   simp only[ji,jo]at hx;obtain⟨y,hy,rfl⟩:=hx;obtain⟨u',hu',hr'⟩:=CN h i y hy;rw[hu']at hu;cases hu;exact hun1 _ _ hr'
 have hunr:∀x v,Ae F' w' os' x v->Ae F' w' os2 (Se sel N x) v:=λx v h=>by
  cases x with
  | fn f cs=>simp only[Se,Ae]at h⊢;obtain⟨us,e,hl⟩:=h;exact⟨us,e,hunL _ _ hl⟩
  | agg cs=>simp only[Se,Ae]at h⊢;obtain⟨us,e,hl⟩:=h;exact⟨us,e,hunL _ _ hl⟩
  | Dw cs=>simp only[Se,Ae]at h⊢;obtain⟨us,e,hl⟩:=h;exact⟨us,e,hunL _ _ hl⟩
  | _=>exact hun1 _ _ h
 have hB:∀(i:Nat) (o:Own),idx sel i=none->os[i]?=some o->∀b,o.owns b->w'.heap[b]?=w.heap[b]?/\¬ F' b/\∀o1:Own,o1∈os'->¬ o1.owns b:=λi o hx ho b hb=>by
  refine he.other b ((hr.rows _ o ho).lt hb) ((hr.rows _ o ho).nF hb) λoA hoA e=>?_;obtain⟨j,hj⟩:=jz.1 hoA;obtain⟨id,o0,hid,ho0,rfl⟩:=hget j oA hj;have:=hr.inj id i o0 o b ho0 ho e hb;subst this;exact cA hx (je hid)
 have hrows:os2.map Own.row=Fz sel (rows1.map (Im sel N)) 0 s.st++rows2.map (Im sel N):=by
  simp only[os2,lJ];have hst:os'.map Own.row=rows1++rows2:=hs'.st;congr 1
  ·apply lk;intro i;rw[ji,nC,Lt,kt];have h0:os.map Own.row=s.st:=hr.st;rw[<- h0,ji];cases hoi:os[i]? with
   | none=>rfl
   | some o=>
    simp only[kb,f2];cases hx:idx sel i with
    | none=>rfl
    | some p=>
     have hpm:p<sel.length:=(jg.1 (Nc hx)).1;have hp':p<os'.length:=by omega
     have h3:(os'.map Own.row)[p]?=rows1[p]?:=by rw[hst,jr (by omega)]
     rw[ji,jl hp']at h3;simp only[ji,jl hp',<- h3,kb,un]
  ·rw[lU];have hco:Own.row∘un=Im sel N∘Own.row:=rfl;rw[hco,<- lU,List.map_drop,hst];simp[<- hlen]
 have hkept:Vv ((Cb s.st sel).map (Ck sel)) rows1:=λj r0 r1 h0 h1 hg=>by
  have hj:j<((Cb s.st sel).map (Ck sel)).length:=(jg.1 h0).1;rw[<- hstR,ji,jo]at h0;obtain⟨oA,hoA,rfl⟩:=h0;obtain⟨o',ho',_,_,e3⟩:=he.Ta j oA hj hoA;have hst':os'.map Own.row=rows1++rows2:=hs'.st;have h2:(rows1++rows2)[j]?=some o'.row:=by rw[<- hst',ji,ho'];rfl
  rw[jr (jg.1 h1).1,h1]at h2;cases h2;exact (e3 hg).2.2
 refine⟨u,_,_,F',os2,rfl,hK hkept,⟨hrows,λt=>hmono _ _ (hr.env t),hr.size,λi o ho=>?_,λi j oi oj b hi hj hbi hbj=>?_,hs'.FT,hr.defers⟩,hunr _ _ hru,⟨he.sys,he.tape,he.output,he.size,he.Mr,he.II,λb hb h1 h2=>?_,λi o hi ho=>hosle i o ho⟩⟩
 ·rcases hcase i o ho with ⟨p,o',hp,rfl,rfl⟩|⟨h1,h2,ho2⟩
  ·have hok:=hs'.rows p o' hp;refine⟨hok.pos,λx hx=>?_,λhb=>?_,λb hb=>?_,hok.mo,hok.deep.mapped (Mn sel N) (λ_ _ _ _ h=>eU h) rfl rfl rfl rfl⟩
   ·simp only[un,Im,kC]at hx;obtain⟨y,hy,rfl⟩:=hx;obtain⟨g1,g2⟩:=hok.lens y hy;refine⟨by simpa [un,Im] using g1,λc hc=>?_⟩;obtain⟨c0,hc0,rfl⟩:=kC.1 hc;have hmem:o'.row∈rows1++rows2:=by rw[<- hs'.st];exact kC.2 ⟨o',je hp,rfl⟩
    exact hL _ hmem y hy c0 hc0 (g2 c0 hc0)
   ·obtain⟨h1,h2⟩:=hok.none hb;exact⟨by simp[un,Im,h1],h2⟩
   ·obtain⟨e1,cur,e2,e3,e4,e5,e6⟩:=hok.some b hb;refine⟨e1,cur,e2,e3,by simpa [un,Im] using e4,e5,λi' x hx q c hc=>?_⟩;simp only[un,Im,ji,jo]at hx;obtain⟨y,hy,rfl⟩:=hx;simp only[ji,jo]at hc;obtain⟨c0,hc0,rfl⟩:=hc;obtain⟨u',f1,f2⟩:=e6 i' y hy q c0 hc0;exact⟨u',f1,hun1 _ _ f2⟩
  ·have hok:=hr.rows _ o ho2;refine⟨hok.pos,hok.lens,hok.none,λb hb=>?_,λb hb=>⟨(hB _ o h2 ho2 b (.inr hb)).2.1,ke (hok.mo b hb).2.1 he.size,(hok.mo b hb).2.2⟩,
    hok.deep.keep rfl (λ_ h=>h) rfl (λb hb=>(hB _ o h2 ho2 b hb).1) (λi x j e s ys hx hc=>⟨x,hx,hc⟩)⟩
   obtain⟨e1,cur,e2,e3,e4,e5,e6⟩:=hok.some b hb;obtain⟨g1,g2,_⟩:=hB _ o h2 ho2 b (.inl hb);refine⟨g2,cur,by rw[g1];exact e2,e3,e4,e5,λi' x hx j c hc=>?_⟩;obtain⟨u',f1,f2⟩:=e6 i' x hx j c hc;exact⟨u',f1,hmono _ _ f2⟩
 ·rcases hcase i oi hi with ⟨p,o',hp,rfl,rfl⟩|⟨h1,h2,hi1⟩<;>rcases hcase j oj hj with ⟨p2,o2',hp2,rfl,rfl⟩|⟨h3,h4,hj1⟩
  ·have:=hs'.inj p p2 o' o2' b hp hp2 hbi hbj;rw[this]
  ·exact absurd hbi ((hB _ oj h4 hj1 b hbj).2.2 o' (je hp))
  ·exact absurd hbj ((hB _ oi h2 hi1 b hbi).2.2 o2' (je hp2))
  ·exact hr.inj i j oi oj b hi1 hj1 hbi hbj
 ·have h3:∀o∈osA,¬ o.owns b:=λo ho=>by
   obtain⟨j,hj⟩:=jz.1 ho;obtain⟨id,o0,hid,ho0,rfl⟩:=hget j o hj;exact h2 o0 (je ho0)
  obtain⟨g1,g2,g3⟩:=he.other b hb h1 h3;refine⟨g1,g2,λo ho=>?_⟩;obtain⟨i,hi⟩:=jz.1 ho;rcases hcase i o hi with ⟨p,o',hp,rfl,rfl⟩|⟨_,_,ho2⟩
  ·exact g3 o' (je hp)
  ·exact h2 o (je ho2)
inductive UN (sel:List Nat) (N:Nat):List Row->List Row->Prop
 | nil:UN sel N [] []
 | deep {g size:Nat} {el:TypeId} {xs:List (List AV)} {r r':List Row} (hp:DD xs) (hl:UN sel N r r'):UN sel N (⟨g,el,size,xs⟩::r) (⟨g,el,size,xs⟩::r')
 | raw {g size:Nat} {el:TypeId} {cs cs':List AV} {r r':List Row} (hc:cs.map (Mn sel N)=cs') (hp:cs'.all AV.leaf=true) (hl:UN sel N r r'):UN sel N (⟨g,el,size,[cs]⟩::r) (⟨g,el,size,[cs']⟩::r')
theorem UN.pure {sel:List Nat}{N g size:Nat}{el:TypeId}{xs:List (List AV)}{r r':List Row}(hp:EK xs)(hl:UN sel N r r'):UN sel N (⟨g,el,size,xs⟩::r) (⟨g,el,size,xs⟩::r'):=.deep hp.any hl
theorem Qm {sel:List Nat}{N:Nat}{c:AV}(h:EY c=true):Mn sel N c=c:=by cases c<;>simp[EY,simple,Mn,two,PA]at h⊢
theorem UN.leaf {sel:List Nat}{N:Nat}:∀{l l':List Row},UN sel N l l'->∀row∈l,∀x∈row.xs,∀c∈x,c.kept=true->(Mn sel N c).kept=true
 | _,_,.nil,_,h=>by cases h
 | _,_,.deep hp hl,row,hm=>by
  rcases js.1 hm with rfl|hm
  ·intro x hx c hc h;rw[Qm (hp x hx c hc)];exact h
  ·exact UN.leaf hl row hm
 | _,_,.raw hc hp hl,row,hm=>by
  rcases js.1 hm with rfl|hm
  ·intro x hx c hcx _;simp only[jy]at hx;subst hx;exact D0 (jq.1 hp _ (by rw[<- hc];exact kC.2 ⟨c,hcx,rfl⟩))
  ·exact UN.leaf hl row hm
theorem UN.spec {sel:List Nat}{N:Nat}:∀{l l':List Row},UN sel N l l'->l.map (Im sel N)=l'
 | _,_,.nil=>rfl
 | _,_,.deep hp hl=>by
  simp only[kI,UN.spec hl];congr 1;simp only[Im];congr 1;refine (kM (g:=id) λx hx=>?_).trans (lI _);refine (kM (g:=id) λc hc=>?_).trans (lI _);exact Qm (hp x hx c hc)
 | _,_,.raw hc _ hl=>by simp only[kI,UN.spec hl,Im,lV,hc]
theorem KF {f:FuncId}{args:List AV}{d:Option Tmp}{K:St->Prop}(h:(∀row∈s.st,∀x∈row.xs,∀c∈x,c.kept=true)->callThen P k s f args d K):callThen P k s f args d K:=
 λF os a w vs hr hl=>h (NT hr) F os a w vs hr hl
section
variable {ops : Array Oper} {Q : Exit -> St -> Prop} {ds : List (Option Tmp)} {r : List Oper} {n : Nat} {e : Nat -> AV} {st st' : List Row} {ty : TypeId} {ps : String} {ed : Array Edge} {d : Option Tmp} {v v' : AV} {gd : Option (Nat × Bool)}
variable {f : FuncId} {ars : Array Operand} {ts : Array TypeId} {args args' : List AV} {rowsP rows0 rows1 rows1' rows2 rows2' : List Row}
theorem aV (sel:List Nat)(hg:GO ds gd e)(hb:Dl P f=true)(hc:Ab P f args' rows0 λr st=>r=v/\st=rows1++rows2)(ha:ars.toList.map (St.ev ⟨n,e,st⟩)++[]=args)(hnd:sel.Nodup)(hlt:sel.all (·<st.length)=true)
  (hp:Cb st sel=rowsP) (hs:SR sel rowsP rows0) (hf:args.map (KB sel)=args') (hlen:rows1.length=sel.length) (h1:UN sel st.length rows1 rows1') (h2:UN sel st.length rows2 rows2') (hv:Se sel st.length v=v') (hst':Fz sel rows1' 0 st++rows2'=st')
  (hk:Vv rows0 rows1->AO P k ops Q (ds++[d]) r (St.put ⟨n,e,st'⟩ d v')):AO P k ops Q ds (⟨d,.call ⟨.value (.func f),ars,ts⟩,ty,ps,ed,gd⟩::r) ⟨n,e,st⟩:=by
 subst hst';subst ha;subst hv;subst hp;refine MB hg ?_;rw[NS];refine⟨hb,KF λhle=>?_⟩;obtain⟨e1,e2⟩:=hs.spec (st0:=st) hle (λrow hrow=>by
  obtain⟨i,_,hi⟩:=kz.1 hrow;exact je hi)
 refine Kv sel hc hnd (λi hi=>by simpa using jq.1 hlt i hi) e1 e2 hf hlen (λrow hrow=>by
  rcases kJ.1 hrow with h|h
  ·exact h1.leaf row h
  ·exact h2.leaf row h) λhln=>?_
 simp only[h1.spec,h2.spec];exact hk hln
theorem F8 (sel:List Nat)(hg:GO ds gd e)(hb:Dl P f=true)(hc:Ab P f args' rows0 λr st=>r=v/\st=rows1++rows2)(ha:ars.toList.map (St.ev ⟨n,e,st⟩)++[]=args)(hnd:sel.Nodup)(hlt:sel.all (·<st.length)=true)
  (hp:Cb st sel=rowsP) (hs:SR sel rowsP rows0) (hf:args.map (KB sel)=args') (hlen:rows1.length=sel.length) (h1:UN sel st.length rows1 rows1') (h2:UN sel st.length rows2 rows2') (hv:Se sel st.length v=v') (hst':Fz sel rows1' 0 st++rows2'=st')
  (hk:AO P k ops Q (ds++[d]) r (St.put ⟨n,e,st'⟩ d v')):AO P k ops Q ds (⟨d,.call ⟨.value (.func f),ars,ts⟩,ty,ps,ed,gd⟩::r) ⟨n,e,st⟩:=
 aV sel hg hb hc ha hnd hlt hp hs hf hlen h1 h2 hv hst' λ_=>hk
end
theorem LM {k n:Nat}{e:Nat->AV}{st st1 st':List Row}{L:List (Nat×AV)}(sel:List Nat)(hk:sel.take k=List.range k)(hnd:sel.Nodup)(hlt:sel.all (·<st.length)=true)(hp:Cb st sel=st1)(hs:SR sel st1 st')(h:ME (λt=>KB sel (e t)) L):
  Wk k ⟨n,e,st⟩ ⟨n,Aa L,st'⟩:=λF os a w hr=>by
 have hle:=NT hr;obtain⟨h1,h2⟩:=hs.spec (st0:=st) hle (λrow hrow=>by
  rw[<- hp]at hrow;obtain⟨i,_,hi⟩:=kz.1 hrow;exact je hi)
 exact VD sel hk hnd hlt (by rw[hp];exact h1) h2 h F os a w hr
theorem Bj {k n:Nat}{e:Nat->AV}{st st1 st':List Row}{L:List (Nat×AV)}(sel:List Nat)(hk:sel.take k=List.range k)(_:SR sel (st.take k) (st.take k))(hnd:sel.Nodup)(hlt:sel.all (·<st.length)=true)(hp:Cb st sel=st1)(hs:SR sel st1 st')(h:ME (λt=>KB sel (e t)) L):
  Wk k ⟨n,e,st⟩ ⟨n,Aa L,st'⟩:=LM sel hk hnd hlt hp hs h
theorem Ab.wk {P:Program}{f:FuncId}{args:List AV}{rows st0 st1:List Row}{r0 r1:AV}(h:Ab P f args rows λr st=>r=r0/\st=st0)(hw:Wk rows.length ⟨1,Aa [(0,r0)],st0⟩ ⟨1,Aa [(0,r1)],st1⟩):
  Ab P f args rows λr st=>r=r1/\st=st1:=by
 intro F os w vs hs hl;refine (h F os w vs hs hl).mono ?_;rintro e w' ⟨v,r,st',F',os',rfl,⟨rfl,rfl⟩,h1,h2,h3⟩;have hrel:Rel F' os' ⟨1,Aa [(0,r)],st'⟩ { tmps:=#[v],defers:=[] } w':=by
  refine⟨h1.st,λt=>?_,rfl,h1.rows,h1.inj,h1.FT,rfl⟩;simp only[Aa];split
  ·rename_i ht;subst ht;exact h2
  ·simp[Ae]
 obtain⟨F2,os2,h4,h5⟩:=hw F' os' _ w' hrel;refine⟨v,r1,st1,F2,os2,rfl,⟨rfl,rfl⟩,⟨h4.st,h4.rows,h4.inj,h4.FT⟩,?_,h3.trans h5⟩;have:=h4.env 0;simpa [Aa] using this
theorem le.HJ {α:Type}{id g m:Nat}{l:List α}{enc:α->List AV}(h:m=l.length):le (Abs.HJ id g (l.map enc) (.own id g m)) (.sl (l.map enc)):=le.of (Zn h)
theorem Rel.bare {F:Nat->Prop}{os:List Own}{s:St}{a:Act}{w:World}(hr:Rel F os s a w):Rel F [] ⟨s.n,λ_=>.E2,[]⟩ a w:=
 ⟨rfl,λ_=>by simp[Ae],hr.size,by simp,by simp,hr.FT,hr.defers⟩
theorem Nh {P:Program}{F:Nat->Prop}{os:List Own}{s:St}{a:Act}{w:World}{k:Nat}{sem:Sem Value}{v0 v:AV}{st0:List Row}(hr:Rel F os s a w)
  (he:Hl P 0 F [] ⟨s.n,λ_=>.E2,[]⟩ a w sem λx st=>x=v0/\st=st0) (hw:Wk 0 ⟨1,Aa [(0,v0)],st0⟩ ⟨1,Aa [(0,v)],[]⟩) (hv:flat v=true) :
  ∃u w' F',sem.run P w=.ok u w'/\Rel F' os s a w'/\Ae F' w' os v u/\Ext F os w F' os w' k:=by
 obtain⟨x,st',u,w',os1,⟨rfl,rfl⟩,h2,h3,h4,h5⟩:=he;have hrel:Rel F os1 ⟨1,Aa [(0,x)],st'⟩ { tmps:=#[u],defers:=[] } w':=by
  refine⟨h3.st,λt=>?_,rfl,h3.rows,h3.inj,h3.FT,rfl⟩;simp only[Aa];split
  ·rename_i ht;subst ht;exact h4
  ·simp[Ae]
 obtain⟨F2,os2,h6,h7⟩:=hw F os1 _ w' hrel;have hos2:os2=[]:=by have:=h6.st;simpa using this
 subst hos2;obtain⟨g1,g2,_⟩:=hr.after (k:=k) (h5.trans h7) h6.FT;exact⟨u,w',F2,h2,g1,JP hv os (by have:=h6.env 0;simpa [Aa] using this),g2⟩
section
variable {P : Program} {ds : List (Option Tmp)} {r : List Oper} {n : Nat} {e : Nat -> AV} {st : List Row} {ty : TypeId} {ps : String} {ed : Array Edge} {t : Tmp} {gd : Option (Nat × Bool)} {KS : St -> Prop}
variable {α : Type} {l : List α} {enc : α -> List AV} {el T : TypeId} {size bytes : Nat} {zz cs : List AV}
theorem VG (hp:EK (l.map enc)):Wk 0 ⟨1,Aa [(0,.own 0 0 l.length)],[⟨0,el,size,l.map enc⟩]⟩ ⟨1,Aa [(0,.sl (l.map enc))],[]⟩:=
 (Wk.BL (n:=1) (e:=Aa [(0,.own 0 0 l.length)]) (st:=[⟨0,el,size,l.map enc⟩]) (L:=[(0,.sl (l.map enc))]) (st':=[⟨1,el,size,[]⟩]) (id:=0) rfl (kE _) hp ⟨.BL rfl,jf⟩ rfl).trans
  (Dc (L:=[(0,.sl (l.map enc))]) (st':=[]) [] rfl (by decide) rfl rfl jf ⟨.rfl,jf⟩)
theorem F3 {len:Nat}{parts:Array (Nat×Operand)}{pv:List (Nat×AV)}(hg:GO ds gd e)(he:D4 P T=some ⟨el,size,bytes,zz⟩)(hle:len*size<=16777216)(hp:(parts.toList.map λp=>(p.1,St.ev ⟨n,e,st⟩ p.2))=pv)
  (hpf:(pv.all λp=>flat p.2)=true) (hc:MV (λi=>some (i*size,size)) ((List.replicate len zz).flatten) pv=some cs) (hck:chunk size len cs=l.map enc) (hln:len=l.length) (hpu:EK (l.map enc))
  (hk:D6 P (ds++[some t]) r KS ⟨n,ED e t (.sl (l.map enc)),st⟩):D6 P ds (⟨some t,.buildSlice T len parts,ty,ps,ed,gd⟩::r) KS ⟨n,e,st⟩:=by
 refine cj hg rfl (λs0 e1 e2 hd k F os a w hr next Q hn=>?_) hk;have hpv:(parts.toList.map λp=>(p.1,s0.ev p.2))=pv:=by
  rw[<- hp];refine kM λp hp'=>?_;rw[e2 p.2 (by simp only[Op.operands,na,kC];exact⟨p,by simpa using hp',rfl⟩)]
 have h9:Hl P 0 F [] ⟨s0.n,λ_=>.E2,[]⟩ a w (Instr.buildSlice T len (parts.map λ(i,x)=>(i,a.eval x))) (λx st=>x=.own 0 0 l.length/\st=[⟨0,el,size,l.map enc⟩]):=by
  refine Ob (parts:=pv) hr.bare (Ap _ he ⟨hle,Ap _ hc (by subst hln;rw[hck];exact⟨rfl,rfl⟩)⟩) (by rw[<- hpv];simp) λi p up hp hup=>?_;have hfl:flat p.2=true:=jq.1 hpf p (je hp);rw[<- hpv]at hp;simp only[ji,jo,nV]at hp hup;obtain⟨q,hq,rfl⟩:=hp;obtain⟨q',hq',rfl⟩:=hup;rw[hq]at hq';cases hq';exact JP hfl [] (hr.ev _)
 obtain⟨u,w',F',g1,g2,g3,g4⟩:=Nh (k:=k) hr h9 (VG hpu) rfl;unfold Oper.wp;simp only[execOp,kX,g1,kV,ku,Oper.upon];exact hn _ _ (O1 (st':=s0.st) hd rfl g2 g3 g4)
end
end Go.Abs
