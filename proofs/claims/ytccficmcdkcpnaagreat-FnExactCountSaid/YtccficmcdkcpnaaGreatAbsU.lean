import Derived.Test.YtccficmcdkcpnaaGreatAbsT
set_option linter.all false
namespace Go.Abs
open Go
variable {P : Program} {F : Nat -> Prop} {os : List Own} {s : St} {a : Act} {w : World} {k : Nat}
def pos (sel:List Nat)(N p:Nat):Nat:=match sel[p]? with|some j=>j|none=>p-sel.length+N
def Sn (sel:List Nat)(N:Nat):AV->AV
 | .own id g n=>.own (pos sel N id) g n
 | .ptr id g i off=>.ptr (pos sel N id) g i off
 | .fn ..|.agg _|.CW _=>.F6
 | v=>v
def PH (sel:List Nat)(N:Nat)(x:AV):AV:=two (Sn sel N) x
theorem ot {sel:List Nat}{N:Nat}{c:AV}{el s:Nat}{ys:List (List AV)}(h:PH sel N c=.dv el s ys):c=.dv el s ys:=by
 refine Yh (X:=Sn sel N) (λc h=>?_) h;cases c<;>simp only[Sn]at h<;>first|exact h|cases h
def bQ (sel:List Nat)(N:Nat):AV->AV
 | .fn f cs=>.fn f (cs.map (PH sel N))
 | .agg cs=>.agg (cs.map (PH sel N))
 | .CW cs=>.CW (cs.map (PH sel N))
 | v=>PH sel N v
def Ke (sel:List Nat)(N:Nat)(row:Row):Row:={ row with xs:=row.xs.map (·.map (PH sel N)) }
def KN (sel:List Nat)(rs:List Row):Nat->List Row->List Row
 | _,[]=>[]
 | i,row::st=>(match idx sel i with|some p=>(match rs[p]? with|some r=>r|none=>row)|none=>row)::KN sel rs (i+1) st
theorem Wb {sel:List Nat}{rs:List Row}:∀(st:List Row) (i j:Nat),(KN sel rs i st)[j]?=(st[j]?).map λrow=>match idx sel (i+j) with|some p=>(match rs[p]? with|some r=>r|none=>row)|none=>row
 | [],i,j=>by simp[KN]
 | row::st,i,0=>by simp[KN]
 | row::st,i,j+1=>by
  simp only[KN,vW];rw[Wb st (i+1) j,show i+1+j=i+(j+1) by omega]
theorem Tw {sel:List Nat}{id j:Nat}(h:idx sel id=some j):sel[j]?=some id:=by
 unfold idx at h;rw[we]at h;obtain⟨h1,h2,_⟩:=h;rw[uQ h1];simpa using h2
theorem eW {sel:List Nat}(hnd:sel.Nodup){id j:Nat}(h:sel[j]?=some id):idx sel id=some j:=by
 unfold idx;obtain⟨h1,h2⟩:=uK.1 h;rw[we];refine⟨h1,by simp[h2],λi hi=>?_⟩;have:=xG.1 hnd i j (by omega) h1 hi;simp only[beq_iff_eq,ne_eq,yZ,beq_eq_false_iff_ne];rw[<- h2];exact this
theorem lv {sel:List Nat}{id:Nat}(h:idx sel id=none):id ∉ sel:=by
 unfold idx at h;rw[List.findIdx?_eq_none_iff]at h;intro hm;simpa using h id hm
def ZN (rows0 rows1:List Row):Prop:=∀(j:Nat) r0 r1,rows0[j]?=some r0->rows1[j]?=some r1->r1.gen=r0.gen->r1.xs.length=r0.xs.length
theorem Uf {f:FuncId}{args args':List AV}{d:Option Tmp}{K:St->Prop}{rows0 rows1 rows2:List Row}{v:AV}(sel:List Nat)(h:BW P f args' rows0 λr st=>r=v/\st=rows1++rows2)
  (hnd:sel.Nodup) (hlt :∀i∈sel,i<s.st.length) (hs:(Ca s.st sel).map (CQ sel)=rows0) (hl0:Md rows0) (hargs:args.map (L0 sel)=args') (hlen:rows1.length=sel.length) (hL :∀row∈rows1++rows2,∀x∈row.xs,∀c∈x,c.kept=true->(PH sel s.st.length c).kept=true)
  (hK:ZN rows0 rows1->K ({ s with st:=KN sel (rows1.map (Ke sel s.st.length)) 0 s.st++rows2.map (Ke sel s.st.length) }.put d (bQ sel s.st.length v))):callThen P k s f args d K:=by
 intro F os a w vs hr hl;subst hs;have hN:s.st.length=os.length:=hr.len;have hos1:∀(j id:Nat),sel[j]?=some id->(sel.filterMap (os[·]?))[j]?=os[id]?:=by
  have :∀(l:List Nat),(∀i∈l,i<os.length)->∀(j id:Nat),l[j]?=some id->(l.filterMap (os[·]?))[j]?=os[id]?:=λl=>by
   induction l with
   | nil=>intro _ j id h;simp at h
   | cons i l ih=>
    intro hl j id h;have hi:=hl i (by simp);rw[wu,uQ hi];cases j with
    | zero=>simp only[vC,uO]at h;subst h;simp[uQ hi]
    | succ j=>simp only[vW]at h⊢;exact ih (λx hx=>hl x (by simp[hx])) j id h
  exact this sel (λi hi=>by rw[<- hN];exact hlt i hi)
 let so:Own->Own:=λo=>{ o with row:=CQ sel o.row }
 let osA:=(sel.filterMap (os[·]?)).map so
 have hl2:(sel.filterMap (os[·]?)).length=sel.length:=by
  have :∀(l:List Nat),(∀i∈l,i<os.length)->(l.filterMap (os[·]?)).length=l.length:=λl=>by
   induction l with
   | nil=>simp
   | cons i l ih=>intro hl;rw[wu,uQ (hl i (by simp))];simp[ih (λx hx=>hl x (by simp[hx]))]
  exact this sel (λi hi=>by rw[<- hN];exact hlt i hi)
 have AAD:∀(j:Nat) (o:Own),osA[j]?=some o->∃id o0,sel[j]?=some id/\os[id]?=some o0/\o=so o0:=λj o h=>by
  simp only[osA,uP,uR]at h;obtain⟨o0,h0,rfl⟩:=h;have hj:j<sel.length:=by rw[<- hl2];exact (uK.1 h0).1
  refine⟨sel[j],o0,uQ hj,?_,rfl⟩;rw[<- hos1 j _ (uQ hj)];exact h0
 have hidx:∀id j,idx sel id=some j->osA[j]?=(os[id]?).map so:=λid j hj=>by
  simp only[osA,uP];rw[hos1 j id (Tw hj)]
 have hren0:∀x v,Ae F w os x v->Ae F w osA (KJ sel x) v:=λx v h=>by
  cases x with
  | own id g n=>
   simp only[KJ];split
   ·rename_i j hj;simp only[Ae]at h⊢;obtain⟨o,h1,h2,h3,h4⟩:=h;exact⟨so o,by rw[hidx id j hj,h1];rfl,h2,h3,λhg=>by
     obtain⟨a1,a2⟩:=h4 hg;exact⟨by simpa [so,CQ] using a1,by simpa [so,CQ] using a2⟩⟩
   ·simp[Ae]
  | ptr id g i off=>
   simp only[KJ];split
   ·rename_i j hj;simp only[Ae]at h⊢;obtain⟨o,h1,h2,h3,h4⟩:=h;exact⟨so o,by rw[hidx id j hj,h1];rfl,h2,h3,λhg=>by
     obtain⟨a1,a2,a3⟩:=h4 hg;exact⟨by simpa [so,CQ] using a1,a2,a3⟩⟩
   ·simp[Ae]
  | fn f cs=>simp[KJ,Ae]
  | agg cs=>simp[KJ,Ae]
  | CW cs=>simp[KJ,Ae]
  | _=>simp only[KJ,Ae]at h⊢<;>exact h
 have hren1:∀x v,Ae F w os x v->Ae F w osA (Lj sel x) v:=PQ hren0;have hrenL:∀cs us,Bc F w os cs us->Bc F w osA (cs.map (Lj sel)) us:=λcs us h=>
  DZ (by simp[BR h]) λi x u hx hu=>by
   simp only[uP,uR]at hx;obtain⟨y,hy,rfl⟩:=hx;obtain⟨u',hu',hr'⟩:=Bo h i y hy;rw[hu']at hu;cases hu;exact hren1 _ _ hr'
 have hren:∀x v,Ae F w os x v->Ae F w osA (L0 sel x) v:=λx v h=>by
  cases x with
  | fn f cs=>simp only[L0,Ae]at h⊢;obtain⟨us,e,hl⟩:=h;exact⟨us,e,hrenL _ _ hl⟩
  | agg cs=>simp only[L0,Ae]at h⊢;obtain⟨us,e,hl⟩:=h;exact⟨us,e,hrenL _ _ hl⟩
  | CW cs=>simp only[L0,Ae]at h⊢;obtain⟨us,e,hl⟩:=h;exact⟨us,e,hrenL _ _ hl⟩
  | _=>exact hren1 _ _ h
 have hstR:osA.map Own.row=(Ca s.st sel).map (CQ sel):=by
  have h0:os.map Own.row=s.st:=hr.st;simp only[osA,wa,Ca];rw[<- h0];have hco:Own.row∘so=CQ sel∘Own.row:=rfl;rw[hco,<- wa,yN];congr 1;simp[yR]
 have hSO:FN F osA ((Ca s.st sel).map (CQ sel)) w:=by
  refine⟨hstR,λj o ho=>?_,λi j oi oj b hi hj hbi hbj=>?_,hr.GK⟩
  ·obtain⟨id,o0,hid,ho0,rfl⟩:=AAD j o ho;have zp:=hr.rows id o0 ho0;have hm:CQ sel o0.row∈(Ca s.st sel).map (CQ sel):=by
    rw[<- hstR];exact uw.2 ⟨so o0,uL ho,rfl⟩
   refine⟨zp.pos,λx hx=>⟨?_,hl0 _ hm x hx⟩,λhb=>?_,λb hb=>?_,zp.mo,zp.deep.mapped (Lj sel) (λ_ _ _ _ h=>fB h) rfl rfl rfl rfl⟩
   ·simp only[so,CQ,uw]at hx;obtain⟨y,hy,rfl⟩:=hx;simpa [so,CQ] using (zp.lens y hy).1
   ·obtain⟨h1,h2⟩:=zp.none hb;exact⟨by simp[so,CQ,h1],h2⟩
   ·obtain⟨h1,cur,h2,h3,h4,h5,h6⟩:=zp.some b hb;refine⟨h1,cur,h2,h3,by simpa [so,CQ] using h4,h5,λi x hx j' c hc=>?_⟩;simp only[so,CQ,uP,uR]at hx;obtain⟨y,hy,rfl⟩:=hx;simp only[uP,uR]at hc;obtain⟨c0,hc0,rfl⟩:=hc;obtain⟨u,e1,e2⟩:=h6 i y hy j' c0 hc0;exact⟨u,e1,hren1 _ _ e2⟩
  ·obtain⟨id,o0,hid,ho0,rfl⟩:=AAD i oi hi;obtain⟨id',o0',hid',ho0',rfl⟩:=AAD j oj hj;have he:=hr.inj id id' o0 o0' b ho0 ho0' hbi hbj;subst he;have h1:=eW hnd hid;rw[eW hnd hid']at h1;exact (xS h1).symm
 have hlA:Bc F w osA args' vs:=by
  subst hargs;exact DZ (by simp[BR hl]) λi x u hx hu=>by
   simp only[uP,uR]at hx;obtain⟨y,hy,rfl⟩:=hx;obtain⟨u',hu',hr'⟩:=Bo hl i y hy;rw[hu']at hu;cases hu;exact hren _ _ hr'
 refine (h F osA w vs hSO hlA).mono ?_;rintro e w' ⟨u,r,st',F',os',rfl,⟨rfl,rfl⟩,hs',hru,he⟩;have hl':os'.length=sel.length+rows2.length:=by
  have:=vI List.length hs'.st;rw[uZ,uu]at this;omega
 have hpl:((Ca s.st sel).map (CQ sel)).length=sel.length:=by
  rw[<- hstR];simp[osA,hl2]
 let N:=s.st.length
 let un:Own->Own:=λo=>{ o with row:=Ke sel N o.row }
 let f2:Nat->Own->Own:=λi o=>match idx sel i with|some p=>(match os'[p]? with|some o'=>un o'|none=>o)|none=>o
 let os2:=os.mapIdx f2++(os'.drop sel.length).map un
 have hNl:(os.mapIdx f2).length=N:=by simp[N,hN]
 have hgL:∀i,i<N->os2[i]?=(os[i]?).map (f2 i):=λi hi=>by
  simp only[os2];rw[uU (by omega),yF]
 have hgP:∀p o',os'[p]?=some o'->os2[pos sel N p]?=some (un o'):=λp o' ho'=>by
  unfold pos;split
  ·rename_i j hj;have hjN:j<N:=hlt j (uL hj);rw[hgL j hjN,uQ (by omega)];simp only[vY,f2,eW hnd hj,ho']
  ·rename_i hn;have hp:sel.length<=p:=List.getElem?_eq_none_iff.1 hn;simp only[os2];rw[ug (by omega),hNl,uP,vZ,show sel.length+(p-sel.length+N-N)=p by omega,ho'];rfl
 have hgO:∀i,i<N->idx sel i=none->os2[i]?=os[i]?:=λi hi hx=>by
  rw[hgL i hi];have:f2 i=id:=by funext o;simp[f2,hx]
  rw[this,Option.map_id];rfl
 have hcase:∀i o,os2[i]?=some o->(∃p o',os'[p]?=some o'/\o=un o'/\i=pos sel N p)∨(i<N/\idx sel i=none/\os[i]?=some o):=λi o ho=>by
  rcases wy i N with hi|hi
  ·rcases hx:idx sel i with _|p
   ·exact .inr ⟨hi,rfl,by rw[<- hgO i hi hx];exact ho⟩
   ·have hp:=Tw hx;have hpl2:p<os'.length:=by have:=(uK.1 hp).1;omega
    have h1:=hgP p _ (uQ hpl2);have h2:pos sel N p=i:=by unfold pos;rw[hp]
    rw[h2,ho]at h1;exact .inl ⟨p,_,uQ hpl2,xS h1,h2.symm⟩
  ·have ho2:=ho;simp only[os2]at ho2;rw[ug (by omega),hNl,uP,uR]at ho2;obtain⟨o',h1,h2⟩:=ho2;rw[vZ]at h1;refine .inl ⟨_,o',h1,h2.symm,?_⟩;unfold pos;rw[List.getElem?_eq_none_iff.2 (by omega)];simp only;omega
 have hosle:Er os os2:=λi o ho=>by
  have hiN:i<N:=by have:=(uK.1 ho).1;omega
  rcases hx:idx sel i with _|p
  ·exact⟨o,by rw[hgO i hiN hx];exact ho,uq _,rfl,λ_=>⟨rfl,rfl,rfl⟩⟩
  ·have hp:=Tw hx;have h1:osA[p]?=some (so o):=by rw[hidx i p hx,ho];rfl
   obtain⟨o',ho',e1,e2,e3⟩:=he.kL p (so o) (by rw[hpl];exact (uK.1 hp).1) h1;refine⟨un o',?_,e1,e2,λhg=>?_⟩
   ·have:=hgP p o' ho';unfold pos at this;rw[hp]at this;exact this
   ·obtain⟨g1,g2,g3⟩:=e3 hg;exact⟨g1,g2,by simpa [so,un,CQ,Ke] using g3⟩
 have AAC:∀x v,Ae F w os x v->Ae F' w' os2 x v:=λx v h=>D8 he.RN he.Jx os _ hosle x v h;have hun0:∀x v,Ae F' w' os' x v->Ae F' w' os2 (Sn sel N x) v:=λx v h=>by
  cases x with
  | own id g n=>
   simp only[Sn,Ae]at h⊢;obtain⟨o,h1,h2,h3,h4⟩:=h;exact⟨un o,hgP _ _ h1,h2,h3,λhg=>by
    obtain⟨a1,a2⟩:=h4 hg;exact⟨by simpa [un,Ke] using a1,by simpa [un,Ke] using a2⟩⟩
  | ptr id g i off=>
   simp only[Sn,Ae]at h⊢;obtain⟨o,h1,h2,h3,h4⟩:=h;exact⟨un o,hgP _ _ h1,h2,h3,λhg=>by
    obtain⟨a1,a2,a3⟩:=h4 hg;exact⟨by simpa [un,Ke] using a1,a2,a3⟩⟩
  | fn f cs=>simp[Sn,Ae]
  | agg cs=>simp[Sn,Ae]
  | CW cs=>simp[Sn,Ae]
  | _=>simp only[Sn,Ae]at h⊢<;>exact h
 have hun1:∀x v,Ae F' w' os' x v->Ae F' w' os2 (PH sel N x) v:=PQ hun0;have hunL:∀cs us,Bc F' w' os' cs us->Bc F' w' os2 (cs.map (PH sel N)) us:=λcs us h=>
  DZ (by simp[BR h]) λi x u hx hu=>by
   simp only[uP,uR]at hx;obtain⟨y,hy,rfl⟩:=hx;obtain⟨u',hu',hr'⟩:=Bo h i y hy;rw[hu']at hu;cases hu;exact hun1 _ _ hr'
 have hunr:∀x v,Ae F' w' os' x v->Ae F' w' os2 (bQ sel N x) v:=λx v h=>by
  cases x with
  | fn f cs=>simp only[bQ,Ae]at h⊢;obtain⟨us,e,hl⟩:=h;exact⟨us,e,hunL _ _ hl⟩
  | agg cs=>simp only[bQ,Ae]at h⊢;obtain⟨us,e,hl⟩:=h;exact⟨us,e,hunL _ _ hl⟩
  | CW cs=>simp only[bQ,Ae]at h⊢;obtain⟨us,e,hl⟩:=h;exact⟨us,e,hunL _ _ hl⟩
  | _=>exact hun1 _ _ h
 have hB:∀(i:Nat) (o:Own),idx sel i=none->os[i]?=some o->∀b,o.owns b->w'.heap[b]?=w.heap[b]?/\¬ F' b/\∀o1:Own,o1∈os'->¬ o1.owns b:=λi o hx ho b hb=>by
  refine he.other b ((hr.rows _ o ho).lt hb) ((hr.rows _ o ho).nF hb) λoA hoA e=>?_;obtain⟨j,hj⟩:=vF.1 hoA;obtain⟨id,o0,hid,ho0,rfl⟩:=AAD j oA hj;have:=hr.inj id i o0 o b ho0 ho e hb;subst this;exact lv hx (uL hid)
 have hrows:os2.map Own.row=KN sel (rows1.map (Ke sel N)) 0 s.st++rows2.map (Ke sel N):=by
  simp only[os2,vx];have hst:os'.map Own.row=rows1++rows2:=hs'.st;congr 1
  ·apply xj;intro i;rw[uP,yF,Wb,vd];have h0:os.map Own.row=s.st:=hr.st;rw[<- h0,uP];cases hoi:os[i]? with
   | none=>rfl
   | some o=>
    simp only[vY,f2];cases hx:idx sel i with
    | none=>rfl
    | some p=>
     have hpm:p<sel.length:=(uK.1 (Tw hx)).1;have hp':p<os'.length:=by omega
     have h3:(os'.map Own.row)[p]?=rows1[p]?:=by rw[hst,uU (by omega)]
     rw[uP,uQ hp']at h3;simp only[uP,uQ hp',<- h3,vY,un]
  ·rw[wa];have hco:Own.row∘un=Ke sel N∘Own.row:=rfl;rw[hco,<- wa,List.map_drop,hst];simp[<- hlen]
 have hkept:ZN ((Ca s.st sel).map (CQ sel)) rows1:=λj r0 r1 h0 h1 hg=>by
  have hj:j<((Ca s.st sel).map (CQ sel)).length:=(uK.1 h0).1;rw[<- hstR,uP,uR]at h0;obtain⟨oA,hoA,rfl⟩:=h0;obtain⟨o',ho',_,_,e3⟩:=he.kL j oA hj hoA;have hst':os'.map Own.row=rows1++rows2:=hs'.st;have h2:(rows1++rows2)[j]?=some o'.row:=by rw[<- hst',uP,ho'];rfl
  rw[uU (uK.1 h1).1,h1]at h2;cases h2;exact (e3 hg).2.2
 refine⟨u,_,_,F',os2,rfl,hK hkept,⟨hrows,λt=>AAC _ _ (hr.env t),hr.size,λi o ho=>?_,λi j oi oj b hi hj hbi hbj=>?_,hs'.GK,hr.defers⟩,hunr _ _ hru,⟨he.sys,he.tape,he.output,he.size,he.RN,he.Jx,λb hb h1 h2=>?_,λi o hi ho=>hosle i o ho⟩⟩
 ·rcases hcase i o ho with ⟨p,o',hp,rfl,rfl⟩|⟨h1,h2,ho2⟩
  ·have zp:=hs'.rows p o' hp;refine⟨zp.pos,λx hx=>?_,λhb=>?_,λb hb=>?_,zp.mo,zp.deep.mapped (PH sel N) (λ_ _ _ _ h=>ot h) rfl rfl rfl rfl⟩
   ·simp only[un,Ke,uw]at hx;obtain⟨y,hy,rfl⟩:=hx;obtain⟨g1,g2⟩:=zp.lens y hy;refine⟨by simpa [un,Ke] using g1,λc hc=>?_⟩;obtain⟨c0,hc0,rfl⟩:=uw.1 hc;have hmem:o'.row∈rows1++rows2:=by rw[<- hs'.st];exact uw.2 ⟨o',uL hp,rfl⟩
    exact hL _ hmem y hy c0 hc0 (g2 c0 hc0)
   ·obtain⟨h1,h2⟩:=zp.none hb;exact⟨by simp[un,Ke,h1],h2⟩
   ·obtain⟨e1,cur,e2,e3,e4,e5,e6⟩:=zp.some b hb;refine⟨e1,cur,e2,e3,by simpa [un,Ke] using e4,e5,λi' x hx q c hc=>?_⟩;simp only[un,Ke,uP,uR]at hx;obtain⟨y,hy,rfl⟩:=hx;simp only[uP,uR]at hc;obtain⟨c0,hc0,rfl⟩:=hc;obtain⟨u',f1,f2⟩:=e6 i' y hy q c0 hc0;exact⟨u',f1,hun1 _ _ f2⟩
  ·have zp:=hr.rows _ o ho2;refine⟨zp.pos,zp.lens,zp.none,λb hb=>?_,λb hb=>⟨(hB _ o h2 ho2 b (.inr hb)).2.1,vi (zp.mo b hb).2.1 he.size,(zp.mo b hb).2.2⟩,
    zp.deep.keep rfl (λ_ h=>h) rfl (λb hb=>(hB _ o h2 ho2 b hb).1) (λi x j e s ys hx hc=>⟨x,hx,hc⟩)⟩
   obtain⟨e1,cur,e2,e3,e4,e5,e6⟩:=zp.some b hb;obtain⟨g1,g2,_⟩:=hB _ o h2 ho2 b (.inl hb);refine⟨g2,cur,by rw[g1];exact e2,e3,e4,e5,λi' x hx j c hc=>?_⟩;obtain⟨u',f1,f2⟩:=e6 i' x hx j c hc;exact⟨u',f1,AAC _ _ f2⟩
 ·rcases hcase i oi hi with ⟨p,o',hp,rfl,rfl⟩|⟨h1,h2,hi1⟩<;>rcases hcase j oj hj with ⟨p2,o2',hp2,rfl,rfl⟩|⟨h3,h4,hj1⟩
  ·have:=hs'.inj p p2 o' o2' b hp hp2 hbi hbj;rw[this]
  ·exact absurd hbi ((hB _ oj h4 hj1 b hbj).2.2 o' (uL hp))
  ·exact absurd hbj ((hB _ oi h2 hi1 b hbi).2.2 o2' (uL hp2))
  ·exact hr.inj i j oi oj b hi1 hj1 hbi hbj
 ·have h3:∀o∈osA,¬ o.owns b:=λo ho=>by
   obtain⟨j,hj⟩:=vF.1 ho;obtain⟨id,o0,hid,ho0,rfl⟩:=AAD j o hj;exact h2 o0 (uL ho0)
  obtain⟨g1,g2,g3⟩:=he.other b hb h1 h3;refine⟨g1,g2,λo ho=>?_⟩;obtain⟨i,hi⟩:=vF.1 ho;rcases hcase i o hi with ⟨p,o',hp,rfl,rfl⟩|⟨_,_,ho2⟩
  ·exact g3 o' (uL hp)
  ·exact h2 o (uL ho2)
inductive UN (sel:List Nat) (N:Nat):List Row->List Row->Prop
 | nil:UN sel N [] []
 | deep {g size:Nat} {el:TypeId} {xs:List (List AV)} {r r':List Row} (hp:DG xs) (hl:UN sel N r r'):UN sel N (⟨g,el,size,xs⟩::r) (⟨g,el,size,xs⟩::r')
 | raw {g size:Nat} {el:TypeId} {cs cs':List AV} {r r':List Row} (hc:cs.map (PH sel N)=cs') (hp:cs'.all AV.leaf=true) (hl:UN sel N r r'):UN sel N (⟨g,el,size,[cs]⟩::r) (⟨g,el,size,[cs']⟩::r')
theorem UN.pure {sel:List Nat}{N g size:Nat}{el:TypeId}{xs:List (List AV)}{r r':List Row}(hp:Gm xs)(hl:UN sel N r r'):UN sel N (⟨g,el,size,xs⟩::r) (⟨g,el,size,xs⟩::r'):=.deep hp.any hl
theorem Uc {sel:List Nat}{N:Nat}{c:AV}(h:FI c=true):PH sel N c=c:=by cases c<;>simp[FI,simple,PH,two,Sn]at h⊢
theorem UN.leaf {sel:List Nat}{N:Nat}:∀{l l':List Row},UN sel N l l'->∀row∈l,∀x∈row.xs,∀c∈x,c.kept=true->(PH sel N c).kept=true
 | _,_,.nil,_,h=>by cases h
 | _,_,.deep hp hl,row,hm=>by
  rcases uz.1 hm with rfl|hm
  ·intro x hx c hc h;rw[Uc (hp x hx c hc)];exact h
  ·exact UN.leaf hl row hm
 | _,_,.raw hc hp hl,row,hm=>by
  rcases uz.1 hm with rfl|hm
  ·intro x hx c hcx _;simp only[vQ]at hx;subst hx;exact DL (uS.1 hp _ (by rw[<- hc];exact uw.2 ⟨c,hcx,rfl⟩))
  ·exact UN.leaf hl row hm
theorem UN.spec {sel:List Nat}{N:Nat}:∀{l l':List Row},UN sel N l l'->l.map (Ke sel N)=l'
 | _,_,.nil=>rfl
 | _,_,.deep hp hl=>by
  simp only[vK,UN.spec hl];congr 1;simp only[Ke];congr 1;refine (vL (g:=id) λx hx=>?_).trans (wJ _);refine (vL (g:=id) λc hc=>?_).trans (wJ _);exact Uc (hp x hx c hc)
 | _,_,.raw hc _ hl=>by simp only[vK,UN.spec hl,Ke,wW,hc]
theorem Th {f:FuncId}{args:List AV}{d:Option Tmp}{K:St->Prop}(h:(∀row∈s.st,∀x∈row.xs,∀c∈x,c.kept=true)->callThen P k s f args d K):callThen P k s f args d K:=
 λF os a w vs hr hl=>h (T5 hr) F os a w vs hr hl
section
variable {ops : Array Oper} {Q : Exit -> St -> Prop} {ds : List (Option Tmp)} {r : List Oper} {n : Nat} {e : Nat -> AV} {st st' : List Row} {ty : TypeId} {ps : String} {ed : Array Edge} {d : Option Tmp} {v v' : AV} {gd : Option (Nat × Bool)}
variable {f : FuncId} {ars : Array Operand} {ts : Array TypeId} {args args' : List AV} {rowsP rows0 rows1 rows1' rows2 rows2' : List Row}
theorem Gx (sel:List Nat)(hg:GO ds gd e)(hb:DP P f=true)(hc:BW P f args' rows0 λr st=>r=v/\st=rows1++rows2)(ha:ars.toList.map (St.ev ⟨n,e,st⟩)++[]=args)(hnd:sel.Nodup)(hlt:sel.all (·<st.length)=true)
  (hp:Ca st sel=rowsP) (hs:SR sel rowsP rows0) (hf:args.map (L0 sel)=args') (hlen:rows1.length=sel.length) (h1:UN sel st.length rows1 rows1') (h2:UN sel st.length rows2 rows2') (hv:bQ sel st.length v=v') (hst':KN sel rows1' 0 st++rows2'=st')
  (hk:ZN rows0 rows1->AO P k ops Q (ds++[d]) r (St.put ⟨n,e,st'⟩ d v')):AO P k ops Q ds (⟨d,.call ⟨.value (.func f),ars,ts⟩,ty,ps,ed,gd⟩::r) ⟨n,e,st⟩:=by
 subst hst';subst ha;subst hv;subst hp;refine ON hg ?_;rw[N6];refine⟨hb,Th λhle=>?_⟩;obtain⟨e1,e2⟩:=hs.spec (st0:=st) hle (λrow zh=>by
  obtain⟨i,_,hi⟩:=wT.1 zh;exact uL hi)
 refine Uf sel hc hnd (λi hi=>by simpa using uS.1 hlt i hi) e1 e2 hf hlen (λrow zh=>by
  rcases vJ.1 zh with h|h
  ·exact h1.leaf row h
  ·exact h2.leaf row h) λhln=>?_
 simp only[h1.spec,h2.spec];exact hk hln
theorem HG (sel:List Nat)(hg:GO ds gd e)(hb:DP P f=true)(hc:BW P f args' rows0 λr st=>r=v/\st=rows1++rows2)(ha:ars.toList.map (St.ev ⟨n,e,st⟩)++[]=args)(hnd:sel.Nodup)(hlt:sel.all (·<st.length)=true)
  (hp:Ca st sel=rowsP) (hs:SR sel rowsP rows0) (hf:args.map (L0 sel)=args') (hlen:rows1.length=sel.length) (h1:UN sel st.length rows1 rows1') (h2:UN sel st.length rows2 rows2') (hv:bQ sel st.length v=v') (hst':KN sel rows1' 0 st++rows2'=st')
  (hk:AO P k ops Q (ds++[d]) r (St.put ⟨n,e,st'⟩ d v')):AO P k ops Q ds (⟨d,.call ⟨.value (.func f),ars,ts⟩,ty,ps,ed,gd⟩::r) ⟨n,e,st⟩:=
 Gx sel hg hb hc ha hnd hlt hp hs hf hlen h1 h2 hv hst' λ_=>hk
end
theorem Sm {k n:Nat}{e:Nat->AV}{st st1 st':List Row}{L:List (Nat×AV)}(sel:List Nat)(hk:sel.take k=List.range k)(hnd:sel.Nodup)(hlt:sel.all (·<st.length)=true)(hp:Ca st sel=st1)(hs:SR sel st1 st')(h:ME (λt=>L0 sel (e t)) L):
  Wk k ⟨n,e,st⟩ ⟨n,AJ L,st'⟩:=λF os a w hr=>by
 have hle:=T5 hr;obtain⟨h1,h2⟩:=hs.spec (st0:=st) hle (λrow zh=>by
  rw[<- hp]at zh;obtain⟨i,_,hi⟩:=wT.1 zh;exact uL hi)
 exact Zo sel hk hnd hlt (by rw[hp];exact h1) h2 h F os a w hr
theorem Wk.sa {k n:Nat}{e:Nat->AV}{st st1 st':List Row}{L:List (Nat×AV)}(sel:List Nat)(hk:sel.take k=List.range k)(_:SR sel (st.take k) (st.take k))(hnd:sel.Nodup)(hlt:sel.all (·<st.length)=true)(hp:Ca st sel=st1)(hs:SR sel st1 st')(h:ME (λt=>L0 sel (e t)) L):
  Wk k ⟨n,e,st⟩ ⟨n,AJ L,st'⟩:=Sm sel hk hnd hlt hp hs h
theorem BW.wk {P:Program}{f:FuncId}{args:List AV}{rows st0 st1:List Row}{r0 r1:AV}(h:BW P f args rows λr st=>r=r0/\st=st0)(hw:Wk rows.length ⟨1,AJ [(0,r0)],st0⟩ ⟨1,AJ [(0,r1)],st1⟩):
  BW P f args rows λr st=>r=r1/\st=st1:=by
 intro F os w vs hs hl;refine (h F os w vs hs hl).mono ?_;rintro e w' ⟨v,r,st',F',os',rfl,⟨rfl,rfl⟩,h1,h2,h3⟩;have hrel:Rel F' os' ⟨1,AJ [(0,r)],st'⟩ { tmps:=#[v],defers:=[] } w':=by
  refine⟨h1.st,λt=>?_,rfl,h1.rows,h1.inj,h1.GK,rfl⟩;simp only[AJ];split
  ·rename_i ht;subst ht;exact h2
  ·simp[Ae]
 obtain⟨F2,os2,h4,h5⟩:=hw F' os' _ w' hrel;refine⟨v,r1,st1,F2,os2,rfl,⟨rfl,rfl⟩,⟨h4.st,h4.rows,h4.inj,h4.GK⟩,?_,h3.trans h5⟩;have:=h4.env 0;simpa [AJ] using this
theorem le.Km {α:Type}{id g m:Nat}{l:List α}{enc:α->List AV}(h:m=l.length):le (Abs.Km id g (l.map enc) (.own id g m)) (.sl (l.map enc)):=le.of (jW h)
theorem Rel.bare {F:Nat->Prop}{os:List Own}{s:St}{a:Act}{w:World}(hr:Rel F os s a w):Rel F [] ⟨s.n,λ_=>.F6,[]⟩ a w:=
 ⟨rfl,λ_=>by simp[Ae],hr.size,by simp,by simp,hr.GK,hr.defers⟩
theorem Nh {P:Program}{F:Nat->Prop}{os:List Own}{s:St}{a:Act}{w:World}{k:Nat}{RR:Sem Value}{v0 v:AV}{st0:List Row}(hr:Rel F os s a w)
  (he:IV P 0 F [] ⟨s.n,λ_=>.F6,[]⟩ a w RR λx st=>x=v0/\st=st0) (hw:Wk 0 ⟨1,AJ [(0,v0)],st0⟩ ⟨1,AJ [(0,v)],[]⟩) (hv:flat v=true) :
  ∃u w' F',RR.run P w=.ok u w'/\Rel F' os s a w'/\Ae F' w' os v u/\Ext F os w F' os w' k:=by
 obtain⟨x,st',u,w',os1,⟨rfl,rfl⟩,h2,h3,h4,h5⟩:=he;have hrel:Rel F os1 ⟨1,AJ [(0,x)],st'⟩ { tmps:=#[u],defers:=[] } w':=by
  refine⟨h3.st,λt=>?_,rfl,h3.rows,h3.inj,h3.GK,rfl⟩;simp only[AJ];split
  ·rename_i ht;subst ht;exact h4
  ·simp[Ae]
 obtain⟨F2,os2,h6,h7⟩:=hw F os1 _ w' hrel;have hos2:os2=[]:=by have:=h6.st;simpa using this
 subst hos2;obtain⟨g1,g2,_⟩:=hr.after (k:=k) (h5.trans h7) h6.GK;exact⟨u,w',F2,h2,g1,PA hv os (by have:=h6.env 0;simpa [AJ] using this),g2⟩
section
variable {P : Program} {ds : List (Option Tmp)} {r : List Oper} {n : Nat} {e : Nat -> AV} {st : List Row} {ty : TypeId} {ps : String} {ed : Array Edge} {t : Tmp} {gd : Option (Nat × Bool)} {KS : St -> Prop}
variable {α : Type} {l : List α} {enc : α -> List AV} {el T : TypeId} {size bytes : Nat} {zz cs : List AV}
theorem VH (hp:Gm (l.map enc)):Wk 0 ⟨1,AJ [(0,.own 0 0 l.length)],[⟨0,el,size,l.map enc⟩]⟩ ⟨1,AJ [(0,.sl (l.map enc))],[]⟩:=
 (Wk.Db (n:=1) (e:=AJ [(0,.own 0 0 l.length)]) (st:=[⟨0,el,size,l.map enc⟩]) (L:=[(0,.sl (l.map enc))]) (st':=[⟨1,el,size,[]⟩]) (id:=0) rfl (ue _) hp ⟨.Db rfl,uM⟩ rfl).trans
  (Gy (L:=[(0,.sl (l.map enc))]) (st':=[]) [] rfl (by decide) rfl rfl uM ⟨.rfl,uM⟩)
theorem kK {len:Nat}{parts:Array (Nat×Operand)}{pv:List (Nat×AV)}(hg:GO ds gd e)(he:Ck P T=some ⟨el,size,bytes,zz⟩)(hle:len*size<=16777216)(hp:(parts.toList.map λp=>(p.1,St.ev ⟨n,e,st⟩ p.2))=pv)
  (hpf:(pv.all λp=>flat p.2)=true) (hc:PJ (λi=>some (i*size,size)) ((List.replicate len zz).flatten) pv=some cs) (hck:chunk size len cs=l.map enc) (hln:len=l.length) (hpu:Gm (l.map enc))
  (hk:DX P (ds++[some t]) r KS ⟨n,EW e t (.sl (l.map enc)),st⟩):DX P ds (⟨some t,.buildSlice T len parts,ty,ps,ed,gd⟩::r) KS ⟨n,e,st⟩:=by
 refine lB hg rfl (λs0 e1 e2 hd k F os a w hr next Q hn=>?_) hk;have hpv:(parts.toList.map λp=>(p.1,s0.ev p.2))=pv:=by
  rw[<- hp];refine vL λp hp'=>?_;rw[e2 p.2 (by simp only[Op.operands,yA,uw];exact⟨p,by simpa using hp',rfl⟩)]
 have h9:IV P 0 F [] ⟨s0.n,λ_=>.F6,[]⟩ a w (Instr.buildSlice T len (parts.map λ(i,x)=>(i,a.eval x))) (λx st=>x=.own 0 0 l.length/\st=[⟨0,el,size,l.map enc⟩]):=by
  refine Oh (parts:=pv) hr.bare (Am _ he ⟨hle,Am _ hc (by subst hln;rw[hck];exact⟨rfl,rfl⟩)⟩) (by rw[<- hpv];simp) λi p up hp hup=>?_;have hfl:flat p.2=true:=uS.1 hpf p (uL hp);rw[<- hpv]at hp;simp only[uP,uR,xy]at hp hup;obtain⟨q,hq,rfl⟩:=hp;obtain⟨q',hq',rfl⟩:=hup;rw[hq]at hq';cases hq';exact PA hfl [] (hr.ev _)
 obtain⟨u,w',F',g1,g2,g3,g4⟩:=Nh (k:=k) hr h9 (VH hpu) rfl;unfold Oper.wp;simp only[execOp,vU,g1,vS,vv,Oper.upon];exact hn _ _ (OO (st':=s0.st) hd rfl g2 g3 g4)
end
end Go.Abs
