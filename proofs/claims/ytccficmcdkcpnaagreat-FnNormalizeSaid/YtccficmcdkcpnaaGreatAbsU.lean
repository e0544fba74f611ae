import Derived.Test.YtccficmcdkcpnaaGreatAbsT
set_option linter.all false
namespace Go.Abs
open Go
variable {P : Program} {F : Nat -> Prop} {os : List Own} {s : St} {a : Act} {w : World} {k : Nat}
def pos (sel:List Nat)(N p:Nat):Nat:=match sel[p]? with|some j=>j|none=>p-sel.length+N
def Ri (sel:List Nat)(N:Nat):AV->AV
 | .own id g n=>.own (pos sel N id) g n
 | .ptr id g i off=>.ptr (pos sel N id) g i off
 | .fn ..|.agg _|.Dv _=>.FZ
 | v=>v
def Mj (sel:List Nat)(N:Nat)(x:AV):AV:=two (Ri sel N) x
theorem kP {sel:List Nat}{N:Nat}{c:AV}{el s:Nat}{ys:List (List AV)}(h:Mj sel N c=.dv el s ys):c=.dv el s ys:=by
 refine T8 (X:=Ri sel N) (λc h=>?_) h;cases c<;>simp only[Ri]at h<;>first|exact h|cases h
def SU (sel:List Nat)(N:Nat):AV->AV
 | .fn f cs=>.fn f (cs.map (Mj sel N))
 | .agg cs=>.agg (cs.map (Mj sel N))
 | .Dv cs=>.Dv (cs.map (Mj sel N))
 | v=>Mj sel N v
def KC (sel:List Nat)(N:Nat)(row:Row):Row:={ row with xs:=row.xs.map (·.map (Mj sel N)) }
def Fc (sel:List Nat)(rs:List Row):Nat->List Row->List Row
 | _,[]=>[]
 | i,row::st=>(match idx sel i with|some p=>(match rs[p]? with|some r=>r|none=>row)|none=>row)::Fc sel rs (i+1) st
theorem OC {sel:List Nat}{rs:List Row}:∀(st:List Row) (i j:Nat),(Fc sel rs i st)[j]?=(st[j]?).map λrow=>match idx sel (i+j) with|some p=>(match rs[p]? with|some r=>r|none=>row)|none=>row
 | [],i,j=>by simp[Fc]
 | row::st,i,0=>by simp[Fc]
 | row::st,i,j+1=>by
  simp only[Fc,qq];rw[OC st (i+1) j,show i+1+j=i+(j+1) by omega]
theorem Ln {sel:List Nat}{rs:List Row}:∀(st:List Row) (i:Nat),(Fc sel rs i st).length=st.length
 | [],_=>rfl
 | _::st,i=>by simp[Fc,Ln st (i+1)]
theorem QP {sel:List Nat}{id j:Nat}(h:idx sel id=some j):sel[j]?=some id:=by
 unfold idx at h;rw[rr]at h;obtain⟨h1,h2,_⟩:=h;rw[qD h1];simpa using h2
theorem bG {sel:List Nat}(wc:sel.Nodup){id j:Nat}(h:sel[j]?=some id):idx sel id=some j:=by
 unfold idx;obtain⟨h1,h2⟩:=px.1 h;rw[rr];refine⟨h1,by simp[h2],λi hi=>?_⟩;have:=sj.1 wc i j (by omega) h1 hi;simp only[beq_iff_eq,ne_eq,te,beq_eq_false_iff_ne];rw[<- h2];exact this
theorem hU {sel:List Nat}{id:Nat}(h:idx sel id=none):id ∉ sel:=by
 unfold idx at h;rw[List.findIdx?_eq_none_iff]at h;intro hm;simpa using h id hm
def X3 (rows0 rows1:List Row):Prop:=∀(j:Nat) r0 r1,rows0[j]?=some r0->rows1[j]?=some r1->r1.gen=r0.gen->r1.xs.length=r0.xs.length
theorem NO {f:FuncId}{args vV:List AV}{d:Option Tmp}{K:St->Prop}{rows0 rows1 rows2:List Row}{v:AV}(sel:List Nat)(h:BS P f vV rows0 λr st=>r=v/\st=rows1++rows2)
  (wc:sel.Nodup) (vS :∀i∈sel,i<s.st.length) (hs:(CD s.st sel).map (Cu sel)=rows0) (hl0:J6 rows0) (wB:args.map (Jx sel)=vV) (hlen:rows1.length=sel.length) (hL :∀row∈rows1++rows2,∀x∈row.xs,∀c∈x,c.kept=true->(Mj sel s.st.length c).kept=true)
  (hK:X3 rows0 rows1->K ({ s with st:=Fc sel (rows1.map (KC sel s.st.length)) 0 s.st++rows2.map (KC sel s.st.length) }.put d (SU sel s.st.length v))):callThen P k s f args d K:=by
 intro F os a w vs hr hl;subst hs;have hN:s.st.length=os.length:=hr.len;have yG:∀(j id:Nat),sel[j]?=some id->(sel.filterMap (os[·]?))[j]?=os[id]?:=by
  have :∀(l:List Nat),(∀i∈l,i<os.length)->∀(j id:Nat),l[j]?=some id->(l.filterMap (os[·]?))[j]?=os[id]?:=λl=>by
   induction l with
   | nil=>intro _ j id h;simp at h
   | cons i l ih=>
    intro hl j id h;have hi:=hl i (by simp);rw[rl,qD hi];cases j with
    | zero=>simp only[qg,pz]at h;subst h;simp[qD hi]
    | succ j=>simp only[qq]at h⊢;exact ih (λx hx=>hl x (by simp[hx])) j id h
  exact this sel (λi hi=>by rw[<- hN];exact vS i hi)
 let so:Own->Own:=λo=>{ o with row:=Cu sel o.row }
 let zo:=(sel.filterMap (os[·]?)).map so
 have yQ:(sel.filterMap (os[·]?)).length=sel.length:=by
  have :∀(l:List Nat),(∀i∈l,i<os.length)->(l.filterMap (os[·]?)).length=l.length:=λl=>by
   induction l with
   | nil=>simp
   | cons i l ih=>intro hl;rw[rl,qD (hl i (by simp))];simp[ih (λx hx=>hl x (by simp[hx]))]
  exact this sel (λi hi=>by rw[<- hN];exact vS i hi)
 have vJ:∀(j:Nat) (o:Own),zo[j]?=some o->∃id o0,sel[j]?=some id/\os[id]?=some o0/\o=so o0:=λj o h=>by
  simp only[zo,qA,qB]at h;obtain⟨o0,h0,rfl⟩:=h;have hj:j<sel.length:=by rw[<- yQ];exact (px.1 h0).1
  refine⟨sel[j],o0,qD hj,?_,rfl⟩;rw[<- yG j _ (qD hj)];exact h0
 have hidx:∀id j,idx sel id=some j->zo[j]?=(os[id]?).map so:=λid j hj=>by
  simp only[zo,qA];rw[yG j id (QP hj)]
 have hren0:∀x v,Ac F w os x v->Ac F w zo (Jy sel x) v:=λx v h=>by
  cases x with
  | own id g n=>
   simp only[Jy];split
   ·rename_i j hj;simp only[Ac]at h⊢;obtain⟨o,h1,h2,h3,h4⟩:=h;exact⟨so o,by rw[hidx id j hj,h1];rfl,h2,h3,λhg=>by
     obtain⟨a1,a2⟩:=h4 hg;exact⟨by simpa [so,Cu] using a1,by simpa [so,Cu] using a2⟩⟩
   ·simp[Ac]
  | ptr id g i off=>
   simp only[Jy];split
   ·rename_i j hj;simp only[Ac]at h⊢;obtain⟨o,h1,h2,h3,h4⟩:=h;exact⟨so o,by rw[hidx id j hj,h1];rfl,h2,h3,λhg=>by
     obtain⟨a1,a2,a3⟩:=h4 hg;exact⟨by simpa [so,Cu] using a1,a2,a3⟩⟩
   ·simp[Ac]
  | fn f cs=>simp[Jy,Ac]
  | agg cs=>simp[Jy,Ac]
  | Dv cs=>simp[Jy,Ac]
  | _=>simp only[Jy,Ac]at h⊢<;>exact h
 have yH:∀x v,Ac F w os x v->Ac F w zo (Jw sel x) v:=Ng hren0;have yI:∀cs us,Bw F w os cs us->Bw F w zo (cs.map (Jw sel)) us:=λcs us h=>
  Df (by simp[BW h]) λi x u hx hu=>by
   simp only[qA,qB]at hx;obtain⟨y,hy,rfl⟩:=hx;obtain⟨u',xB,wS⟩:=CJ h i y hy;rw[xB]at hu;cases hu;exact yH _ _ wS
 have hren:∀x v,Ac F w os x v->Ac F w zo (Jx sel x) v:=λx v h=>by
  cases x with
  | fn f cs=>simp only[Jx,Ac]at h⊢;obtain⟨us,e,hl⟩:=h;exact⟨us,e,yI _ _ hl⟩
  | agg cs=>simp only[Jx,Ac]at h⊢;obtain⟨us,e,hl⟩:=h;exact⟨us,e,yI _ _ hl⟩
  | Dv cs=>simp only[Jx,Ac]at h⊢;obtain⟨us,e,hl⟩:=h;exact⟨us,e,yI _ _ hl⟩
  | _=>exact yH _ _ h
 have hstR:zo.map Own.row=(CD s.st sel).map (Cu sel):=by
  have h0:os.map Own.row=s.st:=hr.st;simp only[zo,ra,CD];rw[<- h0];have hco:Own.row∘so=Cu sel∘Own.row:=rfl;rw[hco,<- ra,tS];congr 1;simp[tX]
 have hSO:IY F zo ((CD s.st sel).map (Cu sel)) w:=by
  refine⟨hstR,λj o ho=>?_,λi j oi oj b hi hj wP xC=>?_,hr.HO⟩
  ·obtain⟨id,o0,yV,ho0,rfl⟩:=vJ j o ho;have vF:=hr.rows id o0 ho0;have hm:Cu sel o0.row∈(CD s.st sel).map (Cu sel):=by
    rw[<- hstR];exact qT.2 ⟨so o0,pt ho,rfl⟩
   refine⟨vF.pos,λx hx=>⟨?_,hl0 _ hm x hx⟩,λhb=>?_,λb hb=>?_,vF.mo,vF.deep.mapped (Jw sel) (λ_ _ _ _ h=>bh h) rfl rfl rfl rfl⟩
   ·simp only[so,Cu,qT]at hx;obtain⟨y,hy,rfl⟩:=hx;simpa [so,Cu] using (vF.lens y hy).1
   ·obtain⟨h1,h2⟩:=vF.none hb;exact⟨by simp[so,Cu,h1],h2⟩
   ·obtain⟨h1,cur,h2,h3,h4,h5,h6⟩:=vF.some b hb;refine⟨h1,cur,h2,h3,by simpa [so,Cu] using h4,h5,λi x hx j' c hc=>?_⟩;simp only[so,Cu,qA,qB]at hx;obtain⟨y,hy,rfl⟩:=hx;simp only[qA,qB]at hc;obtain⟨c0,wZ,rfl⟩:=hc;obtain⟨u,e1,e2⟩:=h6 i y hy j' c0 wZ;exact⟨u,e1,yH _ _ e2⟩
  ·obtain⟨id,o0,yV,ho0,rfl⟩:=vJ i oi hi;obtain⟨vr,o0',hid',ho0',rfl⟩:=vJ j oj hj;have he:=hr.inj id vr o0 o0' b ho0 ho0' wP xC;subst he;have h1:=bG wc yV;rw[bG wc hid']at h1;exact (sF h1).symm
 have hlA:Bw F w zo vV vs:=by
  subst wB;exact Df (by simp[BW hl]) λi x u hx hu=>by
   simp only[qA,qB]at hx;obtain⟨y,hy,rfl⟩:=hx;obtain⟨u',xB,wS⟩:=CJ hl i y hy;rw[xB]at hu;cases hu;exact hren _ _ wS
 refine (h F zo w vs hSO hlA).mono ?_;rintro e w' ⟨u,r,st',F',os',rfl,⟨rfl,rfl⟩,zw,hru,he⟩;have yk:os'.length=sel.length+rows2.length:=by
  have:=rC List.length zw.st;rw[qc,qQ]at this;omega
 have zD:((CD s.st sel).map (Cu sel)).length=sel.length:=by
  rw[<- hstR];simp[zo,yQ]
 let N:=s.st.length
 let un:Own->Own:=λo=>{ o with row:=KC sel N o.row }
 let f2:Nat->Own->Own:=λi o=>match idx sel i with|some p=>(match os'[p]? with|some o'=>un o'|none=>o)|none=>o
 let os2:=os.mapIdx f2++(os'.drop sel.length).map un
 have hNl:(os.mapIdx f2).length=N:=by simp[N,hN]
 have hgL:∀i,i<N->os2[i]?=(os[i]?).map (f2 i):=λi hi=>by
  simp only[os2];rw[qK (by omega),tI]
 have hgP:∀p o',os'[p]?=some o'->os2[pos sel N p]?=some (un o'):=λp o' vc=>by
  unfold pos;split
  ·rename_i j hj;have hjN:j<N:=vS j (pt hj);rw[hgL j hjN,qD (by omega)];simp only[qx,f2,bG wc hj,vc]
  ·rename_i hn;have hp:sel.length<=p:=List.getElem?_eq_none_iff.1 hn;simp only[os2];rw[qS (by omega),hNl,qA,qy,show sel.length+(p-sel.length+N-N)=p by omega,vc];rfl
 have hgO:∀i,i<N->idx sel i=none->os2[i]?=os[i]?:=λi hi hx=>by
  rw[hgL i hi];have:f2 i=id:=by funext o;simp[f2,hx]
  rw[this,Option.map_id];rfl
 have yu:∀i o,os2[i]?=some o->(∃p o',os'[p]?=some o'/\o=un o'/\i=pos sel N p)∨(i<N/\idx sel i=none/\os[i]?=some o):=λi o ho=>by
  rcases rn i N with hi|hi
  ·rcases hx:idx sel i with _|p
   ·exact .inr ⟨hi,rfl,by rw[<- hgO i hi hx];exact ho⟩
   ·have hp:=QP hx;have hpl2:p<os'.length:=by have:=(px.1 hp).1;omega
    have h1:=hgP p _ (qD hpl2);have h2:pos sel N p=i:=by unfold pos;rw[hp]
    rw[h2,ho]at h1;exact .inl ⟨p,_,qD hpl2,sF h1,h2.symm⟩
  ·have zk:=ho;simp only[os2]at zk;rw[qS (by omega),hNl,qA,qB]at zk;obtain⟨o',h1,h2⟩:=zk;rw[qy]at h1;refine .inl ⟨_,o',h1,h2.symm,?_⟩;unfold pos;rw[List.getElem?_eq_none_iff.2 (by omega)];simp only;omega
 have hosle:F8 os os2:=λi o ho=>by
  have hiN:i<N:=by have:=(px.1 ho).1;omega
  rcases hx:idx sel i with _|p
  ·exact⟨o,by rw[hgO i hiN hx];exact ho,qU _,rfl,λ_=>⟨rfl,rfl,rfl⟩⟩
  ·have hp:=QP hx;have h1:zo[p]?=some (so o):=by rw[hidx i p hx,ho];rfl
   obtain⟨o',vc,e1,e2,e3⟩:=he.dA p (so o) (by rw[zD];exact (px.1 hp).1) h1;refine⟨un o',?_,e1,e2,λhg=>?_⟩
   ·have:=hgP p o' vc;unfold pos at this;rw[hp]at this;exact this
   ·obtain⟨g1,g2,g3⟩:=e3 hg;exact⟨g1,g2,by simpa [so,un,Cu,KC] using g3⟩
 have vL:∀x v,Ac F w os x v->Ac F' w' os2 x v:=λx v h=>Ds he.RI he.KX os _ hosle x v h;have hun0:∀x v,Ac F' w' os' x v->Ac F' w' os2 (Ri sel N x) v:=λx v h=>by
  cases x with
  | own id g n=>
   simp only[Ri,Ac]at h⊢;obtain⟨o,h1,h2,h3,h4⟩:=h;exact⟨un o,hgP _ _ h1,h2,h3,λhg=>by
    obtain⟨a1,a2⟩:=h4 hg;exact⟨by simpa [un,KC] using a1,by simpa [un,KC] using a2⟩⟩
  | ptr id g i off=>
   simp only[Ri,Ac]at h⊢;obtain⟨o,h1,h2,h3,h4⟩:=h;exact⟨un o,hgP _ _ h1,h2,h3,λhg=>by
    obtain⟨a1,a2,a3⟩:=h4 hg;exact⟨by simpa [un,KC] using a1,a2,a3⟩⟩
  | fn f cs=>simp[Ri,Ac]
  | agg cs=>simp[Ri,Ac]
  | Dv cs=>simp[Ri,Ac]
  | _=>simp only[Ri,Ac]at h⊢<;>exact h
 have hun1:∀x v,Ac F' w' os' x v->Ac F' w' os2 (Mj sel N x) v:=Ng hun0;have hunL:∀cs us,Bw F' w' os' cs us->Bw F' w' os2 (cs.map (Mj sel N)) us:=λcs us h=>
  Df (by simp[BW h]) λi x u hx hu=>by
   simp only[qA,qB]at hx;obtain⟨y,hy,rfl⟩:=hx;obtain⟨u',xB,wS⟩:=CJ h i y hy;rw[xB]at hu;cases hu;exact hun1 _ _ wS
 have hunr:∀x v,Ac F' w' os' x v->Ac F' w' os2 (SU sel N x) v:=λx v h=>by
  cases x with
  | fn f cs=>simp only[SU,Ac]at h⊢;obtain⟨us,e,hl⟩:=h;exact⟨us,e,hunL _ _ hl⟩
  | agg cs=>simp only[SU,Ac]at h⊢;obtain⟨us,e,hl⟩:=h;exact⟨us,e,hunL _ _ hl⟩
  | Dv cs=>simp only[SU,Ac]at h⊢;obtain⟨us,e,hl⟩:=h;exact⟨us,e,hunL _ _ hl⟩
  | _=>exact hun1 _ _ h
 have hB:∀(i:Nat) (o:Own),idx sel i=none->os[i]?=some o->∀b,o.owns b->w'.heap[b]?=w.heap[b]?/\¬ F' b/\∀o1:Own,o1∈os'->¬ o1.owns b:=λi o hx ho b hb=>by
  refine he.other b ((hr.rows _ o ho).lt hb) ((hr.rows _ o ho).nF hb) λoA hoA e=>?_;obtain⟨j,hj⟩:=qf.1 hoA;obtain⟨id,o0,yV,ho0,rfl⟩:=vJ j oA hj;have:=hr.inj id i o0 o b ho0 ho e hb;subst this;exact hU hx (pt yV)
 have wV:os2.map Own.row=Fc sel (rows1.map (KC sel N)) 0 s.st++rows2.map (KC sel N):=by
  simp only[os2,rM];have vX:os'.map Own.row=rows1++rows2:=zw.st;congr 1
  ·apply sX;intro i;rw[qA,tI,OC,rT];have h0:os.map Own.row=s.st:=hr.st;rw[<- h0,qA];cases xm:os[i]? with
   | none=>rfl
   | some o=>
    simp only[qx,f2];cases hx:idx sel i with
    | none=>rfl
    | some p=>
     have hpm:p<sel.length:=(px.1 (QP hx)).1;have zi:p<os'.length:=by omega
     have h3:(os'.map Own.row)[p]?=rows1[p]?:=by rw[vX,qK (by omega)]
     rw[qA,qD zi]at h3;simp only[qA,qD zi,<- h3,qx,un]
  ·rw[ra];have hco:Own.row∘un=KC sel N∘Own.row:=rfl;rw[hco,<- ra,List.map_drop,vX];simp[<- hlen]
 have hkept:X3 ((CD s.st sel).map (Cu sel)) rows1:=λj r0 r1 h0 h1 hg=>by
  have hj:j<((CD s.st sel).map (Cu sel)).length:=(px.1 h0).1;rw[<- hstR,qA,qB]at h0;obtain⟨oA,hoA,rfl⟩:=h0;obtain⟨o',vc,_,_,e3⟩:=he.dA j oA hj hoA;have xK:os'.map Own.row=rows1++rows2:=zw.st;have h2:(rows1++rows2)[j]?=some o'.row:=by rw[<- xK,qA,vc];rfl
  rw[qK (px.1 h1).1,h1]at h2;cases h2;exact (e3 hg).2.2
 refine⟨u,_,_,F',os2,rfl,hK hkept,⟨wV,λt=>vL _ _ (hr.env t),hr.size,λi o ho=>?_,λi j oi oj b hi hj wP xC=>?_,zw.HO,hr.defers⟩,hunr _ _ hru,⟨he.sys,he.tape,he.output,he.size,he.RI,he.KX,λb hb h1 h2=>?_,λi o hi ho=>hosle i o ho⟩⟩
 ·rcases yu i o ho with ⟨p,o',hp,rfl,rfl⟩|⟨h1,h2,zk⟩
  ·have vF:=zw.rows p o' hp;refine⟨vF.pos,λx hx=>?_,λhb=>?_,λb hb=>?_,vF.mo,vF.deep.mapped (Mj sel N) (λ_ _ _ _ h=>kP h) rfl rfl rfl rfl⟩
   ·simp only[un,KC,qT]at hx;obtain⟨y,hy,rfl⟩:=hx;obtain⟨g1,g2⟩:=vF.lens y hy;refine⟨by simpa [un,KC] using g1,λc hc=>?_⟩;obtain⟨c0,wZ,rfl⟩:=qT.1 hc;have hmem:o'.row∈rows1++rows2:=by rw[<- zw.st];exact qT.2 ⟨o',pt hp,rfl⟩
    exact hL _ hmem y hy c0 wZ (g2 c0 wZ)
   ·obtain⟨h1,h2⟩:=vF.none hb;exact⟨by simp[un,KC,h1],h2⟩
   ·obtain⟨e1,cur,e2,e3,e4,e5,e6⟩:=vF.some b hb;refine⟨e1,cur,e2,e3,by simpa [un,KC] using e4,e5,λi' x hx q c hc=>?_⟩;simp only[un,KC,qA,qB]at hx;obtain⟨y,hy,rfl⟩:=hx;simp only[qA,qB]at hc;obtain⟨c0,wZ,rfl⟩:=hc;obtain⟨u',f1,f2⟩:=e6 i' y hy q c0 wZ;exact⟨u',f1,hun1 _ _ f2⟩
  ·have vF:=hr.rows _ o zk;refine⟨vF.pos,vF.lens,vF.none,λb hb=>?_,λb hb=>⟨(hB _ o h2 zk b (.inr hb)).2.1,rW (vF.mo b hb).2.1 he.size,(vF.mo b hb).2.2⟩,
    vF.deep.keep rfl (λ_ h=>h) rfl (λb hb=>(hB _ o h2 zk b hb).1) (λi x j e s ys hx hc=>⟨x,hx,hc⟩)⟩
   obtain⟨e1,cur,e2,e3,e4,e5,e6⟩:=vF.some b hb;obtain⟨g1,g2,_⟩:=hB _ o h2 zk b (.inl hb);refine⟨g2,cur,by rw[g1];exact e2,e3,e4,e5,λi' x hx j c hc=>?_⟩;obtain⟨u',f1,f2⟩:=e6 i' x hx j c hc;exact⟨u',f1,vL _ _ f2⟩
 ·rcases yu i oi hi with ⟨p,o',hp,rfl,rfl⟩|⟨h1,h2,hi1⟩<;>rcases yu j oj hj with ⟨p2,o2',hp2,rfl,rfl⟩|⟨h3,h4,hj1⟩
  ·have:=zw.inj p p2 o' o2' b hp hp2 wP xC;rw[this]
  ·exact absurd wP ((hB _ oj h4 hj1 b xC).2.2 o' (pt hp))
  ·exact absurd xC ((hB _ oi h2 hi1 b wP).2.2 o2' (pt hp2))
  ·exact hr.inj i j oi oj b hi1 hj1 wP xC
 ·have h3:∀o∈zo,¬ o.owns b:=λo ho=>by
   obtain⟨j,hj⟩:=qf.1 ho;obtain⟨id,o0,yV,ho0,rfl⟩:=vJ j o hj;exact h2 o0 (pt ho0)
  obtain⟨g1,g2,g3⟩:=he.other b hb h1 h3;refine⟨g1,g2,λo ho=>?_⟩;obtain⟨i,hi⟩:=qf.1 ho;rcases yu i o hi with ⟨p,o',hp,rfl,rfl⟩|⟨_,_,zk⟩
  ·exact g3 o' (pt hp)
  ·exact h2 o (pt zk)
inductive UN (sel:List Nat) (N:Nat):List Row->List Row->Prop
 | nil:UN sel N [] []
 | deep {g size:Nat} {el:TypeId} {xs:List (List AV)} {r r':List Row} (hp:DO xs) (hl:UN sel N r r'):UN sel N (⟨g,el,size,xs⟩::r) (⟨g,el,size,xs⟩::r')
 | raw {g size:Nat} {el:TypeId} {cs cs':List AV} {r r':List Row} (hc:cs.map (Mj sel N)=cs') (hp:cs'.all AV.leaf=true) (hl:UN sel N r r'):UN sel N (⟨g,el,size,[cs]⟩::r) (⟨g,el,size,[cs']⟩::r')
theorem UN.pure {sel:List Nat}{N g size:Nat}{el:TypeId}{xs:List (List AV)}{r r':List Row}(hp:D0 xs)(hl:UN sel N r r'):UN sel N (⟨g,el,size,xs⟩::r) (⟨g,el,size,xs⟩::r'):=.deep hp.any hl
theorem TL {sel:List Nat}{N:Nat}{c:AV}(h:Ey c=true):Mj sel N c=c:=by cases c<;>simp[Ey,simple,Mj,two,Ri]at h⊢
theorem UN.leaf {sel:List Nat}{N:Nat}:∀{l l':List Row},UN sel N l l'->∀row∈l,∀x∈row.xs,∀c∈x,c.kept=true->(Mj sel N c).kept=true
 | _,_,.nil,_,h=>by cases h
 | _,_,.deep hp hl,row,hm=>by
  rcases qH.1 hm with rfl|hm
  ·intro x hx c hc h;rw[TL (hp x hx c hc)];exact h
  ·exact UN.leaf hl row hm
 | _,_,.raw hc hp hl,row,hm=>by
  rcases qH.1 hm with rfl|hm
  ·intro x hx c hcx _;simp only[qO]at hx;subst hx;exact Du (qC.1 hp _ (by rw[<- hc];exact qT.2 ⟨c,hcx,rfl⟩))
  ·exact UN.leaf hl row hm
theorem UN.spec {sel:List Nat}{N:Nat}:∀{l l':List Row},UN sel N l l'->l.map (KC sel N)=l'
 | _,_,.nil=>rfl
 | _,_,.deep hp hl=>by
  simp only[qj,UN.spec hl];congr 1;simp only[KC];congr 1;refine (qk (g:=id) λx hx=>?_).trans (rZ _);refine (qk (g:=id) λc hc=>?_).trans (rZ _);exact TL (hp x hx c hc)
 | _,_,.raw hc _ hl=>by simp only[qj,UN.spec hl,KC,rf,hc]
theorem MO {f:FuncId}{args:List AV}{d:Option Tmp}{K:St->Prop}(h:(∀row∈s.st,∀x∈row.xs,∀c∈x,c.kept=true)->callThen P k s f args d K):callThen P k s f args d K:=
 λF os a w vs hr hl=>h (P1 hr) F os a w vs hr hl
section
variable {ops : Array Oper} {Q : Exit -> St -> Prop} {ds : List (Option Tmp)} {r : List Oper} {n : Nat} {e : Nat -> AV} {st st' : List Row} {ty : TypeId} {ps : String} {ed : Array Edge} {d : Option Tmp} {v v' : AV} {gd : Option (Nat × Bool)}
variable {f : FuncId} {vf : Array Operand} {ts : Array TypeId} {args vV : List AV} {rowsP rows0 rows1 rows1' rows2 rows2' : List Row}
theorem fV (sel:List Nat)(hg:GO ds gd e)(hb:Cr P f=true)(hc:BS P f vV rows0 λr st=>r=v/\st=rows1++rows2)(ha:vf.toList.map (St.ev ⟨n,e,st⟩)++[]=args)(wc:sel.Nodup)(vS:sel.all (·<st.length)=true)
  (hp:CD st sel=rowsP) (hs:SR sel rowsP rows0) (hf:args.map (Jx sel)=vV) (hlen:rows1.length=sel.length) (h1:UN sel st.length rows1 rows1') (h2:UN sel st.length rows2 rows2') (hv:SU sel st.length v=v') (xK:Fc sel rows1' 0 st++rows2'=st')
  (hk:X3 rows0 rows1->AO P k ops Q (ds++[d]) r (St.put ⟨n,e,st'⟩ d v')):AO P k ops Q ds (⟨d,.call ⟨.value (.func f),vf,ts⟩,ty,ps,ed,gd⟩::r) ⟨n,e,st⟩:=by
 subst xK;subst ha;subst hv;subst hp;refine PX hg ?_;rw[Ps];refine⟨hb,MO λhle=>?_⟩;obtain⟨e1,e2⟩:=hs.spec (st0:=st) hle (λrow uj=>by
  obtain⟨i,_,hi⟩:=rQ.1 uj;exact pt hi)
 refine NO sel hc wc (λi hi=>by simpa using qC.1 vS i hi) e1 e2 hf hlen (λrow uj=>by
  rcases qb.1 uj with h|h
  ·exact h1.leaf row h
  ·exact h2.leaf row h) λhln=>?_
 simp only[h1.spec,h2.spec];exact hk hln
theorem DX (sel:List Nat)(hg:GO ds gd e)(hb:Cr P f=true)(hc:BS P f vV rows0 λr st=>r=v/\st=rows1++rows2)(ha:vf.toList.map (St.ev ⟨n,e,st⟩)++[]=args)(wc:sel.Nodup)(vS:sel.all (·<st.length)=true)
  (hp:CD st sel=rowsP) (hs:SR sel rowsP rows0) (hf:args.map (Jx sel)=vV) (hlen:rows1.length=sel.length) (h1:UN sel st.length rows1 rows1') (h2:UN sel st.length rows2 rows2') (hv:SU sel st.length v=v') (xK:Fc sel rows1' 0 st++rows2'=st')
  (hk:AO P k ops Q (ds++[d]) r (St.put ⟨n,e,st'⟩ d v')):AO P k ops Q ds (⟨d,.call ⟨.value (.func f),vf,ts⟩,ty,ps,ed,gd⟩::r) ⟨n,e,st⟩:=
 fV sel hg hb hc ha wc vS hp hs hf hlen h1 h2 hv xK λ_=>hk
end
theorem SJ {k n:Nat}{e:Nat->AV}{st st1 st':List Row}{L:List (Nat×AV)}(sel:List Nat)(hk:sel.take k=List.range k)(wc:sel.Nodup)(vS:sel.all (·<st.length)=true)(hp:CD st sel=st1)(hs:SR sel st1 st')(h:ME (λt=>Jx sel (e t)) L):
  Wk k ⟨n,e,st⟩ ⟨n,AL L,st'⟩:=λF os a w hr=>by
 have hle:=P1 hr;obtain⟨h1,h2⟩:=hs.spec (st0:=st) hle (λrow uj=>by
  rw[<- hp]at uj;obtain⟨i,_,hi⟩:=rQ.1 uj;exact pt hi)
 exact XW sel hk wc vS (by rw[hp];exact h1) h2 h F os a w hr
theorem Wk.nt {k n:Nat}{e:Nat->AV}{st st1 st':List Row}{L:List (Nat×AV)}(sel:List Nat)(hk:sel.take k=List.range k)(_:SR sel (st.take k) (st.take k))(wc:sel.Nodup)(vS:sel.all (·<st.length)=true)(hp:CD st sel=st1)(hs:SR sel st1 st')(h:ME (λt=>Jx sel (e t)) L):
  Wk k ⟨n,e,st⟩ ⟨n,AL L,st'⟩:=SJ sel hk wc vS hp hs h
theorem BS.wk {P:Program}{f:FuncId}{args:List AV}{rows st0 st1:List Row}{r0 r1:AV}(h:BS P f args rows λr st=>r=r0/\st=st0)(hw:Wk rows.length ⟨1,AL [(0,r0)],st0⟩ ⟨1,AL [(0,r1)],st1⟩):
  BS P f args rows λr st=>r=r1/\st=st1:=by
 intro F os w vs hs hl;refine (h F os w vs hs hl).mono ?_;rintro e w' ⟨v,r,st',F',os',rfl,⟨rfl,rfl⟩,h1,h2,h3⟩;have vb:Rel F' os' ⟨1,AL [(0,r)],st'⟩ { tmps:=#[v],defers:=[] } w':=by
  refine⟨h1.st,λt=>?_,rfl,h1.rows,h1.inj,h1.HO,rfl⟩;simp only[AL];split
  ·rename_i ht;subst ht;exact h2
  ·simp[Ac]
 obtain⟨F2,os2,h4,h5⟩:=hw F' os' _ w' vb;refine⟨v,r1,st1,F2,os2,rfl,⟨rfl,rfl⟩,⟨h4.st,h4.rows,h4.inj,h4.HO⟩,?_,h3.trans h5⟩;have:=h4.env 0;simpa [AL] using this
theorem le.Gs {α:Type}{id g m:Nat}{l:List α}{enc:α->List AV}(h:m=l.length):le (Abs.Gs id g (l.map enc) (.own id g m)) (.sl (l.map enc)):=le.of (df h)
theorem Rel.bare {F:Nat->Prop}{os:List Own}{s:St}{a:Act}{w:World}(hr:Rel F os s a w):Rel F [] ⟨s.n,λ_=>.FZ,[]⟩ a w:=
 ⟨rfl,λ_=>by simp[Ac],hr.size,by simp,by simp,hr.HO,hr.defers⟩
theorem Mu {P:Program}{F:Nat->Prop}{os:List Own}{s:St}{a:Act}{w:World}{k:Nat}{zO:Sem Value}{v0 v:AV}{st0:List Row}(hr:Rel F os s a w)
  (he:Iu P 0 F [] ⟨s.n,λ_=>.FZ,[]⟩ a w zO λx st=>x=v0/\st=st0) (hw:Wk 0 ⟨1,AL [(0,v0)],st0⟩ ⟨1,AL [(0,v)],[]⟩) (hv:flat v=true) :
  ∃u w' F',zO.run P w=.ok u w'/\Rel F' os s a w'/\Ac F' w' os v u/\Ext F os w F' os w' k:=by
 obtain⟨x,st',u,w',vo,⟨rfl,rfl⟩,h2,h3,h4,h5⟩:=he;have vb:Rel F vo ⟨1,AL [(0,x)],st'⟩ { tmps:=#[u],defers:=[] } w':=by
  refine⟨h3.st,λt=>?_,rfl,h3.rows,h3.inj,h3.HO,rfl⟩;simp only[AL];split
  ·rename_i ht;subst ht;exact h4
  ·simp[Ac]
 obtain⟨F2,os2,h6,h7⟩:=hw F vo _ w' vb;have hos2:os2=[]:=by have:=h6.st;simpa using this
 subst hos2;obtain⟨g1,g2,_⟩:=hr.after (k:=k) (h5.trans h7) h6.HO;exact⟨u,w',F2,h2,g1,J1 hv os (by have:=h6.env 0;simpa [AL] using this),g2⟩
section
variable {P : Program} {ds : List (Option Tmp)} {r : List Oper} {n : Nat} {e : Nat -> AV} {st : List Row} {ty : TypeId} {ps : String} {ed : Array Edge} {t : Tmp} {gd : Option (Nat × Bool)} {KS : St -> Prop}
variable {α : Type} {l : List α} {enc : α -> List AV} {el T : TypeId} {size bytes : Nat} {zz cs : List AV}
theorem Tu (hp:D0 (l.map enc)):Wk 0 ⟨1,AL [(0,.own 0 0 l.length)],[⟨0,el,size,l.map enc⟩]⟩ ⟨1,AL [(0,.sl (l.map enc))],[]⟩:=
 (Wk.Bg (n:=1) (e:=AL [(0,.own 0 0 l.length)]) (st:=[⟨0,el,size,l.map enc⟩]) (L:=[(0,.sl (l.map enc))]) (st':=[⟨1,el,size,[]⟩]) (id:=0) rfl (qd _) hp ⟨.Bg rfl,pw⟩ rfl).trans
  (Fy (L:=[(0,.sl (l.map enc))]) (st':=[]) [] rfl (by decide) rfl rfl pw ⟨.rfl,pw⟩)
theorem Gv {len:Nat}{parts:Array (Nat×Operand)}{pv:List (Nat×AV)}(hg:GO ds gd e)(he:DR P T=some ⟨el,size,bytes,zz⟩)(hle:len*size<=16777216)(hp:(parts.toList.map λp=>(p.1,St.ev ⟨n,e,st⟩ p.2))=pv)
  (hpf:(pv.all λp=>flat p.2)=true) (hc:NF (λi=>some (i*size,size)) ((List.replicate len zz).flatten) pv=some cs) (hck:chunk size len cs=l.map enc) (hln:len=l.length) (hpu:D0 (l.map enc))
  (hk:Dp P (ds++[some t]) r KS ⟨n,Dr e t (.sl (l.map enc)),st⟩):Dp P ds (⟨some t,.buildSlice T len parts,ty,ps,ed,gd⟩::r) KS ⟨n,e,st⟩:=by
 refine eW hg rfl (λs0 e1 e2 hd k F os a w hr next Q hn=>?_) hk;have hpv:(parts.toList.map λp=>(p.1,s0.ev p.2))=pv:=by
  rw[<- hp];refine qk λp zi=>?_;rw[e2 p.2 (by simp only[Op.operands,tG,qT];exact⟨p,by simpa using zi,rfl⟩)]
 have h9:Iu P 0 F [] ⟨s0.n,λ_=>.FZ,[]⟩ a w (Instr.buildSlice T len (parts.map λ(i,x)=>(i,a.eval x))) (λx st=>x=.own 0 0 l.length/\st=[⟨0,el,size,l.map enc⟩]):=by
  refine Np (parts:=pv) hr.bare (An _ he ⟨hle,An _ hc (by subst hln;rw[hck];exact⟨rfl,rfl⟩)⟩) (by rw[<- hpv];simp) λi p up hp hup=>?_;have yP:flat p.2=true:=qC.1 hpf p (pt hp);rw[<- hpv]at hp;simp only[qA,qB,tF]at hp hup;obtain⟨q,hq,rfl⟩:=hp;obtain⟨q',hq',rfl⟩:=hup;rw[hq]at hq';cases hq';exact J1 yP [] (hr.ev _)
 obtain⟨u,w',F',g1,g2,g3,g4⟩:=Mu (k:=k) hr h9 (Tu hpu) rfl;unfold Oper.wp;simp only[execOp,qs,g1,qp,rH,Oper.upon];exact hn _ _ (Od (st':=s0.st) hd rfl g2 g3 g4)
end
end Go.Abs
