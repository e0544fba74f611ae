import Derived.Test.YtfkncfjpobjbjaaAbsT
set_option linter.all false
namespace Go.Abs
open Go
variable {P : Program} {F : Nat -> Prop} {os : List Own} {s : St} {a : Act} {w : World} {k : Nat}
def pos (AP:List Nat)(N p:Nat):Nat:=match AP[p]? with|some j=>j|none=>p-AP.length+N
def GW (AP:List Nat)(N:Nat):AV->AV
 | .own id g n=>.own (pos AP N id) g n
 | .ptr id g i off=>.ptr (pos AP N id) g i off
 | .fn ..|.agg _|.BK _=>.Bk
 | v=>v
def Ew (AP:List Nat)(N:Nat)(x:AV):AV:=two (GW AP N) x
theorem PE {AP:List Nat}{N:Nat}{c:AV}{el s:Nat}{ys:List (List AV)}(h:Ew AP N c=.dv el s ys):c=.dv el s ys:=by
 refine LZ (X:=GW AP N) (λc h=>?_) h;cases c<;>simp only[GW]at h<;>first|exact h|cases h
def NF (AP:List Nat)(N:Nat):AV->AV
 | .fn f cs=>.fn f (cs.map (Ew AP N))
 | .agg cs=>.agg (cs.map (Ew AP N))
 | .BK cs=>.BK (cs.map (Ew AP N))
 | v=>Ew AP N v
def C1 (AP:List Nat)(N:Nat)(row:Row):Row:={ row with xs:=row.xs.map (·.map (Ew AP N)) }
def D0 (AP:List Nat)(rs:List Row):Nat->List Row->List Row
 | _,[]=>[]
 | i,row::st=>(match idx AP i with|some p=>(match rs[p]? with|some r=>r|none=>row)|none=>row)::D0 AP rs (i+1) st
theorem Hs {AP:List Nat}{rs:List Row}:∀(st:List Row) (i j:Nat),(D0 AP rs i st)[j]?=(st[j]?).map λrow=>match idx AP (i+j) with|some p=>(match rs[p]? with|some r=>r|none=>row)|none=>row
 | [],i,j=>by simp[D0]
 | row::st,i,0=>by simp[D0]
 | row::st,i,j+1=>by
  simp only[D0,SG];rw[Hs st (i+1) j,show i+1+j=i+(j+1) by omega]
theorem Gq {AP:List Nat}{id j:Nat}(h:idx AP id=some j):AP[j]?=some id:=by
 unfold idx at h;rw[Sl]at h;obtain⟨h1,h2,_⟩:=h;rw[Rp h1];simpa using h2
theorem LB {AP:List Nat}(VF:AP.Nodup){id j:Nat}(h:AP[j]?=some id):idx AP id=some j:=by
 unfold idx;obtain⟨h1,h2⟩:=Rm.1 h;rw[Sl];refine⟨h1,by simp[h2],λi hi=>?_⟩;have:=TM.1 VF i j (by omega) h1 hi;simp only[beq_iff_eq,ne_eq,Tr,beq_eq_false_iff_ne];rw[<- h2];exact this
theorem OH {AP:List Nat}{id:Nat}(h:idx AP id=none):id ∉ AP:=by
 unfold idx at h;rw[List.findIdx?_eq_none_iff]at h;intro hm;simpa using h id hm
def JW (rows0 rows1:List Row):Prop:=∀(j:Nat) r0 r1,rows0[j]?=some r0->rows1[j]?=some r1->r1.gen=r0.gen->r1.xs.length=r0.xs.length
theorem KE {f:FuncId}{args Uq:List AV}{d:Option Tmp}{K:St->Prop}{rows0 rows1 rows2:List Row}{v:AV}(AP:List Nat)(h:AY P f Uq rows0 λr st=>r=v/\st=rows1++rows2)
  (VF:AP.Nodup) (T9 :∀i∈AP,i<s.st.length) (hs:(BL s.st AP).map (At AP)=rows0) (cY:Ed rows0) (VZ:args.map (Ez AP)=Uq) (hlen:rows1.length=AP.length) (hL :∀row∈rows1++rows2,∀x∈row.xs,∀c∈x,c.kept=true->(Ew AP s.st.length c).kept=true)
  (hK:JW rows0 rows1->K ({ s with st:=D0 AP (rows1.map (C1 AP s.st.length)) 0 s.st++rows2.map (C1 AP s.st.length) }.put d (NF AP s.st.length v))):callThen P k s f args d K:=by
 intro F os a w vs hr hl;subst hs;have hN:s.st.length=os.length:=hr.len;have Vn:∀(j id:Nat),AP[j]?=some id->(AP.filterMap (os[·]?))[j]?=os[id]?:=by
  have :∀(l:List Nat),(∀i∈l,i<os.length)->∀(j id:Nat),l[j]?=some id->(l.filterMap (os[·]?))[j]?=os[id]?:=λl=>by
   induction l with
   | nil=>intro _ j id h;simp at h
   | cons i l ih=>
    intro hl j id h;have hi:=hl i (by simp);rw[Sz,Rp hi];cases j with
    | zero=>simp only[R2,Rn]at h;subst h;simp[Rp hi]
    | succ j=>simp only[SG]at h⊢;exact ih (λx hx=>hl x (by simp[hx])) j id h
  exact this AP (λi hi=>by rw[<- hN];exact T9 i hi)
 let so:Own->Own:=λo=>{ o with row:=At AP o.row }
 let Wn:=(AP.filterMap (os[·]?)).map so
 have ZF:(AP.filterMap (os[·]?)).length=AP.length:=by
  have :∀(l:List Nat),(∀i∈l,i<os.length)->(l.filterMap (os[·]?)).length=l.length:=λl=>by
   induction l with
   | nil=>simp
   | cons i l ih=>intro hl;rw[Sz,Rp (hl i (by simp))];simp[ih (λx hx=>hl x (by simp[hx]))]
  exact this AP (λi hi=>by rw[<- hN];exact T9 i hi)
 have T5:∀(j:Nat) (o:Own),Wn[j]?=some o->∃id o0,AP[j]?=some id/\os[id]?=some o0/\o=so o0:=λj o h=>by
  simp only[Wn,Ro,Rr]at h;obtain⟨o0,h0,rfl⟩:=h;have hj:j<AP.length:=by rw[<- ZF];exact (Rm.1 h0).1
  refine⟨AP[j],o0,Rp hj,?_,rfl⟩;rw[<- Vn j _ (Rp hj)];exact h0
 have XY:∀id j,idx AP id=some j->Wn[j]?=(os[id]?).map so:=λid j hj=>by
  simp only[Wn,Ro];rw[Vn j id (Gq hj)]
 have X9:∀x v,AF F w os x v->AF F w Wn (Cs AP x) v:=λx v h=>by
  cases x with
  | own id g n=>
   simp only[Cs];split
   ·rename_i j hj;simp only[AF]at h⊢;obtain⟨o,h1,h2,h3,h4⟩:=h;exact⟨so o,by rw[XY id j hj,h1];rfl,h2,h3,λhg=>by
     obtain⟨a1,a2⟩:=h4 hg;exact⟨by simpa [so,At] using a1,by simpa [so,At] using a2⟩⟩
   ·simp[AF]
  | ptr id g i off=>
   simp only[Cs];split
   ·rename_i j hj;simp only[AF]at h⊢;obtain⟨o,h1,h2,h3,h4⟩:=h;exact⟨so o,by rw[XY id j hj,h1];rfl,h2,h3,λhg=>by
     obtain⟨a1,a2,a3⟩:=h4 hg;exact⟨by simpa [so,At] using a1,a2,a3⟩⟩
   ·simp[AF]
  | fn f cs=>simp[Cs,AF]
  | agg cs=>simp[Cs,AF]
  | BK cs=>simp[Cs,AF]
  | _=>simp only[Cs,AF]at h⊢<;>exact h
 have Vo:∀x v,AF F w os x v->AF F w Wn (Dl AP x) v:=FI X9;have Vp:∀cs us,Ad F w os cs us->Ad F w Wn (cs.map (Dl AP)) us:=λcs us h=>
  BQ (by simp[Aa h]) λi x u hx hu=>by
   simp only[Ro,Rr]at hx;obtain⟨y,hy,rfl⟩:=hx;obtain⟨u',VC,VL⟩:=Aj h i y hy;rw[VC]at hu;cases hu;exact Vo _ _ VL
 have Zg:∀x v,AF F w os x v->AF F w Wn (Ez AP x) v:=λx v h=>by
  cases x with
  | fn f cs=>simp only[Ez,AF]at h⊢;obtain⟨us,e,hl⟩:=h;exact⟨us,e,Vp _ _ hl⟩
  | agg cs=>simp only[Ez,AF]at h⊢;obtain⟨us,e,hl⟩:=h;exact⟨us,e,Vp _ _ hl⟩
  | BK cs=>simp only[Ez,AF]at h⊢;obtain⟨us,e,hl⟩:=h;exact⟨us,e,Vp _ _ hl⟩
  | _=>exact Vo _ _ h
 have Wz:Wn.map Own.row=(BL s.st AP).map (At AP):=by
  have h0:os.map Own.row=s.st:=hr.st;simp only[Wn,Sq,BL];rw[<- h0];have cu:Own.row∘so=At AP∘Own.row:=rfl;rw[cu,<- Sq,Th];congr 1;simp[Function.comp_def]
 have gp:B9 F Wn ((BL s.st AP).map (At AP)) w:=by
  refine⟨Wz,λj o ho=>?_,λi j oi oj b hi hj V2 V3=>?_,hr.CL⟩
  ·obtain⟨id,o0,WE,ho0,rfl⟩:=T5 j o ho;have T2:=hr.rows id o0 ho0;have hm:At AP o0.row∈(BL s.st AP).map (At AP):=by
    rw[<- Wz];exact R7.2 ⟨so o0,Rk ho,rfl⟩
   refine⟨T2.pos,λx hx=>⟨?_,cY _ hm x hx⟩,λhb=>?_,λb hb=>?_,T2.mo,T2.deep.mapped (Dl AP) (λ_ _ _ _ h=>L5 h) rfl rfl rfl rfl⟩
   ·simp only[so,At,R7]at hx;obtain⟨y,hy,rfl⟩:=hx;simpa [so,At] using (T2.lens y hy).1
   ·obtain⟨h1,h2⟩:=T2.none hb;exact⟨by simpa [so,At] using FG (Dl AP) (λ_ _=>rfl) h1,h2⟩
   ·obtain⟨h1,cur,h2,h3,h4,h5,h6⟩:=T2.some b hb;refine⟨h1,cur,h2,h3,by simpa [so,At] using h4,h5,λi x hx j' c hc=>?_⟩;simp only[so,At,Ro,Rr]at hx;obtain⟨y,hy,rfl⟩:=hx;simp only[Ro,Rr]at hc;obtain⟨c0,U3,rfl⟩:=hc;obtain⟨u,e1,e2⟩:=h6 i y hy j' c0 U3;exact⟨u,e1,Vo _ _ e2⟩
  ·obtain⟨id,o0,WE,ho0,rfl⟩:=T5 i oi hi;obtain⟨Uv,o0',hid',ho0',rfl⟩:=T5 j oj hj;have he:=hr.inj id Uv o0 o0' b ho0 ho0' V2 V3;subst he;have h1:=LB VF WE;rw[LB VF hid']at h1;exact (Tz h1).symm
 have gr:Ad F w Wn Uq vs:=by
  subst VZ;exact BQ (by simp[Aa hl]) λi x u hx hu=>by
   simp only[Ro,Rr]at hx;obtain⟨y,hy,rfl⟩:=hx;obtain⟨u',VC,VL⟩:=Aj hl i y hy;rw[VC]at hu;cases hu;exact Zg _ _ VL
 refine (h F Wn w vs gp gr).mono ?_;rintro e w' ⟨u,r,st',F',os',rfl,⟨rfl,rfl⟩,Vx,hru,he⟩;have Xz:os'.length=AP.length+rows2.length:=by
  have:=congrArg List.length Vx.st;rw[SB,SP]at this;omega
 have cZ:((BL s.st AP).map (At AP)).length=AP.length:=by
  rw[<- Wz];simp[Wn,ZF]
 let N:=s.st.length
 let un:Own->Own:=λo=>{ o with row:=C1 AP N o.row }
 let f2:Nat->Own->Own:=λi o=>match idx AP i with|some p=>(match os'[p]? with|some o'=>un o'|none=>o)|none=>o
 let os2:=os.mapIdx f2++(os'.drop AP.length).map un
 have fQ:(os.mapIdx f2).length=N:=by simp[N,hN]
 have fR:∀i,i<N->os2[i]?=(os[i]?).map (f2 i):=λi hi=>by
  simp only[os2];rw[Rt (by omega),List.getElem?_mapIdx]
 have bm:∀p o',os'[p]?=some o'->os2[pos AP N p]?=some (un o'):=λp o' UU=>by
  unfold pos;split
  ·rename_i j hj;have gu:j<N:=T9 j (Rk hj);rw[fR j gu,Rp (by omega)];simp only[SC,f2,LB VF hj,UU]
  ·rename_i hn;have hp:AP.length<=p:=List.getElem?_eq_none_iff.1 hn;simp only[os2];rw[Rv (by omega),fQ,Ro,SS,show AP.length+(p-AP.length+N-N)=p by omega,UU];rfl
 have fS:∀i,i<N->idx AP i=none->os2[i]?=os[i]?:=λi hi hx=>by
  rw[fR i hi];have:f2 i=id:=by funext o;simp[f2,hx]
  rw[this,Option.map_id];rfl
 have XJ:∀i o,os2[i]?=some o->(∃p o',os'[p]?=some o'/\o=un o'/\i=pos AP N p)∨(i<N/\idx AP i=none/\os[i]?=some o):=λi o ho=>by
  rcases TD i N with hi|hi
  ·rcases hx:idx AP i with _|p
   ·exact .inr ⟨hi,rfl,by rw[<- fS i hi hx];exact ho⟩
   ·have hp:=Gq hx;have aw:p<os'.length:=by have:=(Rm.1 hp).1;omega
    have h1:=bm p _ (Rp aw);have h2:pos AP N p=i:=by unfold pos;rw[hp]
    rw[h2,ho]at h1;exact .inl ⟨p,_,Rp aw,Tz h1,h2.symm⟩
  ·have W0:=ho;simp only[os2]at W0;rw[Rv (by omega),fQ,Ro,Rr]at W0;obtain⟨o',h1,h2⟩:=W0;rw[SS]at h1;refine .inl ⟨_,o',h1,h2.symm,?_⟩;unfold pos;rw[List.getElem?_eq_none_iff.2 (by omega)];simp only;omega
 have ZH:Bt os os2:=λi o ho=>by
  have cV:i<N:=by have:=(Rm.1 ho).1;omega
  rcases hx:idx AP i with _|p
  ·exact⟨o,by rw[fS i cV hx];exact ho,Rz _,rfl,λ_=>⟨rfl,rfl,rfl⟩⟩
  ·have hp:=Gq hx;have h1:Wn[p]?=some (so o):=by rw[XY i p hx,ho];rfl
   obtain⟨o',UU,e1,e2,e3⟩:=he.Np p (so o) (by rw[cZ];exact (Rm.1 hp).1) h1;refine⟨un o',?_,e1,e2,λhg=>?_⟩
   ·have:=bm p o' UU;unfold pos at this;rw[hp]at this;exact this
   ·obtain⟨g1,g2,g3⟩:=e3 hg;exact⟨g1,g2,by simpa [so,un,At,C1] using g3⟩
 have T4:∀x v,AF F w os x v->AF F' w' os2 x v:=λx v h=>A5 he.FP he.C8 os _ ZH x v h;have cv:∀x v,AF F' w' os' x v->AF F' w' os2 (GW AP N x) v:=λx v h=>by
  cases x with
  | own id g n=>
   simp only[GW,AF]at h⊢;obtain⟨o,h1,h2,h3,h4⟩:=h;exact⟨un o,bm _ _ h1,h2,h3,λhg=>by
    obtain⟨a1,a2⟩:=h4 hg;exact⟨by simpa [un,C1] using a1,by simpa [un,C1] using a2⟩⟩
  | ptr id g i off=>
   simp only[GW,AF]at h⊢;obtain⟨o,h1,h2,h3,h4⟩:=h;exact⟨un o,bm _ _ h1,h2,h3,λhg=>by
    obtain⟨a1,a2,a3⟩:=h4 hg;exact⟨by simpa [un,C1] using a1,a2,a3⟩⟩
  | fn f cs=>simp[GW,AF]
  | agg cs=>simp[GW,AF]
  | BK cs=>simp[GW,AF]
  | _=>simp only[GW,AF]at h⊢<;>exact h
 have Zh:∀x v,AF F' w' os' x v->AF F' w' os2 (Ew AP N x) v:=FI cv;have Zi:∀cs us,Ad F' w' os' cs us->Ad F' w' os2 (cs.map (Ew AP N)) us:=λcs us h=>
  BQ (by simp[Aa h]) λi x u hx hu=>by
   simp only[Ro,Rr]at hx;obtain⟨y,hy,rfl⟩:=hx;obtain⟨u',VC,VL⟩:=Aj h i y hy;rw[VC]at hu;cases hu;exact Zh _ _ VL
 have cw:∀x v,AF F' w' os' x v->AF F' w' os2 (NF AP N x) v:=λx v h=>by
  cases x with
  | fn f cs=>simp only[NF,AF]at h⊢;obtain⟨us,e,hl⟩:=h;exact⟨us,e,Zi _ _ hl⟩
  | agg cs=>simp only[NF,AF]at h⊢;obtain⟨us,e,hl⟩:=h;exact⟨us,e,Zi _ _ hl⟩
  | BK cs=>simp only[NF,AF]at h⊢;obtain⟨us,e,hl⟩:=h;exact⟨us,e,Zi _ _ hl⟩
  | _=>exact Zh _ _ h
 have hB:∀(i:Nat) (o:Own),idx AP i=none->os[i]?=some o->∀b,o.owns b->w'.heap[b]?=w.heap[b]?/\¬ F' b/\∀o1:Own,o1∈os'->¬ o1.owns b:=λi o hx ho b hb=>by
  refine he.other b ((hr.rows _ o ho).lt hb) ((hr.rows _ o ho).nF hb) λoA cx e=>?_;obtain⟨j,hj⟩:=R0.1 cx;obtain⟨id,o0,WE,ho0,rfl⟩:=T5 j oA hj;have:=hr.inj id i o0 o b ho0 ho e hb;subst this;exact OH hx (Rk WE)
 have Us:os2.map Own.row=D0 AP (rows1.map (C1 AP N)) 0 s.st++rows2.map (C1 AP N):=by
  simp only[os2,Se];have T8:os'.map Own.row=rows1++rows2:=Vx.st;congr 1
  ·apply TV;intro i;rw[Ro,List.getElem?_mapIdx,Hs,TK];have h0:os.map Own.row=s.st:=hr.st;rw[<- h0,Ro];cases bl:os[i]? with
   | none=>rfl
   | some o=>
    simp only[SC,f2];cases hx:idx AP i with
    | none=>rfl
    | some p=>
     have jV:p<AP.length:=(Rm.1 (Gq hx)).1;have Y3:p<os'.length:=by omega
     have h3:(os'.map Own.row)[p]?=rows1[p]?:=by rw[T8,Rt (by omega)]
     rw[Ro,Rp Y3]at h3;simp only[Ro,Rp Y3,<- h3,SC,un]
  ·rw[Sq];have cu:Own.row∘un=C1 AP N∘Own.row:=rfl;rw[cu,<- Sq,List.map_drop,T8];simp[<- hlen]
 have ax:JW ((BL s.st AP).map (At AP)) rows1:=λj r0 r1 h0 h1 hg=>by
  have hj:j<((BL s.st AP).map (At AP)).length:=(Rm.1 h0).1;rw[<- Wz,Ro,Rr]at h0;obtain⟨oA,cx,rfl⟩:=h0;obtain⟨o',UU,_,_,e3⟩:=he.Np j oA hj cx;have YB:os'.map Own.row=rows1++rows2:=Vx.st;have h2:(rows1++rows2)[j]?=some o'.row:=by rw[<- YB,Ro,UU];rfl
  rw[Rt (Rm.1 h1).1,h1]at h2;cases h2;exact (e3 hg).2.2
 refine⟨u,_,_,F',os2,rfl,hK ax,⟨Us,λt=>T4 _ _ (hr.env t),hr.size,λi o ho=>?_,λi j oi oj b hi hj V2 V3=>?_,Vx.CL,hr.defers⟩,cw _ _ hru,⟨he.sys,he.tape,he.output,he.size,he.FP,he.C8,λb hb h1 h2=>?_,λi o hi ho=>ZH i o ho⟩⟩
 ·rcases XJ i o ho with ⟨p,o',hp,rfl,rfl⟩|⟨h1,h2,W0⟩
  ·have T2:=Vx.rows p o' hp;refine⟨T2.pos,λx hx=>?_,λhb=>?_,λb hb=>?_,T2.mo,T2.deep.mapped (Ew AP N) (λ_ _ _ _ h=>PE h) rfl rfl rfl rfl⟩
   ·simp only[un,C1,R7]at hx;obtain⟨y,hy,rfl⟩:=hx;obtain⟨g1,g2⟩:=T2.lens y hy;refine⟨by simpa [un,C1] using g1,λc hc=>?_⟩;obtain⟨c0,U3,rfl⟩:=R7.1 hc;have WK:o'.row∈rows1++rows2:=by rw[<- Vx.st];exact R7.2 ⟨o',Rk hp,rfl⟩
    exact hL _ WK y hy c0 U3 (g2 c0 U3)
   ·obtain⟨h1,h2⟩:=T2.none hb;exact⟨by simpa [un,C1] using FG (Ew AP N) (λ_ _=>rfl) h1,h2⟩
   ·obtain⟨e1,cur,e2,e3,e4,e5,e6⟩:=T2.some b hb;refine⟨e1,cur,e2,e3,by simpa [un,C1] using e4,e5,λi' x hx q c hc=>?_⟩;simp only[un,C1,Ro,Rr]at hx;obtain⟨y,hy,rfl⟩:=hx;simp only[Ro,Rr]at hc;obtain⟨c0,U3,rfl⟩:=hc;obtain⟨u',f1,f2⟩:=e6 i' y hy q c0 U3;exact⟨u',f1,Zh _ _ f2⟩
  ·have T2:=hr.rows _ o W0;refine⟨T2.pos,T2.lens,T2.none,λb hb=>?_,λb hb=>⟨(hB _ o h2 W0 b (.inr hb)).2.1,Sd (T2.mo b hb).2.1 he.size,(T2.mo b hb).2.2⟩,
    T2.deep.keep rfl (λ_ h=>h) rfl (λb hb=>(hB _ o h2 W0 b hb).1) (λi x j e s ys hx hc=>⟨x,hx,hc⟩)⟩
   obtain⟨e1,cur,e2,e3,e4,e5,e6⟩:=T2.some b hb;obtain⟨g1,g2,_⟩:=hB _ o h2 W0 b (.inl hb);refine⟨g2,cur,by rw[g1];exact e2,e3,e4,e5,λi' x hx j c hc=>?_⟩;obtain⟨u',f1,f2⟩:=e6 i' x hx j c hc;exact⟨u',f1,T4 _ _ f2⟩
 ·rcases XJ i oi hi with ⟨p,o',hp,rfl,rfl⟩|⟨h1,h2,Yb⟩<;>rcases XJ j oj hj with ⟨p2,o2',hp2,rfl,rfl⟩|⟨h3,h4,Wx⟩
  ·have:=Vx.inj p p2 o' o2' b hp hp2 V2 V3;rw[this]
  ·exact absurd V2 ((hB _ oj h4 Wx b V3).2.2 o' (Rk hp))
  ·exact absurd V3 ((hB _ oi h2 Yb b V2).2.2 o2' (Rk hp2))
  ·exact hr.inj i j oi oj b Yb Wx V2 V3
 ·have h3:∀o∈Wn,¬ o.owns b:=λo ho=>by
   obtain⟨j,hj⟩:=R0.1 ho;obtain⟨id,o0,WE,ho0,rfl⟩:=T5 j o hj;exact h2 o0 (Rk ho0)
  obtain⟨g1,g2,g3⟩:=he.other b hb h1 h3;refine⟨g1,g2,λo ho=>?_⟩;obtain⟨i,hi⟩:=R0.1 ho;rcases XJ i o hi with ⟨p,o',hp,rfl,rfl⟩|⟨_,_,W0⟩
  ·exact g3 o' (Rk hp)
  ·exact h2 o (Rk W0)
inductive UN (AP:List Nat) (N:Nat):List Row->List Row->Prop
 | nil:UN AP N [] []
 | deep {g size:Nat} {el:TypeId} {xs:List (List AV)} {r r':List Row} (hp:Au xs) (hl:UN AP N r r'):UN AP N (⟨g,el,size,xs⟩::r) (⟨g,el,size,xs⟩::r')
 | raw {g size:Nat} {el:TypeId} {cs cs':List AV} {r r':List Row} (hc:cs.map (Ew AP N)=cs') (hp:cs'.all AV.leaf=true) (hl:UN AP N r r'):UN AP N (⟨g,el,size,[cs]⟩::r) (⟨g,el,size,[cs']⟩::r')
theorem G2 {AP:List Nat}{N:Nat}{c:AV}(h:BP c=true):Ew AP N c=c:=by cases c<;>simp[BP,simple,Ew,two,GW]at h⊢
theorem UN.leaf {AP:List Nat}{N:Nat}:∀{l l':List Row},UN AP N l l'->∀row∈l,∀x∈row.xs,∀c∈x,c.kept=true->(Ew AP N c).kept=true
 | _,_,.nil,_,h=>by cases h
 | _,_,.deep hp hl,row,hm=>by
  rcases SA.1 hm with rfl|hm
  ·intro x hx c hc h;rw[G2 (hp x hx c hc)];exact h
  ·exact UN.leaf hl row hm
 | _,_,.raw hc hp hl,row,hm=>by
  rcases SA.1 hm with rfl|hm
  ·intro x hx c ZG _;simp only[R8]at hx;subst hx;exact Bd (Ru.1 hp _ (by rw[<- hc];exact R7.2 ⟨c,ZG,rfl⟩))
  ·exact UN.leaf hl row hm
theorem UN.spec {AP:List Nat}{N:Nat}:∀{l l':List Row},UN AP N l l'->l.map (C1 AP N)=l'
 | _,_,.nil=>rfl
 | _,_,.deep hp hl=>by
  simp only[R9,UN.spec hl];congr 1;simp only[C1];congr 1;refine (R4 (g:=id) λx hx=>?_).trans (Sj _);refine (R4 (g:=id) λc hc=>?_).trans (Sj _);exact G2 (hp x hx c hc)
 | _,_,.raw hc _ hl=>by simp only[R9,UN.spec hl,C1,S7,hc]
theorem JM {f:FuncId}{args:List AV}{d:Option Tmp}{K:St->Prop}(h:(∀row∈s.st,∀x∈row.xs,∀c∈x,c.kept=true)->callThen P k s f args d K):callThen P k s f args d K:=
 λF os a w vs hr hl=>h (Kb hr) F os a w vs hr hl
section
variable {ops : Array Oper} {Q : Exit -> St -> Prop} {ds : List (Option Tmp)} {r : List Oper} {n : Nat} {e : Nat -> AV} {st st' : List Row} {ty : TypeId} {ps : String} {ed : Array Edge} {d : Option Tmp} {v v' : AV} {gd : Option (Nat × Bool)}
variable {f : FuncId} {VA : Array Operand} {ts : Array TypeId} {args Uq : List AV} {rowsP rows0 rows1 rows1' rows2 rows2' : List Row}
theorem Mr (AP:List Nat)(hg:GO ds gd e)(hb:AZ P f=true)(hc:AY P f Uq rows0 λr st=>r=v/\st=rows1++rows2)(ha:VA.toList.map (St.ev ⟨n,e,st⟩)++[]=args)(VF:AP.Nodup)(T9:AP.all (·<st.length)=true)
  (hp:BL st AP=rowsP) (hs:SR AP rowsP rows0) (hf:args.map (Ez AP)=Uq) (hlen:rows1.length=AP.length) (h1:UN AP st.length rows1 rows1') (h2:UN AP st.length rows2 rows2') (hv:NF AP st.length v=v') (YB:D0 AP rows1' 0 st++rows2'=st')
  (hk:JW rows0 rows1->AO P k ops Q (ds++[d]) r (St.put ⟨n,e,st'⟩ d v')):AO P k ops Q ds (⟨d,.call ⟨.value (.func f),VA,ts⟩,ty,ps,ed,gd⟩::r) ⟨n,e,st⟩:=by
 subst YB;subst ha;subst hv;subst hp;refine Ek hg ?_;rw[EB];refine⟨hb,JM λhle=>?_⟩;obtain⟨e1,e2⟩:=hs.spec (st0:=st) hle (λrow T0=>by
  obtain⟨i,_,hi⟩:=So.1 T0;exact Rk hi)
 refine KE AP hc VF (λi hi=>by simpa using Ru.1 T9 i hi) e1 e2 hf hlen (λrow T0=>by
  rcases SI.1 T0 with h|h
  ·exact h1.leaf row h
  ·exact h2.leaf row h) λav=>?_
 simp only[h1.spec,h2.spec];exact hk av
theorem OK (AP:List Nat)(hg:GO ds gd e)(hb:AZ P f=true)(hc:AY P f Uq rows0 λr st=>r=v/\st=rows1++rows2)(ha:VA.toList.map (St.ev ⟨n,e,st⟩)++[]=args)(VF:AP.Nodup)(T9:AP.all (·<st.length)=true)
  (hp:BL st AP=rowsP) (hs:SR AP rowsP rows0) (hf:args.map (Ez AP)=Uq) (hlen:rows1.length=AP.length) (h1:UN AP st.length rows1 rows1') (h2:UN AP st.length rows2 rows2') (hv:NF AP st.length v=v') (YB:D0 AP rows1' 0 st++rows2'=st')
  (hk:AO P k ops Q (ds++[d]) r (St.put ⟨n,e,st'⟩ d v')):AO P k ops Q ds (⟨d,.call ⟨.value (.func f),VA,ts⟩,ty,ps,ed,gd⟩::r) ⟨n,e,st⟩:=
 Mr AP hg hb hc ha VF T9 hp hs hf hlen h1 h2 hv YB λ_=>hk
end
theorem Wk.Qg {k n:Nat}{e:Nat->AV}{st st1 st':List Row}{L:List (Nat×AV)}(AP:List Nat)(hk:AP.take k=List.range k)(VF:AP.Nodup)(T9:AP.all (·<st.length)=true)(hp:BL st AP=st1)(hs:SR AP st1 st')(h:ME (λt=>Ez AP (e t)) L):
  Wk k ⟨n,e,st⟩ ⟨n,AX L,st'⟩:=λF os a w hr=>by
 have hle:=Kb hr;obtain⟨h1,h2⟩:=hs.spec (st0:=st) hle (λrow T0=>by
  rw[<- hp]at T0;obtain⟨i,_,hi⟩:=So.1 T0;exact Rk hi)
 exact Wk.Q5 AP hk VF T9 (by rw[hp];exact h1) h2 h F os a w hr
theorem Ab {k n:Nat}{e:Nat->AV}{st st1 st':List Row}{L:List (Nat×AV)}(AP:List Nat)(hk:AP.take k=List.range k)(_:SR AP (st.take k) (st.take k))(VF:AP.Nodup)(T9:AP.all (·<st.length)=true)(hp:BL st AP=st1)(hs:SR AP st1 st')(h:ME (λt=>Ez AP (e t)) L):
  Wk k ⟨n,e,st⟩ ⟨n,AX L,st'⟩:=Wk.Qg AP hk VF T9 hp hs h
theorem AY.wk {P:Program}{f:FuncId}{args:List AV}{rows st0 st1:List Row}{r0 r1:AV}(h:AY P f args rows λr st=>r=r0/\st=st0)(hw:Wk rows.length ⟨1,AX [(0,r0)],st0⟩ ⟨1,AX [(0,r1)],st1⟩):
  AY P f args rows λr st=>r=r1/\st=st1:=by
 intro F os w vs hs hl;refine (h F os w vs hs hl).mono ?_;rintro e w' ⟨v,r,st',F',os',rfl,⟨rfl,rfl⟩,h1,h2,h3⟩;have Ug:Rel F' os' ⟨1,AX [(0,r)],st'⟩ { tmps:=#[v],defers:=[] } w':=by
  refine⟨h1.st,λt=>?_,rfl,h1.rows,h1.inj,h1.CL,rfl⟩;simp only[AX];split
  ·rename_i ht;subst ht;exact h2
  ·simp[AF]
 obtain⟨F2,os2,h4,h5⟩:=hw F' os' _ w' Ug;refine⟨v,r1,st1,F2,os2,rfl,⟨rfl,rfl⟩,⟨h4.st,h4.rows,h4.inj,h4.CL⟩,?_,h3.trans h5⟩;have:=h4.env 0;simpa [AX] using this
theorem le.Dm {α:Type}{id g m:Nat}{l:List α}{enc:α->List AV}(h:m=l.length):le (Abs.Dm id g (l.map enc) (.own id g m)) (.sl (l.map enc)):=JY (Mq h)
theorem Rel.bare {F:Nat->Prop}{os:List Own}{s:St}{a:Act}{w:World}(hr:Rel F os s a w):Rel F [] ⟨s.n,λ_=>.Bk,[]⟩ a w:=
 ⟨rfl,λ_=>by simp[AF],hr.size,by simp,by simp,hr.CL,hr.defers⟩
theorem CU.quiet {P:Program}{F:Nat->Prop}{os:List Own}{s:St}{a:Act}{w:World}{k:Nat}{WS:Sem Value}{v0 v:AV}{st0:List Row}(hr:Rel F os s a w)
  (he:CU P 0 F [] ⟨s.n,λ_=>.Bk,[]⟩ a w WS λx st=>x=v0/\st=st0) (hw:Wk 0 ⟨1,AX [(0,v0)],st0⟩ ⟨1,AX [(0,v)],[]⟩) (hv:flat v=true) :
  ∃u w' F',WS.run P w=.ok u w'/\Rel F' os s a w'/\AF F' w' os v u/\Ext F os w F' os w' k:=by
 obtain⟨x,st',u,w',UQ,⟨rfl,rfl⟩,h2,h3,h4,h5⟩:=he;have Ug:Rel F UQ ⟨1,AX [(0,x)],st'⟩ { tmps:=#[u],defers:=[] } w':=by
  refine⟨h3.st,λt=>?_,rfl,h3.rows,h3.inj,h3.CL,rfl⟩;simp only[AX];split
  ·rename_i ht;subst ht;exact h4
  ·simp[AF]
 obtain⟨F2,os2,h6,h7⟩:=hw F UQ _ w' Ug;have Zd:os2=[]:=by have:=h6.st;simpa using this
 subst Zd;obtain⟨g1,g2,_⟩:=hr.after (k:=k) (h5.trans h7) h6.CL;exact⟨u,w',F2,h2,g1,FK hv os (by have:=h6.env 0;simpa [AX] using this),g2⟩
section
variable {P : Program} {ds : List (Option Tmp)} {r : List Oper} {n : Nat} {e : Nat -> AV} {st : List Row} {ty : TypeId} {ps : String} {ed : Array Edge} {t : Tmp} {gd : Option (Nat × Bool)} {KS : St -> Prop}
variable {α : Type} {l : List α} {enc : α -> List AV} {el T : TypeId} {size bytes : Nat} {zz cs : List AV}
theorem Wk.Qq (hp:Cu (l.map enc)):Wk 0 ⟨1,AX [(0,.own 0 0 l.length)],[⟨0,el,size,l.map enc⟩]⟩ ⟨1,AX [(0,.sl (l.map enc))],[]⟩:=
 (Wk.Dw (n:=1) (e:=AX [(0,.own 0 0 l.length)]) (st:=[⟨0,el,size,l.map enc⟩]) (L:=[(0,.sl (l.map enc))]) (st':=[⟨1,el,size,[]⟩]) (id:=0) rfl (R5 _) hp ⟨.Dw rfl,Rq⟩ rfl).trans
  (Kf (L:=[(0,.sl (l.map enc))]) (st':=[]) [] rfl (by decide) rfl rfl Rq ⟨.rfl,Rq⟩)
theorem Qp {len:Nat}{parts:Array (Nat×Operand)}{pv:List (Nat×AV)}(hg:GO ds gd e)(he:CJ P T=some ⟨el,size,bytes,zz⟩)(hle:len*size<=16777216)(hp:(parts.toList.map λp=>(p.1,St.ev ⟨n,e,st⟩ p.2))=pv)
  (gv:(pv.all λp=>flat p.2)=true) (hc:Fv (λi=>some (i*size,size)) ((List.replicate len zz).flatten) pv=some cs) (X7:chunk size len cs=l.map enc) (av:len=l.length) (gx:Cu (l.map enc))
  (hk:Bh P (ds++[some t]) r KS ⟨n,CD e t (.sl (l.map enc)),st⟩):Bh P ds (⟨some t,.buildSlice T len parts,ty,ps,ed,gd⟩::r) KS ⟨n,e,st⟩:=by
 refine RI hg rfl (λs0 e1 e2 hd k F os a w hr next Q hn=>?_) hk;have aK:(parts.toList.map λp=>(p.1,s0.ev p.2))=pv:=by
  rw[<- hp];refine R4 λp Y3=>?_;rw[e2 p.2 (by simp only[Op.operands,Tu,R7];exact⟨p,by simpa using Y3,rfl⟩)]
 have h9:CU P 0 F [] ⟨s0.n,λ_=>.Bk,[]⟩ a w (Instr.buildSlice T len (parts.map λ(i,x)=>(i,a.eval x))) (λx st=>x=.own 0 0 l.length/\st=[⟨0,el,size,l.map enc⟩]):=by
  refine Fw (parts:=pv) hr.bare (AL _ he ⟨hle,AL _ hc (by subst av;rw[X7];exact⟨rfl,rfl⟩)⟩) (by rw[<- aK];simp) λi p up hp ZA=>?_;have Vz:flat p.2=true:=Ru.1 gv p (Rk hp);rw[<- aK]at hp;simp only[Ro,Rr,Tq]at hp ZA;obtain⟨q,hq,rfl⟩:=hp;obtain⟨q',WX,rfl⟩:=ZA;rw[hq]at WX;cases WX;exact FK Vz [] (hr.ev _)
 obtain⟨u,w',F',g1,g2,g3,g4⟩:=CU.quiet (k:=k) hr h9 (Wk.Qq gx) rfl;unfold Oper.wp;simp only[execOp,SQ,g1,SD,SU,Oper.upon];exact hn _ _ (Hj (st':=s0.st) hd rfl g2 g3 g4)
end
end Go.Abs
