import Derived.Test.YtfkncfjpobjbjaaAbsT
set_option linter.all false
namespace Go.Abs
open Go
variable {P : Program} {F : Nat -> Prop} {os : List Own} {s : St} {a : Act} {w : World} {k : Nat}
def pos (AP:List Nat)(N p:Nat):Nat:=match AP[p]? with|some j=>j|none=>p-AP.length+N
def GJ (AP:List Nat)(N:Nat):AV->AV
 | .own id g n=>.own (pos AP N id) g n
 | .ptr id g i off=>.ptr (pos AP N id) g i off
 | .fn ..|.agg _|.BB _=>.Bl
 | v=>v
def Ej (AP:List Nat)(N:Nat)(x:AV):AV:=two (GJ AP N) x
theorem On {AP:List Nat}{N:Nat}{c:AV}{el s:Nat}{ys:List (List AV)}(h:Ej AP N c=.dv el s ys):c=.dv el s ys:=by
 refine Lk (X:=GJ AP N) (λc h=>?_) h;cases c<;>simp only[GJ]at h<;>first|exact h|cases h
def Mq (AP:List Nat)(N:Nat):AV->AV
 | .fn f cs=>.fn f (cs.map (Ej AP N))
 | .agg cs=>.agg (cs.map (Ej AP N))
 | .BB cs=>.BB (cs.map (Ej AP N))
 | v=>Ej AP N v
def C7 (AP:List Nat)(N:Nat)(row:Row):Row:={ row with xs:=row.xs.map (·.map (Ej AP N)) }
def D3 (AP:List Nat)(rs:List Row):Nat->List Row->List Row
 | _,[]=>[]
 | i,row::st=>(match idx AP i with|some p=>(match rs[p]? with|some r=>r|none=>row)|none=>row)::D3 AP rs (i+1) st
theorem Ht {AP:List Nat}{rs:List Row}:∀(st:List Row) (i j:Nat),(D3 AP rs i st)[j]?=(st[j]?).map λrow=>match idx AP (i+j) with|some p=>(match rs[p]? with|some r=>r|none=>row)|none=>row
 | [],i,j=>by simp[D3]
 | row::st,i,0=>by simp[D3]
 | row::st,i,j+1=>by
  simp only[D3,SK];rw[Ht st (i+1) j,show i+1+j=i+(j+1) by omega]
theorem Gs {AP:List Nat}{id j:Nat}(h:idx AP id=some j):AP[j]?=some id:=by
 unfold idx at h;rw[Sp]at h;obtain⟨h1,h2,_⟩:=h;rw[Rt h1];simpa using h2
theorem Lo {AP:List Nat}(VM:AP.Nodup){id j:Nat}(h:AP[j]?=some id):idx AP id=some j:=by
 unfold idx;obtain⟨h1,h2⟩:=Rq.1 h;rw[Sp];refine⟨h1,by simp[h2],λi hi=>?_⟩;have:=TQ.1 VM i j (by omega) h1 hi;simp only[beq_iff_eq,ne_eq,Tv,beq_eq_false_iff_ne];rw[<- h2];exact this
theorem N4 {AP:List Nat}{id:Nat}(h:idx AP id=none):id ∉ AP:=by
 unfold idx at h;rw[List.findIdx?_eq_none_iff]at h;intro hm;simpa using h id hm
def JN (rows0 rows1:List Row):Prop:=∀(j:Nat) r0 r1,rows0[j]?=some r0->rows1[j]?=some r1->r1.gen=r0.gen->r1.xs.length=r0.xs.length
theorem J4 {f:FuncId}{args Uu:List AV}{d:Option Tmp}{K:St->Prop}{rows0 rows1 rows2:List Row}{v:AV}(AP:List Nat)(h:AY P f Uu rows0 λr st=>r=v/\st=rows1++rows2)
  (VM:AP.Nodup) (UM :∀i∈AP,i<s.st.length) (hs:(BM s.st AP).map (At AP)=rows0) (cg:Ee rows0) (Vg:args.map (E0 AP)=Uu) (hlen:rows1.length=AP.length) (hL :∀row∈rows1++rows2,∀x∈row.xs,∀c∈x,c.kept=true->(Ej AP s.st.length c).kept=true)
  (hK:JN rows0 rows1->K ({ s with st:=D3 AP (rows1.map (C7 AP s.st.length)) 0 s.st++rows2.map (C7 AP s.st.length) }.put d (Mq AP s.st.length v))):callThen P k s f args d K:=by
 intro F os a w vs hr hl;subst hs;have hN:s.st.length=os.length:=hr.len;have Vt:∀(j id:Nat),AP[j]?=some id->(AP.filterMap (os[·]?))[j]?=os[id]?:=by
  have :∀(l:List Nat),(∀i∈l,i<os.length)->∀(j id:Nat),l[j]?=some id->(l.filterMap (os[·]?))[j]?=os[id]?:=λl=>by
   induction l with
   | nil=>intro _ j id h;simp at h
   | cons i l ih=>
    intro hl j id h;have hi:=hl i (by simp);rw[S6,Rt hi];cases j with
    | zero=>simp only[R6,Rr]at h;subst h;simp[Rt hi]
    | succ j=>simp only[SK]at h⊢;exact ih (λx hx=>hl x (by simp[hx])) j id h
  exact this AP (λi hi=>by rw[<- hN];exact UM i hi)
 let so:Own->Own:=λo=>{ o with row:=At AP o.row }
 let Wx:=(AP.filterMap (os[·]?)).map so
 have ZI:(AP.filterMap (os[·]?)).length=AP.length:=by
  have :∀(l:List Nat),(∀i∈l,i<os.length)->(l.filterMap (os[·]?)).length=l.length:=λl=>by
   induction l with
   | nil=>simp
   | cons i l ih=>intro hl;rw[S6,Rt (hl i (by simp))];simp[ih (λx hx=>hl x (by simp[hx]))]
  exact this AP (λi hi=>by rw[<- hN];exact UM i hi)
 have T9:∀(j:Nat) (o:Own),Wx[j]?=some o->∃id o0,AP[j]?=some id/\os[id]?=some o0/\o=so o0:=λj o h=>by
  simp only[Wx,Rs,Rv]at h;obtain⟨o0,h0,rfl⟩:=h;have hj:j<AP.length:=by rw[<- ZI];exact (Rq.1 h0).1
  refine⟨AP[j],o0,Rt hj,?_,rfl⟩;rw[<- Vt j _ (Rt hj)];exact h0
 have Xf:∀id j,idx AP id=some j->Wx[j]?=(os[id]?).map so:=λid j hj=>by
  simp only[Wx,Rs];rw[Vt j id (Gs hj)]
 have YG:∀x v,AF F w os x v->AF F w Wx (C2 AP x) v:=λx v h=>by
  cases x with
  | own id g n=>
   simp only[C2];split
   ·rename_i j hj;simp only[AF]at h⊢;obtain⟨o,h1,h2,h3,h4⟩:=h;exact⟨so o,by rw[Xf id j hj,h1];rfl,h2,h3,λhg=>by
     obtain⟨a1,a2⟩:=h4 hg;exact⟨by simpa [so,At] using a1,by simpa [so,At] using a2⟩⟩
   ·simp[AF]
  | ptr id g i off=>
   simp only[C2];split
   ·rename_i j hj;simp only[AF]at h⊢;obtain⟨o,h1,h2,h3,h4⟩:=h;exact⟨so o,by rw[Xf id j hj,h1];rfl,h2,h3,λhg=>by
     obtain⟨a1,a2,a3⟩:=h4 hg;exact⟨by simpa [so,At] using a1,a2,a3⟩⟩
   ·simp[AF]
  | fn f cs=>simp[C2,AF]
  | agg cs=>simp[C2,AF]
  | BB cs=>simp[C2,AF]
  | _=>simp only[C2,AF]at h⊢<;>exact h
 have Vu:∀x v,AF F w os x v->AF F w Wx (Dm AP x) v:=FL YG;have Vv:∀cs us,Ad F w os cs us->Ad F w Wx (cs.map (Dm AP)) us:=λcs us h=>
  BP (by simp[Ab h]) λi x u hx hu=>by
   simp only[Rs,Rv]at hx;obtain⟨y,hy,rfl⟩:=hx;obtain⟨u',VJ,VS⟩:=Al h i y hy;rw[VJ]at hu;cases hu;exact Vu _ _ VS
 have Zj:∀x v,AF F w os x v->AF F w Wx (E0 AP x) v:=λx v h=>by
  cases x with
  | fn f cs=>simp only[E0,AF]at h⊢;obtain⟨us,e,hl⟩:=h;exact⟨us,e,Vv _ _ hl⟩
  | agg cs=>simp only[E0,AF]at h⊢;obtain⟨us,e,hl⟩:=h;exact⟨us,e,Vv _ _ hl⟩
  | BB cs=>simp only[E0,AF]at h⊢;obtain⟨us,e,hl⟩:=h;exact⟨us,e,Vv _ _ hl⟩
  | _=>exact Vu _ _ h
 have W9:Wx.map Own.row=(BM s.st AP).map (At AP):=by
  have h0:os.map Own.row=s.st:=hr.st;simp only[Wx,Sx,BM];rw[<- h0];have dB:Own.row∘so=At AP∘Own.row:=rfl;rw[dB,<- Sx,Tl];congr 1;simp[Function.comp_def]
 have hU:CA F Wx ((BM s.st AP).map (At AP)) w:=by
  refine⟨W9,λj o ho=>?_,λi j oi oj b hi hj V6 V7=>?_,hr.CL⟩
  ·obtain⟨id,o0,WJ,ho0,rfl⟩:=T9 j o ho;have T6:=hr.rows id o0 ho0;have hm:At AP o0.row∈(BM s.st AP).map (At AP):=by
    rw[<- W9];exact R9.2 ⟨so o0,Ro ho,rfl⟩
   refine⟨T6.pos,λx hx=>⟨?_,cg _ hm x hx⟩,λhb=>?_,λb hb=>?_,T6.mo,T6.deep.mapped (Dm AP) (λ_ _ _ _ h=>L1 h) rfl rfl rfl rfl⟩
   ·simp only[so,At,R9]at hx;obtain⟨y,hy,rfl⟩:=hx;simpa [so,At] using (T6.lens y hy).1
   ·obtain⟨h1,h2⟩:=T6.none hb;exact⟨by simpa [so,At] using FV (Dm AP) (λ_ _=>rfl) h1,h2⟩
   ·obtain⟨h1,cur,h2,h3,h4,h5,h6⟩:=T6.some b hb;refine⟨h1,cur,h2,h3,by simpa [so,At] using h4,h5,λi x hx j' c hc=>?_⟩;simp only[so,At,Rs,Rv]at hx;obtain⟨y,hy,rfl⟩:=hx;simp only[Rs,Rv]at hc;obtain⟨c0,VA,rfl⟩:=hc;obtain⟨u,e1,e2⟩:=h6 i y hy j' c0 VA;exact⟨u,e1,Vu _ _ e2⟩
  ·obtain⟨id,o0,WJ,ho0,rfl⟩:=T9 i oi hi;obtain⟨Uz,o0',hid',ho0',rfl⟩:=T9 j oj hj;have he:=hr.inj id Uz o0 o0' b ho0 ho0' V6 V7;subst he;have h1:=Lo VM WJ;rw[Lo VM hid']at h1;exact (T3 h1).symm
 have hX:Ad F w Wx Uu vs:=by
  subst Vg;exact BP (by simp[Ab hl]) λi x u hx hu=>by
   simp only[Rs,Rv]at hx;obtain⟨y,hy,rfl⟩:=hx;obtain⟨u',VJ,VS⟩:=Al hl i y hy;rw[VJ]at hu;cases hu;exact Zj _ _ VS
 refine (h F Wx w vs hU hX).mono ?_;rintro e w' ⟨u,r,st',F',os',rfl,⟨rfl,rfl⟩,V1,hru,he⟩;have X4:os'.length=AP.length+rows2.length:=by
  have:=congrArg List.length V1.st;rw[SF,SV]at this;omega
 have cj:((BM s.st AP).map (At AP)).length=AP.length:=by
  rw[<- W9];simp[Wx,ZI]
 let N:=s.st.length
 let un:Own->Own:=λo=>{ o with row:=C7 AP N o.row }
 let f2:Nat->Own->Own:=λi o=>match idx AP i with|some p=>(match os'[p]? with|some o'=>un o'|none=>o)|none=>o
 let os2:=os.mapIdx f2++(os'.drop AP.length).map un
 have fW:(os.mapIdx f2).length=N:=by simp[N,hN]
 have fX:∀i,i<N->os2[i]?=(os[i]?).map (f2 i):=λi hi=>by
  simp only[os2];rw[Rx (by omega),List.getElem?_mapIdx]
 have bu:∀p o',os'[p]?=some o'->os2[pos AP N p]?=some (un o'):=λp o' UZ=>by
  unfold pos;split
  ·rename_i j hj;have hY:j<N:=UM j (Ro hj);rw[fX j hY,Rt (by omega)];simp only[SG,f2,Lo VM hj,UZ]
  ·rename_i hn;have hp:AP.length<=p:=List.getElem?_eq_none_iff.1 hn;simp only[os2];rw[Rz (by omega),fW,Rs,SX,show AP.length+(p-AP.length+N-N)=p by omega,UZ];rfl
 have fY:∀i,i<N->idx AP i=none->os2[i]?=os[i]?:=λi hi hx=>by
  rw[fX i hi];have:f2 i=id:=by funext o;simp[f2,hx]
  rw[this,Option.map_id];rfl
 have XO:∀i o,os2[i]?=some o->(∃p o',os'[p]?=some o'/\o=un o'/\i=pos AP N p)∨(i<N/\idx AP i=none/\os[i]?=some o):=λi o ho=>by
  rcases TH i N with hi|hi
  ·rcases hx:idx AP i with _|p
   ·exact .inr ⟨hi,rfl,by rw[<- fY i hi hx];exact ho⟩
   ·have hp:=Gs hx;have bB:p<os'.length:=by have:=(Rq.1 hp).1;omega
    have h1:=bu p _ (Rt bB);have h2:pos AP N p=i:=by unfold pos;rw[hp]
    rw[h2,ho]at h1;exact .inl ⟨p,_,Rt bB,T3 h1,h2.symm⟩
  ·have XA:=ho;simp only[os2]at XA;rw[Rz (by omega),fW,Rs,Rv]at XA;obtain⟨o',h1,h2⟩:=XA;rw[SX]at h1;refine .inl ⟨_,o',h1,h2.symm,?_⟩;unfold pos;rw[List.getElem?_eq_none_iff.2 (by omega)];simp only;omega
 have ZK:Bz os os2:=λi o ho=>by
  have cc:i<N:=by have:=(Rq.1 ho).1;omega
  rcases hx:idx AP i with _|p
  ·exact⟨o,by rw[fY i cc hx];exact ho,R3 _,rfl,λ_=>⟨rfl,rfl,rfl⟩⟩
  ·have hp:=Gs hx;have h1:Wx[p]?=some (so o):=by rw[Xf i p hx,ho];rfl
   obtain⟨o',UZ,e1,e2,e3⟩:=he.Ny p (so o) (by rw[cj];exact (Rq.1 hp).1) h1;refine⟨un o',?_,e1,e2,λhg=>?_⟩
   ·have:=bu p o' UZ;unfold pos at this;rw[hp]at this;exact this
   ·obtain⟨g1,g2,g3⟩:=e3 hg;exact⟨g1,g2,by simpa [so,un,At,C7] using g3⟩
 have T8:∀x v,AF F w os x v->AF F' w' os2 x v:=λx v h=>A8 he.FT he.DC os _ ZK x v h;have dC:∀x v,AF F' w' os' x v->AF F' w' os2 (GJ AP N x) v:=λx v h=>by
  cases x with
  | own id g n=>
   simp only[GJ,AF]at h⊢;obtain⟨o,h1,h2,h3,h4⟩:=h;exact⟨un o,bu _ _ h1,h2,h3,λhg=>by
    obtain⟨a1,a2⟩:=h4 hg;exact⟨by simpa [un,C7] using a1,by simpa [un,C7] using a2⟩⟩
  | ptr id g i off=>
   simp only[GJ,AF]at h⊢;obtain⟨o,h1,h2,h3,h4⟩:=h;exact⟨un o,bu _ _ h1,h2,h3,λhg=>by
    obtain⟨a1,a2,a3⟩:=h4 hg;exact⟨by simpa [un,C7] using a1,a2,a3⟩⟩
  | fn f cs=>simp[GJ,AF]
  | agg cs=>simp[GJ,AF]
  | BB cs=>simp[GJ,AF]
  | _=>simp only[GJ,AF]at h⊢<;>exact h
 have Zk:∀x v,AF F' w' os' x v->AF F' w' os2 (Ej AP N x) v:=FL dC;have Zl:∀cs us,Ad F' w' os' cs us->Ad F' w' os2 (cs.map (Ej AP N)) us:=λcs us h=>
  BP (by simp[Ab h]) λi x u hx hu=>by
   simp only[Rs,Rv]at hx;obtain⟨y,hy,rfl⟩:=hx;obtain⟨u',VJ,VS⟩:=Al h i y hy;rw[VJ]at hu;cases hu;exact Zk _ _ VS
 have dD:∀x v,AF F' w' os' x v->AF F' w' os2 (Mq AP N x) v:=λx v h=>by
  cases x with
  | fn f cs=>simp only[Mq,AF]at h⊢;obtain⟨us,e,hl⟩:=h;exact⟨us,e,Zl _ _ hl⟩
  | agg cs=>simp only[Mq,AF]at h⊢;obtain⟨us,e,hl⟩:=h;exact⟨us,e,Zl _ _ hl⟩
  | BB cs=>simp only[Mq,AF]at h⊢;obtain⟨us,e,hl⟩:=h;exact⟨us,e,Zl _ _ hl⟩
  | _=>exact Zk _ _ h
 have hB:∀(i:Nat) (o:Own),idx AP i=none->os[i]?=some o->∀b,o.owns b->w'.heap[b]?=w.heap[b]?/\¬ F' b/\∀o1:Own,o1∈os'->¬ o1.owns b:=λi o hx ho b hb=>by
  refine he.other b ((hr.rows _ o ho).lt hb) ((hr.rows _ o ho).nF hb) λoA dE e=>?_;obtain⟨j,hj⟩:=R5.1 dE;obtain⟨id,o0,WJ,ho0,rfl⟩:=T9 j oA hj;have:=hr.inj id i o0 o b ho0 ho e hb;subst this;exact N4 hx (Ro WJ)
 have Ux:os2.map Own.row=D3 AP (rows1.map (C7 AP N)) 0 s.st++rows2.map (C7 AP N):=by
  simp only[os2,Sj];have UL:os'.map Own.row=rows1++rows2:=V1.st;congr 1
  ·apply TZ;intro i;rw[Rs,List.getElem?_mapIdx,Ht,TO];have h0:os.map Own.row=s.st:=hr.st;rw[<- h0,Rs];cases bt:os[i]? with
   | none=>rfl
   | some o=>
    simp only[SG,f2];cases hx:idx AP i with
    | none=>rfl
    | some p=>
     have jf:p<AP.length:=(Rq.1 (Gs hx)).1;have Y7:p<os'.length:=by omega
     have h3:(os'.map Own.row)[p]?=rows1[p]?:=by rw[UL,Rx (by omega)]
     rw[Rs,Rt Y7]at h3;simp only[Rs,Rt Y7,<- h3,SG,un]
  ·rw[Sx];have dB:Own.row∘un=C7 AP N∘Own.row:=rfl;rw[dB,<- Sx,List.map_drop,UL];simp[<- hlen]
 have bC:JN ((BM s.st AP).map (At AP)) rows1:=λj r0 r1 h0 h1 hg=>by
  have hj:j<((BM s.st AP).map (At AP)).length:=(Rq.1 h0).1;rw[<- W9,Rs,Rv]at h0;obtain⟨oA,dE,rfl⟩:=h0;obtain⟨o',UZ,_,_,e3⟩:=he.Ny j oA hj dE;have YH:os'.map Own.row=rows1++rows2:=V1.st;have h2:(rows1++rows2)[j]?=some o'.row:=by rw[<- YH,Rs,UZ];rfl
  rw[Rx (Rq.1 h1).1,h1]at h2;cases h2;exact (e3 hg).2.2
 refine⟨u,_,_,F',os2,rfl,hK bC,⟨Ux,λt=>T8 _ _ (hr.env t),hr.size,λi o ho=>?_,λi j oi oj b hi hj V6 V7=>?_,V1.CL,hr.defers⟩,dD _ _ hru,⟨he.sys,he.tape,he.output,he.size,he.FT,he.DC,λb hb h1 h2=>?_,λi o hi ho=>ZK i o ho⟩⟩
 ·rcases XO i o ho with ⟨p,o',hp,rfl,rfl⟩|⟨h1,h2,XA⟩
  ·have T6:=V1.rows p o' hp;refine⟨T6.pos,λx hx=>?_,λhb=>?_,λb hb=>?_,T6.mo,T6.deep.mapped (Ej AP N) (λ_ _ _ _ h=>On h) rfl rfl rfl rfl⟩
   ·simp only[un,C7,R9]at hx;obtain⟨y,hy,rfl⟩:=hx;obtain⟨g1,g2⟩:=T6.lens y hy;refine⟨by simpa [un,C7] using g1,λc hc=>?_⟩;obtain⟨c0,VA,rfl⟩:=R9.1 hc;have WO:o'.row∈rows1++rows2:=by rw[<- V1.st];exact R9.2 ⟨o',Ro hp,rfl⟩
    exact hL _ WO y hy c0 VA (g2 c0 VA)
   ·obtain⟨h1,h2⟩:=T6.none hb;exact⟨by simpa [un,C7] using FV (Ej AP N) (λ_ _=>rfl) h1,h2⟩
   ·obtain⟨e1,cur,e2,e3,e4,e5,e6⟩:=T6.some b hb;refine⟨e1,cur,e2,e3,by simpa [un,C7] using e4,e5,λi' x hx q c hc=>?_⟩;simp only[un,C7,Rs,Rv]at hx;obtain⟨y,hy,rfl⟩:=hx;simp only[Rs,Rv]at hc;obtain⟨c0,VA,rfl⟩:=hc;obtain⟨u',f1,f2⟩:=e6 i' y hy q c0 VA;exact⟨u',f1,Zk _ _ f2⟩
  ·have T6:=hr.rows _ o XA;refine⟨T6.pos,T6.lens,T6.none,λb hb=>?_,λb hb=>⟨(hB _ o h2 XA b (.inr hb)).2.1,Si (T6.mo b hb).2.1 he.size,(T6.mo b hb).2.2⟩,
    T6.deep.keep rfl (λ_ h=>h) rfl (λb hb=>(hB _ o h2 XA b hb).1) (λi x j e s ys hx hc=>⟨x,hx,hc⟩)⟩
   obtain⟨e1,cur,e2,e3,e4,e5,e6⟩:=T6.some b hb;obtain⟨g1,g2,_⟩:=hB _ o h2 XA b (.inl hb);refine⟨g2,cur,by rw[g1];exact e2,e3,e4,e5,λi' x hx j c hc=>?_⟩;obtain⟨u',f1,f2⟩:=e6 i' x hx j c hc;exact⟨u',f1,T8 _ _ f2⟩
 ·rcases XO i oi hi with ⟨p,o',hp,rfl,rfl⟩|⟨h1,h2,Yh⟩<;>rcases XO j oj hj with ⟨p2,o2',hp2,rfl,rfl⟩|⟨h3,h4,W7⟩
  ·have:=V1.inj p p2 o' o2' b hp hp2 V6 V7;rw[this]
  ·exact absurd V6 ((hB _ oj h4 W7 b V7).2.2 o' (Ro hp))
  ·exact absurd V7 ((hB _ oi h2 Yh b V6).2.2 o2' (Ro hp2))
  ·exact hr.inj i j oi oj b Yh W7 V6 V7
 ·have h3:∀o∈Wx,¬ o.owns b:=λo ho=>by
   obtain⟨j,hj⟩:=R5.1 ho;obtain⟨id,o0,WJ,ho0,rfl⟩:=T9 j o hj;exact h2 o0 (Ro ho0)
  obtain⟨g1,g2,g3⟩:=he.other b hb h1 h3;refine⟨g1,g2,λo ho=>?_⟩;obtain⟨i,hi⟩:=R5.1 ho;rcases XO i o hi with ⟨p,o',hp,rfl,rfl⟩|⟨_,_,XA⟩
  ·exact g3 o' (Ro hp)
  ·exact h2 o (Ro XA)
inductive UN (AP:List Nat) (N:Nat):List Row->List Row->Prop
 | nil:UN AP N [] []
 | deep {g size:Nat} {el:TypeId} {xs:List (List AV)} {r r':List Row} (hp:Au xs) (hl:UN AP N r r'):UN AP N (⟨g,el,size,xs⟩::r) (⟨g,el,size,xs⟩::r')
 | raw {g size:Nat} {el:TypeId} {cs cs':List AV} {r r':List Row} (hc:cs.map (Ej AP N)=cs') (hp:cs'.all AV.leaf=true) (hl:UN AP N r r'):UN AP N (⟨g,el,size,[cs]⟩::r) (⟨g,el,size,[cs']⟩::r')
theorem G8 {AP:List Nat}{N:Nat}{c:AV}(h:BQ c=true):Ej AP N c=c:=by cases c<;>simp[BQ,simple,Ej,two,GJ]at h⊢
theorem UN.leaf {AP:List Nat}{N:Nat}:∀{l l':List Row},UN AP N l l'->∀row∈l,∀x∈row.xs,∀c∈x,c.kept=true->(Ej AP N c).kept=true
 | _,_,.nil,_,h=>by cases h
 | _,_,.deep hp hl,row,hm=>by
  rcases SE.1 hm with rfl|hm
  ·intro x hx c hc h;rw[G8 (hp x hx c hc)];exact h
  ·exact UN.leaf hl row hm
 | _,_,.raw hc hp hl,row,hm=>by
  rcases SE.1 hm with rfl|hm
  ·intro x hx c ZJ _;simp only[SC]at hx;subst hx;exact Bd (Ry.1 hp _ (by rw[<- hc];exact R9.2 ⟨c,ZJ,rfl⟩))
  ·exact UN.leaf hl row hm
theorem UN.spec {AP:List Nat}{N:Nat}:∀{l l':List Row},UN AP N l l'->l.map (C7 AP N)=l'
 | _,_,.nil=>rfl
 | _,_,.deep hp hl=>by
  simp only[SD,UN.spec hl];congr 1;simp only[C7];congr 1;refine (R8 (g:=id) λx hx=>?_).trans (Sn _);refine (R8 (g:=id) λc hc=>?_).trans (Sn _);exact G8 (hp x hx c hc)
 | _,_,.raw hc _ hl=>by simp only[SD,UN.spec hl,C7,TB,hc]
theorem Jt {f:FuncId}{args:List AV}{d:Option Tmp}{K:St->Prop}(h:(∀row∈s.st,∀x∈row.xs,∀c∈x,c.kept=true)->callThen P k s f args d K):callThen P k s f args d K:=
 λF os a w vs hr hl=>h (Ka hr) F os a w vs hr hl
section
variable {ops : Array Oper} {Q : Exit -> St -> Prop} {ds : List (Option Tmp)} {r : List Oper} {n : Nat} {e : Nat -> AV} {st st' : List Row} {ty : TypeId} {ps : String} {ed : Array Edge} {d : Option Tmp} {v v' : AV} {gd : Option (Nat × Bool)}
variable {f : FuncId} {VG : Array Operand} {ts : Array TypeId} {args Uu : List AV} {rowsP rows0 rows1 rows1' rows2 rows2' : List Row}
theorem Mo (AP:List Nat)(hg:GO ds gd e)(hb:AZ P f=true)(hc:AY P f Uu rows0 λr st=>r=v/\st=rows1++rows2)(ha:VG.toList.map (St.ev ⟨n,e,st⟩)++[]=args)(VM:AP.Nodup)(UM:AP.all (·<st.length)=true)
  (hp:BM st AP=rowsP) (hs:SR AP rowsP rows0) (hf:args.map (E0 AP)=Uu) (hlen:rows1.length=AP.length) (h1:UN AP st.length rows1 rows1') (h2:UN AP st.length rows2 rows2') (hv:Mq AP st.length v=v') (YH:D3 AP rows1' 0 st++rows2'=st')
  (hk:JN rows0 rows1->AO P k ops Q (ds++[d]) r (St.put ⟨n,e,st'⟩ d v')):AO P k ops Q ds (⟨d,.call ⟨.value (.func f),VG,ts⟩,ty,ps,ed,gd⟩::r) ⟨n,e,st⟩:=by
 subst YH;subst ha;subst hv;subst hp;refine Ei hg ?_;rw[EE];refine⟨hb,Jt λhle=>?_⟩;obtain⟨e1,e2⟩:=hs.spec (st0:=st) hle (λrow T4=>by
  obtain⟨i,_,hi⟩:=Su.1 T4;exact Ro hi)
 refine J4 AP hc VM (λi hi=>by simpa using Ry.1 UM i hi) e1 e2 hf hlen (λrow T4=>by
  rcases SM.1 T4 with h|h
  ·exact h1.leaf row h
  ·exact h2.leaf row h) λbA=>?_
 simp only[h1.spec,h2.spec];exact hk bA
theorem OK (AP:List Nat)(hg:GO ds gd e)(hb:AZ P f=true)(hc:AY P f Uu rows0 λr st=>r=v/\st=rows1++rows2)(ha:VG.toList.map (St.ev ⟨n,e,st⟩)++[]=args)(VM:AP.Nodup)(UM:AP.all (·<st.length)=true)
  (hp:BM st AP=rowsP) (hs:SR AP rowsP rows0) (hf:args.map (E0 AP)=Uu) (hlen:rows1.length=AP.length) (h1:UN AP st.length rows1 rows1') (h2:UN AP st.length rows2 rows2') (hv:Mq AP st.length v=v') (YH:D3 AP rows1' 0 st++rows2'=st')
  (hk:AO P k ops Q (ds++[d]) r (St.put ⟨n,e,st'⟩ d v')):AO P k ops Q ds (⟨d,.call ⟨.value (.func f),VG,ts⟩,ty,ps,ed,gd⟩::r) ⟨n,e,st⟩:=
 Mo AP hg hb hc ha VM UM hp hs hf hlen h1 h2 hv YH λ_=>hk
end
theorem Wk.Qm {k n:Nat}{e:Nat->AV}{st st1 st':List Row}{L:List (Nat×AV)}(AP:List Nat)(hk:AP.take k=List.range k)(VM:AP.Nodup)(UM:AP.all (·<st.length)=true)(hp:BM st AP=st1)(hs:SR AP st1 st')(h:ME (λt=>E0 AP (e t)) L):
  Wk k ⟨n,e,st⟩ ⟨n,AX L,st'⟩:=λF os a w hr=>by
 have hle:=Ka hr;obtain⟨h1,h2⟩:=hs.spec (st0:=st) hle (λrow T4=>by
  rw[<- hp]at T4;obtain⟨i,_,hi⟩:=Su.1 T4;exact Ro hi)
 exact Wk.RO AP hk VM UM (by rw[hp];exact h1) h2 h F os a w hr
theorem Ac {k n:Nat}{e:Nat->AV}{st st1 st':List Row}{L:List (Nat×AV)}(AP:List Nat)(hk:AP.take k=List.range k)(_:SR AP (st.take k) (st.take k))(VM:AP.Nodup)(UM:AP.all (·<st.length)=true)(hp:BM st AP=st1)(hs:SR AP st1 st')(h:ME (λt=>E0 AP (e t)) L):
  Wk k ⟨n,e,st⟩ ⟨n,AX L,st'⟩:=Wk.Qm AP hk VM UM hp hs h
theorem AY.wk {P:Program}{f:FuncId}{args:List AV}{rows st0 st1:List Row}{r0 r1:AV}(h:AY P f args rows λr st=>r=r0/\st=st0)(hw:Wk rows.length ⟨1,AX [(0,r0)],st0⟩ ⟨1,AX [(0,r1)],st1⟩):
  AY P f args rows λr st=>r=r1/\st=st1:=by
 intro F os w vs hs hl;refine (h F os w vs hs hl).mono ?_;rintro e w' ⟨v,r,st',F',os',rfl,⟨rfl,rfl⟩,h1,h2,h3⟩;have Uk:Rel F' os' ⟨1,AX [(0,r)],st'⟩ { tmps:=#[v],defers:=[] } w':=by
  refine⟨h1.st,λt=>?_,rfl,h1.rows,h1.inj,h1.CL,rfl⟩;simp only[AX];split
  ·rename_i ht;subst ht;exact h2
  ·simp[AF]
 obtain⟨F2,os2,h4,h5⟩:=hw F' os' _ w' Uk;refine⟨v,r1,st1,F2,os2,rfl,⟨rfl,rfl⟩,⟨h4.st,h4.rows,h4.inj,h4.CL⟩,?_,h3.trans h5⟩;have:=h4.env 0;simpa [AX] using this
theorem le.Dk {α:Type}{id g m:Nat}{l:List α}{enc:α->List AV}(h:m=l.length):le (Abs.Dk id g (l.map enc) (.own id g m)) (.sl (l.map enc)):=Jj (NM h)
theorem Rel.bare {F:Nat->Prop}{os:List Own}{s:St}{a:Act}{w:World}(hr:Rel F os s a w):Rel F [] ⟨s.n,λ_=>.Bl,[]⟩ a w:=
 ⟨rfl,λ_=>by simp[AF],hr.size,by simp,by simp,hr.CL,hr.defers⟩
theorem CU.quiet {P:Program}{F:Nat->Prop}{os:List Own}{s:St}{a:Act}{w:World}{k:Nat}{Wc:Sem Value}{v0 v:AV}{st0:List Row}(hr:Rel F os s a w)
  (he:CU P 0 F [] ⟨s.n,λ_=>.Bl,[]⟩ a w Wc λx st=>x=v0/\st=st0) (hw:Wk 0 ⟨1,AX [(0,v0)],st0⟩ ⟨1,AX [(0,v)],[]⟩) (hv:flat v=true) :
  ∃u w' F',Wc.run P w=.ok u w'/\Rel F' os s a w'/\AF F' w' os v u/\Ext F os w F' os w' k:=by
 obtain⟨x,st',u,w',UU,⟨rfl,rfl⟩,h2,h3,h4,h5⟩:=he;have Uk:Rel F UU ⟨1,AX [(0,x)],st'⟩ { tmps:=#[u],defers:=[] } w':=by
  refine⟨h3.st,λt=>?_,rfl,h3.rows,h3.inj,h3.CL,rfl⟩;simp only[AX];split
  ·rename_i ht;subst ht;exact h4
  ·simp[AF]
 obtain⟨F2,os2,h6,h7⟩:=hw F UU _ w' Uk;have Zg:os2=[]:=by have:=h6.st;simpa using this
 subst Zg;obtain⟨g1,g2,_⟩:=hr.after (k:=k) (h5.trans h7) h6.CL;exact⟨u,w',F2,h2,g1,FZ hv os (by have:=h6.env 0;simpa [AX] using this),g2⟩
section
variable {P : Program} {ds : List (Option Tmp)} {r : List Oper} {n : Nat} {e : Nat -> AV} {st : List Row} {ty : TypeId} {ps : String} {ed : Array Edge} {t : Tmp} {gd : Option (Nat × Bool)} {KS : St -> Prop}
variable {α : Type} {l : List α} {enc : α -> List AV} {el T : TypeId} {size bytes : Nat} {zz cs : List AV}
theorem Wk.Rb (hp:C1 (l.map enc)):Wk 0 ⟨1,AX [(0,.own 0 0 l.length)],[⟨0,el,size,l.map enc⟩]⟩ ⟨1,AX [(0,.sl (l.map enc))],[]⟩:=
 (Wk.DT (n:=1) (e:=AX [(0,.own 0 0 l.length)]) (st:=[⟨0,el,size,l.map enc⟩]) (L:=[(0,.sl (l.map enc))]) (st':=[⟨1,el,size,[]⟩]) (id:=0) rfl (SA _) hp ⟨.DT rfl,Ru⟩ rfl).trans
  (KR (L:=[(0,.sl (l.map enc))]) (st':=[]) [] rfl (by decide) rfl rfl Ru ⟨.rfl,Ru⟩)
theorem RD {len:Nat}{parts:Array (Nat×Operand)}{pv:List (Nat×AV)}(hg:GO ds gd e)(he:CG P T=some ⟨el,size,bytes,zz⟩)(hle:len*size<=16777216)(hp:(parts.toList.map λp=>(p.1,St.ev ⟨n,e,st⟩ p.2))=pv)
  (hZ:(pv.all λp=>flat p.2)=true) (hc:Fu (λi=>some (i*size,size)) ((List.replicate len zz).flatten) pv=some cs) (YE:chunk size len cs=l.map enc) (bA:len=l.length) (iA:C1 (l.map enc))
  (hk:Bj P (ds++[some t]) r KS ⟨n,CE e t (.sl (l.map enc)),st⟩):Bj P ds (⟨some t,.buildSlice T len parts,ty,ps,ed,gd⟩::r) KS ⟨n,e,st⟩:=by
 refine RE hg rfl (λs0 e1 e2 hd k F os a w hr next Q hn=>?_) hk;have aS:(parts.toList.map λp=>(p.1,s0.ev p.2))=pv:=by
  rw[<- hp];refine R8 λp Y7=>?_;rw[e2 p.2 (by simp only[Op.operands,Ty,R9];exact⟨p,by simpa using Y7,rfl⟩)]
 have h9:CU P 0 F [] ⟨s0.n,λ_=>.Bl,[]⟩ a w (Instr.buildSlice T len (parts.map λ(i,x)=>(i,a.eval x))) (λx st=>x=.own 0 0 l.length/\st=[⟨0,el,size,l.map enc⟩]):=by
  refine F4 (parts:=pv) hr.bare (AL _ he ⟨hle,AL _ hc (by subst bA;rw[YE];exact⟨rfl,rfl⟩)⟩) (by rw[<- aS];simp) λi p up hp ZE=>?_;have V3:flat p.2=true:=Ry.1 hZ p (Ro hp);rw[<- aS]at hp;simp only[Rs,Rv,Tu]at hp ZE;obtain⟨q,hq,rfl⟩:=hp;obtain⟨q',Wh,rfl⟩:=ZE;rw[hq]at Wh;cases Wh;exact FZ V3 [] (hr.ev _)
 obtain⟨u,w',F',g1,g2,g3,g4⟩:=CU.quiet (k:=k) hr h9 (Wk.Rb iA) rfl;unfold Oper.wp;simp only[execOp,SW,g1,SH,SY,Oper.upon];exact hn _ _ (H2 (st':=s0.st) hd rfl g2 g3 g4)
end
end Go.Abs
