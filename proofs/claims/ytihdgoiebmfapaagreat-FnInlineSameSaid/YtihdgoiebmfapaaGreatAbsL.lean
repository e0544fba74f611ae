import Derived.Test.YtihdgoiebmfapaaGreatAbsK
set_option linter.all false
namespace Go.Abs
open Go
variable {P : Program} {F : Nat -> Prop} {os : List Own} {s : St} {a : Act} {w : World} {k : Nat}
def IF (id g:Nat)(xs:List (List AV)):AV->AV
 |.own vH g' n=>if vH=id/\g'=g then .sl (xs.drop (xs.length-n)) else .own vH g' n
 |.ptr vH g' i off=>if vH=id/\g'=g then (match xs[i]? with|some x=>.C9 x off|none=>.FZ) else .ptr vH g' i off
 |v=>v
def BZ (id g:Nat)(xs:List (List AV)):AV->AV
 |.agg cs=>.agg (cs.map (IF id g xs))
 |.C8 cs=>.C8 (cs.map (IF id g xs))
 |v=>IF id g xs v
def ET (xs:List (List AV)):Prop:=∀x∈xs,∀c∈x,simple c=true
def DF (xs:List (List AV)):Prop:=∀x∈xs,∀c∈x,E6 c=true
theorem ET.any {xs:List (List AV)}(h:ET xs):DF xs:=λx hx c hc=>Py (h x hx c hc)
theorem Wk.freeze {id:Nat}{row:Row}(xA:k<=id)(tv:s.st[id]?=some row)(hp:ET row.xs):
  Wk k s ⟨s.n,λt=>BZ id row.gen row.xs (s.env t),s.st.set id { row with gen:=row.gen+1,xs:=[] }⟩:=λF os a w hr=>by
 obtain⟨o,ho,rfl⟩:=hr.row tv;have tz:=hr.rows id o ho;have yP:∀x∈o.row.xs,∀c∈x,c.leaf=true:=λx hx c hc=>by
  have h1:=hp x hx c hc;have h2:=(tz.lens x hx).2 c hc;cases c<;>simp_all [simple,AV.leaf,AV.kept]
 refine⟨λb=>F b∨o.GA=some b,os.set id ⟨{ o.row with gen:=o.row.gen+1,xs:=[] },none,0,o.more⟩,?_,?_⟩
 case refine_2=>
  refine⟨rfl,rfl,rfl,pL _,λ_ h=>.inl h,λ_ _=>rfl,λb _ h1 h2=>⟨rfl,λh=>h.elim h1 (λe=>h2 o (ov ho) (.inl e)),λo' uw=>?_⟩,λi oi hi xL=>⟨oi,?_,pL _,rfl,λ_=>⟨rfl,rfl,rfl⟩⟩⟩
  .rcases qU uw with h|rfl
   .exact h2 o' h
   .intro hh;rcases hh with hh|hh
    .simp at hh
    .exact h2 o (ov ho) (.inr hh)
  .rw[pd (by omega)];exact xL
 have hF:∀b,F b->(λb=>F b∨o.GA=some b) b:=λ_ h=>.inl h;have vP:Fp os (os.set id ⟨{ o.row with gen:=o.row.gen+1,xs:=[] },none,0,o.more⟩):=Fp.set ho (by simp) rfl (λe=>by simp at e);have uG:∀x v,Ab F w os x v->Ab (λb=>F b∨o.GA=some b) w (os.set id ⟨{ o.row with gen:=o.row.gen+1,xs:=[] },none,0,o.more⟩) x v:=λx v h=>
  DW hF (λ_ _=>rfl) os _ vP x v h
 have vK:∀x∈o.row.xs,∀c∈x,∀u,Ab F w os c u->Ab (λb=>F b∨o.GA=some b) w [] c u:=λx hx c hc u hu=>
  DW hF (λ_ _=>rfl) [] [] (by simp) c u (GI (hp x hx c hc) [] hu)
 have h1:∀x v,Ab F w os x v->Ab (λb=>F b∨o.GA=some b) w (os.set id ⟨{ o.row with gen:=o.row.gen+1,xs:=[] },none,0,o.more⟩) (IF id o.row.gen o.row.xs x) v:=λx v h=>by
  cases x with
  |own vH g' n=>
   simp only[IF];split
   .rename_i hif;obtain⟨rfl,rfl⟩:=hif;simp only[Ab]at h⊢;obtain⟨o',uw,_,_,h⟩:=h;rw[ho]at uw;cases uw;obtain⟨hn,hv⟩:=h rfl;have hlen:(o.row.xs.drop (o.row.xs.length-n)).length=n:=by simp;omega
    rcases hv with ⟨hb,ad,rfl⟩|⟨b,hb,rfl⟩
    .have:=(tz.none hb).1;rw[this]at hn;simp only[qi,sw]at hn;subst hn;exact⟨ad,0,by simp,by simp,by simp⟩
    .obtain⟨_,cur,uO,ue,hle,_,uK⟩:=tz.some b hb;refine⟨_,o.cap-(o.row.xs.length-n),by rw[hlen],by rw[hlen];omega,λ_=>⟨b,(o.row.xs.length-n)*o.row.size,o.row.size,rfl,.inr hb,λx hx=>(tz.lens x (qz hx)).1,?_⟩⟩;refine MP (λx hx=>(tz.lens x (qz hx)).1) λi x hx=>Lj λj c hc=>?_;have vy:=ov hx;rw[qH]at hx;obtain⟨u,e1,e2⟩:=uK _ x hx j c hc;refine⟨u,?_,yP x (ov hx) c (ov hc),vK x (ov hx) c (ov hc) u e2⟩;rw[rj w b _ cur _ _ uO];rw[<- pt];exact e1
   .exact uG _ _ h
  |ptr vH g' i off=>
   simp only[IF];split
   .rename_i hif;obtain⟨rfl,rfl⟩:=hif;simp only[Ab]at h;obtain⟨o',uw,_,_,h⟩:=h;rw[ho]at uw;cases uw;obtain⟨hi,_,b,hb,rfl⟩:=h rfl;rw[pF hi];obtain⟨_,cur,uO,ue,hle,_,uK⟩:=tz.some b hb;simp only[Ab];refine⟨b,i*o.row.size,rfl,.inr hb,Lj λj c hc=>?_⟩;have hm:=ra hi;obtain⟨u,e1,e2⟩:=uK i _ (pF hi) j c hc;refine⟨u,?_,yP _ hm c (ov hc),vK _ hm c (ov hc) u e2⟩;rw[rj w b _ cur _ _ uO];exact e1
   .exact uG _ _ h
  |_=>exact uG _ _ h
 have hL:∀xs us,Br F w os xs us->Br (λb=>F b∨o.GA=some b) w (os.set id ⟨{ o.row with gen:=o.row.gen+1,xs:=[] },none,0,o.more⟩) (xs.map (IF id o.row.gen o.row.xs)) us:=λxs us h=>
  Db (by simp[BX h]) λi x u hx hu=>by
   simp only[pB,pH]at hx;obtain⟨y,hy,rfl⟩:=hx;obtain⟨u',e1,e2⟩:=CH h i y hy;rw[hu]at e1;cases e1;exact h1 _ _ e2
 have uD:∀(i:Nat) (oi:Own),(os.set id ⟨{ o.row with gen:=o.row.gen+1,xs:=[] },none,0,o.more⟩)[i]?=some oi->(i≠id/\os[i]?=some oi)∨(i=id/\oi=⟨{ o.row with gen:=o.row.gen+1,xs:=[] },none,0,o.more⟩):=λi oi hi=>by
  by_cases e:i=id
  .subst e;rw[pO (pA.1 ho).1,pC]at hi;exact .inr ⟨rfl,hi.symm⟩
  .rw[pd (qv e)]at hi;exact .inl ⟨e,hi⟩
 refine⟨by rw[rN,hr.st],λt=>?_,hr.size,λi oi hi=>?_,λi j oi oj b hi hj wJ wK=>?_,λb hb=>?_,hr.defers⟩
 .have:=hr.env t;simp only;generalize s.env t=x at this⊢;cases x with
  |agg cs=>simp only[BZ,Ab]at this⊢;obtain⟨us,e,h⟩:=this;exact⟨us,e,hL _ _ h⟩
  |C8 cs=>simp only[BZ,Ab]at this⊢;obtain⟨us,e,h⟩:=this;exact⟨us,e,hL _ _ h⟩
  |_=>exact h1 _ _ this
 .rcases uD i oi hi with ⟨uq,h⟩|⟨_,rfl⟩
  .have wT:=hr.rows i oi h;refine⟨wT.pos,wT.lens,wT.none,λb hb=>?_,λb hb=>⟨λhF=>hF.elim (wT.mo b hb).1 (λxN=>uq (hr.inj i id oi o b h ho (.inr hb) (.inl xN))),(wT.mo b hb).2⟩,wT.deep⟩;obtain⟨e1,cur,e2,e3,e4,e5,e6⟩:=wT.some b hb;refine⟨λhF=>hF.elim e1 (λxN=>uq (hr.inj i id oi o b h ho (.inl hb) (.inl xN))),cur,e2,e3,e4,e5,λi' x hx j c hc=>?_⟩;obtain⟨u,f1,f2⟩:=e6 i' x hx j c hc;exact⟨u,f1,uG _ _ f2⟩
  .exact⟨tz.pos,by simp,by simp,by simp,λb hb=>⟨λhF=>hF.elim (tz.mo b hb).1 (tz.mo b hb).2.2,(tz.mo b hb).2.1,by simp⟩,EJ (by simp)⟩
 .rcases uD i oi hi with ⟨uq,h⟩|⟨h,rfl⟩<;>rcases uD j oj hj with ⟨hne',h'⟩|⟨h',rfl⟩
  .exact hr.inj i j oi oj b h h' wJ wK
  .exact hr.inj i j oi o b h (h'▸ho) wJ (wK.elim (λe=>by simp at e) .inr)
  .exact hr.inj i j o oj b (h▸ho) h' (wJ.elim (λe=>by simp at e) .inr) wK
  .omega
 .rcases hb with hb|hb
  .exact hr.Fu b hb
  .obtain⟨_,cur,uO,_⟩:=tz.some b hb;exact (px.1 uO).1
def Nt (m:Nat):AV->AV
 |.own id g n=>.own (id+m) g n
 |.ptr id g i off=>.ptr (id+m) g i off
 |.fn ..|.agg _|.C8 _=>.FZ
 |v=>v
def RY (m:Nat)(x:AV):AV:=two (Nt m) x
def shift (m:Nat):AV->AV
 |.fn f cs=>.fn f (cs.map (RY m))
 |.agg cs=>.agg (cs.map (RY m))
 |.C8 cs=>.C8 (cs.map (RY m))
 |v=>RY m v
theorem cv {vD:List Own}{x:AV}{v:Value}(h:Ab F w vD x v):Ab F w (os++vD) (Nt os.length x) v:=by
 have uD:∀id,(os++vD)[id+os.length]?=vD[id]?:=λid=>by rw[pN (by omega)];congr 1;omega
 cases x with
 |own id g n=>simp only[Nt,Ab]at h⊢;rw[uD];exact h
 |ptr id g i off=>simp only[Nt,Ab]at h⊢;rw[uD];exact h
 |fn f cs=>simp[Nt,Ab]
 |agg cs=>simp[Nt,Ab]
 |C8 cs=>simp[Nt,Ab]
 |_=>simp only[Nt,Ab]at h⊢<;>exact h
theorem V2 {vD:List Own}{x:AV}{v:Value}(h:Ab F w vD x v):Ab F w (os++vD) (RY os.length x) v:=
 MN (λ_ _ h=>cv h) _ _ h
theorem PS {vD:List Own}{xs:List AV}{us:List Value}(h:Br F w vD xs us):Br F w (os++vD) (xs.map (RY os.length)) us:=
 Db (by simp[BX h]) λi x u hx hu=>by
  simp only[pB,pH]at hx;obtain⟨y,hy,rfl⟩:=hx;obtain⟨u',e1,e2⟩:=CH h i y hy;rw[hu]at e1;cases e1;exact V2 e2
theorem XH {vD:List Own}{x:AV}{v:Value}(h:Ab F w vD x v):Ab F w (os++vD) (shift os.length x) v:=by
 cases x with
 |fn f cs=>simp only[shift,Ab]at h⊢;obtain⟨us,e,hl⟩:=h;exact⟨us,e,PS hl⟩
 |agg cs=>simp only[shift,Ab]at h⊢;obtain⟨us,e,hl⟩:=h;exact⟨us,e,PS hl⟩
 |C8 cs=>simp only[shift,Ab]at h⊢;obtain⟨us,e,hl⟩:=h;exact⟨us,e,PS hl⟩
 |_=>exact V2 h
def OO:AV->Bool
 |.sl _|.C9 ..|.fn ..|.agg _|.C8 _=>false
 |_=>true
def fI:AV->Bool
 |.agg cs=>cs.all OO
 |v=>OO v
def fN:AV->Bool
 |.C8 cs=>cs.all fI
 |v=>fI v
theorem Sb {F':Nat->Prop}{x:AV}{v:Value}(hx:OO x=true)(h:Ab F w os x v):Ab F' w os x v:=by
 cases x<;>simp only[OO,pD]at hx<;>simp only[Ab]at h⊢<;>exact h
theorem YK {F':Nat->Prop}{x:AV}{v:Value}(hx:fI x=true)(h:Ab F w os x v):Ab F' w os x v:=by
 cases x with
 |agg cs=>
  simp only[Ab]at h⊢;obtain⟨us,e,hl⟩:=h;refine⟨us,e,Db (BX hl) λi x u xS hu=>?_⟩;obtain⟨u',e1,e2⟩:=CH hl i x xS;rw[hu]at e1;cases e1;exact Sb (pG.1 hx x (ov xS)) e2
 |_=>exact Sb hx h
theorem hZ {F':Nat->Prop}{x:AV}{v:Value}(hx:fN x=true)(h:Ab F w os x v):Ab F' w os x v:=by
 cases x with
 |C8 cs=>
  simp only[Ab]at h⊢;obtain⟨us,e,hl⟩:=h;refine⟨us,e,Db (BX hl) λi x u xS hu=>?_⟩;obtain⟨u',e1,e2⟩:=CH hl i x xS;rw[hu]at e1;cases e1;exact YK (pG.1 hx x (ov xS)) e2
 |_=>exact YK hx h
theorem Rel.join {F0 F':Nat->Prop}{w':World}{vD:List Own}{st1:List Row}(hr:Rel F0 os s a w')(hs:Hc F' vD st1 w')(hFF :∀b,F0 b->F' b)(hp :∀row∈st1,DF row.xs)
  (hscal:(∀b,F' b->F0 b)∨∀row∈st1,∀x∈row.xs,∀c∈x,OO c=true) (ve :∀(i:Nat) (o:Own),os[i]?=some o->∀b,o.owns b->∀o1:Own,o1∈vD->¬ o1.owns b) :
  Rel F0 (os++vD) { s with st:=s.st++st1 } a w':=by
 have vP:Fp os (os++vD):=Fp.append os vD;have uG:∀x v,Ab F0 w' os x v->Ab F0 w' (os++vD) x v:=λx v h=>DW (λ_ h=>h) (λ_ _=>rfl) os _ vP x v h;have uD:∀(i:Nat) (o:Own),(os++vD)[i]?=some o->(i<os.length/\os[i]?=some o)∨(os.length<=i/\vD[i-os.length]?=some o):=λi o h=>by
  by_cases hi:i<os.length
  .rw[pM hi]at h;exact .inl ⟨hi,h⟩
  .rw[pN (by omega)]at h;exact .inr ⟨by omega,h⟩
 refine⟨by rw[qu,hr.st,hs.st],λt=>uG _ _ (hr.env t),hr.size,λi o ho=>?_,λi j oi oj b hi hj wJ wK=>?_,hr.Fu,hr.defers⟩
 .rcases uD i o ho with ⟨_,h⟩|⟨_,h⟩
  .have tz:=hr.rows i o h;refine⟨tz.pos,tz.lens,tz.none,λb hb=>?_,tz.mo,tz.deep⟩;obtain⟨e1,cur,e2,e3,e4,e5,e6⟩:=tz.some b hb;exact⟨e1,cur,e2,e3,e4,e5,λi' x hx j c hc=>by obtain⟨u,f1,f2⟩:=e6 i' x hx j c hc;exact⟨u,f1,uG _ _ f2⟩⟩
  .have tz:=hs.rows _ o h;refine⟨tz.pos,tz.lens,tz.none,λb hb=>?_,λb hb=>⟨λhF=>(tz.mo b hb).1 (hFF b hF),(tz.mo b hb).2⟩,tz.deep⟩;obtain⟨e1,cur,e2,e3,e4,e5,e6⟩:=tz.some b hb;refine⟨λhF=>e1 (hFF b hF),cur,e2,e3,e4,e5,λi' x hx j c hc=>?_⟩;obtain⟨u,f1,f2⟩:=e6 i' x hx j c hc;have tv:o.row∈st1:=by rw[<- hs.st];exact pQ.2 ⟨o,ov h,rfl⟩
   have hsim:=hp o.row tv x (ov hx) c (ov hc);have f3:=bK hsim (os++vD) f2;refine⟨u,f1,?_⟩;rcases hscal with h1|h1
   .exact DW h1 (λ_ _=>rfl) _ _ (Fp.refl _) c u f3
   .exact Sb (h1 o.row tv x (ov hx) c (ov hc)) f3
 .rcases uD i oi hi with ⟨_,h⟩|⟨_,h⟩<;>rcases uD j oj hj with ⟨_,h'⟩|⟨_,h'⟩
  .exact hr.inj i j oi oj b h h' wJ wK
  .exact absurd wK (ve i oi h b wJ oj (ov h'))
  .exact absurd wJ (ve j oj h' b wK oi (ov h))
  .have:=hs.inj _ _ oi oj b h h' wJ wK;omega
theorem XQ {f:FuncId}{args:List AV}{d:Option Tmp}{K:St->Prop}{R:AV->List Row->Prop}(h:BJ P f args [] R)(hf:args.all flat=true)
  (hK :∀r st',R r st'->(∀row∈st',DF row.xs)/\K ({ s with st:=s.st++st' }.put d (shift s.st.length r))):callThen P k s f args d K:=by
 intro F os a w vs hr hl;refine (h F [] w vs (Hc.nil hr.Fu) (SQ hf [] hl)).mono ?_;rintro e w' ⟨u,r,st',F',vD,rfl,hR,hs,hru,he⟩;obtain⟨hp,hk⟩:=hK r st' hR;obtain⟨h1,h2,_,ve⟩:=hr.after (k:=k) he hs.Fu;refine⟨u,_,s.st++st',F',os++vD,rfl,hk,h1.join hs (λ_ h=>h) hp (.inl λ_ h=>h) ve,?_,?_⟩
 .rw[hr.len];exact XH hru
 .refine⟨h2.sys,h2.tape,h2.output,h2.size,h2.Ny,h2.Ix,λb hb e1 e2=>?_,λi o hi ho=>?_⟩
  .obtain⟨f1,f2,f3⟩:=he.other b hb e1 (by simp);exact⟨f1,f2,λo ho=>by rcases pX.1 ho with h|h;exact e2 o h;exact f3 o h⟩
  .exact Fp.append os vD i o ho
mutual
def QA:AV->AV
 |.dv _ _ xs=>.sl (LL xs)
 |c=>c
def LL:List (List AV)->List (List AV)
 | []=>[]
 |x::r=>IQ x::LL r
def IQ:List AV->List AV
 | []=>[]
 |c::r=>QA c::IQ r
end
theorem OZ:∀x:List AV,IQ x=x.map QA
 | []=>by simp[IQ]
 |c::r=>by simp[IQ,OZ r]
theorem Ib:∀xs:List (List AV),LL xs=xs.map IQ
 | []=>by simp[LL]
 |x::r=>by simp[LL,Ib r]
theorem Vk {c:AV}(h:simple c=true):QA c=c:=by cases c<;>simp_all [simple,QA]
mutual
theorem Uj {S F:Nat->Prop}{w:World}(hS :∀b,S b->F b):∀(x:AV) (v:Value),Em S w x v->Ab F w [] (QA x) v/\(QA x).leaf=true
 |.dv el size xs,v,h=>by
  simp only[Em]at h;obtain⟨hp,h⟩:=h;simp only[QA,Ab,AV.leaf,and_true];rcases h with ⟨rfl,a,rfl⟩|⟨b,cap,cur,rfl,h2,h3,h4,h5,h6,h7,h8⟩
  .exact⟨a,0,by simp[LL],by simp[LL],by simp[LL]⟩
  .refine⟨_,cap,by simp[Ib],by simpa [Ib] using h2,λ_=>⟨b,0,size,rfl,hS b h4,λx hx=>?_,Xh (S:=λc=>S c/\c≠b) (λc hc=>hS c hc.1) h5 xs 0 h8⟩⟩;rw[Ib]at hx;obtain⟨y,hy,rfl⟩:=pQ.1 hx;rw[OZ,pR];exact h7 y hy
 |.int _ _,_,h=>by simpa [Em,QA,Ab,AV.leaf] using h
 |.bool _,_,h=>by simpa [Em,QA,Ab,AV.leaf] using h
 |.str _,_,h=>by simpa [Em,QA,Ab,AV.leaf] using h
 |.zc,_,h=>by simpa [Em,QA,Ab,AV.leaf] using h
 |.SL,_,h=>by simpa [Em,QA,Ab,AV.leaf] using h
 |.SE,_,h=>by simpa [Em,QA,Ab,AV.leaf] using h
 |.FZ,_,h=>by simp[Em]at h
 |.un,_,h=>by simp[Em]at h
 |.sl _,_,h=>by simp[Em]at h
 |.own ..,_,h=>by simp[Em]at h
 |.ptr ..,_,h=>by simp[Em]at h
 |.C9 ..,_,h=>by simp[Em]at h
 |.fn ..,_,h=>by simp[Em]at h
 |.agg _,_,h=>by simp[Em]at h
 |.C8 _,_,h=>by simp[Em]at h
theorem Xh {S F:Nat->Prop}{w:World}(hS :∀b,S b->F b){b:Nat}{cur:Array Value}{el:TypeId}(uO:w.heap[b]?=some (.cells cur el (0,0))):∀(xs:List (List AV)) (o:Nat),Lu S w xs cur o->H9 F w (LL xs) b o
 | [],_,_=>by simp[LL,H9]
 |x::r,o,h=>by
  simp only[Lu]at h;simp only[LL,H9];obtain⟨S1,S2,h1,h2,_,h4,h5⟩:=h;have hl:(IQ x).length=x.length:=by rw[OZ,pR]
  rw[hl];exact⟨Xu (λc hc=>hS c (h1 c hc)) uO x o h4,Xh (λc hc=>hS c (h2 c hc)) uO r _ h5⟩
theorem Xu {S F:Nat->Prop}{w:World}(hS :∀b,S b->F b){b:Nat}{cur:Array Value}{el:TypeId}(uO:w.heap[b]?=some (.cells cur el (0,0))):∀(xs:List AV) (o:Nat),Ls S w xs cur o->Fj F w (IQ xs) b o
 | [],_,_=>by simp[IQ,Fj]
 |x::r,o,h=>by
  simp only[Ls]at h;simp only[IQ,Fj];obtain⟨S1,S2,h1,h2,_,⟨u,h4,h5⟩,h6⟩:=h;obtain⟨g1,g2⟩:=Uj (λc hc=>hS c (h1 c hc)) x u h5;exact⟨⟨u,by rw[rj w b _ cur _ _ uO];exact h4,g2,g1⟩,Xu (λc hc=>hS c (h2 c hc)) uO r _ h6⟩
end
def UG (st:List Row):AV->AV
 |.own id g n=>match st[id]? with
  |some row=>if row.gen=g then .sl (LL (row.xs.drop (row.xs.length-n))) else .FZ
  |none=>.FZ
 |v=>v
def ID (st:List Row):AV->AV
 |.agg cs=>.agg (cs.map (UG st))
 |v=>UG st v
def RJ (args:List AV)(id g n:Nat):Prop:=AV.own id g n∈args∨∃cs,AV.agg cs∈args/\AV.own id g n∈cs
def UJ (F:Nat->Prop)(os:List Own)(args:List AV)(b:Nat):Prop:=F b∨∃id g n o,RJ args id g n/\os[id]?=some o/\o.owns b
theorem gG (hr:Rel F os s a w){F1:Nat->Prop}(hF1 :∀b,F b->F1 b){id g n:Nat}{o:Own}(ho:os[id]?=some o)(hl :∀b,o.owns b->F1 b)(hpr:DF o.row.xs){u:Value}
  (e2:Ab F w os (.own id g n) u) (hg:o.row.gen=g):Ab F1 w os (.sl (LL (o.row.xs.drop (o.row.xs.length-n)))) u:=by
 have tz:=hr.rows id o ho;have hm:∀x v,Ab F w os x v->Ab F1 w os x v:=λx v h=>DW hF1 (λ_ _=>rfl) os os (Fp.refl os) x v h;simp only[Ab]at e2⊢;obtain⟨o',uw,_,_,e2⟩:=e2;rw[ho]at uw;cases uw;obtain⟨hn,hv⟩:=e2 hg;have hlen:(LL (o.row.xs.drop (o.row.xs.length-n))).length=n:=by simp[Ib];omega
 rcases hv with ⟨hb,ad,rfl⟩|⟨b,hb,rfl⟩
 .have:=(tz.none hb).1;rw[this]at hn;simp only[qi,sw]at hn;subst hn;exact⟨ad,0,by simp[Ib],by simp[Ib],by simp[Ib]⟩
 .obtain⟨_,cur,uO,ue,hle,_,uK⟩:=tz.some b hb;have hls:∀x∈LL (o.row.xs.drop (o.row.xs.length-n)),x.length=o.row.size:=λx hx=>by
   rw[Ib]at hx;obtain⟨y,hy,rfl⟩:=pQ.1 hx;rw[OZ,pR];exact (tz.lens y (qz hy)).1
  refine⟨_,o.cap-(o.row.xs.length-n),by rw[hlen],by rw[hlen];omega,λ_=>⟨b,(o.row.xs.length-n)*o.row.size,o.row.size,rfl,hl b (.inl hb),hls,?_⟩⟩;refine MP hls λi x hx=>Lj λj c hc=>?_;rw[Ib,pB,pH]at hx;obtain⟨x0,hx0,rfl⟩:=hx;rw[OZ,pB,pH]at hc;obtain⟨c0,wS,rfl⟩:=hc;rw[qH]at hx0
  .have hsi:=hpr x0 (ov hx0) c0 (ov wS);have hk:=(tz.lens x0 (ov hx0)).2 c0 (ov wS);by_cases hd :∃el sz ys,c0=.dv el sz ys
   .obtain⟨el,sz,ys,rfl⟩:=hd;obtain⟨D,d1,_,d3⟩:=tz.deep;obtain⟨u,f1,f2⟩:=d3 b hb cur _ _ uO _ x0 j el sz ys hx0 wS;obtain⟨g1,g2⟩:=Uj (F:=F1) (λc hc=>hl c (.inr (d1 _ _ _ hc))) _ u f2;exact⟨u,by rw[rj w b _ cur _ _ uO,<- pt];exact f1,g2,g1⟩
   .have hs:simple c0=true:=by cases c0<;>simp_all [E6]
    rw[Vk hs];obtain⟨u,f1,f2⟩:=uK _ x0 hx0 j c0 wS;refine⟨u,?_,by cases c0<;>simp_all [AV.kept],GI hs [] (hm _ _ f2)⟩;rw[rj w b _ cur _ _ uO,<- pt];exact f1
theorem dw (hr:Rel F os s a w){args:List AV}{vs:List Value}(hl:Br F w os args vs)(zD :∀id g n,RJ args id g n->∀row,s.st[id]?=some row->DF row.xs):
  Br (UJ F os args) w os (args.map (ID s.st)) vs:=by
 have hF1:∀b,F b->UJ F os args b:=λ_ h=>.inl h;have hm:∀x v,Ab F w os x v->Ab (UJ F os args) w os x v:=λx v h=>DW hF1 (λ_ _=>rfl) os os (Fp.refl os) x v h;have h0:∀y u,(∀id g n,y=AV.own id g n->RJ args id g n)->Ab F w os y u->Ab (UJ F os args) w os (UG s.st y) u:=λy u vQ e2=>by
  cases y with
  |own id g n=>
   simp only[UG];split
   .rename_i row tv;split
    .rename_i hg;obtain⟨o,ho,rfl⟩:=hr.row tv;exact gG hr hF1 ho (λb hb=>.inr ⟨id,g,n,o,vQ id g n rfl,ho,hb⟩) (zD id g n (vQ id g n rfl) o.row tv) e2 hg
    .simp[Ab]
   .simp[Ab]
  |_=>exact hm _ _ e2
 refine Db (by simp[BX hl]) λi x u hx hu=>?_;simp only[pB,pH]at hx;obtain⟨y,hy,rfl⟩:=hx;obtain⟨u',e1,e2⟩:=CH hl i y hy;rw[hu]at e1;cases e1;have hym:=ov hy;cases y with
 |agg cs=>
  simp only[ID,Ab]at e2⊢;obtain⟨us,e,vq⟩:=e2;refine⟨us,e,Db (by simp[BX vq]) λj x u hx hu=>?_⟩;simp only[pB,pH]at hx;obtain⟨y,hy,rfl⟩:=hx;obtain⟨u',e1,e2⟩:=CH vq j y hy;rw[hu]at e1;cases e1;exact h0 y u (λid g n e=>.inr ⟨cs,hym,e▸ov hy⟩) e2
 |own id g n=>exact h0 _ u (λvH g' n' e=>.inl (e▸hym)) e2
 |_=>exact hm _ _ e2
theorem Z3 {P:Program}{s:St}{f:FuncId}{args:List AV}{R:AV->List Row->Prop}{k:Nat}(h:BJ P f (args.map (ID s.st)) [] R)(hf:(args.map (ID s.st)).all flat=true)
  (zD :∀id g n,RJ args id g n->∀row,s.st[id]?=some row->DF row.xs) {F:Nat->Prop} {os:List Own} {a:Act} {w:World} {vs:List Value} (hr:Rel F os s a w) (hl:Br F w os args vs) :
  Calls P f vs.toArray w λe w'=>∃u r st' F' vD,e=.returned u/\R r st'/\Rel F os s a w'/\Hc F' vD st' w'/\Ab F' w' vD r u/\(∀b,F b->F' b)/\Ext F os w F os w' k/\
   (∀(i:Nat) (o:Own),os[i]?=some o->∀b,o.owns b->∀o1:Own,o1∈vD->¬ o1.owns b)/\∀b,b<w.heap.size->¬ F b->(∀o:Own,o∈os->¬ o.owns b)->∀o1:Own,o1∈vD->¬ o1.owns b:=by
 have hF1:∀b,F b->UJ F os args b:=λ_ h=>.inl h;have uU:∀(i:Nat) (o:Own) b,os[i]?=some o->o.owns b->b<w.heap.size:=λi o b hi hb=>(hr.rows i o hi).lt hb;have hold1:∀b,UJ F os args b->b<w.heap.size:=λb hb=>by
  rcases hb with hb|⟨id,g,n,o,_,ho,xN⟩
  .exact hr.Fu b hb
  .exact uU id o b ho xN
 have yJ:=dw hr hl zD;refine (h (UJ F os args) [] w vs (Hc.nil hold1) (SQ hf [] yJ)).mono ?_;rintro e w' ⟨u,r,st',F',vD,rfl,hR,hs,hru,he⟩;have tv:∀(i:Nat) (o:Own),os[i]?=some o->∀b,o.owns b->w'.heap[b]?=w.heap[b]?/\∀o1:Own,o1∈vD->¬ o1.owns b:=λi o ho b hb=>by
  by_cases h1:UJ F os args b
  .refine⟨he.Ix b h1,λo1 ho1 e=>?_⟩;obtain⟨j,hj⟩:=pY.1 ho1;exact (hs.rows j o1 hj).nF e (he.Ny b h1)
  .obtain⟨f1,_,f3⟩:=he.other b (uU i o b ho hb) h1 (by simp);exact⟨f1,f3⟩
 have uG:∀x v,Ab F w os x v->Ab F w' os x v:=λx v h=>DW (λ_ h=>h) (λb hb=>he.Ix b (hF1 b hb)) os os (Fp.refl os) x v h;have vg:Rel F os s a w':=⟨hr.st,λt=>uG _ _ (hr.env t),hr.size,λi o ho=>by
   have tz:=hr.rows i o ho;refine⟨tz.pos,tz.lens,tz.none,λb hb=>?_,λb hb=>⟨(tz.mo b hb).1,qK (tz.mo b hb).2.1 he.size,(tz.mo b hb).2.2⟩,tz.deep.keep rfl (λ_ h=>h) rfl (λb hb=>(tv i o ho b hb).1) (λi x j e s ys hx hc=>⟨x,hx,hc⟩)⟩;obtain⟨e1,cur,e2,e3,e4,e5,e6⟩:=tz.some b hb;exact⟨e1,cur,by rw[(tv i o ho b (.inl hb)).1];exact e2,e3,e4,e5,λi' x hx j c hc=>by obtain⟨u,f1,f2⟩:=e6 i' x hx j c hc;exact⟨u,f1,uG _ _ f2⟩⟩,
  hr.inj,λb hb=>qK (hr.Fu b hb) he.size,hr.defers⟩
 have xO:∀b,b<w.heap.size->¬ F b->(∀o:Own,o∈os->¬ o.owns b)->w'.heap[b]?=w.heap[b]?/\∀o1:Own,o1∈vD->¬ o1.owns b:=λb hb e1 e2=>by
  have hnF1:¬ UJ F os args b:=λh=>h.elim e1 (λ⟨id,g,n,o,_,ho,xN⟩=>e2 o (ov ho) xN);obtain⟨f1,_,f3⟩:=he.other b hb hnF1 (by simp);exact⟨f1,f3⟩
 exact⟨u,r,st',F',vD,rfl,hR,vg,hs,hru,λb hb=>he.Ny b (hF1 b hb),
  ⟨he.sys,he.tape,he.output,he.size,λ_ h=>h,λb hb=>he.Ix b (hF1 b hb),λb hb e1 e2=>⟨(xO b hb e1 e2).1,e1,e2⟩,λi o _ ho=>⟨o,ho,pL _,rfl,λ_=>⟨rfl,rfl,rfl⟩⟩⟩,
  λi o ho b hb=>(tv i o ho b hb).2,λb hb e1 e2=>(xO b hb e1 e2).2⟩
theorem Of {f:FuncId}{args:List AV}{d:Option Tmp}{K:St->Prop}{R:AV->List Row->Prop}(h:BJ P f (args.map (ID s.st)) [] R)(hf:(args.map (ID s.st)).all flat=true)
  (zD :∀id g n,RJ args id g n->∀row,s.st[id]?=some row->DF row.xs)
  (hK :∀r st',R r st'->(fN r=true/\∀row∈st',∀x∈row.xs,∀c∈x,OO c=true)/\(∀row∈st',DF row.xs)/\K ({ s with st:=s.st++st' }.put d (shift s.st.length r))):callThen P k s f args d K:=by
 intro F os a w vs hr hl;refine (Z3 (k:=k) h hf zD hr hl).mono ?_;rintro e w' ⟨u,r,st',F',vD,rfl,hR,vg,hs,hru,hFF,he,ve,xO⟩;obtain⟨⟨hsr,hsc⟩,hp,hk⟩:=hK r st' hR;refine⟨u,_,s.st++st',F,os++vD,rfl,hk,vg.join hs hFF hp (.inr hsc) ve,?_,?_⟩
 .rw[hr.len];exact XH (hZ hsr hru)
 .refine⟨he.sys,he.tape,he.output,he.size,λ_ h=>h,he.Ix,λb hb e1 e2=>?_,λi o hi ho=>Fp.append os vD i o ho⟩;obtain⟨f1,_,_⟩:=he.other b hb e1 e2;exact⟨f1,e1,λo ho=>by rcases pX.1 ho with h|h;exact e2 o h;exact xO b hb e1 e2 o h⟩
end Go.Abs
