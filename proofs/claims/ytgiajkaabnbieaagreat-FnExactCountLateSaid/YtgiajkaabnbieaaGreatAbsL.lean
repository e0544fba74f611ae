import Derived.Test.YtgiajkaabnbieaaGreatAbsK
set_option linter.all false
namespace Go.Abs
open Go
variable {P : Program} {F : Nat -> Prop} {os : List Own} {s : St} {a : Act} {w : World} {k : Nat}
def Hr (id g:Nat)(xs:List (List AV)):AV->AV
 | .own sH g' n=>if sH=id/\g'=g then .sl (xs.drop (xs.length-n)) else .own sH g' n
 | .ptr sH g' i off=>if sH=id/\g'=g then (match xs[i]? with|some x=>.Bt x off|none=>.FN) else .ptr sH g' i off
 | v=>v
def CQ (id g:Nat)(xs:List (List AV)):AV->AV
 | .agg cs=>.agg (cs.map (Hr id g xs))
 | .DX cs=>.DX (cs.map (Hr id g xs))
 | v=>Hr id g xs v
def G1 (xs:List (List AV)):Prop:=∀x∈xs,∀c∈x,simple c=true
def DF (xs:List (List AV)):Prop:=∀x∈xs,∀c∈x,Em c=true
theorem G1.any {xs:List (List AV)}(h:G1 xs):DF xs:=λx hx c hc=>PU (h x hx c hc)
theorem Wk.freeze {id:Nat}{row:Row}(tv:k<=id)(qo:s.st[id]?=some row)(hp:G1 row.xs):
  Wk k s ⟨s.n,λt=>CQ id row.gen row.xs (s.env t),s.st.set id { row with gen:=row.gen+1,xs:=[] }⟩:=λF os a w hr=>by
 obtain⟨o,ho,rfl⟩:=hr.row qo;have qu:=hr.rows id o ho;have xI:∀x∈o.row.xs,∀c∈x,c.leaf=true:=λx hx c hc=>by
  have h1:=hp x hx c hc;have h2:=(qu.lens x hx).2 c hc;cases c<;>simp_all [simple,AV.leaf,AV.kept]
 refine⟨λb=>F b∨o.DM=some b,os.set id ⟨{ o.row with gen:=o.row.gen+1,xs:=[] },none,0,o.more⟩,?_,?_⟩
 case refine_2=>
  refine⟨rfl,rfl,rfl,mS _,λ_ h=>.inl h,λ_ _=>rfl,λb _ h1 h2=>⟨rfl,λh=>h.elim h1 (λe=>h2 o (mB ho) (.inl e)),λo' rW=>?_⟩,λi oi hi hoi=>⟨oi,?_,mS _,rfl,λ_=>⟨rfl,rfl,rfl⟩⟩⟩
  ·rcases nW rW with h|rfl
   ·exact h2 o' h
   ·intro hh;rcases hh with hh|hh
    ·simp at hh
    ·exact h2 o (mB ho) (.inr hh)
  ·rw[mT (by omega)];exact hoi
 have hF:∀b,F b->(λb=>F b∨o.DM=some b) b:=λ_ h=>.inl h;have rq:Ex os (os.set id ⟨{ o.row with gen:=o.row.gen+1,xs:=[] },none,0,o.more⟩):=Ex.set ho (by simp) rfl (λe=>by simp at e);have rC:∀x v,Ae F w os x v->Ae (λb=>F b∨o.DM=some b) w (os.set id ⟨{ o.row with gen:=o.row.gen+1,xs:=[] },none,0,o.more⟩) x v:=λx v h=>
  EJ hF (λ_ _=>rfl) os _ rq x v h
 have sF:∀x∈o.row.xs,∀c∈x,∀u,Ae F w os c u->Ae (λb=>F b∨o.DM=some b) w [] c u:=λx hx c hc u hu=>
  EJ hF (λ_ _=>rfl) [] [] (by simp) c u (IW (hp x hx c hc) [] hu)
 have h1:∀x v,Ae F w os x v->Ae (λb=>F b∨o.DM=some b) w (os.set id ⟨{ o.row with gen:=o.row.gen+1,xs:=[] },none,0,o.more⟩) (Hr id o.row.gen o.row.xs x) v:=λx v h=>by
  cases x with
  | own sH g' n=>
   simp only[Hr];split
   ·rename_i hif;obtain⟨rfl,rfl⟩:=hif;simp only[Ae]at h⊢;obtain⟨o',rW,_,_,h⟩:=h;rw[ho]at rW;cases rW;obtain⟨hn,hv⟩:=h rfl;have hlen:(o.row.xs.drop (o.row.xs.length-n)).length=n:=by simp;omega
    rcases hv with ⟨hb,ad,rfl⟩|⟨b,hb,rfl⟩
    ·have:=(qu.none hb).1;rw[this]at hn;simp only[nN,pg]at hn;subst hn;exact⟨ad,0,by simp,by simp,by simp⟩
    ·obtain⟨_,cur,rE,rP,hle,_,rF⟩:=qu.some b hb;refine⟨_,o.cap-(o.row.xs.length-n),by rw[hlen],by rw[hlen];omega,λ_=>⟨b,(o.row.xs.length-n)*o.row.size,o.row.size,rfl,.inr hb,λx hx=>(qu.lens x (oD hx)).1,?_⟩⟩;refine Jc (λx hx=>(qu.lens x (oD hx)).1) λi x hx=>Ii λj c hc=>?_;have tu:=mB hx;rw[nP]at hx;obtain⟨u,e1,e2⟩:=rF _ x hx j c hc;refine⟨u,?_,xI x (mB hx) c (mB hc),sF x (mB hx) c (mB hc) u e2⟩;rw[oE w b _ cur _ _ rE];rw[<- nJ];exact e1
   ·exact rC _ _ h
  | ptr sH g' i off=>
   simp only[Hr];split
   ·rename_i hif;obtain⟨rfl,rfl⟩:=hif;simp only[Ae]at h;obtain⟨o',rW,_,_,h⟩:=h;rw[ho]at rW;cases rW;obtain⟨hi,_,b,hb,rfl⟩:=h rfl;rw[mH hi];obtain⟨_,cur,rE,rP,hle,_,rF⟩:=qu.some b hb;simp only[Ae];refine⟨b,i*o.row.size,rfl,.inr hb,Ii λj c hc=>?_⟩;have hm:=ob hi;obtain⟨u,e1,e2⟩:=rF i _ (mH hi) j c hc;refine⟨u,?_,xI _ hm c (mB hc),sF _ hm c (mB hc) u e2⟩;rw[oE w b _ cur _ _ rE];exact e1
   ·exact rC _ _ h
  | _=>exact rC _ _ h
 have hL:∀xs us,Ba F w os xs us->Ba (λb=>F b∨o.DM=some b) w (os.set id ⟨{ o.row with gen:=o.row.gen+1,xs:=[] },none,0,o.more⟩) (xs.map (Hr id o.row.gen o.row.xs)) us:=λxs us h=>
  Ds (by simp[BJ h]) λi x u hx hu=>by
   simp only[mG,mK]at hx;obtain⟨y,hy,rfl⟩:=hx;obtain⟨u',e1,e2⟩:=CD h i y hy;rw[hu]at e1;cases e1;exact h1 _ _ e2
 have rD:∀(i:Nat) (oi:Own),(os.set id ⟨{ o.row with gen:=o.row.gen+1,xs:=[] },none,0,o.more⟩)[i]?=some oi->(i≠id/\os[i]?=some oi)∨(i=id/\oi=⟨{ o.row with gen:=o.row.gen+1,xs:=[] },none,0,o.more⟩):=λi oi hi=>by
  by_cases e:i=id
  ·subst e;rw[mN (mC.1 ho).1,mE]at hi;exact .inr ⟨rfl,hi.symm⟩
  ·rw[mT (nm e)]at hi;exact .inl ⟨e,hi⟩
 refine⟨by rw[nt,hr.st],λt=>?_,hr.size,λi oi hi=>?_,λi j oi oj b hi hj sS sj=>?_,λb hb=>?_,hr.defers⟩
 ·have:=hr.env t;simp only;generalize s.env t=x at this⊢;cases x with
  | agg cs=>simp only[CQ,Ae]at this⊢;obtain⟨us,e,h⟩:=this;exact⟨us,e,hL _ _ h⟩
  | DX cs=>simp only[CQ,Ae]at this⊢;obtain⟨us,e,h⟩:=this;exact⟨us,e,hL _ _ h⟩
  | _=>exact h1 _ _ this
 ·rcases rD i oi hi with ⟨rV,h⟩|⟨_,rfl⟩
  ·have sv:=hr.rows i oi h;refine⟨sv.pos,sv.lens,sv.none,λb hb=>?_,λb hb=>⟨λhF=>hF.elim (sv.mo b hb).1 (λuO=>rV (hr.inj i id oi o b h ho (.inr hb) (.inl uO))),(sv.mo b hb).2⟩,sv.deep⟩;obtain⟨e1,cur,e2,e3,e4,e5,e6⟩:=sv.some b hb;refine⟨λhF=>hF.elim e1 (λuO=>rV (hr.inj i id oi o b h ho (.inl hb) (.inl uO))),cur,e2,e3,e4,e5,λi' x hx j c hc=>?_⟩;obtain⟨u,f1,f2⟩:=e6 i' x hx j c hc;exact⟨u,f1,rC _ _ f2⟩
  ·exact⟨qu.pos,by simp,by simp,by simp,λb hb=>⟨λhF=>hF.elim (qu.mo b hb).1 (qu.mo b hb).2.2,(qu.mo b hb).2.1,by simp⟩,Fv (by simp)⟩
 ·rcases rD i oi hi with ⟨rV,h⟩|⟨h,rfl⟩<;>rcases rD j oj hj with ⟨wS,h'⟩|⟨h',rfl⟩
  ·exact hr.inj i j oi oj b h h' sS sj
  ·exact hr.inj i j oi o b h (h'▸ho) sS (sj.elim (λe=>by simp at e) .inr)
  ·exact hr.inj i j o oj b (h▸ho) h' (sS.elim (λe=>by simp at e) .inr) sj
  ·omega
 ·rcases hb with hb|hb
  ·exact hr.F6 b hb
  ·obtain⟨_,cur,rE,_⟩:=qu.some b hb;exact (mq.1 rE).1
def Np (m:Nat):AV->AV
 | .own id g n=>.own (id+m) g n
 | .ptr id g i off=>.ptr (id+m) g i off
 | .fn ..|.agg _|.DX _=>.FN
 | v=>v
def Qf (m:Nat)(x:AV):AV:=two (Np m) x
def shift (m:Nat):AV->AV
 | .fn f cs=>.fn f (cs.map (Qf m))
 | .agg cs=>.agg (cs.map (Qf m))
 | .DX cs=>.DX (cs.map (Qf m))
 | v=>Qf m v
theorem Zv {rj:List Own}{x:AV}{v:Value}(h:Ae F w rj x v):Ae F w (os++rj) (Np os.length x) v:=by
 have rD:∀id,(os++rj)[id+os.length]?=rj[id]?:=λid=>by rw[mP (by omega)];congr 1;omega
 cases x with
 | own id g n=>simp only[Np,Ae]at h⊢;rw[rD];exact h
 | ptr id g i off=>simp only[Np,Ae]at h⊢;rw[rD];exact h
 | fn f cs=>simp[Np,Ae]
 | agg cs=>simp[Np,Ae]
 | DX cs=>simp[Np,Ae]
 | _=>simp only[Np,Ae]at h⊢<;>exact h
theorem UX {rj:List Own}{x:AV}{v:Value}(h:Ae F w rj x v):Ae F w (os++rj) (Qf os.length x) v:=
 NN (λ_ _ h=>Zv h) _ _ h
theorem O0 {rj:List Own}{xs:List AV}{us:List Value}(h:Ba F w rj xs us):Ba F w (os++rj) (xs.map (Qf os.length)) us:=
 Ds (by simp[BJ h]) λi x u hx hu=>by
  simp only[mG,mK]at hx;obtain⟨y,hy,rfl⟩:=hx;obtain⟨u',e1,e2⟩:=CD h i y hy;rw[hu]at e1;cases e1;exact UX e2
theorem Vk {rj:List Own}{x:AV}{v:Value}(h:Ae F w rj x v):Ae F w (os++rj) (shift os.length x) v:=by
 cases x with
 | fn f cs=>simp only[shift,Ae]at h⊢;obtain⟨us,e,hl⟩:=h;exact⟨us,e,O0 hl⟩
 | agg cs=>simp only[shift,Ae]at h⊢;obtain⟨us,e,hl⟩:=h;exact⟨us,e,O0 hl⟩
 | DX cs=>simp only[shift,Ae]at h⊢;obtain⟨us,e,hl⟩:=h;exact⟨us,e,O0 hl⟩
 | _=>exact UX h
def NM:AV->Bool
 | .sl _|.Bt ..|.fn ..|.agg _|.DX _=>false
 | _=>true
def cC:AV->Bool
 | .agg cs=>cs.all NM
 | v=>NM v
def cg:AV->Bool
 | .DX cs=>cs.all cC
 | v=>cC v
theorem R4 {F':Nat->Prop}{x:AV}{v:Value}(hx:NM x=true)(h:Ae F w os x v):Ae F' w os x v:=by
 cases x<;>simp only[NM,mF]at hx<;>simp only[Ae]at h⊢<;>exact h
theorem VW {F':Nat->Prop}{x:AV}{v:Value}(hx:cC x=true)(h:Ae F w os x v):Ae F' w os x v:=by
 cases x with
 | agg cs=>
  simp only[Ae]at h⊢;obtain⟨us,e,hl⟩:=h;refine⟨us,e,Ds (BJ hl) λi x u tR hu=>?_⟩;obtain⟨u',e1,e2⟩:=CD hl i x tR;rw[hu]at e1;cases e1;exact R4 (mL.1 hx x (mB tR)) e2
 | _=>exact R4 hx h
theorem dG {F':Nat->Prop}{x:AV}{v:Value}(hx:cg x=true)(h:Ae F w os x v):Ae F' w os x v:=by
 cases x with
 | DX cs=>
  simp only[Ae]at h⊢;obtain⟨us,e,hl⟩:=h;refine⟨us,e,Ds (BJ hl) λi x u tR hu=>?_⟩;obtain⟨u',e1,e2⟩:=CD hl i x tR;rw[hu]at e1;cases e1;exact VW (mL.1 hx x (mB tR)) e2
 | _=>exact VW hx h
theorem Rel.join {F0 F':Nat->Prop}{w':World}{rj:List Own}{st1:List Row}(hr:Rel F0 os s a w')(hs:GU F' rj st1 w')(hFF :∀b,F0 b->F' b)(hp :∀row∈st1,DF row.xs)
  (hscal:(∀b,F' b->F0 b)∨∀row∈st1,∀x∈row.xs,∀c∈x,NM c=true) (sJ :∀(i:Nat) (o:Own),os[i]?=some o->∀b,o.owns b->∀o1:Own,o1∈rj->¬ o1.owns b) :
  Rel F0 (os++rj) { s with st:=s.st++st1 } a w':=by
 have rq:Ex os (os++rj):=Ex.append os rj;have rC:∀x v,Ae F0 w' os x v->Ae F0 w' (os++rj) x v:=λx v h=>EJ (λ_ h=>h) (λ_ _=>rfl) os _ rq x v h;have rD:∀(i:Nat) (o:Own),(os++rj)[i]?=some o->(i<os.length/\os[i]?=some o)∨(os.length<=i/\rj[i-os.length]?=some o):=λi o h=>by
  by_cases hi:i<os.length
  ·rw[mM hi]at h;exact .inl ⟨hi,h⟩
  ·rw[mP (by omega)]at h;exact .inr ⟨by omega,h⟩
 refine⟨by rw[mu,hr.st,hs.st],λt=>rC _ _ (hr.env t),hr.size,λi o ho=>?_,λi j oi oj b hi hj sS sj=>?_,hr.F6,hr.defers⟩
 ·rcases rD i o ho with ⟨_,h⟩|⟨_,h⟩
  ·have qu:=hr.rows i o h;refine⟨qu.pos,qu.lens,qu.none,λb hb=>?_,qu.mo,qu.deep⟩;obtain⟨e1,cur,e2,e3,e4,e5,e6⟩:=qu.some b hb;exact⟨e1,cur,e2,e3,e4,e5,λi' x hx j c hc=>by obtain⟨u,f1,f2⟩:=e6 i' x hx j c hc;exact⟨u,f1,rC _ _ f2⟩⟩
  ·have qu:=hs.rows _ o h;refine⟨qu.pos,qu.lens,qu.none,λb hb=>?_,λb hb=>⟨λhF=>(qu.mo b hb).1 (hFF b hF),(qu.mo b hb).2⟩,qu.deep⟩;obtain⟨e1,cur,e2,e3,e4,e5,e6⟩:=qu.some b hb;refine⟨λhF=>e1 (hFF b hF),cur,e2,e3,e4,e5,λi' x hx j c hc=>?_⟩;obtain⟨u,f1,f2⟩:=e6 i' x hx j c hc;have qo:o.row∈st1:=by rw[<- hs.st];exact mU.2 ⟨o,mB h,rfl⟩
   have hsim:=hp o.row qo x (mB hx) c (mB hc);have f3:=YD hsim (os++rj) f2;refine⟨u,f1,?_⟩;rcases hscal with h1|h1
   ·exact EJ h1 (λ_ _=>rfl) _ _ (Ex.refl _) c u f3
   ·exact R4 (h1 o.row qo x (mB hx) c (mB hc)) f3
 ·rcases rD i oi hi with ⟨_,h⟩|⟨_,h⟩<;>rcases rD j oj hj with ⟨_,h'⟩|⟨_,h'⟩
  ·exact hr.inj i j oi oj b h h' sS sj
  ·exact absurd sj (sJ i oi h b sS oj (mB h'))
  ·exact absurd sS (sJ j oj h' b sj oi (mB h))
  ·have:=hs.inj _ _ oi oj b h h' sS sj;omega
theorem WJ {f:FuncId}{args:List AV}{d:Option Tmp}{K:St->Prop}{R:AV->List Row->Prop}(h:AS P f args [] R)(hf:args.all flat=true)
  (hK :∀r st',R r st'->(∀row∈st',DF row.xs)/\K ({ s with st:=s.st++st' }.put d (shift s.st.length r))):callThen P k s f args d K:=by
 intro F os a w vs hr hl;refine (h F [] w vs (GU.nil hr.F6) (Rs hf [] hl)).mono ?_;rintro e w' ⟨u,r,st',F',rj,rfl,hR,hs,hru,he⟩;obtain⟨hp,hk⟩:=hK r st' hR;obtain⟨h1,h2,_,sJ⟩:=hr.after (k:=k) he hs.F6;refine⟨u,_,s.st++st',F',os++rj,rfl,hk,h1.join hs (λ_ h=>h) hp (.inl λ_ h=>h) sJ,?_,?_⟩
 ·rw[hr.len];exact Vk hru
 ·refine⟨h2.sys,h2.tape,h2.output,h2.size,h2.OO,h2.H8,λb hb e1 e2=>?_,λi o hi ho=>?_⟩
  ·obtain⟨f1,f2,f3⟩:=he.other b hb e1 (by simp);exact⟨f1,f2,λo ho=>by rcases my.1 ho with h|h;exact e2 o h;exact f3 o h⟩
  ·exact Ex.append os rj i o ho
mutual
def Ox:AV->AV
 | .dv _ _ xs=>.sl (J8 xs)
 | c=>c
def J8:List (List AV)->List (List AV)
 | []=>[]
 | x::r=>Hh x::J8 r
def Hh:List AV->List AV
 | []=>[]
 | c::r=>Ox c::Hh r
end
theorem OR:∀x:List AV,Hh x=x.map Ox
 | []=>by simp[Hh]
 | c::r=>by simp[Hh,OR r]
theorem II:∀xs:List (List AV),J8 xs=xs.map Hh
 | []=>by simp[J8]
 | x::r=>by simp[J8,II r]
theorem UM {c:AV}(h:simple c=true):Ox c=c:=by cases c<;>simp_all [simple,Ox]
mutual
theorem UF {S F:Nat->Prop}{w:World}(hS :∀b,S b->F b):∀(x:AV) (v:Value),ED S w x v->Ae F w [] (Ox x) v/\(Ox x).leaf=true
 | .dv el size xs,v,h=>by
  simp only[ED]at h;obtain⟨hp,h⟩:=h;simp only[Ox,Ae,AV.leaf,and_true];rcases h with ⟨rfl,a,rfl⟩|⟨b,cap,cur,rfl,h2,h3,h4,h5,h6,h7,h8⟩
  ·exact⟨a,0,by simp[J8],by simp[J8],by simp[J8]⟩
  ·refine⟨_,cap,by simp[II],by simpa [II] using h2,λ_=>⟨b,0,size,rfl,hS b h4,λx hx=>?_,V8 (S:=λc=>S c/\c≠b) (λc hc=>hS c hc.1) h5 xs 0 h8⟩⟩;rw[II]at hx;obtain⟨y,hy,rfl⟩:=mU.1 hx;rw[OR,mO];exact h7 y hy
 | .int _ _,_,h=>by simpa [ED,Ox,Ae,AV.leaf] using h
 | .bool _,_,h=>by simpa [ED,Ox,Ae,AV.leaf] using h
 | .str _,_,h=>by simpa [ED,Ox,Ae,AV.leaf] using h
 | .zc,_,h=>by simpa [ED,Ox,Ae,AV.leaf] using h
 | .RW,_,h=>by simpa [ED,Ox,Ae,AV.leaf] using h
 | .RZ,_,h=>by simpa [ED,Ox,Ae,AV.leaf] using h
 | .FN,_,h=>by simp[ED]at h
 | .un,_,h=>by simp[ED]at h
 | .sl _,_,h=>by simp[ED]at h
 | .own ..,_,h=>by simp[ED]at h
 | .ptr ..,_,h=>by simp[ED]at h
 | .Bt ..,_,h=>by simp[ED]at h
 | .fn ..,_,h=>by simp[ED]at h
 | .agg _,_,h=>by simp[ED]at h
 | .DX _,_,h=>by simp[ED]at h
theorem V8 {S F:Nat->Prop}{w:World}(hS :∀b,S b->F b){b:Nat}{cur:Array Value}{el:TypeId}(rE:w.heap[b]?=some (.cells cur el (0,0))):∀(xs:List (List AV)) (o:Nat),Lp S w xs cur o->Gj F w (J8 xs) b o
 | [],_,_=>by simp[J8,Gj]
 | x::r,o,h=>by
  simp only[Lp]at h;simp only[J8,Gj];obtain⟨S1,S2,h1,h2,_,h4,h5⟩:=h;have hl:(Hh x).length=x.length:=by rw[OR,mO]
  rw[hl];exact⟨Vx (λc hc=>hS c (h1 c hc)) rE x o h4,V8 (λc hc=>hS c (h2 c hc)) rE r _ h5⟩
theorem Vx {S F:Nat->Prop}{w:World}(hS :∀b,S b->F b){b:Nat}{cur:Array Value}{el:TypeId}(rE:w.heap[b]?=some (.cells cur el (0,0))):∀(xs:List AV) (o:Nat),Lq S w xs cur o->Ew F w (Hh xs) b o
 | [],_,_=>by simp[Hh,Ew]
 | x::r,o,h=>by
  simp only[Lq]at h;simp only[Hh,Ew];obtain⟨S1,S2,h1,h2,_,⟨u,h4,h5⟩,h6⟩:=h;obtain⟨g1,g2⟩:=UF (λc hc=>hS c (h1 c hc)) x u h5;exact⟨⟨u,by rw[oE w b _ cur _ _ rE];exact h4,g2,g1⟩,Vx (λc hc=>hS c (h2 c hc)) rE r _ h6⟩
end
def TC (st:List Row):AV->AV
 | .own id g n=>match st[id]? with
  | some row=>if row.gen=g then .sl (J8 (row.xs.drop (row.xs.length-n))) else .FN
  | none=>.FN
 | v=>v
def Hd (st:List Row):AV->AV
 | .agg cs=>.agg (cs.map (TC st))
 | v=>TC st v
def Qo (args:List AV)(id g n:Nat):Prop:=AV.own id g n∈args∨∃cs,AV.agg cs∈args/\AV.own id g n∈cs
def SV (F:Nat->Prop)(os:List Own)(args:List AV)(b:Nat):Prop:=F b∨∃id g n o,Qo args id g n/\os[id]?=some o/\o.owns b
theorem eK (hr:Rel F os s a w){F1:Nat->Prop}(xN :∀b,F b->F1 b){id g n:Nat}{o:Own}(ho:os[id]?=some o)(hl :∀b,o.owns b->F1 b)(xO:DF o.row.xs){u:Value}
  (e2:Ae F w os (.own id g n) u) (hg:o.row.gen=g):Ae F1 w os (.sl (J8 (o.row.xs.drop (o.row.xs.length-n)))) u:=by
 have qu:=hr.rows id o ho;have hm:∀x v,Ae F w os x v->Ae F1 w os x v:=λx v h=>EJ xN (λ_ _=>rfl) os os (Ex.refl os) x v h;simp only[Ae]at e2⊢;obtain⟨o',rW,_,_,e2⟩:=e2;rw[ho]at rW;cases rW;obtain⟨hn,hv⟩:=e2 hg;have hlen:(J8 (o.row.xs.drop (o.row.xs.length-n))).length=n:=by simp[II];omega
 rcases hv with ⟨hb,ad,rfl⟩|⟨b,hb,rfl⟩
 ·have:=(qu.none hb).1;rw[this]at hn;simp only[nN,pg]at hn;subst hn;exact⟨ad,0,by simp[II],by simp[II],by simp[II]⟩
 ·obtain⟨_,cur,rE,rP,hle,_,rF⟩:=qu.some b hb;have hls:∀x∈J8 (o.row.xs.drop (o.row.xs.length-n)),x.length=o.row.size:=λx hx=>by
   rw[II]at hx;obtain⟨y,hy,rfl⟩:=mU.1 hx;rw[OR,mO];exact (qu.lens y (oD hy)).1
  refine⟨_,o.cap-(o.row.xs.length-n),by rw[hlen],by rw[hlen];omega,λ_=>⟨b,(o.row.xs.length-n)*o.row.size,o.row.size,rfl,hl b (.inl hb),hls,?_⟩⟩;refine Jc hls λi x hx=>Ii λj c hc=>?_;rw[II,mG,mK]at hx;obtain⟨x0,hx0,rfl⟩:=hx;rw[OR,mG,mK]at hc;obtain⟨c0,tK,rfl⟩:=hc;rw[nP]at hx0
  ·have hsi:=xO x0 (mB hx0) c0 (mB tK);have hk:=(qu.lens x0 (mB hx0)).2 c0 (mB tK);by_cases hd :∃el sz ys,c0=.dv el sz ys
   ·obtain⟨el,sz,ys,rfl⟩:=hd;obtain⟨D,d1,_,d3⟩:=qu.deep;obtain⟨u,f1,f2⟩:=d3 b hb cur _ _ rE _ x0 j el sz ys hx0 tK;obtain⟨g1,g2⟩:=UF (F:=F1) (λc hc=>hl c (.inr (d1 _ _ _ hc))) _ u f2;exact⟨u,by rw[oE w b _ cur _ _ rE,<- nJ];exact f1,g2,g1⟩
   ·have hs:simple c0=true:=by cases c0<;>simp_all [Em]
    rw[UM hs];obtain⟨u,f1,f2⟩:=rF _ x0 hx0 j c0 tK;refine⟨u,?_,by cases c0<;>simp_all [AV.kept],IW hs [] (hm _ _ f2)⟩;rw[oE w b _ cur _ _ rE,<- nJ];exact f1
theorem cF (hr:Rel F os s a w){args:List AV}{vs:List Value}(hl:Ba F w os args vs)(vF :∀id g n,Qo args id g n->∀row,s.st[id]?=some row->DF row.xs):
  Ba (SV F os args) w os (args.map (Hd s.st)) vs:=by
 have xN:∀b,F b->SV F os args b:=λ_ h=>.inl h;have hm:∀x v,Ae F w os x v->Ae (SV F os args) w os x v:=λx v h=>EJ xN (λ_ _=>rfl) os os (Ex.refl os) x v h;have h0:∀y u,(∀id g n,y=AV.own id g n->Qo args id g n)->Ae F w os y u->Ae (SV F os args) w os (TC s.st y) u:=λy u su e2=>by
  cases y with
  | own id g n=>
   simp only[TC];split
   ·rename_i row qo;split
    ·rename_i hg;obtain⟨o,ho,rfl⟩:=hr.row qo;exact eK hr xN ho (λb hb=>.inr ⟨id,g,n,o,su id g n rfl,ho,hb⟩) (vF id g n (su id g n rfl) o.row qo) e2 hg
    ·simp[Ae]
   ·simp[Ae]
  | _=>exact hm _ _ e2
 refine Ds (by simp[BJ hl]) λi x u hx hu=>?_;simp only[mG,mK]at hx;obtain⟨y,hy,rfl⟩:=hx;obtain⟨u',e1,e2⟩:=CD hl i y hy;rw[hu]at e1;cases e1;have hym:=mB hy;cases y with
 | agg cs=>
  simp only[Hd,Ae]at e2⊢;obtain⟨us,e,sQ⟩:=e2;refine⟨us,e,Ds (by simp[BJ sQ]) λj x u hx hu=>?_⟩;simp only[mG,mK]at hx;obtain⟨y,hy,rfl⟩:=hx;obtain⟨u',e1,e2⟩:=CD sQ j y hy;rw[hu]at e1;cases e1;exact h0 y u (λid g n e=>.inr ⟨cs,hym,e▸mB hy⟩) e2
 | own id g n=>exact h0 _ u (λsH g' n' e=>.inl (e▸hym)) e2
 | _=>exact hm _ _ e2
theorem YH {P:Program}{s:St}{f:FuncId}{args:List AV}{R:AV->List Row->Prop}{k:Nat}(h:AS P f (args.map (Hd s.st)) [] R)(hf:(args.map (Hd s.st)).all flat=true)
  (vF :∀id g n,Qo args id g n->∀row,s.st[id]?=some row->DF row.xs) {F:Nat->Prop} {os:List Own} {a:Act} {w:World} {vs:List Value} (hr:Rel F os s a w) (hl:Ba F w os args vs) :
  Calls P f vs.toArray w λe w'=>∃u r st' F' rj,e=.returned u/\R r st'/\Rel F os s a w'/\GU F' rj st' w'/\Ae F' w' rj r u/\(∀b,F b->F' b)/\Ext F os w F os w' k/\
   (∀(i:Nat) (o:Own),os[i]?=some o->∀b,o.owns b->∀o1:Own,o1∈rj->¬ o1.owns b)/\∀b,b<w.heap.size->¬ F b->(∀o:Own,o∈os->¬ o.owns b)->∀o1:Own,o1∈rj->¬ o1.owns b:=by
 have xN:∀b,F b->SV F os args b:=λ_ h=>.inl h;have rJ:∀(i:Nat) (o:Own) b,os[i]?=some o->o.owns b->b<w.heap.size:=λi o b hi hb=>(hr.rows i o hi).lt hb;have hold1:∀b,SV F os args b->b<w.heap.size:=λb hb=>by
  rcases hb with hb|⟨id,g,n,o,_,ho,uO⟩
  ·exact hr.F6 b hb
  ·exact rJ id o b ho uO
 have sI:=cF hr hl vF;refine (h (SV F os args) [] w vs (GU.nil hold1) (Rs hf [] sI)).mono ?_;rintro e w' ⟨u,r,st',F',rj,rfl,hR,hs,hru,he⟩;have qo:∀(i:Nat) (o:Own),os[i]?=some o->∀b,o.owns b->w'.heap[b]?=w.heap[b]?/\∀o1:Own,o1∈rj->¬ o1.owns b:=λi o ho b hb=>by
  by_cases h1:SV F os args b
  ·refine⟨he.H8 b h1,λo1 xg e=>?_⟩;obtain⟨j,hj⟩:=ma.1 xg;exact (hs.rows j o1 hj).nF e (he.OO b h1)
  ·obtain⟨f1,_,f3⟩:=he.other b (rJ i o b ho hb) h1 (by simp);exact⟨f1,f3⟩
 have rC:∀x v,Ae F w os x v->Ae F w' os x v:=λx v h=>EJ (λ_ h=>h) (λb hb=>he.H8 b (xN b hb)) os os (Ex.refl os) x v h;have sx:Rel F os s a w':=⟨hr.st,λt=>rC _ _ (hr.env t),hr.size,λi o ho=>by
   have qu:=hr.rows i o ho;refine⟨qu.pos,qu.lens,qu.none,λb hb=>?_,λb hb=>⟨(qu.mo b hb).1,nL (qu.mo b hb).2.1 he.size,(qu.mo b hb).2.2⟩,qu.deep.keep rfl (λ_ h=>h) rfl (λb hb=>(qo i o ho b hb).1) (λi x j e s ys hx hc=>⟨x,hx,hc⟩)⟩;obtain⟨e1,cur,e2,e3,e4,e5,e6⟩:=qu.some b hb;exact⟨e1,cur,by rw[(qo i o ho b (.inl hb)).1];exact e2,e3,e4,e5,λi' x hx j c hc=>by obtain⟨u,f1,f2⟩:=e6 i' x hx j c hc;exact⟨u,f1,rC _ _ f2⟩⟩,
  hr.inj,λb hb=>nL (hr.F6 b hb) he.size,hr.defers⟩
 have uV:∀b,b<w.heap.size->¬ F b->(∀o:Own,o∈os->¬ o.owns b)->w'.heap[b]?=w.heap[b]?/\∀o1:Own,o1∈rj->¬ o1.owns b:=λb hb e1 e2=>by
  have hnF1:¬ SV F os args b:=λh=>h.elim e1 (λ⟨id,g,n,o,_,ho,uO⟩=>e2 o (mB ho) uO);obtain⟨f1,_,f3⟩:=he.other b hb hnF1 (by simp);exact⟨f1,f3⟩
 exact⟨u,r,st',F',rj,rfl,hR,sx,hs,hru,λb hb=>he.OO b (xN b hb),
  ⟨he.sys,he.tape,he.output,he.size,λ_ h=>h,λb hb=>he.H8 b (xN b hb),λb hb e1 e2=>⟨(uV b hb e1 e2).1,e1,e2⟩,λi o _ ho=>⟨o,ho,mS _,rfl,λ_=>⟨rfl,rfl,rfl⟩⟩⟩,
  λi o ho b hb=>(qo i o ho b hb).2,λb hb e1 e2=>(uV b hb e1 e2).2⟩
theorem OM {f:FuncId}{args:List AV}{d:Option Tmp}{K:St->Prop}{R:AV->List Row->Prop}(h:AS P f (args.map (Hd s.st)) [] R)(hf:(args.map (Hd s.st)).all flat=true)
  (vF :∀id g n,Qo args id g n->∀row,s.st[id]?=some row->DF row.xs)
  (hK :∀r st',R r st'->(cg r=true/\∀row∈st',∀x∈row.xs,∀c∈x,NM c=true)/\(∀row∈st',DF row.xs)/\K ({ s with st:=s.st++st' }.put d (shift s.st.length r))):callThen P k s f args d K:=by
 intro F os a w vs hr hl;refine (YH (k:=k) h hf vF hr hl).mono ?_;rintro e w' ⟨u,r,st',F',rj,rfl,hR,sx,hs,hru,hFF,he,sJ,uV⟩;obtain⟨⟨hsr,hsc⟩,hp,hk⟩:=hK r st' hR;refine⟨u,_,s.st++st',F,os++rj,rfl,hk,sx.join hs hFF hp (.inr hsc) sJ,?_,?_⟩
 ·rw[hr.len];exact Vk (dG hsr hru)
 ·refine⟨he.sys,he.tape,he.output,he.size,λ_ h=>h,he.H8,λb hb e1 e2=>?_,λi o hi ho=>Ex.append os rj i o ho⟩;obtain⟨f1,_,_⟩:=he.other b hb e1 e2;exact⟨f1,e1,λo ho=>by rcases my.1 ho with h|h;exact e2 o h;exact uV b hb e1 e2 o h⟩
end Go.Abs
