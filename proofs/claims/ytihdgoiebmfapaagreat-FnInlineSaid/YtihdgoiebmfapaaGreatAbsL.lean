import Derived.Test.YtihdgoiebmfapaaGreatAbsK
set_option linter.all false
namespace Go.Abs
open Go
variable {P : Program} {F : Nat -> Prop} {os : List Own} {s : St} {a : Act} {w : World} {k : Nat}
def H9 (id g:Nat)(xs:List (List AV)):AV->AV
 |.own vI g' n=>if vI=id/\g'=g then .sl (xs.drop (xs.length-n)) else .own vI g' n
 |.ptr vI g' i off=>if vI=id/\g'=g then (match xs[i]? with|some x=>.C8 x off|none=>.FY) else .ptr vI g' i off
 |v=>v
def BY (id g:Nat)(xs:List (List AV)):AV->AV
 |.agg cs=>.agg (cs.map (H9 id g xs))
 |.DF cs=>.DF (cs.map (H9 id g xs))
 |v=>H9 id g xs v
def ES (xs:List (List AV)):Prop:=∀x∈xs,∀c∈x,simple c=true
def DG (xs:List (List AV)):Prop:=∀x∈xs,∀c∈x,E6 c=true
theorem ES.any {xs:List (List AV)}(h:ES xs):DG xs:=λx hx c hc=>Px (h x hx c hc)
theorem Wk.freeze {id:Nat}{row:Row}(xB:k<=id)(tw:s.st[id]?=some row)(hp:ES row.xs):
  Wk k s ⟨s.n,λt=>BY id row.gen row.xs (s.env t),s.st.set id { row with gen:=row.gen+1,xs:=[] }⟩:=λF os a w hr=>by
 obtain⟨o,ho,rfl⟩:=hr.row tw;have uA:=hr.rows id o ho;have yO:∀x∈o.row.xs,∀c∈x,c.leaf=true:=λx hx c hc=>by
  have h1:=hp x hx c hc;have h2:=(uA.lens x hx).2 c hc;cases c<;>simp_all [simple,AV.leaf,AV.kept]
 refine⟨λb=>F b∨o.GC=some b,os.set id ⟨{ o.row with gen:=o.row.gen+1,xs:=[] },none,0,o.more⟩,?_,?_⟩
 case refine_2=>
  refine⟨rfl,rfl,rfl,pM _,λ_ h=>.inl h,λ_ _=>rfl,λb _ h1 h2=>⟨rfl,λh=>h.elim h1 (λe=>h2 o (oz ho) (.inl e)),λo' uz=>?_⟩,λi oi hi xM=>⟨oi,?_,pM _,rfl,λ_=>⟨rfl,rfl,rfl⟩⟩⟩
  .rcases qV uz with h|rfl
   .exact h2 o' h
   .intro hh;rcases hh with hh|hh
    .simp at hh
    .exact h2 o (oz ho) (.inr hh)
  .rw[pf (by omega)];exact xM
 have hF:∀b,F b->(λb=>F b∨o.GC=some b) b:=λ_ h=>.inl h;have vQ:Fv os (os.set id ⟨{ o.row with gen:=o.row.gen+1,xs:=[] },none,0,o.more⟩):=Fv.set ho (by simp) rfl (λe=>by simp at e);have uH:∀x v,Ab F w os x v->Ab (λb=>F b∨o.GC=some b) w (os.set id ⟨{ o.row with gen:=o.row.gen+1,xs:=[] },none,0,o.more⟩) x v:=λx v h=>
  DW hF (λ_ _=>rfl) os _ vQ x v h
 have vL:∀x∈o.row.xs,∀c∈x,∀u,Ab F w os c u->Ab (λb=>F b∨o.GC=some b) w [] c u:=λx hx c hc u hu=>
  DW hF (λ_ _=>rfl) [] [] (by simp) c u (GJ (hp x hx c hc) [] hu)
 have h1:∀x v,Ab F w os x v->Ab (λb=>F b∨o.GC=some b) w (os.set id ⟨{ o.row with gen:=o.row.gen+1,xs:=[] },none,0,o.more⟩) (H9 id o.row.gen o.row.xs x) v:=λx v h=>by
  cases x with
  |own vI g' n=>
   simp only[H9];split
   .rename_i hif;obtain⟨rfl,rfl⟩:=hif;simp only[Ab]at h⊢;obtain⟨o',uz,_,_,h⟩:=h;rw[ho]at uz;cases uz;obtain⟨hn,hv⟩:=h rfl;have hlen:(o.row.xs.drop (o.row.xs.length-n)).length=n:=by simp;omega
    rcases hv with ⟨hb,ad,rfl⟩|⟨b,hb,rfl⟩
    .have:=(uA.none hb).1;rw[this]at hn;simp only[qj,sx]at hn;subst hn;exact⟨ad,0,by simp,by simp,by simp⟩
    .obtain⟨_,cur,uP,uf,hle,_,uL⟩:=uA.some b hb;refine⟨_,o.cap-(o.row.xs.length-n),by rw[hlen],by rw[hlen];omega,λ_=>⟨b,(o.row.xs.length-n)*o.row.size,o.row.size,rfl,.inr hb,λx hx=>(uA.lens x (rA hx)).1,?_⟩⟩;refine MF (λx hx=>(uA.lens x (rA hx)).1) λi x hx=>Lg λj c hc=>?_;have vx:=oz hx;rw[qI]at hx;obtain⟨u,e1,e2⟩:=uL _ x hx j c hc;refine⟨u,?_,yO x (oz hx) c (oz hc),vL x (oz hx) c (oz hc) u e2⟩;rw[rl w b _ cur _ _ uP];rw[<- px];exact e1
   .exact uH _ _ h
  |ptr vI g' i off=>
   simp only[H9];split
   .rename_i hif;obtain⟨rfl,rfl⟩:=hif;simp only[Ab]at h;obtain⟨o',uz,_,_,h⟩:=h;rw[ho]at uz;cases uz;obtain⟨hi,_,b,hb,rfl⟩:=h rfl;rw[pG hi];obtain⟨_,cur,uP,uf,hle,_,uL⟩:=uA.some b hb;simp only[Ab];refine⟨b,i*o.row.size,rfl,.inr hb,Lg λj c hc=>?_⟩;have hm:=rb hi;obtain⟨u,e1,e2⟩:=uL i _ (pG hi) j c hc;refine⟨u,?_,yO _ hm c (oz hc),vL _ hm c (oz hc) u e2⟩;rw[rl w b _ cur _ _ uP];exact e1
   .exact uH _ _ h
  |_=>exact uH _ _ h
 have hL:∀xs us,Br F w os xs us->Br (λb=>F b∨o.GC=some b) w (os.set id ⟨{ o.row with gen:=o.row.gen+1,xs:=[] },none,0,o.more⟩) (xs.map (H9 id o.row.gen o.row.xs)) us:=λxs us h=>
  DZ (by simp[BV h]) λi x u hx hu=>by
   simp only[pC,pI]at hx;obtain⟨y,hy,rfl⟩:=hx;obtain⟨u',e1,e2⟩:=CH h i y hy;rw[hu]at e1;cases e1;exact h1 _ _ e2
 have uF:∀(i:Nat) (oi:Own),(os.set id ⟨{ o.row with gen:=o.row.gen+1,xs:=[] },none,0,o.more⟩)[i]?=some oi->(i≠id/\os[i]?=some oi)∨(i=id/\oi=⟨{ o.row with gen:=o.row.gen+1,xs:=[] },none,0,o.more⟩):=λi oi hi=>by
  by_cases e:i=id
  .subst e;rw[pP (pB.1 ho).1,pD]at hi;exact .inr ⟨rfl,hi.symm⟩
  .rw[pf (qw e)]at hi;exact .inl ⟨e,hi⟩
 refine⟨by rw[rO,hr.st],λt=>?_,hr.size,λi oi hi=>?_,λi j oi oj b hi hj wK wL=>?_,λb hb=>?_,hr.defers⟩
 .have:=hr.env t;simp only;generalize s.env t=x at this⊢;cases x with
  |agg cs=>simp only[BY,Ab]at this⊢;obtain⟨us,e,h⟩:=this;exact⟨us,e,hL _ _ h⟩
  |DF cs=>simp only[BY,Ab]at this⊢;obtain⟨us,e,h⟩:=this;exact⟨us,e,hL _ _ h⟩
  |_=>exact h1 _ _ this
 .rcases uF i oi hi with ⟨uu,h⟩|⟨_,rfl⟩
  .have wU:=hr.rows i oi h;refine⟨wU.pos,wU.lens,wU.none,λb hb=>?_,λb hb=>⟨λhF=>hF.elim (wU.mo b hb).1 (λxO=>uu (hr.inj i id oi o b h ho (.inr hb) (.inl xO))),(wU.mo b hb).2⟩,wU.deep⟩;obtain⟨e1,cur,e2,e3,e4,e5,e6⟩:=wU.some b hb;refine⟨λhF=>hF.elim e1 (λxO=>uu (hr.inj i id oi o b h ho (.inl hb) (.inl xO))),cur,e2,e3,e4,e5,λi' x hx j c hc=>?_⟩;obtain⟨u,f1,f2⟩:=e6 i' x hx j c hc;exact⟨u,f1,uH _ _ f2⟩
  .exact⟨uA.pos,by simp,by simp,by simp,λb hb=>⟨λhF=>hF.elim (uA.mo b hb).1 (uA.mo b hb).2.2,(uA.mo b hb).2.1,by simp⟩,EK (by simp)⟩
 .rcases uF i oi hi with ⟨uu,h⟩|⟨h,rfl⟩<;>rcases uF j oj hj with ⟨hne',h'⟩|⟨h',rfl⟩
  .exact hr.inj i j oi oj b h h' wK wL
  .exact hr.inj i j oi o b h (h'▸ho) wK (wL.elim (λe=>by simp at e) .inr)
  .exact hr.inj i j o oj b (h▸ho) h' (wK.elim (λe=>by simp at e) .inr) wL
  .omega
 .rcases hb with hb|hb
  .exact hr.Fp b hb
  .obtain⟨_,cur,uP,_⟩:=uA.some b hb;exact (py.1 uP).1
def Nv (m:Nat):AV->AV
 |.own id g n=>.own (id+m) g n
 |.ptr id g i off=>.ptr (id+m) g i off
 |.fn ..|.agg _|.DF _=>.FY
 |v=>v
def RY (m:Nat)(x:AV):AV:=two (Nv m) x
def shift (m:Nat):AV->AV
 |.fn f cs=>.fn f (cs.map (RY m))
 |.agg cs=>.agg (cs.map (RY m))
 |.DF cs=>.DF (cs.map (RY m))
 |v=>RY m v
theorem dR {vE:List Own}{x:AV}{v:Value}(h:Ab F w vE x v):Ab F w (os++vE) (Nv os.length x) v:=by
 have uF:∀id,(os++vE)[id+os.length]?=vE[id]?:=λid=>by rw[pO (by omega)];congr 1;omega
 cases x with
 |own id g n=>simp only[Nv,Ab]at h⊢;rw[uF];exact h
 |ptr id g i off=>simp only[Nv,Ab]at h⊢;rw[uF];exact h
 |fn f cs=>simp[Nv,Ab]
 |agg cs=>simp[Nv,Ab]
 |DF cs=>simp[Nv,Ab]
 |_=>simp only[Nv,Ab]at h⊢<;>exact h
theorem Vn {vE:List Own}{x:AV}{v:Value}(h:Ab F w vE x v):Ab F w (os++vE) (RY os.length x) v:=
 ML (λ_ _ h=>dR h) _ _ h
theorem PK {vE:List Own}{xs:List AV}{us:List Value}(h:Br F w vE xs us):Br F w (os++vE) (xs.map (RY os.length)) us:=
 DZ (by simp[BV h]) λi x u hx hu=>by
  simp only[pC,pI]at hx;obtain⟨y,hy,rfl⟩:=hx;obtain⟨u',e1,e2⟩:=CH h i y hy;rw[hu]at e1;cases e1;exact Vn e2
theorem Yb {vE:List Own}{x:AV}{v:Value}(h:Ab F w vE x v):Ab F w (os++vE) (shift os.length x) v:=by
 cases x with
 |fn f cs=>simp only[shift,Ab]at h⊢;obtain⟨us,e,hl⟩:=h;exact⟨us,e,PK hl⟩
 |agg cs=>simp only[shift,Ab]at h⊢;obtain⟨us,e,hl⟩:=h;exact⟨us,e,PK hl⟩
 |DF cs=>simp only[shift,Ab]at h⊢;obtain⟨us,e,hl⟩:=h;exact⟨us,e,PK hl⟩
 |_=>exact Vn h
def OO:AV->Bool
 |.sl _|.C8 ..|.fn ..|.agg _|.DF _=>false
 |_=>true
def ef:AV->Bool
 |.agg cs=>cs.all OO
 |v=>OO v
def gA:AV->Bool
 |.DF cs=>cs.all ef
 |v=>ef v
theorem Sq {F':Nat->Prop}{x:AV}{v:Value}(hx:OO x=true)(h:Ab F w os x v):Ab F' w os x v:=by
 cases x<;>simp only[OO,pF]at hx<;>simp only[Ab]at h⊢<;>exact h
theorem YM {F':Nat->Prop}{x:AV}{v:Value}(hx:ef x=true)(h:Ab F w os x v):Ab F' w os x v:=by
 cases x with
 |agg cs=>
  simp only[Ab]at h⊢;obtain⟨us,e,hl⟩:=h;refine⟨us,e,DZ (BV hl) λi x u xT hu=>?_⟩;obtain⟨u',e1,e2⟩:=CH hl i x xT;rw[hu]at e1;cases e1;exact Sq (pH.1 hx x (oz xT)) e2
 |_=>exact Sq hx h
theorem iO {F':Nat->Prop}{x:AV}{v:Value}(hx:gA x=true)(h:Ab F w os x v):Ab F' w os x v:=by
 cases x with
 |DF cs=>
  simp only[Ab]at h⊢;obtain⟨us,e,hl⟩:=h;refine⟨us,e,DZ (BV hl) λi x u xT hu=>?_⟩;obtain⟨u',e1,e2⟩:=CH hl i x xT;rw[hu]at e1;cases e1;exact YM (pH.1 hx x (oz xT)) e2
 |_=>exact YM hx h
theorem Rel.join {F0 F':Nat->Prop}{w':World}{vE:List Own}{st1:List Row}(hr:Rel F0 os s a w')(hs:Hh F' vE st1 w')(hFF :∀b,F0 b->F' b)(hp :∀row∈st1,DG row.xs)
  (hscal:(∀b,F' b->F0 b)∨∀row∈st1,∀x∈row.xs,∀c∈x,OO c=true) (ve :∀(i:Nat) (o:Own),os[i]?=some o->∀b,o.owns b->∀o1:Own,o1∈vE->¬ o1.owns b) :
  Rel F0 (os++vE) { s with st:=s.st++st1 } a w':=by
 have vQ:Fv os (os++vE):=Fv.append os vE;have uH:∀x v,Ab F0 w' os x v->Ab F0 w' (os++vE) x v:=λx v h=>DW (λ_ h=>h) (λ_ _=>rfl) os _ vQ x v h;have uF:∀(i:Nat) (o:Own),(os++vE)[i]?=some o->(i<os.length/\os[i]?=some o)∨(os.length<=i/\vE[i-os.length]?=some o):=λi o h=>by
  by_cases hi:i<os.length
  .rw[pN hi]at h;exact .inl ⟨hi,h⟩
  .rw[pO (by omega)]at h;exact .inr ⟨by omega,h⟩
 refine⟨by rw[qv,hr.st,hs.st],λt=>uH _ _ (hr.env t),hr.size,λi o ho=>?_,λi j oi oj b hi hj wK wL=>?_,hr.Fp,hr.defers⟩
 .rcases uF i o ho with ⟨_,h⟩|⟨_,h⟩
  .have uA:=hr.rows i o h;refine⟨uA.pos,uA.lens,uA.none,λb hb=>?_,uA.mo,uA.deep⟩;obtain⟨e1,cur,e2,e3,e4,e5,e6⟩:=uA.some b hb;exact⟨e1,cur,e2,e3,e4,e5,λi' x hx j c hc=>by obtain⟨u,f1,f2⟩:=e6 i' x hx j c hc;exact⟨u,f1,uH _ _ f2⟩⟩
  .have uA:=hs.rows _ o h;refine⟨uA.pos,uA.lens,uA.none,λb hb=>?_,λb hb=>⟨λhF=>(uA.mo b hb).1 (hFF b hF),(uA.mo b hb).2⟩,uA.deep⟩;obtain⟨e1,cur,e2,e3,e4,e5,e6⟩:=uA.some b hb;refine⟨λhF=>e1 (hFF b hF),cur,e2,e3,e4,e5,λi' x hx j c hc=>?_⟩;obtain⟨u,f1,f2⟩:=e6 i' x hx j c hc;have tw:o.row∈st1:=by rw[<- hs.st];exact pS.2 ⟨o,oz h,rfl⟩
   have hsim:=hp o.row tw x (oz hx) c (oz hc);have f3:=aE hsim (os++vE) f2;refine⟨u,f1,?_⟩;rcases hscal with h1|h1
   .exact DW h1 (λ_ _=>rfl) _ _ (Fv.refl _) c u f3
   .exact Sq (h1 o.row tw x (oz hx) c (oz hc)) f3
 .rcases uF i oi hi with ⟨_,h⟩|⟨_,h⟩<;>rcases uF j oj hj with ⟨_,h'⟩|⟨_,h'⟩
  .exact hr.inj i j oi oj b h h' wK wL
  .exact absurd wL (ve i oi h b wK oj (oz h'))
  .exact absurd wK (ve j oj h' b wL oi (oz h))
  .have:=hs.inj _ _ oi oj b h h' wK wL;omega
theorem X1 {f:FuncId}{args:List AV}{d:Option Tmp}{K:St->Prop}{R:AV->List Row->Prop}(h:BJ P f args [] R)(hf:args.all flat=true)
  (hK :∀r st',R r st'->(∀row∈st',DG row.xs)/\K ({ s with st:=s.st++st' }.put d (shift s.st.length r))):callThen P k s f args d K:=by
 intro F os a w vs hr hl;refine (h F [] w vs (Hh.nil hr.Fp) (S9 hf [] hl)).mono ?_;rintro e w' ⟨u,r,st',F',vE,rfl,hR,hs,hru,he⟩;obtain⟨hp,hk⟩:=hK r st' hR;obtain⟨h1,h2,_,ve⟩:=hr.after (k:=k) he hs.Fp;refine⟨u,_,s.st++st',F',os++vE,rfl,hk,h1.join hs (λ_ h=>h) hp (.inl λ_ h=>h) ve,?_,?_⟩
 .rw[hr.len];exact Yb hru
 .refine⟨h2.sys,h2.tape,h2.output,h2.size,h2.N7,h2.Iy,λb hb e1 e2=>?_,λi o hi ho=>?_⟩
  .obtain⟨f1,f2,f3⟩:=he.other b hb e1 (by simp);exact⟨f1,f2,λo ho=>by rcases pY.1 ho with h|h;exact e2 o h;exact f3 o h⟩
  .exact Fv.append os vE i o ho
mutual
def QG:AV->AV
 |.dv _ _ xs=>.sl (LN xs)
 |c=>c
def LN:List (List AV)->List (List AV)
 | []=>[]
 |x::r=>Ih x::LN r
def Ih:List AV->List AV
 | []=>[]
 |c::r=>QG c::Ih r
end
theorem Od:∀x:List AV,Ih x=x.map QG
 | []=>by simp[Ih]
 |c::r=>by simp[Ih,Od r]
theorem Ia:∀xs:List (List AV),LN xs=xs.map Ih
 | []=>by simp[LN]
 |x::r=>by simp[LN,Ia r]
theorem V5 {c:AV}(h:simple c=true):QG c=c:=by cases c<;>simp_all [simple,QG]
mutual
theorem VM {S F:Nat->Prop}{w:World}(hS :∀b,S b->F b):∀(x:AV) (v:Value),En S w x v->Ab F w [] (QG x) v/\(QG x).leaf=true
 |.dv el size xs,v,h=>by
  simp only[En]at h;obtain⟨hp,h⟩:=h;simp only[QG,Ab,AV.leaf,and_true];rcases h with ⟨rfl,a,rfl⟩|⟨b,cap,cur,rfl,h2,h3,h4,h5,h6,h7,h8⟩
  .exact⟨a,0,by simp[LN],by simp[LN],by simp[LN]⟩
  .refine⟨_,cap,by simp[Ia],by simpa [Ia] using h2,λ_=>⟨b,0,size,rfl,hS b h4,λx hx=>?_,Xk (S:=λc=>S c/\c≠b) (λc hc=>hS c hc.1) h5 xs 0 h8⟩⟩;rw[Ia]at hx;obtain⟨y,hy,rfl⟩:=pS.1 hx;rw[Od,pR];exact h7 y hy
 |.int _ _,_,h=>by simpa [En,QG,Ab,AV.leaf] using h
 |.bool _,_,h=>by simpa [En,QG,Ab,AV.leaf] using h
 |.str _,_,h=>by simpa [En,QG,Ab,AV.leaf] using h
 |.zc,_,h=>by simpa [En,QG,Ab,AV.leaf] using h
 |.SK,_,h=>by simpa [En,QG,Ab,AV.leaf] using h
 |.R9,_,h=>by simpa [En,QG,Ab,AV.leaf] using h
 |.FY,_,h=>by simp[En]at h
 |.un,_,h=>by simp[En]at h
 |.sl _,_,h=>by simp[En]at h
 |.own ..,_,h=>by simp[En]at h
 |.ptr ..,_,h=>by simp[En]at h
 |.C8 ..,_,h=>by simp[En]at h
 |.fn ..,_,h=>by simp[En]at h
 |.agg _,_,h=>by simp[En]at h
 |.DF _,_,h=>by simp[En]at h
theorem Xk {S F:Nat->Prop}{w:World}(hS :∀b,S b->F b){b:Nat}{cur:Array Value}{el:TypeId}(uP:w.heap[b]?=some (.cells cur el (0,0))):∀(xs:List (List AV)) (o:Nat),L4 S w xs cur o->H4 F w (LN xs) b o
 | [],_,_=>by simp[LN,H4]
 |x::r,o,h=>by
  simp only[L4]at h;simp only[LN,H4];obtain⟨S1,S2,h1,h2,_,h4,h5⟩:=h;have hl:(Ih x).length=x.length:=by rw[Od,pR]
  rw[hl];exact⟨XU (λc hc=>hS c (h1 c hc)) uP x o h4,Xk (λc hc=>hS c (h2 c hc)) uP r _ h5⟩
theorem XU {S F:Nat->Prop}{w:World}(hS :∀b,S b->F b){b:Nat}{cur:Array Value}{el:TypeId}(uP:w.heap[b]?=some (.cells cur el (0,0))):∀(xs:List AV) (o:Nat),Lx S w xs cur o->Fi F w (Ih xs) b o
 | [],_,_=>by simp[Ih,Fi]
 |x::r,o,h=>by
  simp only[Lx]at h;simp only[Ih,Fi];obtain⟨S1,S2,h1,h2,_,⟨u,h4,h5⟩,h6⟩:=h;obtain⟨g1,g2⟩:=VM (λc hc=>hS c (h1 c hc)) x u h5;exact⟨⟨u,by rw[rl w b _ cur _ _ uP];exact h4,g2,g1⟩,XU (λc hc=>hS c (h2 c hc)) uP r _ h6⟩
end
def TF (st:List Row):AV->AV
 |.own id g n=>match st[id]? with
  |some row=>if row.gen=g then .sl (LN (row.xs.drop (row.xs.length-n))) else .FY
  |none=>.FY
 |v=>v
def IA (st:List Row):AV->AV
 |.agg cs=>.agg (cs.map (TF st))
 |v=>TF st v
def Rb (args:List AV)(id g n:Nat):Prop:=AV.own id g n∈args∨∃cs,AV.agg cs∈args/\AV.own id g n∈cs
def Tt (F:Nat->Prop)(os:List Own)(args:List AV)(b:Nat):Prop:=F b∨∃id g n o,Rb args id g n/\os[id]?=some o/\o.owns b
theorem hU (hr:Rel F os s a w){F1:Nat->Prop}(hF1 :∀b,F b->F1 b){id g n:Nat}{o:Own}(ho:os[id]?=some o)(hl :∀b,o.owns b->F1 b)(hpr:DG o.row.xs){u:Value}
  (e2:Ab F w os (.own id g n) u) (hg:o.row.gen=g):Ab F1 w os (.sl (LN (o.row.xs.drop (o.row.xs.length-n)))) u:=by
 have uA:=hr.rows id o ho;have hm:∀x v,Ab F w os x v->Ab F1 w os x v:=λx v h=>DW hF1 (λ_ _=>rfl) os os (Fv.refl os) x v h;simp only[Ab]at e2⊢;obtain⟨o',uz,_,_,e2⟩:=e2;rw[ho]at uz;cases uz;obtain⟨hn,hv⟩:=e2 hg;have hlen:(LN (o.row.xs.drop (o.row.xs.length-n))).length=n:=by simp[Ia];omega
 rcases hv with ⟨hb,ad,rfl⟩|⟨b,hb,rfl⟩
 .have:=(uA.none hb).1;rw[this]at hn;simp only[qj,sx]at hn;subst hn;exact⟨ad,0,by simp[Ia],by simp[Ia],by simp[Ia]⟩
 .obtain⟨_,cur,uP,uf,hle,_,uL⟩:=uA.some b hb;have hls:∀x∈LN (o.row.xs.drop (o.row.xs.length-n)),x.length=o.row.size:=λx hx=>by
   rw[Ia]at hx;obtain⟨y,hy,rfl⟩:=pS.1 hx;rw[Od,pR];exact (uA.lens y (rA hy)).1
  refine⟨_,o.cap-(o.row.xs.length-n),by rw[hlen],by rw[hlen];omega,λ_=>⟨b,(o.row.xs.length-n)*o.row.size,o.row.size,rfl,hl b (.inl hb),hls,?_⟩⟩;refine MF hls λi x hx=>Lg λj c hc=>?_;rw[Ia,pC,pI]at hx;obtain⟨x0,hx0,rfl⟩:=hx;rw[Od,pC,pI]at hc;obtain⟨c0,wT,rfl⟩:=hc;rw[qI]at hx0
  .have hsi:=hpr x0 (oz hx0) c0 (oz wT);have hk:=(uA.lens x0 (oz hx0)).2 c0 (oz wT);by_cases hd :∃el sz ys,c0=.dv el sz ys
   .obtain⟨el,sz,ys,rfl⟩:=hd;obtain⟨D,d1,_,d3⟩:=uA.deep;obtain⟨u,f1,f2⟩:=d3 b hb cur _ _ uP _ x0 j el sz ys hx0 wT;obtain⟨g1,g2⟩:=VM (F:=F1) (λc hc=>hl c (.inr (d1 _ _ _ hc))) _ u f2;exact⟨u,by rw[rl w b _ cur _ _ uP,<- px];exact f1,g2,g1⟩
   .have hs:simple c0=true:=by cases c0<;>simp_all [E6]
    rw[V5 hs];obtain⟨u,f1,f2⟩:=uL _ x0 hx0 j c0 wT;refine⟨u,?_,by cases c0<;>simp_all [AV.kept],GJ hs [] (hm _ _ f2)⟩;rw[rl w b _ cur _ _ uP,<- px];exact f1
theorem eE (hr:Rel F os s a w){args:List AV}{vs:List Value}(hl:Br F w os args vs)(zD :∀id g n,Rb args id g n->∀row,s.st[id]?=some row->DG row.xs):
  Br (Tt F os args) w os (args.map (IA s.st)) vs:=by
 have hF1:∀b,F b->Tt F os args b:=λ_ h=>.inl h;have hm:∀x v,Ab F w os x v->Ab (Tt F os args) w os x v:=λx v h=>DW hF1 (λ_ _=>rfl) os os (Fv.refl os) x v h;have h0:∀y u,(∀id g n,y=AV.own id g n->Rb args id g n)->Ab F w os y u->Ab (Tt F os args) w os (TF s.st y) u:=λy u vR e2=>by
  cases y with
  |own id g n=>
   simp only[TF];split
   .rename_i row tw;split
    .rename_i hg;obtain⟨o,ho,rfl⟩:=hr.row tw;exact hU hr hF1 ho (λb hb=>.inr ⟨id,g,n,o,vR id g n rfl,ho,hb⟩) (zD id g n (vR id g n rfl) o.row tw) e2 hg
    .simp[Ab]
   .simp[Ab]
  |_=>exact hm _ _ e2
 refine DZ (by simp[BV hl]) λi x u hx hu=>?_;simp only[pC,pI]at hx;obtain⟨y,hy,rfl⟩:=hx;obtain⟨u',e1,e2⟩:=CH hl i y hy;rw[hu]at e1;cases e1;have hym:=oz hy;cases y with
 |agg cs=>
  simp only[IA,Ab]at e2⊢;obtain⟨us,e,vp⟩:=e2;refine⟨us,e,DZ (by simp[BV vp]) λj x u hx hu=>?_⟩;simp only[pC,pI]at hx;obtain⟨y,hy,rfl⟩:=hx;obtain⟨u',e1,e2⟩:=CH vp j y hy;rw[hu]at e1;cases e1;exact h0 y u (λid g n e=>.inr ⟨cs,hym,e▸oz hy⟩) e2
 |own id g n=>exact h0 _ u (λvI g' n' e=>.inl (e▸hym)) e2
 |_=>exact hm _ _ e2
theorem Z3 {P:Program}{s:St}{f:FuncId}{args:List AV}{R:AV->List Row->Prop}{k:Nat}(h:BJ P f (args.map (IA s.st)) [] R)(hf:(args.map (IA s.st)).all flat=true)
  (zD :∀id g n,Rb args id g n->∀row,s.st[id]?=some row->DG row.xs) {F:Nat->Prop} {os:List Own} {a:Act} {w:World} {vs:List Value} (hr:Rel F os s a w) (hl:Br F w os args vs) :
  Calls P f vs.toArray w λe w'=>∃u r st' F' vE,e=.returned u/\R r st'/\Rel F os s a w'/\Hh F' vE st' w'/\Ab F' w' vE r u/\(∀b,F b->F' b)/\Ext F os w F os w' k/\
   (∀(i:Nat) (o:Own),os[i]?=some o->∀b,o.owns b->∀o1:Own,o1∈vE->¬ o1.owns b)/\∀b,b<w.heap.size->¬ F b->(∀o:Own,o∈os->¬ o.owns b)->∀o1:Own,o1∈vE->¬ o1.owns b:=by
 have hF1:∀b,F b->Tt F os args b:=λ_ h=>.inl h;have uV:∀(i:Nat) (o:Own) b,os[i]?=some o->o.owns b->b<w.heap.size:=λi o b hi hb=>(hr.rows i o hi).lt hb;have hold1:∀b,Tt F os args b->b<w.heap.size:=λb hb=>by
  rcases hb with hb|⟨id,g,n,o,_,ho,xO⟩
  .exact hr.Fp b hb
  .exact uV id o b ho xO
 have yI:=eE hr hl zD;refine (h (Tt F os args) [] w vs (Hh.nil hold1) (S9 hf [] yI)).mono ?_;rintro e w' ⟨u,r,st',F',vE,rfl,hR,hs,hru,he⟩;have tw:∀(i:Nat) (o:Own),os[i]?=some o->∀b,o.owns b->w'.heap[b]?=w.heap[b]?/\∀o1:Own,o1∈vE->¬ o1.owns b:=λi o ho b hb=>by
  by_cases h1:Tt F os args b
  .refine⟨he.Iy b h1,λo1 ho1 e=>?_⟩;obtain⟨j,hj⟩:=pZ.1 ho1;exact (hs.rows j o1 hj).nF e (he.N7 b h1)
  .obtain⟨f1,_,f3⟩:=he.other b (uV i o b ho hb) h1 (by simp);exact⟨f1,f3⟩
 have uH:∀x v,Ab F w os x v->Ab F w' os x v:=λx v h=>DW (λ_ h=>h) (λb hb=>he.Iy b (hF1 b hb)) os os (Fv.refl os) x v h;have vf:Rel F os s a w':=⟨hr.st,λt=>uH _ _ (hr.env t),hr.size,λi o ho=>by
   have uA:=hr.rows i o ho;refine⟨uA.pos,uA.lens,uA.none,λb hb=>?_,λb hb=>⟨(uA.mo b hb).1,qM (uA.mo b hb).2.1 he.size,(uA.mo b hb).2.2⟩,uA.deep.keep rfl (λ_ h=>h) rfl (λb hb=>(tw i o ho b hb).1) (λi x j e s ys hx hc=>⟨x,hx,hc⟩)⟩;obtain⟨e1,cur,e2,e3,e4,e5,e6⟩:=uA.some b hb;exact⟨e1,cur,by rw[(tw i o ho b (.inl hb)).1];exact e2,e3,e4,e5,λi' x hx j c hc=>by obtain⟨u,f1,f2⟩:=e6 i' x hx j c hc;exact⟨u,f1,uH _ _ f2⟩⟩,
  hr.inj,λb hb=>qM (hr.Fp b hb) he.size,hr.defers⟩
 have xP:∀b,b<w.heap.size->¬ F b->(∀o:Own,o∈os->¬ o.owns b)->w'.heap[b]?=w.heap[b]?/\∀o1:Own,o1∈vE->¬ o1.owns b:=λb hb e1 e2=>by
  have hnF1:¬ Tt F os args b:=λh=>h.elim e1 (λ⟨id,g,n,o,_,ho,xO⟩=>e2 o (oz ho) xO);obtain⟨f1,_,f3⟩:=he.other b hb hnF1 (by simp);exact⟨f1,f3⟩
 exact⟨u,r,st',F',vE,rfl,hR,vf,hs,hru,λb hb=>he.N7 b (hF1 b hb),
  ⟨he.sys,he.tape,he.output,he.size,λ_ h=>h,λb hb=>he.Iy b (hF1 b hb),λb hb e1 e2=>⟨(xP b hb e1 e2).1,e1,e2⟩,λi o _ ho=>⟨o,ho,pM _,rfl,λ_=>⟨rfl,rfl,rfl⟩⟩⟩,
  λi o ho b hb=>(tw i o ho b hb).2,λb hb e1 e2=>(xP b hb e1 e2).2⟩
theorem Oj {f:FuncId}{args:List AV}{d:Option Tmp}{K:St->Prop}{R:AV->List Row->Prop}(h:BJ P f (args.map (IA s.st)) [] R)(hf:(args.map (IA s.st)).all flat=true)
  (zD :∀id g n,Rb args id g n->∀row,s.st[id]?=some row->DG row.xs)
  (hK :∀r st',R r st'->(gA r=true/\∀row∈st',∀x∈row.xs,∀c∈x,OO c=true)/\(∀row∈st',DG row.xs)/\K ({ s with st:=s.st++st' }.put d (shift s.st.length r))):callThen P k s f args d K:=by
 intro F os a w vs hr hl;refine (Z3 (k:=k) h hf zD hr hl).mono ?_;rintro e w' ⟨u,r,st',F',vE,rfl,hR,vf,hs,hru,hFF,he,ve,xP⟩;obtain⟨⟨hsr,hsc⟩,hp,hk⟩:=hK r st' hR;refine⟨u,_,s.st++st',F,os++vE,rfl,hk,vf.join hs hFF hp (.inr hsc) ve,?_,?_⟩
 .rw[hr.len];exact Yb (iO hsr hru)
 .refine⟨he.sys,he.tape,he.output,he.size,λ_ h=>h,he.Iy,λb hb e1 e2=>?_,λi o hi ho=>Fv.append os vE i o ho⟩;obtain⟨f1,_,_⟩:=he.other b hb e1 e2;exact⟨f1,e1,λo ho=>by rcases pY.1 ho with h|h;exact e2 o h;exact xP b hb e1 e2 o h⟩
end Go.Abs
