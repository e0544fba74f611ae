import Derived.Test.YtihdgoiebmfapaaGreatAbsK
set_option linter.all false
namespace Go.Abs
open Go
variable {P : Program} {F : Nat -> Prop} {os : List Own} {s : St} {a : Act} {w : World} {k : Nat}
def HT (id g:Nat)(xs:List (List AV)):AV->AV
 | .own rN g' n=>if rN=id/\g'=g then .sl (xs.drop (xs.length-n)) else .own rN g' n
 | .ptr rN g' i off=>if rN=id/\g'=g then (match xs[i]? with|some x=>.Bn x off|none=>.E7) else .ptr rN g' i off
 | v=>v
def BL (id g:Nat)(xs:List (List AV)):AV->AV
 | .agg cs=>.agg (cs.map (HT id g xs))
 | .Dd cs=>.Dd (cs.map (HT id g xs))
 | v=>HT id g xs v
def ER (xs:List (List AV)):Prop:=∀x∈xs,∀c∈x,simple c=true
def DG (xs:List (List AV)):Prop:=∀x∈xs,∀c∈x,Ee c=true
theorem ER.any {xs:List (List AV)}(h:ER xs):DG xs:=λx hx c hc=>PB (h x hx c hc)
theorem Wk.freeze {id:Nat}{row:Row}(tO:k<=id)(qc:s.st[id]?=some row)(hp:ER row.xs):
  Wk k s ⟨s.n,λt=>BL id row.gen row.xs (s.env t),s.st.set id { row with gen:=row.gen+1,xs:=[] }⟩:=λF os a w hr=>by
 obtain⟨o,ho,rfl⟩:=hr.row qc;have qf:=hr.rows id o ho;have uI:∀x∈o.row.xs,∀c∈x,c.leaf=true:=λx hx c hc=>by
  have h1:=hp x hx c hc;have h2:=(qf.lens x hx).2 c hc;cases c<;>simp_all [simple,AV.leaf,AV.kept]
 refine⟨λb=>F b∨o.Fk=some b,os.set id ⟨{ o.row with gen:=o.row.gen+1,xs:=[] },none,0,o.more⟩,?_,?_⟩
 case refine_2=>
  refine⟨rfl,rfl,rfl,ll _,λ_ h=>.inl h,λ_ _=>rfl,λb _ h1 h2=>⟨rfl,λh=>h.elim h1 (λe=>h2 o (lT ho) (.inl e)),λo' rH=>?_⟩,λi oi hi tG=>⟨oi,?_,ll _,rfl,λ_=>⟨rfl,rfl,rfl⟩⟩⟩
  ·rcases mg rH with h|rfl
   ·exact h2 o' h
   ·intro hh;rcases hh with hh|hh
    ·simp at hh
    ·exact h2 o (lT ho) (.inr hh)
  ·rw[mG (by omega)];exact tG
 have hF:∀b,F b->(λb=>F b∨o.Fk=some b) b:=λ_ h=>.inl h;have rU:FK os (os.set id ⟨{ o.row with gen:=o.row.gen+1,xs:=[] },none,0,o.more⟩):=FK.set ho (by simp) rfl (λe=>by simp at e);have qk:∀x v,Ae F w os x v->Ae (λb=>F b∨o.Fk=some b) w (os.set id ⟨{ o.row with gen:=o.row.gen+1,xs:=[] },none,0,o.more⟩) x v:=λx v h=>
  DV hF (λ_ _=>rfl) os _ rU x v h
 have rS:∀x∈o.row.xs,∀c∈x,∀u,Ae F w os c u->Ae (λb=>F b∨o.Fk=some b) w [] c u:=λx hx c hc u hu=>
  DV hF (λ_ _=>rfl) [] [] (by simp) c u (Fh (hp x hx c hc) [] hu)
 have h1:∀x v,Ae F w os x v->Ae (λb=>F b∨o.Fk=some b) w (os.set id ⟨{ o.row with gen:=o.row.gen+1,xs:=[] },none,0,o.more⟩) (HT id o.row.gen o.row.xs x) v:=λx v h=>by
  cases x with
  | own rN g' n=>
   simp only[HT];split
   ·rename_i yV;obtain⟨rfl,rfl⟩:=yV;simp only[Ae]at h⊢;obtain⟨o',rH,_,_,h⟩:=h;rw[ho]at rH;cases rH;obtain⟨hn,hv⟩:=h rfl;have hlen:(o.row.xs.drop (o.row.xs.length-n)).length=n:=by simp;omega
    rcases hv with ⟨hb,ad,rfl⟩|⟨b,hb,rfl⟩
    ·have:=(qf.none hb).1;rw[this]at hn;simp only[nD,pS]at hn;subst hn;exact⟨ad,0,by simp,by simp,by simp⟩
    ·obtain⟨_,cur,qv,rC,hle,_,qy⟩:=qf.some b hb;refine⟨_,o.cap-(o.row.xs.length-n),by rw[hlen],by rw[hlen];omega,λ_=>⟨b,(o.row.xs.length-n)*o.row.size,o.row.size,rfl,.inr hb,λx hx=>(qf.lens x (nR hx)).1,?_⟩⟩;refine Lj (λx hx=>(qf.lens x (nR hx)).1) λi x hx=>Km λj c hc=>?_;have te:=lT hx;rw[mU]at hx;obtain⟨u,e1,e2⟩:=qy _ x hx j c hc;refine⟨u,?_,uI x (lT hx) c (lT hc),rS x (lT hx) c (lT hc) u e2⟩;rw[oc w b _ cur _ _ qv];rw[<- mM];exact e1
   ·exact qk _ _ h
  | ptr rN g' i off=>
   simp only[HT];split
   ·rename_i yV;obtain⟨rfl,rfl⟩:=yV;simp only[Ae]at h;obtain⟨o',rH,_,_,h⟩:=h;rw[ho]at rH;cases rH;obtain⟨hi,_,b,hb,rfl⟩:=h rfl;rw[lZ hi];obtain⟨_,cur,qv,rC,hle,_,qy⟩:=qf.some b hb;simp only[Ae];refine⟨b,i*o.row.size,rfl,.inr hb,Km λj c hc=>?_⟩;have hm:=oD hi;obtain⟨u,e1,e2⟩:=qy i _ (lZ hi) j c hc;refine⟨u,?_,uI _ hm c (lT hc),rS _ hm c (lT hc) u e2⟩;rw[oc w b _ cur _ _ qv];exact e1
   ·exact qk _ _ h
  | _=>exact qk _ _ h
 have hL:∀xs us,Bs F w os xs us->Bs (λb=>F b∨o.Fk=some b) w (os.set id ⟨{ o.row with gen:=o.row.gen+1,xs:=[] },none,0,o.more⟩) (xs.map (HT id o.row.gen o.row.xs)) us:=λxs us h=>
  Db (by simp[BZ h]) λi x u hx hu=>by
   simp only[lW,lg]at hx;obtain⟨y,hy,rfl⟩:=hx;obtain⟨u',e1,e2⟩:=CO h i y hy;rw[hu]at e1;cases e1;exact h1 _ _ e2
 have qi:∀(i:Nat) (oi:Own),(os.set id ⟨{ o.row with gen:=o.row.gen+1,xs:=[] },none,0,o.more⟩)[i]?=some oi->(i≠id/\os[i]?=some oi)∨(i=id/\oi=⟨{ o.row with gen:=o.row.gen+1,xs:=[] },none,0,o.more⟩):=λi oi hi=>by
  by_cases e:i=id
  ·subst e;rw[lp (lV.1 ho).1,lX]at hi;exact .inr ⟨rfl,hi.symm⟩
  ·rw[mG (nK e)]at hi;exact .inl ⟨e,hi⟩
 refine⟨by rw[nj,hr.st],λt=>?_,hr.size,λi oi hi=>?_,λi j oi oj b hi hj sM sN=>?_,λb hb=>?_,hr.defers⟩
 ·have:=hr.env t;simp only;generalize s.env t=x at this⊢;cases x with
  | agg cs=>simp only[BL,Ae]at this⊢;obtain⟨us,e,h⟩:=this;exact⟨us,e,hL _ _ h⟩
  | Dd cs=>simp only[BL,Ae]at this⊢;obtain⟨us,e,h⟩:=this;exact⟨us,e,hL _ _ h⟩
  | _=>exact h1 _ _ this
 ·rcases qi i oi hi with ⟨rE,h⟩|⟨_,rfl⟩
  ·have sU:=hr.rows i oi h;refine⟨sU.pos,sU.lens,sU.none,λb hb=>?_,λb hb=>⟨λhF=>hF.elim (sU.mo b hb).1 (λtI=>rE (hr.inj i id oi o b h ho (.inr hb) (.inl tI))),(sU.mo b hb).2⟩,sU.deep⟩;obtain⟨e1,cur,e2,e3,e4,e5,e6⟩:=sU.some b hb;refine⟨λhF=>hF.elim e1 (λtI=>rE (hr.inj i id oi o b h ho (.inl hb) (.inl tI))),cur,e2,e3,e4,e5,λi' x hx j c hc=>?_⟩;obtain⟨u,f1,f2⟩:=e6 i' x hx j c hc;exact⟨u,f1,qk _ _ f2⟩
  ·exact⟨qf.pos,by simp,by simp,by simp,λb hb=>⟨λhF=>hF.elim (qf.mo b hb).1 (qf.mo b hb).2.2,(qf.mo b hb).2.1,by simp⟩,Et (by simp)⟩
 ·rcases qi i oi hi with ⟨rE,h⟩|⟨h,rfl⟩<;>rcases qi j oj hj with ⟨wm,h'⟩|⟨h',rfl⟩
  ·exact hr.inj i j oi oj b h h' sM sN
  ·exact hr.inj i j oi o b h (h'▸ho) sM (sN.elim (λe=>by simp at e) .inr)
  ·exact hr.inj i j o oj b (h▸ho) h' (sM.elim (λe=>by simp at e) .inr) sN
  ·omega
 ·rcases hb with hb|hb
  ·exact hr.FR b hb
  ·obtain⟨_,cur,qv,_⟩:=qf.some b hb;exact (mO.1 qv).1
def NU (m:Nat):AV->AV
 | .own id g n=>.own (id+m) g n
 | .ptr id g i off=>.ptr (id+m) g i off
 | .fn ..|.agg _|.Dd _=>.E7
 | v=>v
def QX (m:Nat)(x:AV):AV:=two (NU m) x
def shift (m:Nat):AV->AV
 | .fn f cs=>.fn f (cs.map (QX m))
 | .agg cs=>.agg (cs.map (QX m))
 | .Dd cs=>.Dd (cs.map (QX m))
 | v=>QX m v
theorem Z8 {rL:List Own}{x:AV}{v:Value}(h:Ae F w rL x v):Ae F w (os++rL) (NU os.length x) v:=by
 have qi:∀id,(os++rL)[id+os.length]?=rL[id]?:=λid=>by rw[ln (by omega)];congr 1;omega
 cases x with
 | own id g n=>simp only[NU,Ae]at h⊢;rw[qi];exact h
 | ptr id g i off=>simp only[NU,Ae]at h⊢;rw[qi];exact h
 | fn f cs=>simp[NU,Ae]
 | agg cs=>simp[NU,Ae]
 | Dd cs=>simp[NU,Ae]
 | _=>simp only[NU,Ae]at h⊢<;>exact h
theorem UO {rL:List Own}{x:AV}{v:Value}(h:Ae F w rL x v):Ae F w (os++rL) (QX os.length x) v:=
 Lb (λ_ _ h=>Z8 h) _ _ h
theorem Ou {rL:List Own}{xs:List AV}{us:List Value}(h:Bs F w rL xs us):Bs F w (os++rL) (xs.map (QX os.length)) us:=
 Db (by simp[BZ h]) λi x u hx hu=>by
  simp only[lW,lg]at hx;obtain⟨y,hy,rfl⟩:=hx;obtain⟨u',e1,e2⟩:=CO h i y hy;rw[hu]at e1;cases e1;exact UO e2
theorem Vb {rL:List Own}{x:AV}{v:Value}(h:Ae F w rL x v):Ae F w (os++rL) (shift os.length x) v:=by
 cases x with
 | fn f cs=>simp only[shift,Ae]at h⊢;obtain⟨us,e,hl⟩:=h;exact⟨us,e,Ou hl⟩
 | agg cs=>simp only[shift,Ae]at h⊢;obtain⟨us,e,hl⟩:=h;exact⟨us,e,Ou hl⟩
 | Dd cs=>simp only[shift,Ae]at h⊢;obtain⟨us,e,hl⟩:=h;exact⟨us,e,Ou hl⟩
 | _=>exact UO h
def Nj:AV->Bool
 | .sl _|.Bn ..|.fn ..|.agg _|.Dd _=>false
 | _=>true
def bA:AV->Bool
 | .agg cs=>cs.all Nj
 | v=>Nj v
def cv:AV->Bool
 | .Dd cs=>cs.all bA
 | v=>bA v
theorem RO {F':Nat->Prop}{x:AV}{v:Value}(hx:Nj x=true)(h:Ae F w os x v):Ae F' w os x v:=by
 cases x<;>simp only[Nj,lY]at hx<;>simp only[Ae]at h⊢<;>exact h
theorem Wh {F':Nat->Prop}{x:AV}{v:Value}(hx:bA x=true)(h:Ae F w os x v):Ae F' w os x v:=by
 cases x with
 | agg cs=>
  simp only[Ae]at h⊢;obtain⟨us,e,hl⟩:=h;refine⟨us,e,Db (BZ hl) λi x u tN hu=>?_⟩;obtain⟨u',e1,e2⟩:=CO hl i x tN;rw[hu]at e1;cases e1;exact RO (lh.1 hx x (lT tN)) e2
 | _=>exact RO hx h
theorem eR {F':Nat->Prop}{x:AV}{v:Value}(hx:cv x=true)(h:Ae F w os x v):Ae F' w os x v:=by
 cases x with
 | Dd cs=>
  simp only[Ae]at h⊢;obtain⟨us,e,hl⟩:=h;refine⟨us,e,Db (BZ hl) λi x u tN hu=>?_⟩;obtain⟨u',e1,e2⟩:=CO hl i x tN;rw[hu]at e1;cases e1;exact Wh (lh.1 hx x (lT tN)) e2
 | _=>exact Wh hx h
theorem Rel.join {F0 F':Nat->Prop}{w':World}{rL:List Own}{st1:List Row}(hr:Rel F0 os s a w')(hs:HF F' rL st1 w')(hFF :∀b,F0 b->F' b)(hp :∀row∈st1,DG row.xs)
  (hscal:(∀b,F' b->F0 b)∨∀row∈st1,∀x∈row.xs,∀c∈x,Nj c=true) (rq :∀(i:Nat) (o:Own),os[i]?=some o->∀b,o.owns b->∀o1:Own,o1∈rL->¬ o1.owns b) :
  Rel F0 (os++rL) { s with st:=s.st++st1 } a w':=by
 have rU:FK os (os++rL):=FK.append os rL;have qk:∀x v,Ae F0 w' os x v->Ae F0 w' (os++rL) x v:=λx v h=>DV (λ_ h=>h) (λ_ _=>rfl) os _ rU x v h;have qi:∀(i:Nat) (o:Own),(os++rL)[i]?=some o->(i<os.length/\os[i]?=some o)∨(os.length<=i/\rL[i-os.length]?=some o):=λi o h=>by
  by_cases hi:i<os.length
  ·rw[lj hi]at h;exact .inl ⟨hi,h⟩
  ·rw[ln (by omega)]at h;exact .inr ⟨by omega,h⟩
 refine⟨by rw[nI,hr.st,hs.st],λt=>qk _ _ (hr.env t),hr.size,λi o ho=>?_,λi j oi oj b hi hj sM sN=>?_,hr.FR,hr.defers⟩
 ·rcases qi i o ho with ⟨_,h⟩|⟨_,h⟩
  ·have qf:=hr.rows i o h;refine⟨qf.pos,qf.lens,qf.none,λb hb=>?_,qf.mo,qf.deep⟩;obtain⟨e1,cur,e2,e3,e4,e5,e6⟩:=qf.some b hb;exact⟨e1,cur,e2,e3,e4,e5,λi' x hx j c hc=>by obtain⟨u,f1,f2⟩:=e6 i' x hx j c hc;exact⟨u,f1,qk _ _ f2⟩⟩
  ·have qf:=hs.rows _ o h;refine⟨qf.pos,qf.lens,qf.none,λb hb=>?_,λb hb=>⟨λhF=>(qf.mo b hb).1 (hFF b hF),(qf.mo b hb).2⟩,qf.deep⟩;obtain⟨e1,cur,e2,e3,e4,e5,e6⟩:=qf.some b hb;refine⟨λhF=>e1 (hFF b hF),cur,e2,e3,e4,e5,λi' x hx j c hc=>?_⟩;obtain⟨u,f1,f2⟩:=e6 i' x hx j c hc;have qc:o.row∈st1:=by rw[<- hs.st];exact mA.2 ⟨o,lT h,rfl⟩
   have hsim:=hp o.row qc x (lT hx) c (lT hc);have f3:=YQ hsim (os++rL) f2;refine⟨u,f1,?_⟩;rcases hscal with h1|h1
   ·exact DV h1 (λ_ _=>rfl) _ _ (FK.refl _) c u f3
   ·exact RO (h1 o.row qc x (lT hx) c (lT hc)) f3
 ·rcases qi i oi hi with ⟨_,h⟩|⟨_,h⟩<;>rcases qi j oj hj with ⟨_,h'⟩|⟨_,h'⟩
  ·exact hr.inj i j oi oj b h h' sM sN
  ·exact absurd sN (rq i oi h b sM oj (lT h'))
  ·exact absurd sM (rq j oj h' b sN oi (lT h))
  ·have:=hs.inj _ _ oi oj b h h' sM sN;omega
theorem Wx {f:FuncId}{args:List AV}{d:Option Tmp}{K:St->Prop}{R:AV->List Row->Prop}(h:Ab P f args [] R)(hf:args.all flat=true)
  (hK :∀r st',R r st'->(∀row∈st',DG row.xs)/\K ({ s with st:=s.st++st' }.put d (shift s.st.length r))):callThen P k s f args d K:=by
 intro F os a w vs hr hl;refine (h F [] w vs (HF.nil hr.FR) (RK hf [] hl)).mono ?_;rintro e w' ⟨u,r,st',F',rL,rfl,hR,hs,hru,he⟩;obtain⟨hp,hk⟩:=hK r st' hR;obtain⟨h1,h2,_,rq⟩:=hr.after (k:=k) he hs.FR;refine⟨u,_,s.st++st',F',os++rL,rfl,hk,h1.join hs (λ_ h=>h) hp (.inl λ_ h=>h) rq,?_,?_⟩
 ·rw[hr.len];exact Vb hru
 ·refine⟨h2.sys,h2.tape,h2.output,h2.size,h2.NQ,h2.IX,λb hb e1 e2=>?_,λi o hi ho=>?_⟩
  ·obtain⟨f1,f2,f3⟩:=he.other b hb e1 (by simp);exact⟨f1,f2,λo ho=>by rcases lz.1 ho with h|h;exact e2 o h;exact f3 o h⟩
  ·exact FK.append os rL i o ho
mutual
def PQ:AV->AV
 | .dv _ _ xs=>.sl (Ke xs)
 | c=>c
def Ke:List (List AV)->List (List AV)
 | []=>[]
 | x::r=>Hy x::Ke r
def Hy:List AV->List AV
 | []=>[]
 | c::r=>PQ c::Hy r
end
theorem Ns:∀x:List AV,Hy x=x.map PQ
 | []=>by simp[Hy]
 | c::r=>by simp[Hy,Ns r]
theorem IF:∀xs:List (List AV),Ke xs=xs.map Hy
 | []=>by simp[Ke]
 | x::r=>by simp[Ke,IF r]
theorem UD {c:AV}(h:simple c=true):PQ c=c:=by cases c<;>simp_all [simple,PQ]
mutual
theorem Tw {S F:Nat->Prop}{w:World}(hS :∀b,S b->F b):∀(x:AV) (v:Value),EV S w x v->Ae F w [] (PQ x) v/\(PQ x).leaf=true
 | .dv el size xs,v,h=>by
  simp only[EV]at h;obtain⟨hp,h⟩:=h;simp only[PQ,Ae,AV.leaf,and_true];rcases h with ⟨rfl,a,rfl⟩|⟨b,cap,cur,rfl,h2,h3,h4,h5,h6,h7,h8⟩
  ·exact⟨a,0,by simp[Ke],by simp[Ke],by simp[Ke]⟩
  ·refine⟨_,cap,by simp[IF],by simpa [IF] using h2,λ_=>⟨b,0,size,rfl,hS b h4,λx hx=>?_,Wj (S:=λc=>S c/\c≠b) (λc hc=>hS c hc.1) h5 xs 0 h8⟩⟩;rw[IF]at hx;obtain⟨y,hy,rfl⟩:=mA.1 hx;rw[Ns,ly];exact h7 y hy
 | .int _ _,_,h=>by simpa [EV,PQ,Ae,AV.leaf] using h
 | .bool _,_,h=>by simpa [EV,PQ,Ae,AV.leaf] using h
 | .str _,_,h=>by simpa [EV,PQ,Ae,AV.leaf] using h
 | .zc,_,h=>by simpa [EV,PQ,Ae,AV.leaf] using h
 | .RI,_,h=>by simpa [EV,PQ,Ae,AV.leaf] using h
 | .Q7,_,h=>by simpa [EV,PQ,Ae,AV.leaf] using h
 | .E7,_,h=>by simp[EV]at h
 | .un,_,h=>by simp[EV]at h
 | .sl _,_,h=>by simp[EV]at h
 | .own ..,_,h=>by simp[EV]at h
 | .ptr ..,_,h=>by simp[EV]at h
 | .Bn ..,_,h=>by simp[EV]at h
 | .fn ..,_,h=>by simp[EV]at h
 | .agg _,_,h=>by simp[EV]at h
 | .Dd _,_,h=>by simp[EV]at h
theorem Wj {S F:Nat->Prop}{w:World}(hS :∀b,S b->F b){b:Nat}{cur:Array Value}{el:TypeId}(qv:w.heap[b]?=some (.cells cur el (0,0))):∀(xs:List (List AV)) (o:Nat),LG S w xs cur o->HX F w (Ke xs) b o
 | [],_,_=>by simp[Ke,HX]
 | x::r,o,h=>by
  simp only[LG]at h;simp only[Ke,HX];obtain⟨S1,S2,h1,h2,_,h4,h5⟩:=h;have hl:(Hy x).length=x.length:=by rw[Ns,ly]
  rw[hl];exact⟨Vh (λc hc=>hS c (h1 c hc)) qv x o h4,Wj (λc hc=>hS c (h2 c hc)) qv r _ h5⟩
theorem Vh {S F:Nat->Prop}{w:World}(hS :∀b,S b->F b){b:Nat}{cur:Array Value}{el:TypeId}(qv:w.heap[b]?=some (.cells cur el (0,0))):∀(xs:List AV) (o:Nat),LB S w xs cur o->FI F w (Hy xs) b o
 | [],_,_=>by simp[Hy,FI]
 | x::r,o,h=>by
  simp only[LB]at h;simp only[Hy,FI];obtain⟨S1,S2,h1,h2,_,⟨u,h4,h5⟩,h6⟩:=h;obtain⟨g1,g2⟩:=Tw (λc hc=>hS c (h1 c hc)) x u h5;exact⟨⟨u,by rw[oc w b _ cur _ _ qv];exact h4,g2,g1⟩,Vh (λc hc=>hS c (h2 c hc)) qv r _ h6⟩
end
def Sz (st:List Row):AV->AV
 | .own id g n=>match st[id]? with
  | some row=>if row.gen=g then .sl (Ke (row.xs.drop (row.xs.length-n))) else .E7
  | none=>.E7
 | v=>v
def HZ (st:List Row):AV->AV
 | .agg cs=>.agg (cs.map (Sz st))
 | v=>Sz st v
def QK (args:List AV)(id g n:Nat):Prop:=AV.own id g n∈args∨∃cs,AV.agg cs∈args/\AV.own id g n∈cs
def SB (F:Nat->Prop)(os:List Own)(args:List AV)(b:Nat):Prop:=F b∨∃id g n o,QK args id g n/\os[id]?=some o/\o.owns b
theorem dc (hr:Rel F os s a w){F1:Nat->Prop}(xz :∀b,F b->F1 b){id g n:Nat}{o:Own}(ho:os[id]?=some o)(hl :∀b,o.owns b->F1 b)(xe:DG o.row.xs){u:Value}
  (e2:Ae F w os (.own id g n) u) (hg:o.row.gen=g):Ae F1 w os (.sl (Ke (o.row.xs.drop (o.row.xs.length-n)))) u:=by
 have qf:=hr.rows id o ho;have hm:∀x v,Ae F w os x v->Ae F1 w os x v:=λx v h=>DV xz (λ_ _=>rfl) os os (FK.refl os) x v h;simp only[Ae]at e2⊢;obtain⟨o',rH,_,_,e2⟩:=e2;rw[ho]at rH;cases rH;obtain⟨hn,hv⟩:=e2 hg;have hlen:(Ke (o.row.xs.drop (o.row.xs.length-n))).length=n:=by simp[IF];omega
 rcases hv with ⟨hb,ad,rfl⟩|⟨b,hb,rfl⟩
 ·have:=(qf.none hb).1;rw[this]at hn;simp only[nD,pS]at hn;subst hn;exact⟨ad,0,by simp[IF],by simp[IF],by simp[IF]⟩
 ·obtain⟨_,cur,qv,rC,hle,_,qy⟩:=qf.some b hb;have hls:∀x∈Ke (o.row.xs.drop (o.row.xs.length-n)),x.length=o.row.size:=λx hx=>by
   rw[IF]at hx;obtain⟨y,hy,rfl⟩:=mA.1 hx;rw[Ns,ly];exact (qf.lens y (nR hy)).1
  refine⟨_,o.cap-(o.row.xs.length-n),by rw[hlen],by rw[hlen];omega,λ_=>⟨b,(o.row.xs.length-n)*o.row.size,o.row.size,rfl,hl b (.inl hb),hls,?_⟩⟩;refine Lj hls λi x hx=>Km λj c hc=>?_;rw[IF,lW,lg]at hx;obtain⟨x0,hx0,rfl⟩:=hx;rw[Ns,lW,lg]at hc;obtain⟨c0,sZ,rfl⟩:=hc;rw[mU]at hx0
  ·have hsi:=xe x0 (lT hx0) c0 (lT sZ);have hk:=(qf.lens x0 (lT hx0)).2 c0 (lT sZ);by_cases hd :∃el sz ys,c0=.dv el sz ys
   ·obtain⟨el,sz,ys,rfl⟩:=hd;obtain⟨D,d1,_,d3⟩:=qf.deep;obtain⟨u,f1,f2⟩:=d3 b hb cur _ _ qv _ x0 j el sz ys hx0 sZ;obtain⟨g1,g2⟩:=Tw (F:=F1) (λc hc=>hl c (.inr (d1 _ _ _ hc))) _ u f2;exact⟨u,by rw[oc w b _ cur _ _ qv,<- mM];exact f1,g2,g1⟩
   ·have hs:simple c0=true:=by cases c0<;>simp_all [Ee]
    rw[UD hs];obtain⟨u,f1,f2⟩:=qy _ x0 hx0 j c0 sZ;refine⟨u,?_,by cases c0<;>simp_all [AV.kept],Fh hs [] (hm _ _ f2)⟩;rw[oc w b _ cur _ _ qv,<- mM];exact f1
theorem br (hr:Rel F os s a w){args:List AV}{vs:List Value}(hl:Bs F w os args vs)(vA :∀id g n,QK args id g n->∀row,s.st[id]?=some row->DG row.xs):
  Bs (SB F os args) w os (args.map (HZ s.st)) vs:=by
 have xz:∀b,F b->SB F os args b:=λ_ h=>.inl h;have hm:∀x v,Ae F w os x v->Ae (SB F os args) w os x v:=λx v h=>DV xz (λ_ _=>rfl) os os (FK.refl os) x v h;have h0:∀y u,(∀id g n,y=AV.own id g n->QK args id g n)->Ae F w os y u->Ae (SB F os args) w os (Sz s.st y) u:=λy u re e2=>by
  cases y with
  | own id g n=>
   simp only[Sz];split
   ·rename_i row qc;split
    ·rename_i hg;obtain⟨o,ho,rfl⟩:=hr.row qc;exact dc hr xz ho (λb hb=>.inr ⟨id,g,n,o,re id g n rfl,ho,hb⟩) (vA id g n (re id g n rfl) o.row qc) e2 hg
    ·simp[Ae]
   ·simp[Ae]
  | _=>exact hm _ _ e2
 refine Db (by simp[BZ hl]) λi x u hx hu=>?_;simp only[lW,lg]at hx;obtain⟨y,hy,rfl⟩:=hx;obtain⟨u',e1,e2⟩:=CO hl i y hy;rw[hu]at e1;cases e1;have hym:=lT hy;cases y with
 | agg cs=>
  simp only[HZ,Ae]at e2⊢;obtain⟨us,e,sa⟩:=e2;refine⟨us,e,Db (by simp[BZ sa]) λj x u hx hu=>?_⟩;simp only[lW,lg]at hx;obtain⟨y,hy,rfl⟩:=hx;obtain⟨u',e1,e2⟩:=CO sa j y hy;rw[hu]at e1;cases e1;exact h0 y u (λid g n e=>.inr ⟨cs,hym,e▸lT hy⟩) e2
 | own id g n=>exact h0 _ u (λrN g' n' e=>.inl (e▸hym)) e2
 | _=>exact hm _ _ e2
theorem YV {P:Program}{s:St}{f:FuncId}{args:List AV}{R:AV->List Row->Prop}{k:Nat}(h:Ab P f (args.map (HZ s.st)) [] R)(hf:(args.map (HZ s.st)).all flat=true)
  (vA :∀id g n,QK args id g n->∀row,s.st[id]?=some row->DG row.xs) {F:Nat->Prop} {os:List Own} {a:Act} {w:World} {vs:List Value} (hr:Rel F os s a w) (hl:Bs F w os args vs) :
  Calls P f vs.toArray w λe w'=>∃u r st' F' rL,e=.returned u/\R r st'/\Rel F os s a w'/\HF F' rL st' w'/\Ae F' w' rL r u/\(∀b,F b->F' b)/\Ext F os w F os w' k/\
   (∀(i:Nat) (o:Own),os[i]?=some o->∀b,o.owns b->∀o1:Own,o1∈rL->¬ o1.owns b)/\∀b,b<w.heap.size->¬ F b->(∀o:Own,o∈os->¬ o.owns b)->∀o1:Own,o1∈rL->¬ o1.owns b:=by
 have xz:∀b,F b->SB F os args b:=λ_ h=>.inl h;have qw:∀(i:Nat) (o:Own) b,os[i]?=some o->o.owns b->b<w.heap.size:=λi o b hi hb=>(hr.rows i o hi).lt hb;have hold1:∀b,SB F os args b->b<w.heap.size:=λb hb=>by
  rcases hb with hb|⟨id,g,n,o,_,ho,tI⟩
  ·exact hr.FR b hb
  ·exact qw id o b ho tI
 have uA:=br hr hl vA;refine (h (SB F os args) [] w vs (HF.nil hold1) (RK hf [] uA)).mono ?_;rintro e w' ⟨u,r,st',F',rL,rfl,hR,hs,hru,he⟩;have qc:∀(i:Nat) (o:Own),os[i]?=some o->∀b,o.owns b->w'.heap[b]?=w.heap[b]?/\∀o1:Own,o1∈rL->¬ o1.owns b:=λi o ho b hb=>by
  by_cases h1:SB F os args b
  ·refine⟨he.IX b h1,λo1 ho1 e=>?_⟩;obtain⟨j,hj⟩:=lv.1 ho1;exact (hs.rows j o1 hj).nF e (he.NQ b h1)
  ·obtain⟨f1,_,f3⟩:=he.other b (qw i o b ho hb) h1 (by simp);exact⟨f1,f3⟩
 have qk:∀x v,Ae F w os x v->Ae F w' os x v:=λx v h=>DV (λ_ h=>h) (λb hb=>he.IX b (xz b hb)) os os (FK.refl os) x v h;have ry:Rel F os s a w':=⟨hr.st,λt=>qk _ _ (hr.env t),hr.size,λi o ho=>by
   have qf:=hr.rows i o ho;refine⟨qf.pos,qf.lens,qf.none,λb hb=>?_,λb hb=>⟨(qf.mo b hb).1,ma (qf.mo b hb).2.1 he.size,(qf.mo b hb).2.2⟩,qf.deep.keep rfl (λ_ h=>h) rfl (λb hb=>(qc i o ho b hb).1) (λi x j e s ys hx hc=>⟨x,hx,hc⟩)⟩;obtain⟨e1,cur,e2,e3,e4,e5,e6⟩:=qf.some b hb;exact⟨e1,cur,by rw[(qc i o ho b (.inl hb)).1];exact e2,e3,e4,e5,λi' x hx j c hc=>by obtain⟨u,f1,f2⟩:=e6 i' x hx j c hc;exact⟨u,f1,qk _ _ f2⟩⟩,
  hr.inj,λb hb=>ma (hr.FR b hb) he.size,hr.defers⟩
 have tJ:∀b,b<w.heap.size->¬ F b->(∀o:Own,o∈os->¬ o.owns b)->w'.heap[b]?=w.heap[b]?/\∀o1:Own,o1∈rL->¬ o1.owns b:=λb hb e1 e2=>by
  have hnF1:¬ SB F os args b:=λh=>h.elim e1 (λ⟨id,g,n,o,_,ho,tI⟩=>e2 o (lT ho) tI);obtain⟨f1,_,f3⟩:=he.other b hb hnF1 (by simp);exact⟨f1,f3⟩
 exact⟨u,r,st',F',rL,rfl,hR,ry,hs,hru,λb hb=>he.NQ b (xz b hb),
  ⟨he.sys,he.tape,he.output,he.size,λ_ h=>h,λb hb=>he.IX b (xz b hb),λb hb e1 e2=>⟨(tJ b hb e1 e2).1,e1,e2⟩,λi o _ ho=>⟨o,ho,ll _,rfl,λ_=>⟨rfl,rfl,rfl⟩⟩⟩,
  λi o ho b hb=>(qc i o ho b hb).2,λb hb e1 e2=>(tJ b hb e1 e2).2⟩
theorem OP {f:FuncId}{args:List AV}{d:Option Tmp}{K:St->Prop}{R:AV->List Row->Prop}(h:Ab P f (args.map (HZ s.st)) [] R)(hf:(args.map (HZ s.st)).all flat=true)
  (vA :∀id g n,QK args id g n->∀row,s.st[id]?=some row->DG row.xs)
  (hK :∀r st',R r st'->(cv r=true/\∀row∈st',∀x∈row.xs,∀c∈x,Nj c=true)/\(∀row∈st',DG row.xs)/\K ({ s with st:=s.st++st' }.put d (shift s.st.length r))):callThen P k s f args d K:=by
 intro F os a w vs hr hl;refine (YV (k:=k) h hf vA hr hl).mono ?_;rintro e w' ⟨u,r,st',F',rL,rfl,hR,ry,hs,hru,hFF,he,rq,tJ⟩;obtain⟨⟨hsr,hsc⟩,hp,hk⟩:=hK r st' hR;refine⟨u,_,s.st++st',F,os++rL,rfl,hk,ry.join hs hFF hp (.inr hsc) rq,?_,?_⟩
 ·rw[hr.len];exact Vb (eR hsr hru)
 ·refine⟨he.sys,he.tape,he.output,he.size,λ_ h=>h,he.IX,λb hb e1 e2=>?_,λi o hi ho=>FK.append os rL i o ho⟩;obtain⟨f1,_,_⟩:=he.other b hb e1 e2;exact⟨f1,e1,λo ho=>by rcases lz.1 ho with h|h;exact e2 o h;exact tJ b hb e1 e2 o h⟩
end Go.Abs
