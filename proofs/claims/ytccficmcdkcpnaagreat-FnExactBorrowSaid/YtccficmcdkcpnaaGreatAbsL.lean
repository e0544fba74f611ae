import Derived.Test.YtccficmcdkcpnaaGreatAbsK
set_option linter.all false
namespace Go.Abs
open Go
variable {P : Program} {F : Nat -> Prop} {os : List Own} {s : St} {a : Act} {w : World} {k : Nat}
def Je (id g:Nat)(xs:List (List AV)):AV->AV
 | .own sm g' n=>if sm=id/\g'=g then .sl (xs.drop (xs.length-n)) else .own sm g' n
 | .ptr sm g' i off=>if sm=id/\g'=g then (match xs[i]? with|some x=>.Bz x off|none=>.FQ) else .ptr sm g' i off
 | v=>v
def Ct (id g:Nat)(xs:List (List AV)):AV->AV
 | .agg cs=>.agg (cs.map (Je id g xs))
 | .C7 cs=>.C7 (cs.map (Je id g xs))
 | v=>Je id g xs v
def F9 (xs:List (List AV)):Prop:=∀x∈xs,∀c∈x,simple c=true
def B8 (xs:List (List AV)):Prop:=∀x∈xs,∀c∈x,Dd c=true
theorem F9.any {xs:List (List AV)}(h:F9 xs):B8 xs:=λx hx c hc=>LW (h x hx c hc)
theorem Wk.freeze {id:Nat}{row:Row}(uj:k<=id)(rK:s.st[id]?=some row)(hp:F9 row.xs):
  Wk k s ⟨s.n,λt=>Ct id row.gen row.xs (s.env t),s.st.set id { row with gen:=row.gen+1,xs:=[] }⟩:=λF os a w hr=>by
 obtain⟨o,ho,rfl⟩:=hr.row rK;have rR:=hr.rows id o ho;have xN:∀x∈o.row.xs,∀c∈x,c.leaf=true:=λx hx c hc=>by
  have h1:=hp x hx c hc;have h2:=(rR.lens x hx).2 c hc;cases c<;>simp_all [simple,AV.leaf,AV.kept]
 refine⟨λb=>F b∨o.E1=some b,os.set id ⟨{ o.row with gen:=o.row.gen+1,xs:=[] },none,0,o.more⟩,?_,?_⟩
 case refine_2=>
  refine⟨rfl,rfl,rfl,ml _,λ_ h=>.inl h,λ_ _=>rfl,λb _ h1 h2=>⟨rfl,λh=>h.elim h1 (λe=>h2 o (mS ho) (.inl e)),λo' sA=>?_⟩,λi oi hi hoi=>⟨oi,?_,ml _,rfl,λ_=>⟨rfl,rfl,rfl⟩⟩⟩
  ·rcases nd sA with h|rfl
   ·exact h2 o' h
   ·intro hh;rcases hh with hh|hh
    ·simp at hh
    ·exact h2 o (mS ho) (.inr hh)
  ·rw[mq (by omega)];exact hoi
 have hF:∀b,F b->(λb=>F b∨o.E1=some b) b:=λ_ h=>.inl h;have sP:DX os (os.set id ⟨{ o.row with gen:=o.row.gen+1,xs:=[] },none,0,o.more⟩):=DX.set ho (by simp) rfl (λe=>by simp at e);have rZ:∀x v,AU F w os x v->AU (λb=>F b∨o.E1=some b) w (os.set id ⟨{ o.row with gen:=o.row.gen+1,xs:=[] },none,0,o.more⟩) x v:=λx v h=>
  Cy hF (λ_ _=>rfl) os _ sP x v h
 have sR:∀x∈o.row.xs,∀c∈x,∀u,AU F w os c u->AU (λb=>F b∨o.E1=some b) w [] c u:=λx hx c hc u hu=>
  Cy hF (λ_ _=>rfl) [] [] (by simp) c u (Fw (hp x hx c hc) [] hu)
 have h1:∀x v,AU F w os x v->AU (λb=>F b∨o.E1=some b) w (os.set id ⟨{ o.row with gen:=o.row.gen+1,xs:=[] },none,0,o.more⟩) (Je id o.row.gen o.row.xs x) v:=λx v h=>by
  cases x with
  | own sm g' n=>
   simp only[Je];split
   ·rename_i hif;obtain⟨rfl,rfl⟩:=hif;simp only[AU]at h⊢;obtain⟨o',sA,_,_,h⟩:=h;rw[ho]at sA;cases sA;obtain⟨hn,hv⟩:=h rfl;have hlen:(o.row.xs.drop (o.row.xs.length-n)).length=n:=by simp;omega
    rcases hv with ⟨hb,ad,rfl⟩|⟨b,hb,rfl⟩
    ·have:=(rR.none hb).1;rw[this]at hn;simp only[nj,qR]at hn;subst hn;exact⟨ad,0,by simp,by simp,by simp⟩
    ·obtain⟨_,cur,re,ru,hle,_,rf⟩:=rR.some b hb;refine⟨_,o.cap-(o.row.xs.length-n),by rw[hlen],by rw[hlen];omega,λ_=>⟨b,(o.row.xs.length-n)*o.row.size,o.row.size,rfl,.inr hb,λx hx=>(rR.lens x (oK hx)).1,?_⟩⟩;refine IT (λx hx=>(rR.lens x (oK hx)).1) λi x hx=>HY λj c hc=>?_;have uM:=mS hx;rw[ng]at hx;obtain⟨u,e1,e2⟩:=rf _ x hx j c hc;refine⟨u,?_,xN x (mS hx) c (mS hc),sR x (mS hx) c (mS hc) u e2⟩;rw[og w b _ cur _ _ re];rw[<- nZ];exact e1
   ·exact rZ _ _ h
  | ptr sm g' i off=>
   simp only[Je];split
   ·rename_i hif;obtain⟨rfl,rfl⟩:=hif;simp only[AU]at h;obtain⟨o',sA,_,_,h⟩:=h;rw[ho]at sA;cases sA;obtain⟨hi,_,b,hb,rfl⟩:=h rfl;rw[mY hi];obtain⟨_,cur,re,ru,hle,_,rf⟩:=rR.some b hb;simp only[AU];refine⟨b,i*o.row.size,rfl,.inr hb,HY λj c hc=>?_⟩;have hm:=pO hi;obtain⟨u,e1,e2⟩:=rf i _ (mY hi) j c hc;refine⟨u,?_,xN _ hm c (mS hc),sR _ hm c (mS hc) u e2⟩;rw[og w b _ cur _ _ re];exact e1
   ·exact rZ _ _ h
  | _=>exact rZ _ _ h
 have hL:∀xs us,A7 F w os xs us->A7 (λb=>F b∨o.E1=some b) w (os.set id ⟨{ o.row with gen:=o.row.gen+1,xs:=[] },none,0,o.more⟩) (xs.map (Je id o.row.gen o.row.xs)) us:=λxs us h=>
  Cq (by simp[A3 h]) λi x u hx hu=>by
   simp only[mX,mZ]at hx;obtain⟨y,hy,rfl⟩:=hx;obtain⟨u',e1,e2⟩:=BQ h i y hy;rw[hu]at e1;cases e1;exact h1 _ _ e2
 have rb:∀(i:Nat) (oi:Own),(os.set id ⟨{ o.row with gen:=o.row.gen+1,xs:=[] },none,0,o.more⟩)[i]?=some oi->(i≠id/\os[i]?=some oi)∨(i=id/\oi=⟨{ o.row with gen:=o.row.gen+1,xs:=[] },none,0,o.more⟩):=λi oi hi=>by
  by_cases e:i=id
  ·subst e;rw[mc (mT.1 ho).1,mU]at hi;exact .inr ⟨rfl,hi.symm⟩
  ·rw[mq (oT e)]at hi;exact .inl ⟨e,hi⟩
 refine⟨by rw[oR,hr.st],λt=>?_,hr.size,λi oi hi=>?_,λi j oi oj b hi hj uH uQ=>?_,λb hb=>?_,hr.defers⟩
 ·have:=hr.env t;simp only;generalize s.env t=x at this⊢;cases x with
  | agg cs=>simp only[Ct,AU]at this⊢;obtain⟨us,e,h⟩:=this;exact⟨us,e,hL _ _ h⟩
  | C7 cs=>simp only[Ct,AU]at this⊢;obtain⟨us,e,h⟩:=this;exact⟨us,e,hL _ _ h⟩
  | _=>exact h1 _ _ this
 ·rcases rb i oi hi with ⟨sB,h⟩|⟨_,rfl⟩
  ·have tc:=hr.rows i oi h;refine⟨tc.pos,tc.lens,tc.none,λb hb=>?_,λb hb=>⟨λhF=>hF.elim (tc.mo b hb).1 (λvE=>sB (hr.inj i id oi o b h ho (.inr hb) (.inl vE))),(tc.mo b hb).2⟩,tc.deep⟩;obtain⟨e1,cur,e2,e3,e4,e5,e6⟩:=tc.some b hb;refine⟨λhF=>hF.elim e1 (λvE=>sB (hr.inj i id oi o b h ho (.inl hb) (.inl vE))),cur,e2,e3,e4,e5,λi' x hx j c hc=>?_⟩;obtain⟨u,f1,f2⟩:=e6 i' x hx j c hc;exact⟨u,f1,rZ _ _ f2⟩
  ·exact⟨rR.pos,by simp,by simp,by simp,λb hb=>⟨λhF=>hF.elim (rR.mo b hb).1 (rR.mo b hb).2.2,(rR.mo b hb).2.1,by simp⟩,Fq (by simp)⟩
 ·rcases rb i oi hi with ⟨sB,h⟩|⟨h,rfl⟩<;>rcases rb j oj hj with ⟨wc,h'⟩|⟨h',rfl⟩
  ·exact hr.inj i j oi oj b h h' uH uQ
  ·exact hr.inj i j oi o b h (h'▸ho) uH (uQ.elim (λe=>by simp at e) .inr)
  ·exact hr.inj i j o oj b (h▸ho) h' (uH.elim (λe=>by simp at e) .inr) uQ
  ·omega
 ·rcases hb with hb|hb
  ·exact hr.FU b hb
  ·obtain⟨_,cur,re,_⟩:=rR.some b hb;exact (nN.1 re).1
def Mc (m:Nat):AV->AV
 | .own id g n=>.own (id+m) g n
 | .ptr id g i off=>.ptr (id+m) g i off
 | .fn ..|.agg _|.C7 _=>.FQ
 | v=>v
def P6 (m:Nat)(x:AV):AV:=two (Mc m) x
def shift (m:Nat):AV->AV
 | .fn f cs=>.fn f (cs.map (P6 m))
 | .agg cs=>.agg (cs.map (P6 m))
 | .C7 cs=>.C7 (cs.map (P6 m))
 | v=>P6 m v
theorem Zm {sC:List Own}{x:AV}{v:Value}(h:AU F w sC x v):AU F w (os++sC) (Mc os.length x) v:=by
 have rb:∀id,(os++sC)[id+os.length]?=sC[id]?:=λid=>by rw[mn (by omega)];congr 1;omega
 cases x with
 | own id g n=>simp only[Mc,AU]at h⊢;rw[rb];exact h
 | ptr id g i off=>simp only[Mc,AU]at h⊢;rw[rb];exact h
 | fn f cs=>simp[Mc,AU]
 | agg cs=>simp[Mc,AU]
 | C7 cs=>simp[Mc,AU]
 | _=>simp only[Mc,AU]at h⊢<;>exact h
theorem Ts {sC:List Own}{x:AV}{v:Value}(h:AU F w sC x v):AU F w (os++sC) (P6 os.length x) v:=
 Nt (λ_ _ h=>Zm h) _ _ h
theorem OK {sC:List Own}{xs:List AV}{us:List Value}(h:A7 F w sC xs us):A7 F w (os++sC) (xs.map (P6 os.length)) us:=
 Cq (by simp[A3 h]) λi x u hx hu=>by
  simp only[mX,mZ]at hx;obtain⟨y,hy,rfl⟩:=hx;obtain⟨u',e1,e2⟩:=BQ h i y hy;rw[hu]at e1;cases e1;exact Ts e2
theorem RL {sC:List Own}{x:AV}{v:Value}(h:AU F w sC x v):AU F w (os++sC) (shift os.length x) v:=by
 cases x with
 | fn f cs=>simp only[shift,AU]at h⊢;obtain⟨us,e,hl⟩:=h;exact⟨us,e,OK hl⟩
 | agg cs=>simp only[shift,AU]at h⊢;obtain⟨us,e,hl⟩:=h;exact⟨us,e,OK hl⟩
 | C7 cs=>simp only[shift,AU]at h⊢;obtain⟨us,e,hl⟩:=h;exact⟨us,e,OK hl⟩
 | _=>exact Ts h
def Ly:AV->Bool
 | .sl _|.Bz ..|.fn ..|.agg _|.C7 _|.bd ..=>false
 | _=>true
def bR:AV->Bool
 | .agg cs=>cs.all Ly
 | v=>Ly v
def XC:AV->Bool
 | .C7 cs=>cs.all bR
 | v=>bR v
theorem Q4 {F':Nat->Prop}{x:AV}{v:Value}(hx:Ly x=true)(h:AU F w os x v):AU F' w os x v:=by
 cases x<;>simp only[Ly,mW]at hx<;>simp only[AU]at h⊢<;>exact h
theorem Uq {F':Nat->Prop}{x:AV}{v:Value}(hx:bR x=true)(h:AU F w os x v):AU F' w os x v:=by
 cases x with
 | agg cs=>
  simp only[AU]at h⊢;obtain⟨us,e,hl⟩:=h;refine⟨us,e,Cq (A3 hl) λi x u uG hu=>?_⟩;obtain⟨u',e1,e2⟩:=BQ hl i x uG;rw[hu]at e1;cases e1;exact Q4 (ma.1 hx x (mS uG)) e2
 | _=>exact Q4 hx h
theorem XH {F':Nat->Prop}{x:AV}{v:Value}(hx:XC x=true)(h:AU F w os x v):AU F' w os x v:=by
 cases x with
 | C7 cs=>
  simp only[AU]at h⊢;obtain⟨us,e,hl⟩:=h;refine⟨us,e,Cq (A3 hl) λi x u uG hu=>?_⟩;obtain⟨u',e1,e2⟩:=BQ hl i x uG;rw[hu]at e1;cases e1;exact Uq (ma.1 hx x (mS uG)) e2
 | _=>exact Uq hx h
theorem Rel.join {F0 F':Nat->Prop}{w':World}{sC:List Own}{st1:List Row}(hr:Rel F0 os s a w')(hs:FT F' sC st1 w')(hFF :∀b,F0 b->F' b)(hp :∀row∈st1,B8 row.xs)
  (hscal:(∀b,F' b->F0 b)∨∀row∈st1,∀x∈row.xs,∀c∈x,Ly c=true) (si :∀(i:Nat) (o:Own),os[i]?=some o->∀b,o.owns b->∀o1:Own,o1∈sC->¬ o1.owns b) :
  Rel F0 (os++sC) { s with st:=s.st++st1 } a w':=by
 have sP:DX os (os++sC):=DX.append os sC;have rZ:∀x v,AU F0 w' os x v->AU F0 w' (os++sC) x v:=λx v h=>Cy (λ_ h=>h) (λ_ _=>rfl) os _ sP x v h;have rb:∀(i:Nat) (o:Own),(os++sC)[i]?=some o->(i<os.length/\os[i]?=some o)∨(os.length<=i/\sC[i-os.length]?=some o):=λi o h=>by
  by_cases hi:i<os.length
  ·rw[mg hi]at h;exact .inl ⟨hi,h⟩
  ·rw[mn (by omega)]at h;exact .inr ⟨by omega,h⟩
 refine⟨by rw[oF,hr.st,hs.st],λt=>rZ _ _ (hr.env t),hr.size,λi o ho=>?_,λi j oi oj b hi hj uH uQ=>?_,hr.FU,hr.defers⟩
 ·rcases rb i o ho with ⟨_,h⟩|⟨_,h⟩
  ·have rR:=hr.rows i o h;refine⟨rR.pos,rR.lens,rR.none,λb hb=>?_,rR.mo,rR.deep⟩;obtain⟨e1,cur,e2,e3,e4,e5,e6⟩:=rR.some b hb;exact⟨e1,cur,e2,e3,e4,e5,λi' x hx j c hc=>by obtain⟨u,f1,f2⟩:=e6 i' x hx j c hc;exact⟨u,f1,rZ _ _ f2⟩⟩
  ·have rR:=hs.rows _ o h;refine⟨rR.pos,rR.lens,rR.none,λb hb=>?_,λb hb=>⟨λhF=>(rR.mo b hb).1 (hFF b hF),(rR.mo b hb).2⟩,rR.deep⟩;obtain⟨e1,cur,e2,e3,e4,e5,e6⟩:=rR.some b hb;refine⟨λhF=>e1 (hFF b hF),cur,e2,e3,e4,e5,λi' x hx j c hc=>?_⟩;obtain⟨u,f1,f2⟩:=e6 i' x hx j c hc;have rK:o.row∈st1:=by rw[<- hs.st];exact mu.2 ⟨o,mS h,rfl⟩
   have hsim:=hp o.row rK x (mS hx) c (mS hc);have f3:=Xx hsim (os++sC) f2;refine⟨u,f1,?_⟩;rcases hscal with h1|h1
   ·exact Cy h1 (λ_ _=>rfl) _ _ (DX.refl _) c u f3
   ·exact Q4 (h1 o.row rK x (mS hx) c (mS hc)) f3
 ·rcases rb i oi hi with ⟨_,h⟩|⟨_,h⟩<;>rcases rb j oj hj with ⟨_,h'⟩|⟨_,h'⟩
  ·exact hr.inj i j oi oj b h h' uH uQ
  ·exact absurd uQ (si i oi h b uH oj (mS h'))
  ·exact absurd uH (si j oj h' b uQ oi (mS h))
  ·have:=hs.inj _ _ oi oj b h h' uH uQ;omega
theorem PS {f:FuncId}{args:List AV}{d:Option Tmp}{K:St->Prop}{R:AV->List Row->Prop}(h:BJ P f args [] R)(hf:args.all flat=true)
  (hK :∀r st',R r st'->(∀row∈st',B8 row.xs)/\K ({ s with st:=s.st++st' }.put d (shift s.st.length r))):callThen P k s f args d K:=by
 intro F os a w vs hr hl;refine (h F [] w vs (FT.nil hr.FU) (OQ hf [] hl)).mono ?_;rintro e w' ⟨u,r,st',F',sC,rfl,hR,hs,hru,he⟩;obtain⟨hp,hk⟩:=hK r st' hR;obtain⟨h1,h2,_,si⟩:=hr.after (k:=k) he hs.FU;refine⟨u,_,s.st++st',F',os++sC,rfl,hk,h1.join hs (λ_ h=>h) hp (.inl λ_ h=>h) si,?_,?_⟩
 ·rw[hr.len];exact RL hru
 ·refine⟨h2.sys,h2.tape,h2.output,h2.size,h2.Ng,h2.HP,λb hb e1 e2=>?_,λi o hi ho=>?_⟩
  ·obtain⟨f1,f2,f3⟩:=he.other b hb e1 (by simp);exact⟨f1,f2,λo ho=>by rcases nM.1 ho with h|h;exact e2 o h;exact f3 o h⟩
  ·exact DX.append os sC i o ho
mutual
def NA:AV->AV
 | .dv _ _ xs=>.sl (Ia xs)
 | c=>c
def Ia:List (List AV)->List (List AV)
 | []=>[]
 | x::r=>GB x::Ia r
def GB:List AV->List AV
 | []=>[]
 | c::r=>NA c::GB r
end
theorem Ib:∀x:List AV,GB x=x.map NA
 | []=>by simp[GB]
 | c::r=>by simp[GB,Ib r]
theorem Gp:∀xs:List (List AV),Ia xs=xs.map GB
 | []=>by simp[Ia]
 | x::r=>by simp[Ia,Gp r]
theorem Kz {c:AV}(h:simple c=true):NA c=c:=by cases c<;>simp_all [simple,NA]
theorem VS {xs:List (List AV)}(h:F9 xs):Ia xs=xs:=by
 rw[Gp];refine (nD (g:=id) λx hx=>?_).trans (nt _);rw[Ib];exact (nD (g:=id) λc hc=>Kz (h x hx c hc)).trans (nt _)
mutual
theorem P8 {S F:Nat->Prop}{w:World}(hS :∀b,S b->F b):∀(x:AV) (v:Value),DY S w x v->AU F w [] (NA x) v/\(NA x).leaf=true
 | .dv el size xs,v,h=>by
  simp only[DY]at h;obtain⟨hp,h⟩:=h;simp only[NA,AU,AV.leaf,and_true];rcases h with ⟨rfl,a,rfl⟩|⟨b,cap,cur,rfl,h2,h3,h4,h5,h6,h7,h8⟩
  ·exact⟨a,0,by simp[Ia],by simp[Ia],by simp[Ia]⟩
  ·refine⟨_,cap,by simp[Gp],by simpa [Gp] using h2,λ_=>⟨b,0,size,rfl,hS b h4,λx hx=>?_,V3 (S:=λc=>S c/\c≠b) (λc hc=>hS c hc.1) h5 xs 0 h8⟩⟩;rw[Gp]at hx;obtain⟨y,hy,rfl⟩:=mu.1 hx;rw[Ib,mf];exact h7 y hy
 | .int _ _,_,h=>by simpa [DY,NA,AU,AV.leaf] using h
 | .bool _,_,h=>by simpa [DY,NA,AU,AV.leaf] using h
 | .str _,_,h=>by simpa [DY,NA,AU,AV.leaf] using h
 | .zc,_,h=>by simpa [DY,NA,AU,AV.leaf] using h
 | .O5,_,h=>by simpa [DY,NA,AU,AV.leaf] using h
 | .Po,_,h=>by simpa [DY,NA,AU,AV.leaf] using h
 | .FQ,_,h=>by simp[DY]at h
 | .un,_,h=>by simp[DY]at h
 | .sl _,_,h=>by simp[DY]at h
 | .own ..,_,h=>by simp[DY]at h
 | .ptr ..,_,h=>by simp[DY]at h
 | .Bz ..,_,h=>by simp[DY]at h
 | .fn ..,_,h=>by simp[DY]at h
 | .agg _,_,h=>by simp[DY]at h
 | .C7 _,_,h=>by simp[DY]at h
theorem V3 {S F:Nat->Prop}{w:World}(hS :∀b,S b->F b){b:Nat}{cur:Array Value}{el:TypeId}(re:w.heap[b]?=some (.cells cur el (0,0))):∀(xs:List (List AV)) (o:Nat),Kh S w xs cur o->Gt F w (Ia xs) b o
 | [],_,_=>by simp[Ia,Gt]
 | x::r,o,h=>by
  simp only[Kh]at h;simp only[Ia,Gt];obtain⟨S1,S2,h1,h2,_,h4,h5⟩:=h;have hl:(GB x).length=x.length:=by rw[Ib,mf]
  rw[hl];exact⟨Vr (λc hc=>hS c (h1 c hc)) re x o h4,V3 (λc hc=>hS c (h2 c hc)) re r _ h5⟩
theorem Vr {S F:Nat->Prop}{w:World}(hS :∀b,S b->F b){b:Nat}{cur:Array Value}{el:TypeId}(re:w.heap[b]?=some (.cells cur el (0,0))):∀(xs:List AV) (o:Nat),Kb S w xs cur o->De F w (GB xs) b o
 | [],_,_=>by simp[GB,De]
 | x::r,o,h=>by
  simp only[Kb]at h;simp only[GB,De];obtain⟨S1,S2,h1,h2,_,⟨u,h4,h5⟩,h6⟩:=h;obtain⟨g1,g2⟩:=P8 (λc hc=>hS c (h1 c hc)) x u h5;exact⟨⟨u,by rw[og w b _ cur _ _ re];exact h4,g2,g1⟩,Vr (λc hc=>hS c (h2 c hc)) re r _ h6⟩
end
def Rz (st:List Row):AV->AV
 | .own id g n=>match st[id]? with
  | some row=>if row.gen=g then .sl (Ia (row.xs.drop (row.xs.length-n))) else .FQ
  | none=>.FQ
 | v=>v
def Gm (st:List Row):AV->AV
 | .agg cs=>.agg (cs.map (Rz st))
 | v=>Rz st v
def QH (args:List AV)(id g n:Nat):Prop:=AV.own id g n∈args∨∃cs,AV.agg cs∈args/\AV.own id g n∈cs
def Sm (F:Nat->Prop)(os:List Own)(args:List AV)(b:Nat):Prop:=F b∨∃id g n o,QH args id g n/\os[id]?=some o/\o.owns b
theorem Ww (hr:Rel F os s a w){F1:Nat->Prop}(vZ :∀b,F b->F1 b){id g n:Nat}{o:Own}(ho:os[id]?=some o)(hl :∀b,o.owns b->F1 b)(xR:B8 o.row.xs){u:Value}
  (e2:AU F w os (.own id g n) u) (hg:o.row.gen=g):AU F1 w os (.sl (Ia (o.row.xs.drop (o.row.xs.length-n)))) u:=by
 have rR:=hr.rows id o ho;have hm:∀x v,AU F w os x v->AU F1 w os x v:=λx v h=>Cy vZ (λ_ _=>rfl) os os (DX.refl os) x v h;simp only[AU]at e2⊢;obtain⟨o',sA,_,_,e2⟩:=e2;rw[ho]at sA;cases sA;obtain⟨hn,hv⟩:=e2 hg;have hlen:(Ia (o.row.xs.drop (o.row.xs.length-n))).length=n:=by simp[Gp];omega
 rcases hv with ⟨hb,ad,rfl⟩|⟨b,hb,rfl⟩
 ·have:=(rR.none hb).1;rw[this]at hn;simp only[nj,qR]at hn;subst hn;exact⟨ad,0,by simp[Gp],by simp[Gp],by simp[Gp]⟩
 ·obtain⟨_,cur,re,ru,hle,_,rf⟩:=rR.some b hb;have hls:∀x∈Ia (o.row.xs.drop (o.row.xs.length-n)),x.length=o.row.size:=λx hx=>by
   rw[Gp]at hx;obtain⟨y,hy,rfl⟩:=mu.1 hx;rw[Ib,mf];exact (rR.lens y (oK hy)).1
  refine⟨_,o.cap-(o.row.xs.length-n),by rw[hlen],by rw[hlen];omega,λ_=>⟨b,(o.row.xs.length-n)*o.row.size,o.row.size,rfl,hl b (.inl hb),hls,?_⟩⟩;refine IT hls λi x hx=>HY λj c hc=>?_;rw[Gp,mX,mZ]at hx;obtain⟨x0,vh,rfl⟩:=hx;rw[Ib,mX,mZ]at hc;obtain⟨c0,uF,rfl⟩:=hc;rw[ng]at vh
  ·have hsi:=xR x0 (mS vh) c0 (mS uF);have hk:=(rR.lens x0 (mS vh)).2 c0 (mS uF);by_cases hd :∃el sz ys,c0=.dv el sz ys
   ·obtain⟨el,sz,ys,rfl⟩:=hd;obtain⟨D,d1,_,d3⟩:=rR.deep;obtain⟨u,f1,f2⟩:=d3 b hb cur _ _ re _ x0 j el sz ys vh uF;obtain⟨g1,g2⟩:=P8 (F:=F1) (λc hc=>hl c (.inr (d1 _ _ _ hc))) _ u f2;exact⟨u,by rw[og w b _ cur _ _ re,<- nZ];exact f1,g2,g1⟩
   ·have hs:simple c0=true:=by cases c0<;>simp_all [Dd]
    rw[Kz hs];obtain⟨u,f1,f2⟩:=rf _ x0 vh j c0 uF;refine⟨u,?_,by cases c0<;>simp_all [AV.kept],Fw hs [] (hm _ _ f2)⟩;rw[og w b _ cur _ _ re,<- nZ];exact f1
theorem aW (hr:Rel F os s a w){args:List AV}{vs:List Value}(hl:A7 F w os args vs)(va :∀id g n,QH args id g n->∀row,s.st[id]?=some row->B8 row.xs):
  A7 (Sm F os args) w os (args.map (Gm s.st)) vs:=by
 have vZ:∀b,F b->Sm F os args b:=λ_ h=>.inl h;have hm:∀x v,AU F w os x v->AU (Sm F os args) w os x v:=λx v h=>Cy vZ (λ_ _=>rfl) os os (DX.refl os) x v h;have h0:∀y u,(∀id g n,y=AV.own id g n->QH args id g n)->AU F w os y u->AU (Sm F os args) w os (Rz s.st y) u:=λy u tE e2=>by
  cases y with
  | own id g n=>
   simp only[Rz];split
   ·rename_i row rK;split
    ·rename_i hg;obtain⟨o,ho,rfl⟩:=hr.row rK;exact Ww hr vZ ho (λb hb=>.inr ⟨id,g,n,o,tE id g n rfl,ho,hb⟩) (va id g n (tE id g n rfl) o.row rK) e2 hg
    ·simp[AU]
   ·simp[AU]
  | _=>exact hm _ _ e2
 refine Cq (by simp[A3 hl]) λi x u hx hu=>?_;simp only[mX,mZ]at hx;obtain⟨y,hy,rfl⟩:=hx;obtain⟨u',e1,e2⟩:=BQ hl i y hy;rw[hu]at e1;cases e1;have hym:=mS hy;cases y with
 | agg cs=>
  simp only[Gm,AU]at e2⊢;obtain⟨us,e,tD⟩:=e2;refine⟨us,e,Cq (by simp[A3 tD]) λj x u hx hu=>?_⟩;simp only[mX,mZ]at hx;obtain⟨y,hy,rfl⟩:=hx;obtain⟨u',e1,e2⟩:=BQ tD j y hy;rw[hu]at e1;cases e1;exact h0 y u (λid g n e=>.inr ⟨cs,hym,e▸mS hy⟩) e2
 | own id g n=>exact h0 _ u (λsm g' n' e=>.inl (e▸hym)) e2
 | _=>exact hm _ _ e2
theorem X4 {P:Program}{s:St}{f:FuncId}{args:List AV}{R:AV->List Row->Prop}{k:Nat}(h:BJ P f (args.map (Gm s.st)) [] R)(hf:(args.map (Gm s.st)).all flat=true)
  (va :∀id g n,QH args id g n->∀row,s.st[id]?=some row->B8 row.xs) {F:Nat->Prop} {os:List Own} {a:Act} {w:World} {vs:List Value} (hr:Rel F os s a w) (hl:A7 F w os args vs) :
  Calls P f vs.toArray w λe w'=>∃u r st' F' sC,e=.returned u/\R r st'/\Rel F os s a w'/\FT F' sC st' w'/\AU F' w' sC r u/\(∀b,F b->F' b)/\Ext F os w F os w' k/\
   (∀(i:Nat) (o:Own),os[i]?=some o->∀b,o.owns b->∀o1:Own,o1∈sC->¬ o1.owns b)/\∀b,b<w.heap.size->¬ F b->(∀o:Own,o∈os->¬ o.owns b)->∀o1:Own,o1∈sC->¬ o1.owns b:=by
 have vZ:∀b,F b->Sm F os args b:=λ_ h=>.inl h;have rh:∀(i:Nat) (o:Own) b,os[i]?=some o->o.owns b->b<w.heap.size:=λi o b hi hb=>(hr.rows i o hi).lt hb;have wq:∀b,Sm F os args b->b<w.heap.size:=λb hb=>by
  rcases hb with hb|⟨id,g,n,o,_,ho,vE⟩
  ·exact hr.FU b hb
  ·exact rh id o b ho vE
 have sS:=aW hr hl va;refine (h (Sm F os args) [] w vs (FT.nil wq) (OQ hf [] sS)).mono ?_;rintro e w' ⟨u,r,st',F',sC,rfl,hR,hs,hru,he⟩;have rK:∀(i:Nat) (o:Own),os[i]?=some o->∀b,o.owns b->w'.heap[b]?=w.heap[b]?/\∀o1:Own,o1∈sC->¬ o1.owns b:=λi o ho b hb=>by
  by_cases h1:Sm F os args b
  ·refine⟨he.HP b h1,λo1 ho1 e=>?_⟩;obtain⟨j,hj⟩:=nC.1 ho1;exact (hs.rows j o1 hj).nF e (he.Ng b h1)
  ·obtain⟨f1,_,f3⟩:=he.other b (rh i o b ho hb) h1 (by simp);exact⟨f1,f3⟩
 have rZ:∀x v,AU F w os x v->AU F w' os x v:=λx v h=>Cy (λ_ h=>h) (λb hb=>he.HP b (vZ b hb)) os os (DX.refl os) x v h;have sw:Rel F os s a w':=⟨hr.st,λt=>rZ _ _ (hr.env t),hr.size,λi o ho=>by
   have rR:=hr.rows i o ho;refine⟨rR.pos,rR.lens,rR.none,λb hb=>?_,λb hb=>⟨(rR.mo b hb).1,nk (rR.mo b hb).2.1 he.size,(rR.mo b hb).2.2⟩,rR.deep.keep rfl (λ_ h=>h) rfl (λb hb=>(rK i o ho b hb).1) (λi x j e s ys hx hc=>⟨x,hx,hc⟩)⟩;obtain⟨e1,cur,e2,e3,e4,e5,e6⟩:=rR.some b hb;exact⟨e1,cur,by rw[(rK i o ho b (.inl hb)).1];exact e2,e3,e4,e5,λi' x hx j c hc=>by obtain⟨u,f1,f2⟩:=e6 i' x hx j c hc;exact⟨u,f1,rZ _ _ f2⟩⟩,
  hr.inj,λb hb=>nk (hr.FU b hb) he.size,hr.defers⟩
 have tq:∀b,b<w.heap.size->¬ F b->(∀o:Own,o∈os->¬ o.owns b)->w'.heap[b]?=w.heap[b]?/\∀o1:Own,o1∈sC->¬ o1.owns b:=λb hb e1 e2=>by
  have zG:¬ Sm F os args b:=λh=>h.elim e1 (λ⟨id,g,n,o,_,ho,vE⟩=>e2 o (mS ho) vE);obtain⟨f1,_,f3⟩:=he.other b hb zG (by simp);exact⟨f1,f3⟩
 exact⟨u,r,st',F',sC,rfl,hR,sw,hs,hru,λb hb=>he.Ng b (vZ b hb),
  ⟨he.sys,he.tape,he.output,he.size,λ_ h=>h,λb hb=>he.HP b (vZ b hb),λb hb e1 e2=>⟨(tq b hb e1 e2).1,e1,e2⟩,λi o _ ho=>⟨o,ho,ml _,rfl,λ_=>⟨rfl,rfl,rfl⟩⟩⟩,
  λi o ho b hb=>(rK i o ho b hb).2,λb hb e1 e2=>(tq b hb e1 e2).2⟩
theorem Nb {f:FuncId}{args:List AV}{d:Option Tmp}{K:St->Prop}{R:AV->List Row->Prop}(h:BJ P f (args.map (Gm s.st)) [] R)(hf:(args.map (Gm s.st)).all flat=true)
  (va :∀id g n,QH args id g n->∀row,s.st[id]?=some row->B8 row.xs)
  (hK :∀r st',R r st'->(XC r=true/\∀row∈st',∀x∈row.xs,∀c∈x,Ly c=true)/\(∀row∈st',B8 row.xs)/\K ({ s with st:=s.st++st' }.put d (shift s.st.length r))):callThen P k s f args d K:=by
 intro F os a w vs hr hl;refine (X4 (k:=k) h hf va hr hl).mono ?_;rintro e w' ⟨u,r,st',F',sC,rfl,hR,sw,hs,hru,hFF,he,si,tq⟩;obtain⟨⟨hsr,xc⟩,hp,hk⟩:=hK r st' hR;refine⟨u,_,s.st++st',F,os++sC,rfl,hk,sw.join hs hFF hp (.inr xc) si,?_,?_⟩
 ·rw[hr.len];exact RL (XH hsr hru)
 ·refine⟨he.sys,he.tape,he.output,he.size,λ_ h=>h,he.HP,λb hb e1 e2=>?_,λi o hi ho=>DX.append os sC i o ho⟩;obtain⟨f1,_,_⟩:=he.other b hb e1 e2;exact⟨f1,e1,λo ho=>by rcases nM.1 ho with h|h;exact e2 o h;exact tq b hb e1 e2 o h⟩
end Go.Abs
