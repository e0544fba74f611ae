import Derived.Test.YtihdgoiebmfapaaGreatAbsK
set_option linter.all false
namespace Go.Abs
open Go
variable {P : Program} {F : Nat -> Prop} {os : List Own} {s : St} {a : Act} {w : World} {k : Nat}
def HR (id g:Nat)(xs:List (List AV)):AV->AV
 | .own pW g' n=>if pW=id/\g'=g then .sl (xs.drop (xs.length-n)) else .own pW g' n
 | .ptr pW g' i off=>if pW=id/\g'=g then (match xs[i]? with|some x=>.Bh x off|none=>.E2) else .ptr pW g' i off
 | v=>v
def BL (id g:Nat)(xs:List (List AV)):AV->AV
 | .agg cs=>.agg (cs.map (HR id g xs))
 | .Dp cs=>.Dp (cs.map (HR id g xs))
 | v=>HR id g xs v
def EK (xs:List (List AV)):Prop:=∀x∈xs,∀c∈x,simple c=true
def DD (xs:List (List AV)):Prop:=∀x∈xs,∀c∈x,Ed c=true
theorem EK.any {xs:List (List AV)}(h:EK xs):DD xs:=λx hx c hc=>Of (h x hx c hc)
theorem Wk.freeze {id:Nat}{row:Row}(rP:k<=id)(oY:s.st[id]?=some row)(hp:EK row.xs):
  Wk k s ⟨s.n,λt=>BL id row.gen row.xs (s.env t),s.st.set id { row with gen:=row.gen+1,xs:=[] }⟩:=λF os a w hr=>by
 obtain⟨o,ho,rfl⟩:=hr.row oY;have ob:=hr.rows id o ho;have sH:∀x∈o.row.xs,∀c∈x,c.leaf=true:=λx hx c hc=>by
  have h1:=hp x hx c hc;have h2:=(ob.lens x hx).2 c hc;cases c<;>simp_all [simple,AV.leaf,AV.kept]
 refine⟨λb=>F b∨o.Fe=some b,os.set id ⟨{ o.row with gen:=o.row.gen+1,xs:=[] },none,0,o.more⟩,?_,?_⟩
 case refine_2=>
  refine⟨rfl,rfl,rfl,jv _,λ_ h=>.inl h,λ_ _=>rfl,λb _ h1 h2=>⟨rfl,λh=>h.elim h1 (λe=>h2 o (je ho) (.inl e)),λo' pQ=>?_⟩,λi oi hi rG=>⟨oi,?_,jv _,rfl,λ_=>⟨rfl,rfl,rfl⟩⟩⟩
  ·rcases kp pQ with h|rfl
   ·exact h2 o' h
   ·intro hh;rcases hh with hh|hh
    ·simp at hh
    ·exact h2 o (je ho) (.inr hh)
  ·rw[kG (by omega)];exact rG
 have hF:∀b,F b->(λb=>F b∨o.Fe=some b) b:=λ_ h=>.inl h;have pd:FH os (os.set id ⟨{ o.row with gen:=o.row.gen+1,xs:=[] },none,0,o.more⟩):=FH.set ho (by simp) rfl (λe=>by simp at e);have oh:∀x v,Ae F w os x v->Ae (λb=>F b∨o.Fe=some b) w (os.set id ⟨{ o.row with gen:=o.row.gen+1,xs:=[] },none,0,o.more⟩) x v:=λx v h=>
  DU hF (λ_ _=>rfl) os _ pd x v h
 have pb:∀x∈o.row.xs,∀c∈x,∀u,Ae F w os c u->Ae (λb=>F b∨o.Fe=some b) w [] c u:=λx hx c hc u hu=>
  DU hF (λ_ _=>rfl) [] [] (by simp) c u (FZ (hp x hx c hc) [] hu)
 have h1:∀x v,Ae F w os x v->Ae (λb=>F b∨o.Fe=some b) w (os.set id ⟨{ o.row with gen:=o.row.gen+1,xs:=[] },none,0,o.more⟩) (HR id o.row.gen o.row.xs x) v:=λx v h=>by
  cases x with
  | own pW g' n=>
   simp only[HR];split
   ·rename_i wO;obtain⟨rfl,rfl⟩:=wO;simp only[Ae]at h⊢;obtain⟨o',pQ,_,_,h⟩:=h;rw[ho]at pQ;cases pQ;obtain⟨hn,hv⟩:=h rfl;have hlen:(o.row.xs.drop (o.row.xs.length-n)).length=n:=by simp;omega
    rcases hv with ⟨hb,ad,rfl⟩|⟨b,hb,rfl⟩
    ·have:=(ob.none hb).1;rw[this]at hn;simp only[lE,nR]at hn;subst hn;exact⟨ad,0,by simp,by simp,by simp⟩
    ·obtain⟨_,cur,pF,pL,hle,_,pH⟩:=ob.some b hb;refine⟨_,o.cap-(o.row.xs.length-n),by rw[hlen],by rw[hlen];omega,λ_=>⟨b,(o.row.xs.length-n)*o.row.size,o.row.size,rfl,.inr hb,λx hx=>(ob.lens x (lQ hx)).1,?_⟩⟩;refine K0 (λx hx=>(ob.lens x (lQ hx)).1) λi x hx=>KU λj c hc=>?_;have sm:=je hx;rw[kW]at hx;obtain⟨u,e1,e2⟩:=pH _ x hx j c hc;refine⟨u,?_,sH x (je hx) c (je hc),pb x (je hx) c (je hc) u e2⟩;rw[ml w b _ cur _ _ pF];rw[<- kP];exact e1
   ·exact oh _ _ h
  | ptr pW g' i off=>
   simp only[HR];split
   ·rename_i wO;obtain⟨rfl,rfl⟩:=wO;simp only[Ae]at h;obtain⟨o',pQ,_,_,h⟩:=h;rw[ho]at pQ;cases pQ;obtain⟨hi,_,b,hb,rfl⟩:=h rfl;rw[jl hi];obtain⟨_,cur,pF,pL,hle,_,pH⟩:=ob.some b hb;simp only[Ae];refine⟨b,i*o.row.size,rfl,.inr hb,KU λj c hc=>?_⟩;have hm:=mH hi;obtain⟨u,e1,e2⟩:=pH i _ (jl hi) j c hc;refine⟨u,?_,sH _ hm c (je hc),pb _ hm c (je hc) u e2⟩;rw[ml w b _ cur _ _ pF];exact e1
   ·exact oh _ _ h
  | _=>exact oh _ _ h
 have hL:∀xs us,Br F w os xs us->Br (λb=>F b∨o.Fe=some b) w (os.set id ⟨{ o.row with gen:=o.row.gen+1,xs:=[] },none,0,o.more⟩) (xs.map (HR id o.row.gen o.row.xs)) us:=λxs us h=>
  DZ (by simp[BY h]) λi x u hx hu=>by
   simp only[ji,jo]at hx;obtain⟨y,hy,rfl⟩:=hx;obtain⟨u',e1,e2⟩:=CN h i y hy;rw[hu]at e1;cases e1;exact h1 _ _ e2
 have oe:∀(i:Nat) (oi:Own),(os.set id ⟨{ o.row with gen:=o.row.gen+1,xs:=[] },none,0,o.more⟩)[i]?=some oi->(i≠id/\os[i]?=some oi)∨(i=id/\oi=⟨{ o.row with gen:=o.row.gen+1,xs:=[] },none,0,o.more⟩):=λi oi hi=>by
  by_cases e:i=id
  ·subst e;rw[ju (jg.1 ho).1,jh]at hi;exact .inr ⟨rfl,hi.symm⟩
  ·rw[kG (lK e)]at hi;exact .inl ⟨e,hi⟩
 refine⟨by rw[ln,hr.st],λt=>?_,hr.size,λi oi hi=>?_,λi j oi oj b hi hj qX qY=>?_,λb hb=>?_,hr.defers⟩
 ·have:=hr.env t;simp only;generalize s.env t=x at this⊢;cases x with
  | agg cs=>simp only[BL,Ae]at this⊢;obtain⟨us,e,h⟩:=this;exact⟨us,e,hL _ _ h⟩
  | Dp cs=>simp only[BL,Ae]at this⊢;obtain⟨us,e,h⟩:=this;exact⟨us,e,hL _ _ h⟩
  | _=>exact h1 _ _ this
 ·rcases oe i oi hi with ⟨pN,h⟩|⟨_,rfl⟩
  ·have qf:=hr.rows i oi h;refine⟨qf.pos,qf.lens,qf.none,λb hb=>?_,λb hb=>⟨λhF=>hF.elim (qf.mo b hb).1 (λrI=>pN (hr.inj i id oi o b h ho (.inr hb) (.inl rI))),(qf.mo b hb).2⟩,qf.deep⟩;obtain⟨e1,cur,e2,e3,e4,e5,e6⟩:=qf.some b hb;refine⟨λhF=>hF.elim e1 (λrI=>pN (hr.inj i id oi o b h ho (.inl hb) (.inl rI))),cur,e2,e3,e4,e5,λi' x hx j c hc=>?_⟩;obtain⟨u,f1,f2⟩:=e6 i' x hx j c hc;exact⟨u,f1,oh _ _ f2⟩
  ·exact⟨ob.pos,by simp,by simp,by simp,λb hb=>⟨λhF=>hF.elim (ob.mo b hb).1 (ob.mo b hb).2.2,(ob.mo b hb).2.1,by simp⟩,Er (by simp)⟩
 ·rcases oe i oi hi with ⟨pN,h⟩|⟨h,rfl⟩<;>rcases oe j oj hj with ⟨ug,h'⟩|⟨h',rfl⟩
  ·exact hr.inj i j oi oj b h h' qX qY
  ·exact hr.inj i j oi o b h (h'▸ho) qX (qY.elim (λe=>by simp at e) .inr)
  ·exact hr.inj i j o oj b (h▸ho) h' (qX.elim (λe=>by simp at e) .inr) qY
  ·omega
 ·rcases hb with hb|hb
  ·exact hr.FR b hb
  ·obtain⟨_,cur,pF,_⟩:=ob.some b hb;exact (kR.1 pF).1
def Ms (m:Nat):AV->AV
 | .own id g n=>.own (id+m) g n
 | .ptr id g i off=>.ptr (id+m) g i off
 | .fn ..|.agg _|.Dp _=>.E2
 | v=>v
def Pw (m:Nat)(x:AV):AV:=two (Ms m) x
def shift (m:Nat):AV->AV
 | .fn f cs=>.fn f (cs.map (Pw m))
 | .agg cs=>.agg (cs.map (Pw m))
 | .Dp cs=>.Dp (cs.map (Pw m))
 | v=>Pw m v
theorem Yn {pU:List Own}{x:AV}{v:Value}(h:Ae F w pU x v):Ae F w (os++pU) (Ms os.length x) v:=by
 have oe:∀id,(os++pU)[id+os.length]?=pU[id]?:=λid=>by rw[jt (by omega)];congr 1;omega
 cases x with
 | own id g n=>simp only[Ms,Ae]at h⊢;rw[oe];exact h
 | ptr id g i off=>simp only[Ms,Ae]at h⊢;rw[oe];exact h
 | fn f cs=>simp[Ms,Ae]
 | agg cs=>simp[Ms,Ae]
 | Dp cs=>simp[Ms,Ae]
 | _=>simp only[Ms,Ae]at h⊢<;>exact h
theorem TZ {pU:List Own}{x:AV}{v:Value}(h:Ae F w pU x v):Ae F w (os++pU) (Pw os.length x) v:=
 LQ (λ_ _ h=>Yn h) _ _ h
theorem OX {pU:List Own}{xs:List AV}{us:List Value}(h:Br F w pU xs us):Br F w (os++pU) (xs.map (Pw os.length)) us:=
 DZ (by simp[BY h]) λi x u hx hu=>by
  simp only[ji,jo]at hx;obtain⟨y,hy,rfl⟩:=hx;obtain⟨u',e1,e2⟩:=CN h i y hy;rw[hu]at e1;cases e1;exact TZ e2
theorem VT {pU:List Own}{x:AV}{v:Value}(h:Ae F w pU x v):Ae F w (os++pU) (shift os.length x) v:=by
 cases x with
 | fn f cs=>simp only[shift,Ae]at h⊢;obtain⟨us,e,hl⟩:=h;exact⟨us,e,OX hl⟩
 | agg cs=>simp only[shift,Ae]at h⊢;obtain⟨us,e,hl⟩:=h;exact⟨us,e,OX hl⟩
 | Dp cs=>simp only[shift,Ae]at h⊢;obtain⟨us,e,hl⟩:=h;exact⟨us,e,OX hl⟩
 | _=>exact TZ h
def NG:AV->Bool
 | .sl _|.Bh ..|.fn ..|.agg _|.Dp _=>false
 | _=>true
def Z8:AV->Bool
 | .agg cs=>cs.all NG
 | v=>NG v
def ax:AV->Bool
 | .Dp cs=>cs.all Z8
 | v=>Z8 v
theorem Q3 {F':Nat->Prop}{x:AV}{v:Value}(hx:NG x=true)(h:Ae F w os x v):Ae F' w os x v:=by
 cases x<;>simp only[NG,jk]at hx<;>simp only[Ae]at h⊢<;>exact h
theorem Uo {F':Nat->Prop}{x:AV}{v:Value}(hx:Z8 x=true)(h:Ae F w os x v):Ae F' w os x v:=by
 cases x with
 | agg cs=>
  simp only[Ae]at h⊢;obtain⟨us,e,hl⟩:=h;refine⟨us,e,DZ (BY hl) λi x u rO hu=>?_⟩;obtain⟨u',e1,e2⟩:=CN hl i x rO;rw[hu]at e1;cases e1;exact Q3 (jq.1 hx x (je rO)) e2
 | _=>exact Q3 hx h
theorem bl {F':Nat->Prop}{x:AV}{v:Value}(hx:ax x=true)(h:Ae F w os x v):Ae F' w os x v:=by
 cases x with
 | Dp cs=>
  simp only[Ae]at h⊢;obtain⟨us,e,hl⟩:=h;refine⟨us,e,DZ (BY hl) λi x u rO hu=>?_⟩;obtain⟨u',e1,e2⟩:=CN hl i x rO;rw[hu]at e1;cases e1;exact Uo (jq.1 hx x (je rO)) e2
 | _=>exact Uo hx h
theorem Rel.join {F0 F':Nat->Prop}{w':World}{pU:List Own}{st1:List Row}(hr:Rel F0 os s a w')(hs:G4 F' pU st1 w')(hFF :∀b,F0 b->F' b)(hp :∀row∈st1,DD row.xs)
  (zD:(∀b,F' b->F0 b)∨∀row∈st1,∀x∈row.xs,∀c∈x,NG c=true) (qC :∀(i:Nat) (o:Own),os[i]?=some o->∀b,o.owns b->∀o1:Own,o1∈pU->¬ o1.owns b) :
  Rel F0 (os++pU) { s with st:=s.st++st1 } a w':=by
 have pd:FH os (os++pU):=FH.append os pU;have oh:∀x v,Ae F0 w' os x v->Ae F0 w' (os++pU) x v:=λx v h=>DU (λ_ h=>h) (λ_ _=>rfl) os _ pd x v h;have oe:∀(i:Nat) (o:Own),(os++pU)[i]?=some o->(i<os.length/\os[i]?=some o)∨(os.length<=i/\pU[i-os.length]?=some o):=λi o h=>by
  by_cases hi:i<os.length
  ·rw[jr hi]at h;exact .inl ⟨hi,h⟩
  ·rw[jt (by omega)]at h;exact .inr ⟨by omega,h⟩
 refine⟨by rw[lJ,hr.st,hs.st],λt=>oh _ _ (hr.env t),hr.size,λi o ho=>?_,λi j oi oj b hi hj qX qY=>?_,hr.FR,hr.defers⟩
 ·rcases oe i o ho with ⟨_,h⟩|⟨_,h⟩
  ·have ob:=hr.rows i o h;refine⟨ob.pos,ob.lens,ob.none,λb hb=>?_,ob.mo,ob.deep⟩;obtain⟨e1,cur,e2,e3,e4,e5,e6⟩:=ob.some b hb;exact⟨e1,cur,e2,e3,e4,e5,λi' x hx j c hc=>by obtain⟨u,f1,f2⟩:=e6 i' x hx j c hc;exact⟨u,f1,oh _ _ f2⟩⟩
  ·have ob:=hs.rows _ o h;refine⟨ob.pos,ob.lens,ob.none,λb hb=>?_,λb hb=>⟨λhF=>(ob.mo b hb).1 (hFF b hF),(ob.mo b hb).2⟩,ob.deep⟩;obtain⟨e1,cur,e2,e3,e4,e5,e6⟩:=ob.some b hb;refine⟨λhF=>e1 (hFF b hF),cur,e2,e3,e4,e5,λi' x hx j c hc=>?_⟩;obtain⟨u,f1,f2⟩:=e6 i' x hx j c hc;have oY:o.row∈st1:=by rw[<- hs.st];exact kC.2 ⟨o,je h,rfl⟩
   have hsim:=hp o.row oY x (je hx) c (je hc);have f3:=YC hsim (os++pU) f2;refine⟨u,f1,?_⟩;rcases zD with h1|h1
   ·exact DU h1 (λ_ _=>rfl) _ _ (FH.refl _) c u f3
   ·exact Q3 (h1 o.row oY x (je hx) c (je hc)) f3
 ·rcases oe i oi hi with ⟨_,h⟩|⟨_,h⟩<;>rcases oe j oj hj with ⟨_,h'⟩|⟨_,h'⟩
  ·exact hr.inj i j oi oj b h h' qX qY
  ·exact absurd qY (qC i oi h b qX oj (je h'))
  ·exact absurd qX (qC j oj h' b qY oi (je h))
  ·have:=hs.inj _ _ oi oj b h h' qX qY;omega
theorem Ux {f:FuncId}{args:List AV}{d:Option Tmp}{K:St->Prop}{R:AV->List Row->Prop}(h:Ab P f args [] R)(hf:args.all flat=true)
  (hK :∀r st',R r st'->(∀row∈st',DD row.xs)/\K ({ s with st:=s.st++st' }.put d (shift s.st.length r))):callThen P k s f args d K:=by
 intro F os a w vs hr hl;refine (h F [] w vs (G4.nil hr.FR) (RL hf [] hl)).mono ?_;rintro e w' ⟨u,r,st',F',pU,rfl,hR,hs,hru,he⟩;obtain⟨hp,hk⟩:=hK r st' hR;obtain⟨h1,h2,_,qC⟩:=hr.after (k:=k) he hs.FR;refine⟨u,_,s.st++st',F',os++pU,rfl,hk,h1.join hs (λ_ h=>h) hp (.inl λ_ h=>h) qC,?_,?_⟩
 ·rw[hr.len];exact VT hru
 ·refine⟨h2.sys,h2.tape,h2.output,h2.size,h2.NB,h2.IJ,λb hb e1 e2=>?_,λi o hi ho=>?_⟩
  ·obtain⟨f1,f2,f3⟩:=he.other b hb e1 (by simp);exact⟨f1,f2,λo ho=>by rcases kJ.1 ho with h|h;exact e2 o h;exact f3 o h⟩
  ·exact FH.append os pU i o ho
mutual
def Ot:AV->AV
 | .dv _ _ xs=>.sl (KO xs)
 | c=>c
def KO:List (List AV)->List (List AV)
 | []=>[]
 | x::r=>Hz x::KO r
def Hz:List AV->List AV
 | []=>[]
 | c::r=>Ot c::Hz r
end
theorem Nl:∀x:List AV,Hz x=x.map Ot
 | []=>by simp[Hz]
 | c::r=>by simp[Hz,Nl r]
theorem Hx:∀xs:List (List AV),KO xs=xs.map Hz
 | []=>by simp[KO]
 | x::r=>by simp[KO,Hx r]
theorem TU {c:AV}(h:simple c=true):Ot c=c:=by cases c<;>simp_all [simple,Ot]
mutual
theorem Sp {S F:Nat->Prop}{w:World}(hS :∀b,S b->F b):∀(x:AV) (v:Value),ES S w x v->Ae F w [] (Ot x) v/\(Ot x).leaf=true
 | .dv el size xs,v,h=>by
  simp only[ES]at h;obtain⟨hp,h⟩:=h;simp only[Ot,Ae,AV.leaf,and_true];rcases h with ⟨rfl,a,rfl⟩|⟨b,cap,cur,rfl,h2,h3,h4,h5,h6,h7,h8⟩
  ·exact⟨a,0,by simp[KO],by simp[KO],by simp[KO]⟩
  ·refine⟨_,cap,by simp[Hx],by simpa [Hx] using h2,λ_=>⟨b,0,size,rfl,hS b h4,λx hx=>?_,Vl (S:=λc=>S c/\c≠b) (λc hc=>hS c hc.1) h5 xs 0 h8⟩⟩;rw[Hx]at hx;obtain⟨y,hy,rfl⟩:=kC.1 hx;rw[Nl,kB];exact h7 y hy
 | .int _ _,_,h=>by simpa [ES,Ot,Ae,AV.leaf] using h
 | .bool _,_,h=>by simpa [ES,Ot,Ae,AV.leaf] using h
 | .str _,_,h=>by simpa [ES,Ot,Ae,AV.leaf] using h
 | .zc,_,h=>by simpa [ES,Ot,Ae,AV.leaf] using h
 | .Qm,_,h=>by simpa [ES,Ot,Ae,AV.leaf] using h
 | .Qb,_,h=>by simpa [ES,Ot,Ae,AV.leaf] using h
 | .E2,_,h=>by simp[ES]at h
 | .un,_,h=>by simp[ES]at h
 | .sl _,_,h=>by simp[ES]at h
 | .own ..,_,h=>by simp[ES]at h
 | .ptr ..,_,h=>by simp[ES]at h
 | .Bh ..,_,h=>by simp[ES]at h
 | .fn ..,_,h=>by simp[ES]at h
 | .agg _,_,h=>by simp[ES]at h
 | .Dp _,_,h=>by simp[ES]at h
theorem Vl {S F:Nat->Prop}{w:World}(hS :∀b,S b->F b){b:Nat}{cur:Array Value}{el:TypeId}(pF:w.heap[b]?=some (.cells cur el (0,0))):∀(xs:List (List AV)) (o:Nat),Kh S w xs cur o->HK F w (KO xs) b o
 | [],_,_=>by simp[KO,HK]
 | x::r,o,h=>by
  simp only[Kh]at h;simp only[KO,HK];obtain⟨S1,S2,h1,h2,_,h4,h5⟩:=h;have hl:(Hz x).length=x.length:=by rw[Nl,kB]
  rw[hl];exact⟨Vv (λc hc=>hS c (h1 c hc)) pF x o h4,Vl (λc hc=>hS c (h2 c hc)) pF r _ h5⟩
theorem Vv {S F:Nat->Prop}{w:World}(hS :∀b,S b->F b){b:Nat}{cur:Array Value}{el:TypeId}(pF:w.heap[b]?=some (.cells cur el (0,0))):∀(xs:List AV) (o:Nat),Kj S w xs cur o->FF F w (Hz xs) b o
 | [],_,_=>by simp[Hz,FF]
 | x::r,o,h=>by
  simp only[Kj]at h;simp only[Hz,FF];obtain⟨S1,S2,h1,h2,_,⟨u,h4,h5⟩,h6⟩:=h;obtain⟨g1,g2⟩:=Sp (λc hc=>hS c (h1 c hc)) x u h5;exact⟨⟨u,by rw[ml w b _ cur _ _ pF];exact h4,g2,g1⟩,Vv (λc hc=>hS c (h2 c hc)) pF r _ h6⟩
end
def SD (st:List Row):AV->AV
 | .own id g n=>match st[id]? with
  | some row=>if row.gen=g then .sl (KO (row.xs.drop (row.xs.length-n))) else .E2
  | none=>.E2
 | v=>v
def HQ (st:List Row):AV->AV
 | .agg cs=>.agg (cs.map (SD st))
 | v=>SD st v
def Pn (args:List AV)(id g n:Nat):Prop:=AV.own id g n∈args∨∃cs,AV.agg cs∈args/\AV.own id g n∈cs
def RO (F:Nat->Prop)(os:List Own)(args:List AV)(b:Nat):Prop:=F b∨∃id g n o,Pn args id g n/\os[id]?=some o/\o.owns b
theorem bw (hr:Rel F os s a w){F1:Nat->Prop}(vv :∀b,F b->F1 b){id g n:Nat}{o:Own}(ho:os[id]?=some o)(hl :∀b,o.owns b->F1 b)(vf:DD o.row.xs){u:Value}
  (e2:Ae F w os (.own id g n) u) (hg:o.row.gen=g):Ae F1 w os (.sl (KO (o.row.xs.drop (o.row.xs.length-n)))) u:=by
 have ob:=hr.rows id o ho;have hm:∀x v,Ae F w os x v->Ae F1 w os x v:=λx v h=>DU vv (λ_ _=>rfl) os os (FH.refl os) x v h;simp only[Ae]at e2⊢;obtain⟨o',pQ,_,_,e2⟩:=e2;rw[ho]at pQ;cases pQ;obtain⟨hn,hv⟩:=e2 hg;have hlen:(KO (o.row.xs.drop (o.row.xs.length-n))).length=n:=by simp[Hx];omega
 rcases hv with ⟨hb,ad,rfl⟩|⟨b,hb,rfl⟩
 ·have:=(ob.none hb).1;rw[this]at hn;simp only[lE,nR]at hn;subst hn;exact⟨ad,0,by simp[Hx],by simp[Hx],by simp[Hx]⟩
 ·obtain⟨_,cur,pF,pL,hle,_,pH⟩:=ob.some b hb;have hls:∀x∈KO (o.row.xs.drop (o.row.xs.length-n)),x.length=o.row.size:=λx hx=>by
   rw[Hx]at hx;obtain⟨y,hy,rfl⟩:=kC.1 hx;rw[Nl,kB];exact (ob.lens y (lQ hy)).1
  refine⟨_,o.cap-(o.row.xs.length-n),by rw[hlen],by rw[hlen];omega,λ_=>⟨b,(o.row.xs.length-n)*o.row.size,o.row.size,rfl,hl b (.inl hb),hls,?_⟩⟩;refine K0 hls λi x hx=>KU λj c hc=>?_;rw[Hx,ji,jo]at hx;obtain⟨x0,hx0,rfl⟩:=hx;rw[Nl,ji,jo]at hc;obtain⟨c0,qj,rfl⟩:=hc;rw[kW]at hx0
  ·have hsi:=vf x0 (je hx0) c0 (je qj);have hk:=(ob.lens x0 (je hx0)).2 c0 (je qj);by_cases hd :∃el sz ys,c0=.dv el sz ys
   ·obtain⟨el,sz,ys,rfl⟩:=hd;obtain⟨D,d1,_,d3⟩:=ob.deep;obtain⟨u,f1,f2⟩:=d3 b hb cur _ _ pF _ x0 j el sz ys hx0 qj;obtain⟨g1,g2⟩:=Sp (F:=F1) (λc hc=>hl c (.inr (d1 _ _ _ hc))) _ u f2;exact⟨u,by rw[ml w b _ cur _ _ pF,<- kP];exact f1,g2,g1⟩
   ·have hs:simple c0=true:=by cases c0<;>simp_all [Ed]
    rw[TU hs];obtain⟨u,f1,f2⟩:=pH _ x0 hx0 j c0 qj;refine⟨u,?_,by cases c0<;>simp_all [AV.kept],FZ hs [] (hm _ _ f2)⟩;rw[ml w b _ cur _ _ pF,<- kP];exact f1
theorem af (hr:Rel F os s a w){args:List AV}{vs:List Value}(hl:Br F w os args vs)(sn :∀id g n,Pn args id g n->∀row,s.st[id]?=some row->DD row.xs):
  Br (RO F os args) w os (args.map (HQ s.st)) vs:=by
 have vv:∀b,F b->RO F os args b:=λ_ h=>.inl h;have hm:∀x v,Ae F w os x v->Ae (RO F os args) w os x v:=λx v h=>DU vv (λ_ _=>rfl) os os (FH.refl os) x v h;have h0:∀y u,(∀id g n,y=AV.own id g n->Pn args id g n)->Ae F w os y u->Ae (RO F os args) w os (SD s.st y) u:=λy u pt e2=>by
  cases y with
  | own id g n=>
   simp only[SD];split
   ·rename_i row oY;split
    ·rename_i hg;obtain⟨o,ho,rfl⟩:=hr.row oY;exact bw hr vv ho (λb hb=>.inr ⟨id,g,n,o,pt id g n rfl,ho,hb⟩) (sn id g n (pt id g n rfl) o.row oY) e2 hg
    ·simp[Ae]
   ·simp[Ae]
  | _=>exact hm _ _ e2
 refine DZ (by simp[BY hl]) λi x u hx hu=>?_;simp only[ji,jo]at hx;obtain⟨y,hy,rfl⟩:=hx;obtain⟨u',e1,e2⟩:=CN hl i y hy;rw[hu]at e1;cases e1;have hym:=je hy;cases y with
 | agg cs=>
  simp only[HQ,Ae]at e2⊢;obtain⟨us,e,qk⟩:=e2;refine⟨us,e,DZ (by simp[BY qk]) λj x u hx hu=>?_⟩;simp only[ji,jo]at hx;obtain⟨y,hy,rfl⟩:=hx;obtain⟨u',e1,e2⟩:=CN qk j y hy;rw[hu]at e1;cases e1;exact h0 y u (λid g n e=>.inr ⟨cs,hym,e▸je hy⟩) e2
 | own id g n=>exact h0 _ u (λpW g' n' e=>.inl (e▸hym)) e2
 | _=>exact hm _ _ e2
theorem X7 {P:Program}{s:St}{f:FuncId}{args:List AV}{R:AV->List Row->Prop}{k:Nat}(h:Ab P f (args.map (HQ s.st)) [] R)(hf:(args.map (HQ s.st)).all flat=true)
  (sn :∀id g n,Pn args id g n->∀row,s.st[id]?=some row->DD row.xs) {F:Nat->Prop} {os:List Own} {a:Act} {w:World} {vs:List Value} (hr:Rel F os s a w) (hl:Br F w os args vs) :
  Calls P f vs.toArray w λe w'=>∃u r st' F' pU,e=.returned u/\R r st'/\Rel F os s a w'/\G4 F' pU st' w'/\Ae F' w' pU r u/\(∀b,F b->F' b)/\Ext F os w F os w' k/\
   (∀(i:Nat) (o:Own),os[i]?=some o->∀b,o.owns b->∀o1:Own,o1∈pU->¬ o1.owns b)/\∀b,b<w.heap.size->¬ F b->(∀o:Own,o∈os->¬ o.owns b)->∀o1:Own,o1∈pU->¬ o1.owns b:=by
 have vv:∀b,F b->RO F os args b:=λ_ h=>.inl h;have pG:∀(i:Nat) (o:Own) b,os[i]?=some o->o.owns b->b<w.heap.size:=λi o b hi hb=>(hr.rows i o hi).lt hb;have zE:∀b,RO F os args b->b<w.heap.size:=λb hb=>by
  rcases hb with hb|⟨id,g,n,o,_,ho,rI⟩
  ·exact hr.FR b hb
  ·exact pG id o b ho rI
 have sA:=af hr hl sn;refine (h (RO F os args) [] w vs (G4.nil zE) (RL hf [] sA)).mono ?_;rintro e w' ⟨u,r,st',F',pU,rfl,hR,hs,hru,he⟩;have oY:∀(i:Nat) (o:Own),os[i]?=some o->∀b,o.owns b->w'.heap[b]?=w.heap[b]?/\∀o1:Own,o1∈pU->¬ o1.owns b:=λi o ho b hb=>by
  by_cases h1:RO F os args b
  ·refine⟨he.IJ b h1,λo1 zF e=>?_⟩;obtain⟨j,hj⟩:=jz.1 zF;exact (hs.rows j o1 hj).nF e (he.NB b h1)
  ·obtain⟨f1,_,f3⟩:=he.other b (pG i o b ho hb) h1 (by simp);exact⟨f1,f3⟩
 have oh:∀x v,Ae F w os x v->Ae F w' os x v:=λx v h=>DU (λ_ h=>h) (λb hb=>he.IJ b (vv b hb)) os os (FH.refl os) x v h;have qF:Rel F os s a w':=⟨hr.st,λt=>oh _ _ (hr.env t),hr.size,λi o ho=>by
   have ob:=hr.rows i o ho;refine⟨ob.pos,ob.lens,ob.none,λb hb=>?_,λb hb=>⟨(ob.mo b hb).1,ke (ob.mo b hb).2.1 he.size,(ob.mo b hb).2.2⟩,ob.deep.keep rfl (λ_ h=>h) rfl (λb hb=>(oY i o ho b hb).1) (λi x j e s ys hx hc=>⟨x,hx,hc⟩)⟩;obtain⟨e1,cur,e2,e3,e4,e5,e6⟩:=ob.some b hb;exact⟨e1,cur,by rw[(oY i o ho b (.inl hb)).1];exact e2,e3,e4,e5,λi' x hx j c hc=>by obtain⟨u,f1,f2⟩:=e6 i' x hx j c hc;exact⟨u,f1,oh _ _ f2⟩⟩,
  hr.inj,λb hb=>ke (hr.FR b hb) he.size,hr.defers⟩
 have rJ:∀b,b<w.heap.size->¬ F b->(∀o:Own,o∈os->¬ o.owns b)->w'.heap[b]?=w.heap[b]?/\∀o1:Own,o1∈pU->¬ o1.owns b:=λb hb e1 e2=>by
  have hnF1:¬ RO F os args b:=λh=>h.elim e1 (λ⟨id,g,n,o,_,ho,rI⟩=>e2 o (je ho) rI);obtain⟨f1,_,f3⟩:=he.other b hb hnF1 (by simp);exact⟨f1,f3⟩
 exact⟨u,r,st',F',pU,rfl,hR,qF,hs,hru,λb hb=>he.NB b (vv b hb),
  ⟨he.sys,he.tape,he.output,he.size,λ_ h=>h,λb hb=>he.IJ b (vv b hb),λb hb e1 e2=>⟨(rJ b hb e1 e2).1,e1,e2⟩,λi o _ ho=>⟨o,ho,jv _,rfl,λ_=>⟨rfl,rfl,rfl⟩⟩⟩,
  λi o ho b hb=>(oY i o ho b hb).2,λb hb e1 e2=>(rJ b hb e1 e2).2⟩
theorem Ns {f:FuncId}{args:List AV}{d:Option Tmp}{K:St->Prop}{R:AV->List Row->Prop}(h:Ab P f (args.map (HQ s.st)) [] R)(hf:(args.map (HQ s.st)).all flat=true)
  (sn :∀id g n,Pn args id g n->∀row,s.st[id]?=some row->DD row.xs)
  (hK :∀r st',R r st'->(ax r=true/\∀row∈st',∀x∈row.xs,∀c∈x,NG c=true)/\(∀row∈st',DD row.xs)/\K ({ s with st:=s.st++st' }.put d (shift s.st.length r))):callThen P k s f args d K:=by
 intro F os a w vs hr hl;refine (X7 (k:=k) h hf sn hr hl).mono ?_;rintro e w' ⟨u,r,st',F',pU,rfl,hR,qF,hs,hru,hFF,he,qC,rJ⟩;obtain⟨⟨hsr,zG⟩,hp,hk⟩:=hK r st' hR;refine⟨u,_,s.st++st',F,os++pU,rfl,hk,qF.join hs hFF hp (.inr zG) qC,?_,?_⟩
 ·rw[hr.len];exact VT (bl hsr hru)
 ·refine⟨he.sys,he.tape,he.output,he.size,λ_ h=>h,he.IJ,λb hb e1 e2=>?_,λi o hi ho=>FH.append os pU i o ho⟩;obtain⟨f1,_,_⟩:=he.other b hb e1 e2;exact⟨f1,e1,λo ho=>by rcases kJ.1 ho with h|h;exact e2 o h;exact rJ b hb e1 e2 o h⟩
end Go.Abs
