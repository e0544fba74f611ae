import Derived.Test.YtihdgoiebmfapaaGreatAbsK
namespace Go.Abs
open Go
variable {P : Program} {F : Nat -> Prop} {os : List Own} {s : St} {a : Act} {w : World} {k : Nat}
def Hd (id g:Nat)(xs:List (List AV)):AV->AV
 | .own rL g' n=>if rL=id/\g'=g then .sl (xs.drop (xs.length-n)) else .own rL g' n
 | .ptr rL g' i off=>if rL=id/\g'=g then (match xs[i]? with|some x=>.Bo x off|none=>.E7) else .ptr rL g' i off
 | v=>v
def BL (id g:Nat)(xs:List (List AV)):AV->AV
 | .agg cs=>.agg (cs.map (Hd id g xs))
 | .Dd cs=>.Dd (cs.map (Hd id g xs))
 | v=>Hd id g xs v
def EN (xs:List (List AV)):Prop:=∀x∈xs,∀c∈x,simple c=true
def DG (xs:List (List AV)):Prop:=∀x∈xs,∀c∈x,Ee c=true
theorem EN.any {xs:List (List AV)}(h:EN xs):DG xs:=λx hx c hc=>PH (h x hx c hc)
theorem Wk.freeze {id:Nat}{row:Row}(tM:k<=id)(qa:s.st[id]?=some row)(hp:EN row.xs):
  Wk k s ⟨s.n,λt=>BL id row.gen row.xs (s.env t),s.st.set id { row with gen:=row.gen+1,xs:=[] }⟩:=λF os a w hr=>by
 obtain⟨o,ho,rfl⟩:=hr.row qa;have qd:=hr.rows id o ho;have uG:∀x∈o.row.xs,∀c∈x,c.leaf=true:=λx hx c hc=>by
  have h1:=hp x hx c hc;have h2:=(qd.lens x hx).2 c hc;cases c<;>simp_all [simple,AV.leaf,AV.kept]
 refine⟨λb=>F b∨o.Fk=some b,os.set id ⟨{ o.row with gen:=o.row.gen+1,xs:=[] },none,0,o.more⟩,?_,?_⟩
 case refine_2=>
  refine⟨rfl,rfl,rfl,ll _,λ_ h=>.inl h,λ_ _=>rfl,λb _ h1 h2=>⟨rfl,λh=>h.elim h1 (λe=>h2 o (lT ho) (.inl e)),λo' rF=>?_⟩,λi oi hi tE=>⟨oi,?_,ll _,rfl,λ_=>⟨rfl,rfl,rfl⟩⟩⟩
  ·rcases mg rF with h|rfl
   ·exact h2 o' h
   ·intro hh;rcases hh with hh|hh
    ·simp at hh
    ·exact h2 o (lT ho) (.inr hh)
  ·rw[mG (by omega)];exact tE
 have hF:∀b,F b->(λb=>F b∨o.Fk=some b) b:=λ_ h=>.inl h;have rS:FN os (os.set id ⟨{ o.row with gen:=o.row.gen+1,xs:=[] },none,0,o.more⟩):=FN.set ho (by simp) rfl (λe=>by simp at e);have qi:∀x v,Ae F w os x v->Ae (λb=>F b∨o.Fk=some b) w (os.set id ⟨{ o.row with gen:=o.row.gen+1,xs:=[] },none,0,o.more⟩) x v:=λx v h=>
  DW hF (λ_ _=>rfl) os _ rS x v h
 have rQ:∀x∈o.row.xs,∀c∈x,∀u,Ae F w os c u->Ae (λb=>F b∨o.Fk=some b) w [] c u:=λx hx c hc u hu=>
  DW hF (λ_ _=>rfl) [] [] (by simp) c u (Fg (hp x hx c hc) [] hu)
 have h1:∀x v,Ae F w os x v->Ae (λb=>F b∨o.Fk=some b) w (os.set id ⟨{ o.row with gen:=o.row.gen+1,xs:=[] },none,0,o.more⟩) (Hd id o.row.gen o.row.xs x) v:=λx v h=>by
  cases x with
  | own rL g' n=>
   simp only[Hd];split
   ·rename_i yS;obtain⟨rfl,rfl⟩:=yS;simp only[Ae]at h⊢;obtain⟨o',rF,_,_,h⟩:=h;rw[ho]at rF;cases rF;obtain⟨hn,hv⟩:=h rfl;have hlen:(o.row.xs.drop (o.row.xs.length-n)).length=n:=by simp;omega
    rcases hv with ⟨hb,ad,rfl⟩|⟨b,hb,rfl⟩
    ·have:=(qd.none hb).1;rw[this]at hn;simp only[nD,pS]at hn;subst hn;exact⟨ad,0,by simp,by simp,by simp⟩
    ·obtain⟨_,cur,qt,rA,hle,_,qw⟩:=qd.some b hb;refine⟨_,o.cap-(o.row.xs.length-n),by rw[hlen],by rw[hlen];omega,λ_=>⟨b,(o.row.xs.length-n)*o.row.size,o.row.size,rfl,.inr hb,λx hx=>(qd.lens x (nR hx)).1,?_⟩⟩;refine LZ (λx hx=>(qd.lens x (nR hx)).1) λi x hx=>Ki λj c hc=>?_;have tc:=lT hx;rw[mU]at hx;obtain⟨u,e1,e2⟩:=qw _ x hx j c hc;refine⟨u,?_,uG x (lT hx) c (lT hc),rQ x (lT hx) c (lT hc) u e2⟩;rw[oc w b _ cur _ _ qt];rw[<- mM];exact e1
   ·exact qi _ _ h
  | ptr rL g' i off=>
   simp only[Hd];split
   ·rename_i yS;obtain⟨rfl,rfl⟩:=yS;simp only[Ae]at h;obtain⟨o',rF,_,_,h⟩:=h;rw[ho]at rF;cases rF;obtain⟨hi,_,b,hb,rfl⟩:=h rfl;rw[lZ hi];obtain⟨_,cur,qt,rA,hle,_,qw⟩:=qd.some b hb;simp only[Ae];refine⟨b,i*o.row.size,rfl,.inr hb,Ki λj c hc=>?_⟩;have hm:=oD hi;obtain⟨u,e1,e2⟩:=qw i _ (lZ hi) j c hc;refine⟨u,?_,uG _ hm c (lT hc),rQ _ hm c (lT hc) u e2⟩;rw[oc w b _ cur _ _ qt];exact e1
   ·exact qi _ _ h
  | _=>exact qi _ _ h
 have hL:∀xs us,Bs F w os xs us->Bs (λb=>F b∨o.Fk=some b) w (os.set id ⟨{ o.row with gen:=o.row.gen+1,xs:=[] },none,0,o.more⟩) (xs.map (Hd id o.row.gen o.row.xs)) us:=λxs us h=>
  Da (by simp[BZ h]) λi x u hx hu=>by
   simp only[lW,lg]at hx;obtain⟨y,hy,rfl⟩:=hx;obtain⟨u',e1,e2⟩:=CO h i y hy;rw[hu]at e1;cases e1;exact h1 _ _ e2
 have qg:∀(i:Nat) (oi:Own),(os.set id ⟨{ o.row with gen:=o.row.gen+1,xs:=[] },none,0,o.more⟩)[i]?=some oi->(i≠id/\os[i]?=some oi)∨(i=id/\oi=⟨{ o.row with gen:=o.row.gen+1,xs:=[] },none,0,o.more⟩):=λi oi hi=>by
  by_cases e:i=id
  ·subst e;rw[lp (lV.1 ho).1,lX]at hi;exact .inr ⟨rfl,hi.symm⟩
  ·rw[mG (nK e)]at hi;exact .inl ⟨e,hi⟩
 refine⟨by rw[nj,hr.st],λt=>?_,hr.size,λi oi hi=>?_,λi j oi oj b hi hj sK sL=>?_,λb hb=>?_,hr.defers⟩
 ·have:=hr.env t;simp only;generalize s.env t=x at this⊢;cases x with
  | agg cs=>simp only[BL,Ae]at this⊢;obtain⟨us,e,h⟩:=this;exact⟨us,e,hL _ _ h⟩
  | Dd cs=>simp only[BL,Ae]at this⊢;obtain⟨us,e,h⟩:=this;exact⟨us,e,hL _ _ h⟩
  | _=>exact h1 _ _ this
 ·rcases qg i oi hi with ⟨rC,h⟩|⟨_,rfl⟩
  ·have sS:=hr.rows i oi h;refine⟨sS.pos,sS.lens,sS.none,λb hb=>?_,λb hb=>⟨λhF=>hF.elim (sS.mo b hb).1 (λtG=>rC (hr.inj i id oi o b h ho (.inr hb) (.inl tG))),(sS.mo b hb).2⟩,sS.deep⟩;obtain⟨e1,cur,e2,e3,e4,e5,e6⟩:=sS.some b hb;refine⟨λhF=>hF.elim e1 (λtG=>rC (hr.inj i id oi o b h ho (.inl hb) (.inl tG))),cur,e2,e3,e4,e5,λi' x hx j c hc=>?_⟩;obtain⟨u,f1,f2⟩:=e6 i' x hx j c hc;exact⟨u,f1,qi _ _ f2⟩
  ·exact⟨qd.pos,by simp,by simp,by simp,λb hb=>⟨λhF=>hF.elim (qd.mo b hb).1 (qd.mo b hb).2.2,(qd.mo b hb).2.1,by simp⟩,Ew (by simp)⟩
 ·rcases qg i oi hi with ⟨rC,h⟩|⟨h,rfl⟩<;>rcases qg j oj hj with ⟨wg,h'⟩|⟨h',rfl⟩
  ·exact hr.inj i j oi oj b h h' sK sL
  ·exact hr.inj i j oi o b h (h'▸ho) sK (sL.elim (λe=>by simp at e) .inr)
  ·exact hr.inj i j o oj b (h▸ho) h' (sK.elim (λe=>by simp at e) .inr) sL
  ·omega
 ·rcases hb with hb|hb
  ·exact hr.FR b hb
  ·obtain⟨_,cur,qt,_⟩:=qd.some b hb;exact (mO.1 qt).1
def NI (m:Nat):AV->AV
 | .own id g n=>.own (id+m) g n
 | .ptr id g i off=>.ptr (id+m) g i off
 | .fn ..|.agg _|.Dd _=>.E7
 | v=>v
def QL (m:Nat)(x:AV):AV:=two (NI m) x
def shift (m:Nat):AV->AV
 | .fn f cs=>.fn f (cs.map (QL m))
 | .agg cs=>.agg (cs.map (QL m))
 | .Dd cs=>.Dd (cs.map (QL m))
 | v=>QL m v
theorem aS {rJ:List Own}{x:AV}{v:Value}(h:Ae F w rJ x v):Ae F w (os++rJ) (NI os.length x) v:=by
 have qg:∀id,(os++rJ)[id+os.length]?=rJ[id]?:=λid=>by rw[ln (by omega)];congr 1;omega
 cases x with
 | own id g n=>simp only[NI,Ae]at h⊢;rw[qg];exact h
 | ptr id g i off=>simp only[NI,Ae]at h⊢;rw[qg];exact h
 | fn f cs=>simp[NI,Ae]
 | agg cs=>simp[NI,Ae]
 | Dd cs=>simp[NI,Ae]
 | _=>simp only[NI,Ae]at h⊢<;>exact h
theorem T9 {rJ:List Own}{x:AV}{v:Value}(h:Ae F w rJ x v):Ae F w (os++rJ) (QL os.length x) v:=
 LR (λ_ _ h=>aS h) _ _ h
theorem O3 {rJ:List Own}{xs:List AV}{us:List Value}(h:Bs F w rJ xs us):Bs F w (os++rJ) (xs.map (QL os.length)) us:=
 Da (by simp[BZ h]) λi x u hx hu=>by
  simp only[lW,lg]at hx;obtain⟨y,hy,rfl⟩:=hx;obtain⟨u',e1,e2⟩:=CO h i y hy;rw[hu]at e1;cases e1;exact T9 e2
theorem WW {rJ:List Own}{x:AV}{v:Value}(h:Ae F w rJ x v):Ae F w (os++rJ) (shift os.length x) v:=by
 cases x with
 | fn f cs=>simp only[shift,Ae]at h⊢;obtain⟨us,e,hl⟩:=h;exact⟨us,e,O3 hl⟩
 | agg cs=>simp only[shift,Ae]at h⊢;obtain⟨us,e,hl⟩:=h;exact⟨us,e,O3 hl⟩
 | Dd cs=>simp only[shift,Ae]at h⊢;obtain⟨us,e,hl⟩:=h;exact⟨us,e,O3 hl⟩
 | _=>exact T9 h
def Nc:AV->Bool
 | .sl _|.Bo ..|.fn ..|.agg _|.Dd _=>false
 | _=>true
def cC:AV->Bool
 | .agg cs=>cs.all Nc
 | v=>Nc v
def dB:AV->Bool
 | .Dd cs=>cs.all cC
 | v=>cC v
theorem RW {F':Nat->Prop}{x:AV}{v:Value}(hx:Nc x=true)(h:Ae F w os x v):Ae F' w os x v:=by
 cases x<;>simp only[Nc,lY]at hx<;>simp only[Ae]at h⊢<;>exact h
theorem Wo {F':Nat->Prop}{x:AV}{v:Value}(hx:cC x=true)(h:Ae F w os x v):Ae F' w os x v:=by
 cases x with
 | agg cs=>
  simp only[Ae]at h⊢;obtain⟨us,e,hl⟩:=h;refine⟨us,e,Da (BZ hl) λi x u tL hu=>?_⟩;obtain⟨u',e1,e2⟩:=CO hl i x tL;rw[hu]at e1;cases e1;exact RW (lh.1 hx x (lT tL)) e2
 | _=>exact RW hx h
theorem eU {F':Nat->Prop}{x:AV}{v:Value}(hx:dB x=true)(h:Ae F w os x v):Ae F' w os x v:=by
 cases x with
 | Dd cs=>
  simp only[Ae]at h⊢;obtain⟨us,e,hl⟩:=h;refine⟨us,e,Da (BZ hl) λi x u tL hu=>?_⟩;obtain⟨u',e1,e2⟩:=CO hl i x tL;rw[hu]at e1;cases e1;exact Wo (lh.1 hx x (lT tL)) e2
 | _=>exact Wo hx h
theorem Rel.join {F0 F':Nat->Prop}{w':World}{rJ:List Own}{st1:List Row}(hr:Rel F0 os s a w')(hs:G6 F' rJ st1 w')(hFF :∀b,F0 b->F' b)(hp :∀row∈st1,DG row.xs)
  (hscal:(∀b,F' b->F0 b)∨∀row∈st1,∀x∈row.xs,∀c∈x,Nc c=true) (rn :∀(i:Nat) (o:Own),os[i]?=some o->∀b,o.owns b->∀o1:Own,o1∈rJ->¬ o1.owns b) :
  Rel F0 (os++rJ) { s with st:=s.st++st1 } a w':=by
 have rS:FN os (os++rJ):=FN.append os rJ;have qi:∀x v,Ae F0 w' os x v->Ae F0 w' (os++rJ) x v:=λx v h=>DW (λ_ h=>h) (λ_ _=>rfl) os _ rS x v h;have qg:∀(i:Nat) (o:Own),(os++rJ)[i]?=some o->(i<os.length/\os[i]?=some o)∨(os.length<=i/\rJ[i-os.length]?=some o):=λi o h=>by
  by_cases hi:i<os.length
  ·rw[lj hi]at h;exact .inl ⟨hi,h⟩
  ·rw[ln (by omega)]at h;exact .inr ⟨by omega,h⟩
 refine⟨by rw[nI,hr.st,hs.st],λt=>qi _ _ (hr.env t),hr.size,λi o ho=>?_,λi j oi oj b hi hj sK sL=>?_,hr.FR,hr.defers⟩
 ·rcases qg i o ho with ⟨_,h⟩|⟨_,h⟩
  ·have qd:=hr.rows i o h;refine⟨qd.pos,qd.lens,qd.none,λb hb=>?_,qd.mo,qd.deep⟩;obtain⟨e1,cur,e2,e3,e4,e5,e6⟩:=qd.some b hb;exact⟨e1,cur,e2,e3,e4,e5,λi' x hx j c hc=>by obtain⟨u,f1,f2⟩:=e6 i' x hx j c hc;exact⟨u,f1,qi _ _ f2⟩⟩
  ·have qd:=hs.rows _ o h;refine⟨qd.pos,qd.lens,qd.none,λb hb=>?_,λb hb=>⟨λhF=>(qd.mo b hb).1 (hFF b hF),(qd.mo b hb).2⟩,qd.deep⟩;obtain⟨e1,cur,e2,e3,e4,e5,e6⟩:=qd.some b hb;refine⟨λhF=>e1 (hFF b hF),cur,e2,e3,e4,e5,λi' x hx j c hc=>?_⟩;obtain⟨u,f1,f2⟩:=e6 i' x hx j c hc;have qa:o.row∈st1:=by rw[<- hs.st];exact mA.2 ⟨o,lT h,rfl⟩
   have hsim:=hp o.row qa x (lT hx) c (lT hc);have f3:=Yy hsim (os++rJ) f2;refine⟨u,f1,?_⟩;rcases hscal with h1|h1
   ·exact DW h1 (λ_ _=>rfl) _ _ (FN.refl _) c u f3
   ·exact RW (h1 o.row qa x (lT hx) c (lT hc)) f3
 ·rcases qg i oi hi with ⟨_,h⟩|⟨_,h⟩<;>rcases qg j oj hj with ⟨_,h'⟩|⟨_,h'⟩
  ·exact hr.inj i j oi oj b h h' sK sL
  ·exact absurd sL (rn i oi h b sK oj (lT h'))
  ·exact absurd sK (rn j oj h' b sL oi (lT h))
  ·have:=hs.inj _ _ oi oj b h h' sK sL;omega
theorem V2 {f:FuncId}{args:List AV}{d:Option Tmp}{K:St->Prop}{R:AV->List Row->Prop}(h:Ab P f args [] R)(hf:args.all flat=true)
  (hK :∀r st',R r st'->(∀row∈st',DG row.xs)/\K ({ s with st:=s.st++st' }.put d (shift s.st.length r))):callThen P k s f args d K:=by
 intro F os a w vs hr hl;refine (h F [] w vs (G6.nil hr.FR) (RQ hf [] hl)).mono ?_;rintro e w' ⟨u,r,st',F',rJ,rfl,hR,hs,hru,he⟩;obtain⟨hp,hk⟩:=hK r st' hR;obtain⟨h1,h2,_,rn⟩:=hr.after (k:=k) he hs.FR;refine⟨u,_,s.st++st',F',os++rJ,rfl,hk,h1.join hs (λ_ h=>h) hp (.inl λ_ h=>h) rn,?_,?_⟩
 ·rw[hr.len];exact WW hru
 ·refine⟨h2.sys,h2.tape,h2.output,h2.size,h2.NS,h2.IU,λb hb e1 e2=>?_,λi o hi ho=>?_⟩
  ·obtain⟨f1,f2,f3⟩:=he.other b hb e1 (by simp);exact⟨f1,f2,λo ho=>by rcases lz.1 ho with h|h;exact e2 o h;exact f3 o h⟩
  ·exact FN.append os rJ i o ho
mutual
def PQ:AV->AV
 | .dv _ _ xs=>.sl (Kc xs)
 | c=>c
def Kc:List (List AV)->List (List AV)
 | []=>[]
 | x::r=>Hz x::Kc r
def Hz:List AV->List AV
 | []=>[]
 | c::r=>PQ c::Hz r
end
theorem OE:∀x:List AV,Hz x=x.map PQ
 | []=>by simp[Hz]
 | c::r=>by simp[Hz,OE r]
theorem ID:∀xs:List (List AV),Kc xs=xs.map Hz
 | []=>by simp[Kc]
 | x::r=>by simp[Kc,ID r]
theorem UC {c:AV}(h:simple c=true):PQ c=c:=by cases c<;>simp_all [simple,PQ]
mutual
theorem Tq {S F:Nat->Prop}{w:World}(hS :∀b,S b->F b):∀(x:AV) (v:Value),EZ S w x v->Ae F w [] (PQ x) v/\(PQ x).leaf=true
 | .dv el size xs,v,h=>by
  simp only[EZ]at h;obtain⟨hp,h⟩:=h;simp only[PQ,Ae,AV.leaf,and_true];rcases h with ⟨rfl,a,rfl⟩|⟨b,cap,cur,rfl,h2,h3,h4,h5,h6,h7,h8⟩
  ·exact⟨a,0,by simp[Kc],by simp[Kc],by simp[Kc]⟩
  ·refine⟨_,cap,by simp[ID],by simpa [ID] using h2,λ_=>⟨b,0,size,rfl,hS b h4,λx hx=>?_,Wh (S:=λc=>S c/\c≠b) (λc hc=>hS c hc.1) h5 xs 0 h8⟩⟩;rw[ID]at hx;obtain⟨y,hy,rfl⟩:=mA.1 hx;rw[OE,ly];exact h7 y hy
 | .int _ _,_,h=>by simpa [EZ,PQ,Ae,AV.leaf] using h
 | .bool _,_,h=>by simpa [EZ,PQ,Ae,AV.leaf] using h
 | .str _,_,h=>by simpa [EZ,PQ,Ae,AV.leaf] using h
 | .zc,_,h=>by simpa [EZ,PQ,Ae,AV.leaf] using h
 | .RA,_,h=>by simpa [EZ,PQ,Ae,AV.leaf] using h
 | .Q0,_,h=>by simpa [EZ,PQ,Ae,AV.leaf] using h
 | .E7,_,h=>by simp[EZ]at h
 | .un,_,h=>by simp[EZ]at h
 | .sl _,_,h=>by simp[EZ]at h
 | .own ..,_,h=>by simp[EZ]at h
 | .ptr ..,_,h=>by simp[EZ]at h
 | .Bo ..,_,h=>by simp[EZ]at h
 | .fn ..,_,h=>by simp[EZ]at h
 | .agg _,_,h=>by simp[EZ]at h
 | .Dd _,_,h=>by simp[EZ]at h
theorem Wh {S F:Nat->Prop}{w:World}(hS :∀b,S b->F b){b:Nat}{cur:Array Value}{el:TypeId}(qt:w.heap[b]?=some (.cells cur el (0,0))):∀(xs:List (List AV)) (o:Nat),LK S w xs cur o->Hb F w (Kc xs) b o
 | [],_,_=>by simp[Kc,Hb]
 | x::r,o,h=>by
  simp only[LK]at h;simp only[Kc,Hb];obtain⟨S1,S2,h1,h2,_,h4,h5⟩:=h;have hl:(Hz x).length=x.length:=by rw[OE,ly]
  rw[hl];exact⟨VW (λc hc=>hS c (h1 c hc)) qt x o h4,Wh (λc hc=>hS c (h2 c hc)) qt r _ h5⟩
theorem VW {S F:Nat->Prop}{w:World}(hS :∀b,S b->F b){b:Nat}{cur:Array Value}{el:TypeId}(qt:w.heap[b]?=some (.cells cur el (0,0))):∀(xs:List AV) (o:Nat),LF S w xs cur o->FH F w (Hz xs) b o
 | [],_,_=>by simp[Hz,FH]
 | x::r,o,h=>by
  simp only[LF]at h;simp only[Hz,FH];obtain⟨S1,S2,h1,h2,_,⟨u,h4,h5⟩,h6⟩:=h;obtain⟨g1,g2⟩:=Tq (λc hc=>hS c (h1 c hc)) x u h5;exact⟨⟨u,by rw[oc w b _ cur _ _ qt];exact h4,g2,g1⟩,VW (λc hc=>hS c (h2 c hc)) qt r _ h6⟩
end
def Sk (st:List Row):AV->AV
 | .own id g n=>match st[id]? with
  | some row=>if row.gen=g then .sl (Kc (row.xs.drop (row.xs.length-n))) else .E7
  | none=>.E7
 | v=>v
def HZ (st:List Row):AV->AV
 | .agg cs=>.agg (cs.map (Sk st))
 | v=>Sk st v
def QP (args:List AV)(id g n:Nat):Prop:=AV.own id g n∈args∨∃cs,AV.agg cs∈args/\AV.own id g n∈cs
def SY (F:Nat->Prop)(os:List Own)(args:List AV)(b:Nat):Prop:=F b∨∃id g n o,QP args id g n/\os[id]?=some o/\o.owns b
theorem dw (hr:Rel F os s a w){F1:Nat->Prop}(xx :∀b,F b->F1 b){id g n:Nat}{o:Own}(ho:os[id]?=some o)(hl :∀b,o.owns b->F1 b)(xb:DG o.row.xs){u:Value}
  (e2:Ae F w os (.own id g n) u) (hg:o.row.gen=g):Ae F1 w os (.sl (Kc (o.row.xs.drop (o.row.xs.length-n)))) u:=by
 have qd:=hr.rows id o ho;have hm:∀x v,Ae F w os x v->Ae F1 w os x v:=λx v h=>DW xx (λ_ _=>rfl) os os (FN.refl os) x v h;simp only[Ae]at e2⊢;obtain⟨o',rF,_,_,e2⟩:=e2;rw[ho]at rF;cases rF;obtain⟨hn,hv⟩:=e2 hg;have hlen:(Kc (o.row.xs.drop (o.row.xs.length-n))).length=n:=by simp[ID];omega
 rcases hv with ⟨hb,ad,rfl⟩|⟨b,hb,rfl⟩
 ·have:=(qd.none hb).1;rw[this]at hn;simp only[nD,pS]at hn;subst hn;exact⟨ad,0,by simp[ID],by simp[ID],by simp[ID]⟩
 ·obtain⟨_,cur,qt,rA,hle,_,qw⟩:=qd.some b hb;have hls:∀x∈Kc (o.row.xs.drop (o.row.xs.length-n)),x.length=o.row.size:=λx hx=>by
   rw[ID]at hx;obtain⟨y,hy,rfl⟩:=mA.1 hx;rw[OE,ly];exact (qd.lens y (nR hy)).1
  refine⟨_,o.cap-(o.row.xs.length-n),by rw[hlen],by rw[hlen];omega,λ_=>⟨b,(o.row.xs.length-n)*o.row.size,o.row.size,rfl,hl b (.inl hb),hls,?_⟩⟩;refine LZ hls λi x hx=>Ki λj c hc=>?_;rw[ID,lW,lg]at hx;obtain⟨x0,hx0,rfl⟩:=hx;rw[OE,lW,lg]at hc;obtain⟨c0,sX,rfl⟩:=hc;rw[mU]at hx0
  ·have hsi:=xb x0 (lT hx0) c0 (lT sX);have hk:=(qd.lens x0 (lT hx0)).2 c0 (lT sX);by_cases hd :∃el sz ys,c0=.dv el sz ys
   ·obtain⟨el,sz,ys,rfl⟩:=hd;obtain⟨D,d1,_,d3⟩:=qd.deep;obtain⟨u,f1,f2⟩:=d3 b hb cur _ _ qt _ x0 j el sz ys hx0 sX;obtain⟨g1,g2⟩:=Tq (F:=F1) (λc hc=>hl c (.inr (d1 _ _ _ hc))) _ u f2;exact⟨u,by rw[oc w b _ cur _ _ qt,<- mM];exact f1,g2,g1⟩
   ·have hs:simple c0=true:=by cases c0<;>simp_all [Ee]
    rw[UC hs];obtain⟨u,f1,f2⟩:=qw _ x0 hx0 j c0 sX;refine⟨u,?_,by cases c0<;>simp_all [AV.kept],Fg hs [] (hm _ _ f2)⟩;rw[oc w b _ cur _ _ qt,<- mM];exact f1
theorem ab (hr:Rel F os s a w){args:List AV}{vs:List Value}(hl:Bs F w os args vs)(uw :∀id g n,QP args id g n->∀row,s.st[id]?=some row->DG row.xs):
  Bs (SY F os args) w os (args.map (HZ s.st)) vs:=by
 have xx:∀b,F b->SY F os args b:=λ_ h=>.inl h;have hm:∀x v,Ae F w os x v->Ae (SY F os args) w os x v:=λx v h=>DW xx (λ_ _=>rfl) os os (FN.refl os) x v h;have h0:∀y u,(∀id g n,y=AV.own id g n->QP args id g n)->Ae F w os y u->Ae (SY F os args) w os (Sk s.st y) u:=λy u rY e2=>by
  cases y with
  | own id g n=>
   simp only[Sk];split
   ·rename_i row qa;split
    ·rename_i hg;obtain⟨o,ho,rfl⟩:=hr.row qa;exact dw hr xx ho (λb hb=>.inr ⟨id,g,n,o,rY id g n rfl,ho,hb⟩) (uw id g n (rY id g n rfl) o.row qa) e2 hg
    ·simp[Ae]
   ·simp[Ae]
  | _=>exact hm _ _ e2
 refine Da (by simp[BZ hl]) λi x u hx hu=>?_;simp only[lW,lg]at hx;obtain⟨y,hy,rfl⟩:=hx;obtain⟨u',e1,e2⟩:=CO hl i y hy;rw[hu]at e1;cases e1;have hym:=lT hy;cases y with
 | agg cs=>
  simp only[HZ,Ae]at e2⊢;obtain⟨us,e,sY⟩:=e2;refine⟨us,e,Da (by simp[BZ sY]) λj x u hx hu=>?_⟩;simp only[lW,lg]at hx;obtain⟨y,hy,rfl⟩:=hx;obtain⟨u',e1,e2⟩:=CO sY j y hy;rw[hu]at e1;cases e1;exact h0 y u (λid g n e=>.inr ⟨cs,hym,e▸lT hy⟩) e2
 | own id g n=>exact h0 _ u (λrL g' n' e=>.inl (e▸hym)) e2
 | _=>exact hm _ _ e2
theorem YY {P:Program}{s:St}{f:FuncId}{args:List AV}{R:AV->List Row->Prop}{k:Nat}(h:Ab P f (args.map (HZ s.st)) [] R)(hf:(args.map (HZ s.st)).all flat=true)
  (uw :∀id g n,QP args id g n->∀row,s.st[id]?=some row->DG row.xs) {F:Nat->Prop} {os:List Own} {a:Act} {w:World} {vs:List Value} (hr:Rel F os s a w) (hl:Bs F w os args vs) :
  Calls P f vs.toArray w λe w'=>∃u r st' F' rJ,e=.returned u/\R r st'/\Rel F os s a w'/\G6 F' rJ st' w'/\Ae F' w' rJ r u/\(∀b,F b->F' b)/\Ext F os w F os w' k/\
   (∀(i:Nat) (o:Own),os[i]?=some o->∀b,o.owns b->∀o1:Own,o1∈rJ->¬ o1.owns b)/\∀b,b<w.heap.size->¬ F b->(∀o:Own,o∈os->¬ o.owns b)->∀o1:Own,o1∈rJ->¬ o1.owns b:=by
 have xx:∀b,F b->SY F os args b:=λ_ h=>.inl h;have qu:∀(i:Nat) (o:Own) b,os[i]?=some o->o.owns b->b<w.heap.size:=λi o b hi hb=>(hr.rows i o hi).lt hb;have hold1:∀b,SY F os args b->b<w.heap.size:=λb hb=>by
  rcases hb with hb|⟨id,g,n,o,_,ho,tG⟩
  ·exact hr.FR b hb
  ·exact qu id o b ho tG
 have tx:=ab hr hl uw;refine (h (SY F os args) [] w vs (G6.nil hold1) (RQ hf [] tx)).mono ?_;rintro e w' ⟨u,r,st',F',rJ,rfl,hR,hs,hru,he⟩;have qa:∀(i:Nat) (o:Own),os[i]?=some o->∀b,o.owns b->w'.heap[b]?=w.heap[b]?/\∀o1:Own,o1∈rJ->¬ o1.owns b:=λi o ho b hb=>by
  by_cases h1:SY F os args b
  ·refine⟨he.IU b h1,λo1 ho1 e=>?_⟩;obtain⟨j,hj⟩:=lv.1 ho1;exact (hs.rows j o1 hj).nF e (he.NS b h1)
  ·obtain⟨f1,_,f3⟩:=he.other b (qu i o b ho hb) h1 (by simp);exact⟨f1,f3⟩
 have qi:∀x v,Ae F w os x v->Ae F w' os x v:=λx v h=>DW (λ_ h=>h) (λb hb=>he.IU b (xx b hb)) os os (FN.refl os) x v h;have ru:Rel F os s a w':=⟨hr.st,λt=>qi _ _ (hr.env t),hr.size,λi o ho=>by
   have qd:=hr.rows i o ho;refine⟨qd.pos,qd.lens,qd.none,λb hb=>?_,λb hb=>⟨(qd.mo b hb).1,ma (qd.mo b hb).2.1 he.size,(qd.mo b hb).2.2⟩,qd.deep.keep rfl (λ_ h=>h) rfl (λb hb=>(qa i o ho b hb).1) (λi x j e s ys hx hc=>⟨x,hx,hc⟩)⟩;obtain⟨e1,cur,e2,e3,e4,e5,e6⟩:=qd.some b hb;exact⟨e1,cur,by rw[(qa i o ho b (.inl hb)).1];exact e2,e3,e4,e5,λi' x hx j c hc=>by obtain⟨u,f1,f2⟩:=e6 i' x hx j c hc;exact⟨u,f1,qi _ _ f2⟩⟩,
  hr.inj,λb hb=>ma (hr.FR b hb) he.size,hr.defers⟩
 have tH:∀b,b<w.heap.size->¬ F b->(∀o:Own,o∈os->¬ o.owns b)->w'.heap[b]?=w.heap[b]?/\∀o1:Own,o1∈rJ->¬ o1.owns b:=λb hb e1 e2=>by
  have hnF1:¬ SY F os args b:=λh=>h.elim e1 (λ⟨id,g,n,o,_,ho,tG⟩=>e2 o (lT ho) tG);obtain⟨f1,_,f3⟩:=he.other b hb hnF1 (by simp);exact⟨f1,f3⟩
 exact⟨u,r,st',F',rJ,rfl,hR,ru,hs,hru,λb hb=>he.NS b (xx b hb),
  ⟨he.sys,he.tape,he.output,he.size,λ_ h=>h,λb hb=>he.IU b (xx b hb),λb hb e1 e2=>⟨(tH b hb e1 e2).1,e1,e2⟩,λi o _ ho=>⟨o,ho,ll _,rfl,λ_=>⟨rfl,rfl,rfl⟩⟩⟩,
  λi o ho b hb=>(qa i o ho b hb).2,λb hb e1 e2=>(tH b hb e1 e2).2⟩
theorem N4 {f:FuncId}{args:List AV}{d:Option Tmp}{K:St->Prop}{R:AV->List Row->Prop}(h:Ab P f (args.map (HZ s.st)) [] R)(hf:(args.map (HZ s.st)).all flat=true)
  (uw :∀id g n,QP args id g n->∀row,s.st[id]?=some row->DG row.xs)
  (hK :∀r st',R r st'->(dB r=true/\∀row∈st',∀x∈row.xs,∀c∈x,Nc c=true)/\(∀row∈st',DG row.xs)/\K ({ s with st:=s.st++st' }.put d (shift s.st.length r))):callThen P k s f args d K:=by
 intro F os a w vs hr hl;refine (YY (k:=k) h hf uw hr hl).mono ?_;rintro e w' ⟨u,r,st',F',rJ,rfl,hR,ru,hs,hru,hFF,he,rn,tH⟩;obtain⟨⟨hsr,hsc⟩,hp,hk⟩:=hK r st' hR;refine⟨u,_,s.st++st',F,os++rJ,rfl,hk,ru.join hs hFF hp (.inr hsc) rn,?_,?_⟩
 ·rw[hr.len];exact WW (eU hsr hru)
 ·refine⟨he.sys,he.tape,he.output,he.size,λ_ h=>h,he.IU,λb hb e1 e2=>?_,λi o hi ho=>FN.append os rJ i o ho⟩;obtain⟨f1,_,_⟩:=he.other b hb e1 e2;exact⟨f1,e1,λo ho=>by rcases lz.1 ho with h|h;exact e2 o h;exact tH b hb e1 e2 o h⟩
end Go.Abs
