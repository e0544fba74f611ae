import Derived.Test.YtccficmcdkcpnaaGreatAbsK
set_option linter.all false
namespace Go.Abs
open Go
variable {P : Program} {F : Nat -> Prop} {os : List Own} {s : St} {a : Act} {w : World} {k : Nat}
def Km (id g:Nat)(xs:List (List AV)):AV->AV
 | .own id' g' n=>if id'=id/\g'=g then .sl (xs.drop (xs.length-n)) else .own id' g' n
 | .ptr id' g' i off=>if id'=id/\g'=g then (match xs[i]? with|some x=>.Bj x off|none=>.F6) else .ptr id' g' i off
 | v=>v
def Db (id g:Nat)(xs:List (List AV)):AV->AV
 | .agg cs=>.agg (cs.map (Km id g xs))
 | .CW cs=>.CW (cs.map (Km id g xs))
 | v=>Km id g xs v
def Gm (xs:List (List AV)):Prop:=∀x∈xs,∀c∈x,simple c=true
def DG (xs:List (List AV)):Prop:=∀x∈xs,∀c∈x,FI c=true
theorem Gm.any {xs:List (List AV)}(h:Gm xs):DG xs:=λx hx c hc=>R9 (h x hx c hc)
theorem Wk.freeze {id:Nat}{row:Row}(hid:k<=id)(zh:s.st[id]?=some row)(hp:Gm row.xs):
  Wk k s ⟨s.n,λt=>Db id row.gen row.xs (s.env t),s.st.set id { row with gen:=row.gen+1,xs:=[] }⟩:=λF os a w hr=>by
 obtain⟨o,ho,rfl⟩:=hr.row zh;have zp:=hr.rows id o ho;have hfl:∀x∈o.row.xs,∀c∈x,c.leaf=true:=λx hx c hc=>by
  have h1:=hp x hx c hc;have h2:=(zp.lens x hx).2 c hc;cases c<;>simp_all [simple,AV.leaf,AV.kept]
 refine⟨λb=>F b∨o.Ea=some b,os.set id ⟨{ o.row with gen:=o.row.gen+1,xs:=[] },none,0,o.more⟩,?_,?_⟩
 case refine_2=>
  refine⟨rfl,rfl,rfl,uq _,λ_ h=>.inl h,λ_ _=>rfl,λb _ h1 h2=>⟨rfl,λh=>h.elim h1 (λe=>h2 o (uL ho) (.inl e)),λo' ho'=>?_⟩,λi oi hi hoi=>⟨oi,?_,uq _,rfl,λ_=>⟨rfl,rfl,rfl⟩⟩⟩
  ·rcases vq ho' with h|rfl
   ·exact h2 o' h
   ·intro hh;rcases hh with hh|hh
    ·simp at hh
    ·exact h2 o (uL ho) (.inr hh)
  ·rw[vE (by omega)];exact hoi
 have hF:∀b,F b->(λb=>F b∨o.Ea=some b) b:=λ_ h=>.inl h;have hos:Er os (os.set id ⟨{ o.row with gen:=o.row.gen+1,xs:=[] },none,0,o.more⟩):=Er.set ho (by simp) rfl (λe=>by simp at e);have AAC:∀x v,Ae F w os x v->Ae (λb=>F b∨o.Ea=some b) w (os.set id ⟨{ o.row with gen:=o.row.gen+1,xs:=[] },none,0,o.more⟩) x v:=λx v h=>
  D8 hF (λ_ _=>rfl) os _ hos x v h
 have hcell:∀x∈o.row.xs,∀c∈x,∀u,Ae F w os c u->Ae (λb=>F b∨o.Ea=some b) w [] c u:=λx hx c hc u hu=>
  D8 hF (λ_ _=>rfl) [] [] (by simp) c u (J0 (hp x hx c hc) [] hu)
 have h1:∀x v,Ae F w os x v->Ae (λb=>F b∨o.Ea=some b) w (os.set id ⟨{ o.row with gen:=o.row.gen+1,xs:=[] },none,0,o.more⟩) (Km id o.row.gen o.row.xs x) v:=λx v h=>by
  cases x with
  | own id' g' n=>
   simp only[Km];split
   ·rename_i hif;obtain⟨rfl,rfl⟩:=hif;simp only[Ae]at h⊢;obtain⟨o',ho',_,_,h⟩:=h;rw[ho]at ho';cases ho';obtain⟨hn,hv⟩:=h rfl;have hlen:(o.row.xs.drop (o.row.xs.length-n)).length=n:=by simp;omega
    rcases hv with ⟨hb,ad,rfl⟩|⟨b,hb,rfl⟩
    ·have:=(zp.none hb).1;rw[this]at hn;simp only[vl,yU]at hn;subst hn;exact⟨ad,0,by simp,by simp,by simp⟩
    ·obtain⟨_,cur,AAF,hsz,hle,_,AAE⟩:=zp.some b hb;refine⟨_,o.cap-(o.row.xs.length-n),by rw[hlen],by rw[hlen];omega,λ_=>⟨b,(o.row.xs.length-n)*o.row.size,o.row.size,rfl,.inr hb,λx hx=>(zp.lens x (wC hx)).1,?_⟩⟩;refine Mh (λx hx=>(zp.lens x (wC hx)).1) λi x hx=>LS λj c hc=>?_;have hxm:=uL hx;rw[vZ]at hx;obtain⟨u,e1,e2⟩:=AAE _ x hx j c hc;refine⟨u,?_,hfl x (uL hx) c (uL hc),hcell x (uL hx) c (uL hc) u e2⟩;rw[wm w b _ cur _ _ AAF];rw[<- vg];exact e1
   ·exact AAC _ _ h
  | ptr id' g' i off=>
   simp only[Km];split
   ·rename_i hif;obtain⟨rfl,rfl⟩:=hif;simp only[Ae]at h;obtain⟨o',ho',_,_,h⟩:=h;rw[ho]at ho';cases ho';obtain⟨hi,_,b,hb,rfl⟩:=h rfl;rw[uQ hi];obtain⟨_,cur,AAF,hsz,hle,_,AAE⟩:=zp.some b hb;simp only[Ae];refine⟨b,i*o.row.size,rfl,.inr hb,LS λj c hc=>?_⟩;have hm:=xB hi;obtain⟨u,e1,e2⟩:=AAE i _ (uQ hi) j c hc;refine⟨u,?_,hfl _ hm c (uL hc),hcell _ hm c (uL hc) u e2⟩;rw[wm w b _ cur _ _ AAF];exact e1
   ·exact AAC _ _ h
  | _=>exact AAC _ _ h
 have hL:∀xs us,Bc F w os xs us->Bc (λb=>F b∨o.Ea=some b) w (os.set id ⟨{ o.row with gen:=o.row.gen+1,xs:=[] },none,0,o.more⟩) (xs.map (Km id o.row.gen o.row.xs)) us:=λxs us h=>
  DZ (by simp[BR h]) λi x u hx hu=>by
   simp only[uP,uR]at hx;obtain⟨y,hy,rfl⟩:=hx;obtain⟨u',e1,e2⟩:=Bo h i y hy;rw[hu]at e1;cases e1;exact h1 _ _ e2
 have AAD:∀(i:Nat) (oi:Own),(os.set id ⟨{ o.row with gen:=o.row.gen+1,xs:=[] },none,0,o.more⟩)[i]?=some oi->(i≠id/\os[i]?=some oi)∨(i=id/\oi=⟨{ o.row with gen:=o.row.gen+1,xs:=[] },none,0,o.more⟩):=λi oi hi=>by
  by_cases e:i=id
  ·subst e;rw[uV (uK.1 ho).1,uO]at hi;exact .inr ⟨rfl,hi.symm⟩
  ·rw[vE (wR e)]at hi;exact .inl ⟨e,hi⟩
 refine⟨by rw[wb,hr.st],λt=>?_,hr.size,λi oi hi=>?_,λi j oi oj b hi hj hbi hbj=>?_,λb hb=>?_,hr.defers⟩
 ·have:=hr.env t;simp only;generalize s.env t=x at this⊢;cases x with
  | agg cs=>simp only[Db,Ae]at this⊢;obtain⟨us,e,h⟩:=this;exact⟨us,e,hL _ _ h⟩
  | CW cs=>simp only[Db,Ae]at this⊢;obtain⟨us,e,h⟩:=this;exact⟨us,e,hL _ _ h⟩
  | _=>exact h1 _ _ this
 ·rcases AAD i oi hi with ⟨hne,h⟩|⟨_,rfl⟩
  ·have hoki:=hr.rows i oi h;refine⟨hoki.pos,hoki.lens,hoki.none,λb hb=>?_,λb hb=>⟨λhF=>hF.elim (hoki.mo b hb).1 (λhob=>hne (hr.inj i id oi o b h ho (.inr hb) (.inl hob))),(hoki.mo b hb).2⟩,hoki.deep⟩;obtain⟨e1,cur,e2,e3,e4,e5,e6⟩:=hoki.some b hb;refine⟨λhF=>hF.elim e1 (λhob=>hne (hr.inj i id oi o b h ho (.inl hb) (.inl hob))),cur,e2,e3,e4,e5,λi' x hx j c hc=>?_⟩;obtain⟨u,f1,f2⟩:=e6 i' x hx j c hc;exact⟨u,f1,AAC _ _ f2⟩
  ·exact⟨zp.pos,by simp,by simp,by simp,λb hb=>⟨λhF=>hF.elim (zp.mo b hb).1 (zp.mo b hb).2.2,(zp.mo b hb).2.1,by simp⟩,Fz (by simp)⟩
 ·rcases AAD i oi hi with ⟨hne,h⟩|⟨h,rfl⟩<;>rcases AAD j oj hj with ⟨hne',h'⟩|⟨h',rfl⟩
  ·exact hr.inj i j oi oj b h h' hbi hbj
  ·exact hr.inj i j oi o b h (h'▸ho) hbi (hbj.elim (λe=>by simp at e) .inr)
  ·exact hr.inj i j o oj b (h▸ho) h' (hbi.elim (λe=>by simp at e) .inr) hbj
  ·omega
 ·rcases hb with hb|hb
  ·exact hr.GK b hb
  ·obtain⟨_,cur,AAF,_⟩:=zp.some b hb;exact (vR.1 AAF).1
def P5 (m:Nat):AV->AV
 | .own id g n=>.own (id+m) g n
 | .ptr id g i off=>.ptr (id+m) g i off
 | .fn ..|.agg _|.CW _=>.F6
 | v=>v
def Tz (m:Nat)(x:AV):AV:=two (P5 m) x
def shift (m:Nat):AV->AV
 | .fn f cs=>.fn f (cs.map (Tz m))
 | .agg cs=>.agg (cs.map (Tz m))
 | .CW cs=>.CW (cs.map (Tz m))
 | v=>Tz m v
theorem gF {os1:List Own}{x:AV}{v:Value}(h:Ae F w os1 x v):Ae F w (os++os1) (P5 os.length x) v:=by
 have AAD:∀id,(os++os1)[id+os.length]?=os1[id]?:=λid=>by rw[ug (by omega)];congr 1;omega
 cases x with
 | own id g n=>simp only[P5,Ae]at h⊢;rw[AAD];exact h
 | ptr id g i off=>simp only[P5,Ae]at h⊢;rw[AAD];exact h
 | fn f cs=>simp[P5,Ae]
 | agg cs=>simp[P5,Ae]
 | CW cs=>simp[P5,Ae]
 | _=>simp only[P5,Ae]at h⊢<;>exact h
theorem Xy {os1:List Own}{x:AV}{v:Value}(h:Ae F w os1 x v):Ae F w (os++os1) (Tz os.length x) v:=
 PQ (λ_ _ h=>gF h) _ _ h
theorem Rq {os1:List Own}{xs:List AV}{us:List Value}(h:Bc F w os1 xs us):Bc F w (os++os1) (xs.map (Tz os.length)) us:=
 DZ (by simp[BR h]) λi x u hx hu=>by
  simp only[uP,uR]at hx;obtain⟨y,hy,rfl⟩:=hx;obtain⟨u',e1,e2⟩:=Bo h i y hy;rw[hu]at e1;cases e1;exact Xy e2
theorem VG {os1:List Own}{x:AV}{v:Value}(h:Ae F w os1 x v):Ae F w (os++os1) (shift os.length x) v:=by
 cases x with
 | fn f cs=>simp only[shift,Ae]at h⊢;obtain⟨us,e,hl⟩:=h;exact⟨us,e,Rq hl⟩
 | agg cs=>simp only[shift,Ae]at h⊢;obtain⟨us,e,hl⟩:=h;exact⟨us,e,Rq hl⟩
 | CW cs=>simp only[shift,Ae]at h⊢;obtain⟨us,e,hl⟩:=h;exact⟨us,e,Rq hl⟩
 | _=>exact Xy h
def Mt:AV->Bool
 | .sl _|.Bj ..|.fn ..|.agg _|.CW _|.bd ..=>false
 | _=>true
def jf:AV->Bool
 | .agg cs=>cs.all Mt
 | v=>Mt v
def kN:AV->Bool
 | .CW cs=>cs.all jf
 | v=>jf v
theorem Un {F':Nat->Prop}{x:AV}{v:Value}(hx:Mt x=true)(h:Ae F w os x v):Ae F' w os x v:=by
 cases x<;>simp only[Mt,uN]at hx<;>simp only[Ae]at h⊢<;>exact h
theorem Yu {F':Nat->Prop}{x:AV}{v:Value}(hx:jf x=true)(h:Ae F w os x v):Ae F' w os x v:=by
 cases x with
 | agg cs=>
  simp only[Ae]at h⊢;obtain⟨us,e,hl⟩:=h;refine⟨us,e,DZ (BR hl) λi x u hx' hu=>?_⟩;obtain⟨u',e1,e2⟩:=Bo hl i x hx';rw[hu]at e1;cases e1;exact Un (uS.1 hx x (uL hx')) e2
 | _=>exact Un hx h
theorem cZ {F':Nat->Prop}{x:AV}{v:Value}(hx:kN x=true)(h:Ae F w os x v):Ae F' w os x v:=by
 cases x with
 | CW cs=>
  simp only[Ae]at h⊢;obtain⟨us,e,hl⟩:=h;refine⟨us,e,DZ (BR hl) λi x u hx' hu=>?_⟩;obtain⟨u',e1,e2⟩:=Bo hl i x hx';rw[hu]at e1;cases e1;exact Yu (uS.1 hx x (uL hx')) e2
 | _=>exact Yu hx h
theorem Rel.join {F0 F':Nat->Prop}{w':World}{os1:List Own}{st1:List Row}(hr:Rel F0 os s a w')(hs:FN F' os1 st1 w')(hFF :∀b,F0 b->F' b)(hp :∀row∈st1,DG row.xs)
  (hscal:(∀b,F' b->F0 b)∨∀row∈st1,∀x∈row.xs,∀c∈x,Mt c=true) (hdis :∀(i:Nat) (o:Own),os[i]?=some o->∀b,o.owns b->∀o1:Own,o1∈os1->¬ o1.owns b) :
  Rel F0 (os++os1) { s with st:=s.st++st1 } a w':=by
 have hos:Er os (os++os1):=Er.append os os1;have AAC:∀x v,Ae F0 w' os x v->Ae F0 w' (os++os1) x v:=λx v h=>D8 (λ_ h=>h) (λ_ _=>rfl) os _ hos x v h;have AAD:∀(i:Nat) (o:Own),(os++os1)[i]?=some o->(i<os.length/\os[i]?=some o)∨(os.length<=i/\os1[i-os.length]?=some o):=λi o h=>by
  by_cases hi:i<os.length
  ·rw[uU hi]at h;exact .inl ⟨hi,h⟩
  ·rw[ug (by omega)]at h;exact .inr ⟨by omega,h⟩
 refine⟨by rw[vx,hr.st,hs.st],λt=>AAC _ _ (hr.env t),hr.size,λi o ho=>?_,λi j oi oj b hi hj hbi hbj=>?_,hr.GK,hr.defers⟩
 ·rcases AAD i o ho with ⟨_,h⟩|⟨_,h⟩
  ·have zp:=hr.rows i o h;refine⟨zp.pos,zp.lens,zp.none,λb hb=>?_,zp.mo,zp.deep⟩;obtain⟨e1,cur,e2,e3,e4,e5,e6⟩:=zp.some b hb;exact⟨e1,cur,e2,e3,e4,e5,λi' x hx j c hc=>by obtain⟨u,f1,f2⟩:=e6 i' x hx j c hc;exact⟨u,f1,AAC _ _ f2⟩⟩
  ·have zp:=hs.rows _ o h;refine⟨zp.pos,zp.lens,zp.none,λb hb=>?_,λb hb=>⟨λhF=>(zp.mo b hb).1 (hFF b hF),(zp.mo b hb).2⟩,zp.deep⟩;obtain⟨e1,cur,e2,e3,e4,e5,e6⟩:=zp.some b hb;refine⟨λhF=>e1 (hFF b hF),cur,e2,e3,e4,e5,λi' x hx j c hc=>?_⟩;obtain⟨u,f1,f2⟩:=e6 i' x hx j c hc;have zh:o.row∈st1:=by rw[<- hs.st];exact uw.2 ⟨o,uL h,rfl⟩
   have hsim:=hp o.row zh x (uL hx) c (uL hc);have f3:=eH hsim (os++os1) f2;refine⟨u,f1,?_⟩;rcases hscal with h1|h1
   ·exact D8 h1 (λ_ _=>rfl) _ _ (Er.refl _) c u f3
   ·exact Un (h1 o.row zh x (uL hx) c (uL hc)) f3
 ·rcases AAD i oi hi with ⟨_,h⟩|⟨_,h⟩<;>rcases AAD j oj hj with ⟨_,h'⟩|⟨_,h'⟩
  ·exact hr.inj i j oi oj b h h' hbi hbj
  ·exact absurd hbj (hdis i oi h b hbi oj (uL h'))
  ·exact absurd hbi (hdis j oj h' b hbj oi (uL h))
  ·have:=hs.inj _ _ oi oj b h h' hbi hbj;omega
theorem Sx {f:FuncId}{args:List AV}{d:Option Tmp}{K:St->Prop}{R:AV->List Row->Prop}(h:BW P f args [] R)(hf:args.all flat=true)
  (hK :∀r st',R r st'->(∀row∈st',DG row.xs)/\K ({ s with st:=s.st++st' }.put d (shift s.st.length r))):callThen P k s f args d K:=by
 intro F os a w vs hr hl;refine (h F [] w vs (FN.nil hr.GK) (R0 hf [] hl)).mono ?_;rintro e w' ⟨u,r,st',F',os1,rfl,hR,hs,hru,he⟩;obtain⟨hp,hk⟩:=hK r st' hR;obtain⟨h1,h2,_,hdis⟩:=hr.after (k:=k) he hs.GK;refine⟨u,_,s.st++st',F',os++os1,rfl,hk,h1.join hs (λ_ h=>h) hp (.inl λ_ h=>h) hdis,?_,?_⟩
 ·rw[hr.len];exact VG hru
 ·refine⟨h2.sys,h2.tape,h2.output,h2.size,h2.RN,h2.Jx,λb hb e1 e2=>?_,λi o hi ho=>?_⟩
  ·obtain⟨f1,f2,f3⟩:=he.other b hb e1 (by simp);exact⟨f1,f2,λo ho=>by rcases vJ.1 ho with h|h;exact e2 o h;exact f3 o h⟩
  ·exact Er.append os os1 i o ho
mutual
def Ry:AV->AV
 | .dv _ _ xs=>.sl (Li xs)
 | c=>c
def Li:List (List AV)->List (List AV)
 | []=>[]
 | x::r=>JI x::Li r
def JI:List AV->List AV
 | []=>[]
 | c::r=>Ry c::JI r
end
theorem PE:∀x:List AV,JI x=x.map Ry
 | []=>by simp[JI]
 | c::r=>by simp[JI,PE r]
theorem JN:∀xs:List (List AV),Li xs=xs.map JI
 | []=>by simp[Li]
 | x::r=>by simp[Li,JN r]
theorem TX {c:AV}(h:simple c=true):Ry c=c:=by cases c<;>simp_all [simple,Ry]
theorem jN {xs:List (List AV)}(h:Gm xs):Li xs=xs:=by
 rw[JN];refine (vL (g:=id) λx hx=>?_).trans (wJ _);rw[PE];exact (vL (g:=id) λc hc=>TX (h x hx c hc)).trans (wJ _)
mutual
theorem XA {S F:Nat->Prop}{w:World}(hS :∀b,S b->F b):∀(x:AV) (v:Value),EX S w x v->Ae F w [] (Ry x) v/\(Ry x).leaf=true
 | .dv el size xs,v,h=>by
  simp only[EX]at h;obtain⟨hp,h⟩:=h;simp only[Ry,Ae,AV.leaf,and_true];rcases h with ⟨rfl,a,rfl⟩|⟨b,cap,cur,rfl,h2,h3,h4,h5,h6,h7,h8⟩
  ·exact⟨a,0,by simp[Li],by simp[Li],by simp[Li]⟩
  ·refine⟨_,cap,by simp[JN],by simpa [JN] using h2,λ_=>⟨b,0,size,rfl,hS b h4,λx hx=>?_,aL (S:=λc=>S c/\c≠b) (λc hc=>hS c hc.1) h5 xs 0 h8⟩⟩;rw[JN]at hx;obtain⟨y,hy,rfl⟩:=uw.1 hx;rw[PE,uZ];exact h7 y hy
 | .int _ _,_,h=>by simpa [EX,Ry,Ae,AV.leaf] using h
 | .bool _,_,h=>by simpa [EX,Ry,Ae,AV.leaf] using h
 | .str _,_,h=>by simpa [EX,Ry,Ae,AV.leaf] using h
 | .zc,_,h=>by simpa [EX,Ry,Ae,AV.leaf] using h
 | .Tm,_,h=>by simpa [EX,Ry,Ae,AV.leaf] using h
 | .TU,_,h=>by simpa [EX,Ry,Ae,AV.leaf] using h
 | .F6,_,h=>by simp[EX]at h
 | .un,_,h=>by simp[EX]at h
 | .sl _,_,h=>by simp[EX]at h
 | .own ..,_,h=>by simp[EX]at h
 | .ptr ..,_,h=>by simp[EX]at h
 | .Bj ..,_,h=>by simp[EX]at h
 | .fn ..,_,h=>by simp[EX]at h
 | .agg _,_,h=>by simp[EX]at h
 | .CW _,_,h=>by simp[EX]at h
theorem aL {S F:Nat->Prop}{w:World}(hS :∀b,S b->F b){b:Nat}{cur:Array Value}{el:TypeId}(AAF:w.heap[b]?=some (.cells cur el (0,0))):∀(xs:List (List AV)) (o:Nat),Nq S w xs cur o->Ie F w (Li xs) b o
 | [],_,_=>by simp[Li,Ie]
 | x::r,o,h=>by
  simp only[Nq]at h;simp only[Li,Ie];obtain⟨S1,S2,h1,h2,_,h4,h5⟩:=h;have hl:(JI x).length=x.length:=by rw[PE,uZ]
  rw[hl];exact⟨ZE (λc hc=>hS c (h1 c hc)) AAF x o h4,aL (λc hc=>hS c (h2 c hc)) AAF r _ h5⟩
theorem ZE {S F:Nat->Prop}{w:World}(hS :∀b,S b->F b){b:Nat}{cur:Array Value}{el:TypeId}(AAF:w.heap[b]?=some (.cells cur el (0,0))):∀(xs:List AV) (o:Nat),Nf S w xs cur o->FU F w (JI xs) b o
 | [],_,_=>by simp[JI,FU]
 | x::r,o,h=>by
  simp only[Nf]at h;simp only[JI,FU];obtain⟨S1,S2,h1,h2,_,⟨u,h4,h5⟩,h6⟩:=h;obtain⟨g1,g2⟩:=XA (λc hc=>hS c (h1 c hc)) x u h5;exact⟨⟨u,by rw[wm w b _ cur _ _ AAF];exact h4,g2,g1⟩,ZE (λc hc=>hS c (h2 c hc)) AAF r _ h6⟩
end
def WS (st:List Row):AV->AV
 | .own id g n=>match st[id]? with
  | some row=>if row.gen=g then .sl (Li (row.xs.drop (row.xs.length-n))) else .F6
  | none=>.F6
 | v=>v
def JD (st:List Row):AV->AV
 | .agg cs=>.agg (cs.map (WS st))
 | v=>WS st v
def T1 (args:List AV)(id g n:Nat):Prop:=AV.own id g n∈args∨∃cs,AV.agg cs∈args/\AV.own id g n∈cs
def Vm (F:Nat->Prop)(os:List Own)(args:List AV)(b:Nat):Prop:=F b∨∃id g n o,T1 args id g n/\os[id]?=some o/\o.owns b
theorem cL (hr:Rel F os s a w){F1:Nat->Prop}(hF1 :∀b,F b->F1 b){id g n:Nat}{o:Own}(ho:os[id]?=some o)(hl :∀b,o.owns b->F1 b)(hpr:DG o.row.xs){u:Value}
  (e2:Ae F w os (.own id g n) u) (hg:o.row.gen=g):Ae F1 w os (.sl (Li (o.row.xs.drop (o.row.xs.length-n)))) u:=by
 have zp:=hr.rows id o ho;have hm:∀x v,Ae F w os x v->Ae F1 w os x v:=λx v h=>D8 hF1 (λ_ _=>rfl) os os (Er.refl os) x v h;simp only[Ae]at e2⊢;obtain⟨o',ho',_,_,e2⟩:=e2;rw[ho]at ho';cases ho';obtain⟨hn,hv⟩:=e2 hg;have hlen:(Li (o.row.xs.drop (o.row.xs.length-n))).length=n:=by simp[JN];omega
 rcases hv with ⟨hb,ad,rfl⟩|⟨b,hb,rfl⟩
 ·have:=(zp.none hb).1;rw[this]at hn;simp only[vl,yU]at hn;subst hn;exact⟨ad,0,by simp[JN],by simp[JN],by simp[JN]⟩
 ·obtain⟨_,cur,AAF,hsz,hle,_,AAE⟩:=zp.some b hb;have hls:∀x∈Li (o.row.xs.drop (o.row.xs.length-n)),x.length=o.row.size:=λx hx=>by
   rw[JN]at hx;obtain⟨y,hy,rfl⟩:=uw.1 hx;rw[PE,uZ];exact (zp.lens y (wC hy)).1
  refine⟨_,o.cap-(o.row.xs.length-n),by rw[hlen],by rw[hlen];omega,λ_=>⟨b,(o.row.xs.length-n)*o.row.size,o.row.size,rfl,hl b (.inl hb),hls,?_⟩⟩;refine Mh hls λi x hx=>LS λj c hc=>?_;rw[JN,uP,uR]at hx;obtain⟨x0,hx0,rfl⟩:=hx;rw[PE,uP,uR]at hc;obtain⟨c0,hc0,rfl⟩:=hc;rw[vZ]at hx0
  ·have hsi:=hpr x0 (uL hx0) c0 (uL hc0);have hk:=(zp.lens x0 (uL hx0)).2 c0 (uL hc0);by_cases hd :∃el sz ys,c0=.dv el sz ys
   ·obtain⟨el,sz,ys,rfl⟩:=hd;obtain⟨D,d1,_,d3⟩:=zp.deep;obtain⟨u,f1,f2⟩:=d3 b hb cur _ _ AAF _ x0 j el sz ys hx0 hc0;obtain⟨g1,g2⟩:=XA (F:=F1) (λc hc=>hl c (.inr (d1 _ _ _ hc))) _ u f2;exact⟨u,by rw[wm w b _ cur _ _ AAF,<- vg];exact f1,g2,g1⟩
   ·have hs:simple c0=true:=by cases c0<;>simp_all [FI]
    rw[TX hs];obtain⟨u,f1,f2⟩:=AAE _ x0 hx0 j c0 hc0;refine⟨u,?_,by cases c0<;>simp_all [AV.kept],J0 hs [] (hm _ _ f2)⟩;rw[wm w b _ cur _ _ AAF,<- vg];exact f1
theorem jA (hr:Rel F os s a w){args:List AV}{vs:List Value}(hl:Bc F w os args vs)(hpure :∀id g n,T1 args id g n->∀row,s.st[id]?=some row->DG row.xs):
  Bc (Vm F os args) w os (args.map (JD s.st)) vs:=by
 have hF1:∀b,F b->Vm F os args b:=λ_ h=>.inl h;have hm:∀x v,Ae F w os x v->Ae (Vm F os args) w os x v:=λx v h=>D8 hF1 (λ_ _=>rfl) os os (Er.refl os) x v h;have h0:∀y u,(∀id g n,y=AV.own id g n->T1 args id g n)->Ae F w os y u->Ae (Vm F os args) w os (WS s.st y) u:=λy u hin e2=>by
  cases y with
  | own id g n=>
   simp only[WS];split
   ·rename_i row zh;split
    ·rename_i hg;obtain⟨o,ho,rfl⟩:=hr.row zh;exact cL hr hF1 ho (λb hb=>.inr ⟨id,g,n,o,hin id g n rfl,ho,hb⟩) (hpure id g n (hin id g n rfl) o.row zh) e2 hg
    ·simp[Ae]
   ·simp[Ae]
  | _=>exact hm _ _ e2
 refine DZ (by simp[BR hl]) λi x u hx hu=>?_;simp only[uP,uR]at hx;obtain⟨y,hy,rfl⟩:=hx;obtain⟨u',e1,e2⟩:=Bo hl i y hy;rw[hu]at e1;cases e1;have hym:=uL hy;cases y with
 | agg cs=>
  simp only[JD,Ae]at e2⊢;obtain⟨us,e,hcs⟩:=e2;refine⟨us,e,DZ (by simp[BR hcs]) λj x u hx hu=>?_⟩;simp only[uP,uR]at hx;obtain⟨y,hy,rfl⟩:=hx;obtain⟨u',e1,e2⟩:=Bo hcs j y hy;rw[hu]at e1;cases e1;exact h0 y u (λid g n e=>.inr ⟨cs,hym,e▸uL hy⟩) e2
 | own id g n=>exact h0 _ u (λid' g' n' e=>.inl (e▸hym)) e2
 | _=>exact hm _ _ e2
theorem dx {P:Program}{s:St}{f:FuncId}{args:List AV}{R:AV->List Row->Prop}{k:Nat}(h:BW P f (args.map (JD s.st)) [] R)(hf:(args.map (JD s.st)).all flat=true)
  (hpure :∀id g n,T1 args id g n->∀row,s.st[id]?=some row->DG row.xs) {F:Nat->Prop} {os:List Own} {a:Act} {w:World} {vs:List Value} (hr:Rel F os s a w) (hl:Bc F w os args vs) :
  Calls P f vs.toArray w λe w'=>∃u r st' F' os1,e=.returned u/\R r st'/\Rel F os s a w'/\FN F' os1 st' w'/\Ae F' w' os1 r u/\(∀b,F b->F' b)/\Ext F os w F os w' k/\
   (∀(i:Nat) (o:Own),os[i]?=some o->∀b,o.owns b->∀o1:Own,o1∈os1->¬ o1.owns b)/\∀b,b<w.heap.size->¬ F b->(∀o:Own,o∈os->¬ o.owns b)->∀o1:Own,o1∈os1->¬ o1.owns b:=by
 have hF1:∀b,F b->Vm F os args b:=λ_ h=>.inl h;have hlt:∀(i:Nat) (o:Own) b,os[i]?=some o->o.owns b->b<w.heap.size:=λi o b hi hb=>(hr.rows i o hi).lt hb;have hold1:∀b,Vm F os args b->b<w.heap.size:=λb hb=>by
  rcases hb with hb|⟨id,g,n,o,_,ho,hob⟩
  ·exact hr.GK b hb
  ·exact hlt id o b ho hob
 have hargs:=jA hr hl hpure;refine (h (Vm F os args) [] w vs (FN.nil hold1) (R0 hf [] hargs)).mono ?_;rintro e w' ⟨u,r,st',F',os1,rfl,hR,hs,hru,he⟩;have zh:∀(i:Nat) (o:Own),os[i]?=some o->∀b,o.owns b->w'.heap[b]?=w.heap[b]?/\∀o1:Own,o1∈os1->¬ o1.owns b:=λi o ho b hb=>by
  by_cases h1:Vm F os args b
  ·refine⟨he.Jx b h1,λo1 ho1 e=>?_⟩;obtain⟨j,hj⟩:=vF.1 ho1;exact (hs.rows j o1 hj).nF e (he.RN b h1)
  ·obtain⟨f1,_,f3⟩:=he.other b (hlt i o b ho hb) h1 (by simp);exact⟨f1,f3⟩
 have AAC:∀x v,Ae F w os x v->Ae F w' os x v:=λx v h=>D8 (λ_ h=>h) (λb hb=>he.Jx b (hF1 b hb)) os os (Er.refl os) x v h;have hr':Rel F os s a w':=⟨hr.st,λt=>AAC _ _ (hr.env t),hr.size,λi o ho=>by
   have zp:=hr.rows i o ho;refine⟨zp.pos,zp.lens,zp.none,λb hb=>?_,λb hb=>⟨(zp.mo b hb).1,vi (zp.mo b hb).2.1 he.size,(zp.mo b hb).2.2⟩,zp.deep.keep rfl (λ_ h=>h) rfl (λb hb=>(zh i o ho b hb).1) (λi x j e s ys hx hc=>⟨x,hx,hc⟩)⟩;obtain⟨e1,cur,e2,e3,e4,e5,e6⟩:=zp.some b hb;exact⟨e1,cur,by rw[(zh i o ho b (.inl hb)).1];exact e2,e3,e4,e5,λi' x hx j c hc=>by obtain⟨u,f1,f2⟩:=e6 i' x hx j c hc;exact⟨u,f1,AAC _ _ f2⟩⟩,
  hr.inj,λb hb=>vi (hr.GK b hb) he.size,hr.defers⟩
 have hoth:∀b,b<w.heap.size->¬ F b->(∀o:Own,o∈os->¬ o.owns b)->w'.heap[b]?=w.heap[b]?/\∀o1:Own,o1∈os1->¬ o1.owns b:=λb hb e1 e2=>by
  have hnF1:¬ Vm F os args b:=λh=>h.elim e1 (λ⟨id,g,n,o,_,ho,hob⟩=>e2 o (uL ho) hob);obtain⟨f1,_,f3⟩:=he.other b hb hnF1 (by simp);exact⟨f1,f3⟩
 exact⟨u,r,st',F',os1,rfl,hR,hr',hs,hru,λb hb=>he.RN b (hF1 b hb),
  ⟨he.sys,he.tape,he.output,he.size,λ_ h=>h,λb hb=>he.Jx b (hF1 b hb),λb hb e1 e2=>⟨(hoth b hb e1 e2).1,e1,e2⟩,λi o _ ho=>⟨o,ho,uq _,rfl,λ_=>⟨rfl,rfl,rfl⟩⟩⟩,
  λi o ho b hb=>(zh i o ho b hb).2,λb hb e1 e2=>(hoth b hb e1 e2).2⟩
theorem Qu {f:FuncId}{args:List AV}{d:Option Tmp}{K:St->Prop}{R:AV->List Row->Prop}(h:BW P f (args.map (JD s.st)) [] R)(hf:(args.map (JD s.st)).all flat=true)
  (hpure :∀id g n,T1 args id g n->∀row,s.st[id]?=some row->DG row.xs)
  (hK :∀r st',R r st'->(kN r=true/\∀row∈st',∀x∈row.xs,∀c∈x,Mt c=true)/\(∀row∈st',DG row.xs)/\K ({ s with st:=s.st++st' }.put d (shift s.st.length r))):callThen P k s f args d K:=by
 intro F os a w vs hr hl;refine (dx (k:=k) h hf hpure hr hl).mono ?_;rintro e w' ⟨u,r,st',F',os1,rfl,hR,hr',hs,hru,hFF,he,hdis,hoth⟩;obtain⟨⟨hsr,hsc⟩,hp,hk⟩:=hK r st' hR;refine⟨u,_,s.st++st',F,os++os1,rfl,hk,hr'.join hs hFF hp (.inr hsc) hdis,?_,?_⟩
 ·rw[hr.len];exact VG (cZ hsr hru)
 ·refine⟨he.sys,he.tape,he.output,he.size,λ_ h=>h,he.Jx,λb hb e1 e2=>?_,λi o hi ho=>Er.append os os1 i o ho⟩;obtain⟨f1,_,_⟩:=he.other b hb e1 e2;exact⟨f1,e1,λo ho=>by rcases vJ.1 ho with h|h;exact e2 o h;exact hoth b hb e1 e2 o h⟩
end Go.Abs
