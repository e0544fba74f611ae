import Derived.Test.YtihdgoiebmfapaaGreatAbsK
namespace Go.Abs
open Go
variable {P : Program} {F : Nat -> Prop} {os : List Own} {s : St} {a : Act} {w : World} {k : Nat}
def HJ (id g:Nat)(xs:List (List AV)):AV->AV
 | .own id' g' n=>if id'=id/\g'=g then .sl (xs.drop (xs.length-n)) else .own id' g' n
 | .ptr id' g' i off=>if id'=id/\g'=g then (match xs[i]? with|some x=>.Bh x off|none=>.E2) else .ptr id' g' i off
 | v=>v
def BL (id g:Nat)(xs:List (List AV)):AV->AV
 | .agg cs=>.agg (cs.map (HJ id g xs))
 | .Dw cs=>.Dw (cs.map (HJ id g xs))
 | v=>HJ id g xs v
def EK (xs:List (List AV)):Prop:=∀x∈xs,∀c∈x,simple c=true
def DD (xs:List (List AV)):Prop:=∀x∈xs,∀c∈x,EY c=true
theorem EK.any {xs:List (List AV)}(h:EK xs):DD xs:=λx hx c hc=>Od (h x hx c hc)
theorem Wk.freeze {id:Nat}{row:Row}(hid:k<=id)(hrow:s.st[id]?=some row)(hp:EK row.xs):
  Wk k s ⟨s.n,λt=>BL id row.gen row.xs (s.env t),s.st.set id { row with gen:=row.gen+1,xs:=[] }⟩:=λF os a w hr=>by
 obtain⟨o,ho,rfl⟩:=hr.row hrow;have hok:=hr.rows id o ho;have hfl:∀x∈o.row.xs,∀c∈x,c.leaf=true:=λx hx c hc=>by
  have h1:=hp x hx c hc;have h2:=(hok.lens x hx).2 c hc;cases c<;>simp_all [simple,AV.leaf,AV.kept]
 refine⟨λb=>F b∨o.Fe=some b,os.set id ⟨{ o.row with gen:=o.row.gen+1,xs:=[] },none,0,o.more⟩,?_,?_⟩
 case refine_2=>
  refine⟨rfl,rfl,rfl,jv _,λ_ h=>.inl h,λ_ _=>rfl,λb _ h1 h2=>⟨rfl,λh=>h.elim h1 (λe=>h2 o (je ho) (.inl e)),λo' ho'=>?_⟩,λi oi hi hoi=>⟨oi,?_,jv _,rfl,λ_=>⟨rfl,rfl,rfl⟩⟩⟩
  ·rcases kp ho' with h|rfl
   ·exact h2 o' h
   ·intro hh;rcases hh with hh|hh
    ·simp at hh
    ·exact h2 o (je ho) (.inr hh)
  ·rw[kG (by omega)];exact hoi
 have hF:∀b,F b->(λb=>F b∨o.Fe=some b) b:=λ_ h=>.inl h;have hos:FH os (os.set id ⟨{ o.row with gen:=o.row.gen+1,xs:=[] },none,0,o.more⟩):=FH.set ho (by simp) rfl (λe=>by simp at e);have hmono:∀x v,Ae F w os x v->Ae (λb=>F b∨o.Fe=some b) w (os.set id ⟨{ o.row with gen:=o.row.gen+1,xs:=[] },none,0,o.more⟩) x v:=λx v h=>
  DV hF (λ_ _=>rfl) os _ hos x v h
 have hcell:∀x∈o.row.xs,∀c∈x,∀u,Ae F w os c u->Ae (λb=>F b∨o.Fe=some b) w [] c u:=λx hx c hc u hu=>
  DV hF (λ_ _=>rfl) [] [] (by simp) c u (Fc (hp x hx c hc) [] hu)
 have h1:∀x v,Ae F w os x v->Ae (λb=>F b∨o.Fe=some b) w (os.set id ⟨{ o.row with gen:=o.row.gen+1,xs:=[] },none,0,o.more⟩) (HJ id o.row.gen o.row.xs x) v:=λx v h=>by
  cases x with
  | own id' g' n=>
   simp only[HJ];split
   ·rename_i hif;obtain⟨rfl,rfl⟩:=hif;simp only[Ae]at h⊢;obtain⟨o',ho',_,_,h⟩:=h;rw[ho]at ho';cases ho';obtain⟨hn,hv⟩:=h rfl;have hlen:(o.row.xs.drop (o.row.xs.length-n)).length=n:=by simp;omega
    rcases hv with ⟨hb,ad,rfl⟩|⟨b,hb,rfl⟩
    ·have:=(hok.none hb).1;rw[this]at hn;simp only[lE,nR]at hn;subst hn;exact⟨ad,0,by simp,by simp,by simp⟩
    ·obtain⟨_,cur,hcur,hsz,hle,_,hcells⟩:=hok.some b hb;refine⟨_,o.cap-(o.row.xs.length-n),by rw[hlen],by rw[hlen];omega,λ_=>⟨b,(o.row.xs.length-n)*o.row.size,o.row.size,rfl,.inr hb,λx hx=>(hok.lens x (lQ hx)).1,?_⟩⟩;refine LL (λx hx=>(hok.lens x (lQ hx)).1) λi x hx=>KE λj c hc=>?_;have hxm:=je hx;rw[kW]at hx;obtain⟨u,e1,e2⟩:=hcells _ x hx j c hc;refine⟨u,?_,hfl x (je hx) c (je hc),hcell x (je hx) c (je hc) u e2⟩;rw[ml w b _ cur _ _ hcur];rw[<- kP];exact e1
   ·exact hmono _ _ h
  | ptr id' g' i off=>
   simp only[HJ];split
   ·rename_i hif;obtain⟨rfl,rfl⟩:=hif;simp only[Ae]at h;obtain⟨o',ho',_,_,h⟩:=h;rw[ho]at ho';cases ho';obtain⟨hi,_,b,hb,rfl⟩:=h rfl;rw[jl hi];obtain⟨_,cur,hcur,hsz,hle,_,hcells⟩:=hok.some b hb;simp only[Ae];refine⟨b,i*o.row.size,rfl,.inr hb,KE λj c hc=>?_⟩;have hm:=mH hi;obtain⟨u,e1,e2⟩:=hcells i _ (jl hi) j c hc;refine⟨u,?_,hfl _ hm c (je hc),hcell _ hm c (je hc) u e2⟩;rw[ml w b _ cur _ _ hcur];exact e1
   ·exact hmono _ _ h
  | _=>exact hmono _ _ h
 have hL:∀xs us,Br F w os xs us->Br (λb=>F b∨o.Fe=some b) w (os.set id ⟨{ o.row with gen:=o.row.gen+1,xs:=[] },none,0,o.more⟩) (xs.map (HJ id o.row.gen o.row.xs)) us:=λxs us h=>
  DZ (by simp[BY h]) λi x u hx hu=>by
   simp only[ji,jo]at hx;obtain⟨y,hy,rfl⟩:=hx;obtain⟨u',e1,e2⟩:=CN h i y hy;rw[hu]at e1;cases e1;exact h1 _ _ e2
 have hget:∀(i:Nat) (oi:Own),(os.set id ⟨{ o.row with gen:=o.row.gen+1,xs:=[] },none,0,o.more⟩)[i]?=some oi->(i≠id/\os[i]?=some oi)∨(i=id/\oi=⟨{ o.row with gen:=o.row.gen+1,xs:=[] },none,0,o.more⟩):=λi oi hi=>by
  by_cases e:i=id
  ·subst e;rw[ju (jg.1 ho).1,jh]at hi;exact .inr ⟨rfl,hi.symm⟩
  ·rw[kG (lK e)]at hi;exact .inl ⟨e,hi⟩
 refine⟨by rw[ln,hr.st],λt=>?_,hr.size,λi oi hi=>?_,λi j oi oj b hi hj hbi hbj=>?_,λb hb=>?_,hr.defers⟩
 ·have:=hr.env t;simp only;generalize s.env t=x at this⊢;cases x with
  | agg cs=>simp only[BL,Ae]at this⊢;obtain⟨us,e,h⟩:=this;exact⟨us,e,hL _ _ h⟩
  | Dw cs=>simp only[BL,Ae]at this⊢;obtain⟨us,e,h⟩:=this;exact⟨us,e,hL _ _ h⟩
  | _=>exact h1 _ _ this
 ·rcases hget i oi hi with ⟨hne,h⟩|⟨_,rfl⟩
  ·have hoki:=hr.rows i oi h;refine⟨hoki.pos,hoki.lens,hoki.none,λb hb=>?_,λb hb=>⟨λhF=>hF.elim (hoki.mo b hb).1 (λhob=>hne (hr.inj i id oi o b h ho (.inr hb) (.inl hob))),(hoki.mo b hb).2⟩,hoki.deep⟩;obtain⟨e1,cur,e2,e3,e4,e5,e6⟩:=hoki.some b hb;refine⟨λhF=>hF.elim e1 (λhob=>hne (hr.inj i id oi o b h ho (.inl hb) (.inl hob))),cur,e2,e3,e4,e5,λi' x hx j c hc=>?_⟩;obtain⟨u,f1,f2⟩:=e6 i' x hx j c hc;exact⟨u,f1,hmono _ _ f2⟩
  ·exact⟨hok.pos,by simp,by simp,by simp,λb hb=>⟨λhF=>hF.elim (hok.mo b hb).1 (hok.mo b hb).2.2,(hok.mo b hb).2.1,by simp⟩,Et (by simp)⟩
 ·rcases hget i oi hi with ⟨hne,h⟩|⟨h,rfl⟩<;>rcases hget j oj hj with ⟨hne',h'⟩|⟨h',rfl⟩
  ·exact hr.inj i j oi oj b h h' hbi hbj
  ·exact hr.inj i j oi o b h (h'▸ho) hbi (hbj.elim (λe=>by simp at e) .inr)
  ·exact hr.inj i j o oj b (h▸ho) h' (hbi.elim (λe=>by simp at e) .inr) hbj
  ·omega
 ·rcases hb with hb|hb
  ·exact hr.FT b hb
  ·obtain⟨_,cur,hcur,_⟩:=hok.some b hb;exact (kR.1 hcur).1
def My (m:Nat):AV->AV
 | .own id g n=>.own (id+m) g n
 | .ptr id g i off=>.ptr (id+m) g i off
 | .fn ..|.agg _|.Dw _=>.E2
 | v=>v
def Px (m:Nat)(x:AV):AV:=two (My m) x
def shift (m:Nat):AV->AV
 | .fn f cs=>.fn f (cs.map (Px m))
 | .agg cs=>.agg (cs.map (Px m))
 | .Dw cs=>.Dw (cs.map (Px m))
 | v=>Px m v
theorem ZQ {os1:List Own}{x:AV}{v:Value}(h:Ae F w os1 x v):Ae F w (os++os1) (My os.length x) v:=by
 have hget:∀id,(os++os1)[id+os.length]?=os1[id]?:=λid=>by rw[jt (by omega)];congr 1;omega
 cases x with
 | own id g n=>simp only[My,Ae]at h⊢;rw[hget];exact h
 | ptr id g i off=>simp only[My,Ae]at h⊢;rw[hget];exact h
 | fn f cs=>simp[My,Ae]
 | agg cs=>simp[My,Ae]
 | Dw cs=>simp[My,Ae]
 | _=>simp only[My,Ae]at h⊢<;>exact h
theorem Ti {os1:List Own}{x:AV}{v:Value}(h:Ae F w os1 x v):Ae F w (os++os1) (Px os.length x) v:=
 LH (λ_ _ h=>ZQ h) _ _ h
theorem N5 {os1:List Own}{xs:List AV}{us:List Value}(h:Br F w os1 xs us):Br F w (os++os1) (xs.map (Px os.length)) us:=
 DZ (by simp[BY h]) λi x u hx hu=>by
  simp only[ji,jo]at hx;obtain⟨y,hy,rfl⟩:=hx;obtain⟨u',e1,e2⟩:=CN h i y hy;rw[hu]at e1;cases e1;exact Ti e2
theorem VC {os1:List Own}{x:AV}{v:Value}(h:Ae F w os1 x v):Ae F w (os++os1) (shift os.length x) v:=by
 cases x with
 | fn f cs=>simp only[shift,Ae]at h⊢;obtain⟨us,e,hl⟩:=h;exact⟨us,e,N5 hl⟩
 | agg cs=>simp only[shift,Ae]at h⊢;obtain⟨us,e,hl⟩:=h;exact⟨us,e,N5 hl⟩
 | Dw cs=>simp only[shift,Ae]at h⊢;obtain⟨us,e,hl⟩:=h;exact⟨us,e,N5 hl⟩
 | _=>exact Ti h
def ND:AV->Bool
 | .sl _|.Bh ..|.fn ..|.agg _|.Dw _=>false
 | _=>true
def Zy:AV->Bool
 | .agg cs=>cs.all ND
 | v=>ND v
def bE:AV->Bool
 | .Dw cs=>cs.all Zy
 | v=>Zy v
theorem Qq {F':Nat->Prop}{x:AV}{v:Value}(hx:ND x=true)(h:Ae F w os x v):Ae F' w os x v:=by
 cases x<;>simp only[ND,jk]at hx<;>simp only[Ae]at h⊢<;>exact h
theorem U7 {F':Nat->Prop}{x:AV}{v:Value}(hx:Zy x=true)(h:Ae F w os x v):Ae F' w os x v:=by
 cases x with
 | agg cs=>
  simp only[Ae]at h⊢;obtain⟨us,e,hl⟩:=h;refine⟨us,e,DZ (BY hl) λi x u hx' hu=>?_⟩;obtain⟨u',e1,e2⟩:=CN hl i x hx';rw[hu]at e1;cases e1;exact Qq (jq.1 hx x (je hx')) e2
 | _=>exact Qq hx h
theorem cD {F':Nat->Prop}{x:AV}{v:Value}(hx:bE x=true)(h:Ae F w os x v):Ae F' w os x v:=by
 cases x with
 | Dw cs=>
  simp only[Ae]at h⊢;obtain⟨us,e,hl⟩:=h;refine⟨us,e,DZ (BY hl) λi x u hx' hu=>?_⟩;obtain⟨u',e1,e2⟩:=CN hl i x hx';rw[hu]at e1;cases e1;exact U7 (jq.1 hx x (je hx')) e2
 | _=>exact U7 hx h
theorem Rel.join {F0 F':Nat->Prop}{w':World}{os1:List Own}{st1:List Row}(hr:Rel F0 os s a w')(hs:G4 F' os1 st1 w')(hFF :∀b,F0 b->F' b)(hp :∀row∈st1,DD row.xs)
  (hscal:(∀b,F' b->F0 b)∨∀row∈st1,∀x∈row.xs,∀c∈x,ND c=true) (hdis :∀(i:Nat) (o:Own),os[i]?=some o->∀b,o.owns b->∀o1:Own,o1∈os1->¬ o1.owns b) :
  Rel F0 (os++os1) { s with st:=s.st++st1 } a w':=by
 have hos:FH os (os++os1):=FH.append os os1;have hmono:∀x v,Ae F0 w' os x v->Ae F0 w' (os++os1) x v:=λx v h=>DV (λ_ h=>h) (λ_ _=>rfl) os _ hos x v h;have hget:∀(i:Nat) (o:Own),(os++os1)[i]?=some o->(i<os.length/\os[i]?=some o)∨(os.length<=i/\os1[i-os.length]?=some o):=λi o h=>by
  by_cases hi:i<os.length
  ·rw[jr hi]at h;exact .inl ⟨hi,h⟩
  ·rw[jt (by omega)]at h;exact .inr ⟨by omega,h⟩
 refine⟨by rw[lJ,hr.st,hs.st],λt=>hmono _ _ (hr.env t),hr.size,λi o ho=>?_,λi j oi oj b hi hj hbi hbj=>?_,hr.FT,hr.defers⟩
 ·rcases hget i o ho with ⟨_,h⟩|⟨_,h⟩
  ·have hok:=hr.rows i o h;refine⟨hok.pos,hok.lens,hok.none,λb hb=>?_,hok.mo,hok.deep⟩;obtain⟨e1,cur,e2,e3,e4,e5,e6⟩:=hok.some b hb;exact⟨e1,cur,e2,e3,e4,e5,λi' x hx j c hc=>by obtain⟨u,f1,f2⟩:=e6 i' x hx j c hc;exact⟨u,f1,hmono _ _ f2⟩⟩
  ·have hok:=hs.rows _ o h;refine⟨hok.pos,hok.lens,hok.none,λb hb=>?_,λb hb=>⟨λhF=>(hok.mo b hb).1 (hFF b hF),(hok.mo b hb).2⟩,hok.deep⟩;obtain⟨e1,cur,e2,e3,e4,e5,e6⟩:=hok.some b hb;refine⟨λhF=>e1 (hFF b hF),cur,e2,e3,e4,e5,λi' x hx j c hc=>?_⟩;obtain⟨u,f1,f2⟩:=e6 i' x hx j c hc;have hrow:o.row∈st1:=by rw[<- hs.st];exact kC.2 ⟨o,je h,rfl⟩
   have hsim:=hp o.row hrow x (je hx) c (je hc);have f3:=X6 hsim (os++os1) f2;refine⟨u,f1,?_⟩;rcases hscal with h1|h1
   ·exact DV h1 (λ_ _=>rfl) _ _ (FH.refl _) c u f3
   ·exact Qq (h1 o.row hrow x (je hx) c (je hc)) f3
 ·rcases hget i oi hi with ⟨_,h⟩|⟨_,h⟩<;>rcases hget j oj hj with ⟨_,h'⟩|⟨_,h'⟩
  ·exact hr.inj i j oi oj b h h' hbi hbj
  ·exact absurd hbj (hdis i oi h b hbi oj (je h'))
  ·exact absurd hbi (hdis j oj h' b hbj oi (je h))
  ·have:=hs.inj _ _ oi oj b h h' hbi hbj;omega
theorem Ud {f:FuncId}{args:List AV}{d:Option Tmp}{K:St->Prop}{R:AV->List Row->Prop}(h:Ab P f args [] R)(hf:args.all flat=true)
  (hK :∀r st',R r st'->(∀row∈st',DD row.xs)/\K ({ s with st:=s.st++st' }.put d (shift s.st.length r))):callThen P k s f args d K:=by
 intro F os a w vs hr hl;refine (h F [] w vs (G4.nil hr.FT) (RK hf [] hl)).mono ?_;rintro e w' ⟨u,r,st',F',os1,rfl,hR,hs,hru,he⟩;obtain⟨hp,hk⟩:=hK r st' hR;obtain⟨h1,h2,_,hdis⟩:=hr.after (k:=k) he hs.FT;refine⟨u,_,s.st++st',F',os++os1,rfl,hk,h1.join hs (λ_ h=>h) hp (.inl λ_ h=>h) hdis,?_,?_⟩
 ·rw[hr.len];exact VC hru
 ·refine⟨h2.sys,h2.tape,h2.output,h2.size,h2.Mr,h2.II,λb hb e1 e2=>?_,λi o hi ho=>?_⟩
  ·obtain⟨f1,f2,f3⟩:=he.other b hb e1 (by simp);exact⟨f1,f2,λo ho=>by rcases kJ.1 ho with h|h;exact e2 o h;exact f3 o h⟩
  ·exact FH.append os os1 i o ho
mutual
def Oj:AV->AV
 | .dv _ _ xs=>.sl (KJ xs)
 | c=>c
def KJ:List (List AV)->List (List AV)
 | []=>[]
 | x::r=>Ho x::KJ r
def Ho:List AV->List AV
 | []=>[]
 | c::r=>Oj c::Ho r
end
theorem N1:∀x:List AV,Ho x=x.map Oj
 | []=>by simp[Ho]
 | c::r=>by simp[Ho,N1 r]
theorem Hv:∀xs:List (List AV),KJ xs=xs.map Ho
 | []=>by simp[KJ]
 | x::r=>by simp[KJ,Hv r]
theorem TU {c:AV}(h:simple c=true):Oj c=c:=by cases c<;>simp_all [simple,Oj]
mutual
theorem TF {S F:Nat->Prop}{w:World}(hS :∀b,S b->F b):∀(x:AV) (v:Value),EU S w x v->Ae F w [] (Oj x) v/\(Oj x).leaf=true
 | .dv el size xs,v,h=>by
  simp only[EU]at h;obtain⟨hp,h⟩:=h;simp only[Oj,Ae,AV.leaf,and_true];rcases h with ⟨rfl,a,rfl⟩|⟨b,cap,cur,rfl,h2,h3,h4,h5,h6,h7,h8⟩
  ·exact⟨a,0,by simp[KJ],by simp[KJ],by simp[KJ]⟩
  ·refine⟨_,cap,by simp[Hv],by simpa [Hv] using h2,λ_=>⟨b,0,size,rfl,hS b h4,λx hx=>?_,U2 (S:=λc=>S c/\c≠b) (λc hc=>hS c hc.1) h5 xs 0 h8⟩⟩;rw[Hv]at hx;obtain⟨y,hy,rfl⟩:=kC.1 hx;rw[N1,kB];exact h7 y hy
 | .int _ _,_,h=>by simpa [EU,Oj,Ae,AV.leaf] using h
 | .bool _,_,h=>by simpa [EU,Oj,Ae,AV.leaf] using h
 | .str _,_,h=>by simpa [EU,Oj,Ae,AV.leaf] using h
 | .zc,_,h=>by simpa [EU,Oj,Ae,AV.leaf] using h
 | .QX,_,h=>by simpa [EU,Oj,Ae,AV.leaf] using h
 | .Qc,_,h=>by simpa [EU,Oj,Ae,AV.leaf] using h
 | .E2,_,h=>by simp[EU]at h
 | .un,_,h=>by simp[EU]at h
 | .sl _,_,h=>by simp[EU]at h
 | .own ..,_,h=>by simp[EU]at h
 | .ptr ..,_,h=>by simp[EU]at h
 | .Bh ..,_,h=>by simp[EU]at h
 | .fn ..,_,h=>by simp[EU]at h
 | .agg _,_,h=>by simp[EU]at h
 | .Dw _,_,h=>by simp[EU]at h
theorem U2 {S F:Nat->Prop}{w:World}(hS :∀b,S b->F b){b:Nat}{cur:Array Value}{el:TypeId}(hcur:w.heap[b]?=some (.cells cur el (0,0))):∀(xs:List (List AV)) (o:Nat),Kg S w xs cur o->HK F w (KJ xs) b o
 | [],_,_=>by simp[KJ,HK]
 | x::r,o,h=>by
  simp only[Kg]at h;simp only[KJ,HK];obtain⟨S1,S2,h1,h2,_,h4,h5⟩:=h;have hl:(Ho x).length=x.length:=by rw[N1,kB]
  rw[hl];exact⟨Vm (λc hc=>hS c (h1 c hc)) hcur x o h4,U2 (λc hc=>hS c (h2 c hc)) hcur r _ h5⟩
theorem Vm {S F:Nat->Prop}{w:World}(hS :∀b,S b->F b){b:Nat}{cur:Array Value}{el:TypeId}(hcur:w.heap[b]?=some (.cells cur el (0,0))):∀(xs:List AV) (o:Nat),Kd S w xs cur o->FB F w (Ho xs) b o
 | [],_,_=>by simp[Ho,FB]
 | x::r,o,h=>by
  simp only[Kd]at h;simp only[Ho,FB];obtain⟨S1,S2,h1,h2,_,⟨u,h4,h5⟩,h6⟩:=h;obtain⟨g1,g2⟩:=TF (λc hc=>hS c (h1 c hc)) x u h5;exact⟨⟨u,by rw[ml w b _ cur _ _ hcur];exact h4,g2,g1⟩,Vm (λc hc=>hS c (h2 c hc)) hcur r _ h6⟩
end
def SG (st:List Row):AV->AV
 | .own id g n=>match st[id]? with
  | some row=>if row.gen=g then .sl (KJ (row.xs.drop (row.xs.length-n))) else .E2
  | none=>.E2
 | v=>v
def HI (st:List Row):AV->AV
 | .agg cs=>.agg (cs.map (SG st))
 | v=>SG st v
def Pq (args:List AV)(id g n:Nat):Prop:=AV.own id g n∈args∨∃cs,AV.agg cs∈args/\AV.own id g n∈cs
def Ru (F:Nat->Prop)(os:List Own)(args:List AV)(b:Nat):Prop:=F b∨∃id g n o,Pq args id g n/\os[id]?=some o/\o.owns b
theorem ca (hr:Rel F os s a w){F1:Nat->Prop}(hF1 :∀b,F b->F1 b){id g n:Nat}{o:Own}(ho:os[id]?=some o)(hl :∀b,o.owns b->F1 b)(hpr:DD o.row.xs){u:Value}
  (e2:Ae F w os (.own id g n) u) (hg:o.row.gen=g):Ae F1 w os (.sl (KJ (o.row.xs.drop (o.row.xs.length-n)))) u:=by
 have hok:=hr.rows id o ho;have hm:∀x v,Ae F w os x v->Ae F1 w os x v:=λx v h=>DV hF1 (λ_ _=>rfl) os os (FH.refl os) x v h;simp only[Ae]at e2⊢;obtain⟨o',ho',_,_,e2⟩:=e2;rw[ho]at ho';cases ho';obtain⟨hn,hv⟩:=e2 hg;have hlen:(KJ (o.row.xs.drop (o.row.xs.length-n))).length=n:=by simp[Hv];omega
 rcases hv with ⟨hb,ad,rfl⟩|⟨b,hb,rfl⟩
 ·have:=(hok.none hb).1;rw[this]at hn;simp only[lE,nR]at hn;subst hn;exact⟨ad,0,by simp[Hv],by simp[Hv],by simp[Hv]⟩
 ·obtain⟨_,cur,hcur,hsz,hle,_,hcells⟩:=hok.some b hb;have hls:∀x∈KJ (o.row.xs.drop (o.row.xs.length-n)),x.length=o.row.size:=λx hx=>by
   rw[Hv]at hx;obtain⟨y,hy,rfl⟩:=kC.1 hx;rw[N1,kB];exact (hok.lens y (lQ hy)).1
  refine⟨_,o.cap-(o.row.xs.length-n),by rw[hlen],by rw[hlen];omega,λ_=>⟨b,(o.row.xs.length-n)*o.row.size,o.row.size,rfl,hl b (.inl hb),hls,?_⟩⟩;refine LL hls λi x hx=>KE λj c hc=>?_;rw[Hv,ji,jo]at hx;obtain⟨x0,hx0,rfl⟩:=hx;rw[N1,ji,jo]at hc;obtain⟨c0,hc0,rfl⟩:=hc;rw[kW]at hx0
  ·have hsi:=hpr x0 (je hx0) c0 (je hc0);have hk:=(hok.lens x0 (je hx0)).2 c0 (je hc0);by_cases hd :∃el sz ys,c0=.dv el sz ys
   ·obtain⟨el,sz,ys,rfl⟩:=hd;obtain⟨D,d1,_,d3⟩:=hok.deep;obtain⟨u,f1,f2⟩:=d3 b hb cur _ _ hcur _ x0 j el sz ys hx0 hc0;obtain⟨g1,g2⟩:=TF (F:=F1) (λc hc=>hl c (.inr (d1 _ _ _ hc))) _ u f2;exact⟨u,by rw[ml w b _ cur _ _ hcur,<- kP];exact f1,g2,g1⟩
   ·have hs:simple c0=true:=by cases c0<;>simp_all [EY]
    rw[TU hs];obtain⟨u,f1,f2⟩:=hcells _ x0 hx0 j c0 hc0;refine⟨u,?_,by cases c0<;>simp_all [AV.kept],Fc hs [] (hm _ _ f2)⟩;rw[ml w b _ cur _ _ hcur,<- kP];exact f1
theorem aE (hr:Rel F os s a w){args:List AV}{vs:List Value}(hl:Br F w os args vs)(hpure :∀id g n,Pq args id g n->∀row,s.st[id]?=some row->DD row.xs):
  Br (Ru F os args) w os (args.map (HI s.st)) vs:=by
 have hF1:∀b,F b->Ru F os args b:=λ_ h=>.inl h;have hm:∀x v,Ae F w os x v->Ae (Ru F os args) w os x v:=λx v h=>DV hF1 (λ_ _=>rfl) os os (FH.refl os) x v h;have h0:∀y u,(∀id g n,y=AV.own id g n->Pq args id g n)->Ae F w os y u->Ae (Ru F os args) w os (SG s.st y) u:=λy u hin e2=>by
  cases y with
  | own id g n=>
   simp only[SG];split
   ·rename_i row hrow;split
    ·rename_i hg;obtain⟨o,ho,rfl⟩:=hr.row hrow;exact ca hr hF1 ho (λb hb=>.inr ⟨id,g,n,o,hin id g n rfl,ho,hb⟩) (hpure id g n (hin id g n rfl) o.row hrow) e2 hg
    ·simp[Ae]
   ·simp[Ae]
  | _=>exact hm _ _ e2
 refine DZ (by simp[BY hl]) λi x u hx hu=>?_;simp only[ji,jo]at hx;obtain⟨y,hy,rfl⟩:=hx;obtain⟨u',e1,e2⟩:=CN hl i y hy;rw[hu]at e1;cases e1;have hym:=je hy;cases y with
 | agg cs=>
  simp only[HI,Ae]at e2⊢;obtain⟨us,e,hcs⟩:=e2;refine⟨us,e,DZ (by simp[BY hcs]) λj x u hx hu=>?_⟩;simp only[ji,jo]at hx;obtain⟨y,hy,rfl⟩:=hx;obtain⟨u',e1,e2⟩:=CN hcs j y hy;rw[hu]at e1;cases e1;exact h0 y u (λid g n e=>.inr ⟨cs,hym,e▸je hy⟩) e2
 | own id g n=>exact h0 _ u (λid' g' n' e=>.inl (e▸hym)) e2
 | _=>exact hm _ _ e2
theorem XX {P:Program}{s:St}{f:FuncId}{args:List AV}{R:AV->List Row->Prop}{k:Nat}(h:Ab P f (args.map (HI s.st)) [] R)(hf:(args.map (HI s.st)).all flat=true)
  (hpure :∀id g n,Pq args id g n->∀row,s.st[id]?=some row->DD row.xs) {F:Nat->Prop} {os:List Own} {a:Act} {w:World} {vs:List Value} (hr:Rel F os s a w) (hl:Br F w os args vs) :
  Calls P f vs.toArray w λe w'=>∃u r st' F' os1,e=.returned u/\R r st'/\Rel F os s a w'/\G4 F' os1 st' w'/\Ae F' w' os1 r u/\(∀b,F b->F' b)/\Ext F os w F os w' k/\
   (∀(i:Nat) (o:Own),os[i]?=some o->∀b,o.owns b->∀o1:Own,o1∈os1->¬ o1.owns b)/\∀b,b<w.heap.size->¬ F b->(∀o:Own,o∈os->¬ o.owns b)->∀o1:Own,o1∈os1->¬ o1.owns b:=by
 have hF1:∀b,F b->Ru F os args b:=λ_ h=>.inl h;have hlt:∀(i:Nat) (o:Own) b,os[i]?=some o->o.owns b->b<w.heap.size:=λi o b hi hb=>(hr.rows i o hi).lt hb;have hold1:∀b,Ru F os args b->b<w.heap.size:=λb hb=>by
  rcases hb with hb|⟨id,g,n,o,_,ho,hob⟩
  ·exact hr.FT b hb
  ·exact hlt id o b ho hob
 have hargs:=aE hr hl hpure;refine (h (Ru F os args) [] w vs (G4.nil hold1) (RK hf [] hargs)).mono ?_;rintro e w' ⟨u,r,st',F',os1,rfl,hR,hs,hru,he⟩;have hrow:∀(i:Nat) (o:Own),os[i]?=some o->∀b,o.owns b->w'.heap[b]?=w.heap[b]?/\∀o1:Own,o1∈os1->¬ o1.owns b:=λi o ho b hb=>by
  by_cases h1:Ru F os args b
  ·refine⟨he.II b h1,λo1 ho1 e=>?_⟩;obtain⟨j,hj⟩:=jz.1 ho1;exact (hs.rows j o1 hj).nF e (he.Mr b h1)
  ·obtain⟨f1,_,f3⟩:=he.other b (hlt i o b ho hb) h1 (by simp);exact⟨f1,f3⟩
 have hmono:∀x v,Ae F w os x v->Ae F w' os x v:=λx v h=>DV (λ_ h=>h) (λb hb=>he.II b (hF1 b hb)) os os (FH.refl os) x v h;have hr':Rel F os s a w':=⟨hr.st,λt=>hmono _ _ (hr.env t),hr.size,λi o ho=>by
   have hok:=hr.rows i o ho;refine⟨hok.pos,hok.lens,hok.none,λb hb=>?_,λb hb=>⟨(hok.mo b hb).1,ke (hok.mo b hb).2.1 he.size,(hok.mo b hb).2.2⟩,hok.deep.keep rfl (λ_ h=>h) rfl (λb hb=>(hrow i o ho b hb).1) (λi x j e s ys hx hc=>⟨x,hx,hc⟩)⟩;obtain⟨e1,cur,e2,e3,e4,e5,e6⟩:=hok.some b hb;exact⟨e1,cur,by rw[(hrow i o ho b (.inl hb)).1];exact e2,e3,e4,e5,λi' x hx j c hc=>by obtain⟨u,f1,f2⟩:=e6 i' x hx j c hc;exact⟨u,f1,hmono _ _ f2⟩⟩,
  hr.inj,λb hb=>ke (hr.FT b hb) he.size,hr.defers⟩
 have hoth:∀b,b<w.heap.size->¬ F b->(∀o:Own,o∈os->¬ o.owns b)->w'.heap[b]?=w.heap[b]?/\∀o1:Own,o1∈os1->¬ o1.owns b:=λb hb e1 e2=>by
  have hnF1:¬ Ru F os args b:=λh=>h.elim e1 (λ⟨id,g,n,o,_,ho,hob⟩=>e2 o (je ho) hob);obtain⟨f1,_,f3⟩:=he.other b hb hnF1 (by simp);exact⟨f1,f3⟩
 exact⟨u,r,st',F',os1,rfl,hR,hr',hs,hru,λb hb=>he.Mr b (hF1 b hb),
  ⟨he.sys,he.tape,he.output,he.size,λ_ h=>h,λb hb=>he.II b (hF1 b hb),λb hb e1 e2=>⟨(hoth b hb e1 e2).1,e1,e2⟩,λi o _ ho=>⟨o,ho,jv _,rfl,λ_=>⟨rfl,rfl,rfl⟩⟩⟩,
  λi o ho b hb=>(hrow i o ho b hb).2,λb hb e1 e2=>(hoth b hb e1 e2).2⟩
theorem Na {f:FuncId}{args:List AV}{d:Option Tmp}{K:St->Prop}{R:AV->List Row->Prop}(h:Ab P f (args.map (HI s.st)) [] R)(hf:(args.map (HI s.st)).all flat=true)
  (hpure :∀id g n,Pq args id g n->∀row,s.st[id]?=some row->DD row.xs)
  (hK :∀r st',R r st'->(bE r=true/\∀row∈st',∀x∈row.xs,∀c∈x,ND c=true)/\(∀row∈st',DD row.xs)/\K ({ s with st:=s.st++st' }.put d (shift s.st.length r))):callThen P k s f args d K:=by
 intro F os a w vs hr hl;refine (XX (k:=k) h hf hpure hr hl).mono ?_;rintro e w' ⟨u,r,st',F',os1,rfl,hR,hr',hs,hru,hFF,he,hdis,hoth⟩;obtain⟨⟨hsr,hsc⟩,hp,hk⟩:=hK r st' hR;refine⟨u,_,s.st++st',F,os++os1,rfl,hk,hr'.join hs hFF hp (.inr hsc) hdis,?_,?_⟩
 ·rw[hr.len];exact VC (cD hsr hru)
 ·refine⟨he.sys,he.tape,he.output,he.size,λ_ h=>h,he.II,λb hb e1 e2=>?_,λi o hi ho=>FH.append os os1 i o ho⟩;obtain⟨f1,_,_⟩:=he.other b hb e1 e2;exact⟨f1,e1,λo ho=>by rcases kJ.1 ho with h|h;exact e2 o h;exact hoth b hb e1 e2 o h⟩
end Go.Abs
