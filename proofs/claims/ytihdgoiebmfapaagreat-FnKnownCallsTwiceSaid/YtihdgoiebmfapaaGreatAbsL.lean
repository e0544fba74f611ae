import Derived.Test.YtihdgoiebmfapaaGreatAbsK
set_option linter.all false
namespace Go.Abs
open Go
variable {P : Program} {F : Nat -> Prop} {os : List Own} {s : St} {a : Act} {w : World} {k : Nat}
def G5 (id g:Nat)(xs:List (List AV)):AV->AV
 | .own mG g' n=>if mG=id/\g'=g then .sl (xs.drop (xs.length-n)) else .own mG g' n
 | .ptr mG g' i off=>if mG=id/\g'=g then (match xs[i]? with|some x=>.Bc x off|none=>.E2) else .ptr mG g' i off
 | v=>v
def BJ (id g:Nat)(xs:List (List AV)):AV->AV
 | .agg cs=>.agg (cs.map (G5 id g xs))
 | .Dm cs=>.Dm (cs.map (G5 id g xs))
 | v=>G5 id g xs v
def Dz (xs:List (List AV)):Prop:=∀x∈xs,∀c∈x,simple c=true
def Cp (xs:List (List AV)):Prop:=∀x∈xs,∀c∈x,EY c=true
theorem Dz.any {xs:List (List AV)}(h:Dz xs):Cp xs:=λx hx c hc=>OB (h x hx c hc)
theorem Wk.freeze {id:Nat}{row:Row}(oT:k<=id)(lQ:s.st[id]?=some row)(hp:Dz row.xs):
  Wk k s ⟨s.n,λt=>BJ id row.gen row.xs (s.env t),s.st.set id { row with gen:=row.gen+1,xs:=[] }⟩:=λF os a w hr=>by
 obtain⟨o,ho,rfl⟩:=hr.row lQ;have lU:=hr.rows id o ho;have qM:∀x∈o.row.xs,∀c∈x,c.leaf=true:=λx hx c hc=>by
  have h1:=hp x hx c hc;have h2:=(lU.lens x hx).2 c hc;cases c<;>simp_all [simple,AV.leaf,AV.kept]
 refine⟨λb=>F b∨o.Fa=some b,os.set id ⟨{ o.row with gen:=o.row.gen+1,xs:=[] },none,0,o.more⟩,?_,?_⟩
 case refine_2=>
  refine⟨rfl,rfl,rfl,gA _,λ_ h=>.inl h,λ_ _=>rfl,λb _ h1 h2=>⟨rfl,λh=>h.elim h1 (λe=>h2 o (fc ho) (.inl e)),λo' lz=>?_⟩,λi oi hi nm=>⟨oi,?_,gA _,rfl,λ_=>⟨rfl,rfl,rfl⟩⟩⟩
  ·rcases gp lz with h|rfl
   ·exact h2 o' h
   ·intro hh;rcases hh with hh|hh
    ·simp at hh
    ·exact h2 o (fc ho) (.inr hh)
  ·rw[gJ (by omega)];exact nm
 have hF:∀b,F b->(λb=>F b∨o.Fa=some b) b:=λ_ h=>.inl h;have mK:FF os (os.set id ⟨{ o.row with gen:=o.row.gen+1,xs:=[] },none,0,o.more⟩):=FF.set ho (by simp) rfl (λe=>by simp at e);have lY:∀x v,Ae F w os x v->Ae (λb=>F b∨o.Fa=some b) w (os.set id ⟨{ o.row with gen:=o.row.gen+1,xs:=[] },none,0,o.more⟩) x v:=λx v h=>
  Dc hF (λ_ _=>rfl) os _ mK x v h
 have mJ:∀x∈o.row.xs,∀c∈x,∀u,Ae F w os c u->Ae (λb=>F b∨o.Fa=some b) w [] c u:=λx hx c hc u hu=>
  Dc hF (λ_ _=>rfl) [] [] (by simp) c u (FW (hp x hx c hc) [] hu)
 have h1:∀x v,Ae F w os x v->Ae (λb=>F b∨o.Fa=some b) w (os.set id ⟨{ o.row with gen:=o.row.gen+1,xs:=[] },none,0,o.more⟩) (G5 id o.row.gen o.row.xs x) v:=λx v h=>by
  cases x with
  | own mG g' n=>
   simp only[G5];split
   ·rename_i sN;obtain⟨rfl,rfl⟩:=sN;simp only[Ae]at h⊢;obtain⟨o',lz,_,_,h⟩:=h;rw[ho]at lz;cases lz;obtain⟨hn,hv⟩:=h rfl;have hlen:(o.row.xs.drop (o.row.xs.length-n)).length=n:=by simp;omega
    rcases hv with ⟨hb,ad,rfl⟩|⟨b,hb,rfl⟩
    ·have:=(lU.none hb).1;rw[this]at hn;simp only[iM,kD]at hn;subst hn;exact⟨ad,0,by simp,by simp,by simp⟩
    ·obtain⟨_,cur,lj,lr,hle,_,lk⟩:=lU.some b hb;refine⟨_,o.cap-(o.row.xs.length-n),by rw[hlen],by rw[hlen];omega,λ_=>⟨b,(o.row.xs.length-n)*o.row.size,o.row.size,rfl,.inr hb,λx hx=>(lU.lens x (iL hx)).1,?_⟩⟩;refine Ko (λx hx=>(lU.lens x (iL hx)).1) λi x hx=>Jy λj c hc=>?_;have pK:=fc hx;rw[gh]at hx;obtain⟨u,e1,e2⟩:=lk _ x hx j c hc;refine⟨u,?_,qM x (fc hx) c (fc hc),mJ x (fc hx) c (fc hc) u e2⟩;rw[jf w b _ cur _ _ lj];rw[<- gU];exact e1
   ·exact lY _ _ h
  | ptr mG g' i off=>
   simp only[G5];split
   ·rename_i sN;obtain⟨rfl,rfl⟩:=sN;simp only[Ae]at h;obtain⟨o',lz,_,_,h⟩:=h;rw[ho]at lz;cases lz;obtain⟨hi,_,b,hb,rfl⟩:=h rfl;rw[fm hi];obtain⟨_,cur,lj,lr,hle,_,lk⟩:=lU.some b hb;simp only[Ae];refine⟨b,i*o.row.size,rfl,.inr hb,Jy λj c hc=>?_⟩;have hm:=jG hi;obtain⟨u,e1,e2⟩:=lk i _ (fm hi) j c hc;refine⟨u,?_,qM _ hm c (fc hc),mJ _ hm c (fc hc) u e2⟩;rw[jf w b _ cur _ _ lj];exact e1
   ·exact lY _ _ h
  | _=>exact lY _ _ h
 have hL:∀xs us,Br F w os xs us->Br (λb=>F b∨o.Fa=some b) w (os.set id ⟨{ o.row with gen:=o.row.gen+1,xs:=[] },none,0,o.more⟩) (xs.map (G5 id o.row.gen o.row.xs)) us:=λxs us h=>
  DV (by simp[BW h]) λi x u hx hu=>by
   simp only[fg,fp]at hx;obtain⟨y,hy,rfl⟩:=hx;obtain⟨u',e1,e2⟩:=CJ h i y hy;rw[hu]at e1;cases e1;exact h1 _ _ e2
 have lW:∀(i:Nat) (oi:Own),(os.set id ⟨{ o.row with gen:=o.row.gen+1,xs:=[] },none,0,o.more⟩)[i]?=some oi->(i≠id/\os[i]?=some oi)∨(i=id/\oi=⟨{ o.row with gen:=o.row.gen+1,xs:=[] },none,0,o.more⟩):=λi oi hi=>by
  by_cases e:i=id
  ·subst e;rw[fv (fe.1 ho).1,ff]at hi;exact .inr ⟨rfl,hi.symm⟩
  ·rw[gJ (iT e)]at hi;exact .inl ⟨e,hi⟩
 refine⟨by rw[iX,hr.st],λt=>?_,hr.size,λi oi hi=>?_,λi j oi oj b hi hj nD nE=>?_,λb hb=>?_,hr.defers⟩
 ·have:=hr.env t;simp only;generalize s.env t=x at this⊢;cases x with
  | agg cs=>simp only[BJ,Ae]at this⊢;obtain⟨us,e,h⟩:=this;exact⟨us,e,hL _ _ h⟩
  | Dm cs=>simp only[BJ,Ae]at this⊢;obtain⟨us,e,h⟩:=this;exact⟨us,e,hL _ _ h⟩
  | _=>exact h1 _ _ this
 ·rcases lW i oi hi with ⟨lv,h⟩|⟨_,rfl⟩
  ·have nL:=hr.rows i oi h;refine⟨nL.pos,nL.lens,nL.none,λb hb=>?_,λb hb=>⟨λhF=>hF.elim (nL.mo b hb).1 (λns=>lv (hr.inj i id oi o b h ho (.inr hb) (.inl ns))),(nL.mo b hb).2⟩,nL.deep⟩;obtain⟨e1,cur,e2,e3,e4,e5,e6⟩:=nL.some b hb;refine⟨λhF=>hF.elim e1 (λns=>lv (hr.inj i id oi o b h ho (.inl hb) (.inl ns))),cur,e2,e3,e4,e5,λi' x hx j c hc=>?_⟩;obtain⟨u,f1,f2⟩:=e6 i' x hx j c hc;exact⟨u,f1,lY _ _ f2⟩
  ·exact⟨lU.pos,by simp,by simp,by simp,λb hb=>⟨λhF=>hF.elim (lU.mo b hb).1 (lU.mo b hb).2.2,(lU.mo b hb).2.1,by simp⟩,Ef (by simp)⟩
 ·rcases lW i oi hi with ⟨lv,h⟩|⟨h,rfl⟩<;>rcases lW j oj hj with ⟨qz,h'⟩|⟨h',rfl⟩
  ·exact hr.inj i j oi oj b h h' nD nE
  ·exact hr.inj i j oi o b h (h'▸ho) nD (nE.elim (λe=>by simp at e) .inr)
  ·exact hr.inj i j o oj b (h▸ho) h' (nD.elim (λe=>by simp at e) .inr) nE
  ·omega
 ·rcases hb with hb|hb
  ·exact hr.GG b hb
  ·obtain⟨_,cur,lj,_⟩:=lU.some b hb;exact (gk.1 lj).1
def MR (m:Nat):AV->AV
 | .own id g n=>.own (id+m) g n
 | .ptr id g i off=>.ptr (id+m) g i off
 | .fn ..|.agg _|.Dm _=>.E2
 | v=>v
def PL (m:Nat)(x:AV):AV:=two (MR m) x
def shift (m:Nat):AV->AV
 | .fn f cs=>.fn f (cs.map (PL m))
 | .agg cs=>.agg (cs.map (PL m))
 | .Dm cs=>.Dm (cs.map (PL m))
 | v=>PL m v
theorem Xr {mF:List Own}{x:AV}{v:Value}(h:Ae F w mF x v):Ae F w (os++mF) (MR os.length x) v:=by
 have lW:∀id,(os++mF)[id+os.length]?=mF[id]?:=λid=>by rw[fw (by omega)];congr 1;omega
 cases x with
 | own id g n=>simp only[MR,Ae]at h⊢;rw[lW];exact h
 | ptr id g i off=>simp only[MR,Ae]at h⊢;rw[lW];exact h
 | fn f cs=>simp[MR,Ae]
 | agg cs=>simp[MR,Ae]
 | Dm cs=>simp[MR,Ae]
 | _=>simp only[MR,Ae]at h⊢<;>exact h
theorem Sb {mF:List Own}{x:AV}{v:Value}(h:Ae F w mF x v):Ae F w (os++mF) (PL os.length x) v:=
 Kq (λ_ _ h=>Xr h) _ _ h
theorem Nh {mF:List Own}{xs:List AV}{us:List Value}(h:Br F w mF xs us):Br F w (os++mF) (xs.map (PL os.length)) us:=
 DV (by simp[BW h]) λi x u hx hu=>by
  simp only[fg,fp]at hx;obtain⟨y,hy,rfl⟩:=hx;obtain⟨u',e1,e2⟩:=CJ h i y hy;rw[hu]at e1;cases e1;exact Sb e2
theorem Ub {mF:List Own}{x:AV}{v:Value}(h:Ae F w mF x v):Ae F w (os++mF) (shift os.length x) v:=by
 cases x with
 | fn f cs=>simp only[shift,Ae]at h⊢;obtain⟨us,e,hl⟩:=h;exact⟨us,e,Nh hl⟩
 | agg cs=>simp only[shift,Ae]at h⊢;obtain⟨us,e,hl⟩:=h;exact⟨us,e,Nh hl⟩
 | Dm cs=>simp only[shift,Ae]at h⊢;obtain⟨us,e,hl⟩:=h;exact⟨us,e,Nh hl⟩
 | _=>exact Sb h
def Mg:AV->Bool
 | .sl _|.Bc ..|.fn ..|.agg _|.Dm _=>false
 | _=>true
def X9:AV->Bool
 | .agg cs=>cs.all Mg
 | v=>Mg v
def ZQ:AV->Bool
 | .Dm cs=>cs.all X9
 | v=>X9 v
theorem QL {F':Nat->Prop}{x:AV}{v:Value}(hx:Mg x=true)(h:Ae F w os x v):Ae F' w os x v:=by
 cases x<;>simp only[Mg,fh]at hx<;>simp only[Ae]at h⊢<;>exact h
theorem UE {F':Nat->Prop}{x:AV}{v:Value}(hx:X9 x=true)(h:Ae F w os x v):Ae F' w os x v:=by
 cases x with
 | agg cs=>
  simp only[Ae]at h⊢;obtain⟨us,e,hl⟩:=h;refine⟨us,e,DV (BW hl) λi x u oO hu=>?_⟩;obtain⟨u',e1,e2⟩:=CJ hl i x oO;rw[hu]at e1;cases e1;exact QL (fk.1 hx x (fc oO)) e2
 | _=>exact QL hx h
theorem aJ {F':Nat->Prop}{x:AV}{v:Value}(hx:ZQ x=true)(h:Ae F w os x v):Ae F' w os x v:=by
 cases x with
 | Dm cs=>
  simp only[Ae]at h⊢;obtain⟨us,e,hl⟩:=h;refine⟨us,e,DV (BW hl) λi x u oO hu=>?_⟩;obtain⟨u',e1,e2⟩:=CJ hl i x oO;rw[hu]at e1;cases e1;exact UE (fk.1 hx x (fc oO)) e2
 | _=>exact UE hx h
theorem Rel.join {F0 F':Nat->Prop}{w':World}{mF:List Own}{st1:List Row}(hr:Rel F0 os s a w')(hs:G9 F' mF st1 w')(wJ :∀b,F0 b->F' b)(hp :∀row∈st1,Cp row.xs)
  (uq:(∀b,F' b->F0 b)∨∀row∈st1,∀x∈row.xs,∀c∈x,Mg c=true) (mZ :∀(i:Nat) (o:Own),os[i]?=some o->∀b,o.owns b->∀o1:Own,o1∈mF->¬ o1.owns b) :
  Rel F0 (os++mF) { s with st:=s.st++st1 } a w':=by
 have mK:FF os (os++mF):=FF.append os mF;have lY:∀x v,Ae F0 w' os x v->Ae F0 w' (os++mF) x v:=λx v h=>Dc (λ_ h=>h) (λ_ _=>rfl) os _ mK x v h;have lW:∀(i:Nat) (o:Own),(os++mF)[i]?=some o->(i<os.length/\os[i]?=some o)∨(os.length<=i/\mF[i-os.length]?=some o):=λi o h=>by
  by_cases hi:i<os.length
  ·rw[ft hi]at h;exact .inl ⟨hi,h⟩
  ·rw[fw (by omega)]at h;exact .inr ⟨by omega,h⟩
 refine⟨by rw[iD,hr.st,hs.st],λt=>lY _ _ (hr.env t),hr.size,λi o ho=>?_,λi j oi oj b hi hj nD nE=>?_,hr.GG,hr.defers⟩
 ·rcases lW i o ho with ⟨_,h⟩|⟨_,h⟩
  ·have lU:=hr.rows i o h;refine⟨lU.pos,lU.lens,lU.none,λb hb=>?_,lU.mo,lU.deep⟩;obtain⟨e1,cur,e2,e3,e4,e5,e6⟩:=lU.some b hb;exact⟨e1,cur,e2,e3,e4,e5,λi' x hx j c hc=>by obtain⟨u,f1,f2⟩:=e6 i' x hx j c hc;exact⟨u,f1,lY _ _ f2⟩⟩
  ·have lU:=hs.rows _ o h;refine⟨lU.pos,lU.lens,lU.none,λb hb=>?_,λb hb=>⟨λhF=>(lU.mo b hb).1 (wJ b hF),(lU.mo b hb).2⟩,lU.deep⟩;obtain⟨e1,cur,e2,e3,e4,e5,e6⟩:=lU.some b hb;refine⟨λhF=>e1 (wJ b hF),cur,e2,e3,e4,e5,λi' x hx j c hc=>?_⟩;obtain⟨u,f1,f2⟩:=e6 i' x hx j c hc;have lQ:o.row∈st1:=by rw[<- hs.st];exact gC.2 ⟨o,fc h,rfl⟩
   have wh:=hp o.row lQ x (fc hx) c (fc hc);have f3:=WT wh (os++mF) f2;refine⟨u,f1,?_⟩;rcases uq with h1|h1
   ·exact Dc h1 (λ_ _=>rfl) _ _ (FF.refl _) c u f3
   ·exact QL (h1 o.row lQ x (fc hx) c (fc hc)) f3
 ·rcases lW i oi hi with ⟨_,h⟩|⟨_,h⟩<;>rcases lW j oj hj with ⟨_,h'⟩|⟨_,h'⟩
  ·exact hr.inj i j oi oj b h h' nD nE
  ·exact absurd nE (mZ i oi h b nD oj (fc h'))
  ·exact absurd nD (mZ j oj h' b nE oi (fc h))
  ·have:=hs.inj _ _ oi oj b h h' nD nE;omega
theorem Ue {f:FuncId}{args:List AV}{d:Option Tmp}{K:St->Prop}{R:AV->List Row->Prop}(h:Ac P f args [] R)(hf:args.all flat=true)
  (hK :∀r st',R r st'->(∀row∈st',Cp row.xs)/\K ({ s with st:=s.st++st' }.put d (shift s.st.length r))):callThen P k s f args d K:=by
 intro F os a w vs hr hl;refine (h F [] w vs (G9.nil hr.GG) (QU hf [] hl)).mono ?_;rintro e w' ⟨u,r,st',F',mF,rfl,hR,hs,hru,he⟩;obtain⟨hp,hk⟩:=hK r st' hR;obtain⟨h1,h2,_,mZ⟩:=hr.after (k:=k) he hs.GG;refine⟨u,_,s.st++st',F',os++mF,rfl,hk,h1.join hs (λ_ h=>h) hp (.inl λ_ h=>h) mZ,?_,?_⟩
 ·rw[hr.len];exact Ub hru
 ·refine⟨h2.sys,h2.tape,h2.output,h2.size,h2.OF,h2.Ir,λb hb e1 e2=>?_,λi o hi ho=>?_⟩
  ·obtain⟨f1,f2,f3⟩:=he.other b hb e1 (by simp);exact⟨f1,f2,λo ho=>by rcases gS.1 ho with h|h;exact e2 o h;exact f3 o h⟩
  ·exact FF.append os mF i o ho
mutual
def OR:AV->AV
 | .dv _ _ xs=>.sl (Jw xs)
 | c=>c
def Jw:List (List AV)->List (List AV)
 | []=>[]
 | x::r=>Hs x::Jw r
def Hs:List AV->List AV
 | []=>[]
 | c::r=>OR c::Hs r
end
theorem NN:∀x:List AV,Hs x=x.map OR
 | []=>by simp[Hs]
 | c::r=>by simp[Hs,NN r]
theorem Hb:∀xs:List (List AV),Jw xs=xs.map Hs
 | []=>by simp[Jw]
 | x::r=>by simp[Jw,Hb r]
theorem SP {c:AV}(h:simple c=true):OR c=c:=by cases c<;>simp_all [simple,OR]
mutual
theorem SJ {S F:Nat->Prop}{w:World}(hS :∀b,S b->F b):∀(x:AV) (v:Value),EG S w x v->Ae F w [] (OR x) v/\(OR x).leaf=true
 | .dv el size xs,v,h=>by
  simp only[EG]at h;obtain⟨hp,h⟩:=h;simp only[OR,Ae,AV.leaf,and_true];rcases h with ⟨rfl,a,rfl⟩|⟨b,cap,cur,rfl,h2,h3,h4,h5,h6,h7,h8⟩
  ·exact⟨a,0,by simp[Jw],by simp[Jw],by simp[Jw]⟩
  ·refine⟨_,cap,by simp[Hb],by simpa [Hb] using h2,λ_=>⟨b,0,size,rfl,hS b h4,λx hx=>?_,Tq (S:=λc=>S c/\c≠b) (λc hc=>hS c hc.1) h5 xs 0 h8⟩⟩;rw[Hb]at hx;obtain⟨y,hy,rfl⟩:=gC.1 hx;rw[NN,gI];exact h7 y hy
 | .int _ _,_,h=>by simpa [EG,OR,Ae,AV.leaf] using h
 | .bool _,_,h=>by simpa [EG,OR,Ae,AV.leaf] using h
 | .str _,_,h=>by simpa [EG,OR,Ae,AV.leaf] using h
 | .zc,_,h=>by simpa [EG,OR,Ae,AV.leaf] using h
 | .P2,_,h=>by simpa [EG,OR,Ae,AV.leaf] using h
 | .Px,_,h=>by simpa [EG,OR,Ae,AV.leaf] using h
 | .E2,_,h=>by simp[EG]at h
 | .un,_,h=>by simp[EG]at h
 | .sl _,_,h=>by simp[EG]at h
 | .own ..,_,h=>by simp[EG]at h
 | .ptr ..,_,h=>by simp[EG]at h
 | .Bc ..,_,h=>by simp[EG]at h
 | .fn ..,_,h=>by simp[EG]at h
 | .agg _,_,h=>by simp[EG]at h
 | .Dm _,_,h=>by simp[EG]at h
theorem Tq {S F:Nat->Prop}{w:World}(hS :∀b,S b->F b){b:Nat}{cur:Array Value}{el:TypeId}(lj:w.heap[b]?=some (.cells cur el (0,0))):∀(xs:List (List AV)) (o:Nat),KV S w xs cur o->HA F w (Jw xs) b o
 | [],_,_=>by simp[Jw,HA]
 | x::r,o,h=>by
  simp only[KV]at h;simp only[Jw,HA];obtain⟨S1,S2,h1,h2,_,h4,h5⟩:=h;have hl:(Hs x).length=x.length:=by rw[NN,gI]
  rw[hl];exact⟨Ud (λc hc=>hS c (h1 c hc)) lj x o h4,Tq (λc hc=>hS c (h2 c hc)) lj r _ h5⟩
theorem Ud {S F:Nat->Prop}{w:World}(hS :∀b,S b->F b){b:Nat}{cur:Array Value}{el:TypeId}(lj:w.heap[b]?=some (.cells cur el (0,0))):∀(xs:List AV) (o:Nat),KI S w xs cur o->E6 F w (Hs xs) b o
 | [],_,_=>by simp[Hs,E6]
 | x::r,o,h=>by
  simp only[KI]at h;simp only[Hs,E6];obtain⟨S1,S2,h1,h2,_,⟨u,h4,h5⟩,h6⟩:=h;obtain⟨g1,g2⟩:=SJ (λc hc=>hS c (h1 c hc)) x u h5;exact⟨⟨u,by rw[jf w b _ cur _ _ lj];exact h4,g2,g1⟩,Ud (λc hc=>hS c (h2 c hc)) lj r _ h6⟩
end
def RW (st:List Row):AV->AV
 | .own id g n=>match st[id]? with
  | some row=>if row.gen=g then .sl (Jw (row.xs.drop (row.xs.length-n))) else .E2
  | none=>.E2
 | v=>v
def G4 (st:List Row):AV->AV
 | .agg cs=>.agg (cs.map (RW st))
 | v=>RW st v
def PI (args:List AV)(id g n:Nat):Prop:=AV.own id g n∈args∨∃cs,AV.agg cs∈args/\AV.own id g n∈cs
def Qu (F:Nat->Prop)(os:List Own)(args:List AV)(b:Nat):Prop:=F b∨∃id g n o,PI args id g n/\os[id]?=some o/\o.owns b
theorem Zd (hr:Rel F os s a w){F1:Nat->Prop}(rr :∀b,F b->F1 b){id g n:Nat}{o:Own}(ho:os[id]?=some o)(hl :∀b,o.owns b->F1 b)(rb:Cp o.row.xs){u:Value}
  (e2:Ae F w os (.own id g n) u) (hg:o.row.gen=g):Ae F1 w os (.sl (Jw (o.row.xs.drop (o.row.xs.length-n)))) u:=by
 have lU:=hr.rows id o ho;have hm:∀x v,Ae F w os x v->Ae F1 w os x v:=λx v h=>Dc rr (λ_ _=>rfl) os os (FF.refl os) x v h;simp only[Ae]at e2⊢;obtain⟨o',lz,_,_,e2⟩:=e2;rw[ho]at lz;cases lz;obtain⟨hn,hv⟩:=e2 hg;have hlen:(Jw (o.row.xs.drop (o.row.xs.length-n))).length=n:=by simp[Hb];omega
 rcases hv with ⟨hb,ad,rfl⟩|⟨b,hb,rfl⟩
 ·have:=(lU.none hb).1;rw[this]at hn;simp only[iM,kD]at hn;subst hn;exact⟨ad,0,by simp[Hb],by simp[Hb],by simp[Hb]⟩
 ·obtain⟨_,cur,lj,lr,hle,_,lk⟩:=lU.some b hb;have zH:∀x∈Jw (o.row.xs.drop (o.row.xs.length-n)),x.length=o.row.size:=λx hx=>by
   rw[Hb]at hx;obtain⟨y,hy,rfl⟩:=gC.1 hx;rw[NN,gI];exact (lU.lens y (iL hy)).1
  refine⟨_,o.cap-(o.row.xs.length-n),by rw[hlen],by rw[hlen];omega,λ_=>⟨b,(o.row.xs.length-n)*o.row.size,o.row.size,rfl,hl b (.inl hb),zH,?_⟩⟩;refine Ko zH λi x hx=>Jy λj c hc=>?_;rw[Hb,fg,fp]at hx;obtain⟨x0,hx0,rfl⟩:=hx;rw[NN,fg,fp]at hc;obtain⟨c0,nO,rfl⟩:=hc;rw[gh]at hx0
  ·have hsi:=rb x0 (fc hx0) c0 (fc nO);have hk:=(lU.lens x0 (fc hx0)).2 c0 (fc nO);by_cases hd :∃el sz ys,c0=.dv el sz ys
   ·obtain⟨el,sz,ys,rfl⟩:=hd;obtain⟨D,d1,_,d3⟩:=lU.deep;obtain⟨u,f1,f2⟩:=d3 b hb cur _ _ lj _ x0 j el sz ys hx0 nO;obtain⟨g1,g2⟩:=SJ (F:=F1) (λc hc=>hl c (.inr (d1 _ _ _ hc))) _ u f2;exact⟨u,by rw[jf w b _ cur _ _ lj,<- gU];exact f1,g2,g1⟩
   ·have hs:simple c0=true:=by cases c0<;>simp_all [EY]
    rw[SP hs];obtain⟨u,f1,f2⟩:=lk _ x0 hx0 j c0 nO;refine⟨u,?_,by cases c0<;>simp_all [AV.kept],FW hs [] (hm _ _ f2)⟩;rw[jf w b _ cur _ _ lj,<- gU];exact f1
theorem X4 (hr:Rel F os s a w){args:List AV}{vs:List Value}(hl:Br F w os args vs)(pV :∀id g n,PI args id g n->∀row,s.st[id]?=some row->Cp row.xs):
  Br (Qu F os args) w os (args.map (G4 s.st)) vs:=by
 have rr:∀b,F b->Qu F os args b:=λ_ h=>.inl h;have hm:∀x v,Ae F w os x v->Ae (Qu F os args) w os x v:=λx v h=>Dc rr (λ_ _=>rfl) os os (FF.refl os) x v h;have h0:∀y u,(∀id g n,y=AV.own id g n->PI args id g n)->Ae F w os y u->Ae (Qu F os args) w os (RW s.st y) u:=λy u mX e2=>by
  cases y with
  | own id g n=>
   simp only[RW];split
   ·rename_i row lQ;split
    ·rename_i hg;obtain⟨o,ho,rfl⟩:=hr.row lQ;exact Zd hr rr ho (λb hb=>.inr ⟨id,g,n,o,mX id g n rfl,ho,hb⟩) (pV id g n (mX id g n rfl) o.row lQ) e2 hg
    ·simp[Ae]
   ·simp[Ae]
  | _=>exact hm _ _ e2
 refine DV (by simp[BW hl]) λi x u hx hu=>?_;simp only[fg,fp]at hx;obtain⟨y,hy,rfl⟩:=hx;obtain⟨u',e1,e2⟩:=CJ hl i y hy;rw[hu]at e1;cases e1;have zI:=fc hy;cases y with
 | agg cs=>
  simp only[G4,Ae]at e2⊢;obtain⟨us,e,nP⟩:=e2;refine⟨us,e,DV (by simp[BW nP]) λj x u hx hu=>?_⟩;simp only[fg,fp]at hx;obtain⟨y,hy,rfl⟩:=hx;obtain⟨u',e1,e2⟩:=CJ nP j y hy;rw[hu]at e1;cases e1;exact h0 y u (λid g n e=>.inr ⟨cs,zI,e▸fc hy⟩) e2
 | own id g n=>exact h0 _ u (λmG g' n' e=>.inl (e▸zI)) e2
 | _=>exact hm _ _ e2
theorem WS {P:Program}{s:St}{f:FuncId}{args:List AV}{R:AV->List Row->Prop}{k:Nat}(h:Ac P f (args.map (G4 s.st)) [] R)(hf:(args.map (G4 s.st)).all flat=true)
  (pV :∀id g n,PI args id g n->∀row,s.st[id]?=some row->Cp row.xs) {F:Nat->Prop} {os:List Own} {a:Act} {w:World} {vs:List Value} (hr:Rel F os s a w) (hl:Br F w os args vs) :
  Calls P f vs.toArray w λe w'=>∃u r st' F' mF,e=.returned u/\R r st'/\Rel F os s a w'/\G9 F' mF st' w'/\Ae F' w' mF r u/\(∀b,F b->F' b)/\Ext F os w F os w' k/\
   (∀(i:Nat) (o:Own),os[i]?=some o->∀b,o.owns b->∀o1:Own,o1∈mF->¬ o1.owns b)/\∀b,b<w.heap.size->¬ F b->(∀o:Own,o∈os->¬ o.owns b)->∀o1:Own,o1∈mF->¬ o1.owns b:=by
 have rr:∀b,F b->Qu F os args b:=λ_ h=>.inl h;have lh:∀(i:Nat) (o:Own) b,os[i]?=some o->o.owns b->b<w.heap.size:=λi o b hi hb=>(hr.rows i o hi).lt hb;have uu:∀b,Qu F os args b->b<w.heap.size:=λb hb=>by
  rcases hb with hb|⟨id,g,n,o,_,ho,ns⟩
  ·exact hr.GG b hb
  ·exact lh id o b ho ns
 have oc:=X4 hr hl pV;refine (h (Qu F os args) [] w vs (G9.nil uu) (QU hf [] oc)).mono ?_;rintro e w' ⟨u,r,st',F',mF,rfl,hR,hs,hru,he⟩;have lQ:∀(i:Nat) (o:Own),os[i]?=some o->∀b,o.owns b->w'.heap[b]?=w.heap[b]?/\∀o1:Own,o1∈mF->¬ o1.owns b:=λi o ho b hb=>by
  by_cases h1:Qu F os args b
  ·refine⟨he.Ir b h1,λo1 uw e=>?_⟩;obtain⟨j,hj⟩:=gG.1 uw;exact (hs.rows j o1 hj).nF e (he.OF b h1)
  ·obtain⟨f1,_,f3⟩:=he.other b (lh i o b ho hb) h1 (by simp);exact⟨f1,f3⟩
 have lY:∀x v,Ae F w os x v->Ae F w' os x v:=λx v h=>Dc (λ_ h=>h) (λb hb=>he.Ir b (rr b hb)) os os (FF.refl os) x v h;have mc:Rel F os s a w':=⟨hr.st,λt=>lY _ _ (hr.env t),hr.size,λi o ho=>by
   have lU:=hr.rows i o ho;refine⟨lU.pos,lU.lens,lU.none,λb hb=>?_,λb hb=>⟨(lU.mo b hb).1,iG (lU.mo b hb).2.1 he.size,(lU.mo b hb).2.2⟩,lU.deep.keep rfl (λ_ h=>h) rfl (λb hb=>(lQ i o ho b hb).1) (λi x j e s ys hx hc=>⟨x,hx,hc⟩)⟩;obtain⟨e1,cur,e2,e3,e4,e5,e6⟩:=lU.some b hb;exact⟨e1,cur,by rw[(lQ i o ho b (.inl hb)).1];exact e2,e3,e4,e5,λi' x hx j c hc=>by obtain⟨u,f1,f2⟩:=e6 i' x hx j c hc;exact⟨u,f1,lY _ _ f2⟩⟩,
  hr.inj,λb hb=>iG (hr.GG b hb) he.size,hr.defers⟩
 have ov:∀b,b<w.heap.size->¬ F b->(∀o:Own,o∈os->¬ o.owns b)->w'.heap[b]?=w.heap[b]?/\∀o1:Own,o1∈mF->¬ o1.owns b:=λb hb e1 e2=>by
  have wm:¬ Qu F os args b:=λh=>h.elim e1 (λ⟨id,g,n,o,_,ho,ns⟩=>e2 o (fc ho) ns);obtain⟨f1,_,f3⟩:=he.other b hb wm (by simp);exact⟨f1,f3⟩
 exact⟨u,r,st',F',mF,rfl,hR,mc,hs,hru,λb hb=>he.OF b (rr b hb),
  ⟨he.sys,he.tape,he.output,he.size,λ_ h=>h,λb hb=>he.Ir b (rr b hb),λb hb e1 e2=>⟨(ov b hb e1 e2).1,e1,e2⟩,λi o _ ho=>⟨o,ho,gA _,rfl,λ_=>⟨rfl,rfl,rfl⟩⟩⟩,
  λi o ho b hb=>(lQ i o ho b hb).2,λb hb e1 e2=>(ov b hb e1 e2).2⟩
theorem Mx {f:FuncId}{args:List AV}{d:Option Tmp}{K:St->Prop}{R:AV->List Row->Prop}(h:Ac P f (args.map (G4 s.st)) [] R)(hf:(args.map (G4 s.st)).all flat=true)
  (pV :∀id g n,PI args id g n->∀row,s.st[id]?=some row->Cp row.xs)
  (hK :∀r st',R r st'->(ZQ r=true/\∀row∈st',∀x∈row.xs,∀c∈x,Mg c=true)/\(∀row∈st',Cp row.xs)/\K ({ s with st:=s.st++st' }.put d (shift s.st.length r))):callThen P k s f args d K:=by
 intro F os a w vs hr hl;refine (WS (k:=k) h hf pV hr hl).mono ?_;rintro e w' ⟨u,r,st',F',mF,rfl,hR,mc,hs,hru,wJ,he,mZ,ov⟩;obtain⟨⟨hsr,ru⟩,hp,hk⟩:=hK r st' hR;refine⟨u,_,s.st++st',F,os++mF,rfl,hk,mc.join hs wJ hp (.inr ru) mZ,?_,?_⟩
 ·rw[hr.len];exact Ub (aJ hsr hru)
 ·refine⟨he.sys,he.tape,he.output,he.size,λ_ h=>h,he.Ir,λb hb e1 e2=>?_,λi o hi ho=>FF.append os mF i o ho⟩;obtain⟨f1,_,_⟩:=he.other b hb e1 e2;exact⟨f1,e1,λo ho=>by rcases gS.1 ho with h|h;exact e2 o h;exact ov b hb e1 e2 o h⟩
end Go.Abs
