import Derived.Test.YtccficmcdkcpnaaGreatAbsK
set_option linter.all false
namespace Go.Abs
open Go
variable {P : Program} {F : Nat -> Prop} {os : List Own} {s : St} {a : Act} {w : World} {k : Nat}
def Gs (id g:Nat)(xs:List (List AV)):AV->AV
 | .own vr g' n=>if vr=id/\g'=g then .sl (xs.drop (xs.length-n)) else .own vr g' n
 | .ptr vr g' i off=>if vr=id/\g'=g then (match xs[i]? with|some x=>.CT x off|none=>.FZ) else .ptr vr g' i off
 | v=>v
def Bg (id g:Nat)(xs:List (List AV)):AV->AV
 | .agg cs=>.agg (cs.map (Gs id g xs))
 | .Dv cs=>.Dv (cs.map (Gs id g xs))
 | v=>Gs id g xs v
def D0 (xs:List (List AV)):Prop:=∀x∈xs,∀c∈x,simple c=true
def DO (xs:List (List AV)):Prop:=∀x∈xs,∀c∈x,Ey c=true
theorem D0.any {xs:List (List AV)}(h:D0 xs):DO xs:=λx hx c hc=>RK (h x hx c hc)
theorem Wk.freeze {id:Nat}{row:Row}(yV:k<=id)(uj:s.st[id]?=some row)(hp:D0 row.xs):
  Wk k s ⟨s.n,λt=>Bg id row.gen row.xs (s.env t),s.st.set id { row with gen:=row.gen+1,xs:=[] }⟩:=λF os a w hr=>by
 obtain⟨o,ho,rfl⟩:=hr.row uj;have vF:=hr.rows id o ho;have yP:∀x∈o.row.xs,∀c∈x,c.leaf=true:=λx hx c hc=>by
  have h1:=hp x hx c hc;have h2:=(vF.lens x hx).2 c hc;cases c<;>simp_all [simple,AV.leaf,AV.kept]
 refine⟨λb=>F b∨o.GB=some b,os.set id ⟨{ o.row with gen:=o.row.gen+1,xs:=[] },none,0,o.more⟩,?_,?_⟩
 case refine_2=>
  refine⟨rfl,rfl,rfl,qU _,λ_ h=>.inl h,λ_ _=>rfl,λb _ h1 h2=>⟨rfl,λh=>h.elim h1 (λe=>h2 o (pt ho) (.inl e)),λo' vc=>?_⟩,λi oi hi xm=>⟨oi,?_,qU _,rfl,λ_=>⟨rfl,rfl,rfl⟩⟩⟩
  ·rcases rB vc with h|rfl
   ·exact h2 o' h
   ·intro hh;rcases hh with hh|hh
    ·simp at hh
    ·exact h2 o (pt ho) (.inr hh)
  ·rw[qZ (by omega)];exact xm
 have hF:∀b,F b->(λb=>F b∨o.GB=some b) b:=λ_ h=>.inl h;have vq:F8 os (os.set id ⟨{ o.row with gen:=o.row.gen+1,xs:=[] },none,0,o.more⟩):=F8.set ho (by simp) rfl (λe=>by simp at e);have vL:∀x v,Ac F w os x v->Ac (λb=>F b∨o.GB=some b) w (os.set id ⟨{ o.row with gen:=o.row.gen+1,xs:=[] },none,0,o.more⟩) x v:=λx v h=>
  Ds hF (λ_ _=>rfl) os _ vq x v h
 have vn:∀x∈o.row.xs,∀c∈x,∀u,Ac F w os c u->Ac (λb=>F b∨o.GB=some b) w [] c u:=λx hx c hc u hu=>
  Ds hF (λ_ _=>rfl) [] [] (by simp) c u (Fu (hp x hx c hc) [] hu)
 have h1:∀x v,Ac F w os x v->Ac (λb=>F b∨o.GB=some b) w (os.set id ⟨{ o.row with gen:=o.row.gen+1,xs:=[] },none,0,o.more⟩) (Gs id o.row.gen o.row.xs x) v:=λx v h=>by
  cases x with
  | own vr g' n=>
   simp only[Gs];split
   ·rename_i hif;obtain⟨rfl,rfl⟩:=hif;simp only[Ac]at h⊢;obtain⟨o',vc,_,_,h⟩:=h;rw[ho]at vc;cases vc;obtain⟨hn,hv⟩:=h rfl;have hlen:(o.row.xs.drop (o.row.xs.length-n)).length=n:=by simp;omega
    rcases hv with ⟨hb,ad,rfl⟩|⟨b,hb,rfl⟩
    ·have:=(vF.none hb).1;rw[this]at hn;simp only[qt,tY]at hn;subst hn;exact⟨ad,0,by simp,by simp,by simp⟩
    ·obtain⟨_,cur,vU,vY,hle,_,vR⟩:=vF.some b hb;refine⟨_,o.cap-(o.row.xs.length-n),by rw[hlen],by rw[hlen];omega,λ_=>⟨b,(o.row.xs.length-n)*o.row.size,o.row.size,rfl,.inr hb,λx hx=>(vF.lens x (re hx)).1,?_⟩⟩;refine L8 (λx hx=>(vF.lens x (re hx)).1) λi x hx=>LG λj c hc=>?_;have zG:=pt hx;rw[qy]at hx;obtain⟨u,e1,e2⟩:=vR _ x hx j c hc;refine⟨u,?_,yP x (pt hx) c (pt hc),vn x (pt hx) c (pt hc) u e2⟩;rw[sb w b _ cur _ _ vU];rw[<- qn];exact e1
   ·exact vL _ _ h
  | ptr vr g' i off=>
   simp only[Gs];split
   ·rename_i hif;obtain⟨rfl,rfl⟩:=hif;simp only[Ac]at h;obtain⟨o',vc,_,_,h⟩:=h;rw[ho]at vc;cases vc;obtain⟨hi,_,b,hb,rfl⟩:=h rfl;rw[qD hi];obtain⟨_,cur,vU,vY,hle,_,vR⟩:=vF.some b hb;simp only[Ac];refine⟨b,i*o.row.size,rfl,.inr hb,LG λj c hc=>?_⟩;have hm:=sR hi;obtain⟨u,e1,e2⟩:=vR i _ (qD hi) j c hc;refine⟨u,?_,yP _ hm c (pt hc),vn _ hm c (pt hc) u e2⟩;rw[sb w b _ cur _ _ vU];exact e1
   ·exact vL _ _ h
  | _=>exact vL _ _ h
 have hL:∀xs us,Bw F w os xs us->Bw (λb=>F b∨o.GB=some b) w (os.set id ⟨{ o.row with gen:=o.row.gen+1,xs:=[] },none,0,o.more⟩) (xs.map (Gs id o.row.gen o.row.xs)) us:=λxs us h=>
  Df (by simp[BW h]) λi x u hx hu=>by
   simp only[qA,qB]at hx;obtain⟨y,hy,rfl⟩:=hx;obtain⟨u',e1,e2⟩:=CJ h i y hy;rw[hu]at e1;cases e1;exact h1 _ _ e2
 have vJ:∀(i:Nat) (oi:Own),(os.set id ⟨{ o.row with gen:=o.row.gen+1,xs:=[] },none,0,o.more⟩)[i]?=some oi->(i≠id/\os[i]?=some oi)∨(i=id/\oi=⟨{ o.row with gen:=o.row.gen+1,xs:=[] },none,0,o.more⟩):=λi oi hi=>by
  by_cases e:i=id
  ·subst e;rw[qI (px.1 ho).1,pz]at hi;exact .inr ⟨rfl,hi.symm⟩
  ·rw[qZ (rX e)]at hi;exact .inl ⟨e,hi⟩
 refine⟨by rw[rh,hr.st],λt=>?_,hr.size,λi oi hi=>?_,λi j oi oj b hi hj wP xC=>?_,λb hb=>?_,hr.defers⟩
 ·have:=hr.env t;simp only;generalize s.env t=x at this⊢;cases x with
  | agg cs=>simp only[Bg,Ac]at this⊢;obtain⟨us,e,h⟩:=this;exact⟨us,e,hL _ _ h⟩
  | Dv cs=>simp only[Bg,Ac]at this⊢;obtain⟨us,e,h⟩:=this;exact⟨us,e,hL _ _ h⟩
  | _=>exact h1 _ _ this
 ·rcases vJ i oi hi with ⟨vZ,h⟩|⟨_,rfl⟩
  ·have xJ:=hr.rows i oi h;refine⟨xJ.pos,xJ.lens,xJ.none,λb hb=>?_,λb hb=>⟨λhF=>hF.elim (xJ.mo b hb).1 (λxp=>vZ (hr.inj i id oi o b h ho (.inr hb) (.inl xp))),(xJ.mo b hb).2⟩,xJ.deep⟩;obtain⟨e1,cur,e2,e3,e4,e5,e6⟩:=xJ.some b hb;refine⟨λhF=>hF.elim e1 (λxp=>vZ (hr.inj i id oi o b h ho (.inl hb) (.inl xp))),cur,e2,e3,e4,e5,λi' x hx j c hc=>?_⟩;obtain⟨u,f1,f2⟩:=e6 i' x hx j c hc;exact⟨u,f1,vL _ _ f2⟩
  ·exact⟨vF.pos,by simp,by simp,by simp,λb hb=>⟨λhF=>hF.elim (vF.mo b hb).1 (vF.mo b hb).2.2,(vF.mo b hb).2.1,by simp⟩,E7 (by simp)⟩
 ·rcases vJ i oi hi with ⟨vZ,h⟩|⟨h,rfl⟩<;>rcases vJ j oj hj with ⟨hne',h'⟩|⟨h',rfl⟩
  ·exact hr.inj i j oi oj b h h' wP xC
  ·exact hr.inj i j oi o b h (h'▸ho) wP (xC.elim (λe=>by simp at e) .inr)
  ·exact hr.inj i j o oj b (h▸ho) h' (wP.elim (λe=>by simp at e) .inr) xC
  ·omega
 ·rcases hb with hb|hb
  ·exact hr.HO b hb
  ·obtain⟨_,cur,vU,_⟩:=vF.some b hb;exact (qv.1 vU).1
def PH (m:Nat):AV->AV
 | .own id g n=>.own (id+m) g n
 | .ptr id g i off=>.ptr (id+m) g i off
 | .fn ..|.agg _|.Dv _=>.FZ
 | v=>v
def Sr (m:Nat)(x:AV):AV:=two (PH m) x
def shift (m:Nat):AV->AV
 | .fn f cs=>.fn f (cs.map (Sr m))
 | .agg cs=>.agg (cs.map (Sr m))
 | .Dv cs=>.Dv (cs.map (Sr m))
 | v=>Sr m v
theorem dO {vo:List Own}{x:AV}{v:Value}(h:Ac F w vo x v):Ac F w (os++vo) (PH os.length x) v:=by
 have vJ:∀id,(os++vo)[id+os.length]?=vo[id]?:=λid=>by rw[qS (by omega)];congr 1;omega
 cases x with
 | own id g n=>simp only[PH,Ac]at h⊢;rw[vJ];exact h
 | ptr id g i off=>simp only[PH,Ac]at h⊢;rw[vJ];exact h
 | fn f cs=>simp[PH,Ac]
 | agg cs=>simp[PH,Ac]
 | Dv cs=>simp[PH,Ac]
 | _=>simp only[PH,Ac]at h⊢<;>exact h
theorem V1 {vo:List Own}{x:AV}{v:Value}(h:Ac F w vo x v):Ac F w (os++vo) (Sr os.length x) v:=
 Ng (λ_ _ h=>dO h) _ _ h
theorem Q6 {vo:List Own}{xs:List AV}{us:List Value}(h:Bw F w vo xs us):Bw F w (os++vo) (xs.map (Sr os.length)) us:=
 Df (by simp[BW h]) λi x u hx hu=>by
  simp only[qA,qB]at hx;obtain⟨y,hy,rfl⟩:=hx;obtain⟨u',e1,e2⟩:=CJ h i y hy;rw[hu]at e1;cases e1;exact V1 e2
theorem XE {vo:List Own}{x:AV}{v:Value}(h:Ac F w vo x v):Ac F w (os++vo) (shift os.length x) v:=by
 cases x with
 | fn f cs=>simp only[shift,Ac]at h⊢;obtain⟨us,e,hl⟩:=h;exact⟨us,e,Q6 hl⟩
 | agg cs=>simp only[shift,Ac]at h⊢;obtain⟨us,e,hl⟩:=h;exact⟨us,e,Q6 hl⟩
 | Dv cs=>simp only[shift,Ac]at h⊢;obtain⟨us,e,hl⟩:=h;exact⟨us,e,Q6 hl⟩
 | _=>exact V1 h
def Pj:AV->Bool
 | .sl _|.CT ..|.fn ..|.agg _|.Dv _|.bd ..=>false
 | _=>true
def eb:AV->Bool
 | .agg cs=>cs.all Pj
 | v=>Pj v
def gH:AV->Bool
 | .Dv cs=>cs.all eb
 | v=>eb v
theorem Tk {F':Nat->Prop}{x:AV}{v:Value}(hx:Pj x=true)(h:Ac F w os x v):Ac F' w os x v:=by
 cases x<;>simp only[Pj,py]at hx<;>simp only[Ac]at h⊢<;>exact h
theorem Xn {F':Nat->Prop}{x:AV}{v:Value}(hx:eb x=true)(h:Ac F w os x v):Ac F' w os x v:=by
 cases x with
 | agg cs=>
  simp only[Ac]at h⊢;obtain⟨us,e,hl⟩:=h;refine⟨us,e,Df (BW hl) λi x u ym hu=>?_⟩;obtain⟨u',e1,e2⟩:=CJ hl i x ym;rw[hu]at e1;cases e1;exact Tk (qC.1 hx x (pt ym)) e2
 | _=>exact Tk hx h
theorem iB {F':Nat->Prop}{x:AV}{v:Value}(hx:gH x=true)(h:Ac F w os x v):Ac F' w os x v:=by
 cases x with
 | Dv cs=>
  simp only[Ac]at h⊢;obtain⟨us,e,hl⟩:=h;refine⟨us,e,Df (BW hl) λi x u ym hu=>?_⟩;obtain⟨u',e1,e2⟩:=CJ hl i x ym;rw[hu]at e1;cases e1;exact Xn (qC.1 hx x (pt ym)) e2
 | _=>exact Xn hx h
theorem Rel.join {F0 F':Nat->Prop}{w':World}{vo:List Own}{st1:List Row}(hr:Rel F0 os s a w')(hs:IY F' vo st1 w')(hFF :∀b,F0 b->F' b)(hp :∀row∈st1,DO row.xs)
  (hscal:(∀b,F' b->F0 b)∨∀row∈st1,∀x∈row.xs,∀c∈x,Pj c=true) (wq :∀(i:Nat) (o:Own),os[i]?=some o->∀b,o.owns b->∀o1:Own,o1∈vo->¬ o1.owns b) :
  Rel F0 (os++vo) { s with st:=s.st++st1 } a w':=by
 have vq:F8 os (os++vo):=F8.append os vo;have vL:∀x v,Ac F0 w' os x v->Ac F0 w' (os++vo) x v:=λx v h=>Ds (λ_ h=>h) (λ_ _=>rfl) os _ vq x v h;have vJ:∀(i:Nat) (o:Own),(os++vo)[i]?=some o->(i<os.length/\os[i]?=some o)∨(os.length<=i/\vo[i-os.length]?=some o):=λi o h=>by
  by_cases hi:i<os.length
  ·rw[qK hi]at h;exact .inl ⟨hi,h⟩
  ·rw[qS (by omega)]at h;exact .inr ⟨by omega,h⟩
 refine⟨by rw[rM,hr.st,hs.st],λt=>vL _ _ (hr.env t),hr.size,λi o ho=>?_,λi j oi oj b hi hj wP xC=>?_,hr.HO,hr.defers⟩
 ·rcases vJ i o ho with ⟨_,h⟩|⟨_,h⟩
  ·have vF:=hr.rows i o h;refine⟨vF.pos,vF.lens,vF.none,λb hb=>?_,vF.mo,vF.deep⟩;obtain⟨e1,cur,e2,e3,e4,e5,e6⟩:=vF.some b hb;exact⟨e1,cur,e2,e3,e4,e5,λi' x hx j c hc=>by obtain⟨u,f1,f2⟩:=e6 i' x hx j c hc;exact⟨u,f1,vL _ _ f2⟩⟩
  ·have vF:=hs.rows _ o h;refine⟨vF.pos,vF.lens,vF.none,λb hb=>?_,λb hb=>⟨λhF=>(vF.mo b hb).1 (hFF b hF),(vF.mo b hb).2⟩,vF.deep⟩;obtain⟨e1,cur,e2,e3,e4,e5,e6⟩:=vF.some b hb;refine⟨λhF=>e1 (hFF b hF),cur,e2,e3,e4,e5,λi' x hx j c hc=>?_⟩;obtain⟨u,f1,f2⟩:=e6 i' x hx j c hc;have uj:o.row∈st1:=by rw[<- hs.st];exact qT.2 ⟨o,pt h,rfl⟩
   have hsim:=hp o.row uj x (pt hx) c (pt hc);have f3:=al hsim (os++vo) f2;refine⟨u,f1,?_⟩;rcases hscal with h1|h1
   ·exact Ds h1 (λ_ _=>rfl) _ _ (F8.refl _) c u f3
   ·exact Tk (h1 o.row uj x (pt hx) c (pt hc)) f3
 ·rcases vJ i oi hi with ⟨_,h⟩|⟨_,h⟩<;>rcases vJ j oj hj with ⟨_,h'⟩|⟨_,h'⟩
  ·exact hr.inj i j oi oj b h h' wP xC
  ·exact absurd xC (wq i oi h b wP oj (pt h'))
  ·exact absurd wP (wq j oj h' b xC oi (pt h))
  ·have:=hs.inj _ _ oi oj b h h' wP xC;omega
theorem YC {f:FuncId}{args:List AV}{d:Option Tmp}{K:St->Prop}{R:AV->List Row->Prop}(h:BS P f args [] R)(hf:args.all flat=true)
  (hK :∀r st',R r st'->(∀row∈st',DO row.xs)/\K ({ s with st:=s.st++st' }.put d (shift s.st.length r))):callThen P k s f args d K:=by
 intro F os a w vs hr hl;refine (h F [] w vs (IY.nil hr.HO) (Te hf [] hl)).mono ?_;rintro e w' ⟨u,r,st',F',vo,rfl,hR,hs,hru,he⟩;obtain⟨hp,hk⟩:=hK r st' hR;obtain⟨h1,h2,_,wq⟩:=hr.after (k:=k) he hs.HO;refine⟨u,_,s.st++st',F',os++vo,rfl,hk,h1.join hs (λ_ h=>h) hp (.inl λ_ h=>h) wq,?_,?_⟩
 ·rw[hr.len];exact XE hru
 ·refine⟨h2.sys,h2.tape,h2.output,h2.size,h2.RI,h2.KX,λb hb e1 e2=>?_,λi o hi ho=>?_⟩
  ·obtain⟨f1,f2,f3⟩:=he.other b hb e1 (by simp);exact⟨f1,f2,λo ho=>by rcases qb.1 ho with h|h;exact e2 o h;exact f3 o h⟩
  ·exact F8.append os vo i o ho
mutual
def TI:AV->AV
 | .dv _ _ xs=>.sl (NQ xs)
 | c=>c
def NQ:List (List AV)->List (List AV)
 | []=>[]
 | x::r=>LI x::NQ r
def LI:List AV->List AV
 | []=>[]
 | c::r=>TI c::LI r
end
theorem QH:∀x:List AV,LI x=x.map TI
 | []=>by simp[LI]
 | c::r=>by simp[LI,QH r]
theorem JD:∀xs:List (List AV),NQ xs=xs.map LI
 | []=>by simp[NQ]
 | x::r=>by simp[NQ,JD r]
theorem Vz {c:AV}(h:simple c=true):TI c=c:=by cases c<;>simp_all [simple,TI]
mutual
theorem VW {S F:Nat->Prop}{w:World}(hS :∀b,S b->F b):∀(x:AV) (v:Value),FQ S w x v->Ac F w [] (TI x) v/\(TI x).leaf=true
 | .dv el size xs,v,h=>by
  simp only[FQ]at h;obtain⟨hp,h⟩:=h;simp only[TI,Ac,AV.leaf,and_true];rcases h with ⟨rfl,a,rfl⟩|⟨b,cap,cur,rfl,h2,h3,h4,h5,h6,h7,h8⟩
  ·exact⟨a,0,by simp[NQ],by simp[NQ],by simp[NQ]⟩
  ·refine⟨_,cap,by simp[JD],by simpa [JD] using h2,λ_=>⟨b,0,size,rfl,hS b h4,λx hx=>?_,XR (S:=λc=>S c/\c≠b) (λc hc=>hS c hc.1) h5 xs 0 h8⟩⟩;rw[JD]at hx;obtain⟨y,hy,rfl⟩:=qT.1 hx;rw[QH,qc];exact h7 y hy
 | .int _ _,_,h=>by simpa [FQ,TI,Ac,AV.leaf] using h
 | .bool _,_,h=>by simpa [FQ,TI,Ac,AV.leaf] using h
 | .str _,_,h=>by simpa [FQ,TI,Ac,AV.leaf] using h
 | .zc,_,h=>by simpa [FQ,TI,Ac,AV.leaf] using h
 | .R3,_,h=>by simpa [FQ,TI,Ac,AV.leaf] using h
 | .Rl,_,h=>by simpa [FQ,TI,Ac,AV.leaf] using h
 | .FZ,_,h=>by simp[FQ]at h
 | .un,_,h=>by simp[FQ]at h
 | .sl _,_,h=>by simp[FQ]at h
 | .own ..,_,h=>by simp[FQ]at h
 | .ptr ..,_,h=>by simp[FQ]at h
 | .CT ..,_,h=>by simp[FQ]at h
 | .fn ..,_,h=>by simp[FQ]at h
 | .agg _,_,h=>by simp[FQ]at h
 | .Dv _,_,h=>by simp[FQ]at h
theorem XR {S F:Nat->Prop}{w:World}(hS :∀b,S b->F b){b:Nat}{cur:Array Value}{el:TypeId}(vU:w.heap[b]?=some (.cells cur el (0,0))):∀(xs:List (List AV)) (o:Nat),Ob S w xs cur o->Ih F w (NQ xs) b o
 | [],_,_=>by simp[NQ,Ih]
 | x::r,o,h=>by
  simp only[Ob]at h;simp only[NQ,Ih];obtain⟨S1,S2,h1,h2,_,h4,h5⟩:=h;have hl:(LI x).length=x.length:=by rw[QH,qc]
  rw[hl];exact⟨Xx (λc hc=>hS c (h1 c hc)) vU x o h4,XR (λc hc=>hS c (h2 c hc)) vU r _ h5⟩
theorem Xx {S F:Nat->Prop}{w:World}(hS :∀b,S b->F b){b:Nat}{cur:Array Value}{el:TypeId}(vU:w.heap[b]?=some (.cells cur el (0,0))):∀(xs:List AV) (o:Nat),Ol S w xs cur o->F3 F w (LI xs) b o
 | [],_,_=>by simp[LI,F3]
 | x::r,o,h=>by
  simp only[Ol]at h;simp only[LI,F3];obtain⟨S1,S2,h1,h2,_,⟨u,h4,h5⟩,h6⟩:=h;obtain⟨g1,g2⟩:=VW (λc hc=>hS c (h1 c hc)) x u h5;exact⟨⟨u,by rw[sb w b _ cur _ _ vU];exact h4,g2,g1⟩,Xx (λc hc=>hS c (h2 c hc)) vU r _ h6⟩
end
def Up (st:List Row):AV->AV
 | .own id g n=>match st[id]? with
  | some row=>if row.gen=g then .sl (NQ (row.xs.drop (row.xs.length-n))) else .FZ
  | none=>.FZ
 | v=>v
def Ib (st:List Row):AV->AV
 | .agg cs=>.agg (cs.map (Up st))
 | v=>Up st v
def Sa (args:List AV)(id g n:Nat):Prop:=AV.own id g n∈args∨∃cs,AV.agg cs∈args/\AV.own id g n∈cs
def Uh (F:Nat->Prop)(os:List Own)(args:List AV)(b:Nat):Prop:=F b∨∃id g n o,Sa args id g n/\os[id]?=some o/\o.owns b
theorem iH (hr:Rel F os s a w){F1:Nat->Prop}(hF1 :∀b,F b->F1 b){id g n:Nat}{o:Own}(ho:os[id]?=some o)(hl :∀b,o.owns b->F1 b)(hpr:DO o.row.xs){u:Value}
  (e2:Ac F w os (.own id g n) u) (hg:o.row.gen=g):Ac F1 w os (.sl (NQ (o.row.xs.drop (o.row.xs.length-n)))) u:=by
 have vF:=hr.rows id o ho;have hm:∀x v,Ac F w os x v->Ac F1 w os x v:=λx v h=>Ds hF1 (λ_ _=>rfl) os os (F8.refl os) x v h;simp only[Ac]at e2⊢;obtain⟨o',vc,_,_,e2⟩:=e2;rw[ho]at vc;cases vc;obtain⟨hn,hv⟩:=e2 hg;have hlen:(NQ (o.row.xs.drop (o.row.xs.length-n))).length=n:=by simp[JD];omega
 rcases hv with ⟨hb,ad,rfl⟩|⟨b,hb,rfl⟩
 ·have:=(vF.none hb).1;rw[this]at hn;simp only[qt,tY]at hn;subst hn;exact⟨ad,0,by simp[JD],by simp[JD],by simp[JD]⟩
 ·obtain⟨_,cur,vU,vY,hle,_,vR⟩:=vF.some b hb;have hls:∀x∈NQ (o.row.xs.drop (o.row.xs.length-n)),x.length=o.row.size:=λx hx=>by
   rw[JD]at hx;obtain⟨y,hy,rfl⟩:=qT.1 hx;rw[QH,qc];exact (vF.lens y (re hy)).1
  refine⟨_,o.cap-(o.row.xs.length-n),by rw[hlen],by rw[hlen];omega,λ_=>⟨b,(o.row.xs.length-n)*o.row.size,o.row.size,rfl,hl b (.inl hb),hls,?_⟩⟩;refine L8 hls λi x hx=>LG λj c hc=>?_;rw[JD,qA,qB]at hx;obtain⟨x0,hx0,rfl⟩:=hx;rw[QH,qA,qB]at hc;obtain⟨c0,wZ,rfl⟩:=hc;rw[qy]at hx0
  ·have hsi:=hpr x0 (pt hx0) c0 (pt wZ);have hk:=(vF.lens x0 (pt hx0)).2 c0 (pt wZ);by_cases hd :∃el sz ys,c0=.dv el sz ys
   ·obtain⟨el,sz,ys,rfl⟩:=hd;obtain⟨D,d1,_,d3⟩:=vF.deep;obtain⟨u,f1,f2⟩:=d3 b hb cur _ _ vU _ x0 j el sz ys hx0 wZ;obtain⟨g1,g2⟩:=VW (F:=F1) (λc hc=>hl c (.inr (d1 _ _ _ hc))) _ u f2;exact⟨u,by rw[sb w b _ cur _ _ vU,<- qn];exact f1,g2,g1⟩
   ·have hs:simple c0=true:=by cases c0<;>simp_all [Ey]
    rw[Vz hs];obtain⟨u,f1,f2⟩:=vR _ x0 hx0 j c0 wZ;refine⟨u,?_,by cases c0<;>simp_all [AV.kept],Fu hs [] (hm _ _ f2)⟩;rw[sb w b _ cur _ _ vU,<- qn];exact f1
theorem du (hr:Rel F os s a w){args:List AV}{vs:List Value}(hl:Bw F w os args vs)(zW :∀id g n,Sa args id g n->∀row,s.st[id]?=some row->DO row.xs):
  Bw (Uh F os args) w os (args.map (Ib s.st)) vs:=by
 have hF1:∀b,F b->Uh F os args b:=λ_ h=>.inl h;have hm:∀x v,Ac F w os x v->Ac (Uh F os args) w os x v:=λx v h=>Ds hF1 (λ_ _=>rfl) os os (F8.refl os) x v h;have h0:∀y u,(∀id g n,y=AV.own id g n->Sa args id g n)->Ac F w os y u->Ac (Uh F os args) w os (Up s.st y) u:=λy u wE e2=>by
  cases y with
  | own id g n=>
   simp only[Up];split
   ·rename_i row uj;split
    ·rename_i hg;obtain⟨o,ho,rfl⟩:=hr.row uj;exact iH hr hF1 ho (λb hb=>.inr ⟨id,g,n,o,wE id g n rfl,ho,hb⟩) (zW id g n (wE id g n rfl) o.row uj) e2 hg
    ·simp[Ac]
   ·simp[Ac]
  | _=>exact hm _ _ e2
 refine Df (by simp[BW hl]) λi x u hx hu=>?_;simp only[qA,qB]at hx;obtain⟨y,hy,rfl⟩:=hx;obtain⟨u',e1,e2⟩:=CJ hl i y hy;rw[hu]at e1;cases e1;have hym:=pt hy;cases y with
 | agg cs=>
  simp only[Ib,Ac]at e2⊢;obtain⟨us,e,xV⟩:=e2;refine⟨us,e,Df (by simp[BW xV]) λj x u hx hu=>?_⟩;simp only[qA,qB]at hx;obtain⟨y,hy,rfl⟩:=hx;obtain⟨u',e1,e2⟩:=CJ xV j y hy;rw[hu]at e1;cases e1;exact h0 y u (λid g n e=>.inr ⟨cs,hym,e▸pt hy⟩) e2
 | own id g n=>exact h0 _ u (λvr g' n' e=>.inl (e▸hym)) e2
 | _=>exact hm _ _ e2
theorem aR {P:Program}{s:St}{f:FuncId}{args:List AV}{R:AV->List Row->Prop}{k:Nat}(h:BS P f (args.map (Ib s.st)) [] R)(hf:(args.map (Ib s.st)).all flat=true)
  (zW :∀id g n,Sa args id g n->∀row,s.st[id]?=some row->DO row.xs) {F:Nat->Prop} {os:List Own} {a:Act} {w:World} {vs:List Value} (hr:Rel F os s a w) (hl:Bw F w os args vs) :
  Calls P f vs.toArray w λe w'=>∃u r st' F' vo,e=.returned u/\R r st'/\Rel F os s a w'/\IY F' vo st' w'/\Ac F' w' vo r u/\(∀b,F b->F' b)/\Ext F os w F os w' k/\
   (∀(i:Nat) (o:Own),os[i]?=some o->∀b,o.owns b->∀o1:Own,o1∈vo->¬ o1.owns b)/\∀b,b<w.heap.size->¬ F b->(∀o:Own,o∈os->¬ o.owns b)->∀o1:Own,o1∈vo->¬ o1.owns b:=by
 have hF1:∀b,F b->Uh F os args b:=λ_ h=>.inl h;have vS:∀(i:Nat) (o:Own) b,os[i]?=some o->o.owns b->b<w.heap.size:=λi o b hi hb=>(hr.rows i o hi).lt hb;have hold1:∀b,Uh F os args b->b<w.heap.size:=λb hb=>by
  rcases hb with hb|⟨id,g,n,o,_,ho,xp⟩
  ·exact hr.HO b hb
  ·exact vS id o b ho xp
 have wB:=du hr hl zW;refine (h (Uh F os args) [] w vs (IY.nil hold1) (Te hf [] wB)).mono ?_;rintro e w' ⟨u,r,st',F',vo,rfl,hR,hs,hru,he⟩;have uj:∀(i:Nat) (o:Own),os[i]?=some o->∀b,o.owns b->w'.heap[b]?=w.heap[b]?/\∀o1:Own,o1∈vo->¬ o1.owns b:=λi o ho b hb=>by
  by_cases h1:Uh F os args b
  ·refine⟨he.KX b h1,λo1 ho1 e=>?_⟩;obtain⟨j,hj⟩:=qf.1 ho1;exact (hs.rows j o1 hj).nF e (he.RI b h1)
  ·obtain⟨f1,_,f3⟩:=he.other b (vS i o b ho hb) h1 (by simp);exact⟨f1,f3⟩
 have vL:∀x v,Ac F w os x v->Ac F w' os x v:=λx v h=>Ds (λ_ h=>h) (λb hb=>he.KX b (hF1 b hb)) os os (F8.refl os) x v h;have wS:Rel F os s a w':=⟨hr.st,λt=>vL _ _ (hr.env t),hr.size,λi o ho=>by
   have vF:=hr.rows i o ho;refine⟨vF.pos,vF.lens,vF.none,λb hb=>?_,λb hb=>⟨(vF.mo b hb).1,rW (vF.mo b hb).2.1 he.size,(vF.mo b hb).2.2⟩,vF.deep.keep rfl (λ_ h=>h) rfl (λb hb=>(uj i o ho b hb).1) (λi x j e s ys hx hc=>⟨x,hx,hc⟩)⟩;obtain⟨e1,cur,e2,e3,e4,e5,e6⟩:=vF.some b hb;exact⟨e1,cur,by rw[(uj i o ho b (.inl hb)).1];exact e2,e3,e4,e5,λi' x hx j c hc=>by obtain⟨u,f1,f2⟩:=e6 i' x hx j c hc;exact⟨u,f1,vL _ _ f2⟩⟩,
  hr.inj,λb hb=>rW (hr.HO b hb) he.size,hr.defers⟩
 have zF:∀b,b<w.heap.size->¬ F b->(∀o:Own,o∈os->¬ o.owns b)->w'.heap[b]?=w.heap[b]?/\∀o1:Own,o1∈vo->¬ o1.owns b:=λb hb e1 e2=>by
  have hnF1:¬ Uh F os args b:=λh=>h.elim e1 (λ⟨id,g,n,o,_,ho,xp⟩=>e2 o (pt ho) xp);obtain⟨f1,_,f3⟩:=he.other b hb hnF1 (by simp);exact⟨f1,f3⟩
 exact⟨u,r,st',F',vo,rfl,hR,wS,hs,hru,λb hb=>he.RI b (hF1 b hb),
  ⟨he.sys,he.tape,he.output,he.size,λ_ h=>h,λb hb=>he.KX b (hF1 b hb),λb hb e1 e2=>⟨(zF b hb e1 e2).1,e1,e2⟩,λi o _ ho=>⟨o,ho,qU _,rfl,λ_=>⟨rfl,rfl,rfl⟩⟩⟩,
  λi o ho b hb=>(uj i o ho b hb).2,λb hb e1 e2=>(zF b hb e1 e2).2⟩
theorem QJ {f:FuncId}{args:List AV}{d:Option Tmp}{K:St->Prop}{R:AV->List Row->Prop}(h:BS P f (args.map (Ib s.st)) [] R)(hf:(args.map (Ib s.st)).all flat=true)
  (zW :∀id g n,Sa args id g n->∀row,s.st[id]?=some row->DO row.xs)
  (hK :∀r st',R r st'->(gH r=true/\∀row∈st',∀x∈row.xs,∀c∈x,Pj c=true)/\(∀row∈st',DO row.xs)/\K ({ s with st:=s.st++st' }.put d (shift s.st.length r))):callThen P k s f args d K:=by
 intro F os a w vs hr hl;refine (aR (k:=k) h hf zW hr hl).mono ?_;rintro e w' ⟨u,r,st',F',vo,rfl,hR,wS,hs,hru,hFF,he,wq,zF⟩;obtain⟨⟨hsr,hsc⟩,hp,hk⟩:=hK r st' hR;refine⟨u,_,s.st++st',F,os++vo,rfl,hk,wS.join hs hFF hp (.inr hsc) wq,?_,?_⟩
 ·rw[hr.len];exact XE (iB hsr hru)
 ·refine⟨he.sys,he.tape,he.output,he.size,λ_ h=>h,he.KX,λb hb e1 e2=>?_,λi o hi ho=>F8.append os vo i o ho⟩;obtain⟨f1,_,_⟩:=he.other b hb e1 e2;exact⟨f1,e1,λo ho=>by rcases qb.1 ho with h|h;exact e2 o h;exact zF b hb e1 e2 o h⟩
end Go.Abs
