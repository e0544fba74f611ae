import Derived.Test.YtfkncfjpobjbjaaAbsK
set_option linter.all false
namespace Go.Abs
open Go
variable {P : Program} {F : Nat -> Prop} {os : List Own} {s : St} {a : Act} {w : World} {k : Nat}
def Dm (id g:Nat)(xs:List (List AV)):AV->AV
 | .own Uv g' n=>if Uv=id/\g'=g then .sl (xs.drop (xs.length-n)) else .own Uv g' n
 | .ptr Uv g' i off=>if Uv=id/\g'=g then (match xs[i]? with|some x=>.A6 x off|none=>.Bk) else .ptr Uv g' i off
 | v=>v
def Dw (id g:Nat)(xs:List (List AV)):AV->AV
 | .agg cs=>.agg (cs.map (Dm id g xs))
 | .BK cs=>.BK (cs.map (Dm id g xs))
 | v=>Dm id g xs v
def Cu (xs:List (List AV)):Prop:=∀x∈xs,∀c∈x,simple c=true
def Au (xs:List (List AV)):Prop:=∀x∈xs,∀c∈x,BP c=true
theorem Cu.any {xs:List (List AV)}(h:Cu xs):Au xs:=λx hx c hc=>EU (h x hx c hc)
theorem Wk.freeze {id:Nat}{row:Row}(WE:k<=id)(T0:s.st[id]?=some row)(hp:Cu row.xs):
  Wk k s ⟨s.n,λt=>Dw id row.gen row.xs (s.env t),s.st.set id { row with gen:=row.gen+1,xs:=[] }⟩:=λF os a w hr=>by
 obtain⟨o,ho,rfl⟩:=hr.row T0;have T2:=hr.rows id o ho;have Vz:∀x∈o.row.xs,∀c∈x,c.leaf=true:=λx hx c hc=>by
  have h1:=hp x hx c hc;have h2:=(T2.lens x hx).2 c hc;cases c<;>simp_all [simple,AV.leaf,AV.kept]
 refine⟨λb=>F b∨o.BV=some b,os.set id ⟨{ o.row with gen:=o.row.gen+1,xs:=[] },none,0,o.more⟩,?_,?_⟩
 case refine_2=>
  refine⟨rfl,rfl,rfl,Rz _,λ_ h=>.inl h,λ_ _=>rfl,λb _ h1 h2=>⟨rfl,λh=>h.elim h1 (λe=>h2 o (Rk ho) (.inl e)),λo' UU=>?_⟩,λi oi hi bl=>⟨oi,?_,Rz _,rfl,λ_=>⟨rfl,rfl,rfl⟩⟩⟩
  ·rcases SO UU with h|rfl
   ·exact h2 o' h
   ·intro hh;rcases hh with hh|hh
    ·simp at hh
    ·exact h2 o (Rk ho) (.inr hh)
  ·rw[Rw (by omega)];exact bl
 have hF:∀b,F b->(λb=>F b∨o.BV=some b) b:=λ_ h=>.inl h;have Ud:Bt os (os.set id ⟨{ o.row with gen:=o.row.gen+1,xs:=[] },none,0,o.more⟩):=Bt.set ho (by simp) rfl (λe=>by simp at e);have T4:∀x v,AF F w os x v->AF (λb=>F b∨o.BV=some b) w (os.set id ⟨{ o.row with gen:=o.row.gen+1,xs:=[] },none,0,o.more⟩) x v:=λx v h=>
  A5 hF (λ_ _=>rfl) os _ Ud x v h
 have Ui:∀x∈o.row.xs,∀c∈x,∀u,AF F w os c u->AF (λb=>F b∨o.BV=some b) w [] c u:=λx hx c hc u hu=>
  A5 hF (λ_ _=>rfl) [] [] (by simp) c u (CV (hp x hx c hc) [] hu)
 have h1:∀x v,AF F w os x v->AF (λb=>F b∨o.BV=some b) w (os.set id ⟨{ o.row with gen:=o.row.gen+1,xs:=[] },none,0,o.more⟩) (Dm id o.row.gen o.row.xs x) v:=λx v h=>by
  cases x with
  | own Uv g' n=>
   simp only[Dm];split
   ·rename_i bj;obtain⟨rfl,rfl⟩:=bj;simp only[AF]at h⊢;obtain⟨o',UU,_,_,h⟩:=h;rw[ho]at UU;cases UU;obtain⟨hn,hv⟩:=h rfl;have hlen:(o.row.xs.drop (o.row.xs.length-n)).length=n:=by simp;omega
    rcases hv with ⟨hb,VY,ad,rfl⟩|⟨b,hb,rfl⟩
    ·have:=(T2.nil hb VY).1;rw[this]at hn;simp only[Sw,Tm]at hn;subst hn;exact⟨ad,0,by simp,by simp,by simp⟩
    ·obtain⟨_,cur,T7,UX,hle,_,T6⟩:=T2.some b hb;refine⟨_,o.cap-(o.row.xs.length-n),by rw[hlen],by rw[hlen];omega,λ_=>⟨b,(o.row.xs.length-n)*o.row.size,o.row.size,rfl,.inr hb,λx hx=>(T2.lens x (Sa hx)).1,?_⟩⟩;refine Dg (λx hx=>(T2.lens x (Sa hx)).1) λi x hx=>DH λj c hc=>?_;have WT:=Rk hx;rw[SS]at hx;obtain⟨u,e1,e2⟩:=T6 _ x hx j c hc;refine⟨u,?_,Vz x (Rk hx) c (Rk hc),Ui x (Rk hx) c (Rk hc) u e2⟩;rw[TI w b _ cur _ _ T7];rw[<- SM];exact e1
   ·exact T4 _ _ h
  | ptr Uv g' i off=>
   simp only[Dm];split
   ·rename_i bj;obtain⟨rfl,rfl⟩:=bj;simp only[AF]at h;obtain⟨o',UU,_,_,h⟩:=h;rw[ho]at UU;cases UU;obtain⟨hi,_,b,hb,rfl⟩:=h rfl;rw[Rp hi];obtain⟨_,cur,T7,UX,hle,_,T6⟩:=T2.some b hb;simp only[AF];refine⟨b,i*o.row.size,rfl,.inr hb,DH λj c hc=>?_⟩;have hm:=S3 hi;obtain⟨u,e1,e2⟩:=T6 i _ (Rp hi) j c hc;refine⟨u,?_,Vz _ hm c (Rk hc),Ui _ hm c (Rk hc) u e2⟩;rw[TI w b _ cur _ _ T7];exact e1
   ·exact T4 _ _ h
  | _=>exact T4 _ _ h
 have hL:∀xs us,Ad F w os xs us->Ad (λb=>F b∨o.BV=some b) w (os.set id ⟨{ o.row with gen:=o.row.gen+1,xs:=[] },none,0,o.more⟩) (xs.map (Dm id o.row.gen o.row.xs)) us:=λxs us h=>
  BQ (by simp[Aa h]) λi x u hx hu=>by
   simp only[Ro,Rr]at hx;obtain⟨y,hy,rfl⟩:=hx;obtain⟨u',e1,e2⟩:=Aj h i y hy;rw[hu]at e1;cases e1;exact h1 _ _ e2
 have T5:∀(i:Nat) (oi:Own),(os.set id ⟨{ o.row with gen:=o.row.gen+1,xs:=[] },none,0,o.more⟩)[i]?=some oi->(i≠id/\os[i]?=some oi)∨(i=id/\oi=⟨{ o.row with gen:=o.row.gen+1,xs:=[] },none,0,o.more⟩):=λi oi hi=>by
  by_cases e:i=id
  ·subst e;rw[Rs (Rm.1 ho).1,Rn]at hi;exact .inr ⟨rfl,hi.symm⟩
  ·rw[Rw (SY e)]at hi;exact .inl ⟨e,hi⟩
 refine⟨by rw[Sb,hr.st],λt=>?_,hr.size,λi oi hi=>?_,λi j oi oj b hi hj V2 V3=>?_,λb hb=>?_,hr.defers⟩
 ·have:=hr.env t;simp only;generalize s.env t=x at this⊢;cases x with
  | agg cs=>simp only[Dw,AF]at this⊢;obtain⟨us,e,h⟩:=this;exact⟨us,e,hL _ _ h⟩
  | BK cs=>simp only[Dw,AF]at this⊢;obtain⟨us,e,h⟩:=this;exact⟨us,e,hL _ _ h⟩
  | _=>exact h1 _ _ this
 ·rcases T5 i oi hi with ⟨UW,h⟩|⟨_,rfl⟩
  ·have Up:=hr.rows i oi h;refine⟨Up.pos,Up.lens,Up.none,λb hb=>?_,λb hb=>⟨λhF=>hF.elim (Up.mo b hb).1 (λWt=>UW (hr.inj i id oi o b h ho (.inr hb) (.inl Wt))),(Up.mo b hb).2⟩,Up.deep⟩;obtain⟨e1,cur,e2,e3,e4,e5,e6⟩:=Up.some b hb;refine⟨λhF=>hF.elim e1 (λWt=>UW (hr.inj i id oi o b h ho (.inl hb) (.inl Wt))),cur,e2,e3,e4,e5,λi' x hx j c hc=>?_⟩;obtain⟨u,f1,f2⟩:=e6 i' x hx j c hc;exact⟨u,f1,T4 _ _ f2⟩
  ·exact⟨T2.pos,by simp,by simp,by simp,λb hb=>⟨λhF=>hF.elim (T2.mo b hb).1 (T2.mo b hb).2.2,(T2.mo b hb).2.1,by simp⟩,B2 (by simp)⟩
 ·rcases T5 i oi hi with ⟨UW,h⟩|⟨h,rfl⟩<;>rcases T5 j oj hj with ⟨Yh,h'⟩|⟨h',rfl⟩
  ·exact hr.inj i j oi oj b h h' V2 V3
  ·exact hr.inj i j oi o b h (h'▸ho) V2 (V3.elim (λe=>by simp at e) .inr)
  ·exact hr.inj i j o oj b (h▸ho) h' (V2.elim (λe=>by simp at e) .inr) V3
  ·omega
 ·rcases hb with hb|hb
  ·exact hr.CL b hb
  ·obtain⟨_,cur,T7,_⟩:=T2.some b hb;exact (SZ.1 T7).1
def E9 (m:Nat):AV->AV
 | .own id g n=>.own (id+m) g n
 | .ptr id g i off=>.ptr (id+m) g i off
 | .fn ..|.agg _|.BK _=>.Bk
 | v=>v
def Gl (m:Nat)(x:AV):AV:=two (E9 m) x
def shift (m:Nat):AV->AV
 | .fn f cs=>.fn f (cs.map (Gl m))
 | .agg cs=>.agg (cs.map (Gl m))
 | .BK cs=>.BK (cs.map (Gl m))
 | v=>Gl m v
theorem MJ {UQ:List Own}{x:AV}{v:Value}(h:AF F w UQ x v):AF F w (os++UQ) (E9 os.length x) v:=by
 have T5:∀id,(os++UQ)[id+os.length]?=UQ[id]?:=λid=>by rw[Rv (by omega)];congr 1;omega
 cases x with
 | own id g n=>simp only[E9,AF]at h⊢;rw[T5];exact h
 | ptr id g i off=>simp only[E9,AF]at h⊢;rw[T5];exact h
 | fn f cs=>simp[E9,AF]
 | agg cs=>simp[E9,AF]
 | BK cs=>simp[E9,AF]
 | _=>simp only[E9,AF]at h⊢<;>exact h
theorem IV {UQ:List Own}{x:AV}{v:Value}(h:AF F w UQ x v):AF F w (os++UQ) (Gl os.length x) v:=
 FI (λ_ _ h=>MJ h) _ _ h
theorem Fo {UQ:List Own}{xs:List AV}{us:List Value}(h:Ad F w UQ xs us):Ad F w (os++UQ) (xs.map (Gl os.length)) us:=
 BQ (by simp[Aa h]) λi x u hx hu=>by
  simp only[Ro,Rr]at hx;obtain⟨y,hy,rfl⟩:=hx;obtain⟨u',e1,e2⟩:=Aj h i y hy;rw[hu]at e1;cases e1;exact IV e2
theorem G9 {UQ:List Own}{x:AV}{v:Value}(h:AF F w UQ x v):AF F w (os++UQ) (shift os.length x) v:=by
 cases x with
 | fn f cs=>simp only[shift,AF]at h⊢;obtain⟨us,e,hl⟩:=h;exact⟨us,e,Fo hl⟩
 | agg cs=>simp only[shift,AF]at h⊢;obtain⟨us,e,hl⟩:=h;exact⟨us,e,Fo hl⟩
 | BK cs=>simp only[shift,AF]at h⊢;obtain⟨us,e,hl⟩:=h;exact⟨us,e,Fo hl⟩
 | _=>exact IV h
def Er:AV->Bool
 | .sl _|.mv _|.A6 ..|.fn ..|.agg _|.BK _=>false
 | _=>true
def Na:AV->Bool
 | .agg cs=>cs.all Er
 | v=>Er v
def Lz:AV->Bool
 | .BK cs=>cs.all Na
 | v=>Na v
theorem HH {F':Nat->Prop}{x:AV}{v:Value}(hx:Er x=true)(h:AF F w os x v):AF F' w os x v:=by
 cases x<;>simp only[Er,R1]at hx<;>simp only[AF]at h⊢<;>exact h
theorem I2 {F':Nat->Prop}{x:AV}{v:Value}(hx:Na x=true)(h:AF F w os x v):AF F' w os x v:=by
 cases x with
 | agg cs=>
  simp only[AF]at h⊢;obtain⟨us,e,hl⟩:=h;refine⟨us,e,BQ (Aa hl) λi x u Wl hu=>?_⟩;obtain⟨u',e1,e2⟩:=Aj hl i x Wl;rw[hu]at e1;cases e1;exact HH (Ru.1 hx x (Rk Wl)) e2
 | _=>exact HH hx h
theorem KH {F':Nat->Prop}{x:AV}{v:Value}(hx:Lz x=true)(h:AF F w os x v):AF F' w os x v:=by
 cases x with
 | BK cs=>
  simp only[AF]at h⊢;obtain⟨us,e,hl⟩:=h;refine⟨us,e,BQ (Aa hl) λi x u Wl hu=>?_⟩;obtain⟨u',e1,e2⟩:=Aj hl i x Wl;rw[hu]at e1;cases e1;exact I2 (Ru.1 hx x (Rk Wl)) e2
 | _=>exact I2 hx h
theorem Rel.join {F0 F':Nat->Prop}{w':World}{UQ:List Own}{st1:List Row}(hr:Rel F0 os s a w')(hs:B9 F' UQ st1 w')(aJ :∀b,F0 b->F' b)(hp :∀row∈st1,Au row.xs)
  (ao:(∀b,F' b->F0 b)∨∀row∈st1,∀x∈row.xs,∀c∈x,Er c=true) (Um :∀(i:Nat) (o:Own),os[i]?=some o->∀b,o.owns b->∀o1:Own,o1∈UQ->¬ o1.owns b) :
  Rel F0 (os++UQ) { s with st:=s.st++st1 } a w':=by
 have Ud:Bt os (os++UQ):=Bt.append os UQ;have T4:∀x v,AF F0 w' os x v->AF F0 w' (os++UQ) x v:=λx v h=>A5 (λ_ h=>h) (λ_ _=>rfl) os _ Ud x v h;have T5:∀(i:Nat) (o:Own),(os++UQ)[i]?=some o->(i<os.length/\os[i]?=some o)∨(os.length<=i/\UQ[i-os.length]?=some o):=λi o h=>by
  by_cases hi:i<os.length
  ·rw[Rt hi]at h;exact .inl ⟨hi,h⟩
  ·rw[Rv (by omega)]at h;exact .inr ⟨by omega,h⟩
 refine⟨by rw[Se,hr.st,hs.st],λt=>T4 _ _ (hr.env t),hr.size,λi o ho=>?_,λi j oi oj b hi hj V2 V3=>?_,hr.CL,hr.defers⟩
 ·rcases T5 i o ho with ⟨_,h⟩|⟨_,h⟩
  ·have T2:=hr.rows i o h;refine⟨T2.pos,T2.lens,T2.none,λb hb=>?_,T2.mo,T2.deep⟩;obtain⟨e1,cur,e2,e3,e4,e5,e6⟩:=T2.some b hb;exact⟨e1,cur,e2,e3,e4,e5,λi' x hx j c hc=>by obtain⟨u,f1,f2⟩:=e6 i' x hx j c hc;exact⟨u,f1,T4 _ _ f2⟩⟩
  ·have T2:=hs.rows _ o h;refine⟨T2.pos,T2.lens,T2.none,λb hb=>?_,λb hb=>⟨λhF=>(T2.mo b hb).1 (aJ b hF),(T2.mo b hb).2⟩,T2.deep⟩;obtain⟨e1,cur,e2,e3,e4,e5,e6⟩:=T2.some b hb;refine⟨λhF=>e1 (aJ b hF),cur,e2,e3,e4,e5,λi' x hx j c hc=>?_⟩;obtain⟨u,f1,f2⟩:=e6 i' x hx j c hc;have T0:o.row∈st1:=by rw[<- hs.st];exact R7.2 ⟨o,Rk h,rfl⟩
   have cm:=hp o.row T0 x (Rk hx) c (Rk hc);have f3:=Le cm (os++UQ) f2;refine⟨u,f1,?_⟩;rcases ao with h1|h1
   ·exact A5 h1 (λ_ _=>rfl) _ _ (Bz _) c u f3
   ·exact HH (h1 o.row T0 x (Rk hx) c (Rk hc)) f3
 ·rcases T5 i oi hi with ⟨_,h⟩|⟨_,h⟩<;>rcases T5 j oj hj with ⟨_,h'⟩|⟨_,h'⟩
  ·exact hr.inj i j oi oj b h h' V2 V3
  ·exact absurd V3 (Um i oi h b V2 oj (Rk h'))
  ·exact absurd V2 (Um j oj h' b V3 oi (Rk h))
  ·have:=hs.inj _ _ oi oj b h h' V2 V3;omega
theorem Gc {f:FuncId}{args:List AV}{d:Option Tmp}{K:St->Prop}{R:AV->List Row->Prop}(h:AY P f args [] R)(hf:args.all flat=true)
  (hK :∀r st',R r st'->(∀row∈st',Au row.xs)/\K ({ s with st:=s.st++st' }.put d (shift s.st.length r))):callThen P k s f args d K:=by
 intro F os a w vs hr hl;refine (h F [] w vs (B9.nil hr.CL) (Fi hf [] hl)).mono ?_;rintro e w' ⟨u,r,st',F',UQ,rfl,hR,hs,hru,he⟩;obtain⟨hp,hk⟩:=hK r st' hR;obtain⟨h1,h2,_,Um⟩:=hr.after (k:=k) he hs.CL;refine⟨u,_,s.st++st',F',os++UQ,rfl,hk,h1.join hs (λ_ h=>h) hp (.inl λ_ h=>h) Um,?_,?_⟩
 ·rw[hr.len];exact G9 hru
 ·refine⟨h2.sys,h2.tape,h2.output,h2.size,h2.FP,h2.C8,λb hb e1 e2=>?_,λi o hi ho=>?_⟩
  ·obtain⟨f1,f2,f3⟩:=he.other b hb e1 (by simp);exact⟨f1,f2,λo ho=>by rcases SI.1 ho with h|h;exact e2 o h;exact f3 o h⟩
  ·exact Bt.append os UQ i o ho
mutual
def HI:AV->AV
 | .dv _ _ xs=>.sl (DQ xs)
 | c=>c
def DQ:List (List AV)->List (List AV)
 | []=>[]
 | x::r=>DU x::DQ r
def DU:List AV->List AV
 | []=>[]
 | c::r=>HI c::DU r
end
theorem C9:∀x:List AV,DU x=x.map HI
 | []=>by simp[DU]
 | c::r=>by simp[DU,C9 r]
theorem CQ:∀xs:List (List AV),DQ xs=xs.map DU
 | []=>by simp[DQ]
 | x::r=>by simp[DQ,CQ r]
theorem EN {c:AV}(h:simple c=true):HI c=c:=by cases c<;>simp_all [simple,HI]
theorem Mt {xs:List (List AV)}(h:Cu xs):DQ xs=xs:=by
 rw[CQ];refine (R4 (g:=id) λx hx=>?_).trans (Sj _);rw[C9];exact (R4 (g:=id) λc hc=>EN (h x hx c hc)).trans (Sj _)
mutual
theorem IM {S F:Nat->Prop}{w:World}(hS :∀b,S b->F b):∀(x:AV) (v:Value),A7 S w x v->AF F w [] (HI x) v/\(HI x).leaf=true
 | .dv el size xs,v,h=>by
  simp only[A7]at h;obtain⟨hp,h⟩:=h;simp only[HI,AF,AV.leaf,and_true];rcases h with ⟨rfl,a,rfl⟩|⟨b,cap,cur,rfl,h2,h3,h4,h5,h6,h7,h8⟩
  ·exact⟨a,0,by simp[DQ],by simp[DQ],by simp[DQ]⟩
  ·refine⟨_,cap,by simp[CQ],by simpa [CQ] using h2,λ_=>⟨b,0,size,rfl,hS b h4,λx hx=>?_,Jr (S:=λc=>S c/\c≠b) (λc hc=>hS c hc.1) h5 xs 0 h8⟩⟩;rw[CQ]at hx;obtain⟨y,hy,rfl⟩:=R7.1 hx;rw[C9,SB];exact h7 y hy
 | .int _ _,_,h=>by simpa [A7,HI,AF,AV.leaf] using h
 | .bool _,_,h=>by simpa [A7,HI,AF,AV.leaf] using h
 | .str _,_,h=>by simpa [A7,HI,AF,AV.leaf] using h
 | .zc,_,h=>by simpa [A7,HI,AF,AV.leaf] using h
 | .G6,_,h=>by simpa [A7,HI,AF,AV.leaf] using h
 | .Gz,_,h=>by simpa [A7,HI,AF,AV.leaf] using h
 | .Bk,_,h=>by simp[A7]at h
 | .un,_,h=>by simp[A7]at h
 | .sl _,_,h=>by simp[A7]at h
 | .own ..,_,h=>by simp[A7]at h
 | .ptr ..,_,h=>by simp[A7]at h
 | .A6 ..,_,h=>by simp[A7]at h
 | .fn ..,_,h=>by simp[A7]at h
 | .agg _,_,h=>by simp[A7]at h
 | .BK _,_,h=>by simp[A7]at h
theorem Jr {S F:Nat->Prop}{w:World}(hS :∀b,S b->F b){b:Nat}{cur:Array Value}{el:TypeId}(T7:w.heap[b]?=some (.cells cur el (0,0))):∀(xs:List (List AV)) (o:Nat),D9 S w xs cur o->CR F w (DQ xs) b o
 | [],_,_=>by simp[DQ,CR]
 | x::r,o,h=>by
  simp only[D9]at h;simp only[DQ,CR];obtain⟨S1,S2,h1,h2,_,h4,h5⟩:=h;have hl:(DU x).length=x.length:=by rw[C9,SB]
  rw[hl];exact⟨JR (λc hc=>hS c (h1 c hc)) T7 x o h4,Jr (λc hc=>hS c (h2 c hc)) T7 r _ h5⟩
theorem JR {S F:Nat->Prop}{w:World}(hS :∀b,S b->F b){b:Nat}{cur:Array Value}{el:TypeId}(T7:w.heap[b]?=some (.cells cur el (0,0))):∀(xs:List AV) (o:Nat),D3 S w xs cur o->BY F w (DU xs) b o
 | [],_,_=>by simp[DU,BY]
 | x::r,o,h=>by
  simp only[D3]at h;simp only[DU,BY];obtain⟨S1,S2,h1,h2,_,⟨u,h4,h5⟩,h6⟩:=h;obtain⟨g1,g2⟩:=IM (λc hc=>hS c (h1 c hc)) x u h5;exact⟨⟨u,by rw[TI w b _ cur _ _ T7];exact h4,g2,g1⟩,JR (λc hc=>hS c (h2 c hc)) T7 r _ h6⟩
end
def Hi (st:List Row):AV->AV
 | .own id g n=>match st[id]? with
  | some row=>if row.gen=g then .sl (DQ (row.xs.drop (row.xs.length-n))) else .Bk
  | none=>.Bk
 | v=>v
def Cr (st:List Row):AV->AV
 | .agg cs=>.agg (cs.map (Hi st))
 | v=>Hi st v
def Gk (args:List AV)(id g n:Nat):Prop:=AV.own id g n∈args∨∃cs,AV.agg cs∈args/\AV.own id g n∈cs
def Hw (F:Nat->Prop)(os:List Own)(args:List AV)(b:Nat):Prop:=F b∨∃id g n o,Gk args id g n/\os[id]?=some o/\o.owns b
theorem H8 (hr:Rel F os s a w){F1:Nat->Prop}(Wy :∀b,F b->F1 b){id g n:Nat}{o:Own}(ho:os[id]?=some o)(hl :∀b,o.owns b->F1 b)(Vu:Au o.row.xs){u:Value}
  (e2:AF F w os (.own id g n) u) (hg:o.row.gen=g):AF F1 w os (.sl (DQ (o.row.xs.drop (o.row.xs.length-n)))) u:=by
 have T2:=hr.rows id o ho;have hm:∀x v,AF F w os x v->AF F1 w os x v:=λx v h=>A5 Wy (λ_ _=>rfl) os os (Bz os) x v h;simp only[AF]at e2⊢;obtain⟨o',UU,_,_,e2⟩:=e2;rw[ho]at UU;cases UU;obtain⟨hn,hv⟩:=e2 hg;have hlen:(DQ (o.row.xs.drop (o.row.xs.length-n))).length=n:=by simp[CQ];omega
 rcases hv with ⟨hb,VY,ad,rfl⟩|⟨b,hb,rfl⟩
 ·have:=(T2.nil hb VY).1;rw[this]at hn;simp only[Sw,Tm]at hn;subst hn;exact⟨ad,0,by simp[CQ],by simp[CQ],by simp[CQ]⟩
 ·obtain⟨_,cur,T7,UX,hle,_,T6⟩:=T2.some b hb;have aq:∀x∈DQ (o.row.xs.drop (o.row.xs.length-n)),x.length=o.row.size:=λx hx=>by
   rw[CQ]at hx;obtain⟨y,hy,rfl⟩:=R7.1 hx;rw[C9,SB];exact (T2.lens y (Sa hy)).1
  refine⟨_,o.cap-(o.row.xs.length-n),by rw[hlen],by rw[hlen];omega,λ_=>⟨b,(o.row.xs.length-n)*o.row.size,o.row.size,rfl,hl b (.inl hb),aq,?_⟩⟩;refine Dg aq λi x hx=>DH λj c hc=>?_;rw[CQ,Ro,Rr]at hx;obtain⟨x0,Xp,rfl⟩:=hx;rw[C9,Ro,Rr]at hc;obtain⟨c0,U3,rfl⟩:=hc;rw[SS]at Xp
  ·have jT:=Vu x0 (Rk Xp) c0 (Rk U3);have hk:=(T2.lens x0 (Rk Xp)).2 c0 (Rk U3);by_cases hd :∃el sz ys,c0=.dv el sz ys
   ·obtain⟨el,sz,ys,rfl⟩:=hd;obtain⟨-,D,d1,_,d3⟩:=T2.deep;obtain⟨u,f1,f2⟩:=d3 b hb cur _ _ T7 _ x0 j el sz ys Xp U3;obtain⟨g1,g2⟩:=IM (F:=F1) (λc hc=>hl c (.inr (d1 _ _ _ hc))) _ u f2;exact⟨u,by rw[TI w b _ cur _ _ T7,<- SM];exact f1,g2,g1⟩
   ·have hs:simple c0=true:=by cases c0<;>simp_all [BP]
    rw[EN hs];obtain⟨u,f1,f2⟩:=T6 _ x0 Xp j c0 U3;refine⟨u,?_,by cases c0<;>simp_all [AV.kept],CV hs [] (hm _ _ f2)⟩;rw[TI w b _ cur _ _ T7,<- SM];exact f1
theorem NC (hr:Rel F os s a w){args:List AV}{vs:List Value}(hl:Ad F w os args vs)(Wa :∀id g n,Gk args id g n->∀row,s.st[id]?=some row->Au row.xs):
  Ad (Hw F os args) w os (args.map (Cr s.st)) vs:=by
 have Wy:∀b,F b->Hw F os args b:=λ_ h=>.inl h;have hm:∀x v,AF F w os x v->AF (Hw F os args) w os x v:=λx v h=>A5 Wy (λ_ _=>rfl) os os (Bz os) x v h;have h0:∀y u,(∀id g n,y=AV.own id g n->Gk args id g n)->AF F w os y u->AF (Hw F os args) w os (Hi s.st y) u:=λy u Ut e2=>by
  cases y with
  | own id g n=>
   simp only[Hi];split
   ·rename_i row T0;split
    ·rename_i hg;obtain⟨o,ho,rfl⟩:=hr.row T0;exact H8 hr Wy ho (λb hb=>.inr ⟨id,g,n,o,Ut id g n rfl,ho,hb⟩) (Wa id g n (Ut id g n rfl) o.row T0) e2 hg
    ·simp[AF]
   ·simp[AF]
  | _=>exact hm _ _ e2
 refine BQ (by simp[Aa hl]) λi x u hx hu=>?_;simp only[Ro,Rr]at hx;obtain⟨y,hy,rfl⟩:=hx;obtain⟨u',e1,e2⟩:=Aj hl i y hy;rw[hu]at e1;cases e1;have fN:=Rk hy;cases y with
 | agg cs=>
  simp only[Cr,AF]at e2⊢;obtain⟨us,e,WJ⟩:=e2;refine⟨us,e,BQ (by simp[Aa WJ]) λj x u hx hu=>?_⟩;simp only[Ro,Rr]at hx;obtain⟨y,hy,rfl⟩:=hx;obtain⟨u',e1,e2⟩:=Aj WJ j y hy;rw[hu]at e1;cases e1;exact h0 y u (λid g n e=>.inr ⟨cs,fN,e▸Rk hy⟩) e2
 | own id g n=>exact h0 _ u (λUv g' n' e=>.inl (e▸fN)) e2
 | _=>exact hm _ _ e2
theorem Ls {P:Program}{s:St}{f:FuncId}{args:List AV}{R:AV->List Row->Prop}{k:Nat}(h:AY P f (args.map (Cr s.st)) [] R)(hf:(args.map (Cr s.st)).all flat=true)
  (Wa :∀id g n,Gk args id g n->∀row,s.st[id]?=some row->Au row.xs) {F:Nat->Prop} {os:List Own} {a:Act} {w:World} {vs:List Value} (hr:Rel F os s a w) (hl:Ad F w os args vs) :
  Calls P f vs.toArray w λe w'=>∃u r st' F' UQ,e=.returned u/\R r st'/\Rel F os s a w'/\B9 F' UQ st' w'/\AF F' w' UQ r u/\(∀b,F b->F' b)/\Ext F os w F os w' k/\
   (∀(i:Nat) (o:Own),os[i]?=some o->∀b,o.owns b->∀o1:Own,o1∈UQ->¬ o1.owns b)/\∀b,b<w.heap.size->¬ F b->(∀o:Own,o∈os->¬ o.owns b)->∀o1:Own,o1∈UQ->¬ o1.owns b:=by
 have Wy:∀b,F b->Hw F os args b:=λ_ h=>.inl h;have T9:∀(i:Nat) (o:Own) b,os[i]?=some o->o.owns b->b<w.heap.size:=λi o b hi hb=>(hr.rows i o hi).lt hb;have X6:∀b,Hw F os args b->b<w.heap.size:=λb hb=>by
  rcases hb with hb|⟨id,g,n,o,_,ho,Wt⟩
  ·exact hr.CL b hb
  ·exact T9 id o b ho Wt
 have VZ:=NC hr hl Wa;refine (h (Hw F os args) [] w vs (B9.nil X6) (Fi hf [] VZ)).mono ?_;rintro e w' ⟨u,r,st',F',UQ,rfl,hR,hs,hru,he⟩;have T0:∀(i:Nat) (o:Own),os[i]?=some o->∀b,o.owns b->w'.heap[b]?=w.heap[b]?/\∀o1:Own,o1∈UQ->¬ o1.owns b:=λi o ho b hb=>by
  by_cases h1:Hw F os args b
  ·refine⟨he.C8 b h1,λo1 ar e=>?_⟩;obtain⟨j,hj⟩:=R0.1 ar;exact (hs.rows j o1 hj).nF e (he.FP b h1)
  ·obtain⟨f1,_,f3⟩:=he.other b (T9 i o b ho hb) h1 (by simp);exact⟨f1,f3⟩
 have T4:∀x v,AF F w os x v->AF F w' os x v:=λx v h=>A5 (λ_ h=>h) (λb hb=>he.C8 b (Wy b hb)) os os (Bz os) x v h;have VL:Rel F os s a w':=⟨hr.st,λt=>T4 _ _ (hr.env t),hr.size,λi o ho=>by
   have T2:=hr.rows i o ho;refine⟨T2.pos,T2.lens,T2.none,λb hb=>?_,λb hb=>⟨(T2.mo b hb).1,Sd (T2.mo b hb).2.1 he.size,(T2.mo b hb).2.2⟩,T2.deep.keep rfl (λ_ h=>h) rfl (λb hb=>(T0 i o ho b hb).1) (λi x j e s ys hx hc=>⟨x,hx,hc⟩)⟩;obtain⟨e1,cur,e2,e3,e4,e5,e6⟩:=T2.some b hb;exact⟨e1,cur,by rw[(T0 i o ho b (.inl hb)).1];exact e2,e3,e4,e5,λi' x hx j c hc=>by obtain⟨u,f1,f2⟩:=e6 i' x hx j c hc;exact⟨u,f1,T4 _ _ f2⟩⟩,
  hr.inj,λb hb=>Sd (hr.CL b hb) he.size,hr.defers⟩
 have VE:∀b,b<w.heap.size->¬ F b->(∀o:Own,o∈os->¬ o.owns b)->w'.heap[b]?=w.heap[b]?/\∀o1:Own,o1∈UQ->¬ o1.owns b:=λb hb e1 e2=>by
  have Ze:¬ Hw F os args b:=λh=>h.elim e1 (λ⟨id,g,n,o,_,ho,Wt⟩=>e2 o (Rk ho) Wt);obtain⟨f1,_,f3⟩:=he.other b hb Ze (by simp);exact⟨f1,f3⟩
 exact⟨u,r,st',F',UQ,rfl,hR,VL,hs,hru,λb hb=>he.FP b (Wy b hb),
  ⟨he.sys,he.tape,he.output,he.size,λ_ h=>h,λb hb=>he.C8 b (Wy b hb),λb hb e1 e2=>⟨(VE b hb e1 e2).1,e1,e2⟩,λi o _ ho=>⟨o,ho,Rz _,rfl,λ_=>⟨rfl,rfl,rfl⟩⟩⟩,
  λi o ho b hb=>(T0 i o ho b hb).2,λb hb e1 e2=>(VE b hb e1 e2).2⟩
theorem Hz {f:FuncId}{args:List AV}{d:Option Tmp}{K:St->Prop}{R:AV->List Row->Prop}(h:AY P f (args.map (Cr s.st)) [] R)(hf:(args.map (Cr s.st)).all flat=true)
  (Wa :∀id g n,Gk args id g n->∀row,s.st[id]?=some row->Au row.xs)
  (hK :∀r st',R r st'->(Lz r=true/\∀row∈st',∀x∈row.xs,∀c∈x,Er c=true)/\(∀row∈st',Au row.xs)/\K ({ s with st:=s.st++st' }.put d (shift s.st.length r))):callThen P k s f args d K:=by
 intro F os a w vs hr hl;refine (Ls (k:=k) h hf Wa hr hl).mono ?_;rintro e w' ⟨u,r,st',F',UQ,rfl,hR,VL,hs,hru,aJ,he,Um,VE⟩;obtain⟨⟨cn,Zf⟩,hp,hk⟩:=hK r st' hR;refine⟨u,_,s.st++st',F,os++UQ,rfl,hk,VL.join hs aJ hp (.inr Zf) Um,?_,?_⟩
 ·rw[hr.len];exact G9 (KH cn hru)
 ·refine⟨he.sys,he.tape,he.output,he.size,λ_ h=>h,he.C8,λb hb e1 e2=>?_,λi o hi ho=>Bt.append os UQ i o ho⟩;obtain⟨f1,_,_⟩:=he.other b hb e1 e2;exact⟨f1,e1,λo ho=>by rcases SI.1 ho with h|h;exact e2 o h;exact VE b hb e1 e2 o h⟩
end Go.Abs
